import Derived.Test.YtiapkffihpgdcaaGreatDoorQC3
import Derived.Test.YtiapkffihpgdcaaGreatDoorQC4
import Derived.Test.YtiapkffihpgdcaaGreatDoorQC12
import Derived.Test.YtiapkffihpgdcaaGreatDoorQC14
import Derived.Test.YtiapkffihpgdcaaGreatDoorQC21
import Derived.Test.YtiapkffihpgdcaaGreatDoorQC30
import Derived.Lib.ItoaNum
import Derived.Shelf.Strconv.Itoa3
set_option linter.unusedVariables false
set_option linter.unusedSimpArgs false
set_option maxRecDepth 100000
set_option maxHeartbeats 4000000
namespace Go.Proofs.YtiapkffihpgdcaaGreatDoor
theorem wds_word:∀(W:Wd),(∀b ∈ W,b≠32)→wds W=[W]
 | [],_=>rfl
 | b :: W,h=>by
  have hb:b≠32:=h b (by simp)
  have ih:=wds_word W fun x hx=>h x (by simp [hx])
  simp only [wds]
  rw [if_neg hb,ih]
theorem wds_more:∀(W R:Wd),(∀b ∈ W,b≠32)→wds (W ++ 32 :: R)=W :: wds R
 | [],R,_=>by simp [wds]
 | b :: W,R,h=>by
  have hb:b≠32:=h b (by simp)
  have ih:=wds_more W R fun x hx=>h x (by simp [hx])
  simp only [List.cons_append,wds]
  rw [if_neg hb,ih]
theorem gb_left {w v:Wd}{k:Nat}(h:k<w.length):gb (w ++ v) k=gb w k:=by
 unfold gb
 rw [List.getD_eq_getElem?_getD,List.getD_eq_getElem?_getD,List.getElem?_append_left h]
theorem gb_last (w:Wd)(b:UInt8):gb (w ++ [b]) w.length=b:=by simp [gb]
theorem numTo_left {w v:Wd}:∀k,k≤w.length→numTo' (w ++ v) k=numTo' w k
 | 0,_=>rfl
 | k+1,h=>by simp only [numTo'];rw [numTo_left k (by omega),gb_left (by omega)]
theorem digTo_left {w v:Wd}:∀k,k≤w.length→digTo (w ++ v) k=digTo w k
 | 0,_=>rfl
 | k+1,h=>by simp only [digTo];rw [digTo_left k (by omega),gb_left (by omega)]
theorem dig_byte {n:Nat}(h:n<10):(UInt8.ofNat (48+n)).toNat=48+n:=by
 rw [UInt8.toNat_ofNat'];omega
theorem dec_eq (u:Nat):Lib.decDigits u=if u<10 then [UInt8.ofNat (48+u)] else Lib.decDigits (u / 10) ++ [UInt8.ofNat (48+u % 10)]:=by
 rw [Lib.decDigits]
 split <;> rfl
theorem dec_facts (u:Nat):digTo (Lib.decDigits u) (Lib.decDigits u).length=true∧numTo' (Lib.decDigits u) (Lib.decDigits u).length=u∧(∀b ∈ Lib.decDigits u,b≠32)∧1≤(Lib.decDigits u).length∧(1≤u→gb (Lib.decDigits u) 0≠48):=by
 induction u using Nat.strongRecOn with
 | ind u ih =>
  by_cases h:u<10
  ·have e:Lib.decDigits u=[UInt8.ofNat (48+u)]:=by rw [dec_eq,if_pos h]
   have hb:=dig_byte h
   rw [e]
   refine ⟨?_,?_,?_,by simp,fun h1 e2=>?_⟩
   ·simp [digTo,digB,gb,hb];omega
   ·simp [numTo',gb];omega
   ·intro b hb2 e2
    rw [List.mem_singleton] at hb2
    rw [hb2] at e2
    have:=congrArg UInt8.toNat e2
    rw [hb] at this
    have h3:(32:UInt8).toNat=32:=rfl
    omega
   ·have:=congrArg UInt8.toNat e2
    have h3:(48:UInt8).toNat=48:=rfl
    simp [gb] at this
    omega
  ·have hlt:u / 10<u:=by omega
   obtain ⟨i1,i2,i3,i4,i5⟩:=ih (u / 10) hlt
   have e:Lib.decDigits u=Lib.decDigits (u / 10) ++ [UInt8.ofNat (48+u % 10)]:=by rw [dec_eq,if_neg h]
   have hb:=dig_byte (show u % 10<10 by omega)
   rw [e]
   obtain ⟨D,hD⟩:∃D,D=Lib.decDigits (u / 10):=⟨_,rfl⟩
   rw [← hD] at i1 i2 i3 i4 i5 ⊢
   have hl:(D ++ [UInt8.ofNat (48+u % 10)]).length=D.length+1:=by simp
   rw [hl]
   refine ⟨?_,?_,?_,by omega,fun _=>?_⟩
   ·simp only [digTo]
    rw [digTo_left _ (Nat.le_refl _),i1,gb_last]
    simp [digB,hb];omega
   ·simp only [numTo']
    rw [numTo_left _ (Nat.le_refl _),i2,gb_last,hb]
    omega
   ·intro b hb2
    rcases List.mem_append.1 hb2 with hb2 | hb2
    ·exact i3 b hb2
    ·intro e2
     rw [List.mem_singleton] at hb2
     rw [hb2] at e2
     have:=congrArg UInt8.toNat e2
     rw [hb] at this
     have h3:(32:UInt8).toNat=32:=rfl
     omega
   ·rw [gb_left (by omega)];exact i5 (by omega)
theorem dec_len:∀(k u:Nat),u<10 ^ (k+1)→(Lib.decDigits u).length≤k+1
 | 0,u,h=>by rw [dec_eq,if_pos (by omega)];simp
 | k+1,u,h=>by
  rw [dec_eq]
  split
  ·simp
  ·have h2:u / 10<10 ^ (k+1):=by rw [Nat.div_lt_iff_lt_mul (by decide)];rw [Nat.pow_succ] at h;exact h
   have:=dec_len k (u / 10) h2
   simp;omega
theorem dec_num {u:Nat}(h:u≤2000000):numOk (Lib.decDigits u)=true∧numV (Lib.decDigits u)=u∧(Lib.decDigits u).length≤7:=by
 obtain ⟨i1,i2,i3,i4,i5⟩:=dec_facts u
 have hl:=dec_len 6 u (by omega)
 have hf:formB (Lib.decDigits u)=true:=by
  unfold formB
  rw [decide_eq_true_eq]
  refine ⟨i4,hl,?_⟩
  by_cases h1:1≤u
  ·exact .inr (i5 h1)
  ·left
   have:u=0:=by omega
   subst this
   rw [dec_eq,if_pos (by omega)];rfl
 refine ⟨?_,?_,hl⟩
 ·unfold numOk
  rw [hf,i1,i2]
  simp;exact h
 ·unfold numV
  rw [hf,i1,i2];rfl
theorem prs_at {n:Nat}(h:n≤2000000):prs (wAt ++ 32 :: Lib.decDigits n)=some ⟨0,[],[(n:Int)]⟩:=by
 obtain ⟨_,_,i3,_,_⟩:=dec_facts n
 obtain ⟨h1,h2,h3⟩:=dec_num h
 have hw:wds (wAt ++ 32 :: Lib.decDigits n)=[wAt,Lib.decDigits n]:=by
  rw [wds_more _ _ (by decide),wds_word _ i3]
 have hl:(wAt ++ 32 :: Lib.decDigits n).length≤60:=by simp [wAt];omega
 unfold prs
 rw [hw]
 have hf:fmOf (hd [wAt,Lib.decDigits n])=some ⟨0,false,1,false⟩:=by simp [hd,fmOf]
 rw [hf]
 simp only
 rw [if_neg (by omega)]
 simp [rqN,fitB,numsTo,h1,h2]
theorem prs_cancel {a b c:Nat}(ha:a≤2000000)(hb:b≤2000000)(hc:c≤2000000):prs (wCancel ++ 32 :: (Lib.decDigits a ++ 32 :: (Lib.decDigits b ++ 32 :: Lib.decDigits c)))=some ⟨4,[],[(a:Int),b,c]⟩:=by
 obtain ⟨_,_,a3,_,_⟩:=dec_facts a
 obtain ⟨_,_,b3,_,_⟩:=dec_facts b
 obtain ⟨_,_,c3,_,_⟩:=dec_facts c
 obtain ⟨a4,a5,a6⟩:=dec_num ha
 obtain ⟨b4,b5,b6⟩:=dec_num hb
 obtain ⟨c4,c5,c6⟩:=dec_num hc
 have hw:wds (wCancel ++ 32 :: (Lib.decDigits a ++ 32 :: (Lib.decDigits b ++ 32 :: Lib.decDigits c)))=[wCancel,Lib.decDigits a,Lib.decDigits b,Lib.decDigits c]:=by
  rw [wds_more _ _ (by decide),wds_more _ _ a3,wds_more _ _ b3,wds_word _ c3]
 have hl:(wCancel ++ 32 :: (Lib.decDigits a ++ 32 :: (Lib.decDigits b ++ 32 :: Lib.decDigits c))).length≤60:=by simp [wCancel];omega
 unfold prs
 rw [hw]
 have hf:fmOf (hd [wCancel,Lib.decDigits a,Lib.decDigits b,Lib.decDigits c])=some ⟨4,false,3,false⟩:=by
  show fmOf wCancel=_
  unfold fmOf
  rw [if_neg (by decide),if_neg (by decide),if_neg (by decide),if_neg (by decide),if_pos rfl]
 rw [hf]
 simp only
 rw [if_neg (by omega)]
 simp [rqN,fitB,numsTo,a4,a5,b4,b5,c4,c5]
theorem vld_snoc {l:List Fact}{f:Fact}(h:vld l=0)(hl:l.length<60)(hr:rightB f=true)(hs:∀i,i<l.length→(gf l i).at_≤f.at_):vld (l ++ [f])=0:=by
 have hV:=Vld.of h
 have hlen:(l ++ [f]).length=l.length+1:=by simp
 refine Vld.to ⟨by omega,fun i hi=>?_,fun i j hij hj=>?_⟩
 ·rw [hlen] at hi
  by_cases e:i<l.length
  ·rw [gf_old l f e];exact hV.right i e
  ·obtain rfl:i=l.length:=by omega
   rw [gf_new];exact hr
 ·rw [hlen] at hj
  by_cases e:j<l.length
  ·rw [gf_old l f e,gf_old l f (by omega)];exact hV.sorted i j hij e
  ·obtain rfl:j=l.length:=by omega
   rw [gf_new]
   by_cases e2:i<l.length
   ·rw [gf_old l f e2];exact hs i e2
   ·obtain rfl:i=l.length:=by omega
    rw [gf_new];omega
def atW (n:Nat):Wd:=wAt ++ 32 :: Lib.decDigits n
def canW (a b c:Nat):Wd:=wCancel ++ 32 :: (Lib.decDigits a ++ 32 :: (Lib.decDigits b ++ 32 :: Lib.decDigits c))
section
variable {S:Of}(hS:OfOk S){a c d:Nat}(ha:S.now≤a)(ha2:a≤1440000)(ho:S.orders.length+2≤200)
include ha ha2 ho
theorem do_at:doE S (atW a)=0∧doS S (atW a)={ S with now:=(a:Int),orders:=S.orders ++ [atW a] }:=by
 have hp:prs (atW a)=some ⟨0,[],[(a:Int)]⟩:=prs_at (by omega)
 have h1:doE S (atW a)=0:=by
  unfold doE
  rw [hp]
  simp only
  rw [if_neg (by omega)]
  simp only [exE,gi,List.getD_cons_zero,if_true]
  rw [if_neg (by omega),if_neg (by omega)]
 refine ⟨h1,?_⟩
 unfold doS
 rw [if_pos h1,hp]
 simp [exS,gi]
include hS
theorem do_cancel (hk:hasK S.kids c=true)(hc:c≤99)(hd:d<1000)(hf:S.facts.length<60) :
  doE (doS S (atW a)) (canW c d (d+1))=0∧(doS (doS S (atW a)) (canW c d (d+1))).facts=S.facts ++ [⟨a,c,d,d+1,0⟩]∧(doS (doS S (atW a)) (canW c d (d+1))).rights=S.rights∧(doS (doS S (atW a)) (canW c d (d+1))).kids=S.kids ∧
   (doS (doS S (atW a)) (canW c d (d+1))).tm=S.tm∧(doS (doS S (atW a)) (canW c d (d+1))).cy=S.cy:=by
 obtain ⟨_,e1⟩:=do_at ha ha2 ho
 rw [e1]
 have hp:prs (canW c d (d+1))=some ⟨4,[],[(c:Int),d,(d+1:Nat)]⟩:=prs_cancel (by omega) (by omega) (by omega)
 have hch:chgF { S with now:=(a:Int),orders:=S.orders ++ [atW a] } [(c:Int),d,(d+1:Nat)] 0=⟨a,c,d,d+1,0⟩:=by
  unfold chgF gi
  simp
 have hv:vld (S.facts ++ [⟨a,c,d,d+1,0⟩])=0:=vld_snoc hS.fv hf ((right_iff _).2 ⟨by show (0:Int)≤a;omega,by show (a:Int)≤1440000;omega,by show (0:Int)≤c;omega,by show (c:Int)≤99;omega,by show (0:Int)≤d;omega,by show (d:Int)<d+1;omega,by show (d:Int)+1≤1000;omega,by show (0:Int)≤0;decide,by show (0:Int)≤9;decide⟩) (fun i hi=>by have:=hS.fa i hi;show (gf S.facts i).at_≤(a:Int);omega)
 have h1:doE { S with now:=(a:Int),orders:=S.orders ++ [atW a] } (canW c d (d+1))=0:=by
  unfold doE
  rw [hp]
  simp only
  rw [if_neg (by simp;omega)]
  simp only [exE]
  rw [if_neg (by decide),if_neg (by decide),if_neg (by decide),if_neg (by decide),if_pos trivial]
  unfold chgE
  rw [hch]
  rw [if_neg (by simp [gi,hk]),if_neg (by simp)]
  unfold addE
  rw [if_neg (by simp [hS.fv])]
  exact hv
 refine ⟨h1,?_⟩
 unfold doS
 rw [if_pos h1,hp]
 simp only [exS]
 rw [if_neg (by decide),if_neg (by decide),if_neg (by decide),if_neg (by decide),if_pos trivial]
 rw [hch]
 exact ⟨rfl,rfl,rfl,rfl,rfl⟩
/-- What is owed behind the cancelling. -/
theorem due_cancel (hk:hasK S.kids c=true)(hc:c≤99)(hd:d<1000)(hdd:d<S.days)(hod:S.opn d=true)(hf:S.facts.length<60){b:Int}(hb:(a:Int)=d*1440-b)(had:knw S.facts S.now c d=1) :
  dueE (doS (doS S (atW a)) (canW c d (d+1))) c=0 ∧
   dueR (doS (doS S (atW a)) (canW c d (d+1))) c=if freeB S.rights c d=false∧¬ (b<1440∧knw S.facts (d*1440-1440) c d=1) then dueR S c-100 else dueR S c:=by
 obtain ⟨_,e1,e2,e3,e4,e5⟩:=do_cancel hS ha ha2 ho hk hc hd hf
 obtain ⟨S2,hS2⟩:∃S2,S2=doS (doS S (atW a)) (canW c d (d+1)):=⟨_,rfl⟩
 rw [← hS2] at e1 e2 e3 e4 e5 ⊢
 have edays:S2.days=S.days:=by unfold Of.days;rw [e4]
 have eopn:∀k:Nat,S2.opn k=S.opn k:=fun k=>by unfold Of.opn Of.menu Of.days;rw [e4,e5]
 have hch:=dueTo_change S S2 c d eopn hod (fun k hk=>by rw [e1,e2];exact pay_else (by omega) _) S.days
 have w1:=pay_was (c:=c) (d:=d) hS.fa hS.fm S.rights hS.now1 had
 have w2:=pay_is (a:=a) (c:=c) (d:=d) hS.fm S.rights hb (by omega)
 rw [if_pos hdd,e1,e2,w1,w2] at hch
 refine ⟨by unfold dueE;rw [e3,if_pos hk],?_⟩
 unfold dueR
 rw [e3,if_pos hk,if_pos hk,edays,hch]
 cases freeB S.rights c d with
 | true=>simp
 | false =>
  by_cases h:b<1440∧knw S.facts (d*1440-1440) c d=1
  ·simp [h]
  ·simp [h];omega
end
end Go.Proofs.YtiapkffihpgdcaaGreatDoor
namespace Go.Proofs.YtiapkffihpgdcaaGreatDoor
open Go.RowKit Go.MuLone
theorem own_cap {w:World}{base e size n c:Nat}{A:Option Addr}{xs:List Value}(h:w.ownsRow base e size (.slice A n c) n xs):n≤c:=by
 rcases h.2 with ⟨_,h0⟩ | ⟨g,cap,cur,hv,_,_,hle,_⟩
 ·omega
 ·injection hv with _ _ h3;omega
theorem RetL.listC {g size n:Nat}{w:World}{xs:List Value}{Z:Value}{e:Ending}{w':World}
  (h:RetL 0 Z g w (fun v x=>∃A c,v=.slice A n c∧n≤c∧ReadsF (fun k=>w.heap.size≤k) x size A n xs) e w') (hg:g<w.heap.size) :
  ∃A c,e=.returned (.tuple #[.slice A n c,.int .i64 0])∧n≤c∧ReadsF (fun k=>w.heap.size≤k) w' size A n xs∧Below w.heap.size w w':=by
 obtain ⟨v,w2,he,⟨A,c,rfl,hc,hr⟩,hw,_,hb⟩:=h
 rw [if_pos rfl] at he
 subst hw
 exact ⟨A,c,he,hc,hr.kept ⟨by rw [set_size];exact Nat.le_refl _,fun k hk _=>set_other _ _ _ _ (by omega)⟩,hb⟩
section
variable {L:Int}{N:Nat}{w:World}{F:Nat→Prop}{g:Nat}{h:Hd}{s:Of}
theorem cFactsC_any (hP:PO L N w F g h s){b1:Nat}(x1:w.cell? ⟨b1,0,none⟩=some (.pointer (some ⟨g,0,none⟩))) :
  Calls Tryz.prog 76 #[.pointer (some ⟨b1,0,none⟩)] w fun e w'=>∃A c,e=.returned (.tuple #[.slice A s.facts.length c,.int .i64 0])∧s.facts.length≤c∧ReadsF (fun k=>w.heap.size≤k) w' 5 A s.facts.length (cellsF s.facts)∧Below w.heap.size w w':=by
 have q:=hP.cFa
 have HC:=Lib.hid (clone_anyO s.facts (by have:=hP.ok.fl;omega) h.fa.1 h.fa.2 _ w hP.rf)
 go_enter Tryz.func76,Tryz.ntmps76
 go_wp2_with (go_at_call 77;(with_reducible refine HC.out.mono ?_);rintro e w2 ⟨A',c',rfl,own2,hb2⟩)
 go_ret2
 exact ⟨A',c',rfl,own_cap own2,ReadsF.of_own own2 fun k hk=>(World.ownsRow.lt own2 k hk).1,hb2⟩
theorem oFactsC_any (hP:PO 0 N w F g h s) :
  Calls Tryz.prog 24 #[.pointer (some ⟨g,0,none⟩)] w fun e w'=>∃A c,e=.returned (.slice A s.facts.length c)∧s.facts.length≤c∧ReadsF (fun k=>w.heap.size≤k) w' 5 A s.facts.length (cellsF s.facts)∧Below w.heap.size w w':=by
 obtain ⟨w2,hw2⟩:∃w2,w.alloc (.cells #[.pointer (some ⟨g,0,none⟩)] 35)=w2:=⟨_,rfl⟩
 have hb2:Below w.heap.size w w2:=by rw [← hw2];exact (Below.refl _ w).alloc (Nat.le_refl _) _
 have b1:Box w2 w.heap.size #[.pointer (some ⟨g,0,none⟩)]:=by rw [← hw2];exact Box.new w _ _
 have x1:=b1.cell 0
 simp only [gqA,gqB,gqC] at x1
 have hP2:=hP.below hb2
 have hgl:=hP.gl
 have hg2:=hP2.gl
 have hl1:=b1.lt
 have hK:∀args w,(callFunc 76 args).run Tryz.prog w=.ok (.enter 76 args) w:=enters_of Tryz.func76 (by kernel_rfl) rfl
 have hcl:=lockedFa_any hP2 (K:=76) (caps:=#[.pointer (some ⟨w.heap.size,0,none⟩)]) (E:=0) (Q:=fun v x=>∃A c,v=.slice A s.facts.length c∧s.facts.length≤c∧ReadsF (fun k=>w2.heap.size≤k) x 5 A s.facts.length (cellsF s.facts)) hK
  ((cFactsC_any (hP2.lock rfl) ((b1.setg (by omega)).cell 0)).mono fun e w' ⟨A,c,he,hc,hr,hb⟩=>⟨_,he,⟨A,c,rfl,hc,by rw [set_size] at hr;exact hr⟩,by rw [set_size] at hb;exact hb⟩)
 have HC:=Lib.hid (hcl.mono fun e w' hh=>hh.listC hg2)
 clear hcl hK
 go_enter Tryz.func24,Tryz.ntmps24
 go_wp2_with (go_at_call 75;(with_reducible refine HC.out.mono ?_);rintro e w3 ⟨A,c,rfl,hc,hr,hb3⟩)
 go_ret
 exact ⟨A,c,rfl,hc,hr.mono fun k hk=>Nat.le_trans hb2.size hk,hb2.trans (hb3.mono hb2.size)⟩
end
end Go.Proofs.YtiapkffihpgdcaaGreatDoor
namespace Go.Proofs.YtiapkffihpgdcaaGreatDoor
open Go.RowKit Go.Sort
theorem var_belowA {w w':World}{n:String}{cs:Array Value}(h:w.var? Tryz.prog n=some cs)(hb:Below w.heap.size w w'):w'.var? Tryz.prog n=some cs:=by
 unfold World.var? at h ⊢
 cases hg:Tryz.prog.globalNamed n with
 | none=>rw [hg] at h;cases h
 | some g =>
  rw [hg] at h
  simp only [Option.bind_some] at h ⊢
  have hlt:g<w.heap.size:=by
   rcases Nat.lt_or_ge g w.heap.size with h' | h'
   ·exact h'
   ·rw [Array.getElem?_eq_none h'] at h;cases h
  rw [hb.block g hlt]
  exact h
/-- The table of powers lies in memory. -/
def PowA (w:World):Prop:=Lib.TabIs Tryz.prog w "internal/strconv.uint64pow10" .u64 Lib.pow10Tab
theorem PowA.below {w w':World}(h:PowA w)(hb:Below w.heap.size w w'):PowA w':=var_belowA (show w.var? _ _=_ from h) hb
theorem below_growA (B:Nat)(w:World)(q:Nat)(os:Array Obj)(hB:B≤w.heap.size):Below B w (Go.Sort.grow (w.drewN q) os) :=
 ⟨rfl,rfl,rfl,by first | (simp [Go.Sort.grow];done) | (simp [Go.Sort.grow];omega),fun i hi=>by
  show ((w.drewN q).heap ++ os)[i]? = _
  rw [Array.getElem?_append_left (by show i<w.heap.size;omega)]
  rfl⟩
theorem itoaA_any (n:Nat)(hn:n≤2000000){w:World}(hE:PowA w):Calls Tryz.prog 59 #[.int .i64 n] w fun e w'=>e=.returned (St (Lib.decDigits n))∧Below w.heap.size w w':=by
 refine Calls.mono (Any.strconv_Itoa Tryz.litoa n (by omega) (by omega) w hE) ?_
 rintro e w' ⟨rfl,k,os,rfl⟩
 refine ⟨?_,below_growA _ _ _ _ (Nat.le_refl _)⟩
 rw [show Lib.itoa (n:Int)=Lib.decDigits n by unfold Lib.itoa;rw [if_neg (by omega),Int.toNat_natCast]]
section
variable {w0 w:World}{N g x:Nat}{s s':Of}
theorem DN.xnow (hd:DN w0 N g x s s' w):w.cell? ⟨x,10,none⟩=some (.int .i64 s'.now):=by
 obtain ⟨F,F',h,h',hd⟩:=hd
 exact hd.ro.cNow
theorem DN.xord (hd:DN w0 N g x s s' w):w.cell? ⟨x,17,none⟩=some (.int .i64 s'.orders.length):=by
 obtain ⟨F,F',h,h',hd⟩:=hd
 exact hd.ro.cOd
theorem DN.xmn (hd:DN w0 N g x s s' w):∃A c,w.cell? ⟨x,9,none⟩=some (.slice A s'.days c)∧RN w A (mnL s'.tm s'.cy):=by
 obtain ⟨F,F',h,h',hd⟩:=hd
 exact ⟨_,_,hd.ro.cMn,hd.ro.mn.rn⟩
theorem DN.xfa (hd:DN w0 N g x s s' w):∃A c,w.cell? ⟨x,13,none⟩=some (.slice A s'.facts.length c)∧s'.facts.length≤c∧RF w w.heap.size A s'.facts:=by
 obtain ⟨F,F',h,h',hd⟩:=hd
 exact ⟨_,_,hd.ro.cFa,hd.ro.fc,RF.of_readsF hd.ro.fa⟩
theorem DN.xri (hd:DN w0 N g x s s' w):∃A c,w.cell? ⟨x,14,none⟩=some (.slice A s'.rights.length c)∧RSO w A s'.rights:=by
 obtain ⟨F,F',h,h',hd⟩:=hd
 exact ⟨_,_,hd.ro.cRi,hd.ro.ri.1⟩
theorem DN.facts (hd:DN w0 N g x s s' w):Calls Tryz.prog 24 #[.pointer (some ⟨g,0,none⟩)] w fun e w'=>∃A c,e=.returned (.slice A s.facts.length c)∧s.facts.length≤c∧RF w' w'.heap.size A s.facts∧Below w.heap.size w w':=by
 obtain ⟨F,F',h,h',hd⟩:=hd
 refine (oFactsC_any hd.po).mono ?_
 rintro e w' ⟨A,c,he,hc,hr,hb⟩
 exact ⟨A,c,he,hc,RF.of_readsF hr,hb⟩
end
theorem pre_OfficeCancels {f:Fi}{w:World}(hf:f.In w)(hE:EnvA w)(l:List Wd)(A:Option Addr)(c:Nat)(hR:RS w A l)(hll:l.length≤9223372036854775807)(ch dy bf:Int)(h:lrg f.t f.b=true∨(lrg f.t f.b=false∧lng l=true)∨(lrg f.t f.b=false∧lng l=false∧bf<0)∨(lrg f.t f.b=false∧lng l=false∧¬ bf<0∧4000<bf)∨(lrg f.t f.b=false∧lng l=false∧¬ bf<0∧¬ 4000<bf∧f.e≠0)) :
  Calls Tryz.prog 16 #[.agg f.cells,.slice A l.length c,.agg #[.int .i64 ch,.int .i64 dy,.int .i64 bf]] w fun e w'=>e=.returned (.bool true)∧Below w.heap.size w w':=by
 unfold Fi.cells
 obtain ⟨w2,hw2⟩:∃w2,(w.alloc (.cells #[.int .i64 f.t.len,.slice f.A1 f.t.rest.length f.c1,.slice f.A2 f.t.clo.length f.c2,.int .i64 f.c.n,.int .i64 f.c.f,.int .i64 f.c.k,.int .i64 f.b.props,.slice f.B1 f.b.items.length f.d1,.slice f.B2 f.b.rules.length f.d2] 32)).alloc (.cells #[.int .i64 ch,.int .i64 dy,.int .i64 bf] 106)=w2:=⟨_,rfl⟩
 have hy:Below w.heap.size w w2:=by rw [← hw2];exact ((Below.refl _ w).alloc (Nat.le_refl _) _).alloc (by simp) _
 have b0:Box w2 w.heap.size #[.int .i64 f.t.len,.slice f.A1 f.t.rest.length f.c1,.slice f.A2 f.t.clo.length f.c2,.int .i64 f.c.n,.int .i64 f.c.f,.int .i64 f.c.k,.int .i64 f.b.props,.slice f.B1 f.b.items.length f.d1,.slice f.B2 f.b.rules.length f.d2]:=by rw [← hw2];exact (Box.new w _ _).alloc _
 have b1:Box w2 (w.heap.size+1) #[.int .i64 ch,.int .i64 dy,.int .i64 bf]:=by rw [← hw2];exact (Box.new (w.alloc _) _ _).at' (by simp)
 have HL:=Lib.hid (large_any f.t f.c f.b (fun _=>True) f.A1 f.A2 f.B1 f.B2 f.c1 f.c2 f.d1 f.d2 f.hp f.hq f.hr w2 (hf.below hy).bk)
 have HO:=Lib.hid (fun (w':World) (hb:Below w2.heap.size w2 w')=>olong_any l A c w' hll ((hR.below hy).below hb))
 have x0:=b0.cell 0;have x1:=b0.cell 1;have x2:=b0.cell 2;have x3:=b0.cell 3;have x4:=b0.cell 4;have x5:=b0.cell 5;have x6:=b0.cell 6;have x7:=b0.cell 7;have x8:=b0.cell 8;simp only [gqA,gqB,gqC] at x0 x1 x2 x3 x4 x5 x6 x7 x8
 rcases h with h | ⟨h,h'⟩ | ⟨h,h',h1⟩ | ⟨h,h',h1,h2⟩ | ⟨h,h',h1,h2,hz⟩
 ·rw [h] at HL
  go_enter Tryz.func16,Tryz.ntmps16
  go_wp2_with (first | (go_at_call 34;(with_reducible refine HL.out.mono ?_);rintro e w3 ⟨rfl,hb3⟩;have b3:=b0.below hb3;have hy3:=hy.trans (hb3.mono hy.size);have y0:=b3.cell 0;have y1:=b3.cell 1;have y2:=b3.cell 2;have y3:=b3.cell 3;have y4:=b3.cell 4;have y5:=b3.cell 5;have y6:=b3.cell 6;have y7:=b3.cell 7;have y8:=b3.cell 8;simp only [gqA,gqB,gqC] at y0 y1 y2 y3 y4 y5 y6 y7 y8;have e3:=b1.below hb3) | (go_at_call 31;(with_reducible refine (oknown_any (hE.below hy3)).mono ?_);rintro e wk ⟨rfl,hbk⟩))
  go_ret
  exact ⟨rfl,hy3.trans (hbk.mono hy3.size)⟩
 ·rw [h] at HL
  rw [h'] at HO
  go_enter Tryz.func16,Tryz.ntmps16
  go_wp2_with (first | (go_at_call 34;(with_reducible refine HL.out.mono ?_);rintro e w3 ⟨rfl,hb3⟩;have b3:=b0.below hb3;have hy3:=hy.trans (hb3.mono hy.size);have y0:=b3.cell 0;have y1:=b3.cell 1;have y2:=b3.cell 2;have y3:=b3.cell 3;have y4:=b3.cell 4;have y5:=b3.cell 5;have y6:=b3.cell 6;have y7:=b3.cell 7;have y8:=b3.cell 8;simp only [gqA,gqB,gqC] at y0 y1 y2 y3 y4 y5 y6 y7 y8;have e3:=b1.below hb3) | (go_at_call 35;(with_reducible refine (HO.out _ hb3).mono ?_);rintro e w4 ⟨rfl,hb4⟩;have b4:=b3.below hb4;have hy4:=hy3.trans (hb4.mono hy3.size);have z0:=b4.cell 0;have z1:=b4.cell 1;have z2:=b4.cell 2;have z3:=b4.cell 3;have z4:=b4.cell 4;have z5:=b4.cell 5;have z6:=b4.cell 6;have z7:=b4.cell 7;have z8:=b4.cell 8;simp only [gqA,gqB,gqC] at z0 z1 z2 z3 z4 z5 z6 z7 z8;have e4:=e3.below hb4;have k0:=e4.cell 0;have k1:=e4.cell 1;have k2:=e4.cell 2;simp only [gqA,gqB,gqC] at k0 k1 k2) | (go_at_call 31;(with_reducible refine (oknown_any (hE.below hy4)).mono ?_);rintro e wk ⟨rfl,hbk⟩))
  go_ret
  exact ⟨rfl,hy4.trans (hbk.mono hy4.size)⟩
 ·rw [h] at HL
  rw [h'] at HO
  have i1:decide (bf<0)=true:=decide_eq_true h1
  go_enter Tryz.func16,Tryz.ntmps16
  go_wp2_with (first | (go_at_call 34;(with_reducible refine HL.out.mono ?_);rintro e w3 ⟨rfl,hb3⟩;have b3:=b0.below hb3;have hy3:=hy.trans (hb3.mono hy.size);have y0:=b3.cell 0;have y1:=b3.cell 1;have y2:=b3.cell 2;have y3:=b3.cell 3;have y4:=b3.cell 4;have y5:=b3.cell 5;have y6:=b3.cell 6;have y7:=b3.cell 7;have y8:=b3.cell 8;simp only [gqA,gqB,gqC] at y0 y1 y2 y3 y4 y5 y6 y7 y8;have e3:=b1.below hb3) | (go_at_call 35;(with_reducible refine (HO.out _ hb3).mono ?_);rintro e w4 ⟨rfl,hb4⟩;have b4:=b3.below hb4;have hy4:=hy3.trans (hb4.mono hy3.size);have z0:=b4.cell 0;have z1:=b4.cell 1;have z2:=b4.cell 2;have z3:=b4.cell 3;have z4:=b4.cell 4;have z5:=b4.cell 5;have z6:=b4.cell 6;have z7:=b4.cell 7;have z8:=b4.cell 8;simp only [gqA,gqB,gqC] at z0 z1 z2 z3 z4 z5 z6 z7 z8;have e4:=e3.below hb4;have k0:=e4.cell 0;have k1:=e4.cell 1;have k2:=e4.cell 2;simp only [gqA,gqB,gqC] at k0 k1 k2) | (go_at_call 31;(with_reducible refine (oknown_any (hE.below hy4)).mono ?_);rintro e wk ⟨rfl,hbk⟩))
  go_ret
  exact ⟨rfl,hy4.trans (hbk.mono hy4.size)⟩
 ·rw [h] at HL
  rw [h'] at HO
  have i1:decide (bf<0)=false:=decide_eq_false h1
  have i2:decide (4000<bf)=true:=decide_eq_true h2
  go_enter Tryz.func16,Tryz.ntmps16
  go_wp2_with (first | (go_at_call 34;(with_reducible refine HL.out.mono ?_);rintro e w3 ⟨rfl,hb3⟩;have b3:=b0.below hb3;have hy3:=hy.trans (hb3.mono hy.size);have y0:=b3.cell 0;have y1:=b3.cell 1;have y2:=b3.cell 2;have y3:=b3.cell 3;have y4:=b3.cell 4;have y5:=b3.cell 5;have y6:=b3.cell 6;have y7:=b3.cell 7;have y8:=b3.cell 8;simp only [gqA,gqB,gqC] at y0 y1 y2 y3 y4 y5 y6 y7 y8;have e3:=b1.below hb3) | (go_at_call 35;(with_reducible refine (HO.out _ hb3).mono ?_);rintro e w4 ⟨rfl,hb4⟩;have b4:=b3.below hb4;have hy4:=hy3.trans (hb4.mono hy3.size);have z0:=b4.cell 0;have z1:=b4.cell 1;have z2:=b4.cell 2;have z3:=b4.cell 3;have z4:=b4.cell 4;have z5:=b4.cell 5;have z6:=b4.cell 6;have z7:=b4.cell 7;have z8:=b4.cell 8;simp only [gqA,gqB,gqC] at z0 z1 z2 z3 z4 z5 z6 z7 z8;have e4:=e3.below hb4;have k0:=e4.cell 0;have k1:=e4.cell 1;have k2:=e4.cell 2;simp only [gqA,gqB,gqC] at k0 k1 k2) | (go_at_call 31;(with_reducible refine (oknown_any (hE.below hy4)).mono ?_);rintro e wk ⟨rfl,hbk⟩))
  go_ret
  exact ⟨rfl,hy4.trans (hbk.mono hy4.size)⟩
 ·rw [h] at HL
  rw [h'] at HO
  have i1:decide (bf<0)=false:=decide_eq_false h1
  have i2:decide (4000<bf)=false:=decide_eq_false h2
  have hlen:=lrg_len h
  have HB:=Lib.hid (fun (w':World) (hb:Below w.heap.size w w')=>begin_bad (hf.below hb) hlen (hE.below hb) hz)
  have HF:=Lib.hid (fun (w':World) (hb:Below w.heap.size w w')=>failed_any (hf.below hb) hlen (hE.below hb) hz)
  unfold Fi.cells at HB HF
  clear hz h h' h1 h2
  go_enter Tryz.func16,Tryz.ntmps16
  go_wp2_with (first
   | (go_at_call 34;(with_reducible refine HL.out.mono ?_);rintro e w3 ⟨rfl,hb3⟩;have b3:=b0.below hb3;have hy3:=hy.trans (hb3.mono hy.size);have y0:=b3.cell 0;have y1:=b3.cell 1;have y2:=b3.cell 2;have y3:=b3.cell 3;have y4:=b3.cell 4;have y5:=b3.cell 5;have y6:=b3.cell 6;have y7:=b3.cell 7;have y8:=b3.cell 8;simp only [gqA,gqB,gqC] at y0 y1 y2 y3 y4 y5 y6 y7 y8;have e3:=b1.below hb3)
   | (go_at_call 35;(with_reducible refine (HO.out _ hb3).mono ?_);rintro e w4 ⟨rfl,hb4⟩;have b4:=b3.below hb4;have hy4:=hy3.trans (hb4.mono hy3.size);have z0:=b4.cell 0;have z1:=b4.cell 1;have z2:=b4.cell 2;have z3:=b4.cell 3;have z4:=b4.cell 4;have z5:=b4.cell 5;have z6:=b4.cell 6;have z7:=b4.cell 7;have z8:=b4.cell 8;simp only [gqA,gqB,gqC] at z0 z1 z2 z3 z4 z5 z6 z7 z8;have e4:=e3.below hb4;have k0:=e4.cell 0;have k1:=e4.cell 1;have k2:=e4.cell 2;simp only [gqA,gqB,gqC] at k0 k1 k2)
   | (go_at_call 36;(with_reducible refine (HB.out _ hy4).mono ?_);rintro e w5 ⟨rfl,hb5⟩;have b5:=b4.below hb5;have hy5:=hy4.trans (hb5.mono hy4.size);have v0:=b5.cell 0;have v1:=b5.cell 1;have v2:=b5.cell 2;have v3:=b5.cell 3;have v4:=b5.cell 4;have v5:=b5.cell 5;have v6:=b5.cell 6;have v7:=b5.cell 7;have v8:=b5.cell 8;simp only [gqA,gqB,gqC] at v0 v1 v2 v3 v4 v5 v6 v7 v8)
   | (go_at_call 37;(with_reducible refine (HF.out _ hy5).mono ?_);rintro e w6 ⟨rfl,hb6⟩))
  go_ret
  exact ⟨rfl,hy5.trans (hb6.mono hy5.size)⟩
theorem out_OfficeCancels {f:Fi}{w:World}(hf:f.In w)(hE:EnvA w)(l:List Wd)(A:Option Addr)(c:Nat)(hR:RS w A l)(hll:l.length≤9223372036854775807)(ch dy bf:Int)(h:lrg f.t f.b=false)(h':lng l=false)(hz:f.e=0)(hbf:0≤bf∧bf≤4000){S:Of}(hS:S=runTo f.s0 l (min l.length 30))(hx:dy<0∨(S.days:Int)≤dy) :
  Calls Tryz.prog 16 #[.agg f.cells,.slice A l.length c,.agg #[.int .i64 ch,.int .i64 dy,.int .i64 bf]] w fun e w'=>e=.returned (.bool true)∧Below w.heap.size w w':=by
 unfold Fi.cells
 obtain ⟨w2,hw2⟩:∃w2,(w.alloc (.cells #[.int .i64 f.t.len,.slice f.A1 f.t.rest.length f.c1,.slice f.A2 f.t.clo.length f.c2,.int .i64 f.c.n,.int .i64 f.c.f,.int .i64 f.c.k,.int .i64 f.b.props,.slice f.B1 f.b.items.length f.d1,.slice f.B2 f.b.rules.length f.d2] 32)).alloc (.cells #[.int .i64 ch,.int .i64 dy,.int .i64 bf] 106)=w2:=⟨_,rfl⟩
 have hy:Below w.heap.size w w2:=by rw [← hw2];exact ((Below.refl _ w).alloc (Nat.le_refl _) _).alloc (by simp) _
 have b0:Box w2 w.heap.size #[.int .i64 f.t.len,.slice f.A1 f.t.rest.length f.c1,.slice f.A2 f.t.clo.length f.c2,.int .i64 f.c.n,.int .i64 f.c.f,.int .i64 f.c.k,.int .i64 f.b.props,.slice f.B1 f.b.items.length f.d1,.slice f.B2 f.b.rules.length f.d2]:=by rw [← hw2];exact (Box.new w _ _).alloc _
 have b1:Box w2 (w.heap.size+1) #[.int .i64 ch,.int .i64 dy,.int .i64 bf]:=by rw [← hw2];exact (Box.new (w.alloc _) _ _).at' (by simp)
 have HL:=Lib.hid (large_any f.t f.c f.b (fun _=>True) f.A1 f.A2 f.B1 f.B2 f.c1 f.c2 f.d1 f.d2 f.hp f.hq f.hr w2 (hf.below hy).bk)
 have HO:=Lib.hid (fun (w':World) (hb:Below w2.heap.size w2 w')=>olong_any l A c w' hll ((hR.below hy).below hb))
 have x0:=b0.cell 0;have x1:=b0.cell 1;have x2:=b0.cell 2;have x3:=b0.cell 3;have x4:=b0.cell 4;have x5:=b0.cell 5;have x6:=b0.cell 6;have x7:=b0.cell 7;have x8:=b0.cell 8;simp only [gqA,gqB,gqC] at x0 x1 x2 x3 x4 x5 x6 x7 x8
 rw [h] at HL
 rw [h'] at HO
 have hlen:=lrg_len h
 have htlen:=lrg_tlen h hz
 have hng:=h'
 have HB:=Lib.hid (fun (w':World) (hb:Below w.heap.size w w')=>begin_ok (hf.below hb) hlen (hE.below hb) hz)
 have HX:=Lib.hid (fun (w':World) (hb:Below w.heap.size w w')=>both_ok9 (hf.below hb) hlen (hE.below hb) hz l A c (hR.below hb) hng)
 unfold Fi.cells at HB HX
 rw [← hS] at HX
 have i1:decide (bf<0)=false:=by rw [decide_eq_false_iff_not];omega
 have i2:decide (4000<bf)=false:=by rw [decide_eq_false_iff_not];omega
 clear hz h h' hS hng hbf
 go_enter Tryz.func16,Tryz.ntmps16
 go_wp2_with (first
  | (go_at_call 34;(with_reducible refine HL.out.mono ?_);rintro e w3 ⟨rfl,hb3⟩;have b3:=b0.below hb3;have hy3:=hy.trans (hb3.mono hy.size);have y0:=b3.cell 0;have y1:=b3.cell 1;have y2:=b3.cell 2;have y3:=b3.cell 3;have y4:=b3.cell 4;have y5:=b3.cell 5;have y6:=b3.cell 6;have y7:=b3.cell 7;have y8:=b3.cell 8;simp only [gqA,gqB,gqC] at y0 y1 y2 y3 y4 y5 y6 y7 y8;have e3:=b1.below hb3)
  | (go_at_call 35;(with_reducible refine (HO.out _ hb3).mono ?_);rintro e w4 ⟨rfl,hb4⟩;have b4:=b3.below hb4;have hy4:=hy3.trans (hb4.mono hy3.size);have z0:=b4.cell 0;have z1:=b4.cell 1;have z2:=b4.cell 2;have z3:=b4.cell 3;have z4:=b4.cell 4;have z5:=b4.cell 5;have z6:=b4.cell 6;have z7:=b4.cell 7;have z8:=b4.cell 8;simp only [gqA,gqB,gqC] at z0 z1 z2 z3 z4 z5 z6 z7 z8;have e4:=e3.below hb4;have k0:=e4.cell 0;have k1:=e4.cell 1;have k2:=e4.cell 2;simp only [gqA,gqB,gqC] at k0 k1 k2)
  | (go_at_call 36;(with_reducible refine (HB.out _ hy4).mono ?_);rintro e w5 ⟨g,x,rfl,hd⟩;have b5:=b4.below hd.bel;have hy5:=hy4.trans (hd.bel.mono hy4.size);have e5:=e4.below hd.bel;have v0:=b5.cell 0;have v1:=b5.cell 1;have v2:=b5.cell 2;have v3:=b5.cell 3;have v4:=b5.cell 4;have v5:=b5.cell 5;have v6:=b5.cell 6;have v7:=b5.cell 7;have v8:=b5.cell 8;simp only [gqA,gqB,gqC] at v0 v1 v2 v3 v4 v5 v6 v7 v8)
  | (go_at_call 38;(with_reducible refine (HX.out _ hy5).mono ?_);rintro e w6 ⟨gg,xx,rfl,hd6⟩;have hy6:=hy5.trans (hd6.bel.mono hy5.size);have e6:=e5.below hd6.bel;have p0:=e6.cell 0;have p1:=e6.cell 1;have p2:=e6.cell 2;simp only [gqA,gqB,gqC] at p0 p1 p2))
 clear x0 x1 x2 x3 x4 x5 x6 x7 x8 y0 y1 y2 y3 y4 y5 y6 y7 y8 z0 z1 z2 z3 z4 z5 z6 z7 z8 v0 v1 v2 v3 v4 v5 v6 v7 v8 k0 k1 k2 HL HO HB HX hw2
 have xn:=hd6.xnow
 have xo:=hd6.xord
 obtain ⟨MA,Mc,xm,rM⟩:=hd6.xmn
 obtain ⟨FA,Fc,xf,hfc,rF⟩:=hd6.xfa
 by_cases h1:dy<0
 ·have g1:decide (dy<0)=true:=decide_eq_true h1
  have r_p1:=cell_regrown p1;have r_xm:=cell_regrown xm;have r_xn:=cell_regrown xn;have r_xf:=cell_regrown xf;have r_xo:=cell_regrown xo
  clear p1 xm xn xf xo
  refine wp_region_quiet_below (by kernel_rfl) (by kernel_rfl) ?_
  repeat (go_big_quiet_step (fail))
  refine wpQuiet_nil ?_
  intro _ hw'
  obtain ⟨⟨dq,osq⟩,hw''⟩:=hw'
  subst hw''
  have hyq:=hy6.trans ((below_regrown w6 dq osq).mono hy6.size)
  go_wp2_with (go_at_call 31;(with_reducible refine (oknown_any (hE.below hyq)).mono ?_);rintro e wk ⟨rfl,hbk⟩)
  go_ret
  exact ⟨rfl,hyq.trans (hbk.mono hyq.size)⟩
 ·have g1:decide (dy<0)=false:=decide_eq_false h1
  have g2:decide ((S.days:Int)≤dy)=true:=decide_eq_true (by omega)
  have r_p1:=cell_regrown p1;have r_xm:=cell_regrown xm;have r_xn:=cell_regrown xn;have r_xf:=cell_regrown xf;have r_xo:=cell_regrown xo
  clear p1 xm xn xf xo
  refine wp_region_quiet_below (by kernel_rfl) (by kernel_rfl) ?_
  repeat (go_big_quiet_step (fail))
  refine wpQuiet_nil ?_
  intro _ hw'
  obtain ⟨⟨dq,osq⟩,hw''⟩:=hw'
  subst hw''
  have hyq:=hy6.trans ((below_regrown w6 dq osq).mono hy6.size)
  go_wp2_with (go_at_call 31;(with_reducible refine (oknown_any (hE.below hyq)).mono ?_);rintro e wk ⟨rfl,hbk⟩)
  go_ret
  exact ⟨rfl,hyq.trans (hbk.mono hyq.size)⟩
end Go.Proofs.YtiapkffihpgdcaaGreatDoor
namespace Go.Proofs.YtiapkffihpgdcaaGreatDoor
open Go.RowKit
/-- The texts of the two orders,as the law joins them. -/
structure CanT (w:World) (a0 c0 d:Nat) (DA DC DD DE TA TC C1 C2 C3 C4:Wd):Prop where
 tA:TA=atW a0
 tC:TC=canW c0 d (d+1)
 kA:(⟨#[97,116,32]⟩:ByteArray) ++ ⟨DA.toArray⟩=⟨TA.toArray⟩
 kB:(⟨#[99,97,110,99,101,108,32]⟩:ByteArray) ++ ⟨DC.toArray⟩=⟨C1.toArray⟩
 kC:(⟨C1.toArray⟩:ByteArray) ++ ⟨#[32]⟩=⟨C2.toArray⟩
 kD:(⟨C2.toArray⟩:ByteArray) ++ ⟨DD.toArray⟩=⟨C3.toArray⟩
 kE:(⟨C3.toArray⟩:ByteArray) ++ ⟨#[32]⟩=⟨C4.toArray⟩
 kF:(⟨C4.toArray⟩:ByteArray) ++ ⟨DE.toArray⟩=⟨TC.toArray⟩
 uA:¬ 9223372036854775807<3+DA.length
 uB:¬ 9223372036854775807<7+DC.length
 uC:¬ 9223372036854775807<C1.length+1
 uD:¬ 9223372036854775807<C2.length+DD.length
 uE:¬ 9223372036854775807<C3.length+1
 uF:¬ 9223372036854775807<C4.length+DE.length
 lA:TA.length≤1000000000
 lC:TC.length≤1000000000
 iA:∀w',Below w.heap.size w w'→Calls Tryz.prog 59 #[.int .i64 a0] w' fun e w''=>e=.returned (St DA)∧Below w'.heap.size w' w''
 iC:∀w',Below w.heap.size w w'→Calls Tryz.prog 59 #[.int .i64 c0] w' fun e w''=>e=.returned (St DC)∧Below w'.heap.size w' w''
 iD:∀w',Below w.heap.size w w'→Calls Tryz.prog 59 #[.int .i64 d] w' fun e w''=>e=.returned (St DD)∧Below w'.heap.size w' w''
 iE:∀w',Below w.heap.size w w'→Calls Tryz.prog 59 #[.int .i64 ((d:Int)+1)] w' fun e w''=>e=.returned (St DE)∧Below w'.heap.size w' w''
theorem can_texts {w:World}(hPw:PowA w){a0 c0 d:Nat}(h1:a0≤1440000)(h2:c0≤99)(h3:d<1000):∃DA DC DD DE TA TC C1 C2 C3 C4:Wd,CanT w a0 c0 d DA DC DD DE TA TC C1 C2 C3 C4:=by
 have ln1:a0≤2000000:=by omega
 have ln2:c0≤2000000:=by omega
 have ln3:d≤2000000:=by omega
 have ln4:d+1≤2000000:=by omega
 have lA:=(dec_num ln1).2.2
 have lC:=(dec_num ln2).2.2
 have lD:=(dec_num ln3).2.2
 have lE:=(dec_num ln4).2.2
 have hI:=fun (n:Nat) (hn:n≤2000000) (w':World) (hb:Below w.heap.size w w')=>itoaA_any n hn (hPw.below hb)
 have hIe:=hI (d+1) ln4
 rw [show ((d+1:Nat):Int)=(d:Int)+1 by simp] at hIe
 refine ⟨Lib.decDigits a0,Lib.decDigits c0,Lib.decDigits d,Lib.decDigits (d+1),atW a0,canW c0 d (d+1),[99,97,110,99,101,108,32] ++ Lib.decDigits c0,([99,97,110,99,101,108,32] ++ Lib.decDigits c0) ++ [32],(([99,97,110,99,101,108,32] ++ Lib.decDigits c0) ++ [32]) ++ Lib.decDigits d,((([99,97,110,99,101,108,32] ++ Lib.decDigits c0) ++ [32]) ++ Lib.decDigits d) ++ [32],
  rfl,rfl,st_app [97,116,32] _,st_app _ _,st_app _ [32],st_app _ _,st_app _ [32],?_,?_,?_,?_,?_,?_,?_,?_,?_,hI a0 ln1,hI c0 ln2,hI d ln3,hIe⟩
 ·rw [st_app];simp [canW,wCancel]
 ·omega
 ·omega
 ·simp;omega
 ·simp;omega
 ·simp;omega
 ·simp;omega
 ·unfold atW;simp [wAt];omega
 ·unfold canW;simp [wCancel];omega
theorem DN.into {w0 w:World}{N g x:Nat}{s s':Of}(hd:DN w0 N g x s s' w)(hN:N<1000000000)(txt:Wd)(ht:txt.length≤1000000000){S2:Of}(he:doE s txt=0)(hs:doS s txt=S2) :
  Calls Tryz.prog 25 #[.pointer (some ⟨g,0,none⟩),St txt] w fun e w'=>e=.returned (.int .i64 0)∧DN w0 (N+1) g x S2 s' w':=by
 have h:=hd.do_ hN txt ht
 rw [he,hs] at h
 exact h
structure CanS (S S1 S2:Of) (q c0 d:Nat) (bf:Int) (TA TC:Wd) (DR D2 KK:Int):Prop where
 n1:q<1000000000
 n2:q+1<1000000000
 z1:doE S TA=0
 s1:doS S TA=S1
 z2:doE S1 TC=0
 s2:doS S1 TC=S2
 cc:(c0:Int)=max 0 (min (c0:Int) 99)
 ask:askE S.facts c0 d=0
 kr:knownR S.facts S.now c0 d=1
 kk:knownR S.facts ((d:Int)*1440-1440) c0 d=KK
 e0:dueE S c0=0
 r0:dueR S c0=DR
 e2:dueE S2 c0=0
 r2:dueR S2 c0=D2
 v:D2=if freeB S.rights c0 d=false∧¬ (bf<1440∧KK=1) then DR-100 else DR
 b1:RowKit.wrap64 (DR-100)=DR-100
 b2:IntKind.i64.wrap (DR-100)=DR-100
 m5:RowKit.wrap64 ((d:Int)+1)=(d:Int)+1
 m6:IntKind.i64.wrap ((d:Int)+1)=(d:Int)+1
 w1:RowKit.wrap64 ((d:Int)*1440-1440)=(d:Int)*1440-1440
 w2:IntKind.i64.wrap ((d:Int)*1440-1440)=(d:Int)*1440-1440
 w3:RowKit.wrap64 ((d:Int)*1440)=(d:Int)*1440
 w4:IntKind.i64.wrap ((d:Int)*1440)=(d:Int)*1440
 rl:S.rights.length≤60
theorem can_s {S:Of}(hS:OfOk S){q:Nat}(hq:q≤30){a0 c0 d:Nat}{bf:Int}(hb:0≤bf)(hat:(a0:Int)=d*1440-bf)(ha:S.now≤a0)(ha2:a0≤1440000)(ho:S.orders.length+2≤200)(hk:hasK S.kids c0=true)(hc:c0≤99)(hd:d<1000)(hdd:d<S.days)(hmn:0≤S.menu d)(hf:S.facts.length<60)(hkr:knownR S.facts S.now c0 d=1){TA TC:Wd}(hA:TA=atW a0)(hC:TC=canW c0 d (d+1)) :
  ∃S1 S2 DR D2 KK,CanS S S1 S2 q c0 d bf TA TC DR D2 KK:=by
 subst hA hC
 have hkn:knw S.facts S.now c0 d=1:=(knownR_bd _ _ _ _ hkr).1
 have hask:askE S.facts c0 d=0:=askE_of hS.fv (by omega) (by omega) (by omega) (by omega)
 have hod:S.opn d=true:=by unfold Of.opn;rw [decide_eq_true_eq];exact ⟨by omega,by omega,by rw [Int.toNat_natCast];exact hmn⟩
 obtain ⟨e1,e2⟩:=due_cancel hS ha ha2 ho hk hc hd hdd hod hf hat hkn
 have hDb:0≤dueR S c0∧dueR S c0≤10000000:=by
  unfold dueR
  rw [if_pos hk]
  have h1:=dueTo_bd hS c0 S.days
  have h2:=days_le hS.tm
  have h3:(S.days:Int)≤1000:=by have:S.days=S.tm.len.toNat:=rfl;omega
  omega
 have hkk:knownR S.facts ((d:Int)*1440-1440) c0 d=knw S.facts ((d:Int)*1440-1440) c0 d:=by unfold knownR;rw [if_pos hask]
 exact ⟨_,_,_,_,_,by omega,by omega,(do_at ha ha2 ho).1,rfl,(do_cancel hS ha ha2 ho hk hc hd hf).1,rfl,by omega,hask,hkr,hkk,by unfold dueE;rw [if_pos hk],rfl,e1,rfl,e2,IntWalk.wrap64_in _ (by omega),IntWalk.i64_in _ (by omega),IntWalk.wrap64_in _ (by omega),IntWalk.i64_in _ (by omega),IntWalk.wrap64_in _ (by omega),IntWalk.i64_in _ (by omega),IntWalk.wrap64_in _ (by omega),IntWalk.i64_in _ (by omega),hS.rl⟩
end Go.Proofs.YtiapkffihpgdcaaGreatDoor
namespace Go.Proofs.YtiapkffihpgdcaaGreatDoor
open Go.RowKit Go.Sort
theorem early_OfficeCancels {f:Fi}{w:World}(hf:f.In w)(hE:EnvA w)(l:List Wd)(A:Option Addr)(c:Nat)(hR:RS w A l)(hll:l.length≤9223372036854775807)(ch bf:Int)(d:Nat)(h:lrg f.t f.b=false)(h':lng l=false)(hz:f.e=0)(hbf:0≤bf∧bf≤4000){S:Of}(hS:S=runTo f.s0 l (min l.length 30))(hdd:d<S.days)(hd9:d<1000)(at0:Int)(hat:at0=d*1440-bf)(hx:S.menu d<0∨at0<S.now∨1440000<at0∨60≤S.facts.length∨200<S.orders.length+2) :
  Calls Tryz.prog 16 #[.agg f.cells,.slice A l.length c,.agg #[.int .i64 ch,.int .i64 d,.int .i64 bf]] w fun e w'=>e=.returned (.bool true)∧Below w.heap.size w w':=by
 unfold Fi.cells
 obtain ⟨w2,hw2⟩:∃w2,(w.alloc (.cells #[.int .i64 f.t.len,.slice f.A1 f.t.rest.length f.c1,.slice f.A2 f.t.clo.length f.c2,.int .i64 f.c.n,.int .i64 f.c.f,.int .i64 f.c.k,.int .i64 f.b.props,.slice f.B1 f.b.items.length f.d1,.slice f.B2 f.b.rules.length f.d2] 32)).alloc (.cells #[.int .i64 ch,.int .i64 d,.int .i64 bf] 106)=w2:=⟨_,rfl⟩
 have hy:Below w.heap.size w w2:=by rw [← hw2];exact ((Below.refl _ w).alloc (Nat.le_refl _) _).alloc (by simp) _
 have b0:Box w2 w.heap.size #[.int .i64 f.t.len,.slice f.A1 f.t.rest.length f.c1,.slice f.A2 f.t.clo.length f.c2,.int .i64 f.c.n,.int .i64 f.c.f,.int .i64 f.c.k,.int .i64 f.b.props,.slice f.B1 f.b.items.length f.d1,.slice f.B2 f.b.rules.length f.d2]:=by rw [← hw2];exact (Box.new w _ _).alloc _
 have b1:Box w2 (w.heap.size+1) #[.int .i64 ch,.int .i64 d,.int .i64 bf]:=by rw [← hw2];exact (Box.new (w.alloc _) _ _).at' (by simp)
 have HL:=Lib.hid (large_any f.t f.c f.b (fun _=>True) f.A1 f.A2 f.B1 f.B2 f.c1 f.c2 f.d1 f.d2 f.hp f.hq f.hr w2 (hf.below hy).bk)
 have HO:=Lib.hid (fun (w':World) (hb:Below w2.heap.size w2 w')=>olong_any l A c w' hll ((hR.below hy).below hb))
 have x0:=b0.cell 0;have x1:=b0.cell 1;have x2:=b0.cell 2;have x3:=b0.cell 3;have x4:=b0.cell 4;have x5:=b0.cell 5;have x6:=b0.cell 6;have x7:=b0.cell 7;have x8:=b0.cell 8;simp only [gqA,gqB,gqC] at x0 x1 x2 x3 x4 x5 x6 x7 x8
 rw [h] at HL
 rw [h'] at HO
 have hlen:=lrg_len h
 have htlen:=lrg_tlen h hz
 have hng:=h'
 have HB:=Lib.hid (fun (w':World) (hb:Below w.heap.size w w')=>begin_ok (hf.below hb) hlen (hE.below hb) hz)
 have HX:=Lib.hid (fun (w':World) (hb:Below w.heap.size w w')=>both_ok9 (hf.below hb) hlen (hE.below hb) hz l A c (hR.below hb) hng)
 unfold Fi.cells at HB HX
 rw [← hS] at HX
 have i1:decide (bf<0)=false:=by rw [decide_eq_false_iff_not];omega
 have i2:decide (4000<bf)=false:=by rw [decide_eq_false_iff_not];omega
 have m1:RowKit.wrap64 ((d:Int)*1440)=(d:Int)*1440:=IntWalk.wrap64_in _ (by omega)
 have m2:RowKit.wrap64 ((d:Int)*1440-bf)=at0:=by rw [hat];exact IntWalk.wrap64_in _ (by omega)
 have j1:¬ ((d:Int)<0):=by omega
 have j2:¬ ((S.days:Int)≤(d:Int)):=by omega
 have j2n:¬ (S.days≤d):=by omega
 have hol:S.orders.length≤200:=by rw [hS];exact (runS_ok _ _ (OfOk.new hz)).ol
 have g7:RowKit.wrap64 ((S.orders.length:Int)+2)=(S.orders.length:Int)+2:=IntWalk.wrap64_in _ (by omega)
 have g1:decide ((d:Int)<0)=false:=decide_eq_false j1
 have g2:decide ((S.days:Int)≤(d:Int))=false:=decide_eq_false j2
 have g2n:decide (S.days≤d)=false:=decide_eq_false j2n
 have HAT:=Lib.hid hat
 clear hat j1 j2 j2n hol
 clear hz h h' hS hng hbf
 go_enter Tryz.func16,Tryz.ntmps16
 go_wp2_with (first
  | (go_at_call 34;(with_reducible refine HL.out.mono ?_);rintro e w3 ⟨rfl,hb3⟩;have b3:=b0.below hb3;have hy3:=hy.trans (hb3.mono hy.size);have y0:=b3.cell 0;have y1:=b3.cell 1;have y2:=b3.cell 2;have y3:=b3.cell 3;have y4:=b3.cell 4;have y5:=b3.cell 5;have y6:=b3.cell 6;have y7:=b3.cell 7;have y8:=b3.cell 8;simp only [gqA,gqB,gqC] at y0 y1 y2 y3 y4 y5 y6 y7 y8;have e3:=b1.below hb3)
  | (go_at_call 35;(with_reducible refine (HO.out _ hb3).mono ?_);rintro e w4 ⟨rfl,hb4⟩;have b4:=b3.below hb4;have hy4:=hy3.trans (hb4.mono hy3.size);have z0:=b4.cell 0;have z1:=b4.cell 1;have z2:=b4.cell 2;have z3:=b4.cell 3;have z4:=b4.cell 4;have z5:=b4.cell 5;have z6:=b4.cell 6;have z7:=b4.cell 7;have z8:=b4.cell 8;simp only [gqA,gqB,gqC] at z0 z1 z2 z3 z4 z5 z6 z7 z8;have e4:=e3.below hb4;have k0:=e4.cell 0;have k1:=e4.cell 1;have k2:=e4.cell 2;simp only [gqA,gqB,gqC] at k0 k1 k2)
  | (go_at_call 36;(with_reducible refine (HB.out _ hy4).mono ?_);rintro e w5 ⟨g,x,rfl,hd⟩;have b5:=b4.below hd.bel;have hy5:=hy4.trans (hd.bel.mono hy4.size);have e5:=e4.below hd.bel;have v0:=b5.cell 0;have v1:=b5.cell 1;have v2:=b5.cell 2;have v3:=b5.cell 3;have v4:=b5.cell 4;have v5:=b5.cell 5;have v6:=b5.cell 6;have v7:=b5.cell 7;have v8:=b5.cell 8;simp only [gqA,gqB,gqC] at v0 v1 v2 v3 v4 v5 v6 v7 v8)
  | (go_at_call 38;(with_reducible refine (HX.out _ hy5).mono ?_);rintro e w6 ⟨gg,xx,rfl,hd6⟩;have hy6:=hy5.trans (hd6.bel.mono hy5.size);have e6:=e5.below hd6.bel;have p0:=e6.cell 0;have p1:=e6.cell 1;have p2:=e6.cell 2;simp only [gqA,gqB,gqC] at p0 p1 p2))
 rw [m2]
 clear x0 x1 x2 x3 x4 x5 x6 x7 x8 y0 y1 y2 y3 y4 y5 y6 y7 y8 z0 z1 z2 z3 z4 z5 z6 z7 z8 v0 v1 v2 v3 v4 v5 v6 v7 v8 k0 k1 k2 HL HO HB HX hw2
 have xn:=hd6.xnow
 have xo:=hd6.xord
 obtain ⟨MA,Mc,xm,rM⟩:=hd6.xmn
 obtain ⟨FA,Fc,xf,hfc,rF⟩:=hd6.xfa
 obtain ⟨ma,rfl,hmb,m0⟩:=rM.at_ (k:=d) (by rw [mnL_len];exact hdd)
 rw [mnL_gi S hdd] at m0
 obtain ⟨MV,hMV⟩:∃MV,MV=S.menu d:=⟨_,rfl⟩
 rw [← hMV] at m0 hx
 clear hMV
 by_cases c3:MV<0
 ·have g3:decide (MV<0)=true:=decide_eq_true c3
  have r_p1:=cell_regrown p1;have r_xm:=cell_regrown xm;have r_m0:=cell_regrown m0;have r_xn:=cell_regrown xn;have r_xf:=cell_regrown xf;have r_xo:=cell_regrown xo
  clear p1 xm m0 xn xf xo
  refine wp_region_quiet_below (by kernel_rfl) (by kernel_rfl) ?_
  repeat (go_big_quiet_step (fail))
  refine wpQuiet_nil ?_
  intro _ hw'
  obtain ⟨⟨dq,osq⟩,hw''⟩:=hw'
  subst hw''
  have hyq:=hy6.trans ((below_regrown w6 dq osq).mono hy6.size)
  go_wp2_with (go_at_call 31;(with_reducible refine (oknown_any (hE.below hyq)).mono ?_);rintro e wk ⟨rfl,hbk⟩)
  go_ret
  exact ⟨rfl,hyq.trans (hbk.mono hyq.size)⟩
 have g3:decide (MV<0)=false:=decide_eq_false c3
 by_cases c4:at0<S.now
 ·have g4:decide (at0<S.now)=true:=decide_eq_true c4
  have r_p1:=cell_regrown p1;have r_xm:=cell_regrown xm;have r_m0:=cell_regrown m0;have r_xn:=cell_regrown xn;have r_xf:=cell_regrown xf;have r_xo:=cell_regrown xo
  clear p1 xm m0 xn xf xo
  refine wp_region_quiet_below (by kernel_rfl) (by kernel_rfl) ?_
  repeat (go_big_quiet_step (fail))
  refine wpQuiet_nil ?_
  intro _ hw'
  obtain ⟨⟨dq,osq⟩,hw''⟩:=hw'
  subst hw''
  have hyq:=hy6.trans ((below_regrown w6 dq osq).mono hy6.size)
  go_wp2_with (go_at_call 31;(with_reducible refine (oknown_any (hE.below hyq)).mono ?_);rintro e wk ⟨rfl,hbk⟩)
  go_ret
  exact ⟨rfl,hyq.trans (hbk.mono hyq.size)⟩
 have g4:decide (at0<S.now)=false:=decide_eq_false c4
 by_cases c5:1440000<at0
 ·have g5:decide (1440000<at0)=true:=decide_eq_true c5
  have r_p1:=cell_regrown p1;have r_xm:=cell_regrown xm;have r_m0:=cell_regrown m0;have r_xn:=cell_regrown xn;have r_xf:=cell_regrown xf;have r_xo:=cell_regrown xo
  clear p1 xm m0 xn xf xo
  refine wp_region_quiet_below (by kernel_rfl) (by kernel_rfl) ?_
  repeat (go_big_quiet_step (fail))
  refine wpQuiet_nil ?_
  intro _ hw'
  obtain ⟨⟨dq,osq⟩,hw''⟩:=hw'
  subst hw''
  have hyq:=hy6.trans ((below_regrown w6 dq osq).mono hy6.size)
  go_wp2_with (go_at_call 31;(with_reducible refine (oknown_any (hE.below hyq)).mono ?_);rintro e wk ⟨rfl,hbk⟩)
  go_ret
  exact ⟨rfl,hyq.trans (hbk.mono hyq.size)⟩
 have g5:decide (1440000<at0)=false:=decide_eq_false c5
 by_cases c6:60≤S.facts.length
 ·have g6:decide (60≤(S.facts.length:Int))=true:=decide_eq_true (by exact_mod_cast c6)
  have g6n:decide (60≤S.facts.length)=true:=decide_eq_true c6
  have r_p1:=cell_regrown p1;have r_xm:=cell_regrown xm;have r_m0:=cell_regrown m0;have r_xn:=cell_regrown xn;have r_xf:=cell_regrown xf;have r_xo:=cell_regrown xo
  clear p1 xm m0 xn xf xo
  refine wp_region_quiet_below (by kernel_rfl) (by kernel_rfl) ?_
  repeat (go_big_quiet_step (fail))
  refine wpQuiet_nil ?_
  intro _ hw'
  obtain ⟨⟨dq,osq⟩,hw''⟩:=hw'
  subst hw''
  have hyq:=hy6.trans ((below_regrown w6 dq osq).mono hy6.size)
  go_wp2_with (go_at_call 31;(with_reducible refine (oknown_any (hE.below hyq)).mono ?_);rintro e wk ⟨rfl,hbk⟩)
  go_ret
  exact ⟨rfl,hyq.trans (hbk.mono hyq.size)⟩
 have g6:decide (60≤(S.facts.length:Int))=false:=decide_eq_false (by exact_mod_cast c6)
 have g6n:decide (60≤S.facts.length)=false:=decide_eq_false c6
 have c8:200<S.orders.length+2:=by rcases hx with h | h | h | h | h;exact absurd h c3;exact absurd h c4;exact absurd h c5;exact absurd h c6;exact h
 have g8:decide (200<(S.orders.length:Int)+2)=true:=decide_eq_true (by exact_mod_cast c8)
 have g8n:decide (200<S.orders.length+2)=true:=decide_eq_true c8
 have r_p1:=cell_regrown p1;have r_xm:=cell_regrown xm;have r_m0:=cell_regrown m0;have r_xn:=cell_regrown xn;have r_xf:=cell_regrown xf;have r_xo:=cell_regrown xo
 clear p1 xm m0 xn xf xo
 refine wp_region_quiet_below (by kernel_rfl) (by kernel_rfl) ?_
 repeat (go_big_quiet_step (fail))
 refine wpQuiet_nil ?_
 intro _ hw'
 obtain ⟨⟨dq,osq⟩,hw''⟩:=hw'
 subst hw''
 have hyq:=hy6.trans ((below_regrown w6 dq osq).mono hy6.size)
 go_wp2_with (go_at_call 31;(with_reducible refine (oknown_any (hE.below hyq)).mono ?_);rintro e wk ⟨rfl,hbk⟩)
 go_ret
 exact ⟨rfl,hyq.trans (hbk.mono hyq.size)⟩
end Go.Proofs.YtiapkffihpgdcaaGreatDoor
