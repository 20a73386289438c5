import Derived.Test.YtiapkffihpgdcaaGreatDoorQB3
import Derived.Test.YtiapkffihpgdcaaGreatDoorQB28
import Derived.Test.YtiapkffihpgdcaaGreatDoorQB32
import Derived.Shelf.Strings.Cut
set_option linter.unusedVariables false
set_option linter.unusedSimpArgs false
set_option maxRecDepth 100000
set_option maxHeartbeats 4000000
namespace Go.Proofs.YtiapkffihpgdcaaGreatDoor
open Go.RowKit
theorem nil_getD {l:List Wd}{k:Nat}(h:k<l.length):l.getD k []=l[k]:=by rw [List.getD_eq_getElem?_getD,List.getElem?_eq_getElem h];rfl
theorem lng_no {l:List Wd}(h:lng l=false):l.length≤300∧∀k,k<l.length→(l.getD k []).length≤400:=by
 unfold lng at h
 simp only [Bool.or_eq_false_iff,decide_eq_false_iff_not] at h
 obtain ⟨h1,h2⟩:=h
 rw [anyTo_false] at h1
 exact ⟨by omega,fun k hk=>by have:=h1 k hk;unfold lngP at this;rw [decide_eq_false_iff_not] at this;omega⟩
/-- Both offices do the same orders and answer the same. -/
theorem both_ok9 {f:Fi}{w:World}(hf:f.In w)(hl:f.Len)(hE:EnvA w)(hz:f.e=0)(l:List Wd)(A:Option Addr)(c:Nat)(hR:RS w A l)(hng:lng l=false) :
  Calls Tryz.prog 38 #[.agg f.cells,.slice A l.length c] w fun e w'=>∃g x,e=.returned (.tuple #[.pointer (some ⟨g,0,none⟩),.pointer (some ⟨x,0,none⟩),.bool true])∧DN w (min l.length 30) g x (runTo f.s0 l (min l.length 30)) (runTo f.s0 l (min l.length 30)) w':=by
 obtain ⟨hll,hlw⟩:=lng_no hng
 have hlw':=Lib.hid hlw
 clear hng hlw
 unfold Fi.cells
 obtain ⟨w2,hw2⟩:∃w2,w.alloc (.cells #[.int .i64 f.t.len,.slice f.A1 f.t.rest.length f.c1,.slice f.A2 f.t.clo.length f.c2,.int .i64 f.c.n,.int .i64 f.c.f,.int .i64 f.c.k,.int .i64 f.b.props,.slice f.B1 f.b.items.length f.d1,.slice f.B2 f.b.rules.length f.d2] 32)=w2:=⟨_,rfl⟩
 have hy:Below w.heap.size w w2:=by rw [← hw2];exact (Below.refl _ w).alloc (Nat.le_refl _) _
 have b0:Box w2 w.heap.size #[.int .i64 f.t.len,.slice f.A1 f.t.rest.length f.c1,.slice f.A2 f.t.clo.length f.c2,.int .i64 f.c.n,.int .i64 f.c.f,.int .i64 f.c.k,.int .i64 f.b.props,.slice f.B1 f.b.items.length f.d1,.slice f.B2 f.b.rules.length f.d2]:=by rw [← hw2];exact Box.new w _ _
 have HB:=Lib.hid (begin_ok (hf.below hy) hl (hE.below hy) hz)
 unfold Fi.cells at HB
 have x0:=b0.cell 0;have x1:=b0.cell 1;have x2:=b0.cell 2;have x3:=b0.cell 3;have x4:=b0.cell 4;have x5:=b0.cell 5;have x6:=b0.cell 6;have x7:=b0.cell 7;have x8:=b0.cell 8
 simp only [gqA,gqB,gqC] at x0 x1 x2 x3 x4 x5 x6 x7 x8
 obtain ⟨m,hm⟩:∃m,m=min l.length 30:=⟨_,rfl⟩
 rw [← hm]
 have hm1:m≤l.length∧m≤30:=by omega
 have hm2:m=l.length∨(m=30∧30<l.length):=by omega
 have HM:=Lib.hid hm2
 clear hz hm hm2
 go_enter Tryz.func38,Tryz.ntmps38
 go_wp2_with (go_at_call 36;(with_reducible refine HB.out.mono ?_);rintro e w3 ⟨g,x,rfl,hd⟩)
 have hrs:=hR.below hy
 clear hw2 x0 x1 x2 x3 x4 x5 x6 x7 x8 HB
 go_loopw [9,10] (fun ok v wr=>∃k:Nat,k≤m∧v=.int .i64 k∧ok=.bool true∧DN w2 k g x (runTo f.s0 l k) (runTo f.s0 l k) wr) (fun _ v _=>m-(intOf v).toNat)
 case atStart=>exact ⟨0,by omega,rfl,rfl,by rw [runTo_zero];exact hd⟩
 case round =>
  clear hd
  obtain ⟨k,hk,rfl,rfl,hdk⟩:=hrel
  by_cases hlt:k<m
  ·have h1:decide ((k:Int)<(l.length:Int))=true:=by rw [decide_eq_true_eq];omega
   have h2:decide ((k:Int)<(30:Int))=true:=by rw [decide_eq_true_eq];omega
   obtain ⟨ad,rfl,hab,c0⟩:=hrs.at_ (k:=k) (by omega)
   have htl:=hlw'.out k (by omega)
   have hrt:=runTo_succ f.s0 l (k:=k) (by omega)
   rw [nil_getD (by omega)] at htl hrt
   obtain ⟨tx,htx⟩:∃tx,tx=l[k]'(by omega):=⟨_,rfl⟩
   rw [← htx] at c0 htl hrt
   obtain ⟨sk,hsk⟩:∃sk,sk=runTo f.s0 l k:=⟨_,rfl⟩
   rw [← hsk] at hdk hrt
   have HRT:=Lib.hid hrt
   have C0:=Lib.hid c0
   have q0:=(hdk.bel.cell (by exact hab)).trans C0.out
   have HD:=Lib.hid ((hdk.below (Below.refl wr.heap.size wr).drew).do_ (by omega) tx (by omega))
   clear htx hsk hrt c0
   obtain ⟨D,hD⟩:∃D,D=doE sk tx:=⟨_,rfl⟩
   rw [← hD] at HD
   have HDE:=Lib.hid hD
   clear hD
   go_wp2_with fail
   go_region_held3 (fun w'=>w'.cell? (ad.add k)=some (St tx))
    (first | exact q1 | exact q2 | go_keep)
    (first
     | (go_at_call 25;(with_reducible refine HD.out.mono ?_);rintro e wA ⟨rfl,hdA⟩;have q1:=(hdA.bel.cell (by exact hab)).trans C0.out)
     | (go_at_call 53;(with_reducible refine (hdA.rdo tx (by omega)).mono ?_);rintro e wB ⟨rfl,hdB⟩;rw [← HDE.out];have q2:=(hdB.bel.cell (by exact hab)).trans C0.out))
   all_goals
    rw [← HRT.out] at hdB
    go_wp2_with fail
    go_roundw
    case rel=>exact ⟨k+1,by omega,by go_num,rfl,hdB⟩
    case measure=>simp [intOf];omega
  ·obtain rfl:k=m:=by omega
   have hfin:DN w k g x (runTo f.s0 l k) (runTo f.s0 l k) wr:=by
    obtain ⟨F,F',h,h',⟨po,ro,env,bel,lo,lo',dis⟩⟩:=hdk
    have:=hy.size
    exact ⟨F,F',h,h',⟨po,ro,env,hy.trans (bel.mono hy.size),fun k hk=>by have:=lo k hk;omega,fun k hk=>by have:=lo' k hk;omega,dis⟩⟩
   by_cases hc:k<l.length
   ·have h30:30≤k:=by have:=HM.out;omega
    go_wp2_with fail
    go_ret3
    exact ⟨g,x,rfl,hfin⟩
   ·go_wp2_with fail
    go_ret3
    exact ⟨g,x,rfl,hfin⟩
theorem lnOf_nil:lnOf []=[]:=rfl
theorem lnOf_cons (a:UInt8)(t:List UInt8):lnOf (a :: t)=if a=10 then [] else a :: lnOf t:=by
 unfold lnOf
 rw [List.takeWhile_cons]
 by_cases h:a=10
 ·subst h;rfl
 ·rw [if_neg h,if_pos (by simpa using h)]
theorem lnOf_le (t:List UInt8):(lnOf t).length≤t.length:=List.takeWhile_prefix _ |>.length_le
theorem lnOf_lt (t:List UInt8):(lnOf t).length<t.length ↔ (10:UInt8) ∈ t:=by
 induction t with
 | nil=>simp [lnOf_nil]
 | cons a t ih =>
  rw [lnOf_cons]
  by_cases h:a=10
  ·subst h;simp
  ·rw [if_neg h]
   have:(10:UInt8) ∈ a :: t ↔ (10:UInt8) ∈ t:=by simp [Ne.symm h]
   rw [this,← ih]
   simp
theorem index_nl (t:List UInt8):Lib.index t [10]=if (10:UInt8) ∈ t then ((lnOf t).length:Int) else -1:=by
 induction t with
 | nil=>rfl
 | cons a t ih =>
  unfold Lib.index
  by_cases h:a=10
  ·subst h
   rw [lnOf_cons];simp
  ·have h2:(10:UInt8) ∈ a :: t ↔ (10:UInt8) ∈ t:=by simp [Ne.symm h]
   have h3:([10]:List UInt8).isPrefixOf (a :: t)=false:=by simp [List.isPrefixOf,Ne.symm h]
   rw [h3,ih,lnOf_cons,if_neg h]
   by_cases hm:(10:UInt8) ∈ t
   ·rw [if_pos hm,if_pos (h2.2 hm)]
    have:(((lnOf t).length:Int) == -1)=false:=by rw [beq_eq_false_iff_ne];omega
    simp [this]
   ·rw [if_neg hm,if_neg (fun x=>hm (h2.1 x))];rfl
theorem lnOf_take (t:List UInt8):t.take (lnOf t).length=lnOf t:=by
 have h:lnOf t <+: t:=List.takeWhile_prefix _
 exact (List.prefix_iff_eq_take.1 h).symm
theorem cut_nl_yes {t:List UInt8}(h:(10:UInt8) ∈ t):Lib.cut t [10]=(lnOf t,nxt t,true):=by
 unfold Lib.cut
 rw [index_nl,if_pos h,if_pos (by omega),Int.toNat_natCast,lnOf_take]
 rfl
theorem cut_nl_no {t:List UInt8}(h:(10:UInt8) ∉ t):Lib.cut t [10]=(t,[],false):=by
 unfold Lib.cut
 rw [index_nl,if_neg h,if_neg (by decide)]
theorem goodL_no {t:List UInt8}(h:(10:UInt8) ∉ t):goodL t=false:=by
 unfold goodL
 rw [decide_eq_false_iff_not]
 exact fun x=>h ((lnOf_lt t).1 x.1)
theorem nxt_len (t:List UInt8):(nxt t).length≤t.length:=by unfold nxt;simp
theorem rdL_stop {n:Nat}{t:List UInt8}(h:goodL t=false):rdL n t=([],t):=by
 cases n with
 | zero=>rfl
 | succ n=>simp only [rdL];rw [h];rfl
theorem rdL_go {n:Nat}{t:List UInt8}(h:goodL t=true):rdL (n+1) t=(lnOf t :: (rdL n (nxt t)).1,(rdL n (nxt t)).2):=by
 simp only [rdL];rw [h];rfl
theorem cutNl_any {w:World}{m:Int}(hm:w.cell? ⟨1,0,none⟩=some (.int .i64 m))(t:Wd)(ht:t.length≤1000000000) :
  Calls Tryz.prog 94 #[St t,St [10]] w fun e w'=>e=.returned (.tuple #[St (Lib.cut t [10]).1,St (Lib.cut t [10]).2.1,.bool (Lib.cut t [10]).2.2])∧∃n,w'=w.drewN n :=
 Any.strings_Cut Tryz.lcut ⟨t.toArray⟩ ⟨#[10]⟩ m w (by show t.toArray.size<_;simp;omega) hm
def lenV:Value→Nat
 | .slice _ n _=>n
 | _=>0
/-- Out and rest,told of the whole text. -/
def RdI (t:Wd)(l:List Wd)(r:Wd):Prop:=rd t=(l ++ (rdL (200-l.length) r).1,(rdL (200-l.length) r).2)
theorem RdI.start (t:Wd):RdI t [] t:=by unfold RdI rd;simp
theorem RdI.go {t r:Wd}{l:List Wd}(h:RdI t l r)(hl:l.length<200)(hg:goodL r=true):RdI t (l ++ [lnOf r]) (nxt r):=by
 unfold RdI at h ⊢
 obtain ⟨n,hn⟩:∃n,200-l.length=n+1:=⟨199-l.length,by omega⟩
 rw [hn,rdL_go hg] at h
 have h2:200-(l ++ [lnOf r]).length=n:=by simp;omega
 rw [h2,h]
 simp
theorem RdI.stop {t r:Wd}{l:List Wd}(h:RdI t l r)(hg:goodL r=false):rd t=(l,r):=by
 unfold RdI at h
 rw [rdL_stop hg] at h
 rw [h];simp
theorem RdI.full {t r:Wd}{l:List Wd}(h:RdI t l r)(hl:¬ l.length<200):rd t=(l,r):=by
 unfold RdI at h
 have h2:200-l.length=0:=by omega
 rw [h2] at h
 rw [h];simp [rdL]
theorem goodL_iff (r:Wd):goodL r=true ↔ (10:UInt8) ∈ r∧lnOf r≠[]∧(lnOf r).length≤60:=by
 unfold goodL
 rw [decide_eq_true_eq,lnOf_lt]
theorem read_any {w:World}(hE:EnvZ w)(t:Wd)(ht:t.length≤1000000000) :
  Calls Tryz.prog 32 #[St t] w fun e w'=>∃A c,e=.returned (.tuple #[.slice A (rd t).1.length c,St (rd t).2])∧OwnS w' w.heap.size A c (rd t).1∧Below w.heap.size w w':=by
 obtain ⟨l1,r1,hr1⟩:∃l1 r1,rd t=(l1,r1):=⟨_,_,rfl⟩
 rw [hr1]
 have HR:=Lib.hid hr1
 clear hr1
 go_enter Tryz.func32,Tryz.ntmps32
 go_wp2_with fail
 go_loopw [0,4] (fun b o wr=>∃(r:Wd) (l:List Wd) (A:Option Addr) (c:Nat),b=St r∧o=.slice A l.length c∧r.length≤1000000000∧l.length≤200∧Hid (RdI t l r)∧OwnS wr w.heap.size A c l∧Below w.heap.size w wr) (fun _ o _=>200-lenV o)
 case atStart=>exact ⟨t,[],none,0,rfl,rfl,ht,by simp,RdI.start t,World.ownsRow_nil _ _ _ _,Below.refl _ _⟩
 case round =>
  obtain ⟨r,l,A,c,rfl,rfl,hrl,hll,HI,own,hy⟩:=hrel
  have hsz:=hy.size
  by_cases hlt:l.length<200
  ·obtain ⟨m,hm⟩:=(hE.below hy).max
   have hcut:=cutNl_any hm r hrl
   cases hg:goodL r with
   | true =>
    obtain ⟨h1,h2,h3⟩:=(goodL_iff r).1 hg
    rw [cut_nl_yes h1] at hcut
    have HN:=Lib.hid (HI.out.go hlt hg)
    obtain ⟨L,hL⟩:∃L,L=lnOf r:=⟨_,rfl⟩
    obtain ⟨X,hX⟩:∃X,X=nxt r:=⟨_,rfl⟩
    have hxl:X.length≤1000000000:=by rw [hX];have:=nxt_len r;omega
    rw [← hL,← hX] at HN hcut
    rw [← hL] at h2 h3
    have h2':(L == [])=false:=by simpa using h2
    have HC:=Lib.hid hcut
    clear hcut h2 h1 hg hL hX
    go_wp2_with (first
     | (go_at_call 94;(with_reducible refine HC.out.mono ?_);rintro e w3 ⟨rfl,n,hw3⟩;subst hw3;have own3:=own_below own (Go.below_drewN (Below.refl _ wr) n) (fun k hk=>(World.ownsRow.lt own k hk).2))
     | (at_builtin;refine wpList_app1 rfl _ _ rfl Tryz.underlying33 info_str rfl (by omega) rfl own3 rfl rfl (by simp [Value.oneCell']) (by omega) (by omega) (by simp;omega) ?_;intro A'' c'' w4 own4 hb4))
    have hy4:=(Go.below_drewN hy n).trans (hb4 _ (Nat.le_refl _))
    have ow4:=OwnS.snoc own4 rfl rfl
    have hll2:(l ++ [L]).length=l.length+1:=by simp
    go_roundw
    case rel=>exact ⟨X,l ++ [L],A'',c'',rfl,by rw [hll2],hxl,by omega,HN,ow4,hy4⟩
    case measure=>simp [lenV];omega
   | false =>
    have hend:=HR.out.symm.trans (HI.out.stop hg)
    obtain ⟨rfl,rfl⟩:=Prod.mk.inj hend
    clear hend
    by_cases hn:(10:UInt8) ∈ r1
    ·rw [cut_nl_yes hn] at hcut
     by_cases h2:lnOf r1=[]
     ·rw [h2] at hcut
      obtain ⟨X,hX⟩:∃X,X=nxt r1:=⟨_,rfl⟩
      rw [← hX] at hcut
      have HC:=Lib.hid hcut
      clear hcut h2 hg hX hn
      go_wp2_with (go_at_call 94;(with_reducible refine HC.out.mono ?_);rintro e w3 ⟨rfl,n,hw3⟩;subst hw3)
      go_ret2
      exact ⟨A,c,rfl,own_below own (Go.below_drewN (Below.refl _ wr) n) (fun k hk=>(World.ownsRow.lt own k hk).2),Go.below_drewN hy n⟩
     ·have h3:60<(lnOf r1).length:=by
       by_cases h3:(lnOf r1).length≤60
       ·rw [(goodL_iff r1).2 ⟨hn,h2,h3⟩] at hg;cases hg
       ·omega
      have h4:=lnOf_le r1
      obtain ⟨X,hX⟩:∃X,X=nxt r1:=⟨_,rfl⟩
      obtain ⟨L,hL⟩:∃L,L=lnOf r1:=⟨_,rfl⟩
      rw [← hX,← hL] at hcut
      rw [← hL] at h2 h3 h4
      have h2':(L == [])=false:=by simpa using h2
      have HC:=Lib.hid hcut
      clear hcut h2 hg hX hn hL
      go_wp2_with (go_at_call 94;(with_reducible refine HC.out.mono ?_);rintro e w3 ⟨rfl,n,hw3⟩;subst hw3)
      go_ret2
      exact ⟨A,c,rfl,own_below own (Go.below_drewN (Below.refl _ wr) n) (fun k hk=>(World.ownsRow.lt own k hk).2),Go.below_drewN hy n⟩
    ·rw [cut_nl_no hn] at hcut
     have HC:=Lib.hid hcut
     clear hcut hg hn
     go_wp2_with (go_at_call 94;(with_reducible refine HC.out.mono ?_);rintro e w3 ⟨rfl,n,hw3⟩;subst hw3)
     go_ret2
     exact ⟨A,c,rfl,own_below own (Go.below_drewN (Below.refl _ wr) n) (fun k hk=>(World.ownsRow.lt own k hk).2),Go.below_drewN hy n⟩
  ·have hend:=HR.out.symm.trans (HI.out.full hlt)
   obtain ⟨rfl,rfl⟩:=Prod.mk.inj hend
   clear hend
   go_wp2_with fail
   go_ret2
   exact ⟨A,c,rfl,own,hy⟩
theorem lnOf_first:∀(r:List UInt8) (n:Nat),r[n]? = some 10→(∀j,j<n→r[j]? ≠ some 10)→lnOf r=r.take n∧n<r.length
 | [],n,h,_=>by simp at h
 | a :: r,0,h,_=>by
  obtain rfl:a=10:=by simpa using h
  rw [lnOf_cons];simp
 | a :: r,n+1,h,hn=>by
  have h0:a≠10:=fun e=>hn 0 (by omega) (by simp [e])
  obtain ⟨h1,h2⟩:=lnOf_first r n (by simpa using h) (fun j hj=>by have:=hn (j+1) (by omega);simpa using this)
  rw [lnOf_cons,if_neg h0,h1]
  exact ⟨rfl,by simp;exact h2⟩
theorem no_first:∀(r:List UInt8),(∀j,j<r.length→r[j]? ≠ some 10)→(10:UInt8) ∉ r:=fun r h hm=>by
 obtain ⟨i,hi,e⟩:=List.mem_iff_getElem.1 hm
 exact h i hi (by rw [List.getElem?_eq_getElem hi,e])
/-- What the document's Read knows: the orders before the place b,no newline from b to k. -/
structure RI (t:Wd) (b k:Nat) (l:List Wd):Prop where
 le:b≤k
 rd:RdI t l (t.drop b)
 no:∀j,b≤j→j<k→t[j]? ≠ some 10
section
variable {t:Wd}{b k:Nat}{l:List Wd}
theorem RI.next (h:RI t b k l)(hk:t[k]? ≠ some 10):RI t b (k+1) l:=by
 refine ⟨by have:=h.le;omega,h.rd,fun j h1 h2=>?_⟩
 by_cases e:j=k
 ·subst e;exact hk
 ·exact h.no j h1 (by omega)
theorem RI.line (h:RI t b k l)(hk:t[k]? = some 10):lnOf (t.drop b)=(t.drop b).take (k-b)∧(lnOf (t.drop b)).length=k-b∧(10:UInt8) ∈ t.drop b∧nxt (t.drop b)=t.drop (k+1):=by
 have hb:=h.le
 have h1:=lnOf_first (t.drop b) (k-b) (by rw [List.getElem?_drop,show b+(k-b)=k by omega];exact hk) (fun j hj=>by rw [List.getElem?_drop];exact h.no _ (by omega) (by omega))
 have hl:(lnOf (t.drop b)).length=k-b:=by rw [h1.1,List.length_take];have:=h1.2;omega
 refine ⟨h1.1,hl,(lnOf_lt _).1 (by rw [hl];exact h1.2),?_⟩
 unfold nxt
 rw [hl,List.drop_drop]
 congr 1
 omega
theorem RI.good (h:RI t b k l)(hk:t[k]? = some 10)(h1:k≠b)(h2:k-b≤60)(hl:l.length<200):RI t (k+1) (k+1) (l ++ [(t.drop b).take (k-b)]):=by
 obtain ⟨e1,e2,e3,e4⟩:=h.line hk
 have hb:=h.le
 have hg:goodL (t.drop b)=true:=(goodL_iff _).2 ⟨e3,fun e=>by rw [e] at e2;simp at e2;omega,by omega⟩
 refine ⟨Nat.le_refl _,?_,fun j h1 h2=>by omega⟩
 have:=h.rd.go hl hg
 rw [e1,e4] at this
 exact this
theorem RI.bad (h:RI t b k l)(hk:t[k]? = some 10)(h1:k=b∨60<k-b):Go.Proofs.YtiapkffihpgdcaaGreatDoor.rd t=(l,t.drop b):=by
 obtain ⟨e1,e2,e3,e4⟩:=h.line hk
 refine h.rd.stop ?_
 cases hg:goodL (t.drop b) with
 | false=>rfl
 | true =>
  obtain ⟨_,g2,g3⟩:=(goodL_iff _).1 hg
  rcases h1 with h1 | h1
  ·exact absurd (List.length_eq_zero_iff.1 (by omega)) g2
  ·omega
theorem RI.fin (h:RI t b t.length l):Go.Proofs.YtiapkffihpgdcaaGreatDoor.rd t=(l,t.drop b):=by
 refine h.rd.stop (goodL_no (no_first _ fun j hj=>?_))
 rw [List.getElem?_drop]
 have:=h.le
 simp at hj
 exact h.no _ (by omega) (by omega)
end
theorem rread_any {w:World}(t:Wd)(ht:t.length≤1000000000) :
  Calls Tryz.prog 33 #[St t] w fun e w'=>∃A c,e=.returned (.tuple #[.slice A (rd t).1.length c,St (rd t).2])∧OwnS w' w.heap.size A c (rd t).1∧Below w.heap.size w w':=by
 obtain ⟨l1,r1,hr1⟩:∃l1 r1,rd t=(l1,r1):=⟨_,_,rfl⟩
 rw [hr1]
 have HR:=Lib.hid hr1
 clear hr1
 go_enter Tryz.func33,Tryz.ntmps33
 go_wp2_with fail
 go_loopw [4,5,6] (fun o f x wr=>∃(b k:Nat) (l:List Wd) (A:Option Addr) (c:Nat),k≤t.length∧x=.int .i64 k∧f=.int .i64 b∧o=.slice A l.length c∧l.length≤200∧Hid (RI t b k l)∧OwnS wr w.heap.size A c l∧Below w.heap.size w wr) (fun _ _ x _=>t.length-(intOf x).toNat)
 case atStart=>exact ⟨0,0,[],none,0,by omega,rfl,rfl,rfl,by simp,⟨Nat.le_refl _,RdI.start t,fun j h1 h2=>by omega⟩,World.ownsRow_nil _ _ _ _,Below.refl _ _⟩
 case round =>
  obtain ⟨b,k,l,A,c,hk,rfl,rfl,rfl,hll,HI,own,hy⟩:=hrel
  have hsz:=hy.size
  have hbk:=HI.out.le
  have hcut:=st_cut t b k
  have hcut2:=st_cut t b t.length
  have hful:(t.drop b).take (t.length-b)=t.drop b:=List.take_of_length_le (by simp)
  rw [hful] at hcut2
  have HC:=Lib.hid hcut
  have HC2:=Lib.hid hcut2
  clear hcut hcut2 hful
  by_cases hlt:k<t.length
  ·have hlt':decide ((k:Int)<(t.length:Int))=true:=by rw [decide_eq_true_eq];omega
   by_cases hl2:l.length<200
   ·have hl2':decide ((l.length:Int)<200)=true:=by rw [decide_eq_true_eq];omega
    have hsz2:k<ByteArray.size ⟨t.toArray⟩:=by rw [st_size];exact hlt
    by_cases hb:t[k]? = some 10
    ·have hq:((((⟨t.toArray⟩:ByteArray)[k]'hsz2).toNat:Int) != 10)=false:=by
      have hb2:=hb
      rw [List.getElem?_eq_getElem hlt] at hb2
      rw [st_get,Option.some.inj hb2];rfl
     by_cases h1:k=b
     ·have hend:=HR.out.symm.trans (HI.out.bad hb (.inl h1))
      obtain ⟨rfl,rfl⟩:=Prod.mk.inj hend
      obtain rfl:=h1
      clear hend hb
      go_wp2_with fail
      go_quiet (fail)
      go_wp2_with fail
      rw [HC2.out]
      go_ret2
      exact ⟨A,c,rfl,own_below own (Go.below_drewN (Below.refl _ wr) _) (fun k hk=>(World.ownsRow.lt own k hk).2),Go.below_drewN hy _⟩
     ·have h1':((k:Int) == (b:Int))=false:=by rw [beq_eq_false_iff_ne];omega
      by_cases h2:60<k-b
      ·have hend:=HR.out.symm.trans (HI.out.bad hb (.inr h2))
       obtain ⟨rfl,rfl⟩:=Prod.mk.inj hend
       have h2':decide ((60:Int)<(k:Int)-(b:Int))=true:=by rw [decide_eq_true_eq];omega
       clear hend hb h1
       go_wp2_with fail
       go_quiet (fail)
       go_wp2_with fail
       rw [HC2.out]
       go_ret2
       exact ⟨A,c,rfl,own_below own (Go.below_drewN (Below.refl _ wr) _) (fun k hk=>(World.ownsRow.lt own k hk).2),Go.below_drewN hy _⟩
      ·have h2':decide ((60:Int)<(k:Int)-(b:Int))=false:=by rw [decide_eq_false_iff_not];omega
       have hn:=HI.out.good hb h1 (by omega) hl2
       have HN:=Lib.hid hn
       clear hn hb h1
       go_wp2_with (at_builtin;refine wpList_app1 rfl _ _ rfl Tryz.underlying33 info_str rfl (by omega) rfl own rfl rfl (by simp [Value.oneCell']) (by omega) (by omega) (by omega) ?_;intro A'' c'' w4 own4 hb4)
       have hy4:=hy.trans (hb4 _ (Nat.le_refl _))
       rw [HC.out] at own4
       have ow4:=OwnS.snoc own4 rfl rfl
       have hll2:(l ++ [(t.drop b).take (k-b)]).length=l.length+1:=by simp
       go_roundw
       case rel=>exact ⟨k+1,k+1,l ++ [(t.drop b).take (k-b)],A'',c'',by omega,by go_num,by go_num,by rw [hll2],by omega,HN,ow4,hy4⟩
       case measure=>simp [intOf];omega
    ·have hq:((((⟨t.toArray⟩:ByteArray)[k]'hsz2).toNat:Int) != 10)=true:=by
      rw [List.getElem?_eq_getElem hlt] at hb
      rw [st_get,bne_iff_ne]
      intro e
      refine hb (congrArg some (UInt8.toNat_inj.1 ?_))
      have:(10:UInt8).toNat=10:=rfl
      omega
     have HN:=Lib.hid (HI.out.next hb)
     clear hb
     go_wp2_with fail
     go_roundw
     case rel=>exact ⟨b,k+1,l,A,c,by omega,by go_num,rfl,rfl,hll,HN,own,hy⟩
     case measure=>simp [intOf];omega
   ·have hl2':decide ((l.length:Int)<200)=false:=by rw [decide_eq_false_iff_not];omega
    have hend:=HR.out.symm.trans (HI.out.rd.full hl2)
    obtain ⟨rfl,rfl⟩:=Prod.mk.inj hend
    clear hend
    go_wp2_with fail
    go_quiet (fail)
    go_wp2_with fail
    rw [HC2.out]
    go_ret2
    exact ⟨A,c,rfl,own_below own (Go.below_drewN (Below.refl _ wr) _) (fun k hk=>(World.ownsRow.lt own k hk).2),Go.below_drewN hy _⟩
  ·obtain rfl:k=t.length:=by omega
   have hlt':decide ((t.length:Int)<(t.length:Int))=false:=by rw [decide_eq_false_iff_not];omega
   have hend:=HR.out.symm.trans HI.out.fin
   obtain ⟨rfl,rfl⟩:=Prod.mk.inj hend
   clear hend
   go_wp2_with fail
   go_quiet (fail)
   go_wp2_with fail
   rw [HC2.out]
   go_ret2
   exact ⟨A,c,rfl,own_below own (Go.below_drewN (Below.refl _ wr) _) (fun k hk=>(World.ownsRow.lt own k hk).2),Go.below_drewN hy _⟩
end Go.Proofs.YtiapkffihpgdcaaGreatDoor
