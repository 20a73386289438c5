import Derived.Test.YtiapkffihpgdcaaGreatDoorQC3
import Derived.Test.YtiapkffihpgdcaaGreatDoorQC10
import Derived.Lib.QuietBelow
import Derived.Shelf.SlSortCmp.WholeK
set_option linter.unusedVariables false
set_option linter.unusedSimpArgs false
set_option maxRecDepth 100000
set_option maxHeartbeats 4000000
namespace Go.Proofs.YtiapkffihpgdcaaGreatDoor
open Go.RowKit Go.Sort
/-- The place of a child;-1 if there is none. -/
def kix (l:List Kd)(n:Int):Int:=match l.findIdx? (fun x=>x.num == n) with
 | some i=>i
 | none=>-1
theorem kix_none {l:List Kd}{n:Int}(h:hasK l n=false):kix l n = -1:=by
 unfold hasK kidTo at h
 rw [anyTo_false] at h
 unfold kix
 rw [List.findIdx?_eq_none_iff.2 fun x hx=>?_]
 obtain ⟨i,hi,rfl⟩:=List.mem_iff_getElem.1 hx
 have:=h i hi
 simpa [gk,hi] using this
theorem kix_first {l:List Kd}{n:Int}{k:Nat}(hk:k<l.length)(h:(gk l k).num=n)(hb:kidTo l n k=false):kix l n=k:=by
 unfold kidTo at hb
 rw [anyTo_false] at hb
 unfold kix
 have e:l.findIdx? (fun x=>x.num == n)=some k:=by
  rw [List.findIdx?_eq_some_iff_getElem]
  refine ⟨hk,?_,fun j hj=>?_⟩
  ·simpa [gk,hk] using h
  ·have:=hb j hj
   simp [gk,show j<l.length by omega] at this
   simpa using this
 rw [e]
theorem kix_some {l:List Kd}{n:Int}(h:hasK l n=true):∃k:Nat,k<l.length∧kix l n=k∧(gk l k).num=n∧gk l k=kidOf l n:=by
 unfold hasK kidTo at h
 rw [anyTo_iff] at h
 obtain ⟨i,hi,hn⟩:=h
 obtain ⟨k,hk⟩:∃k,(l.findIdx? fun x=>x.num == n)=some k:=by
  cases hf:l.findIdx? fun x=>x.num == n with
  | some k=>exact ⟨k,rfl⟩
  | none =>
   have:=List.findIdx?_eq_none_iff.1 hf l[i] (List.getElem_mem hi)
   simp [gk,hi] at hn
   simp [hn] at this
 obtain ⟨h1,h2,h3⟩:=List.findIdx?_eq_some_iff_getElem.1 hk
 refine ⟨k,h1,by unfold kix;rw [hk],by simpa [gk,h1] using h2,?_⟩
 have e:l.find? (fun x=>x.num == n)=some l[k]:=by
  rw [List.find?_eq_some_iff_getElem]
  exact ⟨h2,k,h1,rfl,fun j hj=>by simpa using h3 j hj⟩
 unfold kidOf
 rw [e]
 simp [gk,h1]
theorem kidTo_next {l:List Kd}{n:Int}{k:Nat}(h:kidTo l n k=false)(h':(gk l k).num≠n):kidTo l n (k+1)=false:=by
 unfold kidTo at h ⊢
 rw [anyTo_false] at h ⊢
 intro i hi
 by_cases e:i=k
 ·subst e;simpa using h'
 ·exact h i (by omega)
theorem indexKid_any (l:List Kd)(hk:Nat→SlH)(n:Int)(hl:l.length≤1000000000)(A:Option Addr)(c b:Nat)(w:World)(hR:R2 (fun _=>True) w A l.length (fun k=>.int .i64 (gk l k).num) (fun k=>slN (hk k) (gk l k).avoid.length))(hb:w.cell? ⟨b,0,none⟩=some (.int .i64 n))(hbs:b<w.heap.size) :
  Calls Tryz.prog 245 #[.slice A l.length c,.func (.func 246) #[] #[.pointer (some ⟨b,0,none⟩)]] w fun e w'=>e=.returned (.int .i64 (kix l n))∧Below w.heap.size w w':=by
 obtain ⟨S,hS⟩:∃S,S=kix l n:=⟨_,rfl⟩
 rw [← hS]
 have HS:=Lib.hid hS;clear hS
 go_enter Tryz.func245,Tryz.ntmps245
 go_wp2
 go_loopw [8] (fun x wr=>∃k:Nat,k≤l.length∧x=.int .i64 k∧Hid (kidTo l n k=false)∧Below w.heap.size w wr) (fun x _=>l.length-(intOf x).toNat)
 case atStart=>exact ⟨0,by omega,rfl,rfl,Below.refl _ _⟩
 case round =>
  obtain ⟨k,hkl,rfl,HK,hbl⟩:=hrel
  have hbr:=(hbl.cell (p:=⟨b,0,none⟩) hbs).trans hb
  have hsz:=hbl.size
  by_cases hlt:k<l.length
  ·obtain ⟨ad,rfl,hab,_,d0,d1⟩:=(hR.below hbl).at_ hlt
   unfold slN at d1
   obtain ⟨w5,hw5⟩:∃w5,wr.alloc (.cells #[.int .i64 (gk l k).num,.slice (hk k).1 (gk l k).avoid.length (hk k).2] 56)=w5:=⟨_,rfl⟩
   have hb5:Below wr.heap.size wr w5:=by rw [← hw5];exact (Below.refl _ wr).alloc (Nat.le_refl _) _
   have b5:Box w5 wr.heap.size #[.int .i64 (gk l k).num,.slice (hk k).1 (gk l k).avoid.length (hk k).2]:=by rw [← hw5];exact (Box.new wr _ _)
   have u0:=b5.cell 0
   simp only [gqA,gqB,gqC] at u0
   have hbr5:=(hb5.cell (p:=⟨b,0,none⟩) (by show b<wr.heap.size;omega)).trans hbr
   have hbl5:=hbl.trans (hb5.mono hsz)
   by_cases hn:(gk l k).num=n
   ·have HV:=Lib.hid (HS.out.trans (kix_first hlt hn HK.out))
    have hn':((gk l k).num == n)=true:=by simp [hn]
    clear HS HK hn
    go_wp2
    go_ret
    exact ⟨ret_int HV.out.symm,hbl5⟩
   ·have HN:=Lib.hid (kidTo_next HK.out hn)
    have hn':((gk l k).num == n)=false:=by simp [hn]
    clear HS HK hn
    go_wp2
    go_roundw
    case rel=>exact ⟨k+1,by omega,by go_num,HN,hbl5⟩
    case measure=>simp [intOf];omega
  ·obtain rfl:k=l.length:=by omega
   have HV:=Lib.hid (HS.out.trans (kix_none HK.out))
   clear HS HK
   go_wp2
   go_ret
   exact ⟨ret_int HV.out.symm,hbl⟩
section
variable {L:Int}{N:Nat}{w:World}{F:Nat→Prop}{g:Nat}{h:Hd}{s:Of}
theorem OfOk.kl (hs:OfOk s):s.kids.length≤100:=kids_100 hs
theorem child_any (hP:PO L N w F g h s)(n:Int) :
  Calls Tryz.prog 173 #[.pointer (some ⟨g,0,none⟩),.int .i64 n] w fun e w'=>e=.returned (.int .i64 (kix s.kids n))∧Below w.heap.size w w':=by
 obtain ⟨w2,hw2⟩:∃w2,w.alloc (.cells #[.int .i64 n] 3)=w2:=⟨_,rfl⟩
 have hy:Below w.heap.size w w2:=by rw [← hw2];exact (Below.refl _ w).alloc (Nat.le_refl _) _
 have b0:Box w2 w.heap.size #[.int .i64 n]:=by rw [← hw2];exact Box.new w _ _
 have hP2:=hP.below hy
 have q:=hP2.cKd
 have hl:=hP.ok.kl
 go_enter Tryz.func173,Tryz.ntmps173
 go_wp2_with (go_at_call 245;(with_reducible refine (indexKid_any s.kids h.hk n (by omega) _ _ _ _ hP2.kids (b0.cell 0) b0.lt).mono ?_);rintro e w3 ⟨rfl,hb3⟩)
 go_ret
 exact ⟨rfl,hy.trans (hb3.mono hy.size)⟩
theorem Of.opn_mn (s:Of)(d:Int):s.opn d=decide (0≤d∧d<((mnL s.tm s.cy).length:Int)∧0≤gi (mnL s.tm s.cy) d.toNat):=by
 unfold Of.opn Of.days Of.menu
 rw [decide_eq_decide,mnL_length]
 constructor
 ·rintro ⟨h1,h2,h3⟩;exact ⟨h1,h2,by rw [mnL_at _ _ _ (by omega)];exact h3⟩
 ·rintro ⟨h1,h2,h3⟩;refine ⟨h1,h2,?_⟩;rw [mnL_at _ _ _ (by omega)] at h3;exact h3
theorem opn_any (hP:PO L N w F g h s)(d:Int) :
  Calls Tryz.prog 174 #[.pointer (some ⟨g,0,none⟩),.int .i64 d] w fun e w'=>e=.returned (.bool (s.opn d))∧w'=w:=by
 rw [Of.opn_mn]
 have q:=hP.cMn
 have hm:=hP.mn.rn
 obtain ⟨M,hM⟩:∃M,M=mnL s.tm s.cy:=⟨_,rfl⟩
 rw [← hM] at q hm ⊢
 clear hM
 by_cases h0:0≤d
 ·obtain ⟨n,rfl⟩:∃n:Nat,d=n:=⟨d.toNat,by omega⟩
  by_cases h1:n<M.length
  ·obtain ⟨ad,e,hab,c0⟩:=hm.at_ h1
   rw [e] at q
   by_cases h2:0≤gi M n
   all_goals
    go_enter Tryz.func174,Tryz.ntmps174
    go_wp2
    go_ret
    exact ⟨ret_bool (by first | (rw [decide_eq_decide];simp;omega) | (symm;rw [decide_eq_true_eq];exact ⟨by omega,by omega,by simpa using h2⟩) | (symm;rw [decide_eq_false_iff_not];simp;omega)),rfl⟩
  ·go_enter Tryz.func174,Tryz.ntmps174
   go_wp2
   go_ret
   exact ⟨ret_bool (by symm;rw [decide_eq_false_iff_not];omega),rfl⟩
 ·go_enter Tryz.func174,Tryz.ntmps174
  go_wp2
  go_ret
  exact ⟨ret_bool (by first | (symm;rw [decide_eq_false_iff_not];omega) | (simp;omega)),rfl⟩
end
theorem BkOk.len {b:Bk}(hb:BkOk b):BkLen b:=by
 have h1:=hb.i20;have h2:=hb.r16;have h3:=hb.p0;have h4:=hb.p10
 exact ⟨by omega,by omega,fun k hk=>by have:=hb.six k hk;omega,fun k hk=>by have:=isSet_len (hb.has k hk) (by omega);omega,fun k hk=>by have:=isSet_len (hb.iff k hk) (by omega);omega⟩
section
variable {L:Int}{N:Nat}{w:World}{F:Nat→Prop}{g:Nat}{h:Hd}{s:Of}
theorem OfOk.fl (hs:OfOk s):s.facts.length≤60:=(Vld.of hs.fv).len
theorem eats_any (hP:PO L N w F g h s)(c d:Int) :
  Calls Tryz.prog 187 #[.pointer (some ⟨g,0,none⟩),.int .i64 c,.int .i64 d] w fun e w'=>e=.returned (.bool (eatB s c d))∧Below w.heap.size w w':=by
 have k0:=cell_regrown hP.cFa;have k1:=cell_regrown hP.cNow
 have hl:=hP.ok.fl
 have cA:∀d' os,Calls Tryz.prog 58 #[.slice h.fa.1 s.facts.length h.fa.2,.int .i64 s.now,.int .i64 c,.int .i64 d] (grow (redrawn w d') os) fun e w''=>e=.returned (.tuple #[.int .i64 (knownR s.facts s.now c d),.int .i64 (askE s.facts c d)])∧∃p:Regrown,w''=grow (redrawn w p.d) p.os:=fun d' os =>
  Calls.regrown_of (knownX_any s.facts s.now c d (by omega) _ _ _ hP.fc _ (hP.rf.below (below_regrown w d' os)))
 have hk0:askE s.facts c d≠0→knownR s.facts s.now c d=0:=fun hn=>by unfold knownR;rw [if_neg hn]
 unfold eatB
 by_cases hq:askE s.facts c d=0
 ·have hq':(askE s.facts c d == 0)=true:=by simp [hq]
  rw [hq] at cA
  clear hk0 hq hq'
  go_enter Tryz.func187,Tryz.ntmps187
  go_wp2_with fail
  refine wp_region_quiet_below (by kernel_rfl) (by kernel_rfl) ?_
  repeat (go_big_quiet_step (first | with_reducible exact cA _ _))
  refine wpQuiet_nil ?_
  intro _ hw'
  obtain ⟨⟨dq,osq⟩,hw''⟩:=hw'
  subst hw''
  go_wp2_with fail
  go_ret
  exact ⟨rfl,below_regrown w dq osq⟩
 ·have hq':(askE s.facts c d == 0)=false:=by simp [hq]
  rw [hk0 hq] at cA ⊢
  clear hk0
  go_enter Tryz.func187,Tryz.ntmps187
  go_wp2_with fail
  refine wp_region_quiet_below (by kernel_rfl) (by kernel_rfl) ?_
  repeat (go_big_quiet_step (first | with_reducible exact cA _ _))
  refine wpQuiet_nil ?_
  intro _ hw'
  obtain ⟨⟨dq,osq⟩,hw''⟩:=hw'
  subst hw''
  go_wp2_with fail
  go_ret
  exact ⟨rfl,below_regrown w dq osq⟩
end
theorem indexIn_any (l lab:List Int)(hl:l.length≤1000000000)(hlab:lab.length≤1000000000)(A A':Option Addr)(c c' b:Nat)(w:World)(hR:RN w A l)(hLb:RN w A' lab)(hb:w.cell? ⟨b,0,none⟩=some (.slice A' lab.length c'))(hbs:b<w.heap.size) :
  Calls Tryz.prog 242 #[.slice A l.length c,.func (.func 269) #[] #[.pointer (some ⟨b,0,none⟩)]] w fun e w'=>∃r:Int,e=.returned (.int .i64 r)∧decide (0≤r)=anyTo (fun i=>hasB lab (gi l i)) l.length∧Below w.heap.size w w':=by
 go_enter Tryz.func242,Tryz.ntmps242
 go_wp2
 go_loopw [8] (fun x wr=>∃k:Nat,k≤l.length∧x=.int .i64 k∧Hid (anyTo (fun i=>hasB lab (gi l i)) k=false)∧Below w.heap.size w wr) (fun x _=>l.length-(intOf x).toNat)
 case atStart=>exact ⟨0,by omega,rfl,rfl,Below.refl _ _⟩
 case round =>
  obtain ⟨k,hkl,rfl,HK,hbl⟩:=hrel
  have hbr:=(hbl.cell (p:=⟨b,0,none⟩) hbs).trans hb
  have hLr:=hLb.below hbl
  have hsz:=hbl.size
  by_cases hlt:k<l.length
  ·obtain ⟨ad,rfl,hab,c0⟩:=(hR.below hbl).at_ hlt
   cases hq:hasB lab (gi l k) with
   | true =>
    have HV:Hid (anyTo (fun i=>hasB lab (gi l i)) l.length=true):=by show _=_;exact anyTo_yes (k:=k) hq hlt
    clear HK
    go_wp2_with (first | (go_at_call 265;(with_reducible refine (contains_any lab (gi l k) hlab A' c' _ hLr).mono ?_);rintro e w' ⟨rfl,rfl⟩;rw [hq]) | go_in)
    go_ret
    exact ⟨_,rfl,by rw [HV.out];simp,hbl⟩
   | false =>
    have HN:Hid (anyTo (fun i=>hasB lab (gi l i)) (k+1)=false):=by show _=_;simp only [anyTo];rw [HK.out,hq];rfl
    clear HK
    go_wp2_with (first | (go_at_call 265;(with_reducible refine (contains_any lab (gi l k) hlab A' c' _ hLr).mono ?_);rintro e w' ⟨rfl,rfl⟩;rw [hq]) | go_in)
    go_roundw
    case rel=>exact ⟨k+1,by omega,by go_num,HN,hbl⟩
    case measure=>simp [intOf];omega
  ·obtain rfl:k=l.length:=by omega
   go_wp2
   go_ret
   exact ⟨_,rfl,by rw [HK.out];rfl,hbl⟩
theorem containsIn_any (l lab:List Int)(hl:l.length≤1000000000)(hlab:lab.length≤1000000000)(A A':Option Addr)(c c' b:Nat)(w:World)(hR:RN w A l)(hLb:RN w A' lab)(hb:w.cell? ⟨b,0,none⟩=some (.slice A' lab.length c'))(hbs:b<w.heap.size) :
  Calls Tryz.prog 169 #[.slice A l.length c,.func (.func 269) #[] #[.pointer (some ⟨b,0,none⟩)]] w fun e w'=>e=.returned (.bool (anyTo (fun i=>hasB lab (gi l i)) l.length))∧Below w.heap.size w w':=by
 go_enter Tryz.func169,Tryz.ntmps169
 go_wp2_with (go_at_call 242;(with_reducible refine (indexIn_any l lab hl hlab A A' c c' b _ hR hLb hb hbs).mono ?_);rintro e w2 ⟨r,rfl,hr,hb2⟩)
 go_ret
 exact ⟨rfl,hb2⟩
section
variable {L:Int}{N:Nat}{w:World}{F:Nat→Prop}{g:Nat}{h:Hd}{s:Of}
theorem harms_any (hP:PO L N w F g h s)(hE:EnvZ w)(num:Int)(av:List Int)(hav:av.length≤1000000000)(A:Option Addr)(c:Nat)(hR:RN w A av)(item:Int) :
  Calls Tryz.prog 211 #[.pointer (some ⟨g,0,none⟩),.agg #[.int .i64 num,.slice A av.length c],.int .i64 item] w fun e w'=>e=.returned (.bool (harmB s.bk item av))∧Below w.heap.size w w':=by
 obtain ⟨w2,hw2⟩:∃w2,w.alloc (.cells #[.int .i64 num,.slice A av.length c] 56)=w2:=⟨_,rfl⟩
 have hy:Below w.heap.size w w2:=by rw [← hw2];exact (Below.refl _ w).alloc (Nat.le_refl _) _
 have b0:Box w2 w.heap.size #[.int .i64 num,.slice A av.length c]:=by rw [← hw2];exact Box.new w _ _
 have hP2:=hP.below hy
 have hE2:=hE.below hy
 have q8:=hP2.cProps;have q9:=hP2.cItems;have q10:=hP2.cRules
 have hL:=hP.ok.bk.len
 have hR2:=hR.below hy
 have x1:=b0.cell 1
 simp only [gqA,gqB,gqC] at x1
 by_cases hq:nmE s.bk item=0
 ·have hq':(nmE s.bk item == 0)=true:=by simp [hq]
  have hll:(labR s.bk item).length≤20:=by unfold labR;rw [if_pos hq];exact bitsL_len _
  have HQ:=Lib.hid hq;clear hq hq'
  go_enter Tryz.func211,Tryz.ntmps211
  go_wp2_with (first
   | (go_at_call 48;(with_reducible refine (Label_any s.bk hL item _ _ _ _ _ _ _ _ _ hE2 hP2.bk).mono ?_);rintro e w3 ⟨A3,c3,rfl,own3,hb3⟩;rw [HQ.out];obtain ⟨w4,hw4⟩:∃w4,w3.alloc (.cells #[.slice A3 (labR s.bk item).length c3] 22)=w4:=⟨_,rfl⟩;have hb4:Below w3.heap.size w3 w4:=(by rw [← hw4];exact (Below.refl _ _).alloc (Nat.le_refl _) _);have b4:Box w4 w3.heap.size #[.slice A3 (labR s.bk item).length c3]:=(by rw [← hw4];exact Box.new _ _ _);have hk4:=hb3.trans (hb4.mono hb3.size);have z1:=(b0.below hk4).cell 1;simp only [gqA,gqB,gqC] at z1;have hR4:=hR2.below hk4;have hL4:=(RN.of_own own3).below hb4)
   | (go_at_call 169;(with_reducible refine (containsIn_any av (labR s.bk item) hav (by omega) _ _ _ _ _ _ hR4 hL4 (b4.cell 0) b4.lt).mono ?_);rintro e w5 ⟨rfl,hb5⟩))
  go_ret
  exact ⟨rfl,hy.trans ((hk4.trans (hb5.mono hk4.size)).mono hy.size)⟩
 ·have hq':(nmE s.bk item == 0)=false:=by simp [hq]
  have hv:harmB s.bk item av=false:=by
   unfold harmB
   rw [anyTo_false]
   intro i _
   have:labR s.bk item=[]:=by unfold labR;rw [if_neg hq]
   rw [this];rfl
  rw [hv]
  clear hv
  go_enter Tryz.func211,Tryz.ntmps211
  go_wp2_with (go_at_call 48;(with_reducible refine (Label_any s.bk hL item _ _ _ _ _ _ _ _ _ hE2 hP2.bk).mono ?_);rintro e w3 ⟨A3,c3,rfl,own3,hb3⟩)
  go_ret
  exact ⟨rfl,hy.trans ((hb3.alloc hb3.size _).mono hy.size)⟩
end
end Go.Proofs.YtiapkffihpgdcaaGreatDoor
namespace Go.Proofs.YtiapkffihpgdcaaGreatDoor
open Go.RowKit
theorem ReadsF.move {I I':Nat→Prop}{w w':World}{size n:Nat}{A:Option Addr}{xs:List Value}(h:ReadsF I w size A n xs)(mv:∀k,I k→k<w.heap.size→I' k∧w'.heap[k]? = w.heap[k]?)(hs:w.heap.size≤w'.heap.size):ReadsF I' w' size A n xs :=
 ⟨⟨h.1.1,fun hn=>by
  obtain ⟨ad,e,hb,hc⟩:=h.1.2 hn
  exact ⟨ad,e,Nat.lt_of_lt_of_le hb hs,fun j u hu=>(World.cell?_of_block (w:=w) (by rw [block_of_add];exact (mv _ (h.2 ad e hn) hb).2)).trans (hc j u hu)⟩⟩,fun ad e hn=>by
  obtain ⟨ad',e',hb,_⟩:=h.1.2 hn
  have:=h.2 ad e hn
  rw [e] at e';cases e'
  exact (mv _ this hb).1⟩
section
variable {I I':Nat→Prop}{w w':World}{A A1 A2:Option Addr}(mv:∀k,I k→k<w.heap.size→I' k∧w'.heap[k]? = w.heap[k]?)(hs:w.heap.size≤w'.heap.size)
include mv hs
theorem RNF.move {l:List Int}(h:RNF I w A l):RNF I' w' A l:=ReadsF.move h mv hs
theorem RBk.move {b:Bk}{hp hq hr:Nat→SlH}(h:RBk I w A1 A2 b hp hq hr):RBk I' w' A1 A2 b hp hq hr :=
 ⟨⟨ReadsF.move h.it.row mv hs,fun k hk=>ReadsF.move (h.it.parts k hk) mv hs,fun k hk=>ReadsF.move (h.it.has k hk) mv hs⟩,⟨ReadsF.move h.rl.row mv hs,fun k hk=>ReadsF.move (h.rl.iff k hk) mv hs⟩⟩
end
section
variable {L L':Int}{N N':Nat}{w w':World}{F F':Nat→Prop}{g:Nat}{h h':Hd}{s s':Of}
theorem PO.next (hP:PO L N w F g h s)(box:Box w' g (cellsO L' s' h'))(lo:∀k,F' k→7≤k∧k<w'.heap.size)(gF:F' g)
  (mv:∀k,Im F g h k→k<w.heap.size→Im F' g h' k∧w'.heap[k]? = w.heap[k]?) (hs:w.heap.size≤w'.heap.size)
  (e:s'.tm=s.tm∧s'.cy=s.cy∧s'.bk=s.bk) (eh:h'.tr=h.tr∧h'.tc=h.tc∧h'.bi=h.bi∧h'.br=h.br∧h'.hp=h.hp∧h'.hq=h.hq∧h'.hr=h.hr∧h'.mn=h.mn)
  (fa:ReadsF (Im F' g h') w' 5 h'.fa.1 s'.facts.length (cellsF s'.facts)) (ri:ReadsF (Im F' g h') w' 3 h'.ri.1 s'.rights.length (cellsS s'.rights)) (av:∀k,k<s'.kids.length→RNF (Im F' g h') w' (h'.hk k).1 (gk s'.kids k).avoid)
  (ds:w'.ownsRow 0 81 2 (slN h'.ds s'.dishes.length) s'.dishes.length (cells2 s'.dishes.length (fun k=>St (gd s'.dishes k).name) (fun k=>.int .i64 (gd s'.dishes k).item)))
  (kd:w'.ownsRow 0 56 2 (slN h'.kd s'.kids.length) s'.kids.length (cells2 s'.kids.length (fun k=>.int .i64 (gk s'.kids k).num) (fun k=>slN (h'.hk k) (gk s'.kids k).avoid.length)))
  (od:w'.ownsRow 0 9 1 (slN h'.od s'.orders.length) s'.orders.length (strs s'.orders))
  (ck:MP w' N' h'.ck s'.cooked) (et:MP w' N' h'.et s'.eaten) (ckF:F' h'.ck∧h'.ck≠g) (etF:F' h'.et∧h'.et≠g∧h'.et≠h'.ck)
  (dsF:∀k,blkOf h'.ds=some k→F' k∧k≠g∧k≠h'.ck∧k≠h'.et) (kdF:∀k,blkOf h'.kd=some k→F' k∧k≠g∧k≠h'.ck∧k≠h'.et) (odF:∀k,blkOf h'.od=some k→F' k∧k≠g∧k≠h'.ck∧k≠h'.et)
  (fc:s'.facts.length≤h'.fa.2) (ok:OfOk s'):PO L' N' w' F' g h' s':=by
 obtain ⟨e1,e2,e3⟩:=e
 obtain ⟨r1,r2,r3,r4,r5,r6,r7,r8⟩:=eh
 refine ⟨box,lo,gF,?_,?_,?_,?_,fa,ri,av,ds,kd,od,ck,et,ckF,etF,dsF,kdF,odF,fc,ok⟩
 ·rw [r1,e1];exact hP.rest.move mv hs
 ·rw [r2,e1];exact hP.clo.move mv hs
 ·rw [r3,r4,r5,r6,r7,e3];exact RBk.move mv hs hP.bk
 ·rw [r8,e1,e2];exact hP.mn.move mv hs
/-- What a method that writes leaves. -/
def RetO (L:Int)(N:Nat)(w:World)(F:Nat→Prop)(g:Nat)(code:Int)(s':Of)(e:Ending)(w':World):Prop :=
 e=.returned (.int .i64 code)∧Off F w w'∧∃h',PO L N w' (grown F w w') g h' s'
theorem grown_lo (hP:PO L N w F g h s)(hs:w.heap.size≤w'.heap.size):∀k,grown F w w' k→7≤k∧k<w'.heap.size:=fun k hk=>by
 rcases hk with hk | hk
 ·have:=hP.lo k hk;omega
 ·have:=hP.lo g hP.gF;omega
theorem PO.below' (hP:PO L N w F g h s)(hb:Below w.heap.size w w'):PO L N w' (grown F w w') g h s:=(hP.below hb).wide (fun _ hk=>.inl hk) (grown_lo hP hb.size)
/-- Nothing was written. -/
theorem PO.quiet (hP:PO L N w F g h s){code:Int}{N':Nat}(hN:N≤N')(hb:Below w.heap.size w w'):RetO L N' w F g code s (.returned (.int .i64 code)) w':=⟨rfl,.of_below hb,h,(hP.below' hb).more hN⟩
/-- Blocks other than g are untouched by a store into g. -/
theorem set_other (w:World)(g j:Nat)(v:Value){k:Nat}(hk:k≠g):(w.setCell ⟨g,j,none⟩ v).heap[k]? = w.heap[k]?:=Below.heap_setCell _ _ _ _ hk
theorem set_size (w:World)(a:Addr)(v:Value):(w.setCell a v).heap.size=w.heap.size:=by simp [World.setCell]
theorem own_set_g {base e size n:Nat}{hh:SlH}{xs:List Value}(ho:w.ownsRow base e size (slN hh n) n xs)(hd:∀k,blkOf hh=some k→k≠g)(j:Nat)(v:Value):(w.setCell ⟨g,j,none⟩ v).ownsRow base e size (slN hh n) n xs :=
 ownsRow_setCell_other ho (fun e=>by rw [own_blk] at e;exact hd _ e rfl) v
theorem MP.set_g {b:Nat}{f:Int→Option Int}(hm:MP w N b f)(hb:b≠g)(j:Nat)(v:Value):MP (w.setCell ⟨g,j,none⟩ v) N b f:=hm.kept (F:=fun k=>k≠g) ⟨by rw [set_size];exact Nat.le_refl _,fun k hk _=>set_other _ _ _ _ hk⟩ hb
theorem Im.ne {k:Nat}(hi:Im F g h k):k≠g:=hi.2.1
/-- A store into a cell of the office,all lists as they were. -/
theorem PO.cell (hP:PO L N w F g h s)(j:Nat)(v:Value)(hj:j<20){L':Int}{s':Of}(hc:(cellsO L s h).setIfInBounds j v=cellsO L' s' h)
  (e:s'.tm=s.tm∧s'.cy=s.cy∧s'.bk=s.bk) (ef:s'.facts=s.facts∧s'.rights=s.rights∧s'.kids=s.kids∧s'.dishes=s.dishes∧s'.orders=s.orders∧s'.cooked=s.cooked∧s'.eaten=s.eaten) (ok:OfOk s') :
  PO L' N (w.setCell ⟨g,j,none⟩ v) F g h s':=by
 obtain ⟨f1,f2,f3,f4,f5,f6,f7⟩:=ef
 have hs:w.heap.size≤(w.setCell ⟨g,j,none⟩ v).heap.size:=by rw [set_size];exact Nat.le_refl _
 have mv:∀k,Im F g h k→k<w.heap.size→Im F g h k∧(w.setCell ⟨g,j,none⟩ v).heap[k]? = w.heap[k]?:=fun k hk _=>⟨hk,set_other _ _ _ _ hk.ne⟩
 refine hP.next ?_ (fun k hk=>by rw [set_size];exact hP.lo k hk) hP.gF mv hs e ⟨rfl,rfl,rfl,rfl,rfl,rfl,rfl,rfl⟩ ?_ ?_ ?_ ?_ ?_ ?_ ?_ ?_ hP.ckF hP.etF hP.dsF hP.kdF hP.odF ?_ ok
 ·rw [← hc];exact hP.box.set j v (by simpa [cellsO] using hj)
 ·rw [f1];exact hP.fa.move mv hs
 ·rw [f2];exact hP.ri.move mv hs
 ·rw [f3];exact fun k hk=>(hP.av k hk).move mv hs
 ·rw [f4];exact own_set_g hP.ds (fun k hk=>(hP.dsF k hk).2.1) j v
 ·rw [f3];exact own_set_g hP.kd (fun k hk=>(hP.kdF k hk).2.1) j v
 ·rw [f5];exact own_set_g hP.od (fun k hk=>(hP.odF k hk).2.1) j v
 ·rw [f6];exact hP.ck.set_g hP.ckF.2 j v
 ·rw [f7];exact hP.et.set_g hP.etF.2.1 j v
 ·rw [f1];exact hP.fc
/-- Another list of facts. -/
theorem PO.setFacts (hP:PO L N w F g h s){A:Option Addr}{c:Nat}{l:List Fact}(hr:ReadsF (Im F g h) w 5 A l.length (cellsF l))(hc:l.length≤c)(ok:OfOk { s with facts:=l }) :
  PO L N (w.setCell ⟨g,15,none⟩ (.slice A l.length c)) F g { h with fa:=(A,c) } { s with facts:=l }:=by
 have hs:w.heap.size≤(w.setCell ⟨g,15,none⟩ (.slice A l.length c)).heap.size:=by rw [set_size];exact Nat.le_refl _
 have mv:∀k,Im F g h k→k<w.heap.size→Im F g { h with fa:=(A,c) } k∧(w.setCell ⟨g,15,none⟩ (.slice A l.length c)).heap[k]? = w.heap[k]?:=fun k hk _=>⟨hk,set_other _ _ _ _ hk.ne⟩
 exact hP.next (hP.box.set 15 _ (by simp [cellsO])) (fun k hk=>by rw [set_size];exact hP.lo k hk) hP.gF mv hs ⟨rfl,rfl,rfl⟩ ⟨rfl,rfl,rfl,rfl,rfl,rfl,rfl,rfl⟩ (hr.move mv hs) (hP.ri.move mv hs) (fun k hk=>(hP.av k hk).move mv hs)
  (own_set_g hP.ds (fun k hk=>(hP.dsF k hk).2.1) _ _) (own_set_g hP.kd (fun k hk=>(hP.kdF k hk).2.1) _ _) (own_set_g hP.od (fun k hk=>(hP.odF k hk).2.1) _ _) (hP.ck.set_g hP.ckF.2 _ _) (hP.et.set_g hP.etF.2.1 _ _) hP.ckF hP.etF hP.dsF hP.kdF hP.odF hc ok
/-- Another list of rights. -/
theorem PO.setRights (hP:PO L N w F g h s){A:Option Addr}{c:Nat}{l:List Sp}(hr:ReadsF (Im F g h) w 3 A l.length (cellsS l))(ok:OfOk { s with rights:=l }) :
  PO L N (w.setCell ⟨g,16,none⟩ (.slice A l.length c)) F g { h with ri:=(A,c) } { s with rights:=l }:=by
 have hs:w.heap.size≤(w.setCell ⟨g,16,none⟩ (.slice A l.length c)).heap.size:=by rw [set_size];exact Nat.le_refl _
 have mv:∀k,Im F g h k→k<w.heap.size→Im F g { h with ri:=(A,c) } k∧(w.setCell ⟨g,16,none⟩ (.slice A l.length c)).heap[k]? = w.heap[k]?:=fun k hk _=>⟨hk,set_other _ _ _ _ hk.ne⟩
 exact hP.next (hP.box.set 16 _ (by simp [cellsO])) (fun k hk=>by rw [set_size];exact hP.lo k hk) hP.gF mv hs ⟨rfl,rfl,rfl⟩ ⟨rfl,rfl,rfl,rfl,rfl,rfl,rfl,rfl⟩ (hP.fa.move mv hs) (hr.move mv hs) (fun k hk=>(hP.av k hk).move mv hs)
  (own_set_g hP.ds (fun k hk=>(hP.dsF k hk).2.1) _ _) (own_set_g hP.kd (fun k hk=>(hP.kdF k hk).2.1) _ _) (own_set_g hP.od (fun k hk=>(hP.odF k hk).2.1) _ _) (hP.ck.set_g hP.ckF.2 _ _) (hP.et.set_g hP.etF.2.1 _ _) hP.ckF hP.etF hP.dsF hP.kdF hP.odF hP.fc ok
/-- One of the two maps was written. -/
theorem PO.setMaps (hP:PO L N w F g h s){b:Nat}(hb:b=h.ck∨b=h.et)(hg:w.grownBy w' (some b)){N':Nat}{f1 f2:Int→Option Int}(h1:MP w' N' h.ck f1)(h2:MP w' N' h.et f2)(ok:OfOk { s with cooked:=f1,eaten:=f2 }) :
  PO L N' w' (grown F w w') g h { s with cooked:=f1,eaten:=f2 }:=by
 have hbF:F b∧b≠g:=by rcases hb with rfl | rfl;exact hP.ckF;exact ⟨hP.etF.1,hP.etF.2.1⟩
 have mv:∀k,Im F g h k→k<w.heap.size→Im (grown F w w') g h k∧w'.heap[k]? = w.heap[k]?:=fun k hk hl=>⟨Im.mono (fun _ x=>.inl x) hk,hg.block k hl (fun e=>by injection e with e;subst e;rcases hb with rfl | rfl;exact hk.2.2.1 rfl;exact hk.2.2.2.1 rfl)⟩
 have hk:Keeps (fun k=>k≠b) w w':=⟨hg.size,fun k hk hl=>hg.block k hl (fun e=>by injection e with e;exact hk e)⟩
 have hrow:∀k,k≠h.ck∧k≠h.et→k≠b:=fun k hx e=>by rcases hb with hb | hb;exact hx.1 (e.trans hb);exact hx.2 (e.trans hb)
 refine hP.next (hP.box.kept hk (Ne.symm hbF.2)) (grown_lo hP hg.size) (.inl hP.gF) mv hg.size ⟨rfl,rfl,rfl⟩ ⟨rfl,rfl,rfl,rfl,rfl,rfl,rfl,rfl⟩ (hP.fa.move mv hg.size) (hP.ri.move mv hg.size) (fun k hk=>(hP.av k hk).move mv hg.size)
  (own_kept hP.ds hk fun k e=>?_) (own_kept hP.kd hk fun k e=>?_) (own_kept hP.od hk fun k e=>?_) h1 h2 ⟨.inl hP.ckF.1,hP.ckF.2⟩ ⟨.inl hP.etF.1,hP.etF.2⟩ (fun k e=>⟨.inl (hP.dsF k e).1,(hP.dsF k e).2⟩) (fun k e=>⟨.inl (hP.kdF k e).1,(hP.kdF k e).2⟩) (fun k e=>⟨.inl (hP.odF k e).1,(hP.odF k e).2⟩) hP.fc ok
 ·rw [own_blk] at e;exact hrow k (hP.dsF k e).2.2
 ·rw [own_blk] at e;exact hrow k (hP.kdF k e).2.2
 ·rw [own_blk] at e;exact hrow k (hP.odF k e).2.2
theorem Off.of_grown {row:Option Nat}(hg:w.grownBy w' row)(hr:∀k,row=some k→F k):Off F w w':=⟨hg.os,hg.tape,hg.output,hg.size,fun k hl hk=>hg.block k hl (fun e=>hk (hr k e.symm))⟩
end
end Go.Proofs.YtiapkffihpgdcaaGreatDoor
namespace Go.Proofs.YtiapkffihpgdcaaGreatDoor
open Go.RowKit Go.Maps
theorem intKey:Keyed Tryz.prog 3:=int_keyed Tryz.underlying3
theorem zeroInt (w:World):(zeroValue 3).run Tryz.prog w=.ok (.int .i64 0) w:=by kernel_rfl
theorem key_int {d:Int}(hd:(Lit.int .i64 d).wf=true):keyOf Tryz.prog 3 (.int .i64 d)=some (.int .i64 d):=keyOf_int_mk Tryz.underlying3 hd
theorem wf_int {d:Int}(h0 : -1000000000≤d)(h1:d≤1000000000):(Lit.int .i64 d).wf=true:=by
 have e1:IntKind.i64.min = -9223372036854775808:=by decide
 have e2:IntKind.i64.max=9223372036854775807:=by decide
 simp [Lit.wf,e1,e2]
 omega
theorem MP.look {w:World}{N b:Nat}{f:Int→Option Int}(hm:MP w N b f){d:Int}(hd:(Lit.int .i64 d).wf=true){P:Prop} :
  (∀(n:Nat) (D:DataW Unit),n≤N→w.ownsMap Tryz.prog 3 (plainElem (H:=Unit) Tryz.prog 3) b n D→Maps.has D (.int .i64 d)=(f d).isSome→D.atKey (.int .i64 d) (.lit (.int .i64 0))=.lit (.int .i64 ((f d).getD 0))→Hid (Maps.IsMap D∧∀d:Int,(Lit.int .i64 d).wf=true→Maps.has D (.int .i64 d)=(f d).isSome∧D.atKey (.int .i64 d) (.lit (.int .i64 0))=.lit (.int .i64 ((f d).getD 0)))→P)→P:=fun k=>by
 obtain ⟨n,D,hn,ho,hd'⟩:=hm
 have hI:Maps.IsMap D:=by
  obtain ⟨es,clock,_,_,_,rfl⟩:=ho
  exact ⟨_,rfl⟩
 exact k n D hn ho (hd' d hd).1 (hd' d hd).2 ⟨hI,hd'⟩
theorem MP.put {w':World}{N b n:Nat}{f:Int→Option Int}{D:DataW Unit}(hn:n≤N)(hd':∀d:Int,(Lit.int .i64 d).wf=true→Maps.has D (.int .i64 d)=(f d).isSome∧D.atKey (.int .i64 d) (.lit (.int .i64 0))=.lit (.int .i64 ((f d).getD 0)))
  (hm:Maps.IsMap D) {d v:Int} (hd:(Lit.int .i64 d).wf=true) (ho:w'.ownsMap Tryz.prog 3 (plainElem (H:=Unit) Tryz.prog 3) b (n+1) (D.put (.int .i64 d) (.lit (.int .i64 v)))):MP w' (N+1) b (updF f d v):=by
 refine ⟨n+1,_,by omega,ho,fun x hx=>?_⟩
 unfold updF
 by_cases e:x=d
 ·subst e
  rw [if_pos rfl]
  exact ⟨Maps.has_put_same hm (by trivial) _,Maps.atKey_put_same hm (by trivial) _ _⟩
 ·rw [if_neg e,Maps.has_put_other (fun h=>e (by injection h)),Maps.atKey_put_other (fun h=>e (by injection h))]
  exact hd' x hx
section
variable {L:Int}{N:Nat}{w:World}{F:Nat→Prop}{g:Nat}{h:Hd}{s:Of}
theorem wait_any (hP:PO L N w F g h s)(n:Int) :
  Calls Tryz.prog 235 #[.pointer (some ⟨g,0,none⟩),.int .i64 n] w (RetO L N w F g (if n<s.now then 7 else if 1440000<n then 4 else 0) (if n<s.now then s else if 1440000<n then s else { s with now:=n })):=by
 have q:=hP.cNow
 have q2:=hP.box.free 12
 by_cases h1:n<s.now
 ·rw [if_pos h1,if_pos h1]
  go_enter Tryz.func235,Tryz.ntmps235
  go_wp2
  go_ret
  exact hP.quiet (Nat.le_refl _) (Below.refl _ _)
 ·rw [if_neg h1,if_neg h1]
  by_cases h2:1440000<n
  ·rw [if_pos h2,if_pos h2]
   go_enter Tryz.func235,Tryz.ntmps235
   go_wp2
   go_ret
   exact hP.quiet (Nat.le_refl _) (Below.refl _ _)
  ·rw [if_neg h2,if_neg h2]
   have hs':=hP.cell 12 (.int .i64 n) (by omega) (L':=L) (s':={ s with now:=n }) rfl ⟨rfl,rfl,rfl⟩ ⟨rfl,rfl,rfl,rfl,rfl,rfl,rfl⟩ (hP.ok.at_ (by omega) (by omega))
   go_enter Tryz.func235,Tryz.ntmps235
   go_wp2
   go_ret
   refine ⟨rfl,(Off.refl F w).setCell (.inl hP.gF) _,h,hs'.wide (fun _ hk=>.inl hk) fun k hk=>?_⟩
   rw [set_size]
   rcases hk with hk | hk
   ·exact hP.lo k hk
   ·rw [set_size] at hk;omega
theorem Of.opn_bd (hs:OfOk s){d:Int}(h:s.opn d=true):0≤d∧d<1000:=by
 unfold Of.opn at h
 rw [decide_eq_true_eq] at h
 have:=days_le hs.tm
 omega
theorem cook_any (hP:PO L N w F g h s)(hN:N<1000000000)(d n:Int)(hn:0≤n) :
  Calls Tryz.prog 240 #[.pointer (some ⟨g,0,none⟩),.int .i64 d,.int .i64 n] w (RetO L (N+1) w F g (cokE s d n) (if cokE s d n=0 then { s with cooked:=updF s.cooked d n } else s)):=by
 have q:=hP.cCk
 cases ho:s.opn d with
 | false =>
  have he:cokE s d n=13:=by unfold cokE;rw [if_pos ho]
  rw [he,if_neg (by decide)]
  go_enter Tryz.func240,Tryz.ntmps240
  go_wp2_with (go_at_call 174;(with_reducible refine (opn_any hP d).mono ?_);rintro e w' ⟨rfl,rfl⟩;rw [ho])
  go_ret
  exact hP.quiet (Nat.le_succ _) (Below.refl _ _)
 | true =>
  obtain ⟨hd0,hd1⟩:=Of.opn_bd hP.ok ho
  have hwf:=wf_int (d:=d) (by omega) (by omega)
  refine hP.ck.look hwf fun m D hmN hown hhas hat HD=>?_
  cases hc:(s.cooked d).isSome with
  | true =>
   have he:cokE s d n=12:=by unfold cokE;rw [if_neg (by rw [ho];decide),if_pos hc]
   rw [he,if_neg (by decide)]
   rw [hc] at hhas
   go_enter Tryz.func240,Tryz.ntmps240
   go_wp2_with (first | (go_at_call 174;(with_reducible refine (opn_any hP d).mono ?_);rintro e w' ⟨rfl,rfl⟩;rw [ho]) | (at_lookup;refine wpList_lookup_own_ok_int _ rfl _ _ 127 rfl 3 3 .i64 intKey Tryz.underlying127 Tryz.underlying3 (zeroInt _) h.ck m D rfl hown (.int .i64 d) (.int .i64 d) rfl (key_int hwf) ?_;intro c hcat hwc;rw [hhas]))
   go_ret
   exact hP.quiet (Nat.le_succ _) (Below.refl _ _)
  | false =>
   rw [hc] at hhas
   by_cases h4:100000<n
   ·have he:cokE s d n=4:=by unfold cokE;rw [if_neg (by rw [ho];decide),if_neg (by rw [hc];decide),if_pos h4]
    rw [he,if_neg (by decide)]
    go_enter Tryz.func240,Tryz.ntmps240
    go_wp2_with (first | (go_at_call 174;(with_reducible refine (opn_any hP d).mono ?_);rintro e w' ⟨rfl,rfl⟩;rw [ho]) | (at_lookup;refine wpList_lookup_own_ok_int _ rfl _ _ 127 rfl 3 3 .i64 intKey Tryz.underlying127 Tryz.underlying3 (zeroInt _) h.ck m D rfl hown (.int .i64 d) (.int .i64 d) rfl (key_int hwf) ?_;intro c hcat hwc;rw [hhas]))
    go_ret
    exact hP.quiet (Nat.le_succ _) (Below.refl _ _)
   ·have he:cokE s d n=0:=by unfold cokE;rw [if_neg (by rw [ho];decide),if_neg (by rw [hc];decide),if_neg h4]
    rw [he,if_pos rfl]
    have hok:=hP.ok.cook hn he
    have hnw:=wf_int (d:=n) (by omega) (by omega)
    clear he hc
    go_enter Tryz.func240,Tryz.ntmps240
    go_wp2_with (first | (go_at_call 174;(with_reducible refine (opn_any hP d).mono ?_);rintro e w' ⟨rfl,rfl⟩;rw [ho]) | (at_lookup;refine wpList_lookup_own_ok_int _ rfl _ _ 127 rfl 3 3 .i64 intKey Tryz.underlying127 Tryz.underlying3 (zeroInt _) h.ck m D rfl hown (.int .i64 d) (.int .i64 d) rfl (key_int hwf) ?_;intro c hcat hwc;rw [hhas]) | (at_mapUpdate;refine wpList_mapUpdate_own _ rfl _ _ _ 127 rfl 3 3 intKey Tryz.underlying127 _ h.ck m D rfl hown (by unfold maxLen;omega) _ _ (.int .i64 d) rfl rfl (key_int hwf) (.lit (.int .i64 n)) [] (plainElem_int Tryz.underlying3 hnw) ?_;intro w1 hown1 hg1))
    go_ret
    have hm1:=MP.put hmN HD.out.2 HD.out.1 hwf hown1
    have hk1:Keeps (fun k=>k≠h.ck) _ w1:=⟨hg1.size,fun k hk hl=>hg1.block k hl (fun e=>by injection e with e;exact hk e)⟩
    exact ⟨rfl,Off.of_grown hg1 (fun k e=>by injection e with e;subst e;exact hP.ckF.1),h,hP.setMaps (.inl rfl) hg1 hm1 ((hP.et.kept hk1 hP.etF.2.2).more (Nat.le_succ _)) hok⟩
theorem eat_any (hP:PO L N w F g h s)(hN:N<1000000000)(d n:Int)(hn:0≤n) :
  Calls Tryz.prog 241 #[.pointer (some ⟨g,0,none⟩),.int .i64 d,.int .i64 n] w (RetO L (N+1) w F g (eteE s d n) (if eteE s d n=0 then { s with eaten:=updF s.eaten d n } else s)):=by
 have q:=hP.cCk
 have q2:=hP.cEt
 cases ho:s.opn d with
 | false =>
  have he:eteE s d n=13:=by unfold eteE;rw [if_pos ho]
  rw [he,if_neg (by decide)]
  go_enter Tryz.func241,Tryz.ntmps241
  go_wp2_with (go_at_call 174;(with_reducible refine (opn_any hP d).mono ?_);rintro e w' ⟨rfl,rfl⟩;rw [ho])
  go_ret
  exact hP.quiet (Nat.le_succ _) (Below.refl _ _)
 | true =>
  obtain ⟨hd0,hd1⟩:=Of.opn_bd hP.ok ho
  have hwf:=wf_int (d:=d) (by omega) (by omega)
  refine hP.ck.look hwf fun m D hmN hown hhas hat HD=>?_
  refine hP.et.look hwf fun m2 D2 hmN2 hown2 hhas2 hat2 HD2=>?_
  cases hc:(s.cooked d).isSome with
  | false =>
   have he:eteE s d n=12:=by unfold eteE;rw [if_neg (by rw [ho];decide),if_pos (.inl (by cases hx:s.cooked d with | none=>rfl | some x=>rw [hx] at hc;cases hc))]
   rw [he,if_neg (by decide)]
   rw [hc] at hhas
   cases hc2:(s.eaten d).isSome
   all_goals
    rw [hc2] at hhas2
    go_enter Tryz.func241,Tryz.ntmps241
    go_wp2_with (first | (go_at_call 174;(with_reducible refine (opn_any hP d).mono ?_);rintro e w' ⟨rfl,rfl⟩;rw [ho]) | (at_lookup;refine wpList_lookup_own_ok_int _ rfl _ _ 127 rfl 3 3 .i64 intKey Tryz.underlying127 Tryz.underlying3 (zeroInt _) h.ck m D rfl hown (.int .i64 d) (.int .i64 d) rfl (key_int hwf) ?_;intro c hcat hwc;rw [hhas]) | (at_lookup;refine wpList_lookup_own_ok_int _ rfl _ _ 127 rfl 3 3 .i64 intKey Tryz.underlying127 Tryz.underlying3 (zeroInt _) h.et m2 D2 rfl hown2 (.int .i64 d) (.int .i64 d) rfl (key_int hwf) ?_;intro c2 hcat2 hwc2;rw [hhas2]))
    go_ret
    exact hP.quiet (Nat.le_succ _) (Below.refl _ _)
  | true =>
   rw [hc] at hhas
   cases hc2:(s.eaten d).isSome with
   | true =>
    have he:eteE s d n=12:=by unfold eteE;rw [if_neg (by rw [ho];decide),if_pos (.inr hc2)]
    rw [he,if_neg (by decide)]
    rw [hc2] at hhas2
    go_enter Tryz.func241,Tryz.ntmps241
    go_wp2_with (first | (go_at_call 174;(with_reducible refine (opn_any hP d).mono ?_);rintro e w' ⟨rfl,rfl⟩;rw [ho]) | (at_lookup;refine wpList_lookup_own_ok_int _ rfl _ _ 127 rfl 3 3 .i64 intKey Tryz.underlying127 Tryz.underlying3 (zeroInt _) h.ck m D rfl hown (.int .i64 d) (.int .i64 d) rfl (key_int hwf) ?_;intro c hcat hwc;rw [hhas]) | (at_lookup;refine wpList_lookup_own_ok_int _ rfl _ _ 127 rfl 3 3 .i64 intKey Tryz.underlying127 Tryz.underlying3 (zeroInt _) h.et m2 D2 rfl hown2 (.int .i64 d) (.int .i64 d) rfl (key_int hwf) ?_;intro c2 hcat2 hwc2;rw [hhas2]))
    go_ret
    exact hP.quiet (Nat.le_succ _) (Below.refl _ _)
   | false =>
    rw [hc2] at hhas2
    have hne:¬ ((s.cooked d).isNone=true∨(s.eaten d).isSome=true):=by rw [hc2];cases hx:s.cooked d with | none=>rw [hx] at hc;cases hc | some x=>simp
    by_cases h4:(s.cooked d).getD 0<n
    ·have he:eteE s d n=11:=by unfold eteE;rw [if_neg (by rw [ho];decide),if_neg hne,if_pos h4]
     rw [he,if_neg (by decide)]
     obtain ⟨K,hK⟩:∃K,(s.cooked d).getD 0=K:=⟨_,rfl⟩
     rw [hK] at hat h4
     clear he hc hc2 hne hK
     go_enter Tryz.func241,Tryz.ntmps241
     go_wp2_with (first | (go_at_call 174;(with_reducible refine (opn_any hP d).mono ?_);rintro e w' ⟨rfl,rfl⟩;rw [ho]) | (at_lookup;refine wpList_lookup_own_ok_int _ rfl _ _ 127 rfl 3 3 .i64 intKey Tryz.underlying127 Tryz.underlying3 (zeroInt _) h.ck m D rfl hown (.int .i64 d) (.int .i64 d) rfl (key_int hwf) ?_;intro c hcat hwc;rw [hhas];rw [hat] at hcat;injection hcat with hcat;injection hcat with _ hcat;subst hcat) | (at_lookup;refine wpList_lookup_own_ok_int _ rfl _ _ 127 rfl 3 3 .i64 intKey Tryz.underlying127 Tryz.underlying3 (zeroInt _) h.et m2 D2 rfl hown2 (.int .i64 d) (.int .i64 d) rfl (key_int hwf) ?_;intro c2 hcat2 hwc2;rw [hhas2]))
     go_ret
     exact hP.quiet (Nat.le_succ _) (Below.refl _ _)
    ·have he:eteE s d n=0:=by unfold eteE;rw [if_neg (by rw [ho];decide),if_neg hne,if_neg h4]
     rw [he,if_pos rfl]
     have hok:=hP.ok.eat hn he
     have hck2:∃x,s.cooked d=some x:=by cases hx:s.cooked d with | none=>rw [hx] at hc;cases hc | some x=>exact ⟨x,rfl⟩
     obtain ⟨x,hx⟩:=hck2
     obtain ⟨_,hx0,hx1⟩:=hP.ok.ck d x hx
     rw [hx] at h4
     simp only [Option.getD_some] at h4
     have hnw:=wf_int (d:=n) (by omega) (by omega)
     rw [hx] at hat
     simp only [Option.getD_some] at hat
     clear he hc hc2 hne hx
     go_enter Tryz.func241,Tryz.ntmps241
     go_wp2_with (first | (go_at_call 174;(with_reducible refine (opn_any hP d).mono ?_);rintro e w' ⟨rfl,rfl⟩;rw [ho]) | (at_lookup;refine wpList_lookup_own_ok_int _ rfl _ _ 127 rfl 3 3 .i64 intKey Tryz.underlying127 Tryz.underlying3 (zeroInt _) h.ck m D rfl hown (.int .i64 d) (.int .i64 d) rfl (key_int hwf) ?_;intro c hcat hwc;rw [hhas];rw [hat] at hcat;injection hcat with hcat;injection hcat with _ hcat;subst hcat) | (at_lookup;refine wpList_lookup_own_ok_int _ rfl _ _ 127 rfl 3 3 .i64 intKey Tryz.underlying127 Tryz.underlying3 (zeroInt _) h.et m2 D2 rfl hown2 (.int .i64 d) (.int .i64 d) rfl (key_int hwf) ?_;intro c2 hcat2 hwc2;rw [hhas2]) | (at_mapUpdate;refine wpList_mapUpdate_own _ rfl _ _ _ 127 rfl 3 3 intKey Tryz.underlying127 _ h.et m2 D2 rfl hown2 (by unfold maxLen;omega) _ _ (.int .i64 d) rfl rfl (key_int hwf) (.lit (.int .i64 n)) [] (plainElem_int Tryz.underlying3 hnw) ?_;intro w1 hown1 hg1))
     go_ret
     have hm1:=MP.put hmN2 HD2.out.2 HD2.out.1 hwf hown1
     have hk1:Keeps (fun k=>k≠h.et) _ w1:=⟨hg1.size,fun k hk hl=>hg1.block k hl (fun e=>by injection e with e;exact hk e)⟩
     exact ⟨rfl,Off.of_grown hg1 (fun k e=>by injection e with e;subst e;exact hP.etF.1),h,hP.setMaps (.inr rfl) hg1 ((hP.ck.kept hk1 (Ne.symm hP.etF.2.2)).more (Nat.le_succ _)) hm1 hok⟩
end
end Go.Proofs.YtiapkffihpgdcaaGreatDoor
namespace Go.Proofs.YtiapkffihpgdcaaGreatDoor
open Go.RowKit Go.Shelf Go.Sort Go.Lib Go.Proofs
/-- A child and where its list lies. -/
abbrev KS:=Kd × SlH
instance instInhKS:Inhabited KS:=⟨(⟨0,[]⟩,(none,0))⟩
def kv (x:KS):List Value:=[.int .i64 x.1.num,slN x.2 x.1.avoid.length]
def gKS (l:List KS)(k:Nat):KS:=l.getD k (⟨0,[]⟩,(none,0))
def ksC (l:List KS):List Value:=cells2 l.length (fun k=>.int .i64 (gKS l k).1.num) (fun k=>slN (gKS l k).2 (gKS l k).1.avoid.length)
theorem ksC_len (l:List KS):(ksC l).length=l.length*2:=cells2_length _ _ _
theorem ksC_at (l:List KS){k j:Nat}(hk:k<l.length)(hj:j<2):(ksC l)[k*2+j]? = (kv (gKS l k))[j]?:=by
 obtain ⟨h0,h1⟩:=cells2_at l.length (fun k=>.int .i64 (gKS l k).1.num) (fun k=>slN (gKS l k).2 (gKS l k).1.avoid.length) k hk
 match j,hj with
 | 0,_=>exact h0
 | 1,_=>exact h1
theorem gKS_get (l:List KS){k:Nat}(hk:k<l.length):gKS l k=l[k]:=by simp [gKS,hk]
theorem flat_kids (l:List KS):flatK kv 2 l.toArray=(ksC l).toArray:=by
 apply Array.ext_getElem?
 intro t
 by_cases h:t<l.length*2
 ·have h1:(ksC l)[t]? = (kv (gKS l (t / 2)))[t % 2]?:=by
   have:=ksC_at l (k:=t / 2) (j:=t % 2) (by omega) (Nat.mod_lt _ (by omega))
   rw [show t / 2*2+t % 2=t by omega] at this
   exact this
  have h2:t<(flatK kv 2 l.toArray).size:=by rw [size_flatK];simpa using h
  have h3:=get_flatK kv 2 l.toArray t (by simpa using h)
  rw [Array.getElem?_eq_getElem h2,← getElem!_pos (flatK kv 2 l.toArray) t h2,h3]
  simp only [gqA]
  rw [h1]
  have h4:l.toArray[t / 2]! = gKS l (t / 2):=by
   rw [getElem!_pos l.toArray (t / 2) (by simp;omega)]
   simp [gKS,show t / 2<l.length by omega]
  have h5:t % 2<(kv (gKS l (t / 2))).length:=by simp [kv];omega
  rw [h4,List.getElem?_eq_getElem h5,getElem!_pos (kv (gKS l (t / 2))) (t % 2) h5]
 ·rw [Array.getElem?_eq_none (by rw [size_flatK];simp;omega),Array.getElem?_eq_none (by simp [ksC_len];omega)]
theorem heap_sortedV {w:World}{g n:Nat}{os:Array Obj}{cur:Array Value}{e:TypeId}{fr:Nat × Nat}(d:Array Value)(hb:w.heap[g]? = some (.cells cur e fr)) :
  (grow (putRow id (Sort.ahead w n) g 0 d) os).heap[g]? = some (.cells (putCells id 0 d cur) e fr):=by
 have hg:g<w.heap.size:=(Array.getElem?_eq_some_iff.1 hb).1
 rw [heap_grow_old _ _ (by simpa using hg)]
 simp [putRow,mapBlock,Sort.ahead,Array.getElem?_modify,hb,onCells]
theorem grownBy_sortedV {w:World}{g n:Nat}{os:Array Obj}(d:Array Value):w.grownBy (grow (putRow id (Sort.ahead w n) g 0 d) os) (some g):=by
 refine ⟨rfl,rfl,rfl,by simp,fun k hk hne=>?_⟩
 rw [heap_grow_old _ _ (by simpa using hk)]
 have:g≠k:=fun e=>hne (by rw [e])
 simp [putRow,mapBlock,Sort.ahead,Array.getElem?_modify,this]
theorem take_putCellsV (cur:Array Value)(ts:List Value)(h:ts.length≤cur.size):(putCells id 0 ts.toArray cur).toList.take ts.length=ts:=by
 apply List.ext_getElem?
 intro j
 by_cases hj:j<ts.length
 ·rw [List.getElem?_take_of_lt hj,Array.getElem?_toList]
  simp [putCells,hj,show j<cur.size by omega]
 ·rw [List.getElem?_take_eq_none (by omega),List.getElem?_eq_none (by omega)]
def cfK (x y:KS):Int:=Lib.compareInt x.1.num y.1.num
theorem ltK (x y:KS):ltOf cfK x y=decide (x.1.num<y.1.num):=by
 unfold ltOf cfK Lib.compareInt
 by_cases h1:x.1.num<y.1.num
 ·simp [h1]
 ·by_cases h2:y.1.num<x.1.num <;> simp [h1,h2]
theorem swoK:SWO (ltOf cfK) where
 irrefl x:=by rw [ltK];simp
 trans x y z h1 h2:=by rw [ltK] at *;simp at *;omega
 ntrans x y z h1 h2:=by rw [ltK] at *;simp at *;omega
theorem compK_any (x y:KS)(W:World):Calls Tryz.prog 288 #[.agg #[.int .i64 x.1.num,slN x.2 x.1.avoid.length],.agg #[.int .i64 y.1.num,slN y.2 y.1.avoid.length]] W fun e w'=>e=.returned (.int .i64 (cfK x y))∧∃q os',w'=grow (W.drewN q) os':=by
 obtain ⟨r,hr⟩:∃r,r=cfK x y:=⟨_,rfl⟩
 rw [← hr]
 unfold slN
 rcases Int.lt_trichotomy x.1.num y.1.num with h | h | h
 ·have e:r = -1:=by rw [hr,cfK,Lib.compareInt];simp [h]
  have E:=Lib.hid e
  clear e hr
  go_enter Tryz.func288,Tryz.ntmps288
  go_wp2
  go_ret
  exact ⟨by rw [E.out] <;> rfl,0,_,by rw [alloc_eq_grow,alloc_eq_grow,grow_grow];rfl⟩
 ·have e:r=0:=by rw [hr,cfK,Lib.compareInt];simp [h]
  have E:=Lib.hid e
  have h1:¬ x.1.num<y.1.num:=by omega
  have h2:¬ y.1.num<x.1.num:=by omega
  clear e hr h
  go_enter Tryz.func288,Tryz.ntmps288
  go_wp2
  go_ret
  exact ⟨by rw [E.out] <;> rfl,0,_,by rw [alloc_eq_grow,alloc_eq_grow,grow_grow];rfl⟩
 ·have e:r=1:=by rw [hr,cfK,Lib.compareInt];simp [h,show ¬ x.1.num<y.1.num by omega]
  have E:=Lib.hid e
  have h1:¬ x.1.num<y.1.num:=by omega
  clear e hr
  go_enter Tryz.func288,Tryz.ntmps288
  go_wp2
  go_ret
  exact ⟨by rw [E.out] <;> rfl,0,_,by rw [alloc_eq_grow,alloc_eq_grow,grow_grow];rfl⟩
theorem sortK_some (l:List KS)(hl:l.length≤1000000)(h0:0<l.length)(A:Option Addr)(cp base:Nat)(w:World)(own:w.ownsRow base 56 2 (.slice A l.length cp) l.length (ksC l))(hbase:base≤w.heap.size) :
  Calls Tryz.prog 287 #[.slice A l.length cp,.func (.func 288) #[] #[]] w fun e w' =>
   e=.returned (.tuple #[])∧∃m:List KS,m.Perm l∧(∀i j,i<j→j<m.length→(gKS m i).1.num≤(gKS m j).1.num)∧w'.ownsRow base 56 2 (.slice A l.length cp) m.length (ksC m)∧w.grownBy w' (blkOf (A,cp)):=by
 have own':=own
 rcases own'.2 with ⟨_,h2⟩ | ⟨g,cap,cur,hv,hbg,hg,hlc,hm,hc,ht⟩
 ·omega
 injection hv with hA _ hcap
 subst hA
 subst hcap
 have hgs:g<w.heap.size:=(Array.getElem?_eq_some_iff.1 hg).1
 have hH:HoldsK kv 2 w g 0 l.toArray:=by
  unfold HoldsK
  rw [flat_kids]
  intro j hj
  have hj':j<(ksC l).length:=by simpa using hj
  rw [Nat.zero_add]
  refine ⟨?_,World.ownsRow.frozenAt own _⟩
  rw [World.ownsRow.cellAt own j (by rw [ksC_len] at hj';exact hj'),getElem!_pos (ksC l).toArray j hj]
  simp [hj']
 have eg:∀args w,(callFunc 288 args).run Tryz.prog w=.ok (.enter 288 args) w:=enters_of Tryz.func288 (by kernel_rfl) rfl
 have hcon:=AnyQ.slices_SortFunc Tryz.lsrc 2 Tryz.isAgg56 Tryz.sizeOf56 kv (fun _=>rfl) (fun x v hv=>by simp only [kv,List.mem_cons,List.not_mem_nil,or_false] at hv;rcases hv with rfl | rfl <;> rfl) cfK swoK 288 #[] g 0 cp l.toArray w eg (fun _ _ _ _ x y=>compK_any x y _) hH hgs (by simp;omega)
 have e1:l.toArray.size=l.length:=by simp
 rw [e1] at hcon
 refine Calls.mono hcon ?_
 rintro e w' ⟨rfl,d',n,os,⟨hs1,-,hp⟩,hs,rfl⟩
 obtain ⟨m,rfl⟩:∃m:List KS,d'=m.toArray:=⟨d'.toList,by simp⟩
 have hml:m.length=l.length:=by simpa using hs1
 have hpm:m.Perm l:=by
  have h1:(m.toArray.extract 0 l.length).toList=m:=by rw [← hml];simp
  have h2:(l.toArray.extract 0 l.length).toList=l:=by simp
  rw [h1,h2] at hp
  exact hp
 refine ⟨rfl,m,hpm,fun i j hij hj=>?_,?_,?_⟩
 ·have h3:=hs i j (by omega) hij (by omega)
  rw [ltK,getElem!_pos m.toArray j (by simp;omega),getElem!_pos m.toArray i (by simp;omega)] at h3
  simp only [List.getElem_toArray,decide_eq_false_iff_not] at h3
  rw [gKS_get _ (by omega),gKS_get _ (by omega)]
  omega
 ·unfold sortWorldK putRowK
  rw [flat_kids]
  have h4:=heap_sortedV (n:=n) (os:=os) (ksC m).toArray hg
  have h6:=take_putCellsV cur (ksC m) (by rw [ksC_len];omega)
  rw [ksC_len] at h6
  refine ⟨ksC_len m,.inr ⟨g,cp,_,by rw [hml],hbg,h4,by omega,hm,by simp [putCells];omega,h6⟩⟩
 ·unfold sortWorldK putRowK
  exact grownBy_sortedV _
end Go.Proofs.YtiapkffihpgdcaaGreatDoor
