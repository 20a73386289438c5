import Derived.Test.YtiapkffihpgdcaaGreatDoorQC2
import Derived.Test.YtiapkffihpgdcaaGreatDoorQC3
import Derived.Test.YtiapkffihpgdcaaGreatDoorQC8
import Derived.Test.YtiapkffihpgdcaaGreatDoorQC9
import Derived.Test.YtiapkffihpgdcaaGreatDoorQC10
import Derived.Test.YtiapkffihpgdcaaGreatDoorQC18
import Derived.Test.YtiapkffihpgdcaaGreatDoorQC21
import Derived.Test.YtiapkffihpgdcaaGreatDoorQC22
import Derived.Test.YtiapkffihpgdcaaGreatDoorQC26
import Derived.Test.YtiapkffihpgdcaaGreatDoorQC28
import Derived.Test.YtiapkffihpgdcaaGreatDoorQC29
import Derived.Deep.Strs
import Derived.BigRegion
set_option linter.unusedVariables false
set_option linter.unusedSimpArgs false
set_option maxRecDepth 100000
set_option maxHeartbeats 4000000
namespace Go.Proofs.YtiapkffihpgdcaaGreatDoor
open Go.RowKit Go.Sort
section
variable {w w4 w5:World}{F:Nat→Prop}{g:Nat}{h:Hr}{s:Of}
theorem rdo_7 (hP:RO w F g h s)(txt:Wd)(r:Rq)(hp:prs txt=some r)(hk:r.kind=7)(hl:s.orders.length<200) :
  Calls Tryz.prog 53 #[.pointer (some ⟨g,0,none⟩),St txt] w (RetR w F g (doE s txt) (doS s txt)):=by
 obtain ⟨hr,hlen60⟩:=prs_ok hp
 have hq:=rparse_yes (by omega) hp w
 have hdE:=doE_some (o:=s) hp hl
 have hdS:=fun (hz:doE s txt=0)=>doS_good hz hp
 have hdB:=fun (hz:¬ doE s txt=0)=>doS_bad hz
 rw [hdE] at hdS hdB ⊢
 rw [hk] at hq
 have hw:headW 7=wEat:=rfl
 rw [hw] at hq
 have hxo:=exS_ords s r
 have hxk:=fun hz=>exS_ok hP.ok hr hz
 have n0:=hr.n0
 have n1:=hr.n1
 have hln:r.nums.length=2:=hr.two (by omega)
 rw [hln] at hq
 obtain ⟨E,hE⟩:∃E,exE s r=E:=⟨_,rfl⟩
 obtain ⟨X,hX⟩:∃X,X=if exE s r=0 then exS s r else s:=⟨_,rfl⟩
 have hX0:X.orders=s.orders:=by rw [hX];split;exact hxo;rfl
 have hX1:E=0→OfOk { X with orders:=s.orders ++ [txt] }∧{ X with orders:=s.orders ++ [txt] }=doS s txt:=fun hz=>by
  rw [hX,hE,if_pos hz]
  exact ⟨(hxk (hE.trans hz)).orders hp (by rw [hxo];exact hl) (by rw [hxo]),(hdS (hE.trans hz)).symm⟩
 have hX2:E≠0→X=s∧doS s txt=s:=fun hz=>by
  rw [hX,hE,if_neg hz]
  exact ⟨rfl,hdB (by rw [hE];exact hz)⟩
 have hcon:∀W,Below w.heap.size w W→Calls Tryz.prog 141 #[.pointer (some ⟨g,0,none⟩),.int .i64 (gi r.nums 0),.int .i64 (gi r.nums 1)] W (RetR W F g E X):=fun W hb=>by
  have hc:=reat_any (hP.below hb) (gi r.nums 0) (gi r.nums 1) n1
  rw [hX,← hE,exE_eat hk,exS_eat hk]
  exact hc
 have HX0:=Lib.hid hX0;have HX1:=Lib.hid hX1;have HX2:=Lib.hid hX2
 have HCON:=Lib.hid hcon
 rw [hE]
 have HQ:=Lib.hid hq
 have HR:=Lib.hid hr
 have HPP:=Lib.hid hp
 obtain ⟨NM,hNM⟩:∃NM,NM=r.name:=⟨_,rfl⟩
 rw [← hNM] at HQ
 have hgl:=hP.gl
 have hl':decide ((200:Int)≤(s.orders.length:Int))=false:=by rw [decide_eq_false_iff_not];omega
 have q0:(wEat == [97,116])=false:=rfl
 have q1:(wEat == [100,105,115,104])=false:=rfl
 have q2:(wEat == [99,104,105,108,100])=false:=rfl
 have q3:(wEat == [111,114,100,101,114])=false:=rfl
 have q4:(wEat == [99,97,110,99,101,108])=false:=rfl
 have q5:(wEat == [102,114,101,101])=false:=rfl
 have q6:(wEat == [99,111,111,107])=false:=rfl
 have q7:(wEat == [101,97,116])=true:=rfl
 obtain ⟨WD,hWD⟩:∃WD,WD=wEat:=⟨_,rfl⟩
 rw [← hWD] at q0 q1 q2 q3 q4 q5 q6 q7 HQ
 obtain ⟨B,hB⟩:∃B,B=bok s:=⟨_,rfl⟩
 have hBl:B.length≤12200:=by rw [hB];have:=bokTo_len s.orders hP.ok.short s.orders.length;have:=hP.ok.ol;unfold bok;omega
 have HB:=Lib.hid hB
 have HWD:=Lib.hid hWD
 have hc1:(⟨txt.toArray⟩:ByteArray) ++ ⟨#[10]⟩=⟨(txt ++ [10]).toArray⟩:=st_app txt [10]
 have hc2:(⟨B.toArray⟩:ByteArray) ++ ⟨(txt ++ [10]).toArray⟩=⟨(B ++ (txt ++ [10])).toArray⟩:=st_app B (txt ++ [10])
 have HC1:=Lib.hid hc1;have HC2:=Lib.hid hc2
 have hsum1:¬ 9223372036854775807<txt.length+1:=by omega
 have hsum2:¬ 9223372036854775807<B.length+(txt.length+1):=by omega
 have hol:=hP.ok.ol
 clear hq hdE hdS hdB hw hxo hxk hX0 hX1 hX2 hX hcon hE hr hp hk hNM hB hWD hc1 hc2 n0 n1
 go_enter Tryz.func53,Tryz.ntmps53
 go_wp2_with (go_at_call 134;(with_reducible refine HQ.out.mono ?_);rintro e w3 ⟨A3,c3,rfl,own3,hb3⟩;have hcap:=own3.capN;have hR3:=RN.of_own own3;obtain ⟨w4,hw4⟩:∃w4,w3.alloc (.cells #[St WD,St NM,.slice A3 2 c3] 198)=w4:=⟨_,rfl⟩;have hb34:Below w3.heap.size w3 w4:=(by rw [← hw4];exact (Below.refl _ _).alloc (Nat.le_refl _) _);have hb4:=hb3.trans (hb34.mono hb3.size);have hR4:=hR3.below hb34;have b4:Box w4 w3.heap.size #[St WD,St NM,.slice A3 2 c3]:=(by rw [← hw4];exact Box.new _ _ _);have x0:=b4.cell 0;have x1:=b4.cell 1;have x2:=b4.cell 2;have hlt4:=b4.lt;simp only [gqA,gqB,gqC] at x0 x1 x2;have hP4:=hP.below hb4;have q17:=hP4.cOd;obtain ⟨ad,hA,hab,e0⟩:=hR4.at0 (by omega);subst hA;have e1:=hR4.cellk (k:=1) (by omega) (by omega))
 have hb5:=hb4.trans ((Below.refl w4.heap.size w4).drew.mono hb4.size)
 go_region_with (go_at_call 141;(with_reducible refine (HCON.out _ hb5).mono ?_);rintro e w5 hr5;have he5:=hr5.1;subst he5;have HR5:=Lib.hid hr5;clear hr5)
 all_goals
  have hrb:=RetR.back hP hb5 HR5.out
  obtain ⟨_,ho5,h5,hP5⟩:=HR5.out
  have y17:=hP5.cOd;have y18:=hP5.cBk;have z17:=hP5.box.free 17;have z18:=hP5.box.free 18
  rw [HX0.out] at y17
  have hbx:bok X=B:=by rw [HB.out];unfold bok;rw [HX0.out]
  rw [hbx] at y18
  have HRB:=Lib.hid hrb
  clear hrb hbx
  by_cases hv:E=0
  ·obtain ⟨k1,k2⟩:=HX1.out hv
   subst hv
   have hfin:=RetR.fin hP HRB.out HX0.out k1
   rw [k2,← HB.out] at hfin
   have HFIN:=Lib.hid hfin
   clear hfin k1 k2 HR5 HRB
   go_wp2_with fail
   rw [HC1.out,HC2.out]
   go_ret
   exact HFIN.out
  ·obtain ⟨k1,k2⟩:=HX2.out hv
   have hv1:(E == 0)=false:=by simp [hv]
   have hfin:=HRB.out
   rw [k1] at hfin
   have HFIN:=Lib.hid hfin
   have HK2:=Lib.hid k2
   clear hfin k1 k2 HR5 HRB hv
   go_wp2_with fail
   go_ret
   rw [HK2.out]
   exact HFIN.out
end
section
variable {w:World}{F:Nat→Prop}{g:Nat}{h:Hr}{s:Of}
theorem rdo_none (hP:RO w F g h s)(txt:Wd)(ht:txt.length≤1000000000)(hp:prs txt=none) :
  Calls Tryz.prog 53 #[.pointer (some ⟨g,0,none⟩),St txt] w (RetR w F g (doE s txt) (doS s txt)):=by
 have hq:=rparse_no ht hp w
 have h3:=doE_none (o:=s) hp
 have hS:doS s txt=s:=doS_bad (by rw [h3];decide)
 rw [h3,hS]
 have HQ:=Lib.hid hq
 clear hq h3 hS hp
 go_enter Tryz.func53,Tryz.ntmps53
 go_wp2_with (go_at_call 134;(with_reducible refine HQ.out.mono ?_);rintro e w3 ⟨x,y,A,k,c,rfl,hb3⟩)
 go_ret
 exact hP.quiet (hb3.alloc hb3.size _)
theorem rdo_full (hP:RO w F g h s)(txt:Wd)(r:Rq)(hp:prs txt=some r)(hl:200≤s.orders.length) :
  Calls Tryz.prog 53 #[.pointer (some ⟨g,0,none⟩),St txt] w (RetR w F g (doE s txt) (doS s txt)):=by
 have hq:=rparse_yes (by have:=(prs_ok hp).2;omega) hp w
 have h4:=doE_full (o:=s) hp hl
 have hS:doS s txt=s:=doS_bad (by rw [h4];decide)
 rw [h4,hS]
 have HQ:=Lib.hid hq
 have hl':decide ((200:Int)≤(s.orders.length:Int))=true:=by rw [decide_eq_true_eq];omega
 clear hq h4 hS hp
 have hgl:=hP.gl
 go_enter Tryz.func53,Tryz.ntmps53
 go_wp2_with (go_at_call 134;(with_reducible refine HQ.out.mono ?_);rintro e w3 ⟨A3,c3,rfl,own3,hb3⟩;have q17:=(hP.below hb3).cOd;have hgl3:=(hP.below hb3).gl)
 go_ret
 exact hP.quiet (hb3.alloc hb3.size _)
end
end Go.Proofs.YtiapkffihpgdcaaGreatDoor
namespace Go.Proofs.YtiapkffihpgdcaaGreatDoor
theorem rDo_any {w:World}{F:Nat→Prop}{g:Nat}{h:Hr}{s:Of}(hP:RO w F g h s)(txt:Wd)(ht:txt.length≤1000000000) :
  Calls Tryz.prog 53 #[.pointer (some ⟨g,0,none⟩),St txt] w (RetR w F g (doE s txt) (doS s txt)):=by
 cases hp:prs txt with
 | none=>exact rdo_none hP txt ht hp
 | some r =>
  by_cases hl:200≤s.orders.length
  ·exact rdo_full hP txt r hp hl
  have hl':s.orders.length<200:=by omega
  obtain ⟨hr,_⟩:=prs_ok hp
  have k0:=hr.k0;have k7:=hr.k7
  have hc:r.kind=0∨r.kind=1∨r.kind=2∨r.kind=3∨r.kind=4∨r.kind=5∨r.kind=6∨r.kind=7:=by omega
  rcases hc with hc | hc | hc | hc | hc | hc | hc | hc
  ·exact rdo_0 hP txt r hp hc hl'
  ·exact rdo_1 hP txt r hp hc hl'
  ·exact rdo_2 hP txt r hp hc hl'
  ·exact rdo_3 hP txt r hp hc hl'
  ·exact rdo_4 hP txt r hp hc hl'
  ·exact rdo_5 hP txt r hp hc hl'
  ·exact rdo_6 hP txt r hp hc hl'
  ·exact rdo_7 hP txt r hp hc hl'
end Go.Proofs.YtiapkffihpgdcaaGreatDoor
namespace Go.Proofs.YtiapkffihpgdcaaGreatDoor
open Go.RowKit
/-- A firm,and where its lists lie. -/
structure Fi where
 t:Tm
 c:Cy
 b:Bk
 A1:Option Addr
 A2:Option Addr
 B1:Option Addr
 B2:Option Addr
 c1:Nat
 c2:Nat
 d1:Nat
 d2:Nat
 hp:Nat→SlH
 hq:Nat→SlH
 hr:Nat→SlH
def Fi.cells (f:Fi):Array Value:=#[.int .i64 f.t.len,.slice f.A1 f.t.rest.length f.c1,.slice f.A2 f.t.clo.length f.c2,.int .i64 f.c.n,.int .i64 f.c.f,.int .i64 f.c.k,.int .i64 f.b.props,.slice f.B1 f.b.items.length f.d1,.slice f.B2 f.b.rules.length f.d2]
/-- The firm's lists,in memory. -/
structure Fi.In (f:Fi) (w:World):Prop where
 rest:RN w f.A1 f.t.rest
 clo:RN w f.A2 f.t.clo
 bk:RBk (fun _=>True) w f.B1 f.B2 f.b f.hp f.hq f.hr
structure Fi.Len (f:Fi):Prop where
 rest:f.t.rest.length≤1000000
 clo:f.t.clo.length≤1000000
 bk:BkLen f.b
def Fi.e (f:Fi):Int:=newE f.t f.c f.b
def Fi.s0 (f:Fi):Of:=new0 f.t f.c f.b
theorem Fi.In.below {f:Fi}{w w':World}(h:f.In w)(hb:Below w.heap.size w w'):f.In w':=⟨h.rest.below hb,h.clo.below hb,h.bk.below hb⟩
theorem lrg_len {f:Fi}(h:lrg f.t f.b=false):f.Len:=by
 unfold lrg at h
 simp only [Bool.or_eq_false_iff,decide_eq_false_iff_not] at h
 obtain ⟨h1,h2,h3⟩:=h
 unfold lrgH at h1
 rw [anyTo_false] at h2 h3
 have e1:∀k,k<f.b.items.length→(gIt f.b.items k).parts.length≤30∧(gIt f.b.items k).has.length≤30:=fun k hk=>by
  have:=h2 k hk;unfold lrgI at this;rw [decide_eq_false_iff_not] at this;omega
 have e2:∀k,k<f.b.rules.length→(gRl f.b.rules k).iff.length≤30:=fun k hk=>by
  have:=h3 k hk;unfold lrgR at this;rw [decide_eq_false_iff_not] at this;omega
 exact ⟨by omega,by omega,⟨by omega,by omega,fun k hk=>by have:=(e1 k hk).1;omega,fun k hk=>by have:=(e1 k hk).2;omega,fun k hk=>by have:=e2 k hk;omega⟩⟩
/-- The program's office and the document's,made behind the world w0. -/
structure Du (w0:World) (N:Nat) (F F':Nat→Prop) (g x:Nat) (h:Hd) (h':Hr) (s s':Of) (w:World):Prop where
 po:PO 0 N w F g h s
 ro:RO w F' x h' s'
 env:EnvA w
 bel:Below w0.heap.size w0 w
 lo:∀k,F k→w0.heap.size≤k
 lo':∀k,F' k→w0.heap.size≤k
 dis:∀k,F' k→¬ F k
def DN (w0:World)(N:Nat)(g x:Nat)(s s':Of)(w:World):Prop:=∃F F' h h',Du w0 N F F' g x h h' s s' w
section
variable {w0 w w':World}{N g x:Nat}{s s':Of}
theorem DN.below (hd:DN w0 N g x s s' w)(hb:Below w.heap.size w w'):DN w0 N g x s s' w':=by
 obtain ⟨F,F',h,h',⟨po,ro,env,bel,lo,lo',dis⟩⟩:=hd
 exact ⟨F,F',h,h',⟨po.below hb,ro.below hb,env.below hb,bel.trans (hb.mono bel.size),lo,lo',dis⟩⟩
theorem DN.bel (hd:DN w0 N g x s s' w):Below w0.heap.size w0 w:=by obtain ⟨_,_,_,_,hd⟩:=hd;exact hd.bel
theorem DN.ok (hd:DN w0 N g x s s' w):OfOk s:=by obtain ⟨_,_,_,_,hd⟩:=hd;exact hd.po.ok
/-- The program does an order. -/
theorem DN.do_ (hd:DN w0 N g x s s' w)(hN:N<1000000000)(txt:Wd)(ht:txt.length≤1000000000) :
  Calls Tryz.prog 25 #[.pointer (some ⟨g,0,none⟩),St txt] w fun e w'=>e=.returned (.int .i64 (doE s txt))∧DN w0 (N+1) g x (doS s txt) s' w':=by
 obtain ⟨F,F',h,h',⟨po,ro,env,bel,lo,lo',dis⟩⟩:=hd
 refine (Do_any po env hN txt ht).mono ?_
 rintro e w' ⟨he,ho,h2,hP'⟩
 have hs:=bel.size
 refine ⟨he,grown F w w',F',h2,h',⟨hP',ro.off ho dis,env.off ho po.f7,bel.trans (ho.to_below lo hs),?_,lo',?_⟩⟩
 ·rintro k (hk | hk)
  ·exact lo k hk
  ·omega
 ·rintro k hk (hk2 | hk2)
  ·exact dis k hk hk2
  ·have:=(ro.lo k hk).2;omega
/-- The document does an order. -/
theorem DN.rdo (hd:DN w0 N g x s s' w)(txt:Wd)(ht:txt.length≤1000000000) :
  Calls Tryz.prog 53 #[.pointer (some ⟨x,0,none⟩),St txt] w fun e w'=>e=.returned (.int .i64 (doE s' txt))∧DN w0 N g x s (doS s' txt) w':=by
 obtain ⟨F,F',h,h',⟨po,ro,env,bel,lo,lo',dis⟩⟩:=hd
 refine (rDo_any ro txt ht).mono ?_
 rintro e w' ⟨he,ho,h2,hP'⟩
 have hs:=bel.size
 refine ⟨he,F,grown F' w w',h,h2,⟨po.off ho fun k hk hk2=>dis k hk2 hk,hP',env.off ho fun k hk=>(ro.lo k hk).1,bel.trans (ho.to_below lo' hs),lo,?_,?_⟩⟩
 ·rintro k (hk | hk)
  ·exact lo' k hk
  ·omega
 ·rintro k (hk | hk) hk2
  ·exact dis k hk hk2
  ·have:=(po.lo k hk2).2;omega
end
section
variable {f:Fi}{w:World}(hf:f.In w)(hl:f.Len)
include hf hl
theorem pnew_ok (h7:7≤w.heap.size)(hz:f.e=0) :
  Calls Tryz.prog 20 #[.agg #[.int .i64 f.t.len,.slice f.A1 f.t.rest.length f.c1,.slice f.A2 f.t.clo.length f.c2],.agg #[.int .i64 f.c.n,.int .i64 f.c.f,.int .i64 f.c.k],.agg #[.int .i64 f.b.props,.slice f.B1 f.b.items.length f.d1,.slice f.B2 f.b.rules.length f.d2]] w fun e w'=>∃g h,e=.returned (.tuple #[.pointer (some ⟨g,0,none⟩),.int .i64 0])∧PO 0 0 w' (fun k=>w.heap.size≤k∧k<w'.heap.size) g h f.s0∧Below w.heap.size w w':=by
 refine (new_any f.t f.c f.b (by have:=hl.rest;omega) (by have:=hl.clo;omega) hl.bk f.A1 f.A2 f.c1 f.c2 _ f.B1 f.B2 f.d1 f.d2 f.hp f.hq f.hr w hf.rest hf.clo hf.bk h7).mono ?_
 rintro e w' (⟨h,_⟩ | ⟨_,h⟩)
 ·exact absurd hz h
 ·exact h
theorem pnew_bad (h7:7≤w.heap.size)(hz:f.e≠0) :
  Calls Tryz.prog 20 #[.agg #[.int .i64 f.t.len,.slice f.A1 f.t.rest.length f.c1,.slice f.A2 f.t.clo.length f.c2],.agg #[.int .i64 f.c.n,.int .i64 f.c.f,.int .i64 f.c.k],.agg #[.int .i64 f.b.props,.slice f.B1 f.b.items.length f.d1,.slice f.B2 f.b.rules.length f.d2]] w fun e w'=>e=.returned (.tuple #[.pointer none,.int .i64 f.e])∧Below w.heap.size w w':=by
 refine (new_any f.t f.c f.b (by have:=hl.rest;omega) (by have:=hl.clo;omega) hl.bk f.A1 f.A2 f.c1 f.c2 _ f.B1 f.B2 f.d1 f.d2 f.hp f.hq f.hr w hf.rest hf.clo hf.bk h7).mono ?_
 rintro e w' (⟨_,h⟩ | ⟨h,_⟩)
 ·exact h
 ·exact absurd h hz
theorem xnew_ok (h7:7≤w.heap.size)(hz:f.e=0) :
  Calls Tryz.prog 52 #[.agg #[.int .i64 f.t.len,.slice f.A1 f.t.rest.length f.c1,.slice f.A2 f.t.clo.length f.c2],.agg #[.int .i64 f.c.n,.int .i64 f.c.f,.int .i64 f.c.k],.agg #[.int .i64 f.b.props,.slice f.B1 f.b.items.length f.d1,.slice f.B2 f.b.rules.length f.d2]] w fun e w'=>∃g h,e=.returned (.tuple #[.pointer (some ⟨g,0,none⟩),.int .i64 0])∧RO w' (fun k=>w.heap.size≤k∧k<w'.heap.size) g h f.s0∧Below w.heap.size w w' :=
 rnew_ok f.t f.c f.b hl.rest hl.clo hl.bk f.A1 f.A2 f.c1 f.c2 _ f.B1 f.B2 f.d1 f.d2 f.hp f.hq f.hr w hf.rest hf.clo hf.bk h7 hz
theorem xnew_bad (hz:f.e≠0) :
  Calls Tryz.prog 52 #[.agg #[.int .i64 f.t.len,.slice f.A1 f.t.rest.length f.c1,.slice f.A2 f.t.clo.length f.c2],.agg #[.int .i64 f.c.n,.int .i64 f.c.f,.int .i64 f.c.k],.agg #[.int .i64 f.b.props,.slice f.B1 f.b.items.length f.d1,.slice f.B2 f.b.rules.length f.d2]] w fun e w'=>e=.returned (.tuple #[.pointer none,.int .i64 f.e])∧Below w.heap.size w w' :=
 rnew_bad f.t f.c f.b (by have:=hl.rest;omega) (by have:=hl.clo;omega) hl.bk f.A1 f.A2 f.c1 f.c2 _ f.B1 f.B2 f.d1 f.d2 f.hp f.hq f.hr w hf.rest hf.clo hf.bk hz
end
theorem begin_ok {f:Fi}{w:World}(hf:f.In w)(hl:f.Len)(hE:EnvA w)(hz:f.e=0) :
  Calls Tryz.prog 36 #[.agg f.cells] w fun e w'=>∃g x,e=.returned (.tuple #[.pointer (some ⟨g,0,none⟩),.pointer (some ⟨x,0,none⟩),.bool true])∧DN w 0 g x f.s0 f.s0 w':=by
 unfold Fi.cells
 obtain ⟨w2,hw2⟩:∃w2,w.alloc (.cells #[.int .i64 f.t.len,.slice f.A1 f.t.rest.length f.c1,.slice f.A2 f.t.clo.length f.c2,.int .i64 f.c.n,.int .i64 f.c.f,.int .i64 f.c.k,.int .i64 f.b.props,.slice f.B1 f.b.items.length f.d1,.slice f.B2 f.b.rules.length f.d2] 32)=w2:=⟨_,rfl⟩
 have hy:Below w.heap.size w w2:=by rw [← hw2];exact (Below.refl _ w).alloc (Nat.le_refl _) _
 have b0:Box w2 w.heap.size #[.int .i64 f.t.len,.slice f.A1 f.t.rest.length f.c1,.slice f.A2 f.t.clo.length f.c2,.int .i64 f.c.n,.int .i64 f.c.f,.int .i64 f.c.k,.int .i64 f.b.props,.slice f.B1 f.b.items.length f.d1,.slice f.B2 f.b.rules.length f.d2]:=by rw [← hw2];exact Box.new w _ _
 have h7:=hE.z.size
 have HP:=Lib.hid (pnew_ok (hf.below hy) hl (by have:=hy.size;omega) hz)
 have hX:=fun (wx:World) (hb:Below w2.heap.size w2 wx)=>xnew_ok ((hf.below hy).below hb) hl (by have:=hy.size;have:=hb.size;omega) hz
 have HX:=Lib.hid hX
 have x0:=b0.cell 0;have x1:=b0.cell 1;have x2:=b0.cell 2;have x3:=b0.cell 3;have x4:=b0.cell 4;have x5:=b0.cell 5;have x6:=b0.cell 6;have x7:=b0.cell 7;have x8:=b0.cell 8
 simp only [gqA,gqB,gqC] at x0 x1 x2 x3 x4 x5 x6 x7 x8
 clear hX hz
 go_enter Tryz.func36,Tryz.ntmps36
 go_wp2_with (first
  | (go_at_call 20;(with_reducible refine HP.out.mono ?_);rintro e w3 ⟨g,h,rfl,hpo,hb3⟩;have b3:=b0.below hb3;have y0:=b3.cell 0;have y1:=b3.cell 1;have y2:=b3.cell 2;have y3:=b3.cell 3;have y4:=b3.cell 4;have y5:=b3.cell 5;have y6:=b3.cell 6;have y7:=b3.cell 7;have y8:=b3.cell 8;simp only [gqA,gqB,gqC] at y0 y1 y2 y3 y4 y5 y6 y7 y8)
  | (go_at_call 52;(with_reducible refine (HX.out _ hb3).mono ?_);rintro e w4 ⟨x,h',rfl,hro,hb4⟩))
 go_ret3
 have hyz:=hy.size
 have h3z:=hb3.size
 have hb34:Below w.heap.size w w4:=hy.trans ((hb3.trans (hb4.mono h3z)).mono hyz)
 exact ⟨g,x,rfl,_,_,h,h',⟨hpo.below hb4,hro,hE.below hb34,hb34,fun k hk=>by have:=hk.1;omega,fun k hk=>by have:=hk.1;omega,fun k hk hk2=>by have:=hk.1;have:=hk2.2;omega⟩⟩
theorem begin_bad {f:Fi}{w:World}(hf:f.In w)(hl:f.Len)(hE:EnvA w)(hz:f.e≠0) :
  Calls Tryz.prog 36 #[.agg f.cells] w fun e w'=>e=.returned (.tuple #[.pointer none,.pointer none,.bool false])∧Below w.heap.size w w':=by
 unfold Fi.cells
 obtain ⟨w2,hw2⟩:∃w2,w.alloc (.cells #[.int .i64 f.t.len,.slice f.A1 f.t.rest.length f.c1,.slice f.A2 f.t.clo.length f.c2,.int .i64 f.c.n,.int .i64 f.c.f,.int .i64 f.c.k,.int .i64 f.b.props,.slice f.B1 f.b.items.length f.d1,.slice f.B2 f.b.rules.length f.d2] 32)=w2:=⟨_,rfl⟩
 have hy:Below w.heap.size w w2:=by rw [← hw2];exact (Below.refl _ w).alloc (Nat.le_refl _) _
 have b0:Box w2 w.heap.size #[.int .i64 f.t.len,.slice f.A1 f.t.rest.length f.c1,.slice f.A2 f.t.clo.length f.c2,.int .i64 f.c.n,.int .i64 f.c.f,.int .i64 f.c.k,.int .i64 f.b.props,.slice f.B1 f.b.items.length f.d1,.slice f.B2 f.b.rules.length f.d2]:=by rw [← hw2];exact Box.new w _ _
 have h7:=hE.z.size
 have HP:=Lib.hid (pnew_bad (hf.below hy) hl (by have:=hy.size;omega) hz)
 have hX:=fun (wx:World) (hb:Below w2.heap.size w2 wx)=>xnew_bad ((hf.below hy).below hb) hl hz
 have HX:=Lib.hid hX
 have x0:=b0.cell 0;have x1:=b0.cell 1;have x2:=b0.cell 2;have x3:=b0.cell 3;have x4:=b0.cell 4;have x5:=b0.cell 5;have x6:=b0.cell 6;have x7:=b0.cell 7;have x8:=b0.cell 8
 simp only [gqA,gqB,gqC] at x0 x1 x2 x3 x4 x5 x6 x7 x8
 have he:(f.e == 0)=false:=by simpa using hz
 clear hX hz
 go_enter Tryz.func36,Tryz.ntmps36
 go_wp2_with (first
  | (go_at_call 20;(with_reducible refine HP.out.mono ?_);rintro e w3 ⟨rfl,hb3⟩;have b3:=b0.below hb3;have y0:=b3.cell 0;have y1:=b3.cell 1;have y2:=b3.cell 2;have y3:=b3.cell 3;have y4:=b3.cell 4;have y5:=b3.cell 5;have y6:=b3.cell 6;have y7:=b3.cell 7;have y8:=b3.cell 8;simp only [gqA,gqB,gqC] at y0 y1 y2 y3 y4 y5 y6 y7 y8)
  | (go_at_call 52;(with_reducible refine (HX.out _ hb3).mono ?_);rintro e w4 ⟨rfl,hb4⟩))
 go_ret3
 exact ⟨rfl,hy.trans ((hb3.trans (hb4.mono hb3.size)).mono hy.size)⟩
/-- An office that can't be made: both say so,and the chapter's examples are answered. -/
theorem failed_any {f:Fi}{w:World}(hf:f.In w)(hl:f.Len)(hE:EnvA w)(hz:f.e≠0) :
  Calls Tryz.prog 37 #[.agg f.cells] w fun e w'=>e=.returned (.bool true)∧Below w.heap.size w w':=by
 unfold Fi.cells
 obtain ⟨w2,hw2⟩:∃w2,w.alloc (.cells #[.int .i64 f.t.len,.slice f.A1 f.t.rest.length f.c1,.slice f.A2 f.t.clo.length f.c2,.int .i64 f.c.n,.int .i64 f.c.f,.int .i64 f.c.k,.int .i64 f.b.props,.slice f.B1 f.b.items.length f.d1,.slice f.B2 f.b.rules.length f.d2] 32)=w2:=⟨_,rfl⟩
 have hy:Below w.heap.size w w2:=by rw [← hw2];exact (Below.refl _ w).alloc (Nat.le_refl _) _
 have b0:Box w2 w.heap.size #[.int .i64 f.t.len,.slice f.A1 f.t.rest.length f.c1,.slice f.A2 f.t.clo.length f.c2,.int .i64 f.c.n,.int .i64 f.c.f,.int .i64 f.c.k,.int .i64 f.b.props,.slice f.B1 f.b.items.length f.d1,.slice f.B2 f.b.rules.length f.d2]:=by rw [← hw2];exact Box.new w _ _
 have h7:=hE.z.size
 have HP:=Lib.hid (pnew_bad (hf.below hy) hl (by have:=hy.size;omega) hz)
 have hX:=fun (wx:World) (hb:Below w2.heap.size w2 wx)=>xnew_bad ((hf.below hy).below hb) hl hz
 have HX:=Lib.hid hX
 have x0:=b0.cell 0;have x1:=b0.cell 1;have x2:=b0.cell 2;have x3:=b0.cell 3;have x4:=b0.cell 4;have x5:=b0.cell 5;have x6:=b0.cell 6;have x7:=b0.cell 7;have x8:=b0.cell 8
 simp only [gqA,gqB,gqC] at x0 x1 x2 x3 x4 x5 x6 x7 x8
 have he:(f.e != 0)=true:=by simpa using hz
 clear hX hz
 go_enter Tryz.func37,Tryz.ntmps37
 go_wp2_with (first
  | (go_at_call 20;(with_reducible refine HP.out.mono ?_);rintro e w3 ⟨rfl,hb3⟩;have b3:=b0.below hb3;have y0:=b3.cell 0;have y1:=b3.cell 1;have y2:=b3.cell 2;have y3:=b3.cell 3;have y4:=b3.cell 4;have y5:=b3.cell 5;have y6:=b3.cell 6;have y7:=b3.cell 7;have y8:=b3.cell 8;simp only [gqA,gqB,gqC] at y0 y1 y2 y3 y4 y5 y6 y7 y8)
  | (go_at_call 52;(with_reducible refine (HX.out _ hb3).mono ?_);rintro e w4 ⟨rfl,hb4⟩;have hb5:=hy.trans ((hb3.trans (hb4.mono hb3.size)).mono hy.size);have HK:=Lib.hid (oknown_any (hE.below hb5)))
  | (go_at_call 31;(with_reducible refine HK.out.mono ?_);rintro e w5 ⟨rfl,hb6⟩))
 go_ret
 exact ⟨rfl,hb5.trans (hb6.mono hb5.size)⟩
end Go.Proofs.YtiapkffihpgdcaaGreatDoor
namespace Go.Proofs.YtiapkffihpgdcaaGreatDoor
open Go.ChangeShapes Go.WideShapes Go.ChangeAt Go.RowKit Go.Deep Go.Joins
section
variable {H:Type}{enc:TypeId × Value→H}{W:World}
theorem r2_of {a:Addr}{n:Nat}{f g:Nat→Value}(hb:0<n→a.block<W.heap.size)(h:∀i,i<n→W.cell? (a.add (i*2))=some (f i)∧W.cell? (a.add (i*2+1))=some (g i)):R2 (fun _=>True) W (some a) n f g:=by
 refine ⟨⟨cells2_length n f g,fun hn=>⟨a,rfl,hb hn,fun j u hu=>?_⟩⟩,fun _ _ _=>trivial⟩
 have hj:j<n*2:=by have:=(List.getElem?_eq_some_iff.1 hu).1;rwa [cells2_length] at this
 obtain ⟨h1,h2⟩:=cells2_at n f g (j / 2) (by omega)
 obtain ⟨g1,g2⟩:=h (j / 2) (by omega)
 rcases Nat.mod_two_eq_zero_or_one j with e | e
 ·have ej:j=j / 2*2:=by omega
  rw [ej] at hu ⊢
  rw [h1] at hu
  rw [← hu];exact g1
 ·have ej:j=j / 2*2+1:=by omega
  rw [ej] at hu ⊢
  rw [h2] at hu
  rw [← hu];exact g2
theorem rnf_of {A:Option Addr}{l:List Int}(h:RN W A l):RNF (fun _=>True) W A l:=⟨h,fun _ _ _=>trivial⟩
theorem open_items {cs:List Value}{x:DataW H × List MemPlace}{fuel:Nat}(hf:DataW.trod enc Tryz.prog W 0 (fun _=>true) true fuel 27 cs=some x) :
  ∃(l:List It) (A:Option Addr) (c:Nat) (hp hq:Nat→SlH),cs=[.slice A l.length c]∧RIt (fun _=>True) W A l hp hq:=by
 have hC:Tryz.prog.cellsOf 120=2:=by kernel_rfl
 rcases open_slice_fields Tryz.underlying27 Tryz.underlying120 (by kernel_rfl) hC hf with ⟨hcs,-⟩ | ⟨a,len,cap,m,D,Pl,hcs,-,hl,-,hm,-,hi⟩
 ·exact ⟨[],none,0,fun _=>(none,0),fun _=>(none,0),hcs,⟨R2.nil _ _ _ _ _,fun k hk=>by simp at hk,fun k hk=>by simp at hk⟩⟩
 ·simp only [if_true] at hm
  subst hm
  have key:∀i,i<len→∃f:It × SlH × SlH,W.cell? (a.add (i*2))=some (slV f.2.1 f.1.parts)∧W.cell? (a.add (i*2+1))=some (slV f.2.2 f.1.has)∧RN W f.2.1.1 f.1.parts∧RN W f.2.2.1 f.1.has:=by
   intro i hil
   obtain ⟨ys,n,-,-,-,hf⟩:=hi i (by omega)
   obtain ⟨v0,y0,c0,-,t0⟩:=hf 0 _ rfl
   obtain ⟨v1,y1,c1,-,t1⟩:=hf 1 _ rfl
   obtain ⟨l0,A0,d0,e0,-,h0⟩:=open_nums t0
   obtain ⟨l1,A1,d1,e1,-,h1⟩:=open_nums t1
   simp only [List.cons.injEq,and_true] at e0 e1
   subst e0 e1
   exact ⟨(⟨l0,l1⟩,(A0,d0),(A1,d1)),c0,c1,h0,h1⟩
  obtain ⟨L,hll,hP⟩:=choose_list key
  subst hll
  have hat:∀i,i<L.length→W.cell? (a.add (i*2))=some (slV (L.getD i (⟨[],[]⟩,(none,0),(none,0))).2.1 (gIt (L.map (·.1)) i).parts)∧W.cell? (a.add (i*2+1))=some (slV (L.getD i (⟨[],[]⟩,(none,0),(none,0))).2.2 (gIt (L.map (·.1)) i).has) ∧
    RN W (L.getD i (⟨[],[]⟩,(none,0),(none,0))).2.1.1 (gIt (L.map (·.1)) i).parts∧RN W (L.getD i (⟨[],[]⟩,(none,0),(none,0))).2.2.1 (gIt (L.map (·.1)) i).has:=fun i hil=>by
   have e1:L.getD i (⟨[],[]⟩,(none,0),(none,0))=L[i]:=by rw [List.getD_eq_getElem?_getD,List.getElem?_eq_getElem hil];rfl
   have e2:gIt (L.map (·.1)) i=L[i].1:=by simp [gIt,hil]
   rw [e1,e2]
   exact hP i _ (List.getElem?_eq_getElem hil)
  refine ⟨L.map (·.1),some a,m,fun i=>(L.getD i (⟨[],[]⟩,(none,0),(none,0))).2.1,fun i=>(L.getD i (⟨[],[]⟩,(none,0),(none,0))).2.2,by rw [List.length_map];exact hcs,⟨?_,fun k hk=>?_,fun k hk=>?_⟩⟩
  ·rw [List.length_map]
   exact r2_of (fun hn=>cell_block (hat 0 hn).1) fun i hil=>⟨(hat i hil).1,(hat i hil).2.1⟩
  ·rw [List.length_map] at hk;exact rnf_of (hat k hk).2.2.1
  ·rw [List.length_map] at hk;exact rnf_of (hat k hk).2.2.2
theorem open_rules {cs:List Value}{x:DataW H × List MemPlace}{fuel:Nat}(hf:DataW.trod enc Tryz.prog W 0 (fun _=>true) true fuel 28 cs=some x) :
  ∃(l:List Rl) (A:Option Addr) (c:Nat) (hp:Nat→SlH),cs=[.slice A l.length c]∧RRl (fun _=>True) W A l hp:=by
 have hC:Tryz.prog.cellsOf 166=2:=by kernel_rfl
 rcases open_slice_fields Tryz.underlying28 Tryz.underlying166 (by kernel_rfl) hC hf with ⟨hcs,-⟩ | ⟨a,len,cap,m,D,Pl,hcs,-,hl,-,hm,-,hi⟩
 ·exact ⟨[],none,0,fun _=>(none,0),hcs,⟨R2.nil _ _ _ _ _,fun k hk=>by simp at hk⟩⟩
 ·simp only [if_true] at hm
  subst hm
  have key:∀i,i<len→∃f:Rl × SlH,W.cell? (a.add (i*2))=some (slV f.2 f.1.iff)∧W.cell? (a.add (i*2+1))=some (.int .i64 f.1.thn)∧RN W f.2.1 f.1.iff:=by
   intro i hil
   obtain ⟨ys,n,-,-,-,hf⟩:=hi i (by omega)
   obtain ⟨v0,y0,c0,-,t0⟩:=hf 0 _ rfl
   obtain ⟨v1,y1,c1,-,t1⟩:=hf 1 _ rfl
   obtain ⟨l0,A0,d0,e0,-,h0⟩:=open_nums t0
   obtain ⟨x1,e1,-,-⟩:=DataW.trod_int Tryz.underlying3 t1
   simp only [List.cons.injEq,and_true] at e0 e1
   subst e0 e1
   exact ⟨(⟨l0,x1⟩,(A0,d0)),c0,c1,h0⟩
  obtain ⟨L,hll,hP⟩:=choose_list key
  subst hll
  have hat:∀i,i<L.length→W.cell? (a.add (i*2))=some (slV (L.getD i (⟨[],0⟩,(none,0))).2 (gRl (L.map (·.1)) i).iff)∧W.cell? (a.add (i*2+1))=some (.int .i64 (gRl (L.map (·.1)) i).thn)∧RN W (L.getD i (⟨[],0⟩,(none,0))).2.1 (gRl (L.map (·.1)) i).iff:=fun i hil=>by
   have e1:L.getD i (⟨[],0⟩,(none,0))=L[i]:=by rw [List.getD_eq_getElem?_getD,List.getElem?_eq_getElem hil];rfl
   have e2:gRl (L.map (·.1)) i=L[i].1:=by simp [gRl,hil]
   rw [e1,e2]
   exact hP i _ (List.getElem?_eq_getElem hil)
  refine ⟨L.map (·.1),some a,m,fun i=>(L.getD i (⟨[],0⟩,(none,0))).2,by rw [List.length_map];exact hcs,⟨?_,fun k hk=>?_⟩⟩
  ·rw [List.length_map]
   exact r2_of (fun hn=>cell_block (hat 0 hn).1) fun i hil=>⟨(hat i hil).1,(hat i hil).2.1⟩
  ·rw [List.length_map] at hk;exact rnf_of (hat k hk).2.2
theorem open_words {cs:List Value}{x:DataW H × List MemPlace}{fuel:Nat}(hf:DataW.trod enc Tryz.prog W 0 (fun _=>true) true fuel 33 cs=some x) :
  ∃(l:List Wd) (A:Option Addr) (c:Nat),cs=[.slice A l.length c]∧RS W A l∧l.length≤9223372036854775807∧∀k,k<l.length→(l.getD k []).length≤9223372036854775807:=by
 rcases open_strs Tryz.underlying33 Tryz.underlying9 (by kernel_rfl) hf with ⟨hcs,-⟩ | ⟨a,len,cap,m,Sx,hcs,-,hl,hmx,hm,-,hi⟩
 ·exact ⟨[],none,0,hcs,⟨rfl,fun h=>by cases h⟩,by simp,fun k hk=>by simp at hk⟩
 ·simp only [if_true] at hm
  subst hm
  have key:∀i,i<len→∃s:Wd,W.cell? (a.add i)=some (St s)∧s.length≤9223372036854775807:=fun i hil=>by
   obtain ⟨h1,h2⟩:=hi i (by omega)
   exact ⟨(Sx i).data.toList,h1,by unfold maxLen at h2;simpa using h2⟩
  obtain ⟨L,hll,hP⟩:=choose_list key
  subst hll
  unfold maxLen at hmx
  have hcell:∀k (hk:k<L.length),W.cell? (a.add k)=some (St L[k])∧L[k].length≤9223372036854775807:=fun k hk=>hP k _ (List.getElem?_eq_getElem hk)
  have hbytes:L.length≤9223372036854775807:=by omega
  refine ⟨L,some a,m,hcs,⟨by simp [strs],fun hn=>⟨a,rfl,cell_block (hcell 0 hn).1,fun j u hu=>?_⟩⟩,hbytes,fun k hk=>?_⟩
  ·have hj:j<L.length:=by have:=(List.getElem?_eq_some_iff.1 hu).1;simpa [strs] using this
   rw [(hcell j hj).1,← hu]
   simp [strs,hj]
  ·rw [show L.getD k []=L[k] from by rw [List.getD_eq_getElem?_getD,List.getElem?_eq_getElem hk];rfl];exact (hcell k hk).2
theorem cells_term {cs:List Value}{x:DataW H × List MemPlace}{fuel:Nat}(h:DataW.trod enc Tryz.prog W 0 (fun _=>true) true fuel 24 cs=some x) :
  ∃(t:Tm) (A1 A2:Option Addr) (c1 c2:Nat),cs=[.int .i64 t.len,.slice A1 t.rest.length c1,.slice A2 t.clo.length c2]∧RN W A1 t.rest∧RN W A2 t.clo:=by
 obtain ⟨xs,n,-,-,hl,hxl,hf⟩:=DataW.trod_struct Tryz.underlying24 h
 have hC:Tryz.prog.cellsOf 24=3:=by kernel_rfl
 have hI:Tryz.prog.cellsOf 3=1:=by kernel_rfl
 have hS:Tryz.prog.cellsOf 22=1:=by kernel_rfl
 rw [hC] at hl
 match cs,hl with
 | [v0,v1,v2],_ =>
  match xs,hxl with
  | [y0,y1,y2],_ =>
   have f0:DataW.trod enc Tryz.prog W 0 (fun _=>true) true n 3 [v0]=some y0:=by have:=hf 0 _ rfl;simpa [hI,hS] using this
   have f1:DataW.trod enc Tryz.prog W 0 (fun _=>true) true n 22 [v1]=some y1:=by have:=hf 1 _ rfl;simpa [hI,hS] using this
   have f2:DataW.trod enc Tryz.prog W 0 (fun _=>true) true n 22 [v2]=some y2:=by have:=hf 2 _ rfl;simpa [hI,hS] using this
   obtain ⟨x0,e0,-,-⟩:=DataW.trod_int Tryz.underlying3 f0
   obtain ⟨l1,A1,c1,e1,-,h1⟩:=open_nums f1
   obtain ⟨l2,A2,c2,e2,-,h2⟩:=open_nums f2
   simp only [List.cons.injEq,and_true] at e0 e1 e2
   subst e0 e1 e2
   exact ⟨⟨x0,l1,l2⟩,A1,A2,c1,c2,rfl,h1,h2⟩
theorem cells_cycle9 {cs:List Value}{x:DataW H × List MemPlace}{fuel:Nat}(h:DataW.trod enc Tryz.prog W 0 (fun _=>true) true fuel 26 cs=some x):∃c:Cy,cs=[.int .i64 c.n,.int .i64 c.f,.int .i64 c.k]:=by
 obtain ⟨xs,n,-,-,hl,hxl,hf⟩:=DataW.trod_struct Tryz.underlying26 h
 have hC:Tryz.prog.cellsOf 26=3:=by kernel_rfl
 have hI:Tryz.prog.cellsOf 3=1:=by kernel_rfl
 rw [hC] at hl
 match cs,hl with
 | [v0,v1,v2],_ =>
  match xs,hxl with
  | [y0,y1,y2],_ =>
   have f0:DataW.trod enc Tryz.prog W 0 (fun _=>true) true n 3 [v0]=some y0:=by have:=hf 0 _ rfl;simpa [hI] using this
   have f1:DataW.trod enc Tryz.prog W 0 (fun _=>true) true n 3 [v1]=some y1:=by have:=hf 1 _ rfl;simpa [hI] using this
   have f2:DataW.trod enc Tryz.prog W 0 (fun _=>true) true n 3 [v2]=some y2:=by have:=hf 2 _ rfl;simpa [hI] using this
   obtain ⟨x0,e0,-,-⟩:=DataW.trod_int Tryz.underlying3 f0
   obtain ⟨x1,e1,-,-⟩:=DataW.trod_int Tryz.underlying3 f1
   obtain ⟨x2,e2,-,-⟩:=DataW.trod_int Tryz.underlying3 f2
   simp only [List.cons.injEq,and_true] at e0 e1 e2
   subst e0 e1 e2
   exact ⟨⟨x0,x1,x2⟩,rfl⟩
theorem cells_book {cs:List Value}{x:DataW H × List MemPlace}{fuel:Nat}(h:DataW.trod enc Tryz.prog W 0 (fun _=>true) true fuel 30 cs=some x) :
  ∃(b:Bk) (B1 B2:Option Addr) (d1 d2:Nat) (hp hq hr:Nat→SlH),cs=[.int .i64 b.props,.slice B1 b.items.length d1,.slice B2 b.rules.length d2]∧RBk (fun _=>True) W B1 B2 b hp hq hr:=by
 obtain ⟨xs,n,-,-,hl,hxl,hf⟩:=DataW.trod_struct Tryz.underlying30 h
 have hC:Tryz.prog.cellsOf 30=3:=by kernel_rfl
 have hI:Tryz.prog.cellsOf 3=1:=by kernel_rfl
 have hS:Tryz.prog.cellsOf 27=1:=by kernel_rfl
 have hR:Tryz.prog.cellsOf 28=1:=by kernel_rfl
 rw [hC] at hl
 match cs,hl with
 | [v0,v1,v2],_ =>
  match xs,hxl with
  | [y0,y1,y2],_ =>
   have f0:DataW.trod enc Tryz.prog W 0 (fun _=>true) true n 3 [v0]=some y0:=by have:=hf 0 _ rfl;simpa [hI,hS,hR] using this
   have f1:DataW.trod enc Tryz.prog W 0 (fun _=>true) true n 27 [v1]=some y1:=by have:=hf 1 _ rfl;simpa [hI,hS,hR] using this
   have f2:DataW.trod enc Tryz.prog W 0 (fun _=>true) true n 28 [v2]=some y2:=by have:=hf 2 _ rfl;simpa [hI,hS,hR] using this
   obtain ⟨x0,e0,-,-⟩:=DataW.trod_int Tryz.underlying3 f0
   obtain ⟨l1,A1,c1,hp,hq,e1,h1⟩:=open_items f1
   obtain ⟨l2,A2,c2,hr,e2,h2⟩:=open_rules f2
   simp only [List.cons.injEq,and_true] at e0 e1 e2
   subst e0 e1 e2
   exact ⟨⟨x0,l1,l2⟩,A1,A2,c1,c2,hp,hq,hr,rfl,h1,h2⟩
/-- A firm that comes in. -/
theorem open_firm {v:Value}{d:DataW H}{p:List MemPlace}{r:Reach}{b0:Nat}(hok:Value.okWide Tryz.prog W r b0 32 v)(h:DataW.Trod enc Tryz.prog W 0 (fun _=>true) true 32 v d p) :
  ∃f:Fi,v=.agg f.cells∧f.In W:=by
 obtain ⟨cs,rfl,hsz⟩:=okWide_struct Tryz.underlying32 hok
 obtain ⟨l⟩:=cs
 have hC:Tryz.prog.cellsOf 32=9:=by kernel_rfl
 have h1:Tryz.prog.cellsOf 24=3:=by kernel_rfl
 have h2:Tryz.prog.cellsOf 26=3:=by kernel_rfl
 have h3:Tryz.prog.cellsOf 30=3:=by kernel_rfl
 match l,hsz.trans hC with
 | [v0,v1,v2,v3,v4,v5,v6,v7,v8],_ =>
  obtain ⟨fuel,hf0⟩:=h
  obtain ⟨xs,n,-,-,-,hxl,hf⟩:=DataW.trod_struct Tryz.underlying32 hf0
  match xs,hxl with
  | [y0,y1,y2],_ =>
   have f0:DataW.trod enc Tryz.prog W 0 (fun _=>true) true n 24 [v0,v1,v2]=some y0:=by have:=hf 0 _ rfl;simpa [h1,h2,h3,Value.cells] using this
   have f1:DataW.trod enc Tryz.prog W 0 (fun _=>true) true n 26 [v3,v4,v5]=some y1:=by have:=hf 1 _ rfl;simpa [h1,h2,h3,Value.cells] using this
   have f2:DataW.trod enc Tryz.prog W 0 (fun _=>true) true n 30 [v6,v7,v8]=some y2:=by have:=hf 2 _ rfl;simpa [h1,h2,h3,Value.cells] using this
   obtain ⟨t,A1,A2,c1,c2,e0,g1,g2⟩:=cells_term f0
   obtain ⟨c,e1⟩:=cells_cycle9 f1
   obtain ⟨b,B1,B2,d1,d2,hp,hq,hr,e2,g3⟩:=cells_book f2
   simp only [List.cons.injEq,and_true] at e0 e1 e2
   obtain ⟨rfl,rfl,rfl⟩:=e0
   obtain ⟨rfl,rfl,rfl⟩:=e1
   obtain ⟨rfl,rfl,rfl⟩:=e2
   exact ⟨⟨t,c,b,A1,A2,B1,B2,c1,c2,d1,d2,hp,hq,hr⟩,rfl,⟨g1,g2,g3⟩⟩
/-- A list of orders that comes in. -/
theorem open_orders {v:Value}{d:DataW H}{p:List MemPlace}{r:Reach}{b0:Nat}(hok:Value.okWide Tryz.prog W r b0 33 v)(h:DataW.Trod enc Tryz.prog W 0 (fun _=>true) true 33 v d p) :
  ∃(l:List Wd) (A:Option Addr) (c:Nat),v=.slice A l.length c∧RS W A l∧l.length≤9223372036854775807∧∀k,k<l.length→(l.getD k []).length≤9223372036854775807:=by
 obtain ⟨fuel,hf⟩:=h
 obtain ⟨l,A,c,hcs,h1,h2,h3⟩:=open_words hf
 exact ⟨l,A,c,slice_of_cells Tryz.underlying33 hok hcs,h1,h2,h3⟩
end
section
variable {H:Type}{enc:TypeId × Value→H}{W:World}
theorem open_late {v:Value}{d:DataW H}{p:List MemPlace}{r:Reach}{b0:Nat}(hok:Value.okWide Tryz.prog W r b0 106 v)(h:DataW.Trod enc Tryz.prog W 0 (fun _=>true) true 106 v d p) :
  ∃(a1 a2 a3:Int),v=.agg #[.int .i64 a1,.int .i64 a2,.int .i64 a3]:=by
 obtain ⟨cs,rfl,hsz⟩:=okWide_struct Tryz.underlying106 hok
 obtain ⟨l⟩:=cs
 have hC:Tryz.prog.cellsOf 106=3:=by kernel_rfl
 have hI:Tryz.prog.cellsOf 3=1:=by kernel_rfl
 match l,hsz.trans hC with
 | [v0,v1,v2],_ =>
  obtain ⟨fuel,hf0⟩:=h
  obtain ⟨xs,n,-,-,-,hxl,hf⟩:=DataW.trod_struct Tryz.underlying106 hf0
  match xs,hxl with
  | [y0,y1,y2],_ =>
   have f0:DataW.trod enc Tryz.prog W 0 (fun _=>true) true n 3 [v0]=some y0:=by have:=hf 0 _ rfl;simpa [hI,Value.cells] using this
   have f1:DataW.trod enc Tryz.prog W 0 (fun _=>true) true n 3 [v1]=some y1:=by have:=hf 1 _ rfl;simpa [hI,Value.cells] using this
   have f2:DataW.trod enc Tryz.prog W 0 (fun _=>true) true n 3 [v2]=some y2:=by have:=hf 2 _ rfl;simpa [hI,Value.cells] using this
   obtain ⟨x0,e0,-,-⟩:=DataW.trod_int Tryz.underlying3 f0
   obtain ⟨x1,e1,-,-⟩:=DataW.trod_int Tryz.underlying3 f1
   obtain ⟨x2,e2,-,-⟩:=DataW.trod_int Tryz.underlying3 f2
   simp only [List.cons.injEq,and_true] at e0 e1 e2
   subst e0 e1 e2
   exact ⟨x0,x1,x2,rfl⟩
end
end Go.Proofs.YtiapkffihpgdcaaGreatDoor
namespace Go.Proofs.YtiapkffihpgdcaaGreatDoor
open Go.RowKit Go.Sort
section
variable {N:Nat}{w:World}{F F':Nat→Prop}{g x:Nat}{h:Hd}{h':Hr}{s:Of}
theorem RF.of_readsF {l:List Fact}{A:Option Addr}{I:Nat→Prop}(h:ReadsF I w 5 A l.length (cellsF l)):RF w w.heap.size A l:=⟨Nat.le_refl _,h.1⟩
end
end Go.Proofs.YtiapkffihpgdcaaGreatDoor
namespace Go.Proofs.YtiapkffihpgdcaaGreatDoor
open Go.RowKit
theorem nil_getD {l:List Wd}{k:Nat}(h:k<l.length):l.getD k []=l[k]:=by rw [List.getD_eq_getElem?_getD,List.getElem?_eq_getElem h];rfl
theorem lng_no {l:List Wd}(h:lng l=false):l.length≤300∧∀k,k<l.length→(l.getD k []).length≤400:=by
 unfold lng at h
 simp only [Bool.or_eq_false_iff,decide_eq_false_iff_not] at h
 obtain ⟨h1,h2⟩:=h
 rw [anyTo_false] at h1
 exact ⟨by omega,fun k hk=>by have:=h1 k hk;unfold lngP at this;rw [decide_eq_false_iff_not] at this;omega⟩
/-- Both offices do the same orders and answer the same. -/
theorem both_ok9 {f:Fi}{w:World}(hf:f.In w)(hl:f.Len)(hE:EnvA w)(hz:f.e=0)(l:List Wd)(A:Option Addr)(c:Nat)(hR:RS w A l)(hng:lng l=false) :
  Calls Tryz.prog 38 #[.agg f.cells,.slice A l.length c] w fun e w'=>∃g x,e=.returned (.tuple #[.pointer (some ⟨g,0,none⟩),.pointer (some ⟨x,0,none⟩),.bool true])∧DN w (min l.length 30) g x (runTo f.s0 l (min l.length 30)) (runTo f.s0 l (min l.length 30)) w':=by
 obtain ⟨hll,hlw⟩:=lng_no hng
 have hlw':=Lib.hid hlw
 clear hng hlw
 unfold Fi.cells
 obtain ⟨w2,hw2⟩:∃w2,w.alloc (.cells #[.int .i64 f.t.len,.slice f.A1 f.t.rest.length f.c1,.slice f.A2 f.t.clo.length f.c2,.int .i64 f.c.n,.int .i64 f.c.f,.int .i64 f.c.k,.int .i64 f.b.props,.slice f.B1 f.b.items.length f.d1,.slice f.B2 f.b.rules.length f.d2] 32)=w2:=⟨_,rfl⟩
 have hy:Below w.heap.size w w2:=by rw [← hw2];exact (Below.refl _ w).alloc (Nat.le_refl _) _
 have b0:Box w2 w.heap.size #[.int .i64 f.t.len,.slice f.A1 f.t.rest.length f.c1,.slice f.A2 f.t.clo.length f.c2,.int .i64 f.c.n,.int .i64 f.c.f,.int .i64 f.c.k,.int .i64 f.b.props,.slice f.B1 f.b.items.length f.d1,.slice f.B2 f.b.rules.length f.d2]:=by rw [← hw2];exact Box.new w _ _
 have HB:=Lib.hid (begin_ok (hf.below hy) hl (hE.below hy) hz)
 unfold Fi.cells at HB
 have x0:=b0.cell 0;have x1:=b0.cell 1;have x2:=b0.cell 2;have x3:=b0.cell 3;have x4:=b0.cell 4;have x5:=b0.cell 5;have x6:=b0.cell 6;have x7:=b0.cell 7;have x8:=b0.cell 8
 simp only [gqA,gqB,gqC] at x0 x1 x2 x3 x4 x5 x6 x7 x8
 obtain ⟨m,hm⟩:∃m,m=min l.length 30:=⟨_,rfl⟩
 rw [← hm]
 have hm1:m≤l.length∧m≤30:=by omega
 have hm2:m=l.length∨(m=30∧30<l.length):=by omega
 have HM:=Lib.hid hm2
 clear hz hm hm2
 go_enter Tryz.func38,Tryz.ntmps38
 go_wp2_with (go_at_call 36;(with_reducible refine HB.out.mono ?_);rintro e w3 ⟨g,x,rfl,hd⟩)
 have hrs:=hR.below hy
 clear hw2 x0 x1 x2 x3 x4 x5 x6 x7 x8 HB
 go_loopw [9,10] (fun ok v wr=>∃k:Nat,k≤m∧v=.int .i64 k∧ok=.bool true∧DN w2 k g x (runTo f.s0 l k) (runTo f.s0 l k) wr) (fun _ v _=>m-(intOf v).toNat)
 case atStart=>exact ⟨0,by omega,rfl,rfl,by rw [runTo_zero];exact hd⟩
 case round =>
  clear hd
  obtain ⟨k,hk,rfl,rfl,hdk⟩:=hrel
  by_cases hlt:k<m
  ·have h1:decide ((k:Int)<(l.length:Int))=true:=by rw [decide_eq_true_eq];omega
   have h2:decide ((k:Int)<(30:Int))=true:=by rw [decide_eq_true_eq];omega
   obtain ⟨ad,rfl,hab,c0⟩:=hrs.at_ (k:=k) (by omega)
   have htl:=hlw'.out k (by omega)
   have hrt:=runTo_succ f.s0 l (k:=k) (by omega)
   rw [nil_getD (by omega)] at htl hrt
   obtain ⟨tx,htx⟩:∃tx,tx=l[k]'(by omega):=⟨_,rfl⟩
   rw [← htx] at c0 htl hrt
   obtain ⟨sk,hsk⟩:∃sk,sk=runTo f.s0 l k:=⟨_,rfl⟩
   rw [← hsk] at hdk hrt
   have HRT:=Lib.hid hrt
   have C0:=Lib.hid c0
   have q0:=(hdk.bel.cell (by exact hab)).trans C0.out
   have HD:=Lib.hid ((hdk.below (Below.refl wr.heap.size wr).drew).do_ (by omega) tx (by omega))
   clear htx hsk hrt c0
   obtain ⟨D,hD⟩:∃D,D=doE sk tx:=⟨_,rfl⟩
   rw [← hD] at HD
   have HDE:=Lib.hid hD
   clear hD
   go_wp2_with fail
   go_region_held3 (fun w'=>w'.cell? (ad.add k)=some (St tx))
    (first | exact q1 | exact q2 | go_keep)
    (first
     | (go_at_call 25;(with_reducible refine HD.out.mono ?_);rintro e wA ⟨rfl,hdA⟩;have q1:=(hdA.bel.cell (by exact hab)).trans C0.out)
     | (go_at_call 53;(with_reducible refine (hdA.rdo tx (by omega)).mono ?_);rintro e wB ⟨rfl,hdB⟩;rw [← HDE.out];have q2:=(hdB.bel.cell (by exact hab)).trans C0.out))
   all_goals
    rw [← HRT.out] at hdB
    go_wp2_with fail
    go_roundw
    case rel=>exact ⟨k+1,by omega,by go_num,rfl,hdB⟩
    case measure=>simp [intOf];omega
  ·obtain rfl:k=m:=by omega
   have hfin:DN w k g x (runTo f.s0 l k) (runTo f.s0 l k) wr:=by
    obtain ⟨F,F',h,h',⟨po,ro,env,bel,lo,lo',dis⟩⟩:=hdk
    have:=hy.size
    exact ⟨F,F',h,h',⟨po,ro,env,hy.trans (bel.mono hy.size),fun k hk=>by have:=lo k hk;omega,fun k hk=>by have:=lo' k hk;omega,dis⟩⟩
   by_cases hc:k<l.length
   ·have h30:30≤k:=by have:=HM.out;omega
    go_wp2_with fail
    go_ret3
    exact ⟨g,x,rfl,hfin⟩
   ·go_wp2_with fail
    go_ret3
    exact ⟨g,x,rfl,hfin⟩
theorem lrg_tlen {f:Fi}(h:lrg f.t f.b=false)(hz:f.e=0):1≤f.t.len∧f.t.len≤120:=by
 obtain ⟨ht,_,_⟩:=newE_ok hz
 have h1:=ht.len1
 have h2:=ht.len2
 have h3:¬ lrgH f.t f.b:=fun hh=>by rw [lrg_head hh] at h;cases h
 unfold lrgH at h3
 omega
theorem runS_ok (ls:List Wd):∀o:Of,OfOk o→OfOk (runS o ls):=by
 induction ls with
 | nil=>intro o h;exact h
 | cons x ls ih=>intro o h;exact ih _ (h.step x)
section
variable {w0 w:World}{N g x:Nat}{s s':Of}
theorem DN.due (hd:DN w0 N g x s s' w)(c:Int):Calls Tryz.prog 29 #[.pointer (some ⟨g,0,none⟩),.int .i64 c] w fun e w'=>e=.returned (.tuple #[.int .i64 (dueR s c),.int .i64 (dueE s c)])∧Below w.heap.size w w':=by
 obtain ⟨F,F',h,h',hd⟩:=hd
 exact Due_any hd.po c
end
end Go.Proofs.YtiapkffihpgdcaaGreatDoor
namespace Go.Proofs.YtiapkffihpgdcaaGreatDoor
theorem knw01 {l:List Fact}(hfm:∀i,i<l.length→(gf l i).me=0∨(gf l i).me=1)(t c d:Int):knw l t c d=0∨knw l t c d=1:=by
 unfold knw fMe
 split
 ·exact .inl rfl
 ·have:=rsnTo_bd l t c d l.length
  have e:rsn l t c d=rsnTo l t c d l.length:=rfl
  exact hfm _ (by omega)
theorem price01 (m:Int):(m=0→priceI prices m=0)∧(m=1→priceI prices m=100):=by
 constructor
 ·rintro rfl;rfl
 ·rintro rfl;rfl
section
variable {l:List Fact}{now a b c d:Int}(hfa:∀i,i<l.length→(gf l i).at_≤now)(hfm:∀i,i<l.length→(gf l i).me=0∨(gf l i).me=1)(r:List Sp)
include hfa hfm
theorem pay_was (hn:now≤1440000)(had:knw l now c d=1):payI l r prices 1440 c d=if freeB r c d then 0 else 100:=by
 unfold payI
 split
 ·rfl
 ·have h1:knw l 1440000 c d=1:=by rw [knw_late (t':=now) (fun i hi=>by have:=hfa i hi;omega) hfa];exact had
  rw [h1,(price01 1).2 rfl]
  rcases knw01 hfm (d*1440-1440) c d with e | e
  ·rw [(price01 _).1 e];rfl
  ·rw [(price01 _).2 e];rfl
omit hfa in
theorem pay_is (ha:a=d*1440-b)(ha2:a≤1440000):payI (l ++ [⟨a,c,d,d+1,0⟩]) r prices 1440 c d=if freeB r c d then 0 else if b<1440∧knw l (d*1440-1440) c d=1 then 100 else 0:=by
 have hc:covB ⟨a,c,d,d+1,0⟩ c d=true:=(covB_iff _ _ _).2 ⟨rfl,by show d≤d;omega,by show d<d+1;omega⟩
 have h1:knw (l ++ [⟨a,c,d,d+1,0⟩]) 1440000 c d=0:=knw_hit (by unfold hit;rw [hc,Bool.and_true,decide_eq_true_eq];exact ha2)
 unfold payI
 split
 ·rfl
 ·rw [h1,(price01 0).1 rfl]
  by_cases hb:b<1440
  ·have h2:knw (l ++ [⟨a,c,d,d+1,0⟩]) (d*1440-1440) c d=knw l (d*1440-1440) c d:=knw_miss (by unfold hit;rw [hc,Bool.and_true,decide_eq_false_iff_not];show ¬ a≤d*1440-1440;omega)
   rw [h2]
   rcases knw01 hfm (d*1440-1440) c d with e | e
   ·rw [(price01 _).1 e,if_neg (by rintro ⟨_,h⟩;omega)];rfl
   ·rw [(price01 _).2 e,if_pos ⟨hb,e⟩];rfl
  ·have h2:knw (l ++ [⟨a,c,d,d+1,0⟩]) (d*1440-1440) c d=0:=knw_hit (by unfold hit;rw [hc,Bool.and_true,decide_eq_true_eq];show a≤d*1440-1440;omega)
   rw [h2,(price01 0).1 rfl,if_neg (by rintro ⟨h,_⟩;exact hb h)];rfl
end
theorem pay_else {l:List Fact}{a c d k:Int}(hk:k≠d)(r:List Sp):payI (l ++ [⟨a,c,d,d+1,0⟩]) r prices 1440 c k=payI l r prices 1440 c k:=by
 have hm:∀t,hit ⟨a,c,d,d+1,0⟩ t c k=false:=fun t=>by
  unfold hit
  rw [(covB_not _ _ _).2 (by rintro ⟨_,h1,h2⟩;have h1:d≤k:=h1;have h2:k<d+1:=h2;omega),Bool.and_false]
 unfold payI
 rw [knw_miss (hm _),knw_miss (hm _)]
theorem dueTo_change (o o':Of)(c:Int)(d:Nat)(hopn:∀k:Nat,o'.opn k=o.opn k)(hod:o.opn d=true)(hne:∀k:Nat,k≠d→payI o'.facts o'.rights prices 1440 c k=payI o.facts o.rights prices 1440 c k) :
  ∀n,dueTo o' c n=dueTo o c n+if d<n then payI o'.facts o'.rights prices 1440 c d-payI o.facts o.rights prices 1440 c d else 0
 | 0=>by simp [dueTo]
 | n+1=>by
  have ih:=dueTo_change o o' c d hopn hod hne n
  simp only [dueTo,ih,hopn]
  by_cases e:n=d
  ·subst e
   rw [if_neg (Nat.lt_irrefl _),if_pos (Nat.lt_succ_self _),hod]
   simp only [if_true]
   omega
  ·rw [hne n e]
   by_cases h:d<n
   ·rw [if_pos h,if_pos (show d<n+1 by omega)];omega
   ·rw [if_neg h,if_neg (show ¬ d<n+1 by omega)];omega
end Go.Proofs.YtiapkffihpgdcaaGreatDoor
