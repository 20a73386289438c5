import Derived.Test.YtiapkffihpgdcaaGreatDoorQB23
import Derived.Test.YtiapkffihpgdcaaGreatDoorQB24
import Derived.Test.YtiapkffihpgdcaaGreatDoorQB33
import Derived.BigRegion
set_option linter.unusedVariables false
set_option linter.unusedSimpArgs false
set_option maxRecDepth 100000
set_option maxHeartbeats 4000000
namespace Go.Proofs.YtiapkffihpgdcaaGreatDoor
open Go.RowKit
section
variable {w0 w w' w2:World}{N:Nat}{Z:Nat→Prop}{g x:Nat}{s:Of}
/-- What was made behind the office is not its own. -/
theorem KN.zone (hk:KN w0 N Z g s w)(hb:Below w.heap.size w w2):KN w0 N (fun k=>w.heap.size≤k∧k<w2.heap.size) g s w2:=by
 obtain ⟨F,h,hP,hE,hy,hF,hZ⟩:=hk
 exact ⟨F,h,hP.below hb,hE.below hb,hy.trans (hb.mono hy.size),hF,fun k hz=>⟨hz.2,fun hk=>by have:=(hP.lo k hk).2;omega⟩⟩
theorem KN.doZ (hk:KN w0 N Z g s w)(hN:N<1000000000)(txt:Wd)(ht:txt.length≤1000000000) :
  Calls Tryz.prog 25 #[.pointer (some ⟨g,0,none⟩),St txt] w fun e w'=>e=.returned (.int .i64 (doE s txt))∧KN w0 (N+1) Z g (doS s txt) w'∧Keeps Z w w':=by
 obtain ⟨F,h,hP,hE,hy,hF,hZ⟩:=hk
 refine (Do_any hP hE hN txt ht).mono ?_
 rintro e w' ⟨he,ho,h',hP'⟩
 have hs:=ho.size
 refine ⟨he,⟨grown F w w',h',hP',hE.off ho hP.f7,hy.trans (ho.to_below hF hy.size),?_,?_⟩,.of_off ho fun k hz _=>(hZ k hz).2⟩
 ·rintro k (hk | hk)
  ·exact hF k hk
  ·have:=hy.size;omega
 ·intro k hz
  have:=hZ k hz
  exact ⟨by omega,fun hk=>hk.elim this.2 (fun hk=>by omega)⟩
/-- The document's office in some memory,made behind the world w0;the blocks Z are not its own. -/
def KR (w0:World)(Z:Nat→Prop)(x:Nat)(s:Of)(w:World):Prop :=
 ∃(F:Nat→Prop) (h:Hr),RO w F x h s∧Below w0.heap.size w0 w∧(∀k,F k→w0.heap.size≤k)∧∀k,Z k→k<w.heap.size∧¬ F k
theorem KR.below (hk:KR w0 Z x s w)(hb:Below w.heap.size w w'):KR w0 Z x s w':=by
 obtain ⟨F,h,hP,hy,hF,hZ⟩:=hk
 exact ⟨F,h,hP.below hb,hy.trans (hb.mono hy.size),hF,fun k hz=>⟨Nat.lt_of_lt_of_le (hZ k hz).1 hb.size,(hZ k hz).2⟩⟩
theorem KR.zone (hk:KR w0 Z x s w)(hb:Below w.heap.size w w2):KR w0 (fun k=>w.heap.size≤k∧k<w2.heap.size) x s w2:=by
 obtain ⟨F,h,hP,hy,hF,hZ⟩:=hk
 exact ⟨F,h,hP.below hb,hy.trans (hb.mono hy.size),hF,fun k hz=>⟨hz.2,fun hk=>by have:=(hP.lo k hk).2;omega⟩⟩
theorem KR.at_ (hk:KR w0 Z x s w):Below w0.heap.size w0 w:=by
 obtain ⟨F,h,_,hy,_⟩:=hk
 exact hy
theorem KR.doZ (hk:KR w0 Z x s w)(txt:Wd)(ht:txt.length≤1000000000) :
  Calls Tryz.prog 53 #[.pointer (some ⟨x,0,none⟩),St txt] w fun e w'=>e=.returned (.int .i64 (doE s txt))∧KR w0 Z x (doS s txt) w'∧Keeps Z w w':=by
 obtain ⟨F,h,hP,hy,hF,hZ⟩:=hk
 refine (rDo_any hP txt ht).mono ?_
 rintro e w' ⟨he,ho,h',hP'⟩
 have hs:=ho.size
 refine ⟨he,⟨grown F w w',h',hP',hy.trans (ho.to_below hF hy.size),?_,?_⟩,.of_off ho fun k hz _=>(hZ k hz).2⟩
 ·rintro k (hk | hk)
  ·exact hF k hk
  ·have:=hy.size;omega
 ·intro k hz
  have:=hZ k hz
  exact ⟨by omega,fun hk=>hk.elim this.2 (fun hk=>by omega)⟩
end
theorem runTo_get (o:Of)(ls:List Wd){k:Nat}(hk:k<ls.length):runTo o ls (k+1)=doS (runTo o ls k) ls[k]:=by rw [runTo_succ o ls hk,nil_getD hk]
theorem rd_len (t:Wd):(rd t).1.length≤200:=rdL_len 200 t
theorem rdL_lines (n:Nat):∀t,∀w ∈ (rdL n t).1,w.length≤60:=by
 induction n with
 | zero=>intro t w h;simp [rdL] at h
 | succ n ih =>
  intro t w h
  simp only [rdL] at h
  split at h
  ·rename_i hg
   rcases List.mem_cons.1 h with rfl | h
   ·unfold goodL at hg;rw [decide_eq_true_eq] at hg;exact hg.2.2
   ·exact ih _ w h
  ·simp at h
theorem rd_line (t:Wd){k:Nat}(hk:k<(rd t).1.length):((rd t).1.getD k []).length≤60:=by rw [nil_getD hk];exact rdL_lines 200 t _ (List.getElem_mem hk)
theorem preplay_bad {f:Fi}{w:World}(hf:f.In w)(hl:f.Len)(hE:EnvA w)(t:Wd)(ht:t.length≤1000000)(hz:f.e≠0) :
  Calls Tryz.prog 55 #[.agg #[.int .i64 f.t.len,.slice f.A1 f.t.rest.length f.c1,.slice f.A2 f.t.clo.length f.c2],.agg #[.int .i64 f.c.n,.int .i64 f.c.f,.int .i64 f.c.k],.agg #[.int .i64 f.b.props,.slice f.B1 f.b.items.length f.d1,.slice f.B2 f.b.rules.length f.d2],St t] w fun e w'=>e=.returned (.tuple #[.pointer none,.int .i64 0,.int .i64 f.e])∧Below w.heap.size w w':=by
 obtain ⟨w2,hw2⟩:∃w2,(((w.alloc (.cells #[.int .i64 f.t.len,.slice f.A1 f.t.rest.length f.c1,.slice f.A2 f.t.clo.length f.c2] 24)).alloc (.cells #[.int .i64 f.c.n,.int .i64 f.c.f,.int .i64 f.c.k] 26)).alloc (.cells #[.int .i64 f.b.props,.slice f.B1 f.b.items.length f.d1,.slice f.B2 f.b.rules.length f.d2] 30))=w2:=⟨_,rfl⟩
 have hy:Below w.heap.size w w2:=by rw [← hw2];exact (((Below.refl _ w).alloc (Nat.le_refl _) _).alloc (by simp) _).alloc (by simp;omega) _
 have b0:Box w2 w.heap.size #[.int .i64 f.t.len,.slice f.A1 f.t.rest.length f.c1,.slice f.A2 f.t.clo.length f.c2]:=by rw [← hw2];exact ((Box.new w _ _).alloc _).alloc _
 have b1:Box w2 (w.heap.size+1) #[.int .i64 f.c.n,.int .i64 f.c.f,.int .i64 f.c.k]:=by rw [← hw2];exact ((Box.new (w.alloc (.cells #[.int .i64 f.t.len,.slice f.A1 f.t.rest.length f.c1,.slice f.A2 f.t.clo.length f.c2] 24)) _ _).at' (by simp)).alloc _
 have b2:Box w2 (w.heap.size+1+1) #[.int .i64 f.b.props,.slice f.B1 f.b.items.length f.d1,.slice f.B2 f.b.rules.length f.d2]:=by rw [← hw2];exact (Box.new ((w.alloc (.cells #[.int .i64 f.t.len,.slice f.A1 f.t.rest.length f.c1,.slice f.A2 f.t.clo.length f.c2] 24)).alloc (.cells #[.int .i64 f.c.n,.int .i64 f.c.f,.int .i64 f.c.k] 26)) _ _).at' (by simp)
 have x0:=b0.cell 0;have x1:=b0.cell 1;have x2:=b0.cell 2;have y0:=b1.cell 0;have y1:=b1.cell 1;have y2:=b1.cell 2;have z0:=b2.cell 0;have z1:=b2.cell 1;have z2:=b2.cell 2
 simp only [gqA,gqB,gqC] at x0 x1 x2 y0 y1 y2 z0 z1 z2
 have HP:=Lib.hid (pnew_bad (hf.below hy) hl (by have:=hy.size;have:=hE.z.size;omega) hz)
 have hne:(f.e != 0)=true:=by simpa using hz
 clear hz
 go_enter Tryz.func55,Tryz.ntmps55
 go_wp2_with (go_at_call 20;(with_reducible refine HP.out.mono ?_);rintro e w3 ⟨rfl,hb3⟩)
 go_ret3
 exact ⟨rfl,hy.trans (hb3.mono hy.size)⟩
theorem preplay_rest {f:Fi}{w:World}(hf:f.In w)(hl:f.Len)(hE:EnvA w)(t:Wd)(ht:t.length≤1000000)(hz:f.e=0)(hr:(rd t).2≠[]) :
  Calls Tryz.prog 55 #[.agg #[.int .i64 f.t.len,.slice f.A1 f.t.rest.length f.c1,.slice f.A2 f.t.clo.length f.c2],.agg #[.int .i64 f.c.n,.int .i64 f.c.f,.int .i64 f.c.k],.agg #[.int .i64 f.b.props,.slice f.B1 f.b.items.length f.d1,.slice f.B2 f.b.rules.length f.d2],St t] w fun e w'=>e=.returned (.tuple #[.pointer none,.int .i64 0,.int .i64 3])∧Below w.heap.size w w':=by
 obtain ⟨w2,hw2⟩:∃w2,(((w.alloc (.cells #[.int .i64 f.t.len,.slice f.A1 f.t.rest.length f.c1,.slice f.A2 f.t.clo.length f.c2] 24)).alloc (.cells #[.int .i64 f.c.n,.int .i64 f.c.f,.int .i64 f.c.k] 26)).alloc (.cells #[.int .i64 f.b.props,.slice f.B1 f.b.items.length f.d1,.slice f.B2 f.b.rules.length f.d2] 30))=w2:=⟨_,rfl⟩
 have hy:Below w.heap.size w w2:=by rw [← hw2];exact (((Below.refl _ w).alloc (Nat.le_refl _) _).alloc (by simp) _).alloc (by simp;omega) _
 have b0:Box w2 w.heap.size #[.int .i64 f.t.len,.slice f.A1 f.t.rest.length f.c1,.slice f.A2 f.t.clo.length f.c2]:=by rw [← hw2];exact ((Box.new w _ _).alloc _).alloc _
 have b1:Box w2 (w.heap.size+1) #[.int .i64 f.c.n,.int .i64 f.c.f,.int .i64 f.c.k]:=by rw [← hw2];exact ((Box.new (w.alloc (.cells #[.int .i64 f.t.len,.slice f.A1 f.t.rest.length f.c1,.slice f.A2 f.t.clo.length f.c2] 24)) _ _).at' (by simp)).alloc _
 have b2:Box w2 (w.heap.size+1+1) #[.int .i64 f.b.props,.slice f.B1 f.b.items.length f.d1,.slice f.B2 f.b.rules.length f.d2]:=by rw [← hw2];exact (Box.new ((w.alloc (.cells #[.int .i64 f.t.len,.slice f.A1 f.t.rest.length f.c1,.slice f.A2 f.t.clo.length f.c2] 24)).alloc (.cells #[.int .i64 f.c.n,.int .i64 f.c.f,.int .i64 f.c.k] 26)) _ _).at' (by simp)
 have x0:=b0.cell 0;have x1:=b0.cell 1;have x2:=b0.cell 2;have y0:=b1.cell 0;have y1:=b1.cell 1;have y2:=b1.cell 2;have z0:=b2.cell 0;have z1:=b2.cell 1;have z2:=b2.cell 2
 simp only [gqA,gqB,gqC] at x0 x1 x2 y0 y1 y2 z0 z1 z2
 have HP:=Lib.hid (pnew_ok (hf.below hy) hl (by have:=hy.size;have:=hE.z.size;omega) hz)
 have hrd:=fun (w':World) (hb:Below w2.heap.size w2 w')=>@read_any w' ((hE.below (hy.trans (hb.mono hy.size))).z) t (by omega)
 obtain ⟨ls,rst,hlr⟩:∃ls rst,rd t=(ls,rst):=⟨_,_,rfl⟩
 simp only [hlr] at hrd hr
 have HRD:=Lib.hid hrd
 clear hrd
 have hr1:rst.isEmpty=false:=by simpa using hr
 clear hz hlr hr
 go_enter Tryz.func55,Tryz.ntmps55
 go_wp2_with (first
  | (go_at_call 20;(with_reducible refine HP.out.mono ?_);rintro e w3 ⟨g,h,rfl,hpo,hb3⟩;have hk3:KN w2 0 (fun _=>False) g f.s0 w3:=⟨_,h,hpo,(hE.below hy).below hb3,hb3,fun k hk=>hk.1,fun _ hz=>hz.elim⟩)
  | (go_at_call 32;(with_reducible refine (HRD.out _ hb3).mono ?_);rintro e w4 ⟨A,c,rfl,own4,hb4⟩))
 go_ret3
 exact ⟨rfl,hy.trans ((hb3.trans (hb4.mono hb3.size)).mono hy.size)⟩
theorem preplay_stop {f:Fi}{w:World}(hf:f.In w)(hl:f.Len)(hE:EnvA w)(t:Wd)(ht:t.length≤1000000)(hz:f.e=0)(hr:(rd t).2=[])(i:Nat)(hi:i<(rd t).1.length)(hok:okTo f.s0 (rd t).1 i=true)(hd:doE (runTo f.s0 (rd t).1 i) ((rd t).1.getD i [])≠0) :
  Calls Tryz.prog 55 #[.agg #[.int .i64 f.t.len,.slice f.A1 f.t.rest.length f.c1,.slice f.A2 f.t.clo.length f.c2],.agg #[.int .i64 f.c.n,.int .i64 f.c.f,.int .i64 f.c.k],.agg #[.int .i64 f.b.props,.slice f.B1 f.b.items.length f.d1,.slice f.B2 f.b.rules.length f.d2],St t] w fun e w'=>e=.returned (.tuple #[.pointer none,.int .i64 i,.int .i64 (doE (runTo f.s0 (rd t).1 i) ((rd t).1.getD i []))])∧Below w.heap.size w w':=by
 obtain ⟨w2,hw2⟩:∃w2,(((w.alloc (.cells #[.int .i64 f.t.len,.slice f.A1 f.t.rest.length f.c1,.slice f.A2 f.t.clo.length f.c2] 24)).alloc (.cells #[.int .i64 f.c.n,.int .i64 f.c.f,.int .i64 f.c.k] 26)).alloc (.cells #[.int .i64 f.b.props,.slice f.B1 f.b.items.length f.d1,.slice f.B2 f.b.rules.length f.d2] 30))=w2:=⟨_,rfl⟩
 have hy:Below w.heap.size w w2:=by rw [← hw2];exact (((Below.refl _ w).alloc (Nat.le_refl _) _).alloc (by simp) _).alloc (by simp;omega) _
 have b0:Box w2 w.heap.size #[.int .i64 f.t.len,.slice f.A1 f.t.rest.length f.c1,.slice f.A2 f.t.clo.length f.c2]:=by rw [← hw2];exact ((Box.new w _ _).alloc _).alloc _
 have b1:Box w2 (w.heap.size+1) #[.int .i64 f.c.n,.int .i64 f.c.f,.int .i64 f.c.k]:=by rw [← hw2];exact ((Box.new (w.alloc (.cells #[.int .i64 f.t.len,.slice f.A1 f.t.rest.length f.c1,.slice f.A2 f.t.clo.length f.c2] 24)) _ _).at' (by simp)).alloc _
 have b2:Box w2 (w.heap.size+1+1) #[.int .i64 f.b.props,.slice f.B1 f.b.items.length f.d1,.slice f.B2 f.b.rules.length f.d2]:=by rw [← hw2];exact (Box.new ((w.alloc (.cells #[.int .i64 f.t.len,.slice f.A1 f.t.rest.length f.c1,.slice f.A2 f.t.clo.length f.c2] 24)).alloc (.cells #[.int .i64 f.c.n,.int .i64 f.c.f,.int .i64 f.c.k] 26)) _ _).at' (by simp)
 have x0:=b0.cell 0;have x1:=b0.cell 1;have x2:=b0.cell 2;have y0:=b1.cell 0;have y1:=b1.cell 1;have y2:=b1.cell 2;have z0:=b2.cell 0;have z1:=b2.cell 1;have z2:=b2.cell 2
 simp only [gqA,gqB,gqC] at x0 x1 x2 y0 y1 y2 z0 z1 z2
 have HP:=Lib.hid (pnew_ok (hf.below hy) hl (by have:=hy.size;have:=hE.z.size;omega) hz)
 have hll:=rd_len t
 have hln:=fun (k:Nat) (hk:k<(rd t).1.length)=>rd_line t hk
 have hrd:=fun (w':World) (hb:Below w2.heap.size w2 w')=>@read_any w' ((hE.below (hy.trans (hb.mono hy.size))).z) t (by omega)
 obtain ⟨ls,rst,hlr⟩:∃ls rst,rd t=(ls,rst):=⟨_,_,rfl⟩
 simp only [hlr] at hrd hr hll hln hok hd hi ⊢
 have HRD:=Lib.hid hrd
 clear hrd
 rw [okTo_iff] at hok
 have HOK:=Lib.hid hok
 have HLN:=Lib.hid hln
 obtain ⟨D,hD⟩:∃D,D=doE (runTo f.s0 ls i) (ls.getD i []):=⟨_,rfl⟩
 rw [← hD] at hd ⊢
 have HD:=Lib.hid hD
 have hdn:(D != 0)=true:=by simpa using hd
 subst hr
 clear hz hlr hok hln hd hD
 go_enter Tryz.func55,Tryz.ntmps55
 go_wp2_with (first
  | (go_at_call 20;(with_reducible refine HP.out.mono ?_);rintro e w3 ⟨g,h,rfl,hpo,hb3⟩;have hk3:KN w2 0 (fun _=>False) g f.s0 w3:=⟨_,h,hpo,(hE.below hy).below hb3,hb3,fun k hk=>hk.1,fun _ hz=>hz.elim⟩)
  | (go_at_call 32;(with_reducible refine (HRD.out _ hb3).mono ?_);rintro e w4 ⟨A,c,rfl,own4,hb4⟩))
 have hk4:=hk3.zone hb4
 have hrs:ReadsF (fun j=>w3.heap.size≤j∧j<w4.heap.size) w4 1 A ls.length (strs ls):=ReadsF.of_own' own4 fun k h1 h2=>⟨h1,h2⟩
 clear x0 x1 x2 y0 y1 y2 z0 z1 z2 b0 b1 b2 hw2 hk3 own4 HP HRD
 go_loopw [37] (fun v wr=>∃k:Nat,k≤i∧v=.int .i64 k∧KN w2 k (fun j=>w3.heap.size≤j∧j<w4.heap.size) g (runTo f.s0 ls k) wr∧ReadsF (fun j=>w3.heap.size≤j∧j<w4.heap.size) wr 1 A ls.length (strs ls)) (fun v _=>i-(intOf v).toNat)
 case atStart=>exact ⟨0,by omega,rfl,by rw [runTo_zero];exact hk4,hrs⟩
 case round =>
  clear hk4 hrs
  obtain ⟨k,hk,rfl,hkn,hrk⟩:=hrel
  by_cases hlt:k<i
  ·have hkl:k<ls.length:=by omega
   obtain ⟨ad,rfl,hab,c0⟩:=RS.at_ hrk.1 hkl
   have hdz:=HOK.out k (by omega)
   rw [nil_getD hkl] at hdz
   have hrt:=runTo_get f.s0 ls hkl
   have htl:=HLN.out k hkl
   rw [nil_getD hkl] at htl
   obtain ⟨tx,htx⟩:∃tx,tx=ls[k]:=⟨_,rfl⟩
   rw [← htx] at c0 hdz hrt htl
   have hdo:=hkn.doZ (by omega) tx (by omega)
   rw [hdz,← hrt] at hdo
   have HDO:=Lib.hid hdo
   clear htx hdz hrt hdo
   go_wp2_with (go_at_call 25;(with_reducible refine HDO.out.mono ?_);rintro e w5 ⟨rfl,hk5,hz5⟩)
   go_roundw
   case rel=>exact ⟨k+1,by omega,by go_num,hk5,hrk.kept hz5⟩
   case measure=>simp [intOf];omega
  ·obtain rfl:k=i:=by omega
   obtain ⟨ad,rfl,hab,c0⟩:=RS.at_ hrk.1 hi
   have htl:=HLN.out k hi
   have hdk:=HD.out
   rw [nil_getD hi] at htl hdk
   obtain ⟨tx,htx⟩:∃tx,tx=ls[k]:=⟨_,rfl⟩
   rw [← htx] at c0 htl hdk
   have hdo:=hkn.doZ (by omega) tx (by omega)
   rw [← hdk] at hdo
   have HDO:=Lib.hid hdo
   clear htx hdo hdk
   go_wp2_with (go_at_call 25;(with_reducible refine HDO.out.mono ?_);rintro e w5 ⟨rfl,hk5,hz5⟩)
   go_ret3
   exact ⟨rfl,hy.trans (hk5.at_.mono hy.size)⟩
theorem preplay_ok {f:Fi}{w:World}(hf:f.In w)(hl:f.Len)(hE:EnvA w)(t:Wd)(ht:t.length≤1000000)(hz:f.e=0)(hr:(rd t).2=[])(hok:okTo f.s0 (rd t).1 (rd t).1.length=true) :
  Calls Tryz.prog 55 #[.agg #[.int .i64 f.t.len,.slice f.A1 f.t.rest.length f.c1,.slice f.A2 f.t.clo.length f.c2],.agg #[.int .i64 f.c.n,.int .i64 f.c.f,.int .i64 f.c.k],.agg #[.int .i64 f.b.props,.slice f.B1 f.b.items.length f.d1,.slice f.B2 f.b.rules.length f.d2],St t] w fun e w'=>∃g,e=.returned (.tuple #[.pointer (some ⟨g,0,none⟩),.int .i64 (rd t).1.length,.int .i64 0])∧KN w (rd t).1.length (fun _=>False) g (runS f.s0 (rd t).1) w':=by
 obtain ⟨w2,hw2⟩:∃w2,(((w.alloc (.cells #[.int .i64 f.t.len,.slice f.A1 f.t.rest.length f.c1,.slice f.A2 f.t.clo.length f.c2] 24)).alloc (.cells #[.int .i64 f.c.n,.int .i64 f.c.f,.int .i64 f.c.k] 26)).alloc (.cells #[.int .i64 f.b.props,.slice f.B1 f.b.items.length f.d1,.slice f.B2 f.b.rules.length f.d2] 30))=w2:=⟨_,rfl⟩
 have hy:Below w.heap.size w w2:=by rw [← hw2];exact (((Below.refl _ w).alloc (Nat.le_refl _) _).alloc (by simp) _).alloc (by simp;omega) _
 have b0:Box w2 w.heap.size #[.int .i64 f.t.len,.slice f.A1 f.t.rest.length f.c1,.slice f.A2 f.t.clo.length f.c2]:=by rw [← hw2];exact ((Box.new w _ _).alloc _).alloc _
 have b1:Box w2 (w.heap.size+1) #[.int .i64 f.c.n,.int .i64 f.c.f,.int .i64 f.c.k]:=by rw [← hw2];exact ((Box.new (w.alloc (.cells #[.int .i64 f.t.len,.slice f.A1 f.t.rest.length f.c1,.slice f.A2 f.t.clo.length f.c2] 24)) _ _).at' (by simp)).alloc _
 have b2:Box w2 (w.heap.size+1+1) #[.int .i64 f.b.props,.slice f.B1 f.b.items.length f.d1,.slice f.B2 f.b.rules.length f.d2]:=by rw [← hw2];exact (Box.new ((w.alloc (.cells #[.int .i64 f.t.len,.slice f.A1 f.t.rest.length f.c1,.slice f.A2 f.t.clo.length f.c2] 24)).alloc (.cells #[.int .i64 f.c.n,.int .i64 f.c.f,.int .i64 f.c.k] 26)) _ _).at' (by simp)
 have x0:=b0.cell 0;have x1:=b0.cell 1;have x2:=b0.cell 2;have y0:=b1.cell 0;have y1:=b1.cell 1;have y2:=b1.cell 2;have z0:=b2.cell 0;have z1:=b2.cell 1;have z2:=b2.cell 2
 simp only [gqA,gqB,gqC] at x0 x1 x2 y0 y1 y2 z0 z1 z2
 have HP:=Lib.hid (pnew_ok (hf.below hy) hl (by have:=hy.size;have:=hE.z.size;omega) hz)
 have hll:=rd_len t
 have hln:=fun (k:Nat) (hk:k<(rd t).1.length)=>rd_line t hk
 have hrd:=fun (w':World) (hb:Below w2.heap.size w2 w')=>@read_any w' ((hE.below (hy.trans (hb.mono hy.size))).z) t (by omega)
 obtain ⟨ls,rst,hlr⟩:∃ls rst,rd t=(ls,rst):=⟨_,_,rfl⟩
 simp only [hlr] at hrd hr hll hln hok ⊢
 have HRD:=Lib.hid hrd
 clear hrd
 rw [okTo_iff] at hok
 have HOK:=Lib.hid hok
 have HLN:=Lib.hid hln
 subst hr
 clear hz hlr hok hln
 go_enter Tryz.func55,Tryz.ntmps55
 go_wp2_with (first
  | (go_at_call 20;(with_reducible refine HP.out.mono ?_);rintro e w3 ⟨g,h,rfl,hpo,hb3⟩;have hk3:KN w2 0 (fun _=>False) g f.s0 w3:=⟨_,h,hpo,(hE.below hy).below hb3,hb3,fun k hk=>hk.1,fun _ hz=>hz.elim⟩)
  | (go_at_call 32;(with_reducible refine (HRD.out _ hb3).mono ?_);rintro e w4 ⟨A,c,rfl,own4,hb4⟩))
 have hk4:=hk3.zone hb4
 have hrs:ReadsF (fun j=>w3.heap.size≤j∧j<w4.heap.size) w4 1 A ls.length (strs ls):=ReadsF.of_own' own4 fun k h1 h2=>⟨h1,h2⟩
 clear x0 x1 x2 y0 y1 y2 z0 z1 z2 b0 b1 b2 hw2 hk3 own4 HP HRD
 go_loopw [37] (fun v wr=>∃k:Nat,k≤ls.length∧v=.int .i64 k∧KN w2 k (fun j=>w3.heap.size≤j∧j<w4.heap.size) g (runTo f.s0 ls k) wr∧ReadsF (fun j=>w3.heap.size≤j∧j<w4.heap.size) wr 1 A ls.length (strs ls)) (fun v _=>ls.length-(intOf v).toNat)
 case atStart=>exact ⟨0,by omega,rfl,by rw [runTo_zero];exact hk4,hrs⟩
 case round =>
  clear hk4 hrs
  obtain ⟨k,hk,rfl,hkn,hrk⟩:=hrel
  by_cases hlt:k<ls.length
  ·have hkl:k<ls.length:=by omega
   obtain ⟨ad,rfl,hab,c0⟩:=RS.at_ hrk.1 hkl
   have hdz:=HOK.out k (by omega)
   rw [nil_getD hkl] at hdz
   have hrt:=runTo_get f.s0 ls hkl
   have htl:=HLN.out k hkl
   rw [nil_getD hkl] at htl
   obtain ⟨tx,htx⟩:∃tx,tx=ls[k]:=⟨_,rfl⟩
   rw [← htx] at c0 hdz hrt htl
   have hdo:=hkn.doZ (by omega) tx (by omega)
   rw [hdz,← hrt] at hdo
   have HDO:=Lib.hid hdo
   clear htx hdz hrt hdo
   go_wp2_with (go_at_call 25;(with_reducible refine HDO.out.mono ?_);rintro e w5 ⟨rfl,hk5,hz5⟩)
   go_roundw
   case rel=>exact ⟨k+1,by omega,by go_num,hk5,hrk.kept hz5⟩
   case measure=>simp [intOf];omega
  ·obtain rfl:k=ls.length:=by omega
   go_wp2_with fail
   go_ret3
   rw [runTo_all] at hkn
   obtain ⟨F,h,hP,hE',hyy,hF,hZ⟩:=hkn
   have:=hy.size
   exact ⟨g,rfl,F,h,hP,hE',hy.trans (hyy.mono hy.size),fun k hk=>by have:=hF k hk;omega,fun _ hz=>hz.elim⟩
theorem xreplay_bad {f:Fi}{w:World}(hf:f.In w)(hl:f.Len)(hE:EnvA w)(t:Wd)(ht:t.length≤1000000)(hz:f.e≠0) :
  Calls Tryz.prog 56 #[.agg #[.int .i64 f.t.len,.slice f.A1 f.t.rest.length f.c1,.slice f.A2 f.t.clo.length f.c2],.agg #[.int .i64 f.c.n,.int .i64 f.c.f,.int .i64 f.c.k],.agg #[.int .i64 f.b.props,.slice f.B1 f.b.items.length f.d1,.slice f.B2 f.b.rules.length f.d2],St t] w fun e w'=>e=.returned (.tuple #[.pointer none,.int .i64 0,.int .i64 f.e])∧Below w.heap.size w w':=by
 obtain ⟨w2,hw2⟩:∃w2,(((w.alloc (.cells #[.int .i64 f.t.len,.slice f.A1 f.t.rest.length f.c1,.slice f.A2 f.t.clo.length f.c2] 24)).alloc (.cells #[.int .i64 f.c.n,.int .i64 f.c.f,.int .i64 f.c.k] 26)).alloc (.cells #[.int .i64 f.b.props,.slice f.B1 f.b.items.length f.d1,.slice f.B2 f.b.rules.length f.d2] 30))=w2:=⟨_,rfl⟩
 have hy:Below w.heap.size w w2:=by rw [← hw2];exact (((Below.refl _ w).alloc (Nat.le_refl _) _).alloc (by simp) _).alloc (by simp;omega) _
 have b0:Box w2 w.heap.size #[.int .i64 f.t.len,.slice f.A1 f.t.rest.length f.c1,.slice f.A2 f.t.clo.length f.c2]:=by rw [← hw2];exact ((Box.new w _ _).alloc _).alloc _
 have b1:Box w2 (w.heap.size+1) #[.int .i64 f.c.n,.int .i64 f.c.f,.int .i64 f.c.k]:=by rw [← hw2];exact ((Box.new (w.alloc (.cells #[.int .i64 f.t.len,.slice f.A1 f.t.rest.length f.c1,.slice f.A2 f.t.clo.length f.c2] 24)) _ _).at' (by simp)).alloc _
 have b2:Box w2 (w.heap.size+1+1) #[.int .i64 f.b.props,.slice f.B1 f.b.items.length f.d1,.slice f.B2 f.b.rules.length f.d2]:=by rw [← hw2];exact (Box.new ((w.alloc (.cells #[.int .i64 f.t.len,.slice f.A1 f.t.rest.length f.c1,.slice f.A2 f.t.clo.length f.c2] 24)).alloc (.cells #[.int .i64 f.c.n,.int .i64 f.c.f,.int .i64 f.c.k] 26)) _ _).at' (by simp)
 have x0:=b0.cell 0;have x1:=b0.cell 1;have x2:=b0.cell 2;have y0:=b1.cell 0;have y1:=b1.cell 1;have y2:=b1.cell 2;have z0:=b2.cell 0;have z1:=b2.cell 1;have z2:=b2.cell 2
 simp only [gqA,gqB,gqC] at x0 x1 x2 y0 y1 y2 z0 z1 z2
 have HP:=Lib.hid (xnew_bad (hf.below hy) hl hz)
 have hne:(f.e != 0)=true:=by simpa using hz
 clear hz
 go_enter Tryz.func56,Tryz.ntmps56
 go_wp2_with (go_at_call 52;(with_reducible refine HP.out.mono ?_);rintro e w3 ⟨rfl,hb3⟩)
 go_ret3
 exact ⟨rfl,hy.trans (hb3.mono hy.size)⟩
theorem xreplay_rest {f:Fi}{w:World}(hf:f.In w)(hl:f.Len)(hE:EnvA w)(t:Wd)(ht:t.length≤1000000)(hz:f.e=0)(hr:(rd t).2≠[]) :
  Calls Tryz.prog 56 #[.agg #[.int .i64 f.t.len,.slice f.A1 f.t.rest.length f.c1,.slice f.A2 f.t.clo.length f.c2],.agg #[.int .i64 f.c.n,.int .i64 f.c.f,.int .i64 f.c.k],.agg #[.int .i64 f.b.props,.slice f.B1 f.b.items.length f.d1,.slice f.B2 f.b.rules.length f.d2],St t] w fun e w'=>e=.returned (.tuple #[.pointer none,.int .i64 0,.int .i64 3])∧Below w.heap.size w w':=by
 obtain ⟨w2,hw2⟩:∃w2,(((w.alloc (.cells #[.int .i64 f.t.len,.slice f.A1 f.t.rest.length f.c1,.slice f.A2 f.t.clo.length f.c2] 24)).alloc (.cells #[.int .i64 f.c.n,.int .i64 f.c.f,.int .i64 f.c.k] 26)).alloc (.cells #[.int .i64 f.b.props,.slice f.B1 f.b.items.length f.d1,.slice f.B2 f.b.rules.length f.d2] 30))=w2:=⟨_,rfl⟩
 have hy:Below w.heap.size w w2:=by rw [← hw2];exact (((Below.refl _ w).alloc (Nat.le_refl _) _).alloc (by simp) _).alloc (by simp;omega) _
 have b0:Box w2 w.heap.size #[.int .i64 f.t.len,.slice f.A1 f.t.rest.length f.c1,.slice f.A2 f.t.clo.length f.c2]:=by rw [← hw2];exact ((Box.new w _ _).alloc _).alloc _
 have b1:Box w2 (w.heap.size+1) #[.int .i64 f.c.n,.int .i64 f.c.f,.int .i64 f.c.k]:=by rw [← hw2];exact ((Box.new (w.alloc (.cells #[.int .i64 f.t.len,.slice f.A1 f.t.rest.length f.c1,.slice f.A2 f.t.clo.length f.c2] 24)) _ _).at' (by simp)).alloc _
 have b2:Box w2 (w.heap.size+1+1) #[.int .i64 f.b.props,.slice f.B1 f.b.items.length f.d1,.slice f.B2 f.b.rules.length f.d2]:=by rw [← hw2];exact (Box.new ((w.alloc (.cells #[.int .i64 f.t.len,.slice f.A1 f.t.rest.length f.c1,.slice f.A2 f.t.clo.length f.c2] 24)).alloc (.cells #[.int .i64 f.c.n,.int .i64 f.c.f,.int .i64 f.c.k] 26)) _ _).at' (by simp)
 have x0:=b0.cell 0;have x1:=b0.cell 1;have x2:=b0.cell 2;have y0:=b1.cell 0;have y1:=b1.cell 1;have y2:=b1.cell 2;have z0:=b2.cell 0;have z1:=b2.cell 1;have z2:=b2.cell 2
 simp only [gqA,gqB,gqC] at x0 x1 x2 y0 y1 y2 z0 z1 z2
 have HP:=Lib.hid (xnew_ok (hf.below hy) hl (by have:=hy.size;have:=hE.z.size;omega) hz)
 have hrd:=fun (w':World) (hb:Below w2.heap.size w2 w')=>@rread_any w' t (by omega)
 obtain ⟨ls,rst,hlr⟩:∃ls rst,rd t=(ls,rst):=⟨_,_,rfl⟩
 simp only [hlr] at hrd hr
 have HRD:=Lib.hid hrd
 clear hrd
 have hr1:rst.isEmpty=false:=by simpa using hr
 clear hz hlr hr
 go_enter Tryz.func56,Tryz.ntmps56
 go_wp2_with (first
  | (go_at_call 52;(with_reducible refine HP.out.mono ?_);rintro e w3 ⟨x,h,rfl,hpo,hb3⟩;have hk3:KR w2 (fun _=>False) x f.s0 w3:=⟨_,h,hpo,hb3,fun k hk=>hk.1,fun _ hz=>hz.elim⟩)
  | (go_at_call 33;(with_reducible refine (HRD.out _ hb3).mono ?_);rintro e w4 ⟨A,c,rfl,own4,hb4⟩))
 go_ret3
 exact ⟨rfl,hy.trans ((hb3.trans (hb4.mono hb3.size)).mono hy.size)⟩
theorem xreplay_stop {f:Fi}{w:World}(hf:f.In w)(hl:f.Len)(hE:EnvA w)(t:Wd)(ht:t.length≤1000000)(hz:f.e=0)(hr:(rd t).2=[])(i:Nat)(hi:i<(rd t).1.length)(hok:okTo f.s0 (rd t).1 i=true)(hd:doE (runTo f.s0 (rd t).1 i) ((rd t).1.getD i [])≠0) :
  Calls Tryz.prog 56 #[.agg #[.int .i64 f.t.len,.slice f.A1 f.t.rest.length f.c1,.slice f.A2 f.t.clo.length f.c2],.agg #[.int .i64 f.c.n,.int .i64 f.c.f,.int .i64 f.c.k],.agg #[.int .i64 f.b.props,.slice f.B1 f.b.items.length f.d1,.slice f.B2 f.b.rules.length f.d2],St t] w fun e w'=>e=.returned (.tuple #[.pointer none,.int .i64 i,.int .i64 (doE (runTo f.s0 (rd t).1 i) ((rd t).1.getD i []))])∧Below w.heap.size w w':=by
 obtain ⟨w2,hw2⟩:∃w2,(((w.alloc (.cells #[.int .i64 f.t.len,.slice f.A1 f.t.rest.length f.c1,.slice f.A2 f.t.clo.length f.c2] 24)).alloc (.cells #[.int .i64 f.c.n,.int .i64 f.c.f,.int .i64 f.c.k] 26)).alloc (.cells #[.int .i64 f.b.props,.slice f.B1 f.b.items.length f.d1,.slice f.B2 f.b.rules.length f.d2] 30))=w2:=⟨_,rfl⟩
 have hy:Below w.heap.size w w2:=by rw [← hw2];exact (((Below.refl _ w).alloc (Nat.le_refl _) _).alloc (by simp) _).alloc (by simp;omega) _
 have b0:Box w2 w.heap.size #[.int .i64 f.t.len,.slice f.A1 f.t.rest.length f.c1,.slice f.A2 f.t.clo.length f.c2]:=by rw [← hw2];exact ((Box.new w _ _).alloc _).alloc _
 have b1:Box w2 (w.heap.size+1) #[.int .i64 f.c.n,.int .i64 f.c.f,.int .i64 f.c.k]:=by rw [← hw2];exact ((Box.new (w.alloc (.cells #[.int .i64 f.t.len,.slice f.A1 f.t.rest.length f.c1,.slice f.A2 f.t.clo.length f.c2] 24)) _ _).at' (by simp)).alloc _
 have b2:Box w2 (w.heap.size+1+1) #[.int .i64 f.b.props,.slice f.B1 f.b.items.length f.d1,.slice f.B2 f.b.rules.length f.d2]:=by rw [← hw2];exact (Box.new ((w.alloc (.cells #[.int .i64 f.t.len,.slice f.A1 f.t.rest.length f.c1,.slice f.A2 f.t.clo.length f.c2] 24)).alloc (.cells #[.int .i64 f.c.n,.int .i64 f.c.f,.int .i64 f.c.k] 26)) _ _).at' (by simp)
 have x0:=b0.cell 0;have x1:=b0.cell 1;have x2:=b0.cell 2;have y0:=b1.cell 0;have y1:=b1.cell 1;have y2:=b1.cell 2;have z0:=b2.cell 0;have z1:=b2.cell 1;have z2:=b2.cell 2
 simp only [gqA,gqB,gqC] at x0 x1 x2 y0 y1 y2 z0 z1 z2
 have HP:=Lib.hid (xnew_ok (hf.below hy) hl (by have:=hy.size;have:=hE.z.size;omega) hz)
 have hll:=rd_len t
 have hln:=fun (k:Nat) (hk:k<(rd t).1.length)=>rd_line t hk
 have hrd:=fun (w':World) (hb:Below w2.heap.size w2 w')=>@rread_any w' t (by omega)
 obtain ⟨ls,rst,hlr⟩:∃ls rst,rd t=(ls,rst):=⟨_,_,rfl⟩
 simp only [hlr] at hrd hr hll hln hok hd hi ⊢
 have HRD:=Lib.hid hrd
 clear hrd
 rw [okTo_iff] at hok
 have HOK:=Lib.hid hok
 have HLN:=Lib.hid hln
 obtain ⟨D,hD⟩:∃D,D=doE (runTo f.s0 ls i) (ls.getD i []):=⟨_,rfl⟩
 rw [← hD] at hd ⊢
 have HD:=Lib.hid hD
 have hdn:(D != 0)=true:=by simpa using hd
 subst hr
 clear hz hlr hok hln hd hD
 go_enter Tryz.func56,Tryz.ntmps56
 go_wp2_with (first
  | (go_at_call 52;(with_reducible refine HP.out.mono ?_);rintro e w3 ⟨x,h,rfl,hpo,hb3⟩;have hk3:KR w2 (fun _=>False) x f.s0 w3:=⟨_,h,hpo,hb3,fun k hk=>hk.1,fun _ hz=>hz.elim⟩)
  | (go_at_call 33;(with_reducible refine (HRD.out _ hb3).mono ?_);rintro e w4 ⟨A,c,rfl,own4,hb4⟩))
 have hk4:=hk3.zone hb4
 have hrs:ReadsF (fun j=>w3.heap.size≤j∧j<w4.heap.size) w4 1 A ls.length (strs ls):=ReadsF.of_own' own4 fun k h1 h2=>⟨h1,h2⟩
 clear x0 x1 x2 y0 y1 y2 z0 z1 z2 b0 b1 b2 hw2 hk3 own4 HP HRD
 go_loopw [15] (fun v wr=>∃k:Nat,k≤i∧v=.int .i64 k∧KR w2 (fun j=>w3.heap.size≤j∧j<w4.heap.size) x (runTo f.s0 ls k) wr∧ReadsF (fun j=>w3.heap.size≤j∧j<w4.heap.size) wr 1 A ls.length (strs ls)) (fun v _=>i-(intOf v).toNat)
 case atStart=>exact ⟨0,by omega,rfl,by rw [runTo_zero];exact hk4,hrs⟩
 case round =>
  clear hk4 hrs
  obtain ⟨k,hk,rfl,hkn,hrk⟩:=hrel
  by_cases hlt:k<i
  ·have hkl:k<ls.length:=by omega
   obtain ⟨ad,rfl,hab,c0⟩:=RS.at_ hrk.1 hkl
   have hdz:=HOK.out k (by omega)
   rw [nil_getD hkl] at hdz
   have hrt:=runTo_get f.s0 ls hkl
   have htl:=HLN.out k hkl
   rw [nil_getD hkl] at htl
   obtain ⟨tx,htx⟩:∃tx,tx=ls[k]:=⟨_,rfl⟩
   rw [← htx] at c0 hdz hrt htl
   have hdo:=hkn.doZ tx (by omega)
   rw [hdz,← hrt] at hdo
   have HDO:=Lib.hid hdo
   clear htx hdz hrt hdo
   go_wp2_with (go_at_call 53;(with_reducible refine HDO.out.mono ?_);rintro e w5 ⟨rfl,hk5,hz5⟩)
   go_roundw
   case rel=>exact ⟨k+1,by omega,by go_num,hk5,hrk.kept hz5⟩
   case measure=>simp [intOf];omega
  ·obtain rfl:k=i:=by omega
   obtain ⟨ad,rfl,hab,c0⟩:=RS.at_ hrk.1 hi
   have htl:=HLN.out k hi
   have hdk:=HD.out
   rw [nil_getD hi] at htl hdk
   obtain ⟨tx,htx⟩:∃tx,tx=ls[k]:=⟨_,rfl⟩
   rw [← htx] at c0 htl hdk
   have hdo:=hkn.doZ tx (by omega)
   rw [← hdk] at hdo
   have HDO:=Lib.hid hdo
   clear htx hdo hdk
   go_wp2_with (go_at_call 53;(with_reducible refine HDO.out.mono ?_);rintro e w5 ⟨rfl,hk5,hz5⟩)
   go_ret3
   exact ⟨rfl,hy.trans (hk5.at_.mono hy.size)⟩
theorem xreplay_ok {f:Fi}{w:World}(hf:f.In w)(hl:f.Len)(hE:EnvA w)(t:Wd)(ht:t.length≤1000000)(hz:f.e=0)(hr:(rd t).2=[])(hok:okTo f.s0 (rd t).1 (rd t).1.length=true) :
  Calls Tryz.prog 56 #[.agg #[.int .i64 f.t.len,.slice f.A1 f.t.rest.length f.c1,.slice f.A2 f.t.clo.length f.c2],.agg #[.int .i64 f.c.n,.int .i64 f.c.f,.int .i64 f.c.k],.agg #[.int .i64 f.b.props,.slice f.B1 f.b.items.length f.d1,.slice f.B2 f.b.rules.length f.d2],St t] w fun e w'=>∃x,e=.returned (.tuple #[.pointer (some ⟨x,0,none⟩),.int .i64 (rd t).1.length,.int .i64 0])∧KR w (fun _=>False) x (runS f.s0 (rd t).1) w':=by
 obtain ⟨w2,hw2⟩:∃w2,(((w.alloc (.cells #[.int .i64 f.t.len,.slice f.A1 f.t.rest.length f.c1,.slice f.A2 f.t.clo.length f.c2] 24)).alloc (.cells #[.int .i64 f.c.n,.int .i64 f.c.f,.int .i64 f.c.k] 26)).alloc (.cells #[.int .i64 f.b.props,.slice f.B1 f.b.items.length f.d1,.slice f.B2 f.b.rules.length f.d2] 30))=w2:=⟨_,rfl⟩
 have hy:Below w.heap.size w w2:=by rw [← hw2];exact (((Below.refl _ w).alloc (Nat.le_refl _) _).alloc (by simp) _).alloc (by simp;omega) _
 have b0:Box w2 w.heap.size #[.int .i64 f.t.len,.slice f.A1 f.t.rest.length f.c1,.slice f.A2 f.t.clo.length f.c2]:=by rw [← hw2];exact ((Box.new w _ _).alloc _).alloc _
 have b1:Box w2 (w.heap.size+1) #[.int .i64 f.c.n,.int .i64 f.c.f,.int .i64 f.c.k]:=by rw [← hw2];exact ((Box.new (w.alloc (.cells #[.int .i64 f.t.len,.slice f.A1 f.t.rest.length f.c1,.slice f.A2 f.t.clo.length f.c2] 24)) _ _).at' (by simp)).alloc _
 have b2:Box w2 (w.heap.size+1+1) #[.int .i64 f.b.props,.slice f.B1 f.b.items.length f.d1,.slice f.B2 f.b.rules.length f.d2]:=by rw [← hw2];exact (Box.new ((w.alloc (.cells #[.int .i64 f.t.len,.slice f.A1 f.t.rest.length f.c1,.slice f.A2 f.t.clo.length f.c2] 24)).alloc (.cells #[.int .i64 f.c.n,.int .i64 f.c.f,.int .i64 f.c.k] 26)) _ _).at' (by simp)
 have x0:=b0.cell 0;have x1:=b0.cell 1;have x2:=b0.cell 2;have y0:=b1.cell 0;have y1:=b1.cell 1;have y2:=b1.cell 2;have z0:=b2.cell 0;have z1:=b2.cell 1;have z2:=b2.cell 2
 simp only [gqA,gqB,gqC] at x0 x1 x2 y0 y1 y2 z0 z1 z2
 have HP:=Lib.hid (xnew_ok (hf.below hy) hl (by have:=hy.size;have:=hE.z.size;omega) hz)
 have hll:=rd_len t
 have hln:=fun (k:Nat) (hk:k<(rd t).1.length)=>rd_line t hk
 have hrd:=fun (w':World) (hb:Below w2.heap.size w2 w')=>@rread_any w' t (by omega)
 obtain ⟨ls,rst,hlr⟩:∃ls rst,rd t=(ls,rst):=⟨_,_,rfl⟩
 simp only [hlr] at hrd hr hll hln hok ⊢
 have HRD:=Lib.hid hrd
 clear hrd
 rw [okTo_iff] at hok
 have HOK:=Lib.hid hok
 have HLN:=Lib.hid hln
 subst hr
 clear hz hlr hok hln
 go_enter Tryz.func56,Tryz.ntmps56
 go_wp2_with (first
  | (go_at_call 52;(with_reducible refine HP.out.mono ?_);rintro e w3 ⟨x,h,rfl,hpo,hb3⟩;have hk3:KR w2 (fun _=>False) x f.s0 w3:=⟨_,h,hpo,hb3,fun k hk=>hk.1,fun _ hz=>hz.elim⟩)
  | (go_at_call 33;(with_reducible refine (HRD.out _ hb3).mono ?_);rintro e w4 ⟨A,c,rfl,own4,hb4⟩))
 have hk4:=hk3.zone hb4
 have hrs:ReadsF (fun j=>w3.heap.size≤j∧j<w4.heap.size) w4 1 A ls.length (strs ls):=ReadsF.of_own' own4 fun k h1 h2=>⟨h1,h2⟩
 clear x0 x1 x2 y0 y1 y2 z0 z1 z2 b0 b1 b2 hw2 hk3 own4 HP HRD
 go_loopw [15] (fun v wr=>∃k:Nat,k≤ls.length∧v=.int .i64 k∧KR w2 (fun j=>w3.heap.size≤j∧j<w4.heap.size) x (runTo f.s0 ls k) wr∧ReadsF (fun j=>w3.heap.size≤j∧j<w4.heap.size) wr 1 A ls.length (strs ls)) (fun v _=>ls.length-(intOf v).toNat)
 case atStart=>exact ⟨0,by omega,rfl,by rw [runTo_zero];exact hk4,hrs⟩
 case round =>
  clear hk4 hrs
  obtain ⟨k,hk,rfl,hkn,hrk⟩:=hrel
  by_cases hlt:k<ls.length
  ·have hkl:k<ls.length:=by omega
   obtain ⟨ad,rfl,hab,c0⟩:=RS.at_ hrk.1 hkl
   have hdz:=HOK.out k (by omega)
   rw [nil_getD hkl] at hdz
   have hrt:=runTo_get f.s0 ls hkl
   have htl:=HLN.out k hkl
   rw [nil_getD hkl] at htl
   obtain ⟨tx,htx⟩:∃tx,tx=ls[k]:=⟨_,rfl⟩
   rw [← htx] at c0 hdz hrt htl
   have hdo:=hkn.doZ tx (by omega)
   rw [hdz,← hrt] at hdo
   have HDO:=Lib.hid hdo
   clear htx hdz hrt hdo
   go_wp2_with (go_at_call 53;(with_reducible refine HDO.out.mono ?_);rintro e w5 ⟨rfl,hk5,hz5⟩)
   go_roundw
   case rel=>exact ⟨k+1,by omega,by go_num,hk5,hrk.kept hz5⟩
   case measure=>simp [intOf];omega
  ·obtain rfl:k=ls.length:=by omega
   go_wp2_with fail
   go_ret3
   rw [runTo_all] at hkn
   obtain ⟨F,h,hP,hyy,hF,hZ⟩:=hkn
   have:=hy.size
   exact ⟨x,rfl,F,h,hP,hy.trans (hyy.mono hy.size),fun k hk=>by have:=hF k hk;omega,fun _ hz=>hz.elim⟩
theorem lrg_tlen {f:Fi}(h:lrg f.t f.b=false)(hz:f.e=0):1≤f.t.len∧f.t.len≤120:=by
 obtain ⟨ht,_,_⟩:=newE_ok hz
 have h1:=ht.len1
 have h2:=ht.len2
 have h3:¬ lrgH f.t f.b:=fun hh=>by rw [lrg_head hh] at h;cases h
 unfold lrgH at h3
 omega
theorem runS_same (ls:List Wd):∀o:Of,(runS o ls).tm=o.tm∧(runS o ls).cy=o.cy∧(runS o ls).bk=o.bk:=by
 induction ls with
 | nil=>intro o;exact ⟨rfl,rfl,rfl⟩
 | cons x ls ih =>
  intro o
  obtain ⟨h1,h2,h3⟩:=ih (doS o x)
  obtain ⟨g1,g2,g3⟩:=doS_same o x
  exact ⟨h1.trans g1,h2.trans g2,h3.trans g3⟩
theorem runS_ok (ls:List Wd):∀o:Of,OfOk o→OfOk (runS o ls):=by
 induction ls with
 | nil=>intro o h;exact h
 | cons x ls ih=>intro o h;exact ih _ (h.step x)
theorem hist_run (ls:List Wd):∀o:Of,Hist o→Hist (runS o ls):=by
 induction ls with
 | nil=>intro o h;exact h
 | cons y ls ih=>intro o h;exact ih _ (h.step y)
theorem replay_facts {f:Fi}{S:Of}{ls:List Wd}(hS:S=runS f.s0 ls)(hz:f.e=0):OfOk S∧okTo f.s0 S.orders S.orders.length=true∧runS f.s0 S.orders=S:=by
 have h1:Hist S:=by rw [hS];exact hist_run _ _ (Hist.new _ _ _)
 obtain ⟨e1,e2,e3⟩:=runS_same ls f.s0
 rw [← hS] at e1 e2 e3
 have e:new0 S.tm S.cy S.bk=f.s0:=by rw [e1,e2,e3];rfl
 have g1:=h1.ok
 have g2:=h1.run
 rw [e] at g1 g2
 exact ⟨by rw [hS];exact runS_ok _ _ (OfOk.new hz),g1,g2⟩
/-- The first k lines of a book. -/
theorem rd_take {S:Of}(h:OfOk S)(k:Nat)(hk:k≤S.orders.length):rd (bokTo S.orders k)=(S.orders.take k,[])∧(bokTo S.orders k).length≤61*k:=by
 refine ⟨?_,bokTo_len S.orders h.short k⟩
 rw [bokTo_take _ _ hk]
 exact rdL_bok _ _ (fun w hw=>h.lines w (List.mem_of_mem_take hw)) (by have:=h.ol;rw [List.length_take];omega)
theorem okTo_take (o:Of)(ls:List Wd)(h:okTo o ls ls.length=true)(k:Nat)(hk:k≤ls.length):okTo o (ls.take k) k=true:=by
 rw [okTo_iff] at h ⊢
 intro i hi
 have h1:=h i (by omega)
 have e1:runTo o (ls.take k) i=runTo o ls i:=by unfold runTo;rw [List.take_take,Nat.min_eq_left (by omega)]
 have e2:(ls.take k).getD i []=ls.getD i []:=by rw [List.getD_eq_getElem?_getD,List.getD_eq_getElem?_getD,List.getElem?_take_of_lt hi]
 rw [e1,e2];exact h1
theorem preplay_at {f:Fi}{w:World}(hf:f.In w)(hl:f.Len)(hE:EnvA w)(hz:f.e=0)(t:Wd)(ls:List Wd)(ht:t.length≤1000000)(hrd:rd t=(ls,[]))(hok:okTo f.s0 ls ls.length=true) :
  Calls Tryz.prog 55 #[.agg #[.int .i64 f.t.len,.slice f.A1 f.t.rest.length f.c1,.slice f.A2 f.t.clo.length f.c2],.agg #[.int .i64 f.c.n,.int .i64 f.c.f,.int .i64 f.c.k],.agg #[.int .i64 f.b.props,.slice f.B1 f.b.items.length f.d1,.slice f.B2 f.b.rules.length f.d2],St t] w fun e w'=>∃g,e=.returned (.tuple #[.pointer (some ⟨g,0,none⟩),.int .i64 ls.length,.int .i64 0])∧KN w ls.length (fun _=>False) g (runS f.s0 ls) w':=by
 have:=preplay_ok hf hl hE t ht hz (by rw [hrd]) (by rw [hrd];exact hok)
 rw [hrd] at this
 exact this
theorem xreplay_at {f:Fi}{w:World}(hf:f.In w)(hl:f.Len)(hE:EnvA w)(hz:f.e=0)(t:Wd)(ls:List Wd)(ht:t.length≤1000000)(hrd:rd t=(ls,[]))(hok:okTo f.s0 ls ls.length=true) :
  Calls Tryz.prog 56 #[.agg #[.int .i64 f.t.len,.slice f.A1 f.t.rest.length f.c1,.slice f.A2 f.t.clo.length f.c2],.agg #[.int .i64 f.c.n,.int .i64 f.c.f,.int .i64 f.c.k],.agg #[.int .i64 f.b.props,.slice f.B1 f.b.items.length f.d1,.slice f.B2 f.b.rules.length f.d2],St t] w fun e w'=>∃x,e=.returned (.tuple #[.pointer (some ⟨x,0,none⟩),.int .i64 ls.length,.int .i64 0])∧KR w (fun _=>False) x (runS f.s0 ls) w':=by
 have:=xreplay_ok hf hl hE t ht hz (by rw [hrd]) (by rw [hrd];exact hok)
 rw [hrd] at this
 exact this
end Go.Proofs.YtiapkffihpgdcaaGreatDoor
namespace Go.Proofs.YtiapkffihpgdcaaGreatDoor
open Go.RowKit Go.Sort
section
variable {w:World}{F:Nat→Prop}{g:Nat}{h:Hr}{s:Of}
theorem chE_zero (hs:OfOk s){d:Nat}(hd:d<s.days):chE s.facts d 1=0∧childR s.facts s.now d 1=chTo s.facts s.now 1 d 100:=by
 have h1:=days_le hs.tm
 have e:chE s.facts d 1=0:=by
  unfold chE askd
  rw [if_neg (by rw [hs.fv];decide),if_pos (by rw [Bool.and_eq_true,inB_true,inB_true];omega)]
 refine ⟨e,?_⟩
 unfold childR
 rw [if_pos e,Int.toNat_natCast]
theorem rPortions_any (hP:RO w F g h s)(d:Int) :
  Calls Tryz.prog 96 #[.pointer (some ⟨g,0,none⟩),.int .i64 d] w fun e w'=>e=.returned (.tuple #[.int .i64 (porR s d),.int .i64 (dayE s d)])∧Below w.heap.size w w':=by
 have q:=hP.cMn
 have hgl:=hP.gl
 by_cases h0:0≤d
 ·by_cases h1:d<(s.days:Int)
  ·obtain ⟨n,rfl⟩:∃n:Nat,d=n:=⟨d.toNat,by omega⟩
   have hn:n<s.days:=by omega
   cases ho:s.opn n with
   | false =>
    have hd:dayE s n=13:=by rw [dayE_in h0 h1,ho];rfl
    have hr:porR s n=0:=porR_no (by rw [hd];decide)
    rw [hd,hr]
    have hcon:=ropn_any hP n
    rw [ho] at hcon
    have HC:=Lib.hid hcon
    clear hd hr hcon
    go_enter Tryz.func96,Tryz.ntmps96
    go_wp2_with (go_at_call 99;(with_reducible refine HC.out.mono ?_);rintro e w2 ⟨rfl,hw2⟩;have hw3:=hw2.symm;clear hw2;subst hw3)
    go_ret2
    exact ⟨rfl,Below.refl _ _⟩
   | true =>
    have hd:dayE s n=0:=by rw [dayE_in h0 h1,ho];rfl
    have hr:=porR_yes hd
    have hp:=por_children hP.ok hn
    rw [hd,hr,hp]
    have hcon:=ropn_any hP n
    rw [ho] at hcon
    have HC:=Lib.hid hcon
    obtain ⟨e1,e2⟩:=chE_zero hP.ok hn
    have hrc:=rchildrenX_any s.facts s.now n 1 (by have:=hP.ok.fl;omega) h.fa.1 h.fa.2 _ w.drew hP.rf.drew
    rw [e1,e2] at hrc
    obtain ⟨X,hX⟩:∃X,X=chTo s.facts s.now 1 n 100:=⟨_,rfl⟩
    rw [← hX] at hrc ⊢
    have HR:=Lib.hid hrc
    have c7:=hP.cFa;have c4:=hP.cNow
    clear hd hr hp hcon hrc e1 e2 hX ho
    go_enter Tryz.func96,Tryz.ntmps96
    go_wp2_with (go_at_call 99;(with_reducible refine HC.out.mono ?_);rintro e w2 ⟨rfl,hw2⟩;have hw3:=hw2.symm;clear hw2;subst hw3)
    go_region_with (go_at_call 179;(with_reducible refine HR.out.mono ?_);rintro e w3 ⟨A',c',rfl,own3,hb3⟩)
    all_goals
     go_wp2_with fail
     go_ret2
     exact ⟨rfl,(Below.refl w.heap.size w).drew.trans hb3⟩
  ·have hd:dayE s d=1:=dayE_out (by omega)
   have hr:porR s d=0:=porR_no (by rw [hd];decide)
   rw [hd,hr]
   have hl1:decide (d<0)=false:=by rw [decide_eq_false_iff_not];omega
   have hl2:decide ((s.days:Int)≤d)=true:=by rw [decide_eq_true_eq];omega
   clear hd hr
   go_enter Tryz.func96,Tryz.ntmps96
   go_wp2_with fail
   go_ret2
   exact ⟨rfl,Below.refl _ _⟩
 ·have hd:dayE s d=1:=dayE_out (by omega)
  have hr:porR s d=0:=porR_no (by rw [hd];decide)
  rw [hd,hr]
  have hl1:decide (d<0)=true:=by rw [decide_eq_true_eq];omega
  clear hd hr
  go_enter Tryz.func96,Tryz.ntmps96
  go_wp2_with fail
  go_ret2
  exact ⟨rfl,Below.refl _ _⟩
end
section
variable {w:World}{F:Nat→Prop}{g:Nat}{h:Hr}{s:Of}
theorem svd_no {d:Int}(hn:svdE s d≠0):ckd s d=0∧etn s d=0∧wst s d=0∧mis s d=0:=by
 unfold wst mis ckd etn
 simp [hn]
theorem svd_yes {d C E:Int}(hE:dayE s d=0)(hc:s.cooked d=some C)(he:s.eaten d=some E):svdE s d=0∧ckd s d=C∧etn s d=E∧wst s d=C-E∧mis s d=max 0 (porR s d-C):=by
 have hE2:svdE s d=0:=by unfold svdE;rw [if_neg (by rw [hE];decide),if_neg (by rw [he];simp)]
 unfold wst mis ckd etn
 rw [if_pos hE2,if_pos hE2,hE2,hc,he]
 exact ⟨rfl,rfl,rfl,rfl,rfl⟩
theorem rServed_any (hP:RO w F g h s)(d:Int) :
  Calls Tryz.prog 97 #[.pointer (some ⟨g,0,none⟩),.int .i64 d] w fun e w'=>e=.returned (.tuple #[.int .i64 (ckd s d),.int .i64 (etn s d),.int .i64 (wst s d),.int .i64 (mis s d),.int .i64 (svdE s d)])∧Below w.heap.size w w':=by
 have hcon:=rPortions_any hP d
 obtain ⟨R,hRR⟩:∃R,R=porR s d:=⟨_,rfl⟩
 by_cases hE:dayE s d=0
 ·have ho:s.opn d=true:=dayE_open hE
  obtain ⟨hd0,hd1⟩:=Of.opn_bd hP.ok ho
  have hdd:d<(s.days:Int):=by unfold Of.opn at ho;rw [decide_eq_true_eq] at ho;exact ho.2.1
  obtain ⟨n,rfl⟩:∃n:Nat,d=n:=⟨d.toNat,by omega⟩
  have hn:n<s.days:=by omega
  have hat1:=dyTo_at s.eaten s.days n hn
  have hat2:=dyTo_at s.cooked s.days n hn
  have hpl:porR s n≤100∧0≤porR s n:=by
   have:=porR_yes (s:=s) (d:=n) hE
   have h2:=porTo_le (s:=s) n s.kids.length
   have:=hP.ok.kl
   omega
  cases he:s.eaten n with
  | none =>
   have hE2:svdE s n=12:=by unfold svdE;rw [if_neg (by rw [hE];decide),if_pos (by rw [he];rfl)]
   obtain ⟨v1,v2,v3,v4⟩:=svd_no (s:=s) (d:=n) (by rw [hE2];decide)
   rw [v1,v2,v3,v4,hE2]
   rw [hE,← hRR] at hcon
   rw [he] at hat1
   have HC:=Lib.hid hcon
   clear v1 v2 v3 v4 hE2 hcon hE he hRR ho hpl hat2
   go_enter Tryz.func97,Tryz.ntmps97
   go_wp2_with (go_at_call 96;(with_reducible refine HC.out.mono ?_);rintro e w3 ⟨rfl,hb3⟩;have hP3:=hP.below hb3;have c16:=hP3.cEt;obtain ⟨ad,hA,hab,t0⟩:=hP3.eat.at_ (k:=n) (by rw [dyTo_len];exact hn);rw [hA] at c16;rw [hat1] at t0;simp only [Option.getD_none] at t0)
   (try simp only [Exit.inBlock,Exit.then])
   exact bodyPost_ret (results_tmp5 rfl _ _ _) rfl ⟨rfl,hb3⟩
  | some E =>
   obtain ⟨C,hC,hE0,hE1⟩:=hP.ok.et n E he
   obtain ⟨_,hC0,hC1⟩:=hP.ok.ck n C hC
   obtain ⟨v0,v1,v2,v3,v4⟩:=svd_yes hE hC he
   rw [v0,v1,v2,v3,v4]
   rw [← hRR] at hcon hpl ⊢
   rw [hE] at hcon
   rw [he] at hat1
   rw [hC] at hat2
   have HC:=Lib.hid hcon
   obtain ⟨hp1,hp2⟩:=hpl
   have hEd:decide (E<0)=false:=by rw [decide_eq_false_iff_not];omega
   clear v0 v1 v2 v3 v4 hcon hE he hRR ho hC
   go_enter Tryz.func97,Tryz.ntmps97
   go_wp2_with (go_at_call 96;(with_reducible refine HC.out.mono ?_);rintro e w3 ⟨rfl,hb3⟩;have hP3:=hP.below hb3;have c16:=hP3.cEt;have c15:=hP3.cCk;obtain ⟨ad,hA,hab,t0⟩:=hP3.eat.at_ (k:=n) (by rw [dyTo_len];exact hn);obtain ⟨ad2,hA2,hab2,t2⟩:=hP3.cook.at_ (k:=n) (by rw [dyTo_len];exact hn);rw [hA] at c16;rw [hA2] at c15;rw [hat1] at t0;rw [hat2] at t2;simp only [Option.getD_some] at t0 t2)
   go_quiet (fail)
   go_wp2_with fail
   (try simp only [Exit.inBlock,Exit.then])
   exact bodyPost_ret (results_tmp5 rfl _ _ _) rfl ⟨rfl,Go.below_drewN hb3 _⟩
 ·have hE2:svdE s d=dayE s d:=by unfold svdE;rw [if_pos hE]
  have hE':(dayE s d != 0)=true:=by simp [hE]
  obtain ⟨v1,v2,v3,v4⟩:=svd_no (s:=s) (d:=d) (by rw [hE2];exact hE)
  rw [v1,v2,v3,v4,hE2]
  obtain ⟨E,hEE⟩:∃E,E=dayE s d:=⟨_,rfl⟩
  rw [← hRR,← hEE] at hcon
  rw [← hEE] at hE' ⊢
  have HC:=Lib.hid hcon
  clear v1 v2 v3 v4 hE2 hcon hE hEE hRR
  go_enter Tryz.func97,Tryz.ntmps97
  go_wp2_with (go_at_call 96;(with_reducible refine HC.out.mono ?_);rintro e w3 ⟨rfl,hb3⟩)
  (try simp only [Exit.inBlock,Exit.then])
  exact bodyPost_ret (results_tmp5 rfl _ _ _) rfl ⟨rfl,hb3⟩
end
end Go.Proofs.YtiapkffihpgdcaaGreatDoor
