import Derived.Test.YtiapkffihpgdcaaGreatDoorQC10
import Derived.Test.YtiapkffihpgdcaaGreatDoorQC11
import Derived.Deep.RegionWith
set_option linter.unusedVariables false
set_option linter.unusedSimpArgs false
set_option maxRecDepth 100000
set_option maxHeartbeats 4000000
namespace Go.Proofs.YtiapkffihpgdcaaGreatDoor
open Go.RowKit
theorem copyTerm_any (t:Tm)(A1 A2:Option Addr)(c1 c2:Nat)(w:World)(h1:RN w A1 t.rest)(h2:RN w A2 t.clo)(hl1:t.rest.length≤1000000000)(hl2:t.clo.length≤1000000000) :
  Calls Tryz.prog 68 #[.agg #[.int .i64 t.len,.slice A1 t.rest.length c1,.slice A2 t.clo.length c2]] w fun e w'=>∃A c A' c',e=.returned (.agg #[.int .i64 t.len,.slice A t.rest.length c,.slice A' t.clo.length c'])∧OwnN w' w.heap.size A c t.rest∧OwnN w' w.heap.size A' c' t.clo∧Below w.heap.size w w':=by
 obtain ⟨w2,hw2⟩:∃w2,((w.alloc (.cells #[.int .i64 t.len,.slice A1 t.rest.length c1,.slice A2 t.clo.length c2] 24)).alloc (.cells #[.int .i64 0,.slice none 0 0,.slice none 0 0] 24))=w2:=⟨_,rfl⟩
 have hy:Below w.heap.size w w2:=by rw [← hw2];exact ((Below.refl _ w).alloc (Nat.le_refl _) _).alloc (by simp) _
 have b0:Box w2 w.heap.size #[.int .i64 t.len,.slice A1 t.rest.length c1,.slice A2 t.clo.length c2]:=by rw [← hw2];exact (Box.new w _ _).alloc _
 have b1:Box w2 (w.heap.size+1) #[.int .i64 0,.slice none 0 0,.slice none 0 0]:=by rw [← hw2];exact (Box.new (w.alloc (.cells #[.int .i64 t.len,.slice A1 t.rest.length c1,.slice A2 t.clo.length c2] 24)) _ _).at' (by simp)
 have r1:=h1.below hy
 have r2:=h2.below hy
 have d1:RN w2.drew A1 t.rest:=r1
 have d2:RN w2.drew A2 t.clo:=r2
 have x0:=b0.cell 0;have x1:=b0.cell 1;have x2:=b0.cell 2
 have f0:=b0.free 0;have f1:=b0.free 1;have f2:=b0.free 2
 have b0d:=b0.drewN 1
 have b1d:=b1.drewN 1
 simp only [gqA,gqB,gqC] at x0 x1 x2
 have hsz:w.heap.size+1<w2.heap.size:=b1.lt
 go_enter Tryz.func68,Tryz.ntmps68
 go_wp2_with fail
 go_cut [11] (fun s wx=>∃A c A' c',Box wx w.heap.size #[.int .i64 t.len,.slice A t.rest.length c,.slice A' t.clo.length c']∧Box wx (w.heap.size+1) #[.int .i64 0,.slice none 0 0,.slice none 0 0]∧OwnN wx w2.heap.size A c t.rest∧OwnN wx w2.heap.size A' c' t.clo∧Below w.heap.size w wx)
 case first =>
  go_region_with (first | (go_at_call 154;(with_reducible refine (clone_any t.rest hl1 A1 c1 _ d1).mono ?_);rintro e wA ⟨AA,cA,rfl,ownA,hbA⟩;have hsA:w2.heap.size≤wA.heap.size:=hbA.size;have y0:=(b0d.below hbA).cell 0;have y1:=(b0d.below hbA).cell 1;have y2:=(b0d.below hbA).cell 2;have g0:=(b0d.below hbA).free 0;have g1:=(b0d.below hbA).free 1;have g2:=(b0d.below hbA).free 2;simp only [gqA,gqB,gqC] at y0 y1 y2) | (go_at_call 154;(with_reducible refine (clone_any t.clo hl2 A2 c2 _ (d2.below hbA)).mono ?_);rintro e wB ⟨AB,cB,rfl,ownB,hbB⟩;have hsB:wA.heap.size≤wB.heap.size:=hbB.size;have z0:=((b0d.below hbA).below hbB).cell 0;have z1:=((b0d.below hbA).below hbB).cell 1;have z2:=((b0d.below hbA).below hbB).cell 2;have e0:=((b0d.below hbA).below hbB).free 0;have e1:=((b0d.below hbA).below hbB).free 1;have e2:=((b0d.below hbA).below hbB).free 2;simp only [gqA,gqB,gqC] at z0 z1 z2))
  all_goals
   go_wp2_with fail
   go_meet
   have hz:Below w2.heap.size w2 wB:=(Below.refl w2.heap.size w2).drew.trans (hbA.trans (hbB.mono hsA))
   have hz3:=(((hy.trans (hz.mono hy.size)).setCell (p:=⟨w.heap.size,1,none⟩) (by show w.heap.size≤w.heap.size;omega) (.slice AA t.rest.length cA)).setCell (p:=⟨w.heap.size,2,none⟩) (by show w.heap.size≤w.heap.size;omega) (.slice AB t.clo.length cB))
   have g0:=((b0.below hz).set 1 (.slice AA t.rest.length cA) (by simp)).set 2 (.slice AB t.clo.length cB) (by simp)
   refine ⟨AA,cA,AB,cB,by simpa using g0,?_,?_,?_,hz3⟩
   ·exact ((b1.below hz).far (by simp) _).far (by simp) _
   ·exact ownsRow_setCell_below (ownsRow_setCell_below (ownA.kept hbB) (show w.heap.size<w2.heap.size by omega) _) (show w.heap.size<w2.heap.size by omega) _
   ·exact own_base (ownsRow_setCell_below (ownsRow_setCell_below ownB (show w.heap.size<wA.heap.size by omega) _) (show w.heap.size<wA.heap.size by omega) _) hsA
 case rest =>
  obtain ⟨A,c,A',c',q0,q1,own1,own2,hb⟩:=hcut
  have y0:=q0.cell 0;have y1:=q0.cell 1;have y2:=q0.cell 2
  have z0:=q1.cell 0;have z1:=q1.cell 1;have z2:=q1.cell 2
  have g0:=q1.free 0;have g1:=q1.free 1;have g2:=q1.free 2
  simp only [gqA,gqB,gqC] at y0 y1 y2 z0 z1 z2
  clear x0 x1 x2 f0 f1 f2
  go_wp2_with fail
  have q3:=((q1.set 0 (.int .i64 t.len) (by simp)).set 1 (.slice A t.rest.length c) (by simp)).set 2 (.slice A' t.clo.length c') (by simp)
  have v0:=q3.cell 0;have v1:=q3.cell 1;have v2:=q3.cell 2
  simp at v0 v1 v2
  refine bodyPost_ret (v:=.agg #[.int .i64 t.len,.slice A t.rest.length c,.slice A' t.clo.length c']) (by simp [results,Tryz.results68,go_sem,v0,v1,v2]) rfl ?_
  refine ⟨A,c,A',c',rfl,?_,?_,((hb.setCell (p:=⟨w.heap.size+1,0,none⟩) (by show w.heap.size≤w.heap.size+1;omega) _).setCell (p:=⟨w.heap.size+1,1,none⟩) (by show w.heap.size≤w.heap.size+1;omega) _).setCell (p:=⟨w.heap.size+1,2,none⟩) (by show w.heap.size≤w.heap.size+1;omega) _⟩
  ·exact own_base (ownsRow_setCell_below (ownsRow_setCell_below (ownsRow_setCell_below own1 hsz _) hsz _) hsz _) (by omega)
  ·exact own_base (ownsRow_setCell_below (ownsRow_setCell_below (ownsRow_setCell_below own2 hsz _) hsz _) hsz _) (by omega)
/-- A row of pairs of the call's own. -/
theorem own2_at {w:World}{base e n c:Nat}{A:Option Addr}{f g:Nat→Value}(h:w.ownsRow base e 2 (.slice A n c) n (cells2 n f g)){k:Nat}(hk:k<n) :
  ∃b,A=some ⟨b,0,none⟩∧base≤b∧b<w.heap.size∧w.cell? ⟨b,k*2,none⟩=some (f k)∧w.cell? ⟨b,k*2+1,none⟩=some (g k)∧w.frozen? ⟨b,k*2,none⟩=false∧w.frozen? ⟨b,k*2+1,none⟩=false ∧
   (∀v,(w.setCell ⟨b,k*2,none⟩ v).ownsRow base e 2 (.slice A n c) n (cells2 n (fun i=>if i=k then v else f i) g)) ∧
   (∀v u,((w.setCell ⟨b,k*2,none⟩ v).setCell ⟨b,k*2+1,none⟩ u).ownsRow base e 2 (.slice A n c) n (cells2 n (fun i=>if i=k then v else f i) (fun i=>if i=k then u else g i))):=by
 rcases h.2 with ⟨h1,h2⟩ | ⟨b,cap,cur,h1,hbg,hg,hrest⟩
 ·omega
 ·injection h1 with h1 _ hc
  subst h1
  subst hc
  have hlt:=World.ownsRow.lt h b rfl
  obtain ⟨q0,q1⟩:=cells2_at n f g k hk
  have s1:∀v,(w.setCell ⟨b,k*2,none⟩ v).ownsRow base e 2 (.slice (some ⟨b,0,none⟩) n c) n (cells2 n (fun i=>if i=k then v else f i) g):=fun v=>by
   have e:=(World.ownsRow.stored h (k*2) v).1
   rw [cells2_set1 k hk] at e
   exact e
  refine ⟨b,rfl,hlt.1,hlt.2,?_,?_,World.ownsRow.frozenAt h _,World.ownsRow.frozenAt h _,s1,fun v u=>?_⟩
  ·rw [World.ownsRow.cellAt h (k*2) (by omega)];exact q0
  ·rw [World.ownsRow.cellAt h (k*2+1) (by omega)];exact q1
  ·have e:=(World.ownsRow.stored (s1 v) (k*2+1) u).1
   rw [cells2_set2 k hk] at e
   exact e
theorem cells2_one {n:Nat}{f g:Nat→Value}(hf:∀k,k<n→(f k).oneCell'=true)(hg:∀k,k<n→(g k).oneCell'=true):∀u ∈ cells2 n f g,u.oneCell'=true:=by
 intro u hu
 obtain ⟨k,hk,h⟩:=List.mem_flatMap.1 hu
 rw [List.mem_range] at hk
 simp only [List.mem_cons,List.not_mem_nil,or_false] at h
 rcases h with rfl | rfl
 ·exact hf k hk
 ·exact hg k hk
theorem info_item':(Tryz.prog.info? 120).map (fun i=>(i.zero,i.size,i.bytes))=some (some (.agg #[.slice none 0 0,.slice none 0 0]),2,48):=by kernel_rfl
theorem clone_item (n:Nat)(xs:List Value)(hl:n≤1000000000)(h1:∀u ∈ xs,u.oneCell'=true)(A:Option Addr)(c:Nat)(w:World)(hR:Reads w w.heap.size 2 A n xs) :
  Calls Tryz.prog 155 #[.slice A n c] w fun e w'=>∃A' c',e=.returned (.slice A' n c')∧w'.ownsRow w.heap.size 120 2 (.slice A' n c') n xs∧Below w.heap.size w w':=by
 have hnil:=fun W a n c=>Lib.run_eql_slice_nil (P:=Tryz.prog) W 27 120 a n c 0 0 Tryz.underlying27
 cases A with
 | none =>
  have hl0:n=0:=by
   rcases Nat.eq_zero_or_pos n with h | h
   ·exact h
   ·obtain ⟨ad,h1,_⟩:=hR.2 h;cases h1
  subst hl0
  have hx:xs=[]:=List.eq_nil_of_length_eq_zero (by simpa using hR.1)
  subst hx
  go_enter Tryz.func155,Tryz.ntmps155
  go_wp2
  go_ret
  exact ⟨none,0,rfl,World.ownsRow_nil _ _ _ _,Below.refl _ _⟩
 | some a =>
  obtain ⟨i0,hi0,hz0,hz1,hz2⟩:=info_parts info_item'
  go_enter Tryz.func155,Tryz.ntmps155
  have h0:(w.alloc (.cells #[] 120)).ownsRow w.heap.size 120 2 (.slice (some ⟨w.heap.size,0,none⟩) 0 0) 0 []:=World.ownsRow_lit w #[] 0 (Nat.le_refl _) (by unfold maxLen;omega) rfl
  have hb0:Below w.heap.size w (w.alloc (.cells #[] 120)):=(Below.refl _ _).alloc (Nat.le_refl _) _
  go_wp2_with (at_builtin;refine wpList_append_any _ rfl _ _ 27 rfl w.heap.size 120 i0 _ 2 48 Tryz.underlying27 hi0 hz0 hz1 hz2 rfl (by omega) _ 0 [] rfl h0 _ (some a) n c xs rfl (hR.below' hb0 (Nat.le_refl _)) h1 (by unfold maxLen;omega) (by omega) hb0.size ?_;intro v' w2 own2 hg2 hat2)
  obtain ⟨A',c',rfl⟩:=own_shape own2
  go_wp2
  go_ret
  rw [Nat.zero_add,List.nil_append] at own2
  exact ⟨A',c',by rw [Nat.zero_add];rfl,own2,hb0.grown hg2 hb0.size (fun k hk=>by have e:(some w.heap.size:Option Nat)=some k:=hk;cases e;exact Nat.le_refl _)⟩
theorem info_rule':(Tryz.prog.info? 166).map (fun i=>(i.zero,i.size,i.bytes))=some (some (.agg #[.slice none 0 0,.int .i64 0]),2,32):=by kernel_rfl
theorem clone_rule (n:Nat)(xs:List Value)(hl:n≤1000000000)(h1:∀u ∈ xs,u.oneCell'=true)(A:Option Addr)(c:Nat)(w:World)(hR:Reads w w.heap.size 2 A n xs) :
  Calls Tryz.prog 156 #[.slice A n c] w fun e w'=>∃A' c',e=.returned (.slice A' n c')∧w'.ownsRow w.heap.size 166 2 (.slice A' n c') n xs∧Below w.heap.size w w':=by
 have hnil:=fun W a n c=>Lib.run_eql_slice_nil (P:=Tryz.prog) W 28 166 a n c 0 0 Tryz.underlying28
 cases A with
 | none =>
  have hl0:n=0:=by
   rcases Nat.eq_zero_or_pos n with h | h
   ·exact h
   ·obtain ⟨ad,h1,_⟩:=hR.2 h;cases h1
  subst hl0
  have hx:xs=[]:=List.eq_nil_of_length_eq_zero (by simpa using hR.1)
  subst hx
  go_enter Tryz.func156,Tryz.ntmps156
  go_wp2
  go_ret
  exact ⟨none,0,rfl,World.ownsRow_nil _ _ _ _,Below.refl _ _⟩
 | some a =>
  obtain ⟨i0,hi0,hz0,hz1,hz2⟩:=info_parts info_rule'
  go_enter Tryz.func156,Tryz.ntmps156
  have h0:(w.alloc (.cells #[] 166)).ownsRow w.heap.size 166 2 (.slice (some ⟨w.heap.size,0,none⟩) 0 0) 0 []:=World.ownsRow_lit w #[] 0 (Nat.le_refl _) (by unfold maxLen;omega) rfl
  have hb0:Below w.heap.size w (w.alloc (.cells #[] 166)):=(Below.refl _ _).alloc (Nat.le_refl _) _
  go_wp2_with (at_builtin;refine wpList_append_any _ rfl _ _ 28 rfl w.heap.size 166 i0 _ 2 32 Tryz.underlying28 hi0 hz0 hz1 hz2 rfl (by omega) _ 0 [] rfl h0 _ (some a) n c xs rfl (hR.below' hb0 (Nat.le_refl _)) h1 (by unfold maxLen;omega) (by omega) hb0.size ?_;intro v' w2 own2 hg2 hat2)
  obtain ⟨A',c',rfl⟩:=own_shape own2
  go_wp2
  go_ret
  rw [Nat.zero_add,List.nil_append] at own2
  exact ⟨A',c',by rw [Nat.zero_add];rfl,own2,hb0.grown hg2 hb0.size (fun k hk=>by have e:(some w.heap.size:Option Nat)=some k:=hk;cases e;exact Nat.le_refl _)⟩
theorem info_dish':(Tryz.prog.info? 81).map (fun i=>(i.zero,i.size,i.bytes))=some (some (.agg #[.string ⟨#[]⟩,.int .i64 0]),2,24):=by kernel_rfl
theorem clone_dish (n:Nat)(xs:List Value)(hl:n≤1000000000)(h1:∀u ∈ xs,u.oneCell'=true)(A:Option Addr)(c:Nat)(w:World)(hR:Reads w w.heap.size 2 A n xs) :
  Calls Tryz.prog 119 #[.slice A n c] w fun e w'=>∃A' c',e=.returned (.slice A' n c')∧w'.ownsRow w.heap.size 81 2 (.slice A' n c') n xs∧Below w.heap.size w w':=by
 have hnil:=fun W a n c=>Lib.run_eql_slice_nil (P:=Tryz.prog) W 78 81 a n c 0 0 Tryz.underlying78
 cases A with
 | none =>
  have hl0:n=0:=by
   rcases Nat.eq_zero_or_pos n with h | h
   ·exact h
   ·obtain ⟨ad,h1,_⟩:=hR.2 h;cases h1
  subst hl0
  have hx:xs=[]:=List.eq_nil_of_length_eq_zero (by simpa using hR.1)
  subst hx
  go_enter Tryz.func119,Tryz.ntmps119
  go_wp2
  go_ret
  exact ⟨none,0,rfl,World.ownsRow_nil _ _ _ _,Below.refl _ _⟩
 | some a =>
  obtain ⟨i0,hi0,hz0,hz1,hz2⟩:=info_parts info_dish'
  go_enter Tryz.func119,Tryz.ntmps119
  have h0:(w.alloc (.cells #[] 81)).ownsRow w.heap.size 81 2 (.slice (some ⟨w.heap.size,0,none⟩) 0 0) 0 []:=World.ownsRow_lit w #[] 0 (Nat.le_refl _) (by unfold maxLen;omega) rfl
  have hb0:Below w.heap.size w (w.alloc (.cells #[] 81)):=(Below.refl _ _).alloc (Nat.le_refl _) _
  go_wp2_with (at_builtin;refine wpList_append_any _ rfl _ _ 78 rfl w.heap.size 81 i0 _ 2 24 Tryz.underlying78 hi0 hz0 hz1 hz2 rfl (by omega) _ 0 [] rfl h0 _ (some a) n c xs rfl (hR.below' hb0 (Nat.le_refl _)) h1 (by unfold maxLen;omega) (by omega) hb0.size ?_;intro v' w2 own2 hg2 hat2)
  obtain ⟨A',c',rfl⟩:=own_shape own2
  go_wp2
  go_ret
  rw [Nat.zero_add,List.nil_append] at own2
  exact ⟨A',c',by rw [Nat.zero_add];rfl,own2,hb0.grown hg2 hb0.size (fun k hk=>by have e:(some w.heap.size:Option Nat)=some k:=hk;cases e;exact Nat.le_refl _)⟩
theorem info_right':(Tryz.prog.info? 110).map (fun i=>(i.zero,i.size,i.bytes))=some (some (.agg #[.int .i64 0,.int .i64 0,.int .i64 0]),3,24):=by kernel_rfl
theorem clone_right (n:Nat)(xs:List Value)(hl:n≤1000000000)(h1:∀u ∈ xs,u.oneCell'=true)(A:Option Addr)(c:Nat)(w:World)(hR:Reads w w.heap.size 3 A n xs) :
  Calls Tryz.prog 291 #[.slice A n c] w fun e w'=>∃A' c',e=.returned (.slice A' n c')∧w'.ownsRow w.heap.size 110 3 (.slice A' n c') n xs∧Below w.heap.size w w':=by
 have hnil:=fun W a n c=>Lib.run_eql_slice_nil (P:=Tryz.prog) W 97 110 a n c 0 0 Tryz.underlying97
 cases A with
 | none =>
  have hl0:n=0:=by
   rcases Nat.eq_zero_or_pos n with h | h
   ·exact h
   ·obtain ⟨ad,h1,_⟩:=hR.2 h;cases h1
  subst hl0
  have hx:xs=[]:=List.eq_nil_of_length_eq_zero (by simpa using hR.1)
  subst hx
  go_enter Tryz.func291,Tryz.ntmps291
  go_wp2
  go_ret
  exact ⟨none,0,rfl,World.ownsRow_nil _ _ _ _,Below.refl _ _⟩
 | some a =>
  obtain ⟨i0,hi0,hz0,hz1,hz2⟩:=info_parts info_right'
  go_enter Tryz.func291,Tryz.ntmps291
  have h0:(w.alloc (.cells #[] 110)).ownsRow w.heap.size 110 3 (.slice (some ⟨w.heap.size,0,none⟩) 0 0) 0 []:=World.ownsRow_lit w #[] 0 (Nat.le_refl _) (by unfold maxLen;omega) rfl
  have hb0:Below w.heap.size w (w.alloc (.cells #[] 110)):=(Below.refl _ _).alloc (Nat.le_refl _) _
  go_wp2_with (at_builtin;refine wpList_append_any _ rfl _ _ 97 rfl w.heap.size 110 i0 _ 3 24 Tryz.underlying97 hi0 hz0 hz1 hz2 rfl (by omega) _ 0 [] rfl h0 _ (some a) n c xs rfl (hR.below' hb0 (Nat.le_refl _)) h1 (by unfold maxLen;omega) (by omega) hb0.size ?_;intro v' w2 own2 hg2 hat2)
  obtain ⟨A',c',rfl⟩:=own_shape own2
  go_wp2
  go_ret
  rw [Nat.zero_add,List.nil_append] at own2
  exact ⟨A',c',by rw [Nat.zero_add];rfl,own2,hb0.grown hg2 hb0.size (fun k hk=>by have e:(some w.heap.size:Option Nat)=some k:=hk;cases e;exact Nat.le_refl _)⟩
theorem Reads.drew {w:World}{B size n:Nat}{A:Option Addr}{xs:List Value}(h:Reads w B size A n xs):Reads w.drew B size A n xs:=h
theorem Reads.alloc' {w:World}{size n:Nat}{A:Option Addr}{xs:List Value}(h:Reads w w.heap.size size A n xs)(o:Obj):Reads (w.alloc o) (w.alloc o).heap.size size A n xs :=
 (h.below' ((Below.refl w.heap.size w).alloc (Nat.le_refl _) o) (Nat.le_refl _)).more (by simp)
theorem cellsS_one (l:List Sp):∀u ∈ cellsS l,u.oneCell'=true:=by
 intro u hu
 obtain ⟨x,_,hx⟩:=List.mem_flatMap.1 hu
 simp only [Sp.vals,List.mem_cons,List.not_mem_nil,or_false] at hx
 rcases hx with rfl | rfl | rfl <;> rfl
section
variable {L:Int}{N:Nat}{w:World}{F:Nat→Prop}{g:Nat}{h:Hd}{s:Of}
theorem kix_no {l:List Kd}{n:Int}(hh:hasK l n=false):decide (kix l n<0)=true:=by rw [kix_none hh];rfl
theorem kix_yes {l:List Kd}{n:Int}(hh:hasK l n=true):decide (kix l n<0)=false:=by
 obtain ⟨k,_,hk,_⟩:=kix_some hh
 rw [hk,decide_eq_false_iff_not];omega
theorem OfOk.rl (hs:OfOk s):s.rights.length≤60:=(vrt_ok hs.rv).1
theorem PO.new_im (hP:PO L N w F g h s){w':World}{k:Nat}(h1:w.heap.size≤k)(h2:k<w'.heap.size):Im (grown F w w') g h k:=by
 have a1:=(hP.lo g hP.gF).2
 have a2:=(hP.lo h.ck hP.ckF.1).2
 have a3:=(hP.lo h.et hP.etF.1).2
 refine ⟨.inr ⟨h1,h2⟩,by omega,by omega,by omega,fun e=>?_,fun e=>?_,fun e=>?_⟩
 ·have:=(hP.lo k (hP.dsF k e).1).2;omega
 ·have:=(hP.lo k (hP.kdF k e).1).2;omega
 ·have:=(hP.lo k (hP.odF k e).1).2;omega
theorem ReadsF.of_own' {F:Nat→Prop}{w:World}{base e size n:Nat}{A:Option Addr}{c:Nat}{xs:List Value}(h:w.ownsRow base e size (.slice A n c) n xs)(hF:∀k,base≤k→k<w.heap.size→F k):ReadsF F w size A n xs :=
 ReadsF.of_own h fun k hk=>hF k (World.ownsRow.lt h k hk).1 (World.ownsRow.lt h k hk).2
theorem grown_set {a b:World}(p:Addr)(v:Value)(k:Nat):grown F a (b.setCell p v) k=grown F a b k:=by unfold grown;rw [set_size]
theorem PO.re {F':Nat→Prop}(hP:PO L N w F g h s)(hF:∀k,F k=F' k):PO L N w F' g h s:=by
 have:F=F':=funext hF
 rw [← this];exact hP
theorem ofree_any (hP:PO L N w F g h s)(n:List Int)(hn:n.length=3)(A:Option Addr)(c:Nat)(hR:RN w A n) :
  Calls Tryz.prog 239 #[.pointer (some ⟨g,0,none⟩),.slice A n.length c] w (RetO L N w F g (freE s n) (if freE s n=0 then { s with rights:=freR s n } else s)):=by
 obtain ⟨ad,rfl,hab0,e0⟩:=hR.at0 (by omega)
 obtain ⟨ad1,x1,hab1,e1⟩:=hR.at_ (k:=1) (by omega)
 obtain ⟨ad2,x2,hab2,e2⟩:=hR.at_ (k:=2) (by omega)
 cases x1;cases x2
 rw [block_of_add] at hab1 hab2
 rw [hn]
 cases hk:hasK s.kids (gi n 0) with
 | false =>
  have he:freE s n=5:=by unfold freE;rw [if_pos hk]
  rw [he,if_neg (by decide)]
  have hk':=kix_no hk
  rw [decide_eq_true_eq] at hk'
  go_enter Tryz.func239,Tryz.ntmps239
  go_wp2_with (go_at_call 173;(with_reducible refine (child_any hP (gi n 0)).mono ?_);rintro e w2 ⟨rfl,hb2⟩)
  go_ret
  exact hP.quiet (Nat.le_refl _) hb2
 | true =>
  have he:freE s n=vrt (freR s n):=by unfold freE;rw [if_neg (by rw [hk];decide)]
  rw [he]
  have hk':=kix_yes hk
  rw [decide_eq_false_iff_not] at hk'
  obtain ⟨E,hE⟩:∃E,vrt (freR s n)=E:=⟨_,rfl⟩
  rw [hE]
  obtain ⟨T,hT⟩:∃T,T=if E=0 then { s with rights:=freR s n } else s:=⟨_,rfl⟩
  rw [← hT]
  have HT:=Lib.hid hT
  have HEE:=Lib.hid hE
  have HE2:=Lib.hid he
  clear hT hE he
  have hrl:=hP.ok.rl
  go_enter Tryz.func239,Tryz.ntmps239
  go_wp2_with (go_at_call 173;(with_reducible refine (child_any hP (gi n 0)).mono ?_);rintro e w1 ⟨rfl,hb1⟩)
  have hP1:=hP.below hb1
  have q:=hP1.cRi
  have y0:=(hb1.cell hab0).trans e0
  have y1:w1.cell? ⟨ad.block,ad.off+1,none⟩=some (.int .i64 (gi n 1)):=by
   have:=(hb1.cell (p:=ad.add 1) (by rw [block_of_add];exact hab1)).trans e1
   simpa [Addr.add] using this
  have y2:w1.cell? ⟨ad.block,ad.off+2,none⟩=some (.int .i64 (gi n 2)):=by
   have:=(hb1.cell (p:=ad.add 2) (by rw [block_of_add];exact hab2)).trans e2
   simpa [Addr.add] using this
  have hab:ad.block<w1.heap.size:=Nat.lt_of_lt_of_le hab0 hb1.size
  have hgl:=hP1.gl
  have hR1:=hP1.ri.1
  clear e0 e1 e2 hk' hk
  go_cut [5] (fun x wx=>∃A' c',x=.slice A' (s.rights.length+1) c'∧wx.ownsRow w1.heap.size 110 3 (.slice A' (s.rights.length+1) c') (s.rights.length+1) (cellsS (freR s n))∧Below w1.heap.size w1 wx)
  case first =>
   go_region_held3 (fun w'=>w'.cell? ⟨g,16,none⟩=some (.slice h.ri.1 s.rights.length h.ri.2)∧w'.cell? ad=some (.int .i64 (gi n 0))∧w'.cell? ⟨ad.block,ad.off+1,none⟩=some (.int .i64 (gi n 1))∧w'.cell? ⟨ad.block,ad.off+2,none⟩=some (.int .i64 (gi n 2)))
    (first | go_keep | exact ⟨k0,k1,k2,k3⟩ | exact ⟨m0,m1,m2,m3⟩)
    (first
     | (go_at_call 291;refine (clone_right s.rights.length (cellsS s.rights) (by omega) (cellsS_one _) h.ri.1 h.ri.2 _ ?_).mono ?_;(repeat (first | exact hR1 | refine Reads.drew ?_ | refine Reads.alloc' ?_ _));rintro e w2 ⟨A',c',rfl,own2,hb2⟩;have hbx:Below w1.heap.size w1 w2:=(Below.trans (by repeat (first | exact Below.refl _ _ | refine Below.drew ?_ | refine Below.alloc ?_ (Nat.le_refl _) _)) (hb2.mono (by simp)));have hs2:=hbx.size;have k0:=(hbx.cell (p:=⟨g,16,none⟩) hgl).trans q;have k1:=(hbx.cell hab).trans y0;have k2:=(hbx.cell (p:=⟨ad.block,ad.off+1,none⟩) hab).trans y1;have k3:=(hbx.cell (p:=⟨ad.block,ad.off+2,none⟩) hab).trans y2)
     | (refine step_app2 (by rfl) _ _ (by rfl) Tryz.underlying97 info_right' rfl (by omega) (by rfl) (World.ownsRow.alloc own2 (.cells #[.int .i64 (gi n 0),.int .i64 (gi n 1),.int .i64 (gi n 2)] 110)) (news:=[.int .i64 (gi n 0),.int .i64 (gi n 1),.int .i64 (gi n 2)]) ⟨w2.heap.size,0,none⟩ (by rfl) (by rfl) (World.news_of_block (cs:=#[.int .i64 (gi n 0),.int .i64 (gi n 1),.int .i64 (gi n 2)]) (t:=110) (fr:=(0,0)) (heap_alloc_new w2 _)) (by simp [Value.oneCell']) (by omega) (by omega) (by have:=hb2.size;simp at this ⊢;omega) ?_;intro A3 c3 w3 own3 hb3 hk3;have hbz:Below w1.heap.size w1 w3:=hbx.trans (Below.trans (by repeat (first | exact Below.refl _ _ | refine Below.drew ?_ | refine Below.alloc ?_ hs2 _)) (hb3 w1.heap.size (by simp)));have m0:=(hbz.cell (p:=⟨g,16,none⟩) hgl).trans q;have m1:=(hbz.cell hab).trans y0;have m2:=(hbz.cell (p:=⟨ad.block,ad.off+1,none⟩) hab).trans y1;have m3:=(hbz.cell (p:=⟨ad.block,ad.off+2,none⟩) hab).trans y2)
     | (refine step_app2 (by rfl) _ _ (by rfl) Tryz.underlying97 info_right' rfl (by omega) (by rfl) own2 (news:=[.int .i64 (gi n 0),.int .i64 (gi n 1),.int .i64 (gi n 2)]) ⟨w1.heap.size,0,none⟩ (by rfl) (by rfl) (fun j u hu=>(hb2.cell (by rw [block_of_add];simp)).trans (World.news_of_block (w:=w1.drew.alloc (.cells #[.int .i64 (gi n 0),.int .i64 (gi n 1),.int .i64 (gi n 2)] 110)) (cs:=#[.int .i64 (gi n 0),.int .i64 (gi n 1),.int .i64 (gi n 2)]) (t:=110) (fr:=(0,0)) (heap_alloc_new w1.drew _) j u hu)) (by simp [Value.oneCell']) (by omega) (by omega) (by have:=hb2.size;simp at this ⊢;omega) ?_;intro A3 c3 w3 own3 hb3 hk3;have hbz:Below w1.heap.size w1 w3:=hbx.trans (Below.trans (by repeat (first | exact Below.refl _ _ | refine Below.drew ?_ | refine Below.alloc ?_ hs2 _)) (hb3 w1.heap.size (by simp)));have m0:=(hbz.cell (p:=⟨g,16,none⟩) hgl).trans q;have m1:=(hbz.cell hab).trans y0;have m2:=(hbz.cell (p:=⟨ad.block,ad.off+1,none⟩) hab).trans y1;have m3:=(hbz.cell (p:=⟨ad.block,ad.off+2,none⟩) hab).trans y2))
   ·go_wp2_with fail
    go_meet
    exact ⟨A3,c3,rfl,by rw [freR,cellsS_append];exact own_base own3 (by simp),hbz⟩
   ·go_wp2_with fail
    go_meet
    exact ⟨A3,c3,rfl,by rw [freR,cellsS_append];exact own_base own3 (by simp),hbz⟩
  case rest =>
   obtain ⟨A3,c3,rfl,own,hbl⟩:=hcut
   have hl1:(freR s n).length=s.rights.length+1:=by simp [freR]
   have hva:=vrights_any (freR s n) A3 c3 _ (by unfold RSO;rw [hl1];exact Reads.of_own own) (by omega)
   rw [hl1,HEE.out] at hva
   have HVA:=Lib.hid hva
   have HL1:=Lib.hid hl1
   clear hva hl1
   go_wp2_with fail
   refine HVA.out.mono ?_
   rintro e w4 ⟨rfl,hb4⟩
   have hb5:Below w.heap.size w w4:=hb1.trans ((hbl.trans (hb4.mono hbl.size)).mono hb1.size)
   have own4:=own_below own hb4 (fun k hk=>(World.ownsRow.lt own k hk).2)
   have hP4:=hP.below' hb5
   have hgf:=hP4.box.free 16
   have hgc:=hP4.cRi
   by_cases hv:E=0
   ·subst hv
    have hT2:T={ s with rights:=freR s n }:=by rw [HT.out,if_pos rfl]
    have hR4:ReadsF (Im (grown F w w4) g h) w4 3 A3 (freR s n).length (cellsS (freR s n)):=by rw [HL1.out];exact ReadsF.of_own' own4 (fun k h1 h2=>hP.new_im (Nat.le_trans hb1.size h1) h2)
    have hok:=hP.ok.free (HE2.out.trans HEE.out)
    have hS:=hP4.setRights (c:=c3) hR4 hok
    rw [HL1.out] at hS
    have HT2:=Lib.hid hT2
    clear hT2 hR4
    go_wp2
    go_ret
    rw [HT2.out]
    exact ⟨rfl,(Off.of_below hb5).setCell (.inl hP.gF) _,_,hS.re fun k=>(grown_set _ _ k).symm⟩
   ·have hv1:(E == 0)=false:=by simp [hv]
    have hT2:T=s:=by rw [HT.out,if_neg hv]
    have HT2:=Lib.hid hT2
    clear hT2 hv
    go_wp2
    go_ret
    rw [HT2.out]
    exact hP.quiet (Nat.le_refl _) hb5
end
def itP (b:Bk)(hp:Nat→SlH)(k:Nat):Value:=slV (hp k) (gIt b.items k).parts
def itH (b:Bk)(hq:Nat→SlH)(k:Nat):Value:=slV (hq k) (gIt b.items k).has
def rlI (b:Bk)(hr:Nat→SlH)(k:Nat):Value:=slV (hr k) (gRl b.rules k).iff
def rlT (b:Bk)(k:Nat):Value:=.int .i64 (gRl b.rules k).thn
theorem RNF.of_own' {w:World}{base c:Nat}{A:Option Addr}{l:List Int}(h:OwnN w base A c l):RNF (fun k=>base≤k) w A l:=by
 refine ReadsF.of_own h fun k hk=>(World.ownsRow.lt h k hk).1
theorem RNF.setCell {F:Nat→Prop}{w:World}{A:Option Addr}{l:List Int}(h:RNF F w A l){p:Addr}(hp:¬ F p.block)(v:Value):RNF F (w.setCell p v) A l :=
 h.kept ⟨by simp [World.setCell],fun k hk _=>Below.heap_setCell _ _ _ _ (fun e=>hp (e ▸ hk))⟩
/-- How far the copying of a book has come: the first k items and the first j rules have lists of their own. -/
structure CopyI (w0 wr:World) (B:Nat) (b:Bk) (A1 A2:Option Addr) (c1 c2:Nat) (hp0 hq0 hr0 hp hq hr:Nat→SlH) (k j:Nat):Prop where
 box:Box wr w0.heap.size #[.int .i64 b.props,.slice A1 b.items.length c1,.slice A2 b.rules.length c2]
 res:Box wr (w0.heap.size+1) #[.int .i64 0,.slice none 0 0,.slice none 0 0]
 it:wr.ownsRow (w0.heap.size+2) 120 2 (.slice A1 b.items.length c1) b.items.length (cells2 b.items.length (itP b hp) (itH b hq))
 rl:wr.ownsRow (w0.heap.size+2) 166 2 (.slice A2 b.rules.length c2) b.rules.length (cells2 b.rules.length (rlI b hr) (rlT b))
 new:∀i,i<k→RNF (fun x=>B≤x) wr (hp i).1 (gIt b.items i).parts∧RNF (fun x=>B≤x) wr (hq i).1 (gIt b.items i).has
 old:∀i,k≤i→hp i=hp0 i∧hq i=hq0 i
 newr:∀i,i<j→RNF (fun x=>B≤x) wr (hr i).1 (gRl b.rules i).iff
 oldr:∀i,j≤i→hr i=hr0 i
 low:∀x,(Value.slice A1 b.items.length c1).ownBlock=some x∨(Value.slice A2 b.rules.length c2).ownBlock=some x→x<B
 below:Below w0.heap.size w0 wr
 size:B≤wr.heap.size
 base:w0.heap.size+2≤B
theorem CopyI.keep {w0 wr w':World}{B:Nat}{b:Bk}{A1 A2:Option Addr}{c1 c2:Nat}{hp0 hq0 hr0 hp hq hr:Nat→SlH}{k j:Nat}(h:CopyI w0 wr B b A1 A2 c1 c2 hp0 hq0 hr0 hp hq hr k j)(hb:Below wr.heap.size wr w'):CopyI w0 w' B b A1 A2 c1 c2 hp0 hq0 hr0 hp hq hr k j :=
 ⟨h.box.below hb,h.res.below hb,own_below h.it hb fun x hx=>(World.ownsRow.lt h.it x hx).2,own_below h.rl hb fun x hx=>(World.ownsRow.lt h.rl x hx).2,fun i hi=>⟨(h.new i hi).1.below hb,(h.new i hi).2.below hb⟩,h.old,fun i hi=>(h.newr i hi).below hb,h.oldr,h.low,h.below.trans (hb.mono h.below.size),Nat.le_trans h.size hb.size,h.base⟩
theorem own_set_ne {w:World}{base e size n:Nat}{v:Value}{xs:List Value}(h:w.ownsRow base e size v n xs){a:Addr}(ha:v.ownBlock≠some a.block)(u:Value):(w.setCell a u).ownsRow base e size v n xs:=ownsRow_setCell_other h ha u
theorem own_ty_ne {w:World}{b1 e1 s1 n1 b2 e2 s2 n2:Nat}{v1 v2:Value}{xs1 xs2:List Value}(h1:w.ownsRow b1 e1 s1 v1 n1 xs1)(h2:w.ownsRow b2 e2 s2 v2 n2 xs2)(hne:e1≠e2){x:Nat}(hx:v2.ownBlock=some x):v1.ownBlock≠some x:=by
 rcases own_ne h1 h2 hne with h | h
 ·rw [h];simp
 ·rw [← hx];exact h
/-- An item gets lists of its own. -/
theorem CopyI.step {w0 wr:World}{B:Nat}{b:Bk}{A1 A2:Option Addr}{c1 c2:Nat}{hp0 hq0 hr0 hp hq hr:Nat→SlH}{k j:Nat}(h:CopyI w0 wr B b A1 A2 c1 c2 hp0 hq0 hr0 hp hq hr k j)(hk:k<b.items.length){g:Nat}(hA:A1=some ⟨g,0,none⟩)
  {P Q:SlH} (hP:RNF (fun x=>B≤x) wr P.1 (gIt b.items k).parts) (hQ:RNF (fun x=>B≤x) wr Q.1 (gIt b.items k).has) :
  CopyI w0 ((wr.setCell ⟨g,k*2,none⟩ (slV P (gIt b.items k).parts)).setCell ⟨g,k*2+1,none⟩ (slV Q (gIt b.items k).has)) B b A1 A2 c1 c2 hp0 hq0 hr0 (fun i=>if i=k then P else hp i) (fun i=>if i=k then Q else hq i) hr (k+1) j:=by
 have hgB:g<B:=h.low g (.inl (by rw [hA];rfl))
 have hgs:w0.heap.size+2≤g:=(World.ownsRow.lt h.it g (by rw [hA];rfl)).1
 obtain ⟨g',e',_,_,_,_,_,_,_,hset⟩:=own2_at h.it hk
 rw [hA] at e'
 injection e' with e'
 injection e' with e'
 subst e'
 have hb:∀{l:List Int} {A:Option Addr},RNF (fun x=>B≤x) wr A l→RNF (fun x=>B≤x) ((wr.setCell ⟨g,k*2,none⟩ (slV P (gIt b.items k).parts)).setCell ⟨g,k*2+1,none⟩ (slV Q (gIt b.items k).has)) A l:=fun hl=>(hl.setCell (by show ¬ B≤g;omega) _).setCell (by show ¬ B≤g;omega) _
 have e2:=hset (slV P (gIt b.items k).parts) (slV Q (gIt b.items k).has)
 have c2':cells2 b.items.length (fun i=>if i=k then slV P (gIt b.items k).parts else itP b hp i) (fun i=>if i=k then slV Q (gIt b.items k).has else itH b hq i)=cells2 b.items.length (itP b (fun i=>if i=k then P else hp i)) (itH b (fun i=>if i=k then Q else hq i)):=by
  apply cells2_congr
  ·intro i _;unfold itP;by_cases e:i=k
   ·subst e;simp
   ·simp [e]
  ·intro i _;unfold itH;by_cases e:i=k
   ·subst e;simp
   ·simp [e]
 rw [c2'] at e2
 refine ⟨(h.box.far (by show w0.heap.size≠g;omega) _).far (by show w0.heap.size≠g;omega) _,(h.res.far (by show w0.heap.size+1≠g;omega) _).far (by show w0.heap.size+1≠g;omega) _,e2,?_,fun i hi=>?_,fun i hi=>?_,fun i hi=>hb (h.newr i hi),h.oldr,h.low,?_,by simpa [World.setCell] using h.size,h.base⟩
 ·have hne:=own_ty_ne h.rl h.it (by decide) (x:=g) (by rw [hA];rfl)
  exact own_set_ne (own_set_ne h.rl hne _) hne _
 ·by_cases e:i=k
  ·subst e;simp only [if_pos];exact ⟨hb hP,hb hQ⟩
  ·simp only [if_neg e];obtain ⟨q1,q2⟩:=h.new i (by omega);exact ⟨hb q1,hb q2⟩
 ·simp only [if_neg (show ¬ i=k by omega)];exact h.old i (by omega)
 ·exact (h.below.setCell (p:=⟨g,k*2,none⟩) (by show w0.heap.size≤g;omega) _).setCell (p:=⟨g,k*2+1,none⟩) (by show w0.heap.size≤g;omega) _
/-- A rule gets a list of its own. -/
theorem CopyI.stepr {w0 wr:World}{B:Nat}{b:Bk}{A1 A2:Option Addr}{c1 c2:Nat}{hp0 hq0 hr0 hp hq hr:Nat→SlH}{k j:Nat}(h:CopyI w0 wr B b A1 A2 c1 c2 hp0 hq0 hr0 hp hq hr k j)(hj:j<b.rules.length){g:Nat}(hA:A2=some ⟨g,0,none⟩)
  {P:SlH} (hP:RNF (fun x=>B≤x) wr P.1 (gRl b.rules j).iff) :
  CopyI w0 (wr.setCell ⟨g,j*2,none⟩ (slV P (gRl b.rules j).iff)) B b A1 A2 c1 c2 hp0 hq0 hr0 hp hq (fun i=>if i=j then P else hr i) k (j+1):=by
 have hgB:g<B:=h.low g (.inr (by rw [hA];rfl))
 have hgs:w0.heap.size+2≤g:=(World.ownsRow.lt h.rl g (by rw [hA];rfl)).1
 obtain ⟨g',e',_,_,_,_,_,_,hset,_⟩:=own2_at h.rl hj
 rw [hA] at e'
 injection e' with e'
 injection e' with e'
 subst e'
 have hb:∀{l:List Int} {A:Option Addr},RNF (fun x=>B≤x) wr A l→RNF (fun x=>B≤x) (wr.setCell ⟨g,j*2,none⟩ (slV P (gRl b.rules j).iff)) A l:=fun hl=>hl.setCell (by show ¬ B≤g;omega) _
 have e2:=hset (slV P (gRl b.rules j).iff)
 have c2':cells2 b.rules.length (fun i=>if i=j then slV P (gRl b.rules j).iff else rlI b hr i) (rlT b)=cells2 b.rules.length (rlI b (fun i=>if i=j then P else hr i)) (rlT b):=by
  apply cells2_congr
  ·intro i _;unfold rlI;by_cases e:i=j
   ·subst e;simp
   ·simp [e]
  ·intro i _;rfl
 rw [c2'] at e2
 refine ⟨h.box.far (by show w0.heap.size≠g;omega) _,h.res.far (by show w0.heap.size+1≠g;omega) _,?_,e2,fun i hi=>⟨hb (h.new i hi).1,hb (h.new i hi).2⟩,h.old,fun i hi=>?_,fun i hi=>?_,h.low,h.below.setCell (p:=⟨g,j*2,none⟩) (by show w0.heap.size≤g;omega) _,by simpa [World.setCell] using h.size,h.base⟩
 ·exact own_set_ne h.it (own_ty_ne h.it h.rl (by decide) (x:=g) (by rw [hA];rfl)) _
 ·by_cases e:i=j
  ·subst e;simp only [if_pos];exact hb hP
  ·simp only [if_neg e];exact hb (h.newr i (by omega))
 ·simp only [if_neg (show ¬ i=j by omega)];exact h.oldr i (by omega)
end Go.Proofs.YtiapkffihpgdcaaGreatDoor
