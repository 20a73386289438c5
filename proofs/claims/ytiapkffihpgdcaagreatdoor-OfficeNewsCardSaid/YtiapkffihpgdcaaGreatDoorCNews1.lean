/-
  OfficeNews: for every firm, every order and every day the law returns true, panics nowhere and leaves its arguments as they were: an office that is none answers ErrArg, and a new one is as the reference's. On the tied card. No condition beyond the card.
-/
import Derived.Test.YtiapkffihpgdcaaGreatDoorQA1
import Derived.Test.YtiapkffihpgdcaaGreatDoorQA2
import Derived.Test.YtiapkffihpgdcaaGreatDoorQA3
import Derived.Test.YtiapkffihpgdcaaGreatDoorQA4
import Derived.Test.YtiapkffihpgdcaaGreatDoorQA5
import Derived.Test.YtiapkffihpgdcaaGreatDoorQA6
import Derived.Test.YtiapkffihpgdcaaGreatDoorQA7
import Derived.Test.YtiapkffihpgdcaaGreatDoorQA8
import Derived.Test.YtiapkffihpgdcaaGreatDoorQA9
import Derived.Test.YtiapkffihpgdcaaGreatDoorQA10
import Derived.Test.YtiapkffihpgdcaaGreatDoorQA11
import Derived.Test.YtiapkffihpgdcaaGreatDoorQA12
import Derived.Test.YtiapkffihpgdcaaGreatDoorQA13
import Derived.Test.YtiapkffihpgdcaaGreatDoorQA14
import Derived.Test.YtiapkffihpgdcaaGreatDoorQA15
import Derived.Test.YtiapkffihpgdcaaGreatDoorQA16
import Derived.Test.YtiapkffihpgdcaaGreatDoorQA17
import Derived.Test.YtiapkffihpgdcaaGreatDoorQA18
import Derived.Test.YtiapkffihpgdcaaGreatDoorQA19
import Derived.Test.YtiapkffihpgdcaaGreatDoorQA20
import Derived.Test.YtiapkffihpgdcaaGreatDoorQA21
import Derived.Test.YtiapkffihpgdcaaGreatDoorQA22
import Derived.Test.YtiapkffihpgdcaaGreatDoorQA23
import Derived.Test.YtiapkffihpgdcaaGreatDoorQA24
import Derived.Test.YtiapkffihpgdcaaGreatDoorQA25
import Derived.Test.YtiapkffihpgdcaaGreatDoorQA26
import Derived.Test.YtiapkffihpgdcaaGreatDoorQA27
import Derived.Test.YtiapkffihpgdcaaGreatDoorQA28
import Derived.Test.YtiapkffihpgdcaaGreatDoorQA29
import Derived.Test.YtiapkffihpgdcaaGreatDoorQA30
import Derived.Test.YtiapkffihpgdcaaGreatDoorQA31
import Derived.IntWalk
import Derived.ScopeJumps
import Derived.WalkMore
import Derived.StillTailTactics
import Derived.Lib.QuietBelow
import Derived.BigRegion
import Derived.ChangeKeysEq
import Derived.Test.YtiapkffihpgdcaaGreatDoorTie
import Derived.Test.YtiapkffihpgdcaaGreatDoorCards
import Derived.SevenTiedAt
import Derived.ChangeMaps5
set_option linter.unusedVariables false
set_option linter.unusedSimpArgs false
set_option maxRecDepth 100000
namespace Go.Proofs.YtiapkffihpgdcaaGreatDoor
theorem newE_of {t : Tm} {c : Cy} {b : Bk} (h1 : TmOk t) (h2 : CyOk c) (h3 : BkOk b) : newE t c b = 0 := by
 unfold newE; rw [if_neg (by simp [h1.to]), if_neg (by simp [h2.to])]; exact h3.to
end Go.Proofs.YtiapkffihpgdcaaGreatDoor
namespace Go.Proofs.YtiapkffihpgdcaaGreatDoor
open Go.RowKit Go.MuLone
theorem lockedStr_nil {w : World} {K : Value} :
  Calls Tryz.prog 72 #[.pointer none, K] w fun e w' => e = .returned (.tuple #[St [], .int .i64 1]) ∧ w' = w := by
 go_enter_defers Tryz.func72, Tryz.ntmps72
 go_wp2_with fail
 exact ⟨_, results_tmp2 rfl _ _ _, rfl, rfl⟩
theorem lockedFa_nil {w : World} {K : Value} :
  Calls Tryz.prog 75 #[.pointer none, K] w fun e w' => e = .returned (.tuple #[.slice none 0 0, .int .i64 1]) ∧ w' = w := by
 go_enter_defers Tryz.func75, Tryz.ntmps75
 go_wp2_with fail
 exact ⟨_, results_tmp2 rfl _ _ _, rfl, rfl⟩
theorem lockedKd_nil {w : World} {K : Value} :
  Calls Tryz.prog 82 #[.pointer none, K] w fun e w' => e = .returned (.tuple #[.slice none 0 0, .int .i64 1]) ∧ w' = w := by
 go_enter_defers Tryz.func82, Tryz.ntmps82
 go_wp2_with fail
 exact ⟨_, results_tmp2 rfl _ _ _, rfl, rfl⟩
theorem lockedIs_nil {w : World} {K : Value} :
  Calls Tryz.prog 102 #[.pointer none, K] w fun e w' => e = .returned (.tuple #[.slice none 0 0, .int .i64 1]) ∧ w' = w := by
 go_enter_defers Tryz.func102, Tryz.ntmps102
 go_wp2_with fail
 exact ⟨_, results_tmp2 rfl _ _ _, rfl, rfl⟩
theorem lockedDs_nil {w : World} {K : Value} :
  Calls Tryz.prog 117 #[.pointer none, K] w fun e w' => e = .returned (.tuple #[.slice none 0 0, .int .i64 1]) ∧ w' = w := by
 go_enter_defers Tryz.func117, Tryz.ntmps117
 go_wp2_with fail
 exact ⟨_, results_tmp2 rfl _ _ _, rfl, rfl⟩
theorem lockedSv_nil {w : World} {K : Value} :
  Calls Tryz.prog 114 #[.pointer none, K] w fun e w' => e = .returned (.tuple #[.agg #[.int .i64 0, .int .i64 0, .int .i64 0, .int .i64 0], .int .i64 1]) ∧ Below w.heap.size w w' := by
 obtain ⟨wA, hwA⟩ : ∃ wA, (w.alloc (.cells #[.int .i64 0, .int .i64 0, .int .i64 0, .int .i64 0] 180)).alloc (.cells #[.int .i64 0, .int .i64 0, .int .i64 0, .int .i64 0] 180) = wA := ⟨_, rfl⟩
 have hbA : Below w.heap.size w wA := by rw [← hwA]; exact ((Below.refl _ w).alloc (Nat.le_refl _) _).alloc (by simp) _
 have bR : Box wA w.heap.size #[.int .i64 0, .int .i64 0, .int .i64 0, .int .i64 0] := by rw [← hwA]; exact (Box.new w _ _).alloc _
 have bZ : Box wA (w.heap.size + 1) #[.int .i64 0, .int .i64 0, .int .i64 0, .int .i64 0] := by rw [← hwA]; exact (Box.new (w.alloc _) _ _).at' (by simp)
 have q0 := bR.cell 0; have q1 := bR.cell 1; have q2 := bR.cell 2; have q3 := bR.cell 3
 have z0 := bZ.cell 0; have z1 := bZ.cell 1; have z2 := bZ.cell 2; have z3 := bZ.cell 3
 simp only [List.getElem?_toArray, List.getElem?_cons_zero, List.getElem?_cons_succ] at q0 q1 q2 q3 z0 z1 z2 z3
 have fq0 := bR.free 0; have fq1 := bR.free 1; have fq2 := bR.free 2; have fq3 := bR.free 3
 go_enter_defers Tryz.func114, Tryz.ntmps114
 go_wp2_with fail
 have bW := (((bR.set 0 (.int .i64 0) (by simp)).set 1 (.int .i64 0) (by simp)).set 2 (.int .i64 0) (by simp)).set 3 (.int .i64 0) (by simp)
 have bV : Box _ w.heap.size #[.int .i64 0, .int .i64 0, .int .i64 0, .int .i64 0] := bW
 have y0 := bV.cell 0; have y1 := bV.cell 1; have y2 := bV.cell 2; have y3 := bV.cell 3
 simp only [List.getElem?_toArray, List.getElem?_cons_zero, List.getElem?_cons_succ] at y0 y1 y2 y3
 refine ⟨.tuple #[.agg #[.int .i64 0, .int .i64 0, .int .i64 0, .int .i64 0], .int .i64 1], ?_, rfl, (((hbA.setCell (p := ⟨w.heap.size, 0, none⟩) (Nat.le_refl _) _).setCell (p := ⟨w.heap.size, 1, none⟩) (Nat.le_refl _) _).setCell (p := ⟨w.heap.size, 2, none⟩) (Nat.le_refl _) _).setCell (p := ⟨w.heap.size, 3, none⟩) (Nat.le_refl _) _⟩
 rw [results_cell_tmp rfl]
 go_simp
set_option maxHeartbeats 800000 in
theorem oNow_nil (w : World) : Calls Tryz.prog 21 #[.pointer none] w fun e w' => e = .returned (.int .i64 0) ∧ Below w.heap.size w w' := by
 obtain ⟨w2, hw2⟩ : ∃ w2, w.alloc (.cells #[.pointer none] 35) = w2 := ⟨_, rfl⟩
 have hb2 : Below w.heap.size w w2 := by rw [← hw2]; exact (Below.refl _ w).alloc (Nat.le_refl _) _
 have b1 : Box w2 w.heap.size #[.pointer none] := by rw [← hw2]; exact Box.new w _ _
 have x1 := b1.cell 0
 simp only [List.getElem?_toArray, List.getElem?_cons_zero, List.getElem?_cons_succ] at x1
 go_enter Tryz.func21, Tryz.ntmps21
 go_wp2_with (go_at_call 70; (with_reducible refine lockedInt_nil.mono ?_); rintro e w3 ⟨rfl, rfl⟩)
 go_ret
 exact ⟨rfl, hb2⟩
set_option maxHeartbeats 800000 in
theorem oDishes_nil (w : World) : Calls Tryz.prog 47 #[.pointer none] w fun e w' => e = .returned (.slice none 0 0) ∧ Below w.heap.size w w' := by
 obtain ⟨w2, hw2⟩ : ∃ w2, w.alloc (.cells #[.pointer none] 35) = w2 := ⟨_, rfl⟩
 have hb2 : Below w.heap.size w w2 := by rw [← hw2]; exact (Below.refl _ w).alloc (Nat.le_refl _) _
 have b1 : Box w2 w.heap.size #[.pointer none] := by rw [← hw2]; exact Box.new w _ _
 have x1 := b1.cell 0
 simp only [List.getElem?_toArray, List.getElem?_cons_zero, List.getElem?_cons_succ] at x1
 go_enter Tryz.func47, Tryz.ntmps47
 go_wp2_with (go_at_call 117; (with_reducible refine lockedDs_nil.mono ?_); rintro e w3 ⟨rfl, rfl⟩)
 go_ret
 exact ⟨rfl, hb2⟩
set_option maxHeartbeats 800000 in
theorem oEaters_nil (w : World) : Calls Tryz.prog 26 #[.pointer none] w fun e w' => e = .returned (.slice none 0 0) ∧ Below w.heap.size w w' := by
 obtain ⟨w2, hw2⟩ : ∃ w2, w.alloc (.cells #[.pointer none] 35) = w2 := ⟨_, rfl⟩
 have hb2 : Below w.heap.size w w2 := by rw [← hw2]; exact (Below.refl _ w).alloc (Nat.le_refl _) _
 have b1 : Box w2 w.heap.size #[.pointer none] := by rw [← hw2]; exact Box.new w _ _
 have x1 := b1.cell 0
 simp only [List.getElem?_toArray, List.getElem?_cons_zero, List.getElem?_cons_succ] at x1
 go_enter Tryz.func26, Tryz.ntmps26
 go_wp2_with (go_at_call 82; (with_reducible refine lockedKd_nil.mono ?_); rintro e w3 ⟨rfl, rfl⟩)
 go_ret
 exact ⟨rfl, hb2⟩
set_option maxHeartbeats 800000 in
theorem oFacts_nil (w : World) : Calls Tryz.prog 24 #[.pointer none] w fun e w' => e = .returned (.slice none 0 0) ∧ Below w.heap.size w w' := by
 obtain ⟨w2, hw2⟩ : ∃ w2, w.alloc (.cells #[.pointer none] 35) = w2 := ⟨_, rfl⟩
 have hb2 : Below w.heap.size w w2 := by rw [← hw2]; exact (Below.refl _ w).alloc (Nat.le_refl _) _
 have b1 : Box w2 w.heap.size #[.pointer none] := by rw [← hw2]; exact Box.new w _ _
 have x1 := b1.cell 0
 simp only [List.getElem?_toArray, List.getElem?_cons_zero, List.getElem?_cons_succ] at x1
 go_enter Tryz.func24, Tryz.ntmps24
 go_wp2_with (go_at_call 75; (with_reducible refine lockedFa_nil.mono ?_); rintro e w3 ⟨rfl, rfl⟩)
 go_ret
 exact ⟨rfl, hb2⟩
set_option maxHeartbeats 800000 in
theorem oBook_nil (w : World) : Calls Tryz.prog 23 #[.pointer none] w fun e w' => e = .returned (St []) ∧ Below w.heap.size w w' := by
 obtain ⟨w2, hw2⟩ : ∃ w2, w.alloc (.cells #[.pointer none] 35) = w2 := ⟨_, rfl⟩
 have hb2 : Below w.heap.size w w2 := by rw [← hw2]; exact (Below.refl _ w).alloc (Nat.le_refl _) _
 have b1 : Box w2 w.heap.size #[.pointer none] := by rw [← hw2]; exact Box.new w _ _
 have x1 := b1.cell 0
 simp only [List.getElem?_toArray, List.getElem?_cons_zero, List.getElem?_cons_succ] at x1
 go_enter Tryz.func23, Tryz.ntmps23
 go_wp2_with (go_at_call 72; (with_reducible refine lockedStr_nil.mono ?_); rintro e w3 ⟨rfl, rfl⟩)
 go_ret
 exact ⟨rfl, hb2⟩
set_option maxHeartbeats 800000 in
theorem oAudit_nil (w : World) : Calls Tryz.prog 57 #[.pointer none] w fun e w' => e = .returned (.bool false) ∧ Below w.heap.size w w' := by
 obtain ⟨w2, hw2⟩ : ∃ w2, w.alloc (.cells #[.pointer none] 35) = w2 := ⟨_, rfl⟩
 have hb2 : Below w.heap.size w w2 := by rw [← hw2]; exact (Below.refl _ w).alloc (Nat.le_refl _) _
 have b1 : Box w2 w.heap.size #[.pointer none] := by rw [← hw2]; exact Box.new w _ _
 have x1 := b1.cell 0
 simp only [List.getElem?_toArray, List.getElem?_cons_zero, List.getElem?_cons_succ] at x1
 go_enter Tryz.func57, Tryz.ntmps57
 go_wp2_with (go_at_call 143; (with_reducible refine lockedBo_nil.mono ?_); rintro e w3 ⟨rfl, rfl⟩)
 go_ret
 exact ⟨rfl, hb2⟩
set_option maxHeartbeats 800000 in
theorem oMeal_nil (d : Int) (w : World) : Calls Tryz.prog 49 #[.pointer none, .int .i64 d] w fun e w' => e = .returned (.tuple #[St [], .int .i64 1]) ∧ Below w.heap.size w w' := by
 obtain ⟨w2, hw2⟩ : ∃ w2, (w.alloc (.cells #[.pointer none] 35)).alloc (.cells #[.int .i64 d] 3) = w2 := ⟨_, rfl⟩
 have hb2 : Below w.heap.size w w2 := by rw [← hw2]; exact ((Below.refl _ w).alloc (Nat.le_refl _) _).alloc (by simp) _
 have b1 : Box w2 w.heap.size #[.pointer none] := by rw [← hw2]; exact (Box.new w _ _).alloc _
 have x1 := b1.cell 0
 simp only [List.getElem?_toArray, List.getElem?_cons_zero, List.getElem?_cons_succ] at x1
 go_enter Tryz.func49, Tryz.ntmps49
 go_wp2_with (go_at_call 72; (with_reducible refine lockedStr_nil.mono ?_); rintro e w3 ⟨rfl, rfl⟩)
 go_ret2
 exact ⟨rfl, hb2⟩
set_option maxHeartbeats 800000 in
theorem oPortions_nil (d : Int) (w : World) : Calls Tryz.prog 44 #[.pointer none, .int .i64 d] w fun e w' => e = .returned (.tuple #[.int .i64 0, .int .i64 1]) ∧ Below w.heap.size w w' := by
 obtain ⟨w2, hw2⟩ : ∃ w2, (w.alloc (.cells #[.pointer none] 35)).alloc (.cells #[.int .i64 d] 3) = w2 := ⟨_, rfl⟩
 have hb2 : Below w.heap.size w w2 := by rw [← hw2]; exact ((Below.refl _ w).alloc (Nat.le_refl _) _).alloc (by simp) _
 have b1 : Box w2 w.heap.size #[.pointer none] := by rw [← hw2]; exact (Box.new w _ _).alloc _
 have x1 := b1.cell 0
 simp only [List.getElem?_toArray, List.getElem?_cons_zero, List.getElem?_cons_succ] at x1
 go_enter Tryz.func44, Tryz.ntmps44
 go_wp2_with (go_at_call 70; (with_reducible refine lockedInt_nil.mono ?_); rintro e w3 ⟨rfl, rfl⟩)
 go_ret2
 exact ⟨rfl, hb2⟩
set_option maxHeartbeats 800000 in
theorem oLabel_nil (t : Wd) (w : World) : Calls Tryz.prog 41 #[.pointer none, St t] w fun e w' => e = .returned (.tuple #[.slice none 0 0, .int .i64 1]) ∧ Below w.heap.size w w' := by
 obtain ⟨w2, hw2⟩ : ∃ w2, (w.alloc (.cells #[.pointer none] 35)).alloc (.cells #[St t] 9) = w2 := ⟨_, rfl⟩
 have hb2 : Below w.heap.size w w2 := by rw [← hw2]; exact ((Below.refl _ w).alloc (Nat.le_refl _) _).alloc (by simp) _
 have b1 : Box w2 w.heap.size #[.pointer none] := by rw [← hw2]; exact (Box.new w _ _).alloc _
 have x1 := b1.cell 0
 simp only [List.getElem?_toArray, List.getElem?_cons_zero, List.getElem?_cons_succ] at x1
 go_enter Tryz.func41, Tryz.ntmps41
 go_wp2_with (go_at_call 102; (with_reducible refine lockedIs_nil.mono ?_); rintro e w3 ⟨rfl, rfl⟩)
 go_ret2
 exact ⟨rfl, hb2⟩
set_option maxHeartbeats 800000 in
theorem oDue_nil (d : Int) (w : World) : Calls Tryz.prog 29 #[.pointer none, .int .i64 d] w fun e w' => e = .returned (.tuple #[.int .i64 0, .int .i64 1]) ∧ Below w.heap.size w w' := by
 obtain ⟨w2, hw2⟩ : ∃ w2, (w.alloc (.cells #[.pointer none] 35)).alloc (.cells #[.int .i64 d] 3) = w2 := ⟨_, rfl⟩
 have hb2 : Below w.heap.size w w2 := by rw [← hw2]; exact ((Below.refl _ w).alloc (Nat.le_refl _) _).alloc (by simp) _
 have b1 : Box w2 w.heap.size #[.pointer none] := by rw [← hw2]; exact (Box.new w _ _).alloc _
 have x1 := b1.cell 0
 simp only [List.getElem?_toArray, List.getElem?_cons_zero, List.getElem?_cons_succ] at x1
 go_enter Tryz.func29, Tryz.ntmps29
 go_wp2_with (go_at_call 70; (with_reducible refine lockedInt_nil.mono ?_); rintro e w3 ⟨rfl, rfl⟩)
 go_ret2
 exact ⟨rfl, hb2⟩
set_option maxHeartbeats 800000 in
theorem oServed_nil (d : Int) (w : World) : Calls Tryz.prog 46 #[.pointer none, .int .i64 d] w fun e w' => e = .returned (.tuple #[.int .i64 0, .int .i64 0, .int .i64 0, .int .i64 0, .int .i64 1]) ∧ Below w.heap.size w w' := by
 obtain ⟨w2, hw2⟩ : ∃ w2, (w.alloc (.cells #[.pointer none] 35)).alloc (.cells #[.int .i64 d] 3) = w2 := ⟨_, rfl⟩
 have hb2 : Below w.heap.size w w2 := by rw [← hw2]; exact ((Below.refl _ w).alloc (Nat.le_refl _) _).alloc (by simp) _
 have b1 : Box w2 w.heap.size #[.pointer none] := by rw [← hw2]; exact (Box.new w _ _).alloc _
 have x1 := b1.cell 0
 simp only [List.getElem?_toArray, List.getElem?_cons_zero, List.getElem?_cons_succ] at x1
 go_enter Tryz.func46, Tryz.ntmps46
 go_wp2_with (go_at_call 114; (with_reducible refine (lockedSv_nil (w := w2)).mono ?_); rintro e w4 ⟨rfl, hb4⟩)
 have hb3 : Below w4.heap.size w4 (w4.alloc (.cells #[.int .i64 0, .int .i64 0, .int .i64 0, .int .i64 0] 180)) := (Below.refl _ w4).alloc (Nat.le_refl _) _
 have b3 : Box (w4.alloc (.cells #[.int .i64 0, .int .i64 0, .int .i64 0, .int .i64 0] 180)) w4.heap.size #[.int .i64 0, .int .i64 0, .int .i64 0, .int .i64 0] := Box.new w4 _ _
 generalize w4.alloc (.cells #[.int .i64 0, .int .i64 0, .int .i64 0, .int .i64 0] 180) = w3 at *
 have u0 := b3.cell 0; have u1 := b3.cell 1; have u2 := b3.cell 2; have u3 := b3.cell 3
 simp only [List.getElem?_toArray, List.getElem?_cons_zero, List.getElem?_cons_succ] at u0 u1 u2 u3
 go_quiet (fail)
 go_wp2_with fail
 refine bodyPost_ret (results_tmp5 rfl _ _ _) rfl ⟨rfl, Go.below_drewN (hb2.trans ((hb4.trans (hb3.mono hb4.size)).mono hb2.size)) _⟩
end Go.Proofs.YtiapkffihpgdcaaGreatDoor
namespace Go.Proofs.YtiapkffihpgdcaaGreatDoor
open Go.RowKit
section
variable {w0 w w' : World} {N g x : Nat} {s s' : Of}
theorem DN.below (hd : DN w0 N g x s s' w) (hb : Below w.heap.size w w') : DN w0 N g x s s' w' := by
 obtain ⟨F, F', h, h', ⟨po, ro, env, bel, lo, lo', dis⟩⟩ := hd
 exact ⟨F, F', h, h', ⟨po.below hb, ro.below hb, env.below hb, bel.trans (hb.mono bel.size), lo, lo', dis⟩⟩
end
/-- The first k lines of a book. -/
theorem rd_take {S : Of} (h : OfOk S) (k : Nat) (hk : k ≤ S.orders.length) : rd (bokTo S.orders k) = (S.orders.take k, []) ∧ (bokTo S.orders k).length ≤ 61 * k := by
 refine ⟨?_, bokTo_len S.orders h.short k⟩
 rw [bokTo_take _ _ hk]
 exact rdL_bok _ _ (fun w hw => h.lines w (List.mem_of_mem_take hw)) (by have := h.ol; rw [List.length_take]; omega)
theorem preplay_at {f : Fi} {w : World} (hf : f.In w) (hl : f.Len) (hE : EnvA w) (hz : f.e = 0) (t : Wd) (ls : List Wd) (ht : t.length ≤ 1000000) (hrd : rd t = (ls, [])) (hok : okTo f.s0 ls ls.length = true) :
  Calls Tryz.prog 55 #[.agg #[.int .i64 f.t.len, .slice f.A1 f.t.rest.length f.c1, .slice f.A2 f.t.clo.length f.c2], .agg #[.int .i64 f.c.n, .int .i64 f.c.f, .int .i64 f.c.k], .agg #[.int .i64 f.b.props, .slice f.B1 f.b.items.length f.d1, .slice f.B2 f.b.rules.length f.d2], St t] w fun e w' => ∃ g, e = .returned (.tuple #[.pointer (some ⟨g, 0, none⟩), .int .i64 ls.length, .int .i64 0]) ∧ KN w ls.length (fun _ => False) g (runS f.s0 ls) w' := by
 have := preplay_ok hf hl hE t ht hz (by rw [hrd]) (by rw [hrd]; exact hok)
 rw [hrd] at this
 exact this
set_option maxHeartbeats 800000 in
theorem eqInts_any (l : List Int) (A B : Option Addr) (c d : Nat) (w : World) (h1 : RN w A l) (h2 : RN w B l) (hl : l.length ≤ 1000000000) :
  Calls Tryz.prog 216 #[.slice A l.length c, .slice B l.length d] w fun e w' => e = .returned (.bool true) ∧ Below w.heap.size w w' := by
 have n1 : ((l.length : Int) != (l.length : Int)) = false := by simp
 go_enter Tryz.func216, Tryz.ntmps216
 go_wp2
 go_loopw [13] (fun x wr => ∃ k : Nat, k ≤ l.length ∧ x = .int .i64 k ∧ Below w.heap.size w wr) (fun x _ => l.length - (intOf x).toNat)
 case atStart => exact ⟨0, by omega, rfl, Below.refl _ _⟩
 case round =>
  obtain ⟨k, hk, rfl, hbl⟩ := hrel
  by_cases hlt : k < l.length
  ·obtain ⟨ad, rfl, hab, c0⟩ := (h1.below hbl).at_ hlt
   obtain ⟨bd, rfl, hbb, d0⟩ := (h2.below hbl).at_ hlt
   have n2 : (gi l k != gi l k) = false := by simp
   go_wp2_with fail
   go_quiet (fail)
   go_wp2
   go_roundw
   case rel => exact ⟨k + 1, by omega, by go_num, Go.below_drewN hbl _⟩
   case measure => simp [intOf]; omega
  ·obtain rfl : k = l.length := by omega
   go_wp2
   go_ret
   exact ⟨rfl, hbl⟩
set_option maxHeartbeats 800000 in
theorem eqDishes_any (l : List Dh) (A B : Option Addr) (c d : Nat) (w : World) (h1 : RDh (fun _ => True) w A l) (h2 : RDh (fun _ => True) w B l) (hl : l.length ≤ 1000000000) :
  Calls Tryz.prog 212 #[.slice A l.length c, .slice B l.length d] w fun e w' => e = .returned (.bool true) ∧ Below w.heap.size w w' := by
 have n1 : ((l.length : Int) != (l.length : Int)) = false := by simp
 go_enter Tryz.func212, Tryz.ntmps212
 go_wp2
 go_loopw [13] (fun x wr => ∃ k : Nat, k ≤ l.length ∧ x = .int .i64 k ∧ Below w.heap.size w wr) (fun x _ => l.length - (intOf x).toNat)
 case atStart => exact ⟨0, by omega, rfl, Below.refl _ _⟩
 case round =>
  obtain ⟨k, hk, rfl, hbl⟩ := hrel
  by_cases hlt : k < l.length
  ·obtain ⟨ad, rfl, hab, c0, c1⟩ := RDh.at_ (R2.below h1 hbl) hlt
   obtain ⟨bd, rfl, hbb, d0, d1⟩ := RDh.at_ (R2.below h2 hbl) hlt
   skip
   go_wp2_with fail
   go_quiet (fail)
   go_wp2
   go_roundw
   case rel => exact ⟨k + 1, by omega, by go_num, Go.below_drewN hbl _⟩
   case measure => simp [intOf]; omega
  ·obtain rfl : k = l.length := by omega
   go_wp2
   go_ret
   exact ⟨rfl, hbl⟩
set_option maxHeartbeats 800000 in
theorem eqFacts_any (l : List Fact) (A B : Option Addr) (c d : Nat) (w : World) {B1 B2 : Nat} (h1 : RF w B1 A l) (h2 : RF w B2 B l) (hl : l.length ≤ 1000000000) :
  Calls Tryz.prog 213 #[.slice A l.length c, .slice B l.length d] w fun e w' => e = .returned (.bool true) ∧ Below w.heap.size w w' := by
 have n1 : ((l.length : Int) != (l.length : Int)) = false := by simp
 go_enter Tryz.func213, Tryz.ntmps213
 go_wp2
 go_loopw [13] (fun x wr => ∃ k : Nat, k ≤ l.length ∧ x = .int .i64 k ∧ Below w.heap.size w wr) (fun x _ => l.length - (intOf x).toNat)
 case atStart => exact ⟨0, by omega, rfl, Below.refl _ _⟩
 case round =>
  obtain ⟨k, hk, rfl, hbl⟩ := hrel
  by_cases hlt : k < l.length
  ·obtain ⟨ad, rfl, hab, c0, c1, c2, c3, c4⟩ := (h1.below hbl).at_ hlt
   obtain ⟨bd, rfl, hbb, d0, d1, d2, d3, d4⟩ := (h2.below hbl).at_ hlt
   skip
   go_wp2_with fail
   go_quiet (fail)
   go_wp2
   go_roundw
   case rel => exact ⟨k + 1, by omega, by go_num, Go.below_drewN hbl _⟩
   case measure => simp [intOf]; omega
  ·obtain rfl : k = l.length := by omega
   go_wp2
   go_ret
   exact ⟨rfl, hbl⟩
set_option maxHeartbeats 800000 in
theorem kidSame_any (n : Int) (l : List Int) (A B : Option Addr) (c d : Nat) (w : World) (h1 : RN w A l) (h2 : RN w B l) (hl : l.length ≤ 1000000000) :
  Calls Tryz.prog 215 #[.agg #[.int .i64 n, .slice A l.length c], .agg #[.int .i64 n, .slice B l.length d]] w fun e w' => e = .returned (.bool true) ∧ Below w.heap.size w w' := by
 obtain ⟨w2, hw2⟩ : ∃ w2, (w.alloc (.cells #[.int .i64 n, .slice A l.length c] 56)).alloc (.cells #[.int .i64 n, .slice B l.length d] 56) = w2 := ⟨_, rfl⟩
 have hy : Below w.heap.size w w2 := by rw [← hw2]; exact ((Below.refl _ w).alloc (Nat.le_refl _) _).alloc (by simp) _
 have b0 : Box w2 w.heap.size #[.int .i64 n, .slice A l.length c] := by rw [← hw2]; exact (Box.new w _ _).alloc _
 have b1 : Box w2 (w.heap.size + 1) #[.int .i64 n, .slice B l.length d] := by rw [← hw2]; exact (Box.new (w.alloc (.cells #[.int .i64 n, .slice A l.length c] 56)) _ _).at' (by simp)
 have x0 := b0.cell 0; have x1 := b0.cell 1; have y0 := b1.cell 0; have y1 := b1.cell 1
 simp only [List.getElem?_toArray, List.getElem?_cons_zero, List.getElem?_cons_succ] at x0 x1 y0 y1
 have HC := Lib.hid (eqInts_any l A B c d w2 (h1.below hy) (h2.below hy) hl)
 have n1 : (n == n) = true := by simp
 go_enter Tryz.func215, Tryz.ntmps215
 go_wp2_with (go_at_call 216; (with_reducible refine HC.out.mono ?_); rintro e w3 ⟨rfl, hb3⟩)
 go_ret
 exact ⟨rfl, hy.trans (hb3.mono hy.size)⟩
set_option maxHeartbeats 1600000 in
theorem eqKids_any (l : List Kd) (hp hq : Nat → SlH) (A B : Option Addr) (c d : Nat) (w : World) (h1 : RKd (fun _ => True) w A l hp) (h2 : RKd (fun _ => True) w B l hq) (hl : l.length ≤ 1000000000) (ha : ∀ k, k < l.length → (gk l k).avoid.length ≤ 1000000000) :
  Calls Tryz.prog 214 #[.slice A l.length c, .slice B l.length d, .func (.func 215) #[] #[]] w fun e w' => e = .returned (.bool true) ∧ Below w.heap.size w w' := by
 have n1 : ((l.length : Int) != (l.length : Int)) = false := by simp
 have HA := Lib.hid ha
 clear ha
 go_enter Tryz.func214, Tryz.ntmps214
 go_wp2
 go_loopw [17] (fun x wr => ∃ k : Nat, k ≤ l.length ∧ x = .int .i64 k ∧ Below w.heap.size w wr) (fun x _ => l.length - (intOf x).toNat)
 case atStart => exact ⟨0, by omega, rfl, Below.refl _ _⟩
 case round =>
  obtain ⟨k, hk, rfl, hbl⟩ := hrel
  by_cases hlt : k < l.length
  ·obtain ⟨ad, rfl, hab, c0, c1⟩ := (h1.below hbl).at_ hlt
   obtain ⟨bd, rfl, hbb, d0, d1⟩ := (h2.below hbl).at_ hlt
   have hal := HA.out k hlt
   have r1 : RN wr (hp k).1 (gk l k).avoid := RNF.rn ((h1.below hbl).avoid k hlt)
   have r2 : RN wr (hq k).1 (gk l k).avoid := RNF.rn ((h2.below hbl).avoid k hlt)
   obtain ⟨nu, hnu⟩ : ∃ nu, nu = (gk l k).num := ⟨_, rfl⟩
   obtain ⟨av, hav⟩ : ∃ av, av = (gk l k).avoid := ⟨_, rfl⟩
   obtain ⟨⟨P1, P2⟩, hP⟩ : ∃ P : SlH, P = hp k := ⟨_, rfl⟩
   obtain ⟨⟨Q1, Q2⟩, hQ⟩ : ∃ Q : SlH, Q = hq k := ⟨_, rfl⟩
   rw [← hnu] at c0 d0
   rw [← hav] at hal
   rw [← hav, ← hP] at c1 r1
   rw [← hav, ← hQ] at d1 r2
   have c1' : wr.cell? ⟨(ad.add (k * 2)).block, (ad.add (k * 2)).off + 1, none⟩ = some (.slice P1 av.length P2) := c1
   have d1' : wr.cell? ⟨(bd.add (k * 2)).block, (bd.add (k * 2)).off + 1, none⟩ = some (.slice Q1 av.length Q2) := d1
   clear c1 d1 hnu hav hP hQ
   obtain ⟨w5, hw5⟩ : ∃ w5, wr.alloc (.cells #[.int .i64 nu, .slice P1 av.length P2] 56) = w5 := ⟨_, rfl⟩
   have hb5 : Below wr.heap.size wr w5 := by rw [← hw5]; exact (Below.refl _ wr).alloc (Nat.le_refl _) _
   have b5 : Box w5 wr.heap.size #[.int .i64 nu, .slice P1 av.length P2] := by rw [← hw5]; exact (Box.new wr _ _)
   have e5 : w5.heap.size = wr.heap.size + 1 := by rw [← hw5]; simp
   obtain ⟨w6, hw6⟩ : ∃ w6, w5.alloc (.cells #[.int .i64 nu, .slice Q1 av.length Q2] 56) = w6 := ⟨_, rfl⟩
   have hb6 : Below w5.heap.size w5 w6 := by rw [← hw6]; exact (Below.refl _ w5).alloc (Nat.le_refl _) _
   have b6 : Box w6 w5.heap.size #[.int .i64 nu, .slice Q1 av.length Q2] := by rw [← hw6]; exact (Box.new w5 _ _)
   have b56 := b5.below hb6
   have hb56 := hb5.trans (hb6.mono hb5.size)
   have d0' := (hb5.cell (p := bd.add (k * 2)) hbb).trans d0
   have d1'' := (hb5.cell (p := ⟨(bd.add (k * 2)).block, (bd.add (k * 2)).off + 1, none⟩) hbb).trans d1'
   have x0 := b56.cell 0; have x1 := b56.cell 1; have y0 := b6.cell 0; have y1 := b6.cell 1
   simp only [List.getElem?_toArray, List.getElem?_cons_zero, List.getElem?_cons_succ] at x0 x1 y0 y1
   have HC := Lib.hid (kidSame_any nu av P1 Q1 P2 Q2 w6 (r1.below hb56) (r2.below hb56) hal)
   have hbl6 := hbl.trans (hb56.mono hbl.size)
   clear b5 b6 b56 e5 d0 d1' hb5 hb6
   go_wp2_with (go_at_call 215; (with_reducible refine HC.out.mono ?_); rintro e w7 ⟨rfl, hb7⟩)
   go_roundw
   case rel => exact ⟨k + 1, by omega, by go_num, hbl6.trans (hb7.mono hbl6.size)⟩
   case measure => simp [intOf]; omega
  ·obtain rfl : k = l.length := by omega
   go_wp2
   go_ret
   exact ⟨rfl, hbl⟩
end Go.Proofs.YtiapkffihpgdcaaGreatDoor
namespace Go.Proofs.YtiapkffihpgdcaaGreatDoor
open Go.RowKit Go.Sort
section
variable {L : Int} {N : Nat} {w : World} {F : Nat → Prop} {g : Nat} {h : Hd} {s : Of}
set_option maxHeartbeats 3200000 in
theorem safe_any (hP : PO L N w F g h s) (hE : EnvZ w) :
  Calls Tryz.prog 147 #[.pointer (some ⟨g, 0, none⟩)] w fun e w' => e = .returned (.bool true) ∧ Below w.heap.size w w' := by
 have qK := hP.cKd
 have hkl := hP.ok.kl
 have hgl := hP.gl
 have hdl := days_le hP.ok.tm
 go_enter Tryz.func147, Tryz.ntmps147
 go_wp2_with fail
 clear qK
 go_loopw [12] (fun x wr => ∃ i : Nat, i ≤ s.kids.length ∧ x = .int .i64 i ∧ Below w.heap.size w wr) (fun x _ => s.kids.length - (intOf x).toNat)
 case atStart => exact ⟨0, by omega, rfl, Below.refl _ _⟩
 case round =>
  obtain ⟨wo, rfl⟩ : ∃ wo : World, wo = wr := ⟨_, rfl⟩
  obtain ⟨i, hil, rfl, hbl⟩ := hrel
  have hszl := hbl.size
  by_cases hi : i < s.kids.length
  ·have hPr := hP.below hbl
   obtain ⟨adK, eK, hbK, _, dK0, dK1⟩ := hPr.kids.at_ hi
   rw [eK]
   unfold slN at dK1
   have hsafe := fun (d : Nat) (hd : d < s.days) => hP.ok.safe _ (gk_mem hi) d hd
   have hp0 := hP.ok.bk.p0
   have hp10 := hP.ok.bk.p10
   have hvl : (gk s.kids i).avoid.length ≤ 1000000000 := by have := isSet_len (hP.ok.ka _ (gk_mem hi)) (by omega); omega
   have hvd0 := (hPr.av i hi).rn
   obtain ⟨av, hav⟩ : ∃ av, av = (gk s.kids i).avoid := ⟨_, rfl⟩
   obtain ⟨nu, hnu⟩ : ∃ nu, nu = (gk s.kids i).num := ⟨_, rfl⟩
   rw [← hav] at dK1 hvl hvd0
   rw [← hnu] at dK0
   simp only [← hav, ← hnu] at hsafe
   have HSF := Lib.hid hsafe
   clear hav hnu eK hsafe
   obtain ⟨w5, hw5⟩ : ∃ w5, wo.alloc (.cells #[.int .i64 nu, .slice (h.hk i).1 av.length (h.hk i).2] 56) = w5 := ⟨_, rfl⟩
   have hb5 : Below wo.heap.size wo w5 := by rw [← hw5]; exact (Below.refl _ wo).alloc (Nat.le_refl _) _
   have b5 : Box w5 wo.heap.size #[.int .i64 nu, .slice (h.hk i).1 av.length (h.hk i).2] := by rw [← hw5]; exact (Box.new wo _ _)
   have hbl5 := hbl.trans (hb5.mono hszl)
   have hP5 := hP.below hbl5
   have qM := hP5.cMn
   rw [mnL_len] at qM
   have hvd5 := hvd0.below hb5
   go_wp2_with fail
   clear qM dK0 dK1 hvd0 hbK
   go_loopw [21] (fun x wr => ∃ d : Nat, d ≤ s.days ∧ x = .int .i64 d ∧ Below w5.heap.size w5 wr) (fun x _ => s.days - (intOf x).toNat)
   case atStart => exact ⟨0, by omega, rfl, Below.refl _ _⟩
   case round =>
    obtain ⟨k, hk1, rfl, hb⟩ := hrel
    by_cases hkd : k < s.days
    ·have hbd : Below w.heap.size w wr := hbl5.trans (hb.mono hbl5.size)
     have hPd := hP.below hbd
     have hEd := hE.below hbd
     have qD := hPd.cDs
     have hvd := hvd5.below hb
     have bb := b5.below hb
     have u0 := bb.cell 0; have u1 := bb.cell 1
     simp only [List.getElem?_toArray, List.getElem?_cons_zero, List.getElem?_cons_succ] at u0 u1
     obtain ⟨adm, em, hmb, cm⟩ := hPd.mn.rn.at_ (k := k) (by rw [mnL_len]; exact hkd)
     rw [em]
     rw [mnL_gi s hkd] at cm
     obtain ⟨m, hm⟩ : ∃ m, s.menu k = m := ⟨_, rfl⟩
     rw [hm] at cm
     have HM := Lib.hid hm
     clear hm em
     by_cases hm0 : 0 ≤ m
     ·obtain ⟨j, rfl⟩ : ∃ j : Nat, m = j := ⟨m.toNat, by omega⟩
      by_cases hj : j < s.dishes.length
      ·obtain ⟨adD, eD, hbD, dD0, dD1⟩ := hPd.dish.at_ hj
       rw [eD] at qD
       have hdy : dayHarm s av k = harmB s.bk (gd s.dishes j).item av := by
        rw [dayHarm_yes (by rw [HM.out]; omega), HM.out]; rfl
       obtain ⟨it, hit⟩ : ∃ it, it = (gd s.dishes j).item := ⟨_, rfl⟩
       rw [← hit] at hdy dD1
       obtain ⟨H, hH⟩ : ∃ H, H = harmB s.bk it av := ⟨_, rfl⟩
       rw [← hH] at hdy
       obtain ⟨E, hEt⟩ : ∃ E, E = eatB s nu k := ⟨_, rfl⟩
       have hHE : H = true → E = false := fun e => by rw [hEt]; exact HSF.out k hkd (hdy.trans e)
       have cA : ∀ d' os, Calls Tryz.prog 211 #[.pointer (some ⟨g, 0, none⟩), .agg #[.int .i64 nu, .slice (h.hk i).1 av.length (h.hk i).2], .int .i64 it] (grow (redrawn wr d') os) fun e w'' => e = .returned (.bool H) ∧ ∃ p : Regrown, w'' = grow (redrawn wr p.d) p.os := fun d' os => by
        have hbg := below_regrown wr d' os
        rw [hH]
        exact Calls.regrown_of (harms_any (hPd.below hbg) (hEd.below hbg) nu av hvl _ _ (hvd.below hbg) it)
       have cB : ∀ d' os, Calls Tryz.prog 187 #[.pointer (some ⟨g, 0, none⟩), .int .i64 nu, .int .i64 k] (grow (redrawn wr d') os) fun e w'' => e = .returned (.bool E) ∧ ∃ p : Regrown, w'' = grow (redrawn wr p.d) p.os := fun d' os => by
        have hbg := below_regrown wr d' os
        rw [hEt]
        exact Calls.regrown_of (eats_any (hPd.below hbg) nu k)
       have k0 := cell_regrown qD; have k1 := cell_regrown u0; have k2 := cell_regrown u1; have k3 := cell_regrown dD1
       clear eD hit hH hdy dD0 hvl hvd hbD hEt qD u0 u1 dD1
       have hm0' : decide (0 ≤ (j : Int)) = true := by rw [decide_eq_true_eq]; omega
       have hj' : decide ((j : Int) < (s.dishes.length : Int)) = true := by rw [decide_eq_true_eq]; omega
       cases H with
       | true =>
        have hE0 := hHE rfl
        subst hE0
        clear hHE
        go_wp2_with fail
        refine wp_region_quiet_below (by kernel_rfl) (by kernel_rfl) ?_
        repeat (go_big_quiet_step (first | with_reducible exact cA _ _ | with_reducible exact cB _ _))
        refine wpQuiet_nil ?_
        intro _ hw'
        obtain ⟨⟨dq, osq⟩, hw''⟩ := hw'
        subst hw''
        go_wp2_with fail
        go_roundw
        case rel => exact ⟨k + 1, by omega, by go_num, hb.trans ((below_regrown wr dq osq).mono hb.size)⟩
        case measure => simp [intOf]; omega
       | false =>
        clear hHE
        go_wp2_with fail
        refine wp_region_quiet_below (by kernel_rfl) (by kernel_rfl) ?_
        repeat (go_big_quiet_step (first | with_reducible exact cA _ _ | with_reducible exact cB _ _))
        refine wpQuiet_nil ?_
        intro _ hw'
        obtain ⟨⟨dq, osq⟩, hw''⟩ := hw'
        subst hw''
        go_wp2_with fail
        go_roundw
        case rel => exact ⟨k + 1, by omega, by go_num, hb.trans ((below_regrown wr dq osq).mono hb.size)⟩
        case measure => simp [intOf]; omega
      ·have hm0' : decide (0 ≤ (j : Int)) = true := by rw [decide_eq_true_eq]; omega
       have hj' : decide ((j : Int) < (s.dishes.length : Int)) = false := by rw [decide_eq_false_iff_not]; omega
       go_wp2_with fail
       go_quiet (fail)
       go_wp2_with fail
       go_roundw
       case rel => exact ⟨k + 1, by omega, by go_num, Go.below_drewN hb _⟩
       case measure => simp [intOf]; omega
     ·have hm0' : decide (0 ≤ m) = false := by rw [decide_eq_false_iff_not]; omega
      go_wp2_with fail
      go_quiet (fail)
      go_wp2_with fail
      go_roundw
      case rel => exact ⟨k + 1, by omega, by go_num, Go.below_drewN hb _⟩
      case measure => simp [intOf]; omega
    ·obtain rfl : k = s.days := by omega
     go_wp2_with fail
     go_roundw
     case rel => exact ⟨i + 1, by omega, by go_num, hbl5.trans (hb.mono hbl5.size)⟩
     case measure => simp [intOf]; omega
  ·obtain rfl : i = s.kids.length := by omega
   go_wp2
   go_ret
   exact ⟨rfl, hbl⟩
end
theorem eql_service (a b c d : Int) (w : World) : (Op.equalIn 10000 180 (.agg #[.int .i64 a, .int .i64 b, .int .i64 c, .int .i64 d]) (.agg #[.int .i64 a, .int .i64 b, .int .i64 c, .int .i64 d])).run Tryz.prog w = .ok true w := by
 have hu : Tryz.prog.underlying 180 = some (.array 4 3) := by kernel_rfl
 obtain ⟨i, hi, _, _, _⟩ := info_parts info_int
 have u3 := Tryz.underlying3
 have a3 := Tryz.isAgg3
 have z3 := Tryz.sizeOf3
 have c1 : Tryz.prog.cellsOf 3 = 1 := by kernel_rfl
 rw [show (10000 : Nat) = 9999 + 1 from rfl, run_equalIn_array w 9999 _ _ hu hi, c1, show List.range 4 = [0, 1, 2, 3] from rfl]
 simp only [Op.eqItems]
 go_simp
section
variable {L L' : Int} {N N' : Nat} {w : World} {F F' : Nat → Prop} {g x : Nat} {h h' : Hd} {s : Of}
theorem PO.rkd (hP : PO L N w F g h s) : RKd (fun _ => True) w h.kd.1 s.kids h.hk := ⟨hP.kids, fun k hk => (hP.av k hk).mono fun _ _ => trivial⟩
set_option maxHeartbeats 3200000 in
theorem oequal_any (hP : PO L N w F g h s) (hX : PO L' N' w F' x h' s) :
    Calls Tryz.prog 148 #[.pointer (some ⟨g, 0, none⟩), .pointer (some ⟨x, 0, none⟩)] w fun e w' => e = .returned (.bool true) ∧ Below w.heap.size w w' := by
  have hkl := hP.ok.kl
  have hfl := hP.ok.fl
  have hdl := days_le hP.ok.tm
  have hds : s.dishes.length ≤ 40 := by have := hP.ok.dl; have := hP.ok.cy.n2; omega
  have hp0 := hP.ok.bk.p0
  have hp10 := hP.ok.bk.p10
  have hal : ∀ k, k < s.kids.length → (gk s.kids k).avoid.length ≤ 1000000000 := fun k hk => by have := isSet_len (hP.ok.ka _ (gk_mem hk)) (by omega); omega
  have cA : ∀ d' os, Calls Tryz.prog 212 #[.slice h.ds.1 s.dishes.length h.ds.2, .slice h'.ds.1 s.dishes.length h'.ds.2] (grow (redrawn w d') os) fun e w'' => e = .returned (.bool true) ∧ ∃ p : Regrown, w'' = grow (redrawn w p.d) p.os := fun d' os => by
    have hbg := below_regrown w d' os
    exact Calls.regrown_of (eqDishes_any s.dishes _ _ _ _ _ (hP.below hbg).dish (hX.below hbg).dish (by omega))
  have cB : ∀ d' os, Calls Tryz.prog 213 #[.slice h.fa.1 s.facts.length h.fa.2, .slice h'.fa.1 s.facts.length h'.fa.2] (grow (redrawn w d') os) fun e w'' => e = .returned (.bool true) ∧ ∃ p : Regrown, w'' = grow (redrawn w p.d) p.os := fun d' os => by
    have hbg := below_regrown w d' os
    exact Calls.regrown_of (eqFacts_any s.facts _ _ _ _ _ (hP.below hbg).rf (hX.below hbg).rf (by omega))
  have cC : ∀ d' os, Calls Tryz.prog 214 #[.slice h.kd.1 s.kids.length h.kd.2, .slice h'.kd.1 s.kids.length h'.kd.2, .func (.func 215) #[] #[]] (grow (redrawn w d') os) fun e w'' => e = .returned (.bool true) ∧ ∃ p : Regrown, w'' = grow (redrawn w p.d) p.os := fun d' os => by
    have hbg := below_regrown w d' os
    exact Calls.regrown_of (eqKids_any s.kids _ _ _ _ _ _ _ (hP.below hbg).rkd (hX.below hbg).rkd (by omega) hal)
  have HP := Lib.hid (fun (w' : World) (hb : Below w.heap.size w w') => hP.below hb)
  have HX := Lib.hid (fun (w' : World) (hb : Below w.heap.size w w') => hX.below hb)
  have k0 := cell_regrown hP.cNow; have k1 := cell_regrown hP.cDs; have k2 := cell_regrown hP.cFa; have k3 := cell_regrown hP.cKd
  have j0 := cell_regrown hX.cNow; have j1 := cell_regrown hX.cDs; have j2 := cell_regrown hX.cFa; have j3 := cell_regrown hX.cKd
  have n1 : (s.now == s.now) = true := by simp
  have heq := eql_service
  clear hP hX hal
  go_enter Tryz.func148, Tryz.ntmps148
  go_wp2_with fail
  refine wp_region_quiet_below (by kernel_rfl) (by kernel_rfl) ?_
  repeat (go_big_quiet_step (first | with_reducible exact cA _ _ | with_reducible exact cB _ _ | with_reducible exact cC _ _))
  refine wpQuiet_nil ?_
  intro _ hw'
  obtain ⟨⟨dq, osq⟩, hw''⟩ := hw'
  subst hw''
  have hy1 := below_regrown w dq osq
  clear k0 k1 k2 k3 j0 j1 j2 j3 cA cB cC n1
  obtain ⟨w1, hw1⟩ : ∃ w1, w1 = grow (redrawn w dq) osq := ⟨_, rfl⟩
  rw [← hw1] at hy1 ⊢
  clear hw1
  have hM1 := (HP.out _ hy1).cMn
  rw [mnL_len] at hM1
  go_wp2_with fail
  clear hM1
  go_loopw [5, 64] (fun sm v wr => ∃ k : Nat, k ≤ s.days ∧ v = .int .i64 k ∧ sm = .bool true ∧ Below w.heap.size w wr) (fun _ v _ => s.days - (intOf v).toNat)
  case atStart => exact ⟨0, by omega, rfl, rfl, hy1⟩
  case round =>
    obtain ⟨k, hk, rfl, rfl, hb⟩ := hrel
    by_cases hlt : k < s.days
    · have HS := Lib.hid (oserved_any (HP.out _ hb) (k : Int))
      have HT := Lib.hid (fun (w' : World) (hbb : Below w.heap.size w w') => oserved_any (HX.out _ hbb) (k : Int))
      obtain ⟨E, hE⟩ : ∃ E, E = svdE s k := ⟨_, rfl⟩
      rw [← hE] at HS HT
      clear hE
      unfold svV at HS HT
      obtain ⟨a1, ha1⟩ : ∃ a, a = ckd s k := ⟨_, rfl⟩
      obtain ⟨a2, ha2⟩ : ∃ a, a = etn s k := ⟨_, rfl⟩
      obtain ⟨a3, ha3⟩ : ∃ a, a = wst s k := ⟨_, rfl⟩
      obtain ⟨a4, ha4⟩ : ∃ a, a = mis s k := ⟨_, rfl⟩
      rw [← ha1, ← ha2, ← ha3, ← ha4] at HS HT
      clear ha1 ha2 ha3 ha4
      have n2 : (E == E) = true := by simp
      go_wp2_with (first
        | (go_at_call 116; (with_reducible refine HS.out.mono ?_); rintro e w2 ⟨rfl, hb2⟩; clear HS
           obtain ⟨w3, hw3⟩ : ∃ w3, w2.alloc (.cells #[.int .i64 a1, .int .i64 a2, .int .i64 a3, .int .i64 a4] 180) = w3 := ⟨_, rfl⟩
           have hb3 : Below w2.heap.size w2 w3 := by rw [← hw3]; exact (Below.refl _ w2).alloc (Nat.le_refl _) _
           have b3 : Box w3 w2.heap.size #[.int .i64 a1, .int .i64 a2, .int .i64 a3, .int .i64 a4] := by rw [← hw3]; exact Box.new w2 _ _
           have hc3 := hb.trans ((hb2.trans (hb3.mono hb2.size)).mono hb.size))
        | (go_at_call 116; (with_reducible refine (HT.out _ hc3).mono ?_); rintro e w4 ⟨rfl, hb4⟩
           have b4 := b3.below hb4
           have hc4 := hc3.trans (hb4.mono hc3.size)
           obtain ⟨w5, hw5⟩ : ∃ w5, w4.alloc (.cells #[.int .i64 a1, .int .i64 a2, .int .i64 a3, .int .i64 a4] 180) = w5 := ⟨_, rfl⟩
           have hb5 : Below w4.heap.size w4 w5 := by rw [← hw5]; exact (Below.refl _ w4).alloc (Nat.le_refl _) _
           have b5 : Box w5 w4.heap.size #[.int .i64 a1, .int .i64 a2, .int .i64 a3, .int .i64 a4] := by rw [← hw5]; exact Box.new w4 _ _
           have b45 := b4.below hb5
           have hc5 := hc4.trans (hb5.mono hc4.size)
           have u0 := b45.cell 0; have u1 := b45.cell 1; have u2 := b45.cell 2; have u3 := b45.cell 3
           have v0 := b5.cell 0; have v1 := b5.cell 1; have v2 := b5.cell 2; have v3 := b5.cell 3
           simp only [List.getElem?_toArray, List.getElem?_cons_zero, List.getElem?_cons_succ] at u0 u1 u2 u3 v0 v1 v2 v3))
      go_roundw
      case rel => exact ⟨k + 1, by omega, by go_num, rfl, hc5⟩
      case measure => simp [intOf]; omega
    · obtain rfl : k = s.days := by omega
      have hK1 := (HP.out _ hb).cKd
      go_wp2_with fail
      clear hK1
      obtain ⟨wo, rfl⟩ : ∃ wo : World, wo = wr := ⟨_, rfl⟩
      go_loopw [5, 96] (fun sm v wr => ∃ k : Nat, k ≤ s.kids.length ∧ v = .int .i64 k ∧ sm = .bool true ∧ Below w.heap.size w wr) (fun _ v _ => s.kids.length - (intOf v).toNat)
      case atStart => exact ⟨0, by omega, rfl, rfl, hb⟩
      case round =>
        clear hb
        obtain ⟨k, hk, rfl, rfl, hb⟩ := hrel
        by_cases hlt : k < s.kids.length
        · obtain ⟨adK, eK, hbK, _, dK0, dK1⟩ := (HP.out _ hb).kids.at_ hlt
          rw [eK]
          unfold slN at dK1
          obtain ⟨av, hav⟩ : ∃ av, av = (gk s.kids k).avoid := ⟨_, rfl⟩
          obtain ⟨nu, hnu⟩ : ∃ nu, nu = (gk s.kids k).num := ⟨_, rfl⟩
          rw [← hav] at dK1
          rw [← hnu] at dK0
          clear hav hnu eK
          obtain ⟨w5, hw5⟩ : ∃ w5, wr.alloc (.cells #[.int .i64 nu, .slice (h.hk k).1 av.length (h.hk k).2] 56) = w5 := ⟨_, rfl⟩
          have hb5 : Below wr.heap.size wr w5 := by rw [← hw5]; exact (Below.refl _ wr).alloc (Nat.le_refl _) _
          have b5 : Box w5 wr.heap.size #[.int .i64 nu, .slice (h.hk k).1 av.length (h.hk k).2] := by rw [← hw5]; exact (Box.new wr _ _)
          have hc5 := hb.trans (hb5.mono hb.size)
          have u0 := b5.cell 0
          simp only [List.getElem?_toArray, List.getElem?_cons_zero, List.getElem?_cons_succ] at u0
          have HS := Lib.hid (odue_any (HP.out _ hc5) nu)
          have HT := Lib.hid (fun (w' : World) (hbb : Below w.heap.size w w') => odue_any (HX.out _ hbb) nu)
          obtain ⟨E, hE⟩ : ∃ E, E = dueE s nu := ⟨_, rfl⟩
          obtain ⟨R, hR⟩ : ∃ R, R = dueR s nu := ⟨_, rfl⟩
          rw [← hE, ← hR] at HS HT
          clear hE hR
          have n2 : (E == E) = true := by simp
          have n3 : (R == R) = true := by simp
          go_wp2_with (first
            | (go_at_call 91; (with_reducible refine HS.out.mono ?_); rintro e w6 ⟨rfl, hb6⟩; clear HS
               have b6 := b5.below hb6
               have hc6 := hc5.trans (hb6.mono hc5.size)
               have v0 := b6.cell 0
               simp only [List.getElem?_toArray, List.getElem?_cons_zero, List.getElem?_cons_succ] at v0)
            | (go_at_call 91; (with_reducible refine (HT.out _ hc6).mono ?_); rintro e w7 ⟨rfl, hb7⟩
               have hc7 := hc6.trans (hb7.mono hc6.size)))
          go_roundw
          case rel => exact ⟨k + 1, by omega, by go_num, rfl, hc7⟩
          case measure => simp [intOf]; omega
        · obtain rfl : k = s.kids.length := by omega
          go_wp2_with fail
          go_ret
          exact ⟨rfl, hb⟩
end
end Go.Proofs.YtiapkffihpgdcaaGreatDoor
namespace Go.Proofs.YtiapkffihpgdcaaGreatDoor
open Go.RowKit
section
variable {L : Int} {N : Nat} {w : World} {F : Nat → Prop} {g : Nat} {h : Hd} {s : Of}
/-- What an office in memory was made of. -/
def ofFi (s : Of) (h : Hd) : Fi := ⟨s.tm, s.cy, s.bk, h.tr.1, h.tc.1, h.bi.1, h.br.1, h.tr.2, h.tc.2, h.bi.2, h.br.2, h.hp, h.hq, h.hr⟩
theorem PO.fi (hP : PO L N w F g h s) : (ofFi s h).In w := ⟨hP.rest.rn, hP.clo.rn, hP.bk.mono fun _ _ => trivial⟩
theorem PO.fiLen (hP : PO L N w F g h s) : (ofFi s h).Len := ⟨by have := isSet_len hP.ok.tm.rest (by omega); show s.tm.rest.length ≤ 1000000; omega, by have := hP.ok.tm.clo60; show s.tm.clo.length ≤ 1000000; omega, hP.ok.bk.len⟩
set_option maxHeartbeats 3200000 in
theorem cAudit_any (hP : PO L N w F g h s) (hE : EnvA w) (hH : Hist s) {b1 : Nat} (x1 : w.cell? ⟨b1, 0, none⟩ = some (.pointer (some ⟨g, 0, none⟩))) (hb1 : b1 < w.heap.size) :
  Calls Tryz.prog 144 #[.pointer (some ⟨b1, 0, none⟩)] w fun e w' => e = .returned (.tuple #[.bool true, .int .i64 0]) ∧ Below w.heap.size w w' := by
 have hlen := hP.fiLen
 have hz : (ofFi s h).e = 0 := newE_of hP.ok.tm hP.ok.cy hP.ok.bk
 have hfl := hP.ok.fl
 have hrd := rd_bok hP.ok
 have hbl := (rd_take hP.ok _ (Nat.le_refl _)).2
 have hol := hP.ok.ol
 obtain ⟨T, hT⟩ : ∃ T, T = bok s := ⟨_, rfl⟩
 have hT2 : bokTo s.orders s.orders.length = T := by rw [hT]; rfl
 rw [hT2] at hbl
 rw [← hT] at hrd
 have HTX := Lib.hid (fun (w' : World) (hb : Below w.heap.size w w') => text_any (hP.below hb))
 rw [← hT] at HTX
 have HPR := Lib.hid (fun (w' : World) (hb : Below w.heap.size w w') => preplay_at (hP.below hb).fi hlen (hE.below hb) hz T s.orders (by omega) hrd hH.ok)
 rw [show runS (ofFi s h).s0 s.orders = s from hH.run] at HPR
 simp only [ofFi] at HPR
 have HV := Lib.hid (validate_any s.facts h.fa.1 h.fa.2 w.heap.size w hP.rf (by omega))
 rw [hP.ok.fv] at HV
 have HR := Lib.hid (fun (w' : World) (hb : Below w.heap.size w w') => vrights_any s.rights h.ri.1 h.ri.2 w' (hP.below hb).ri.1 (by have := hP.ok.rl; omega))
 rw [hP.ok.rv] at HR
 have HS := Lib.hid (fun (w' : World) (hb : Below w.heap.size w w') => safe_any (hP.below hb) (hE.below hb).z)
 have HP := Lib.hid (fun (w' : World) (hb : Below w.heap.size w w') => hP.below hb)
 have qF := hP.cFa
 have hgl := hP.gl
 clear hP hE hH hz hrd hbl hT hT2 hfl hol
 go_enter Tryz.func144, Tryz.ntmps144
 go_wp2_with (first
  | (go_at_call 145; (with_reducible refine HV.out.mono ?_); rintro e w1 ⟨rfl, c1⟩; have qR := (HP.out _ c1).cRi; have xa := (c1.cell (p := ⟨b1, 0, none⟩) hb1).trans x1)
  | (go_at_call 146; (with_reducible refine (HR.out _ c1).mono ?_); rintro e w2 ⟨rfl, d2⟩; have c2 := c1.trans (d2.mono c1.size); have xb := (c2.cell (p := ⟨b1, 0, none⟩) hb1).trans x1)
  | (go_at_call 147; (with_reducible refine (HS.out _ c2).mono ?_); rintro e w3 ⟨rfl, d3⟩; have c3 := c2.trans (d3.mono c2.size); have xc := (c3.cell (p := ⟨b1, 0, none⟩) hb1).trans x1))
 have P3 := HP.out _ c3
 have p0 := P3.cLen; have p1 := P3.cRest; have p2 := P3.cClo; have p3 := P3.cN; have p4 := P3.cF; have p5 := P3.cK; have p6 := P3.cProps; have p7 := P3.cItems; have p8 := P3.cRules
 clear qF qR x1 xa xb HV HR HS P3
 go_region_held3 (fun w' => w'.cell? ⟨b1, 0, none⟩ = some (.pointer (some ⟨g, 0, none⟩)) ∧ w'.cell? ⟨g, 2, none⟩ = some (.int .i64 s.tm.len) ∧ w'.cell? ⟨g, 3, none⟩ = some (.slice h.tr.1 s.tm.rest.length h.tr.2) ∧ w'.cell? ⟨g, 4, none⟩ = some (.slice h.tc.1 s.tm.clo.length h.tc.2) ∧ w'.cell? ⟨g, 5, none⟩ = some (.int .i64 s.cy.n) ∧ w'.cell? ⟨g, 6, none⟩ = some (.int .i64 s.cy.f) ∧ w'.cell? ⟨g, 7, none⟩ = some (.int .i64 s.cy.k) ∧ w'.cell? ⟨g, 8, none⟩ = some (.int .i64 s.bk.props) ∧ w'.cell? ⟨g, 9, none⟩ = some (.slice h.bi.1 s.bk.items.length h.bi.2) ∧ w'.cell? ⟨g, 10, none⟩ = some (.slice h.br.1 s.bk.rules.length h.br.2))
  (first | exact ⟨xc, p0, p1, p2, p3, p4, p5, p6, p7, p8⟩ | exact ⟨xd, r0, r1, r2, r3, r4, r5, r6, r7, r8⟩ | exact ⟨xe, s0, s1, s2, s3, s4, s5, s6, s7, s8⟩ | go_keep)
  (first
   | (go_at_call 74; (with_reducible refine (HTX.out _ c3.drew).mono ?_); rintro e w4 ⟨rfl, d4⟩; have c4 := c3.drew.trans (d4.mono c3.drew.size); have P4 := HP.out _ c4; have xd := ((d4.cell (p := ⟨b1, 0, none⟩) (Nat.lt_of_lt_of_le hb1 c3.size))).trans xc; have r0 := P4.cLen; have r1 := P4.cRest; have r2 := P4.cClo; have r3 := P4.cN; have r4 := P4.cF; have r5 := P4.cK; have r6 := P4.cProps; have r7 := P4.cItems; have r8 := P4.cRules)
   | (go_at_call 55; (with_reducible refine (HPR.out _ c4).mono ?_); rintro e w5 ⟨g2, rfl, hk5⟩; have c5 := c4.trans (hk5.at_.mono c4.size); have P5 := HP.out _ c5; have xe := ((hk5.at_.cell (p := ⟨b1, 0, none⟩) (Nat.lt_of_lt_of_le hb1 c4.size))).trans xd; have s0 := P5.cLen; have s1 := P5.cRest; have s2 := P5.cClo; have s3 := P5.cN; have s4 := P5.cF; have s5 := P5.cK; have s6 := P5.cProps; have s7 := P5.cItems; have s8 := P5.cRules; have HQ := Lib.hid (show Calls Tryz.prog 148 #[.pointer (some ⟨g, 0, none⟩), .pointer (some ⟨g2, 0, none⟩)] w5 fun e w' => e = .returned (.bool true) ∧ Below w5.heap.size w5 w' by obtain ⟨F2, h2, hP2, _⟩ := hk5; exact oequal_any P5 hP2)))
 all_goals
  go_wp2_with (go_at_call 148; (with_reducible refine HQ.out.mono ?_); rintro e w6 ⟨rfl, d6⟩)
  go_ret2
  exact ⟨rfl, c5.trans (d6.mono c5.size)⟩
end
section
variable {N : Nat} {w : World} {F : Nat → Prop} {g : Nat} {h : Hd} {s : Of}
set_option maxHeartbeats 800000 in
theorem oAudit_any (hP : PO 0 N w F g h s) (hE : EnvA w) (hH : Hist s) :
  Calls Tryz.prog 57 #[.pointer (some ⟨g, 0, none⟩)] w fun e w' => e = .returned (.bool true) ∧ Below w.heap.size w w' := by
 obtain ⟨w2, hw2⟩ : ∃ w2, w.alloc (.cells #[.pointer (some ⟨g, 0, none⟩)] 35) = w2 := ⟨_, rfl⟩
 have hb2 : Below w.heap.size w w2 := by rw [← hw2]; exact (Below.refl _ w).alloc (Nat.le_refl _) _
 have b1 : Box w2 w.heap.size #[.pointer (some ⟨g, 0, none⟩)] := by rw [← hw2]; exact Box.new w _ _
 have x1 := b1.cell 0
 simp only [List.getElem?_toArray, List.getElem?_cons_zero, List.getElem?_cons_succ] at x1
 have hP2 := hP.below hb2
 have hgl := hP.gl
 have hg2 := hP2.gl
 have hl1 := b1.lt
 have hg7 := (hP2.lo _ hP2.gF).1
 have hE2 : EnvA (w2.setCell ⟨g, 0, none⟩ (.int .i32 1)) := (hE.below hb2).off ((Off.refl (fun k => k = g) w2).setCell (p := ⟨g, 0, none⟩) (.inl rfl) _) (fun k e => by omega)
 have hK : ∀ args w, (callFunc 144 args).run Tryz.prog w = .ok (.enter 144 args) w := enters_of Tryz.func144 (by kernel_rfl) rfl
 have hcl := lockedBo_any hP2 (K := 144) (caps := #[.pointer (some ⟨w.heap.size, 0, none⟩)]) (E := 0) (Q := fun v _ => v = .bool true) hK
  ((cAudit_any (hP2.lock rfl) hE2 hH ((b1.setg (by omega)).cell 0) (by simpa using hl1)).mono fun e w' hh => ⟨_, hh.1, rfl, by have := hh.2; rw [set_size] at this; exact this⟩)
 have HC := Lib.hid (hcl.mono fun e w' hh => hh.plain (V := .bool true) (fun _ _ hv => hv) fun hn => absurd rfl hn)
 clear hcl hK
 go_enter Tryz.func57, Tryz.ntmps57
 go_wp2_with (go_at_call 143; (with_reducible refine HC.out.mono ?_); rintro e w3 ⟨rfl, hb3⟩)
 go_ret
 exact ⟨rfl, hb2.trans (hb3.mono hb2.size)⟩
end
theorem KN.audit {w0 w : World} {N : Nat} {Z : Nat → Prop} {g : Nat} {s : Of} (hk : KN w0 N Z g s w) (hH : Hist s) :
  Calls Tryz.prog 57 #[.pointer (some ⟨g, 0, none⟩)] w fun e w' => e = .returned (.bool true) ∧ Below w.heap.size w w' := by
 obtain ⟨F, h, hP, hE, _⟩ := hk
 exact oAudit_any hP hE hH
section
variable {w0 w : World} {N g x : Nat} {s s' : Of}
theorem DN.equal (hd : DN w0 N g x s s w) : Calls Tryz.prog 54 #[.pointer (some ⟨g, 0, none⟩), .pointer (some ⟨x, 0, none⟩)] w fun e w' => e = .returned (.bool true) ∧ Below w.heap.size w w' := by
 obtain ⟨F, F', h, h', hd⟩ := hd
 exact equal_any hd.po hd.ro
end
set_option maxHeartbeats 3200000 in
theorem news_large {f : Fi} {w : World} (hf : f.In w) (hE : EnvA w) (t : Wd) (d : Int) (h : lrg f.t f.b = true) :
  Calls Tryz.prog 17 #[.agg f.cells, St t, .int .i64 d] w fun e w' => e = .returned (.bool true) ∧ Below w.heap.size w w' := by
 unfold Fi.cells
 obtain ⟨w2, hw2⟩ : ∃ w2, w.alloc (.cells #[.int .i64 f.t.len, .slice f.A1 f.t.rest.length f.c1, .slice f.A2 f.t.clo.length f.c2, .int .i64 f.c.n, .int .i64 f.c.f, .int .i64 f.c.k, .int .i64 f.b.props, .slice f.B1 f.b.items.length f.d1, .slice f.B2 f.b.rules.length f.d2] 32) = w2 := ⟨_, rfl⟩
 have hy : Below w.heap.size w w2 := by rw [← hw2]; exact (Below.refl _ w).alloc (Nat.le_refl _) _
 have b0 : Box w2 w.heap.size #[.int .i64 f.t.len, .slice f.A1 f.t.rest.length f.c1, .slice f.A2 f.t.clo.length f.c2, .int .i64 f.c.n, .int .i64 f.c.f, .int .i64 f.c.k, .int .i64 f.b.props, .slice f.B1 f.b.items.length f.d1, .slice f.B2 f.b.rules.length f.d2] := by rw [← hw2]; exact Box.new w _ _
 have HL := Lib.hid (fun (w' : World) (hb : Below w.heap.size w w') => large_any f.t f.c f.b (fun _ => True) f.A1 f.A2 f.B1 f.B2 f.c1 f.c2 f.d1 f.d2 f.hp f.hq f.hr w' (hf.below hb).bk)
 have x0 := b0.cell 0; have x1 := b0.cell 1; have x2 := b0.cell 2; have x3 := b0.cell 3; have x4 := b0.cell 4; have x5 := b0.cell 5; have x6 := b0.cell 6; have x7 := b0.cell 7; have x8 := b0.cell 8; simp only [List.getElem?_toArray, List.getElem?_cons_zero, List.getElem?_cons_succ] at x0 x1 x2 x3 x4 x5 x6 x7 x8
 rw [h] at HL
 go_enter Tryz.func17, Tryz.ntmps17
 go_wp2_with (first
  | (go_at_call 49; (with_reducible refine (oMeal_nil d _).mono ?_); rintro e wa ⟨rfl, ca0⟩; have ca := ca0)
  | (go_at_call 44; (with_reducible refine (oPortions_nil d _).mono ?_); rintro e wb ⟨rfl, cb0⟩; have cb := ca.trans (cb0.mono ca.size))
  | (go_at_call 46; (with_reducible refine (oServed_nil d _).mono ?_); rintro e wc ⟨rfl, cc0⟩; have cc := cb.trans (cc0.mono cb.size))
  | (go_at_call 41; (with_reducible refine (oLabel_nil t _).mono ?_); rintro e wd ⟨rfl, cd0⟩; have cd := cc.trans (cd0.mono cc.size))
  | (go_at_call 29; (with_reducible refine (oDue_nil d _).mono ?_); rintro e we ⟨rfl, ce0⟩; have ce := cd.trans (ce0.mono cd.size))
  | (go_at_call 25; (with_reducible refine (do_nil t _).mono ?_); rintro e ww ⟨rfl, rfl⟩)
  | (go_at_call 21; (with_reducible refine (oNow_nil _).mono ?_); rintro e wf ⟨rfl, cf0⟩; have cf := ce.trans (cf0.mono ce.size))
  | (go_at_call 47; (with_reducible refine (oDishes_nil _).mono ?_); rintro e wg ⟨rfl, cg0⟩; have cg := cf.trans (cg0.mono cf.size))
  | (go_at_call 26; (with_reducible refine (oEaters_nil _).mono ?_); rintro e wh ⟨rfl, ch0⟩; have ch := cg.trans (ch0.mono cg.size))
  | (go_at_call 24; (with_reducible refine (oFacts_nil _).mono ?_); rintro e wi ⟨rfl, ci0⟩; have ci := ch.trans (ci0.mono ch.size))
  | (go_at_call 23; (with_reducible refine (oBook_nil _).mono ?_); rintro e wj ⟨rfl, cj0⟩; have cj := ci.trans (cj0.mono ci.size))
  | (go_at_call 57; (with_reducible refine (oAudit_nil _).mono ?_); rintro e wk ⟨rfl, ck0⟩; have ck := cj.trans (ck0.mono cj.size); have b3 := b0.below ck; have hy3 := hy.trans (ck.mono hy.size); have y0 := b3.cell 0; have y1 := b3.cell 1; have y2 := b3.cell 2; have y3 := b3.cell 3; have y4 := b3.cell 4; have y5 := b3.cell 5; have y6 := b3.cell 6; have y7 := b3.cell 7; have y8 := b3.cell 8; simp only [List.getElem?_toArray, List.getElem?_cons_zero, List.getElem?_cons_succ] at y0 y1 y2 y3 y4 y5 y6 y7 y8)
  | (go_at_call 34; (with_reducible refine (HL.out _ hy3).mono ?_); rintro e w4 ⟨rfl, hb4⟩; have b4 := b3.below hb4; have hy4 := hy3.trans (hb4.mono hy3.size); have z0 := b4.cell 0; have z1 := b4.cell 1; have z2 := b4.cell 2; have z3 := b4.cell 3; have z4 := b4.cell 4; have z5 := b4.cell 5; have z6 := b4.cell 6; have z7 := b4.cell 7; have z8 := b4.cell 8; simp only [List.getElem?_toArray, List.getElem?_cons_zero, List.getElem?_cons_succ] at z0 z1 z2 z3 z4 z5 z6 z7 z8)
  | (go_at_call 31; (with_reducible refine (oknown_any (hE.below hy4)).mono ?_); rintro e wz ⟨rfl, hbk⟩))
 go_ret
 exact ⟨rfl, hy4.trans (hbk.mono hy4.size)⟩
set_option maxHeartbeats 3200000 in
theorem news_bad {f : Fi} {w : World} (hf : f.In w) (hE : EnvA w) (t : Wd) (d : Int) (h : lrg f.t f.b = false) (hz : f.e ≠ 0) :
  Calls Tryz.prog 17 #[.agg f.cells, St t, .int .i64 d] w fun e w' => e = .returned (.bool true) ∧ Below w.heap.size w w' := by
 unfold Fi.cells
 obtain ⟨w2, hw2⟩ : ∃ w2, w.alloc (.cells #[.int .i64 f.t.len, .slice f.A1 f.t.rest.length f.c1, .slice f.A2 f.t.clo.length f.c2, .int .i64 f.c.n, .int .i64 f.c.f, .int .i64 f.c.k, .int .i64 f.b.props, .slice f.B1 f.b.items.length f.d1, .slice f.B2 f.b.rules.length f.d2] 32) = w2 := ⟨_, rfl⟩
 have hy : Below w.heap.size w w2 := by rw [← hw2]; exact (Below.refl _ w).alloc (Nat.le_refl _) _
 have b0 : Box w2 w.heap.size #[.int .i64 f.t.len, .slice f.A1 f.t.rest.length f.c1, .slice f.A2 f.t.clo.length f.c2, .int .i64 f.c.n, .int .i64 f.c.f, .int .i64 f.c.k, .int .i64 f.b.props, .slice f.B1 f.b.items.length f.d1, .slice f.B2 f.b.rules.length f.d2] := by rw [← hw2]; exact Box.new w _ _
 have HL := Lib.hid (fun (w' : World) (hb : Below w.heap.size w w') => large_any f.t f.c f.b (fun _ => True) f.A1 f.A2 f.B1 f.B2 f.c1 f.c2 f.d1 f.d2 f.hp f.hq f.hr w' (hf.below hb).bk)
 have x0 := b0.cell 0; have x1 := b0.cell 1; have x2 := b0.cell 2; have x3 := b0.cell 3; have x4 := b0.cell 4; have x5 := b0.cell 5; have x6 := b0.cell 6; have x7 := b0.cell 7; have x8 := b0.cell 8; simp only [List.getElem?_toArray, List.getElem?_cons_zero, List.getElem?_cons_succ] at x0 x1 x2 x3 x4 x5 x6 x7 x8
 rw [h] at HL
 have hlen := lrg_len h
 have HB := Lib.hid (fun (w' : World) (hb : Below w.heap.size w w') => begin_bad (hf.below hb) hlen (hE.below hb) hz)
 have HF := Lib.hid (fun (w' : World) (hb : Below w.heap.size w w') => failed_any (hf.below hb) hlen (hE.below hb) hz)
 unfold Fi.cells at HB HF
 clear hz h
 go_enter Tryz.func17, Tryz.ntmps17
 go_wp2_with (first
  | (go_at_call 49; (with_reducible refine (oMeal_nil d _).mono ?_); rintro e wa ⟨rfl, ca0⟩; have ca := ca0)
  | (go_at_call 44; (with_reducible refine (oPortions_nil d _).mono ?_); rintro e wb ⟨rfl, cb0⟩; have cb := ca.trans (cb0.mono ca.size))
  | (go_at_call 46; (with_reducible refine (oServed_nil d _).mono ?_); rintro e wc ⟨rfl, cc0⟩; have cc := cb.trans (cc0.mono cb.size))
  | (go_at_call 41; (with_reducible refine (oLabel_nil t _).mono ?_); rintro e wd ⟨rfl, cd0⟩; have cd := cc.trans (cd0.mono cc.size))
  | (go_at_call 29; (with_reducible refine (oDue_nil d _).mono ?_); rintro e we ⟨rfl, ce0⟩; have ce := cd.trans (ce0.mono cd.size))
  | (go_at_call 25; (with_reducible refine (do_nil t _).mono ?_); rintro e ww ⟨rfl, rfl⟩)
  | (go_at_call 21; (with_reducible refine (oNow_nil _).mono ?_); rintro e wf ⟨rfl, cf0⟩; have cf := ce.trans (cf0.mono ce.size))
  | (go_at_call 47; (with_reducible refine (oDishes_nil _).mono ?_); rintro e wg ⟨rfl, cg0⟩; have cg := cf.trans (cg0.mono cf.size))
  | (go_at_call 26; (with_reducible refine (oEaters_nil _).mono ?_); rintro e wh ⟨rfl, ch0⟩; have ch := cg.trans (ch0.mono cg.size))
  | (go_at_call 24; (with_reducible refine (oFacts_nil _).mono ?_); rintro e wi ⟨rfl, ci0⟩; have ci := ch.trans (ci0.mono ch.size))
  | (go_at_call 23; (with_reducible refine (oBook_nil _).mono ?_); rintro e wj ⟨rfl, cj0⟩; have cj := ci.trans (cj0.mono ci.size))
  | (go_at_call 57; (with_reducible refine (oAudit_nil _).mono ?_); rintro e wk ⟨rfl, ck0⟩; have ck := cj.trans (ck0.mono cj.size); have b3 := b0.below ck; have hy3 := hy.trans (ck.mono hy.size); have y0 := b3.cell 0; have y1 := b3.cell 1; have y2 := b3.cell 2; have y3 := b3.cell 3; have y4 := b3.cell 4; have y5 := b3.cell 5; have y6 := b3.cell 6; have y7 := b3.cell 7; have y8 := b3.cell 8; simp only [List.getElem?_toArray, List.getElem?_cons_zero, List.getElem?_cons_succ] at y0 y1 y2 y3 y4 y5 y6 y7 y8)
  | (go_at_call 34; (with_reducible refine (HL.out _ hy3).mono ?_); rintro e w4 ⟨rfl, hb4⟩; have b4 := b3.below hb4; have hy4 := hy3.trans (hb4.mono hy3.size); have z0 := b4.cell 0; have z1 := b4.cell 1; have z2 := b4.cell 2; have z3 := b4.cell 3; have z4 := b4.cell 4; have z5 := b4.cell 5; have z6 := b4.cell 6; have z7 := b4.cell 7; have z8 := b4.cell 8; simp only [List.getElem?_toArray, List.getElem?_cons_zero, List.getElem?_cons_succ] at z0 z1 z2 z3 z4 z5 z6 z7 z8)
  | (go_at_call 36; (with_reducible refine (HB.out _ hy4).mono ?_); rintro e w5 ⟨rfl, hb5⟩; have b5 := b4.below hb5; have hy5 := hy4.trans (hb5.mono hy4.size); have v0 := b5.cell 0; have v1 := b5.cell 1; have v2 := b5.cell 2; have v3 := b5.cell 3; have v4 := b5.cell 4; have v5 := b5.cell 5; have v6 := b5.cell 6; have v7 := b5.cell 7; have v8 := b5.cell 8; simp only [List.getElem?_toArray, List.getElem?_cons_zero, List.getElem?_cons_succ] at v0 v1 v2 v3 v4 v5 v6 v7 v8)
  | (go_at_call 37; (with_reducible refine (HF.out _ hy5).mono ?_); rintro e w6 ⟨rfl, hb6⟩))
 go_ret
 exact ⟨rfl, hy5.trans (hb6.mono hy5.size)⟩
set_option maxHeartbeats 3200000 in
theorem news_ok {f : Fi} {w : World} (hf : f.In w) (hE : EnvA w) (t : Wd) (d : Int) (h : lrg f.t f.b = false) (hz : f.e = 0) :
  Calls Tryz.prog 17 #[.agg f.cells, St t, .int .i64 d] w fun e w' => e = .returned (.bool true) ∧ Below w.heap.size w w' := by
 unfold Fi.cells
 obtain ⟨w2, hw2⟩ : ∃ w2, w.alloc (.cells #[.int .i64 f.t.len, .slice f.A1 f.t.rest.length f.c1, .slice f.A2 f.t.clo.length f.c2, .int .i64 f.c.n, .int .i64 f.c.f, .int .i64 f.c.k, .int .i64 f.b.props, .slice f.B1 f.b.items.length f.d1, .slice f.B2 f.b.rules.length f.d2] 32) = w2 := ⟨_, rfl⟩
 have hy : Below w.heap.size w w2 := by rw [← hw2]; exact (Below.refl _ w).alloc (Nat.le_refl _) _
 have b0 : Box w2 w.heap.size #[.int .i64 f.t.len, .slice f.A1 f.t.rest.length f.c1, .slice f.A2 f.t.clo.length f.c2, .int .i64 f.c.n, .int .i64 f.c.f, .int .i64 f.c.k, .int .i64 f.b.props, .slice f.B1 f.b.items.length f.d1, .slice f.B2 f.b.rules.length f.d2] := by rw [← hw2]; exact Box.new w _ _
 have HL := Lib.hid (fun (w' : World) (hb : Below w.heap.size w w') => large_any f.t f.c f.b (fun _ => True) f.A1 f.A2 f.B1 f.B2 f.c1 f.c2 f.d1 f.d2 f.hp f.hq f.hr w' (hf.below hb).bk)
 have x0 := b0.cell 0; have x1 := b0.cell 1; have x2 := b0.cell 2; have x3 := b0.cell 3; have x4 := b0.cell 4; have x5 := b0.cell 5; have x6 := b0.cell 6; have x7 := b0.cell 7; have x8 := b0.cell 8; simp only [List.getElem?_toArray, List.getElem?_cons_zero, List.getElem?_cons_succ] at x0 x1 x2 x3 x4 x5 x6 x7 x8
 rw [h] at HL
 have hlen := lrg_len h
 have HB := Lib.hid (fun (w' : World) (hb : Below w.heap.size w w') => begin_ok (hf.below hb) hlen (hE.below hb) hz)
 unfold Fi.cells at HB
 have hH : Hist f.s0 := Hist.new _ _ _
 clear hz h
 go_enter Tryz.func17, Tryz.ntmps17
 go_wp2_with (first
  | (go_at_call 49; (with_reducible refine (oMeal_nil d _).mono ?_); rintro e wa ⟨rfl, ca0⟩; have ca := ca0)
  | (go_at_call 44; (with_reducible refine (oPortions_nil d _).mono ?_); rintro e wb ⟨rfl, cb0⟩; have cb := ca.trans (cb0.mono ca.size))
  | (go_at_call 46; (with_reducible refine (oServed_nil d _).mono ?_); rintro e wc ⟨rfl, cc0⟩; have cc := cb.trans (cc0.mono cb.size))
  | (go_at_call 41; (with_reducible refine (oLabel_nil t _).mono ?_); rintro e wd ⟨rfl, cd0⟩; have cd := cc.trans (cd0.mono cc.size))
  | (go_at_call 29; (with_reducible refine (oDue_nil d _).mono ?_); rintro e we ⟨rfl, ce0⟩; have ce := cd.trans (ce0.mono cd.size))
  | (go_at_call 25; (with_reducible refine (do_nil t _).mono ?_); rintro e ww ⟨rfl, rfl⟩)
  | (go_at_call 21; (with_reducible refine (oNow_nil _).mono ?_); rintro e wf ⟨rfl, cf0⟩; have cf := ce.trans (cf0.mono ce.size))
  | (go_at_call 47; (with_reducible refine (oDishes_nil _).mono ?_); rintro e wg ⟨rfl, cg0⟩; have cg := cf.trans (cg0.mono cf.size))
  | (go_at_call 26; (with_reducible refine (oEaters_nil _).mono ?_); rintro e wh ⟨rfl, ch0⟩; have ch := cg.trans (ch0.mono cg.size))
  | (go_at_call 24; (with_reducible refine (oFacts_nil _).mono ?_); rintro e wi ⟨rfl, ci0⟩; have ci := ch.trans (ci0.mono ch.size))
  | (go_at_call 23; (with_reducible refine (oBook_nil _).mono ?_); rintro e wj ⟨rfl, cj0⟩; have cj := ci.trans (cj0.mono ci.size))
  | (go_at_call 57; (with_reducible refine (oAudit_nil _).mono ?_); rintro e wk ⟨rfl, ck0⟩; have ck := cj.trans (ck0.mono cj.size); have b3 := b0.below ck; have hy3 := hy.trans (ck.mono hy.size); have y0 := b3.cell 0; have y1 := b3.cell 1; have y2 := b3.cell 2; have y3 := b3.cell 3; have y4 := b3.cell 4; have y5 := b3.cell 5; have y6 := b3.cell 6; have y7 := b3.cell 7; have y8 := b3.cell 8; simp only [List.getElem?_toArray, List.getElem?_cons_zero, List.getElem?_cons_succ] at y0 y1 y2 y3 y4 y5 y6 y7 y8)
  | (go_at_call 34; (with_reducible refine (HL.out _ hy3).mono ?_); rintro e w4 ⟨rfl, hb4⟩; have b4 := b3.below hb4; have hy4 := hy3.trans (hb4.mono hy3.size); have z0 := b4.cell 0; have z1 := b4.cell 1; have z2 := b4.cell 2; have z3 := b4.cell 3; have z4 := b4.cell 4; have z5 := b4.cell 5; have z6 := b4.cell 6; have z7 := b4.cell 7; have z8 := b4.cell 8; simp only [List.getElem?_toArray, List.getElem?_cons_zero, List.getElem?_cons_succ] at z0 z1 z2 z3 z4 z5 z6 z7 z8)
  | (go_at_call 36; (with_reducible refine (HB.out _ hy4).mono ?_); rintro e w5 ⟨g, x, rfl, hd5⟩; have HQ := Lib.hid hd5.equal)
  | (go_at_call 54; (with_reducible refine HQ.out.mono ?_); rintro e w6 ⟨rfl, hb6⟩; have hd6 := hd5.below hb6; have HA := Lib.hid (hd6.kn.audit hH))
  | (go_at_call 57; (with_reducible refine HA.out.mono ?_); rintro e w7 ⟨rfl, hb7⟩; have hd7 := hd6.below hb7; have hy7 := hy4.trans (hd7.bel.mono hy4.size))
  | (go_at_call 31; (with_reducible refine (oknown_any (hE.below hy7)).mono ?_); rintro e wz ⟨rfl, hbk⟩))
 go_ret
 exact ⟨rfl, hy7.trans (hbk.mono hy7.size)⟩
theorem officeNews_any {f : Fi} {w : World} (hf : f.In w) (hE : EnvA w) (t : Wd) (d : Int) :
  Calls Tryz.prog 17 #[.agg f.cells, St t, .int .i64 d] w fun e w' => e = .returned (.bool true) ∧ Below w.heap.size w w' := by
 cases h : lrg f.t f.b with
 | true => exact news_large hf hE t d h
 | false =>
  by_cases hz : f.e = 0
  ·exact news_ok hf hE t d h hz
  ·exact news_bad hf hE t d h hz
end Go.Proofs.YtiapkffihpgdcaaGreatDoor
namespace Go.Proofs.YtiapkffihpgdcaaGreatDoor
open Go.ChangeShapes Go.WideShapes Go.ChangeAt Go.RowKit Go.Deep Go.Joins
theorem officeNews_env {W : World} (hL : laidMetH Tryz.prog Rows.officeNewsRow.laid W) (hs : W.ShapedOpen Tryz.prog) : EnvA W := by
 obtain ⟨h1, h2⟩ := plain_met (Lp := plainL) (by kernel_rfl) (by kernel_rfl) hL
 exact env_of h1 (by simp [plainL]) (by simp [plainL]) h2 hs
theorem officeNews_lifted (os : Os) (started : os.Started) (H : Type) (enc : TypeId × Value → H) :
  ReturnsInHanded {} Tryz.checked os 17 .any (fun w args => (Rows.officeNewsSpec.pre enc Tryz.prog Tryz.f17 [] false w args ∧ laidMetH Tryz.prog Rows.officeNewsRow.laid w) ∧ sizedMet enc Tryz.prog Tryz.f17 (OpenSpec.ofChange Rows.officeNewsSpec) false w args)
   (Rows.officeNewsSpec.post enc Tryz.prog Tryz.f17 false true false false) := by
 refine handed_shaped (C := Tryz.checked) (X := fun w _ => laidMetH Tryz.prog Rows.officeNewsRow.laid w) (fun _ _ _ hh h => h.of_heap hh) own_ started (by kernel_rfl) Tryz.func17
  (ChangeSpec.witness_shaped (enc := enc) (C := Tryz.checked) (os := os) (X := fun w _ => laidMetH Tryz.prog Rows.officeNewsRow.laid w) false (witW os plainL) #[.agg #[.int .i64 0, .slice none 0 0, .slice none 0 0, .int .i64 0, .int .i64 0, .int .i64 0, .int .i64 0, .slice none 0 0, .slice none 0 0], .string ⟨#[]⟩, .int .i64 0] 8 (by unfold witW; rw [World.layVars_os]; rfl)
   (World.shaped_of_ZipB (by kernel_rfl) (by kernel_rfl)) (by kernel_rfl) (by kernel_rfl) (by kernel_rfl)
   (laidMetH_of_parts (by rw [show (Rows.officeNewsRow.laid.filter fun x => x.2.handleName?.isNone) = plainL by kernel_rfl]; exact witW_met _ (by kernel_rfl) (by kernel_rfl)) (by kernel_rfl))) ?_
 intro W base args ds gs before hval0 hW hS hL
 have hval : ∀ (j : Nat) t v, Tryz.f17.params[j]? = some t → args[j]? = some v → Value.okWide Tryz.prog W .any base t v := hval0
 have hW' := hW
 obtain ⟨p, q, hA0, hV, rfl, hfz, hnd⟩ := hW
 have hA : DataW.TrodAll enc Tryz.prog W 0 (fun _ => true) true Tryz.f17.params.toList args.toList ds p := hA0
 rw [Tryz.params17] at hA hval
 obtain ⟨v0, v1, v2, d0, d1, d2, p0, p1, p2, rfl, rfl, rfl, h0, h1, h2⟩ := trodAll_three hA
 obtain ⟨f, rfl, hf⟩ := open_firm (hval 0 _ v0 rfl rfl) h0
 obtain ⟨s, rfl, -, -, ws⟩ := Go.ChangeMaps.open_string Tryz.underlying9 (hval 1 _ v1 rfl rfl) h1
 have hsz : s.data.toList.length ≤ 9223372036854775807 := by unfold maxLen at ws; simpa using ws
 obtain ⟨n2, rfl, -, -, wn2⟩ := Go.ChangeShapes.open_int Tryz.underlying3 (hval 2 _ v2 rfl rfl) h2
 refine (officeNews_any hf (officeNews_env hL hS) s.data.toList n2).mono fun e W' ⟨he, hb⟩ => ?_
 subst he
 exact ⟨_, rfl, law_post hW' rfl (by kernel_rfl) rfl (by rw [Tryz.params17]; intro t ht; simp at ht; rcases ht with rfl | rfl | rfl <;> exact ⟨by kernel_rfl, of_decide_eq_true (by kernel_rfl)⟩) hb⟩
set_option maxHeartbeats 4000000 in
theorem officeNews_closed : joinedFacts Tryz.prog 17 Tryz.f17 Rows.officeNewsSpec Rows.officeNewsRow = true := by
 unfold joinedFacts
 simp only [Bool.and_eq_true]
 repeat' apply And.intro
 all_goals (as_aux_lemma => kernel_rfl)
set_option maxHeartbeats 4000000 in
theorem officeNews_wrap : Tryz.f17.isWrapper Tryz.prog Rows.officeNewsRow.wrapper Rows.officeNewsRow.mainSum := by
 unfold Func.isWrapper; first | (rw [if_pos (by decide +kernel)]; kernel_rfl) | (rw [if_neg (by decide +kernel)]; exact ⟨rfl, rfl⟩)
theorem officeNews_named : Tryz.prog.funcNamed Rows.officeNewsRow.func = some 17 := by kernel_rfl
theorem officeNews_inst : Tryz.f17.isInstance Tryz.prog Rows.officeNewsRow.origin Rows.officeNewsRow.targs := of_decide_eq_true (by kernel_rfl)
set_option maxHeartbeats 4000000 in
theorem officeNews_row : Rows.OfficeNewsSaid :=
 OpenClaim.holds_of_wide 17 Tryz.f17 rfl rfl rfl rfl rfl rfl rfl ⟨rfl, rfl, rfl, rfl, rfl⟩ rfl rfl rfl rfl rfl officeNews_named Tryz.func17 officeNews_closed
  officeNews_inst officeNews_wrap
  (fun os started H enc _ => officeNews_lifted os started H enc)
theorem officeNews_wfT : Rows.officeNewsRow.wfByText (OpenSpec.ofChange Rows.officeNewsSpec) = true := by kernel_rfl
theorem office_main : Tryz.pinned.checked.prog.mainIs = some (true, "5a9a52965f4185065c0d39a39ec58f829537e604a07fc4f1dbce9d7d2d17f592".toList) := by kernel_rfl
theorem office_looks : true = Tryz.pinned.checked.prog.looks [] := by kernel_rfl
theorem officeNews_goes : false = Rows.officeNewsRow.goesBy Tryz.pinned.checked.prog := by kernel_rfl
theorem officeNews_stand : ([32, 9, 3].all fun u => !Tryz.prog.wantsStandIn u) = true := by kernel_rfl
set_option maxHeartbeats 4000000 in
theorem officeNews_holds : Rows.OfficeNewsCardSaid :=
 Claim7.holds_tied_plain_at .later [] [.data, .data, .data, .handle, .pinned] true (true, "5a9a52965f4185065c0d39a39ec58f829537e604a07fc4f1dbce9d7d2d17f592") true
  officeNews_row (fun _ h => by cases h) officeNews_wfT (fun _ h => by cases h) officeNews_row_tie rfl ⟨rfl, rfl⟩ office_main rfl
  (fun f fn hf hfn => by
   obtain rfl : f = 17 := Option.some.inj (officeNews_named.symm.trans hf) |>.symm
   obtain rfl : fn = Tryz.f17 := (Option.some.inj (Tryz.func17.symm.trans hfn)).symm
   exact ⟨office_looks, fun j t ht => by
    rw [Tryz.params17] at ht
    have hm : t ∈ [32, 9, 3] := by simpa using Array.mem_of_getElem? ht
    exact (show Tryz.prog.wantsStandIn t = false by simpa using List.all_eq_true.1 officeNews_stand t hm)⟩)
  officeNews_goes
end Go.Proofs.YtiapkffihpgdcaaGreatDoor
