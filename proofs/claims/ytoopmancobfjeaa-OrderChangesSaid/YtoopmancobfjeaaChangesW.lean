/-
  The walk of the law OrderChanges.
-/
import Derived.Test.YtoopmancobfjeaaG
namespace Go.Proofs.Ytoopmancobfjeaa
set_option linter.unusedVariables false
set_option linter.unusedSimpArgs false
open Go.RowKit

set_option maxRecDepth 100000 in
set_option maxHeartbeats 800000 in
theorem orderChanges_any (l : List Fact) (b t child : Int) (A : Option Addr) (c B : Nat) (hc : l.length ≤ c) (w : World) (hR : RF w B A l) :
    Calls Try.prog 4 #[.slice A l.length c, .agg #[.int .i64 b, .int .i64 t, .int .i64 child]] w fun e w' => e = .returned (.bool true) ∧ Below w.heap.size w w' := by
  go_enter Try.func4, Try.ntmps4
  go_wp2_with fail
  refine (long_any l A c _).mono ?_
  rintro e w1 ⟨rfl, rfl⟩
  have hb0 : Below w.heap.size w (w.alloc (.cells #[.int .i64 b, .int .i64 t, .int .i64 child] 34)) := (Below.refl _ _).alloc (Nat.le_refl _) _
  by_cases h200 : 200 < l.length
  · have h2 : decide (200 < l.length) = true := decide_eq_true h200
    go_wp2_with fail
    refine (known_any _).mono ?_
    rintro e w2 ⟨rfl, hb2⟩
    go_wp2
    go_ret
    exact ⟨rfl, hb0.trans (hb2.mono hb0.size)⟩
  · have h2 : decide (200 < l.length) = false := decide_eq_false h200
    have hl : l.length ≤ 1000000000 := by omega
    go_wp2_with fail
    refine (changedX_any l b t child hl A c B hc _ (hR.below hb0)).mono ?_
    rintro e w2 ⟨A1, c1, rfl, own1, hb2⟩
    obtain ⟨bx, _, _, _⟩ := blk_facts hb2 (by simp)
    have hb2' := hb0.trans (hb2.mono hb0.size)
    clear hb2
    go_wp2_with fail
    refine (rchangedX_any l b t child hl A c B _ (hR.below hb2')).mono ?_
    rintro e w3 ⟨A2, c2, rfl, own2, hb3⟩
    have hb3' := hb2'.trans (hb3.mono hb2'.size)
    have hs1 := RS.of_own (own1.kept hb3)
    have hs2 := RS.of_own own2
    have hlen : (changedR l b t child).length ≤ 1000000000 := by
      unfold changedR; split
      · have := spTo_len (fun d => knw l t child d) (fun d => decide (knw l b child d ≠ knw l t child d)) 1000; unfold changedL; omega
      · simp
    clear own1 own2 hb0 hb2' hb3
    go_wp2_with fail
    refine (sameSpans_any (changedR l b t child) (changedR l b t child) _ _ _ _ _ hs1 hs2 hlen hlen).mono ?_
    rintro e w4 ⟨rfl, hb4⟩
    rw [show decide (changedR l b t child = changedR l b t child) = true by simp]
    have hb4' := hb3'.trans (hb4.mono hb3'.size)
    go_wp2_with fail
    refine (known_any _).mono ?_
    rintro e w5 ⟨rfl, hb5⟩
    go_wp2
    go_ret
    exact ⟨rfl, hb4'.trans (hb5.mono hb4'.size)⟩

end Go.Proofs.Ytoopmancobfjeaa
