/-
  The walk of the law OrderTells.
-/
import Derived.Test.YtoopmancobfjeaaM
namespace Go.Proofs.Ytoopmancobfjeaa
set_option linter.unusedVariables false
set_option linter.unusedSimpArgs false
open Go.RowKit

theorem histR_le (l : List Fact) (c d : Int) : (histR l c d).length ≤ l.length := by
  unfold histR; split
  · exact histTo_le l c d l.length
  · simp
theorem untilR_le (l : List Fact) (t : Int) : (untilR l t).length ≤ l.length := by
  unfold untilR; split
  · exact untTo_le l t l.length
  · simp
theorem box_step {w w1 w2 : World} {cs : Array Value} {t : TypeId} (hx : Below (w.heap.size + 1) (w.alloc (.cells cs t)) w1) (hb : Below w1.heap.size w1 w2) : Below (w.heap.size + 1) (w.alloc (.cells cs t)) w2 :=
  hx.trans (hb.mono (by have := hx.size; simp at this; omega))
theorem box_first {w w2 : World} {cs : Array Value} {t : TypeId} (hb : Below (w.alloc (.cells cs t)).heap.size (w.alloc (.cells cs t)) w2) : Below (w.heap.size + 1) (w.alloc (.cells cs t)) w2 := by simpa using hb

set_option maxRecDepth 100000 in
set_option maxHeartbeats 1600000 in
theorem orderTells_any (l : List Fact) (t child day : Int) (A : Option Addr) (c B : Nat) (hc : l.length ≤ c) (w : World) (hR : RF w B A l) :
    Calls Try.prog 11 #[.slice A l.length c, .agg #[.int .i64 t, .int .i64 child, .int .i64 day]] w fun e w' => e = .returned (.bool true) ∧ Below w.heap.size w w' := by
  go_enter Try.func11, Try.ntmps11
  go_wp2_with fail
  refine (long_any l A c _).mono ?_
  rintro e w1 ⟨rfl, rfl⟩
  have hb0 : Below w.heap.size w (w.alloc (.cells #[.int .i64 t, .int .i64 child, .int .i64 day] 24)) := (Below.refl _ _).alloc (Nat.le_refl _) _
  by_cases h200 : 200 < l.length
  · have h2 : decide (200 < l.length) = true := decide_eq_true h200
    go_wp2_with fail
    refine (known_any _).mono ?_
    rintro e w2 ⟨rfl, hb2⟩
    go_wp2
    go_ret
    exact ⟨rfl, hb0.trans (hb2.mono hb0.size)⟩
  · have h2 : decide (200 < l.length) = false := decide_eq_false h200
    have hl : l.length ≤ 100000000 := by omega
    have hl9 : l.length ≤ 1000000000 := by omega
    have hh := histR_le l child day
    have hu := untilR_le l t
    go_wp2_with fail
    refine (historyX_any l child day hl A c B _ (hR.below hb0)).mono ?_
    rintro e w2 ⟨A1, c1, rfl, own1, hb2⟩
    have hx2 := box_first hb2
    obtain ⟨bx, _, _, hy2⟩ := blk_facts hx2 (by omega)
    clear hb2
    go_wp2_with fail
    refine (rhistoryX_any l child day hl A c B _ (hR.below hy2)).mono ?_
    rintro e w3 ⟨A2, c2, rfl, own2, hb3⟩
    have hx3 := box_step hx2 hb3
    have own1 := own1.kept hb3
    clear bx hb3 hx2 hy2
    obtain ⟨bx, _, _, hy3⟩ := blk_facts hx3 (by omega)
    go_wp2_with fail
    refine (untilX_any l t hl9 A c B hc _ (hR.below hy3)).mono ?_
    rintro e w4 ⟨A3, c3, rfl, own3, hb4⟩
    have hx4 := box_step hx3 hb4
    have own1 := own1.kept hb4
    have own2 := own2.kept hb4
    clear bx hb4 hx3 hy3
    obtain ⟨bx, _, _, hy4⟩ := blk_facts hx4 (by omega)
    go_wp2_with fail
    refine (runtilX_any l t hl A c B _ (hR.below hy4)).mono ?_
    rintro e w5 ⟨A4, c4, rfl, own4, hb5⟩
    have hx5 := box_step hx4 hb5
    have r1 := (own1.kept hb5).reads
    have r2 := (own2.kept hb5).reads
    have own3 := own3.kept hb5
    clear bx hb5 hx4 hy4 own1 own2
    obtain ⟨bx, _, _, hy5⟩ := blk_facts hx5 (by omega)
    have r3 := own3.reads
    have r4 := own4.reads
    have c3h := own3.cap
    clear own3 own4
    go_wp2_with fail
    refine (sameFacts_any (histR l child day) (histR l child day) _ _ _ _ _ _ _ r1 r2 (by omega) (by omega)).mono ?_
    rintro e w6 ⟨rfl, hb6⟩
    rw [show decide (histR l child day = histR l child day) = true by simp]
    have hx6 := box_step hx5 hb6
    have r3 := r3.below hb6
    have r4 := r4.below hb6
    clear bx hb6 hx5 hy5 r1 r2
    obtain ⟨bx, _, _, hy6⟩ := blk_facts hx6 (by omega)
    go_wp2_with fail
    refine (sameFacts_any (untilR l t) (untilR l t) _ _ _ _ _ _ _ r3 r4 (by omega) (by omega)).mono ?_
    rintro e w7 ⟨rfl, hb7⟩
    rw [show decide (untilR l t = untilR l t) = true by simp]
    have hx7 := box_step hx6 hb7
    have r3 := r3.below hb7
    clear bx hb7 hx6 hy6 r4
    obtain ⟨bx, _, _, hy7⟩ := blk_facts hx7 (by omega)
    go_wp2_with fail
    refine (knownX_any l t child day hl9 A c B hc _ (hR.below hy7)).mono ?_
    rintro e w8 ⟨rfl, hb8⟩
    have hx8 := box_step hx7 hb8
    have r3 := r3.below hb8
    clear bx hb8 hx7 hy7
    obtain ⟨bx, _, _, hy8⟩ := blk_facts hx8 (by omega)
    go_wp2_with fail
    refine (knownX_any (untilR l t) t child day (by omega) _ _ _ c3h _ r3).mono ?_
    rintro e w9 ⟨rfl, hb9⟩
    have hy9 := hy8.trans (hb9.mono hy8.size)
    clear bx hb9 hx8 hy8 r3
    by_cases hv : vld l = 0
    · obtain ⟨e1, e2, -⟩ := until_same hv t child day
      have hv0 : (vld l != 0) = false := by simp [hv]
      rw [e1, e2]
      clear e1 e2 hv
      go_wp2_with fail
      refine (known_any _).mono ?_
      rintro e w10 ⟨rfl, hb10⟩
      go_wp2
      go_ret
      exact ⟨rfl, hy9.trans (hb10.mono hy9.size)⟩
    · have hv0 : (vld l != 0) = true := by simp [hv]
      clear hv
      go_wp2_with fail
      refine (known_any _).mono ?_
      rintro e w10 ⟨rfl, hb10⟩
      go_wp2
      go_ret
      exact ⟨rfl, hy9.trans (hb10.mono hy9.size)⟩

end Go.Proofs.Ytoopmancobfjeaa
