/-
  The walk of the law OrderPays.
-/
import Derived.Test.YtoopmancobfjeaaU
namespace Go.Proofs.Ytoopmancobfjeaa
set_option linter.unusedVariables false
set_option linter.unusedSimpArgs false
open Go.RowKit

theorem two_blk {w wr : World} {cs1 cs2 : Array Value} {t1 t2 : TypeId} {n : Nat} (hb : Below n ((w.alloc (.cells cs1 t1)).alloc (.cells cs2 t2)) wr) (hn : w.heap.size + 1 < n) :
    (∀ j, wr.cell? ⟨w.heap.size, j, none⟩ = cs1[j]?) ∧ (∀ j, wr.cell? ⟨w.heap.size + 1, j, none⟩ = cs2[j]?) ∧ w.heap.size + 1 < wr.heap.size ∧ Below w.heap.size w wr := by
  refine ⟨fun j => ?_, fun j => ?_, by have := hb.size; simp at this; omega, (((Below.refl _ _).alloc (Nat.le_refl _) _).alloc (by simp) _).trans (hb.mono (by omega))⟩
  · rw [hb.cell (p := ⟨w.heap.size, j, none⟩) (by show w.heap.size < n; omega), World.cell?_alloc_lt _ _ _ (by simp)]; simp [World.cell?_alloc_at]
  · rw [hb.cell (p := ⟨w.heap.size + 1, j, none⟩) hn, World.cell?_alloc_at _ _ _ _ (by simp)]

set_option maxRecDepth 100000 in
set_option maxHeartbeats 3200000 in
theorem orderPays_any (l : List Fact) (r : List Sp) (p : List Int) (cut t c d : Int) (A1 A2 A3 : Option Addr) (c1 c2 c3 B : Nat) (hc1 : l.length ≤ c1) (w : World) (h1 : RF w B A1 l) (h2 : RS w A2 r) (h3 : RN w A3 p) :
    Calls Try.prog 12 #[.slice A1 l.length c1, .agg #[.slice A2 r.length c2, .slice A3 p.length c3, .int .i64 cut], .agg #[.int .i64 t, .int .i64 c, .int .i64 d]] w fun e w' => e = .returned (.bool true) ∧ Below w.heap.size w w' := by
  have hx0 : Below (w.heap.size + 2) ((w.alloc (.cells #[.slice A2 r.length c2, .slice A3 p.length c3, .int .i64 cut] 66)).alloc (.cells #[.int .i64 t, .int .i64 c, .int .i64 d] 24)) ((w.alloc (.cells #[.slice A2 r.length c2, .slice A3 p.length c3, .int .i64 cut] 66)).alloc (.cells #[.int .i64 t, .int .i64 c, .int .i64 d] 24)) := Below.refl _ _
  obtain ⟨bx, bY, _, hb0⟩ := two_blk hx0 (by omega)
  go_enter Try.func12, Try.ntmps12
  go_wp2_with fail
  refine (long_any l A1 c1 _).mono ?_
  rintro e w1 ⟨rfl, rfl⟩
  by_cases h200 : 200 < l.length
  · have d1 : decide (200 < l.length) = true := decide_eq_true h200
    go_wp2_with fail
    refine (known_any _).mono ?_
    rintro e w2 ⟨rfl, hb2⟩
    go_wp2
    go_ret
    exact ⟨rfl, hb0.trans (hb2.mono hb0.size)⟩
  · have d1 : decide (200 < l.length) = false := decide_eq_false h200
    have hl : l.length ≤ 1000000000 := by omega
    by_cases hr200 : 200 < r.length
    · go_wp2_with fail
      refine (known_any _).mono ?_
      rintro e w2 ⟨rfl, hb2⟩
      go_wp2
      go_ret
      exact ⟨rfl, hb0.trans (hb2.mono hb0.size)⟩
    · have hrl : r.length ≤ 1000000000 := by omega
      by_cases hp100 : 100 < p.length
      · go_wp2_with fail
        refine (known_any _).mono ?_
        rintro e w2 ⟨rfl, hb2⟩
        go_wp2
        go_ret
        exact ⟨rfl, hb0.trans (hb2.mono hb0.size)⟩
      · have hpl : p.length ≤ 1000000000 := by omega
        go_wp2_with fail
        refine (payX_any l r p cut c d hl hrl hpl A1 A2 A3 c1 c2 c3 B hc1 _ (h1.below hb0) (h2.below hb0) (h3.below hb0)).mono ?_
        rintro e w2 ⟨rfl, hc2⟩
        have hx1 := hx0.trans (hc2.mono (by have := hx0.size; simp at this; omega))
        clear bx bY hc2
        obtain ⟨bx, bY, _, hb1⟩ := two_blk hx1 (by omega)
        go_wp2_with fail
        refine (rpayX_any l r p cut c d hl hrl hpl A1 A2 A3 c1 c2 c3 B _ (h1.below hb1) (h2.below hb1) (h3.below hb1)).mono ?_
        rintro e w3 ⟨rfl, hc3⟩
        have hx2 := hx1.trans (hc3.mono (by have := hx1.size; simp at this; omega))
        clear bx bY hc3
        obtain ⟨bx, bY, _, hb2⟩ := two_blk hx2 (by omega)
        go_wp2_with fail
        refine (known_any _).mono ?_
        rintro e w6 ⟨rfl, hb6⟩
        go_wp2
        go_ret
        exact ⟨rfl, hb2.trans (hb6.mono hb2.size)⟩

end Go.Proofs.Ytoopmancobfjeaa
