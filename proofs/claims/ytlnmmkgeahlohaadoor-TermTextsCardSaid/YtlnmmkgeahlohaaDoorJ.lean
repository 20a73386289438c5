/-
  Walks: the cycle that begins with a later menu.
-/
import Derived.Test.YtlnmmkgeahlohaaDoorMenusW
import Derived.StillTailTactics
namespace Go.Proofs.YtlnmmkgeahlohaaDoor
set_option linter.unusedVariables false
set_option linter.unusedSimpArgs false
open Go.RowKit

/-- The cycle that begins with a later menu. -/
def turnC (c : Cy) (by_ : Int) : Cy := if cE c = 0 then ⟨c.n, (c.f + by_ % c.n) % c.n, c.k⟩ else ⟨0, 0, 0⟩
theorem turn_yes {c : Cy} {b : Int} (h : cE c = 0) : turnC c b = ⟨c.n, (c.f + b % c.n) % c.n, c.k⟩ := by unfold turnC; rw [if_pos h]
theorem turn_no {c : Cy} {b : Int} (h : ¬ cE c = 0) : turnC c b = ⟨0, 0, 0⟩ := by unfold turnC; rw [if_neg h]

theorem two_frozen {w wr : World} {cs1 cs2 : Array Value} {t1 t2 : TypeId} {n : Nat} (hb : Below n ((w.alloc (.cells cs1 t1)).alloc (.cells cs2 t2)) wr) (hn : w.heap.size + 1 < n) :
    (∀ j, wr.frozen? ⟨w.heap.size, j, none⟩ = false) ∧ (∀ j, wr.frozen? ⟨w.heap.size + 1, j, none⟩ = false) := by
  refine ⟨fun j => ?_, fun j => ?_⟩
  · rw [hb.frozen (p := ⟨w.heap.size, j, none⟩) (by show w.heap.size < n; omega)]; simp [go_sem]
  · rw [hb.frozen (p := ⟨w.heap.size + 1, j, none⟩) hn]; simp [go_sem]

end Go.Proofs.YtlnmmkgeahlohaaDoor
