/-
  The walk of the law TermTogether.
-/
import Derived.Test.YtlnmmkgeahlohaaDoorM
namespace Go.Proofs.YtlnmmkgeahlohaaDoor
set_option linter.unusedVariables false
set_option linter.unusedSimpArgs false
open Go.RowKit

def Three (w : World) (g : Nat) (c : Cy) : Prop := g < w.heap.size ∧ w.cell? ⟨g, 0, none⟩ = some (.int .i64 c.n) ∧ w.cell? ⟨g, 1, none⟩ = some (.int .i64 c.f) ∧ w.cell? ⟨g, 2, none⟩ = some (.int .i64 c.k)
theorem Three.of_box {w : World} {g : Nat} {c : Cy} (h : Box w g #[.int .i64 c.n, .int .i64 c.f, .int .i64 c.k]) : Three w g c := ⟨h.lt, by rw [h.cell]; rfl, by rw [h.cell]; rfl, by rw [h.cell]; rfl⟩
theorem Box.drew {w : World} {g : Nat} {cs : Array Value} (h : Box w g cs) : Box w.drew g cs := ⟨h.lt, h.cell, h.free⟩
theorem Three.below {w w' : World} {g : Nat} {c : Cy} (h : Three w g c) (hb : Below w.heap.size w w') : Three w' g c :=
  ⟨Nat.lt_of_lt_of_le h.1 hb.size, (hb.cell (p := ⟨g, 0, none⟩) h.1).trans h.2.1, (hb.cell (p := ⟨g, 1, none⟩) h.1).trans h.2.2.1, (hb.cell (p := ⟨g, 2, none⟩) h.1).trans h.2.2.2⟩

end Go.Proofs.YtlnmmkgeahlohaaDoor
