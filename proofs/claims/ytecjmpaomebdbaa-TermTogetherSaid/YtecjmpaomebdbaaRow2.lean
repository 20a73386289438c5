/-
  Two cycles that come in as one value.
-/
import Derived.Test.YtecjmpaomebdbaaRow
namespace Go.Proofs.Ytecjmpaomebdbaa
set_option linter.unusedVariables false
set_option linter.unusedSimpArgs false
open Go.ChangeShapes Go.WideShapes Go.ChangeAt Go.RowKit Go.Deep Go.Joins

section
variable {H : Type} {enc : TypeId × Value → H} {W : World}
set_option maxRecDepth 100000 in
theorem cells_cycle {cs : List Value} {x : DataW H × List MemPlace} {fuel : Nat} (h : DataW.trod enc Try.prog W 0 (fun _ => true) true fuel 26 cs = some x) : ∃ c : Cy, cs = [.int .i64 c.n, .int .i64 c.f, .int .i64 c.k] := by
  obtain ⟨xs, n, -, -, hl, hxl, hf⟩ := DataW.trod_struct Try.underlying26 h
  have hC : Try.prog.cellsOf 26 = 3 := by kernel_rfl
  have hI : Try.prog.cellsOf 3 = 1 := by kernel_rfl
  rw [hC] at hl
  match cs, hl with
  | [v0, v1, v2], _ =>
    match xs, hxl with
    | [y0, y1, y2], _ =>
      have f0 : DataW.trod enc Try.prog W 0 (fun _ => true) true n 3 [v0] = some y0 := by have := hf 0 _ rfl; simpa [hI] using this
      have f1 : DataW.trod enc Try.prog W 0 (fun _ => true) true n 3 [v1] = some y1 := by have := hf 1 _ rfl; simpa [hI] using this
      have f2 : DataW.trod enc Try.prog W 0 (fun _ => true) true n 3 [v2] = some y2 := by have := hf 2 _ rfl; simpa [hI] using this
      obtain ⟨x0, e0, -, -⟩ := DataW.trod_int Try.underlying3 f0
      obtain ⟨x1, e1, -, -⟩ := DataW.trod_int Try.underlying3 f1
      obtain ⟨x2, e2, -, -⟩ := DataW.trod_int Try.underlying3 f2
      simp only [List.cons.injEq, and_true] at e0 e1 e2
      subst e0 e1 e2
      exact ⟨⟨x0, x1, x2⟩, rfl⟩
set_option maxRecDepth 100000 in
theorem open_wheels {v : Value} {d : DataW H} {p : List MemPlace} {r : Reach} {b0 : Nat} (hok : Value.okWide Try.prog W r b0 59 v) (h : DataW.Trod enc Try.prog W 0 (fun _ => true) true 59 v d p) :
    ∃ a b : Cy, v = .agg #[.int .i64 a.n, .int .i64 a.f, .int .i64 a.k, .int .i64 b.n, .int .i64 b.f, .int .i64 b.k] := by
  obtain ⟨cs, rfl, hsz⟩ := okWide_struct Try.underlying59 hok
  obtain ⟨l⟩ := cs
  have hC : Try.prog.cellsOf 59 = 6 := by kernel_rfl
  have hI : Try.prog.cellsOf 26 = 3 := by kernel_rfl
  match l, hsz.trans hC with
  | [v0, v1, v2, v3, v4, v5], _ =>
    obtain ⟨fuel, hf0⟩ := h
    obtain ⟨xs, n, -, -, -, hxl, hf⟩ := DataW.trod_struct Try.underlying59 hf0
    match xs, hxl with
    | [y0, y1], _ =>
      have f0 : DataW.trod enc Try.prog W 0 (fun _ => true) true n 26 [v0, v1, v2] = some y0 := by have := hf 0 _ rfl; simpa [hI, Value.cells] using this
      have f1 : DataW.trod enc Try.prog W 0 (fun _ => true) true n 26 [v3, v4, v5] = some y1 := by have := hf 1 _ rfl; simpa [hI, Value.cells] using this
      obtain ⟨a, e0⟩ := cells_cycle f0
      obtain ⟨b, e1⟩ := cells_cycle f1
      simp only [List.cons.injEq, and_true] at e0 e1
      obtain ⟨rfl, rfl, rfl⟩ := e0
      obtain ⟨rfl, rfl, rfl⟩ := e1
      exact ⟨a, b, rfl⟩
end

end Go.Proofs.Ytecjmpaomebdbaa
