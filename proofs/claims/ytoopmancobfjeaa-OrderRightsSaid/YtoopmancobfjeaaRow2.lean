/-
  Rows whose arguments hold rights and prices: how they come in.
-/
import Derived.Test.YtoopmancobfjeaaRow
import Derived.Test.YtoopmancobfjeaaS
import Derived.ChangeSlices
namespace Go.Proofs.Ytoopmancobfjeaa
set_option linter.unusedVariables false
set_option linter.unusedSimpArgs false
open Go.ChangeShapes Go.WideShapes Go.ChangeAt Go.RowKit Go.Deep Go.Joins

section
variable {H : Type} {enc : TypeId × Value → H} {W : World}
set_option maxRecDepth 100000 in
/-- A list of rights that comes in. -/
theorem open_rights {cs : List Value} {x : DataW H × List MemPlace} {fuel : Nat} (hf : DataW.trod enc Try.prog W 0 (fun _ => true) true fuel 64 cs = some x) :
    ∃ (l : List Sp) (A : Option Addr) (c : Nat), cs = [.slice A l.length c] ∧ l.length ≤ c ∧ RS W A l := by
  have hC : Try.prog.cellsOf 105 = 3 := by kernel_rfl
  rcases open_slice_fields Try.underlying64 Try.underlying105 (by kernel_rfl) hC hf with ⟨hcs, -⟩ | ⟨a, len, cap, m, D, Pl, hcs, -, hl, -, hm, -, hi⟩
  · exact ⟨[], none, 0, hcs, Nat.le_refl _, rfl, fun h => by cases h⟩
  · simp only [if_true] at hm
    subst hm
    have key : ∀ i, i < len → ∃ f : Sp, ∀ (j : Nat) u, f.vals[j]? = some u → W.cell? (a.add (i * 3 + j)) = some u := by
      intro i hil
      obtain ⟨ys, n, -, -, -, hf⟩ := hi i (by omega)
      obtain ⟨v0, y0, c0, -, t0⟩ := hf 0 _ rfl
      obtain ⟨v1, y1, c1, -, t1⟩ := hf 1 _ rfl
      obtain ⟨v2, y2, c2, -, t2⟩ := hf 2 _ rfl
      obtain ⟨x0, e0, -, -⟩ := DataW.trod_int Try.underlying3 t0
      obtain ⟨x1, e1, -, -⟩ := DataW.trod_int Try.underlying3 t1
      obtain ⟨x2, e2, -, -⟩ := DataW.trod_int Try.underlying3 t2
      simp only [List.cons.injEq, and_true] at e0 e1 e2
      subst e0 e1 e2
      refine ⟨⟨x0, x1, x2⟩, fun j u hu => ?_⟩
      match j, hu with
      | 0, hu => rw [← hu]; exact c0
      | 1, hu => rw [← hu]; exact c1
      | 2, hu => rw [← hu]; exact c2
      | j + 3, hu => simp [Sp.vals] at hu
    obtain ⟨l, hll, hP⟩ := choose_list key
    subst hll
    refine ⟨l, some a, m, hcs, hl, by rw [cellsS_length], fun hp => ⟨a, rfl, ?_, fun j u hu => ?_⟩⟩
    · have h0 := hP 0 l[0] (by simp) 0 _ rfl
      exact cell_block h0
    · have hj : j < l.length * 3 := by have := (List.getElem?_eq_some_iff.1 hu).1; rwa [cellsS_length] at this
      have e : j = j / 3 * 3 + j % 3 := by omega
      rw [e, cellsS_at l (j / 3) (j % 3) (by omega) (by omega)] at hu
      rw [e]
      exact hP (j / 3) (gs l (j / 3)) (by simp [gs, show j / 3 < l.length by omega]) (j % 3) u hu

set_option maxRecDepth 100000 in
/-- A list of numbers that comes in. -/
theorem open_nums {cs : List Value} {x : DataW H × List MemPlace} {fuel : Nat} (hf : DataW.trod enc Try.prog W 0 (fun _ => true) true fuel 53 cs = some x) :
    ∃ (l : List Int) (A : Option Addr) (c : Nat), cs = [.slice A l.length c] ∧ l.length ≤ c ∧ RN W A l := by
  rcases open_ints Try.underlying53 Try.underlying3 (by kernel_rfl) hf with ⟨hcs, -⟩ | ⟨a, len, cap, zs, hcs, -, hl, -, hz, -, hi, -⟩
  · exact ⟨[], none, 0, hcs, Nat.le_refl _, rfl, fun h => by cases h⟩
  · simp only [if_true] at hz
    have hlen : (zs.take len).length = len := by rw [List.length_take]; omega
    refine ⟨zs.take len, some a, cap, by rw [hlen]; exact hcs, by rw [hlen]; exact hl, by simp [ints], fun hp => ⟨a, rfl, ?_, fun j u hu => ?_⟩⟩
    · exact cell_block (hi 0 (by omega))
    · have hj : j < len := by have := (List.getElem?_eq_some_iff.1 hu).1; simp [ints] at this; omega
      rw [hi j (by omega)]
      rw [← hu]
      simp [ints, hj, show j < zs.length by omega]

set_option maxRecDepth 100000 in
theorem open_money {v : Value} {d : DataW H} {p : List MemPlace} {r : Reach} {b0 : Nat} (hok : Value.okWide Try.prog W r b0 66 v) (h : DataW.Trod enc Try.prog W 0 (fun _ => true) true 66 v d p) :
    ∃ (r : List Sp) (q : List Int) (cut : Int) (A2 A3 : Option Addr) (c2 c3 : Nat), v = .agg #[.slice A2 r.length c2, .slice A3 q.length c3, .int .i64 cut] ∧ RS W A2 r ∧ RN W A3 q := by
  obtain ⟨v0, v1, v2, y0, y1, y2, n, rfl, -, -, t0, t1, t2⟩ := open_agg3 Try.underlying66 (by kernel_rfl) (by kernel_rfl) hok h
  obtain ⟨r, A2, c2, e0, -, hr⟩ := open_rights t0
  obtain ⟨q, A3, c3, e1, -, hq⟩ := open_nums t1
  obtain ⟨x2, e2, -, -⟩ := DataW.trod_int Try.underlying3 t2
  simp only [List.cons.injEq, and_true] at e0 e1 e2
  subst e0 e1 e2
  exact ⟨r, q, x2, A2, A3, c2, c3, rfl, hr, hq⟩
end

end Go.Proofs.Ytoopmancobfjeaa
