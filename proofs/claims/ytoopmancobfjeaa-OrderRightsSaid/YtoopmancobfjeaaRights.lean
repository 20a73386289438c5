/-
  OrderRights: for every list of rights, every child and day the law OrderRights returns true, panics nowhere and leaves its arguments as they were: which rights are valid, when a child is free, and its rights brought together are as the document says. No condition.
-/
import Derived.Test.YtoopmancobfjeaaRightsW
import Derived.Test.YtoopmancobfjeaaRow2
namespace Go.Proofs.Ytoopmancobfjeaa
set_option linter.unusedVariables false
set_option linter.unusedSimpArgs false
open Go.ChangeShapes Go.WideShapes Go.ChangeAt Go.RowKit Go.Deep Go.Joins

set_option maxRecDepth 100000 in
theorem slice_of_cells {W : World} {r : Reach} {b0 : Nat} {v : Value} {A : Option Addr} {n c : Nat} {t e : TypeId} (ht : Try.prog.underlying t = some (.slice e)) (hok : Value.okWide Try.prog W r b0 t v) (h : v.cells.toList = [.slice A n c]) : v = .slice A n c := by
  obtain ⟨a0, len0, cap0, rfl⟩ := okWide_slice ht hok
  simpa [Value.cells] using h

set_option maxRecDepth 100000 in
theorem open_orderRights_1 {H : Type} {enc : TypeId × Value → H} {W : World} {v : Value} {d : DataW H} {p : List MemPlace} {r : Reach} {b0 : Nat} (hok : Value.okWide Try.prog W r b0 24 v) (h : DataW.Trod enc Try.prog W 0 (fun _ => true) true 24 v d p) :
    ∃ t ch d : Int, v = .agg #[.int .i64 t, .int .i64 ch, .int .i64 d] ∧ (Lit.int .i64 t).wf = true ∧ (Lit.int .i64 ch).wf = true ∧ (Lit.int .i64 d).wf = true := by
  obtain ⟨v0, v1, v2, y0, y1, y2, n, rfl, -, -, t0, t1, t2⟩ := open_agg3 Try.underlying24 (by kernel_rfl) (by kernel_rfl) hok h
  obtain ⟨x0, e0, -, wf0⟩ := DataW.trod_int Try.underlying3 t0
  obtain ⟨x1, e1, -, wf1⟩ := DataW.trod_int Try.underlying3 t1
  obtain ⟨x2, e2, -, wf2⟩ := DataW.trod_int Try.underlying3 t2
  simp only [List.cons.injEq, and_true] at e0 e1 e2
  subst e0 e1 e2
  exact ⟨x0, x1, x2, rfl, wf0, wf1, wf2⟩

set_option maxRecDepth 100000 in
theorem orderRights_lifted (os : Os) (started : os.Started) (H : Type) (enc : TypeId × Value → H) :
    ReturnsInHanded {} Try.checked os 14 .any (Rows.orderRightsSpec.pre6 enc Try.prog Try.f14 Rows.orderRightsRow.domain false) (Rows.orderRightsSpec.post enc Try.prog Try.f14 false true false false) := by
  refine returnsInHanded_of_change (C := Try.checked) own_ started (by kernel_rfl) Try.func14
    (ChangeSpec.witness6 (enc := enc) (C := Try.checked) false ⟨#[], #[.slice none 0 0, .agg #[.int .i64 0, .int .i64 0, .int .i64 0]], []⟩ 8 (by kernel_rfl) (by kernel_rfl) (by kernel_rfl) (by kernel_rfl)) ?_
  intro W base args ds gs before hval0 hW _ _
  have hval : ∀ (j : Nat) t v, Try.f14.params[j]? = some t → args[j]? = some v → Value.okWide Try.prog W .any base t v := hval0
  have hW' := hW
  obtain ⟨p, q, hA0, hV, rfl, hfz, hnd⟩ := hW
  have hA : DataW.TrodAll enc Try.prog W 0 (fun _ => true) true Try.f14.params.toList args.toList ds p := hA0
  rw [Try.params14] at hA hval
  obtain ⟨v0, v1, d0, d1, p0, p1, rfl, rfl, rfl, h0, h1⟩ := trodAll_two hA
  obtain ⟨_, hf0⟩ := h0
  obtain ⟨r, A, c, e0, hc, hR⟩ := open_rights hf0
  obtain rfl : v0 = .slice A r.length c := slice_of_cells Try.underlying64 (hval 0 _ v0 rfl rfl) e0
  obtain ⟨t, ch, d, rfl, wf1t, wf1ch, wf1d⟩ := open_orderRights_1 (hval 1 _ v1 rfl rfl) h1
  refine (orderRights_any r t ch d A c W hR).mono fun e W' ⟨he, hb⟩ => ?_
  subst he
  exact ⟨_, rfl, law_post hW' rfl (by kernel_rfl) rfl (by rw [Try.params14]; intro t ht; simp at ht; rcases ht with rfl | rfl <;> exact ⟨by kernel_rfl, of_decide_eq_true (by kernel_rfl)⟩) hb⟩

theorem orderRights_holds : Rows.OrderRightsSaid :=
  OpenClaim.holds_of_wide 14 Try.f14 rfl rfl rfl rfl rfl rfl rfl ⟨rfl, rfl, rfl, rfl, rfl⟩ rfl rfl rfl rfl rfl (by kernel_rfl) Try.func14 (by kernel_rfl)
    (of_decide_eq_true (by kernel_rfl)) (by unfold Func.isWrapper; first | (rw [if_pos (by decide +kernel)]; kernel_rfl) | (rw [if_neg (by decide +kernel)]; exact ⟨rfl, rfl⟩))
    (fun os started H enc _ => orderRights_lifted os started H enc)

end Go.Proofs.Ytoopmancobfjeaa
