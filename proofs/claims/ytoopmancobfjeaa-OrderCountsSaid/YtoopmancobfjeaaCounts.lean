/-
  OrderCounts: for every table of facts, minute, days and meal the law OrderCounts returns true, panics nowhere and leaves its arguments as they were: the number of meals ordered is the document's, and those of following stretches add up. No condition.
-/
import Derived.Test.YtoopmancobfjeaaCountsW
import Derived.Test.YtoopmancobfjeaaRow
namespace Go.Proofs.Ytoopmancobfjeaa
set_option linter.unusedVariables false
set_option linter.unusedSimpArgs false
open Go.ChangeShapes Go.WideShapes Go.ChangeAt Go.RowKit Go.Deep Go.Joins

set_option maxRecDepth 100000 in
theorem open_orderCounts_1 {H : Type} {enc : TypeId × Value → H} {W : World} {v : Value} {d : DataW H} {p : List MemPlace} {r : Reach} {b0 : Nat} (hok : Value.okWide Try.prog W r b0 38 v) (h : DataW.Trod enc Try.prog W 0 (fun _ => true) true 38 v d p) :
    ∃ t f u m : Int, v = .agg #[.int .i64 t, .int .i64 f, .int .i64 u, .int .i64 m] ∧ (Lit.int .i64 t).wf = true ∧ (Lit.int .i64 f).wf = true ∧ (Lit.int .i64 u).wf = true ∧ (Lit.int .i64 m).wf = true := by
  obtain ⟨v0, v1, v2, v3, y0, y1, y2, y3, n, rfl, -, -, t0, t1, t2, t3⟩ := open_agg4 Try.underlying38 (by kernel_rfl) (by kernel_rfl) hok h
  obtain ⟨x0, e0, -, wf0⟩ := DataW.trod_int Try.underlying3 t0
  obtain ⟨x1, e1, -, wf1⟩ := DataW.trod_int Try.underlying3 t1
  obtain ⟨x2, e2, -, wf2⟩ := DataW.trod_int Try.underlying3 t2
  obtain ⟨x3, e3, -, wf3⟩ := DataW.trod_int Try.underlying3 t3
  simp only [List.cons.injEq, and_true] at e0 e1 e2 e3
  subst e0 e1 e2 e3
  exact ⟨x0, x1, x2, x3, rfl, wf0, wf1, wf2, wf3⟩

set_option maxRecDepth 100000 in
theorem orderCounts_lifted (os : Os) (started : os.Started) (H : Type) (enc : TypeId × Value → H) :
    ReturnsInHanded {} Try.checked os 5 .any (Rows.orderCountsSpec.pre6 enc Try.prog Try.f5 Rows.orderCountsRow.domain false) (Rows.orderCountsSpec.post enc Try.prog Try.f5 false true false false) := by
  refine returnsInHanded_of_change (C := Try.checked) own_ started (by kernel_rfl) Try.func5
    (ChangeSpec.witness6 (enc := enc) (C := Try.checked) false ⟨#[], #[.slice none 0 0, .agg #[.int .i64 0, .int .i64 0, .int .i64 0, .int .i64 0], .int .i64 0], []⟩ 8 (by kernel_rfl) (by kernel_rfl) (by kernel_rfl) (by kernel_rfl)) ?_
  intro W base args ds gs before hval0 hW _ _
  have hval : ∀ (j : Nat) t v, Try.f5.params[j]? = some t → args[j]? = some v → Value.okWide Try.prog W .any base t v := hval0
  have hW' := hW
  obtain ⟨p, q, hA0, hV, rfl, hfz, hnd⟩ := hW
  have hA : DataW.TrodAll enc Try.prog W 0 (fun _ => true) true Try.f5.params.toList args.toList ds p := hA0
  rw [Try.params5] at hA hval
  obtain ⟨v0, v1, v2, d0, d1, d2, p0, p1, p2, rfl, rfl, rfl, h0, h1, h2⟩ := trodAll_three hA
  obtain ⟨l, A, c, rfl, hc, hR⟩ := open_facts (hval 0 _ v0 rfl rfl) h0
  obtain ⟨t, f, u, m, rfl, wf1t, wf1f, wf1u, wf1m⟩ := open_orderCounts_1 (hval 1 _ v1 rfl rfl) h1
  obtain ⟨b, rfl, -, -, wf2⟩ := open_int Try.underlying3 (hval 2 _ v2 rfl rfl) h2
  refine (orderCounts_any l t f u m b A c _ hc W hR).mono fun e W' ⟨he, hb⟩ => ?_
  subst he
  exact ⟨_, rfl, law_post hW' rfl (by kernel_rfl) rfl (by rw [Try.params5]; intro t ht; simp at ht; rcases ht with rfl | rfl | rfl <;> exact ⟨by kernel_rfl, of_decide_eq_true (by kernel_rfl)⟩) hb⟩

theorem orderCounts_holds : Rows.OrderCountsSaid :=
  OpenClaim.holds_of_wide 5 Try.f5 rfl rfl rfl rfl rfl rfl rfl ⟨rfl, rfl, rfl, rfl, rfl⟩ rfl rfl rfl rfl rfl (by kernel_rfl) Try.func5 (by kernel_rfl)
    (of_decide_eq_true (by kernel_rfl)) (by unfold Func.isWrapper; first | (rw [if_pos (by decide +kernel)]; kernel_rfl) | (rw [if_neg (by decide +kernel)]; exact ⟨rfl, rfl⟩))
    (fun os started H enc _ => orderCounts_lifted os started H enc)

end Go.Proofs.Ytoopmancobfjeaa
