/-
  OrderAdds: for every table of facts and every fact the law OrderAdds returns true, panics nowhere and leaves its arguments as they were: the valid tables and the table with one more fact are the document's, in new memory. No condition.
-/
import Derived.Test.YtoopmancobfjeaaAb
import Derived.Test.YtoopmancobfjeaaRow3
namespace Go.Proofs.Ytoopmancobfjeaa
set_option linter.unusedVariables false
set_option linter.unusedSimpArgs false
open Go.ChangeShapes Go.WideShapes Go.ChangeAt Go.RowKit Go.Deep Go.Joins

set_option maxRecDepth 100000 in
theorem open_orderAdds_1 {H : Type} {enc : TypeId × Value → H} {W : World} {v : Value} {d : DataW H} {p : List MemPlace} {r : Reach} {b0 : Nat} (hok : Value.okWide Try.prog W r b0 43 v) (h : DataW.Trod enc Try.prog W 0 (fun _ => true) true 43 v d p) :
    ∃ a ch fr un me : Int, v = .agg #[.int .i64 a, .int .i64 ch, .int .i64 fr, .int .i64 un, .int .i64 me] ∧ (Lit.int .i64 a).wf = true ∧ (Lit.int .i64 ch).wf = true ∧ (Lit.int .i64 fr).wf = true ∧ (Lit.int .i64 un).wf = true ∧ (Lit.int .i64 me).wf = true := by
  obtain ⟨v0, v1, v2, v3, v4, y0, y1, y2, y3, y4, n, rfl, -, -, t0, t1, t2, t3, t4⟩ := open_agg5 Try.underlying43 (by kernel_rfl) (by kernel_rfl) hok h
  obtain ⟨x0, e0, -, wf0⟩ := DataW.trod_int Try.underlying3 t0
  obtain ⟨x1, e1, -, wf1⟩ := DataW.trod_int Try.underlying3 t1
  obtain ⟨x2, e2, -, wf2⟩ := DataW.trod_int Try.underlying3 t2
  obtain ⟨x3, e3, -, wf3⟩ := DataW.trod_int Try.underlying3 t3
  obtain ⟨x4, e4, -, wf4⟩ := DataW.trod_int Try.underlying3 t4
  simp only [List.cons.injEq, and_true] at e0 e1 e2 e3 e4
  subst e0 e1 e2 e3 e4
  exact ⟨x0, x1, x2, x3, x4, rfl, wf0, wf1, wf2, wf3, wf4⟩

set_option maxRecDepth 100000 in
theorem orderAdds_lifted (os : Os) (started : os.Started) (H : Type) (enc : TypeId × Value → H) :
    ReturnsInHanded {} Try.checked os 6 .any (Rows.orderAddsSpec.pre6 enc Try.prog Try.f6 Rows.orderAddsRow.domain false) (Rows.orderAddsSpec.post enc Try.prog Try.f6 false true false false) := by
  refine returnsInHanded_of_change (C := Try.checked) own_ started (by kernel_rfl) Try.func6
    (ChangeSpec.witness6 (enc := enc) (C := Try.checked) false ⟨#[], #[.slice none 0 0, .agg #[.int .i64 0, .int .i64 0, .int .i64 0, .int .i64 0, .int .i64 0]], []⟩ 8 (by kernel_rfl) (by kernel_rfl) (by kernel_rfl) (by kernel_rfl)) ?_
  intro W base args ds gs before hval0 hW _ _
  have hval : ∀ (j : Nat) t v, Try.f6.params[j]? = some t → args[j]? = some v → Value.okWide Try.prog W .any base t v := hval0
  have hW' := hW
  obtain ⟨p, q, hA0, hV, rfl, hfz, hnd⟩ := hW
  have hA : DataW.TrodAll enc Try.prog W 0 (fun _ => true) true Try.f6.params.toList args.toList ds p := hA0
  rw [Try.params6] at hA hval
  obtain ⟨v0, v1, d0, d1, p0, p1, rfl, rfl, rfl, h0, h1⟩ := trodAll_two hA
  obtain ⟨l, A, c, rfl, hc, hR⟩ := open_facts (hval 0 _ v0 rfl rfl) h0
  obtain ⟨a, ch, fr, un, me, rfl, wf1a, wf1ch, wf1fr, wf1un, wf1me⟩ := open_orderAdds_1 (hval 1 _ v1 rfl rfl) h1
  refine (orderAdds_any l ⟨a, ch, fr, un, me⟩ A c _ hc W hR).mono fun e W' ⟨he, hb⟩ => ?_
  subst he
  exact ⟨_, rfl, law_post hW' rfl (by kernel_rfl) rfl (by rw [Try.params6]; intro t ht; simp at ht; rcases ht with rfl | rfl <;> exact ⟨by kernel_rfl, of_decide_eq_true (by kernel_rfl)⟩) hb⟩

theorem orderAdds_holds : Rows.OrderAddsSaid :=
  OpenClaim.holds_of_wide 6 Try.f6 rfl rfl rfl rfl rfl rfl rfl ⟨rfl, rfl, rfl, rfl, rfl⟩ rfl rfl rfl rfl rfl (by kernel_rfl) Try.func6 (by kernel_rfl)
    (of_decide_eq_true (by kernel_rfl)) (by unfold Func.isWrapper; first | (rw [if_pos (by decide +kernel)]; kernel_rfl) | (rw [if_neg (by decide +kernel)]; exact ⟨rfl, rfl⟩))
    (fun os started H enc _ => orderAdds_lifted os started H enc)

end Go.Proofs.Ytoopmancobfjeaa
