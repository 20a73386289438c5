/-
  TermTexts: for every term and text the law TermTexts returns true, panics nowhere and leaves its arguments as they were: the text of a term is the document's, the texts that are read are those that the document reads, and each valid term is read back. On the listed variables of Go's library, tied to the library's text by the card.
-/
import Derived.Test.YtlnmmkgeahlohaaDoorTxK
import Derived.Test.YtlnmmkgeahlohaaDoorTxRow
import Derived.Test.YtlnmmkgeahlohaaDoorTie
import Derived.Test.YtlnmmkgeahlohaaDoorCards
import Derived.SevenTiedAt
import Derived.ChangeMaps5
namespace Go.Proofs.YtlnmmkgeahlohaaDoor
set_option linter.unusedVariables false
set_option linter.unusedSimpArgs false
open Go.ChangeShapes Go.WideShapes Go.ChangeAt Go.RowKit Go.Deep Go.Joins

theorem pow_data : (Lib.tabData .u64 Lib.pow10Tab : DataW Unit) = Rows.laid_internal_strconv_uint64pow10 := by kernel_rfl
theorem env_of_laid {W : World} (hL : laidMetH Tryd.prog Rows.termTextsRow.laid W) (hs : W.ShapedOpen Tryd.prog) : Env W := by
  rw [MakeChecks.laidMetH_plain _ _ _ (by kernel_rfl)] at hL
  refine ⟨?_, max_of_shaped hs, ?_, ?_⟩
  · exact tab_of_reads (g := 2) (t := 109) (e := 89) (n := 20) (by kernel_rfl) (by kernel_rfl) Tryd.underlying109 Tryd.underlying89 (by kernel_rfl) (by kernel_rfl) (show Lib.VarReads Tryd.prog W _ (Lib.tabData .u64 Lib.pow10Tab) from by rw [pow_data]; exact Lib.laidMet.reads hL (by simp [Rows.termTextsRow]))
  · exact one_of_reads (g := 0) (t := 51) (by kernel_rfl) (by kernel_rfl) Tryd.underlying51 (Lib.laidMet.reads hL (n := "strconv.ErrSyntax") (d := Rows.laid_strconv_ErrSyntax) (by simp [Rows.termTextsRow]))
  · exact one_of_reads (g := 1) (t := 51) (by kernel_rfl) (by kernel_rfl) Tryd.underlying51 (Lib.laidMet.reads hL (n := "strconv.ErrRange") (d := Rows.laid_strconv_ErrRange) (by simp [Rows.termTextsRow]))

set_option maxRecDepth 100000 in
theorem termTexts_lifted (os : Os) (started : os.Started) (H : Type) (enc : TypeId × Value → H) :
    ReturnsInHanded {} Tryd.checked os 3 .any (fun w args => (Rows.termTextsSpec.pre enc Tryd.prog Tryd.f3 [] false w args ∧ laidMetH Tryd.prog Rows.termTextsRow.laid w) ∧ sizedMet enc Tryd.prog Tryd.f3 (OpenSpec.ofChange Rows.termTextsSpec) false w args)
      (Rows.termTextsSpec.post enc Tryd.prog Tryd.f3 false true false false) := by
  refine handed_shaped (C := Tryd.checked) (X := fun w _ => laidMetH Tryd.prog Rows.termTextsRow.laid w) (fun _ _ _ hh h => h.of_heap hh) own_ started (by kernel_rfl) Tryd.func3
    (ChangeSpec.witness_shaped (enc := enc) (C := Tryd.checked) (os := os) (X := fun w _ => laidMetH Tryd.prog Rows.termTextsRow.laid w) false (World.laidAll Tryd.prog os Rows.termTextsRow.laid) #[.agg #[.int .i64 0, .slice none 0 0, .slice none 0 0], .string ⟨#[]⟩] 8 (World.laidAll_os _ _ _)
      (World.shaped_of_ZipB (by kernel_rfl) (by kernel_rfl)) (by kernel_rfl) (by kernel_rfl) (by kernel_rfl)
      (by rw [MakeChecks.laidMetH_plain _ _ _ (by kernel_rfl)]; exact laidMet_laidAll _ (by kernel_rfl) (by kernel_rfl))) ?_
  intro W base args ds gs before hval0 hW hS hL
  have hval : ∀ (j : Nat) t v, Tryd.f3.params[j]? = some t → args[j]? = some v → Value.okWide Tryd.prog W .any base t v := hval0
  have hW' := hW
  obtain ⟨p, q, hA0, hV, rfl, hfz, hnd⟩ := hW
  have hA : DataW.TrodAll enc Tryd.prog W 0 (fun _ => true) true Tryd.f3.params.toList args.toList ds p := hA0
  rw [Tryd.params3] at hA hval
  obtain ⟨v0, v1, d0, d1, p0, p1, rfl, rfl, rfl, h0, h1⟩ := trodAll_two hA
  obtain ⟨t, A1, A2, c1, c2, rfl, hr1, hr2, wft⟩ := open_term (hval 0 _ v0 rfl rfl) h0
  obtain ⟨s, rfl, -, -, ws⟩ := Go.ChangeMaps.open_string Tryd.underlying9 (hval 1 _ v1 rfl rfl) h1
  have hsz : s.data.toList.length ≤ 9223372036854775807 := by unfold maxLen at ws; simpa using ws
  refine (termTexts_any t A1 A2 c1 c2 s.data.toList hsz W (env_of_laid hL hS) hr1 hr2).mono fun e W' ⟨he, hb⟩ => ?_
  subst he
  exact ⟨_, rfl, law_post hW' rfl (by kernel_rfl) rfl (by rw [Tryd.params3]; intro t ht; simp at ht; rcases ht with rfl | rfl <;> exact ⟨by kernel_rfl, of_decide_eq_true (by kernel_rfl)⟩) hb⟩

theorem termTexts_row : Rows.TermTextsSaid :=
  OpenClaim.holds_of_wide 3 Tryd.f3 rfl rfl rfl rfl rfl rfl rfl ⟨rfl, rfl, rfl, rfl, rfl⟩ rfl rfl rfl rfl rfl (by kernel_rfl) Tryd.func3 (by kernel_rfl)
    (of_decide_eq_true (by kernel_rfl)) (by unfold Func.isWrapper; first | (rw [if_pos (by decide +kernel)]; kernel_rfl) | (rw [if_neg (by decide +kernel)]; exact ⟨rfl, rfl⟩))
    (fun os started H enc _ => termTexts_lifted os started H enc)

theorem termTexts_holds : Rows.TermTextsCardSaid :=
  Claim7.holds_tied_plain_at .later [] [.data, .data, .data, .data, .sentinel, .sentinel, .pinned] true (true, "845ac80b56af21ed291b3d4bfb3fd08823cf353e46d7b2254bda7e05339ac8ae") true
    termTexts_row (fun _ h => by cases h) (by kernel_rfl) (fun _ h => by cases h) termTexts_row_tie rfl ⟨rfl, rfl⟩ (by kernel_rfl) rfl
    (fun f fn hf hfn => by
      obtain rfl : f = 3 := Option.some.inj ((show Tryd.prog.funcNamed "canteen/canteenlaw01.TermTexts" = some 3 by kernel_rfl).symm.trans hf) |>.symm
      obtain rfl : fn = Tryd.f3 := (Option.some.inj (Tryd.func3.symm.trans hfn)).symm
      exact ⟨by kernel_rfl, fun j t ht => by
        rw [Tryd.params3] at ht
        have hm : t ∈ [24, 9] := by simpa using Array.mem_of_getElem? ht
        have hall : ([24, 9].all fun u => !Tryd.prog.wantsStandIn u) = true := by kernel_rfl
        exact (show Tryd.prog.wantsStandIn t = false by simpa using List.all_eq_true.1 hall t hm)⟩)
    (by kernel_rfl)
end Go.Proofs.YtlnmmkgeahlohaaDoor
