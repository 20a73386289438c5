/-
  OfficeReads: for every text the law returns true, panics nowhere and leaves its argument as it was: the orders that a text begins with are those of the document, and so is the rest. On the tied card. No condition beyond the card.
-/
import Derived.Test.YtiapkffihpgdcaaGreatDoorPkSn
import Derived.Test.YtiapkffihpgdcaaGreatDoorPkOfRow
import Derived.Test.YtiapkffihpgdcaaGreatDoorTie
import Derived.Test.YtiapkffihpgdcaaGreatDoorCards
import Derived.SevenTiedAt
import Derived.ChangeMaps5
/-
  OfficeReads: for every text the law returns true, panics nowhere and leaves its argument as it was: the orders that a text begins with are those of the document, and so is the rest. On the tied card.
-/
namespace Go.Proofs.YtiapkffihpgdcaaGreatDoor
set_option linter.unusedVariables false
set_option linter.unusedSimpArgs false
open Go.ChangeShapes Go.WideShapes Go.ChangeAt Go.RowKit Go.Deep Go.Joins

theorem officeReads_env {W : World} (hL : laidMetH Tryz.prog Rows.officeReadsRow.laid W) (hs : W.ShapedOpen Tryz.prog) : EnvA W := by
  obtain ⟨h1, h2⟩ := plain_met (Lp := plainL) (by kernel_rfl) (by kernel_rfl) hL
  exact env_of h1 (by simp [plainL]) (by simp [plainL]) h2 hs

set_option maxRecDepth 100000 in
theorem officeReads_lifted (os : Os) (started : os.Started) (H : Type) (enc : TypeId × Value → H) :
    ReturnsInHanded {} Tryz.checked os 5 .any (fun w args => (Rows.officeReadsSpec.pre enc Tryz.prog Tryz.f5 [] false w args ∧ laidMetH Tryz.prog Rows.officeReadsRow.laid w) ∧ sizedMet enc Tryz.prog Tryz.f5 (OpenSpec.ofChange Rows.officeReadsSpec) false w args)
      (Rows.officeReadsSpec.post enc Tryz.prog Tryz.f5 false true false false) := by
  refine handed_shaped (C := Tryz.checked) (X := fun w _ => laidMetH Tryz.prog Rows.officeReadsRow.laid w) (fun _ _ _ hh h => h.of_heap hh) own_ started (by kernel_rfl) Tryz.func5
    (ChangeSpec.witness_shaped (enc := enc) (C := Tryz.checked) (os := os) (X := fun w _ => laidMetH Tryz.prog Rows.officeReadsRow.laid w) false (witW os plainL) #[.string ⟨#[]⟩] 8 (by unfold witW; rw [World.layVars_os]; rfl)
      (World.shaped_of_ZipB (by kernel_rfl) (by kernel_rfl)) (by kernel_rfl) (by kernel_rfl) (by kernel_rfl)
      (laidMetH_of_parts (by rw [show (Rows.officeReadsRow.laid.filter fun x => x.2.handleName?.isNone) = plainL by kernel_rfl]; exact witW_met _ (by kernel_rfl) (by kernel_rfl)) (by kernel_rfl))) ?_
  intro W base args ds gs before hval0 hW hS hL
  have hval : ∀ (j : Nat) t v, Tryz.f5.params[j]? = some t → args[j]? = some v → Value.okWide Tryz.prog W .any base t v := hval0
  have hW' := hW
  obtain ⟨p, q, hA0, hV, rfl, hfz, hnd⟩ := hW
  have hA : DataW.TrodAll enc Tryz.prog W 0 (fun _ => true) true Tryz.f5.params.toList args.toList ds p := hA0
  rw [Tryz.params5] at hA hval
  obtain ⟨v0, d0, rfl, rfl, h0⟩ := trodAll_one hA
  obtain ⟨s, rfl, -, -, ws⟩ := Go.ChangeMaps.open_string Tryz.underlying9 (hval 0 _ v0 rfl rfl) h0
  have hsz : s.data.toList.length ≤ 9223372036854775807 := by unfold maxLen at ws; simpa using ws
  refine (officeReads_any (officeReads_env hL hS) s.data.toList hsz).mono fun e W' ⟨he, hb⟩ => ?_
  subst he
  exact ⟨_, rfl, law_post hW' rfl (by kernel_rfl) rfl (by rw [Tryz.params5]; intro t ht; simp at ht; rcases ht with rfl; exact ⟨by kernel_rfl, of_decide_eq_true (by kernel_rfl)⟩) hb⟩

set_option maxHeartbeats 4000000 in
theorem officeReads_closed : joinedFacts Tryz.prog 5 Tryz.f5 Rows.officeReadsSpec Rows.officeReadsRow = true := by
  unfold joinedFacts
  simp only [Bool.and_eq_true]
  repeat' apply And.intro
  all_goals (as_aux_lemma => kernel_rfl)

set_option maxHeartbeats 4000000 in
theorem officeReads_wrap : Tryz.f5.isWrapper Tryz.prog Rows.officeReadsRow.wrapper Rows.officeReadsRow.mainSum := by
  unfold Func.isWrapper; first | (rw [if_pos (by decide +kernel)]; kernel_rfl) | (rw [if_neg (by decide +kernel)]; exact ⟨rfl, rfl⟩)
theorem officeReads_named : Tryz.prog.funcNamed Rows.officeReadsRow.func = some 5 := by kernel_rfl
theorem officeReads_inst : Tryz.f5.isInstance Tryz.prog Rows.officeReadsRow.origin Rows.officeReadsRow.targs := of_decide_eq_true (by kernel_rfl)

set_option maxHeartbeats 4000000 in
theorem officeReads_row : Rows.OfficeReadsSaid :=
  OpenClaim.holds_of_wide 5 Tryz.f5 rfl rfl rfl rfl rfl rfl rfl ⟨rfl, rfl, rfl, rfl, rfl⟩ rfl rfl rfl rfl rfl officeReads_named Tryz.func5 officeReads_closed
    officeReads_inst officeReads_wrap
    (fun os started H enc _ => officeReads_lifted os started H enc)

theorem officeReads_wfT : Rows.officeReadsRow.wfByText (OpenSpec.ofChange Rows.officeReadsSpec) = true := by kernel_rfl
theorem office_main : Tryz.pinned.checked.prog.mainIs = some (true, "5a9a52965f4185065c0d39a39ec58f829537e604a07fc4f1dbce9d7d2d17f592".toList) := by kernel_rfl
theorem office_looks : true = Tryz.pinned.checked.prog.looks [] := by kernel_rfl
theorem officeReads_goes : false = Rows.officeReadsRow.goesBy Tryz.pinned.checked.prog := by kernel_rfl
theorem officeReads_stand : ([9].all fun u => !Tryz.prog.wantsStandIn u) = true := by kernel_rfl

set_option maxHeartbeats 4000000 in
theorem officeReads_holds : Rows.OfficeReadsCardSaid :=
  Claim7.holds_tied_plain_at .later [] [.data, .data, .data, .handle, .pinned] true (true, "5a9a52965f4185065c0d39a39ec58f829537e604a07fc4f1dbce9d7d2d17f592") true
    officeReads_row (fun _ h => by cases h) officeReads_wfT (fun _ h => by cases h) officeReads_row_tie rfl ⟨rfl, rfl⟩ office_main rfl
    (fun f fn hf hfn => by
      obtain rfl : f = 5 := Option.some.inj (officeReads_named.symm.trans hf) |>.symm
      obtain rfl : fn = Tryz.f5 := (Option.some.inj (Tryz.func5.symm.trans hfn)).symm
      exact ⟨office_looks, fun j t ht => by
        rw [Tryz.params5] at ht
        have hm : t ∈ [9] := by simpa using Array.mem_of_getElem? ht
        exact (show Tryz.prog.wantsStandIn t = false by simpa using List.all_eq_true.1 officeReads_stand t hm)⟩)
    officeReads_goes
end Go.Proofs.YtiapkffihpgdcaaGreatDoor
