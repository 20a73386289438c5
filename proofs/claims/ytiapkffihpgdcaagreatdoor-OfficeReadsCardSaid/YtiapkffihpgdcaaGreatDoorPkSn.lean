import Derived.Test.YtiapkffihpgdcaaGreatDoorPk31
/-
  The law OfficeReads, walked.
-/
namespace Go.Proofs.YtiapkffihpgdcaaGreatDoor
set_option linter.unusedVariables false
set_option linter.unusedSimpArgs false
open Go.RowKit

set_option maxRecDepth 100000 in
set_option maxHeartbeats 3200000 in
theorem officeReads_any {w : World} (hE : EnvA w) (t : Wd) (ht : t.length ≤ 9223372036854775807) :
    Calls Tryz.prog 5 #[St t] w fun e w' => e = .returned (.bool true) ∧ Below w.heap.size w w' := by
  by_cases h1 : t.length ≤ 20000
  · have h1' : decide ((20000 : Int) < (t.length : Int)) = false := by rw [decide_eq_false_iff_not]; omega
    obtain ⟨l, r, hlr⟩ : ∃ l r, rd t = (l, r) := ⟨_, _, rfl⟩
    have ha := @read_any w hE.z t (by omega)
    have hb := fun w => @rread_any w t (by omega)
    rw [hlr] at ha
    simp only [hlr] at hb
    have HA := Lib.hid ha
    have HB := Lib.hid hb
    have hll : l.length ≤ 200 := by have := rdL_len 200 t; unfold rd at hlr; rw [hlr] at this; exact this
    clear ha hb hlr
    have hrr : (r != r) = false := by simp
    go_enter Tryz.func5, Tryz.ntmps5
    go_wp2_with (first
      | (go_at_call 32; (with_reducible refine HA.out.mono ?_); rintro e w2 ⟨A, c, rfl, own2, hb2⟩; have rs2 := RS.of_own own2)
      | (go_at_call 33; (with_reducible refine (HB.out _).mono ?_); rintro e w3 ⟨A', c', rfl, own3, hb3⟩; have rs3 := RS.of_own own3; have rs4 := rs2.below hb3; have hb4 := hb2.trans (hb3.mono hb2.size); have hE4 := hE.below hb4))
    clear own2 own3 rs2 hb2 hb3
    go_loopw [7] (fun x wr => ∃ k : Nat, k ≤ l.length ∧ x = .int .i64 k ∧ Below w3.heap.size w3 wr) (fun x _ => l.length - (intOf x).toNat)
    case atStart => exact ⟨0, by omega, rfl, Below.refl _ _⟩
    case round =>
      obtain ⟨k, hk, rfl, hbl⟩ := hrel
      have hbw := hb4.trans (hbl.mono hb4.size)
      by_cases hlt : k < l.length
      · obtain ⟨ad, rfl, _, c0⟩ := (rs4.below hbl).at_ hlt
        obtain ⟨ad', rfl, _, c1⟩ := (rs3.below hbl).at_ hlt
        obtain ⟨x, hx⟩ : ∃ x, x = l[k] := ⟨_, rfl⟩
        rw [← hx] at c0 c1
        have hxx : (x != x) = false := by simp
        clear hx
        go_wp2_with fail
        go_quiet (fail)
        go_wp2_with fail
        go_roundw
        case rel => exact ⟨k + 1, by omega, by go_num, below_drewN hbl _⟩
        case measure => simp [intOf]; omega
      · obtain rfl : k = l.length := by omega
        have HK := Lib.hid (oknown_any (hE.below hbw))
        go_wp2_with (go_at_call 31; (with_reducible refine HK.out.mono ?_); rintro e w5 ⟨rfl, hb5⟩)
        go_ret
        exact ⟨rfl, hbw.trans (hb5.mono hbw.size)⟩
  · have h1' : decide ((20000 : Int) < (t.length : Int)) = true := by rw [decide_eq_true_eq]; omega
    have HK := Lib.hid (oknown_any hE)
    go_enter Tryz.func5, Tryz.ntmps5
    go_wp2_with (go_at_call 31; (with_reducible refine HK.out.mono ?_); rintro e w5 ⟨rfl, hb5⟩)
    go_ret
    exact ⟨rfl, hb5⟩
end Go.Proofs.YtiapkffihpgdcaaGreatDoor
