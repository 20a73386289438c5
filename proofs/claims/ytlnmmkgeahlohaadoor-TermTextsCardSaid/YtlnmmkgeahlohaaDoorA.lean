/-
  Walks: sets of numbers; which terms and cycles are valid.
-/
import Derived.Test.YtlnmmkgeahlohaaDoorBase
namespace Go.Proofs.YtlnmmkgeahlohaaDoor
set_option linter.unusedVariables false
set_option linter.unusedSimpArgs false
open Go.RowKit

theorem within_any (n lo hi : Int) (w : World) : Calls Tryd.prog 35 #[.int .i64 n, .int .i64 lo, .int .i64 hi] w fun e w' => e = .returned (.bool (inB n lo hi)) ∧ w' = w := by
  go_enter Tryd.func35, Tryd.ntmps35
  go_wp2
  all_goals
    go_ret
    exact ⟨ret_bool (by unfold inB; first | (rw [decide_eq_decide]; omega) | (symm; rw [decide_eq_false_iff_not]; omega)), rfl⟩

set_option maxRecDepth 100000 in
set_option maxHeartbeats 800000 in
theorem isSet_any (l : List Int) (n : Int) (hl : l.length ≤ 1000000000) (A : Option Addr) (c : Nat) (w : World) (hR : RN w A l) :
    Calls Tryd.prog 30 #[.slice A l.length c, .int .i64 n] w fun e w' => e = .returned (.bool (isSet l n)) ∧ w = w' := by
  obtain ⟨S, hS⟩ : ∃ S, S = isSet l n := ⟨_, rfl⟩
  rw [← hS]
  have h1 : ∀ k, k < l.length → setOk l n k = false → S = false := fun k hk h => by rw [hS]; exact isSet_bad hk h
  have h2 : setTo l n l.length = true → S = true := fun h => by rw [hS]; exact h
  have H1 := Lib.hid h1
  have H2 := Lib.hid h2
  clear h1 h2 hS
  go_enter Tryd.func30, Tryd.ntmps30
  go_wp2
  go_loop [9] (fun x => ∃ k : Nat, k ≤ l.length ∧ x = .int .i64 k ∧ Hid (setTo l n k = true)) (fun x => l.length - (intOf x).toNat)
  case atStart => exact ⟨0, by omega, rfl, rfl⟩
  case round =>
    obtain ⟨k, hk, rfl, HK⟩ := hrel
    by_cases hlt : k < l.length
    · obtain ⟨ad, rfl, hab, c0⟩ := hR.at_ hlt
      cases hq : setOk l n k with
      | true =>
        obtain ⟨q1, q2, q3⟩ := (setOk_iff _ _ _).1 hq
        have hnx : setTo l n (k + 1) = true := by simp only [setTo, HK.out, hq]; rfl
        have HNX := Lib.hid hnx
        have H3 := Lib.hid q3
        clear hnx hq q3
        by_cases hk0 : k = 0
        · have hd : decide (0 < k) = false := by simp; omega
          clear hk0
          go_wp2
          go_round
          case rel => exact ⟨k + 1, by omega, by go_num, HNX⟩
          case measure => simp [intOf]; omega
        · obtain ⟨ad', e', hab', d0⟩ := hR.at_ (k := k - 1) (by omega)
          cases e'
          have hkp : 0 < k := by omega
          have q3 : gi l (k - 1) < gi l k := by have := H3.out; omega
          clear hk0
          go_wp2
          go_round
          case rel => exact ⟨k + 1, by omega, by go_num, HNX⟩
          case measure => simp [intOf]; omega
      | false =>
        have HB := Lib.hid (H1.out k hlt hq)
        have HN := Lib.hid ((setOk_not _ _ _).1 hq)
        clear hq
        by_cases hk0 : k = 0
        · have hd : decide (0 < k) = false := by simp; omega
          have HZ := Lib.hid hk0
          clear hk0
          go_wp2
          all_goals first
            | (go_ret; exact ⟨ret_bool (by rw [HB.out]), rfl⟩)
            | (exfalso; have := HN.out; have := HZ.out; omega)
        · obtain ⟨ad', e', hab', d0⟩ := hR.at_ (k := k - 1) (by omega)
          cases e'
          have hkp : 0 < k := by omega
          clear hk0
          go_wp2
          all_goals first
            | (go_ret; exact ⟨ret_bool (by rw [HB.out]), rfl⟩)
            | (exfalso; have := HN.out; omega)
    · have hv : S = true := H2.out (by rw [show l.length = k by omega]; exact HK.out)
      have HV := Lib.hid hv; clear hv
      go_wp2
      go_ret
      exact ⟨ret_bool (by rw [HV.out]), rfl⟩

set_option maxRecDepth 100000 in
set_option maxHeartbeats 800000 in
theorem risSet_any (l : List Int) (m : Int) (hl : l.length ≤ 1000000000) (A : Option Addr) (c : Nat) (w : World) (hR : RN w A l) :
    Calls Tryd.prog 36 #[.slice A l.length c, .int .i64 m] w fun e w' => e = .returned (.bool (isSet l (m + 1))) ∧ Below w.heap.size w w' := by
  obtain ⟨S, hS⟩ : ∃ S, S = isSet l (m + 1) := ⟨_, rfl⟩
  rw [← hS]
  have h1 : ∀ k, k < l.length → setOk l (m + 1) k = false → S = false := fun k hk h => by rw [hS]; exact isSet_bad hk h
  have h2 : setTo l (m + 1) l.length = true → S = true := fun h => by rw [hS]; exact h
  have H1 := Lib.hid h1
  have H2 := Lib.hid h2
  clear h1 h2 hS
  go_enter Tryd.func36, Tryd.ntmps36
  go_wp2
  go_loopw [5] (fun x wr => ∃ k : Nat, k ≤ l.length ∧ x = .int .i64 k ∧ Hid (setTo l (m + 1) k = true) ∧ Below w.heap.size w wr) (fun x _ => l.length - (intOf x).toNat)
  case atStart => exact ⟨0, by omega, rfl, rfl, Below.refl _ _⟩
  case round =>
    obtain ⟨k, hk, rfl, HK, hbl⟩ := hrel
    by_cases hlt : k < l.length
    · obtain ⟨ad, rfl, hab, c0⟩ := (hR.below hbl).at_ hlt
      have z0 : (0 : Int) ≤ (k : Int) := Int.natCast_nonneg _
      have z1 : (k : Int) < (l.length : Int) := by omega
      cases hi : inB (gi l k) 0 m with
      | false =>
        have hbad : S = false := H1.out k hlt ((setOk_not _ _ _).2 (by have := inB_false.1 hi; omega))
        have HB := Lib.hid hbad; clear hbad
        go_wp2_with fail
        go_quiet ((go_at_call 35; exact Calls.quiet_of_same (within_any _ _ _ _)))
        go_wp2
        go_ret
        exact ⟨ret_bool (by rw [HB.out]), below_drewN hbl _⟩
      | true =>
        have hib := inB_true.1 hi
        by_cases hk0 : k = 0
        · have hd : decide (0 < k) = false := by simp; omega
          have hnx : setTo l (m + 1) (k + 1) = true := by simp only [setTo, HK.out, Bool.true_and]; rw [setOk_iff]; omega
          have HNX := Lib.hid hnx
          clear hnx hk0 hib
          go_wp2_with fail
          go_quiet ((go_at_call 35; exact Calls.quiet_of_same (within_any _ _ _ _)))
          go_wp2
          go_roundw
          case rel => exact ⟨k + 1, by omega, by go_num, HNX, below_drewN hbl _⟩
          case measure => simp [intOf]; omega
        · obtain ⟨ad', e', hab', d0⟩ := (hR.below hbl).at_ (k := k - 1) (by omega)
          cases e'
          have hkp : 0 < k := by omega
          by_cases hle : gi l k ≤ gi l (k - 1)
          · have hbad : S = false := H1.out k hlt ((setOk_not _ _ _).2 (by omega))
            have HB := Lib.hid hbad
            clear hbad hk0 hib
            go_wp2_with fail
            go_quiet ((go_at_call 35; exact Calls.quiet_of_same (within_any _ _ _ _)))
            go_wp2
            go_ret
            exact ⟨ret_bool (by rw [HB.out]), below_drewN hbl _⟩
          · have hnx : setTo l (m + 1) (k + 1) = true := by simp only [setTo, HK.out, Bool.true_and]; rw [setOk_iff]; omega
            have hle' : gi l (k - 1) < gi l k := by omega
            have HNX := Lib.hid hnx
            clear hnx hk0 hib hle
            go_wp2_with fail
            go_quiet ((go_at_call 35; exact Calls.quiet_of_same (within_any _ _ _ _)))
            go_wp2
            go_roundw
            case rel => exact ⟨k + 1, by omega, by go_num, HNX, below_drewN hbl _⟩
            case measure => simp [intOf]; omega
    · have hv : S = true := H2.out (by rw [show l.length = k by omega]; exact HK.out)
      have HV := Lib.hid hv; clear hv
      go_wp2
      go_ret
      exact ⟨ret_bool (by rw [HV.out]), hbl⟩

end Go.Proofs.YtlnmmkgeahlohaaDoor
