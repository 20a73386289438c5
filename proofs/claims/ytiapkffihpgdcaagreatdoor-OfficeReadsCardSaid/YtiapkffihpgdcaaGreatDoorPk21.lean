import Derived.Test.YtiapkffihpgdcaaGreatDoorPk8
import Derived.Test.YtiapkffihpgdcaaGreatDoorPk13
import Derived.Test.YtiapkffihpgdcaaGreatDoorPk18
/-
  Walks: words with letters and digits alone; numbers.
-/
namespace Go.Proofs.YtiapkffihpgdcaaGreatDoor
set_option linter.unusedVariables false
set_option linter.unusedSimpArgs false
open Go.RowKit

theorem letTo_bad {s : Wd} {k n : Nat} (h : (lowB (gb s k) || digB (gb s k)) = false) (hn : k < n) : letTo s n = false := by
  induction n with
  | zero => omega
  | succ n ih =>
    simp only [letTo]
    by_cases e : k = n
    · subst e; rw [h, Bool.and_false]
    · rw [ih (by omega)]; rfl
theorem digTo_bad {s : Wd} {k n : Nat} (h : digB (gb s k) = false) (hn : k < n) : digTo s n = false := by
  induction n with
  | zero => omega
  | succ n ih =>
    simp only [digTo]
    by_cases e : k = n
    · subst e; rw [h, Bool.and_false]
    · rw [ih (by omega)]; rfl
theorem formB_no {s : Wd} (h : s.length < 1 ∨ 7 < s.length ∨ 1 < s.length ∧ gb s 0 = 48) : formB s = false := by
  unfold formB
  rw [decide_eq_false_iff_not]
  rintro ⟨h1, h2, h3⟩
  rcases h with h | h | ⟨h, h'⟩
  · omega
  · omega
  · rcases h3 with h3 | h3
    · omega
    · exact h3 h'
theorem numV_form {s : Wd} (h : formB s = false) : numV s = 0 := by unfold numV; rw [h]; rfl
theorem numOk_form {s : Wd} (h : formB s = false) : numOk s = false := by unfold numOk; rw [h]; rfl
theorem numTo'_step (s : Wd) (k : Nat) : numTo' s (k + 1) = 10 * numTo' s k + ((gb s k).toNat - 48) := rfl
set_option maxRecDepth 100000 in
set_option maxHeartbeats 800000 in
theorem letters_any (s : Wd) (hs : s.length ≤ 1000000000) (w : World) : Calls Tryz.prog 233 #[St s] w fun e w' => e = .returned (.bool (letB s)) ∧ w' = w := by
  obtain ⟨S, hS⟩ : ∃ S, S = letB s := ⟨_, rfl⟩
  rw [← hS]
  have HS := Lib.hid hS; clear hS
  go_enter Tryz.func233, Tryz.ntmps233
  go_wp2
  go_loop [6] (fun x => ∃ k : Nat, k ≤ s.length ∧ x = .int .i64 k ∧ Hid (letTo s k = true)) (fun x => s.length - (intOf x).toNat)
  case atStart => exact ⟨0, by omega, rfl, rfl⟩
  case round =>
    obtain ⟨k, hk, rfl, HK⟩ := hrel
    by_cases hlt : k < s.length
    · have hsz : k < ByteArray.size ⟨s.toArray⟩ := by rw [st_size]; exact hlt
      have hg := st_get s k hsz
      have hgb : gb s k = (⟨s.toArray⟩ : ByteArray)[k]'hsz := by rw [hg]; simp [gb, hlt]
      have hgood : 48 ≤ ((⟨s.toArray⟩ : ByteArray)[k]'hsz).toNat ∧ ((⟨s.toArray⟩ : ByteArray)[k]'hsz).toNat ≤ 57 ∨ 97 ≤ ((⟨s.toArray⟩ : ByteArray)[k]'hsz).toNat ∧ ((⟨s.toArray⟩ : ByteArray)[k]'hsz).toNat ≤ 122 → letTo s (k + 1) = true := fun h => by
        simp only [letTo, HK.out, Bool.true_and]; unfold lowB digB; rw [hgb, Bool.or_eq_true, decide_eq_true_eq, decide_eq_true_eq]; omega
      have hbad : ¬ (48 ≤ ((⟨s.toArray⟩ : ByteArray)[k]'hsz).toNat ∧ ((⟨s.toArray⟩ : ByteArray)[k]'hsz).toNat ≤ 57 ∨ 97 ≤ ((⟨s.toArray⟩ : ByteArray)[k]'hsz).toNat ∧ ((⟨s.toArray⟩ : ByteArray)[k]'hsz).toNat ≤ 122) → S = false := fun h => by
        rw [HS.out]; unfold letB
        have : (lowB (gb s k) || digB (gb s k)) = false := by unfold lowB digB; rw [hgb, Bool.or_eq_false_iff, decide_eq_false_iff_not, decide_eq_false_iff_not]; omega
        rw [letTo_bad this hlt]; rfl
      have HG := Lib.hid hgood
      have HB := Lib.hid hbad
      clear hgood hbad hg hgb
      by_cases c1 : ((⟨s.toArray⟩ : ByteArray)[k]'hsz).toNat < 48
      · have HV := Lib.hid (HB.out (by omega))
        clear HG HB HS HK
        have c1' : ((⟨s.toArray⟩ : ByteArray)[k]'hsz).toNat < 97 := by omega
        go_wp2
        go_ret
        exact ⟨ret_bool HV.out.symm, rfl⟩
      by_cases c2 : ((⟨s.toArray⟩ : ByteArray)[k]'hsz).toNat ≤ 57
      · have HN := Lib.hid (HG.out (.inl ⟨by omega, c2⟩))
        clear HG HB HK
        have c1' : ((⟨s.toArray⟩ : ByteArray)[k]'hsz).toNat < 97 := by omega
        go_wp2
        go_round
        case rel => exact ⟨k + 1, by omega, by go_num, HN⟩
        case measure => simp [intOf]; omega
      by_cases c3 : ((⟨s.toArray⟩ : ByteArray)[k]'hsz).toNat < 97
      · have HV := Lib.hid (HB.out (by omega))
        clear HG HB HS HK
        go_wp2
        go_ret
        exact ⟨ret_bool HV.out.symm, rfl⟩
      by_cases c4 : ((⟨s.toArray⟩ : ByteArray)[k]'hsz).toNat ≤ 122
      · have HN := Lib.hid (HG.out (.inr ⟨by omega, c4⟩))
        clear HG HB HK
        go_wp2
        go_round
        case rel => exact ⟨k + 1, by omega, by go_num, HN⟩
        case measure => simp [intOf]; omega
      · have HV := Lib.hid (HB.out (by omega))
        clear HG HB HS HK
        go_wp2
        go_ret
        exact ⟨ret_bool HV.out.symm, rfl⟩
    · obtain rfl : k = s.length := by omega
      have hv : S = decide (s ≠ []) := by rw [HS.out]; unfold letB; rw [HK.out]; rfl
      have HV := Lib.hid hv; clear hv HS HK
      cases s with
      | nil =>
        go_wp2
        go_ret
        exact ⟨ret_bool (by rw [HV.out]; first | rfl | decide | simp), rfl⟩
      | cons b r =>
        go_wp2
        go_ret
        exact ⟨ret_bool (by rw [HV.out]; first | rfl | (simp; done) | (simp; omega)), rfl⟩

set_option maxRecDepth 100000 in
set_option maxHeartbeats 800000 in
theorem isWord_any (s : Wd) (hs : s.length ≤ 1000000000) (w : World) : Calls Tryz.prog 202 #[St s] w fun e w' => e = .returned (.bool (letB s)) ∧ w' = w := by
  obtain ⟨S, hS⟩ : ∃ S, S = letB s := ⟨_, rfl⟩
  rw [← hS]
  have HS := Lib.hid hS; clear hS
  go_enter Tryz.func202, Tryz.ntmps202
  go_wp2
  go_loop [3] (fun x => ∃ k : Nat, k ≤ s.length ∧ x = .int .i64 k ∧ Hid (letTo s k = true)) (fun x => s.length - (intOf x).toNat)
  case atStart => exact ⟨0, by omega, rfl, rfl⟩
  case round =>
    obtain ⟨k, hk, rfl, HK⟩ := hrel
    by_cases hlt : k < s.length
    · have hsz : k < ByteArray.size ⟨s.toArray⟩ := by rw [st_size]; exact hlt
      have hg := st_get s k hsz
      have hgb : gb s k = (⟨s.toArray⟩ : ByteArray)[k]'hsz := by rw [hg]; simp [gb, hlt]
      have hgood : 48 ≤ ((⟨s.toArray⟩ : ByteArray)[k]'hsz).toNat ∧ ((⟨s.toArray⟩ : ByteArray)[k]'hsz).toNat ≤ 57 ∨ 97 ≤ ((⟨s.toArray⟩ : ByteArray)[k]'hsz).toNat ∧ ((⟨s.toArray⟩ : ByteArray)[k]'hsz).toNat ≤ 122 → letTo s (k + 1) = true := fun h => by
        simp only [letTo, HK.out, Bool.true_and]; unfold lowB digB; rw [hgb, Bool.or_eq_true, decide_eq_true_eq, decide_eq_true_eq]; omega
      have hbad : ¬ (48 ≤ ((⟨s.toArray⟩ : ByteArray)[k]'hsz).toNat ∧ ((⟨s.toArray⟩ : ByteArray)[k]'hsz).toNat ≤ 57 ∨ 97 ≤ ((⟨s.toArray⟩ : ByteArray)[k]'hsz).toNat ∧ ((⟨s.toArray⟩ : ByteArray)[k]'hsz).toNat ≤ 122) → S = false := fun h => by
        rw [HS.out]; unfold letB
        have : (lowB (gb s k) || digB (gb s k)) = false := by unfold lowB digB; rw [hgb, Bool.or_eq_false_iff, decide_eq_false_iff_not, decide_eq_false_iff_not]; omega
        rw [letTo_bad this hlt]; rfl
      have HG := Lib.hid hgood
      have HB := Lib.hid hbad
      clear hgood hbad hg hgb
      by_cases c1 : ((⟨s.toArray⟩ : ByteArray)[k]'hsz).toNat < 48
      · have HV := Lib.hid (HB.out (by omega))
        clear HG HB HS HK
        have c1' : ((⟨s.toArray⟩ : ByteArray)[k]'hsz).toNat < 97 := by omega
        go_wp2
        go_ret
        exact ⟨ret_bool HV.out.symm, rfl⟩
      by_cases c2 : ((⟨s.toArray⟩ : ByteArray)[k]'hsz).toNat ≤ 57
      · have HN := Lib.hid (HG.out (.inl ⟨by omega, c2⟩))
        clear HG HB HK
        have c1' : ((⟨s.toArray⟩ : ByteArray)[k]'hsz).toNat < 97 := by omega
        go_wp2
        go_round
        case rel => exact ⟨k + 1, by omega, by go_num, HN⟩
        case measure => simp [intOf]; omega
      by_cases c3 : ((⟨s.toArray⟩ : ByteArray)[k]'hsz).toNat < 97
      · have HV := Lib.hid (HB.out (by omega))
        clear HG HB HS HK
        go_wp2
        go_ret
        exact ⟨ret_bool HV.out.symm, rfl⟩
      by_cases c4 : ((⟨s.toArray⟩ : ByteArray)[k]'hsz).toNat ≤ 122
      · have HN := Lib.hid (HG.out (.inr ⟨by omega, c4⟩))
        clear HG HB HK
        go_wp2
        go_round
        case rel => exact ⟨k + 1, by omega, by go_num, HN⟩
        case measure => simp [intOf]; omega
      · have HV := Lib.hid (HB.out (by omega))
        clear HG HB HS HK
        go_wp2
        go_ret
        exact ⟨ret_bool HV.out.symm, rfl⟩
    · obtain rfl : k = s.length := by omega
      have hv : S = decide (s ≠ []) := by rw [HS.out]; unfold letB; rw [HK.out]; rfl
      have HV := Lib.hid hv; clear hv HS HK
      cases s with
      | nil =>
        go_wp2
        go_ret
        exact ⟨ret_bool (by rw [HV.out]; first | rfl | decide | simp), rfl⟩
      | cons b r =>
        go_wp2
        go_ret
        exact ⟨ret_bool (by rw [HV.out]; first | rfl | (simp; done) | (simp; omega)), rfl⟩

set_option maxRecDepth 100000 in
set_option maxHeartbeats 1600000 in
theorem number_any9 (s : Wd) (hs : s.length ≤ 1000000000) (w : World) : Calls Tryz.prog 234 #[St s] w fun e w' => e = .returned (.tuple #[.int .i64 (numV s), .bool (numOk s)]) ∧ w' = w := by
  obtain ⟨V, hV⟩ : ∃ V, V = numV s := ⟨_, rfl⟩
  obtain ⟨O, hO⟩ : ∃ O, O = numOk s := ⟨_, rfl⟩
  rw [← hV, ← hO]
  have HV := Lib.hid hV; have HO := Lib.hid hO; clear hV hO
  by_cases l1 : s.length < 1
  · have e1 := Lib.hid (HV.out.trans (numV_form (formB_no (.inl l1)))); have e2 := Lib.hid (HO.out.trans (numOk_form (formB_no (.inl l1)))); clear HV HO
    have l1' : s = [] := List.eq_nil_of_length_eq_zero (by omega)
    subst l1'
    go_enter Tryz.func234, Tryz.ntmps234
    go_wp2
    go_ret2
    exact ⟨ret2 (congrArg (Value.int .i64) e1.out.symm) (congrArg Value.bool e2.out.symm), rfl⟩
  by_cases l2 : 7 < s.length
  · have e1 := Lib.hid (HV.out.trans (numV_form (formB_no (.inr (.inl l2))))); have e2 := Lib.hid (HO.out.trans (numOk_form (formB_no (.inr (.inl l2))))); clear HV HO
    go_enter Tryz.func234, Tryz.ntmps234
    go_wp2
    go_ret2
    exact ⟨ret2 (congrArg (Value.int .i64) e1.out.symm) (congrArg Value.bool e2.out.symm), rfl⟩
  have hsz0 : 0 < ByteArray.size ⟨s.toArray⟩ := by rw [st_size]; omega
  have hg0 : gb s 0 = (⟨s.toArray⟩ : ByteArray)[0]'hsz0 := by rw [st_get s 0 hsz0]; simp [gb, show 0 < s.length by omega]
  have cont : formB s = true → Calls Tryz.prog 234 #[St s] w fun e w' => e = .returned (.tuple #[.int .i64 V, .bool O]) ∧ w' = w := fun hf => by
    have hz : (decide (1 < s.length) && (((⟨s.toArray⟩ : ByteArray)[0]'hsz0).toNat == 48)) = false := by
      unfold formB at hf
      rw [decide_eq_true_eq] at hf
      obtain ⟨_, _, h⟩ := hf
      rcases h with h | h
      · simp [h]
      · have : ((⟨s.toArray⟩ : ByteArray)[0]'hsz0).toNat ≠ 48 := fun e => h (by rw [hg0]; exact UInt8.toNat_inj.1 e)
        simp [this]
    have HF := Lib.hid hf; clear hf hg0
    go_enter Tryz.func234, Tryz.ntmps234
    have hzz : s.length ≤ 1 ∨ 1 < s.length ∧ ((((⟨s.toArray⟩ : ByteArray)[0]'hsz0).toNat : Int) == 48) = false := by
      rw [Bool.and_eq_false_iff, decide_eq_false_iff_not, beq_eq_false_iff_ne] at hz
      rcases hz with h | h
      · exact .inl (by omega)
      · by_cases e : 1 < s.length
        · exact .inr ⟨e, by rw [beq_eq_false_iff_ne]; omega⟩
        · exact .inl (by omega)
    clear hz
    rcases hzz with hz | ⟨hz, hz'⟩
    all_goals
      go_wp2
      go_loop [4, 26] (fun o x => ∃ k : Nat, k ≤ s.length ∧ x = .int .i64 k ∧ o = .int .i64 (numTo' s k : Nat) ∧ Hid (digTo s k = true)) (fun _ x => s.length - (intOf x).toNat)
      case atStart => exact ⟨0, by omega, rfl, rfl, rfl⟩
      case round =>
        obtain ⟨k, hk, rfl, rfl, HK⟩ := hrel
        have hlt9 := numTo'_lt HK.out
        have hp7 : 10 ^ k ≤ 10 ^ 7 := Nat.pow_le_pow_right (by omega) (by omega)
        by_cases hlt : k < s.length
        · have hsz : k < ByteArray.size ⟨s.toArray⟩ := by rw [st_size]; exact hlt
          have hgb : gb s k = (⟨s.toArray⟩ : ByteArray)[k]'hsz := by rw [st_get s k hsz]; simp [gb, hlt]
          have hgood : 48 ≤ ((⟨s.toArray⟩ : ByteArray)[k]'hsz).toNat → ((⟨s.toArray⟩ : ByteArray)[k]'hsz).toNat ≤ 57 → digTo s (k + 1) = true := fun h h' => by
            simp only [digTo, HK.out, Bool.true_and]; unfold digB; rw [hgb, decide_eq_true_eq]; omega
          have hbad : ¬ (48 ≤ ((⟨s.toArray⟩ : ByteArray)[k]'hsz).toNat ∧ ((⟨s.toArray⟩ : ByteArray)[k]'hsz).toNat ≤ 57) → V = 0 ∧ O = false := fun h => by
            have hd : digTo s s.length = false := digTo_bad (by unfold digB; rw [hgb, decide_eq_false_iff_not]; exact h) hlt
            exact ⟨HV.out.trans (by unfold numV; rw [hd, Bool.and_false]; rfl), HO.out.trans (by unfold numOk; rw [hd]; simp)⟩
          have hnx : 48 ≤ ((⟨s.toArray⟩ : ByteArray)[k]'hsz).toNat → ((numTo' s (k + 1) : Nat) : Int) = 10 * (numTo' s k : Nat) + (((((⟨s.toArray⟩ : ByteArray)[k]'hsz).toNat : Nat) : Int) - 48) := fun h => by simp only [numTo']; rw [hgb]; omega
          have HG := Lib.hid hgood
          have HB := Lib.hid hbad
          have HX := Lib.hid hnx
          clear hgood hbad hgb hnx
          by_cases c1 : ((⟨s.toArray⟩ : ByteArray)[k]'hsz).toNat < 48
          · have e1 := Lib.hid (HB.out (by omega)).1; have e2 := Lib.hid (HB.out (by omega)).2
            clear HG HB HV HO HK HX
            go_wp2
            go_ret2
            exact ⟨ret2 (congrArg (Value.int .i64) e1.out.symm) (congrArg Value.bool e2.out.symm), rfl⟩
          by_cases c2 : 57 < ((⟨s.toArray⟩ : ByteArray)[k]'hsz).toNat
          · have e1 := Lib.hid (HB.out (by omega)).1; have e2 := Lib.hid (HB.out (by omega)).2
            clear HG HB HV HO HK HX
            go_wp2
            go_ret2
            exact ⟨ret2 (congrArg (Value.int .i64) e1.out.symm) (congrArg Value.bool e2.out.symm), rfl⟩
          · have HN := Lib.hid (HG.out (by omega) (by omega))
            have HX' := Lib.hid (HX.out (by omega))
            clear HG HB HK HX
            go_wp2
            go_round
            case rel => exact ⟨k + 1, by omega, by go_num, by rw [HX'.out], HN⟩
            case measure => simp [intOf]; omega
        · obtain rfl : k = s.length := by omega
          have e1 : V = (numTo' s s.length : Nat) := HV.out.trans (by unfold numV; rw [HF.out, HK.out]; rfl)
          have e2 : O = decide (numTo' s s.length ≤ 2000000) := HO.out.trans (by unfold numOk; rw [HF.out, HK.out]; rfl)
          have E1 := Lib.hid e1; have E2 := Lib.hid e2
          clear e1 e2 HV HO HF HK
          go_wp2
          go_ret2
          exact ⟨ret2 (congrArg (Value.int .i64) E1.out.symm) (by rw [E2.out]; show Value.bool _ = _; congr 1; rw [decide_eq_decide]; omega), rfl⟩
  by_cases l3 : 1 < s.length
  · by_cases c0 : ((⟨s.toArray⟩ : ByteArray)[0]'hsz0).toNat = 48
    · have h3 : formB s = false := formB_no (.inr (.inr ⟨l3, by rw [hg0]; exact UInt8.toNat_inj.1 c0⟩))
      have e1 := Lib.hid (HV.out.trans (numV_form h3)); have e2 := Lib.hid (HO.out.trans (numOk_form h3)); clear HV HO cont h3 hg0
      have c0' : ((((⟨s.toArray⟩ : ByteArray)[0]'hsz0).toNat : Int) == 48) = true := by rw [beq_iff_eq]; omega
      go_enter Tryz.func234, Tryz.ntmps234
      go_wp2
      go_ret2
      exact ⟨ret2 (congrArg (Value.int .i64) e1.out.symm) (congrArg Value.bool e2.out.symm), rfl⟩
    · exact cont (by unfold formB; rw [decide_eq_true_eq]; refine ⟨by omega, by omega, .inr fun e => c0 ?_⟩; rw [← hg0, e]; rfl)
  · exact cont (by unfold formB; rw [decide_eq_true_eq]; exact ⟨by omega, by omega, .inl (by omega)⟩)

set_option maxRecDepth 100000 in
set_option maxHeartbeats 1600000 in
theorem rnumber_any9 (s : Wd) (hs : s.length ≤ 1000000000) (w : World) : Calls Tryz.prog 203 #[St s] w fun e w' => e = .returned (.tuple #[.int .i64 (numV s), .bool (numOk s)]) ∧ w' = w := by
  obtain ⟨V, hV⟩ : ∃ V, V = numV s := ⟨_, rfl⟩
  obtain ⟨O, hO⟩ : ∃ O, O = numOk s := ⟨_, rfl⟩
  rw [← hV, ← hO]
  have HV := Lib.hid hV; have HO := Lib.hid hO; clear hV hO
  by_cases l1 : s.length < 1
  · have e1 := Lib.hid (HV.out.trans (numV_form (formB_no (.inl l1)))); have e2 := Lib.hid (HO.out.trans (numOk_form (formB_no (.inl l1)))); clear HV HO
    have l1' : s = [] := List.eq_nil_of_length_eq_zero (by omega)
    subst l1'
    go_enter Tryz.func203, Tryz.ntmps203
    go_wp2
    go_ret2
    exact ⟨ret2 (congrArg (Value.int .i64) e1.out.symm) (congrArg Value.bool e2.out.symm), rfl⟩
  by_cases l2 : 7 < s.length
  · have e1 := Lib.hid (HV.out.trans (numV_form (formB_no (.inr (.inl l2))))); have e2 := Lib.hid (HO.out.trans (numOk_form (formB_no (.inr (.inl l2))))); clear HV HO
    go_enter Tryz.func203, Tryz.ntmps203
    go_wp2
    go_ret2
    exact ⟨ret2 (congrArg (Value.int .i64) e1.out.symm) (congrArg Value.bool e2.out.symm), rfl⟩
  have hsz0 : 0 < ByteArray.size ⟨s.toArray⟩ := by rw [st_size]; omega
  have hg0 : gb s 0 = (⟨s.toArray⟩ : ByteArray)[0]'hsz0 := by rw [st_get s 0 hsz0]; simp [gb, show 0 < s.length by omega]
  have cont : formB s = true → Calls Tryz.prog 203 #[St s] w fun e w' => e = .returned (.tuple #[.int .i64 V, .bool O]) ∧ w' = w := fun hf => by
    have hz : (decide (1 < s.length) && (((⟨s.toArray⟩ : ByteArray)[0]'hsz0).toNat == 48)) = false := by
      unfold formB at hf
      rw [decide_eq_true_eq] at hf
      obtain ⟨_, _, h⟩ := hf
      rcases h with h | h
      · simp [h]
      · have : ((⟨s.toArray⟩ : ByteArray)[0]'hsz0).toNat ≠ 48 := fun e => h (by rw [hg0]; exact UInt8.toNat_inj.1 e)
        simp [this]
    have HF := Lib.hid hf; clear hf hg0
    go_enter Tryz.func203, Tryz.ntmps203
    have hzz : s.length ≤ 1 ∨ 1 < s.length ∧ ((((⟨s.toArray⟩ : ByteArray)[0]'hsz0).toNat : Int) == 48) = false := by
      rw [Bool.and_eq_false_iff, decide_eq_false_iff_not, beq_eq_false_iff_ne] at hz
      rcases hz with h | h
      · exact .inl (by omega)
      · by_cases e : 1 < s.length
        · exact .inr ⟨e, by rw [beq_eq_false_iff_ne]; omega⟩
        · exact .inl (by omega)
    clear hz
    rcases hzz with hz | ⟨hz, hz'⟩
    all_goals
      go_wp2
      go_loop [4, 5] (fun o x => ∃ k : Nat, k ≤ s.length ∧ x = .int .i64 k ∧ o = .int .i64 (numTo' s k : Nat) ∧ Hid (digTo s k = true)) (fun _ x => s.length - (intOf x).toNat)
      case atStart => exact ⟨0, by omega, rfl, rfl, rfl⟩
      case round =>
        obtain ⟨k, hk, rfl, rfl, HK⟩ := hrel
        have hlt9 := numTo'_lt HK.out
        have hp7 : 10 ^ k ≤ 10 ^ 7 := Nat.pow_le_pow_right (by omega) (by omega)
        by_cases hlt : k < s.length
        · have hsz : k < ByteArray.size ⟨s.toArray⟩ := by rw [st_size]; exact hlt
          have hgb : gb s k = (⟨s.toArray⟩ : ByteArray)[k]'hsz := by rw [st_get s k hsz]; simp [gb, hlt]
          have hgood : 48 ≤ ((⟨s.toArray⟩ : ByteArray)[k]'hsz).toNat → ((⟨s.toArray⟩ : ByteArray)[k]'hsz).toNat ≤ 57 → digTo s (k + 1) = true := fun h h' => by
            simp only [digTo, HK.out, Bool.true_and]; unfold digB; rw [hgb, decide_eq_true_eq]; omega
          have hbad : ¬ (48 ≤ ((⟨s.toArray⟩ : ByteArray)[k]'hsz).toNat ∧ ((⟨s.toArray⟩ : ByteArray)[k]'hsz).toNat ≤ 57) → V = 0 ∧ O = false := fun h => by
            have hd : digTo s s.length = false := digTo_bad (by unfold digB; rw [hgb, decide_eq_false_iff_not]; exact h) hlt
            exact ⟨HV.out.trans (by unfold numV; rw [hd, Bool.and_false]; rfl), HO.out.trans (by unfold numOk; rw [hd]; simp)⟩
          have hnx : 48 ≤ ((⟨s.toArray⟩ : ByteArray)[k]'hsz).toNat → ((numTo' s (k + 1) : Nat) : Int) = 10 * (numTo' s k : Nat) + (((((⟨s.toArray⟩ : ByteArray)[k]'hsz).toNat : Nat) : Int) - 48) := fun h => by simp only [numTo']; rw [hgb]; omega
          have HG := Lib.hid hgood
          have HB := Lib.hid hbad
          have HX := Lib.hid hnx
          clear hgood hbad hgb hnx
          by_cases c1 : ((⟨s.toArray⟩ : ByteArray)[k]'hsz).toNat < 48
          · have e1 := Lib.hid (HB.out (by omega)).1; have e2 := Lib.hid (HB.out (by omega)).2
            clear HG HB HV HO HK HX
            go_wp2
            go_ret2
            exact ⟨ret2 (congrArg (Value.int .i64) e1.out.symm) (congrArg Value.bool e2.out.symm), rfl⟩
          by_cases c2 : 57 < ((⟨s.toArray⟩ : ByteArray)[k]'hsz).toNat
          · have e1 := Lib.hid (HB.out (by omega)).1; have e2 := Lib.hid (HB.out (by omega)).2
            clear HG HB HV HO HK HX
            go_wp2
            go_ret2
            exact ⟨ret2 (congrArg (Value.int .i64) e1.out.symm) (congrArg Value.bool e2.out.symm), rfl⟩
          · have HN := Lib.hid (HG.out (by omega) (by omega))
            have HX' := Lib.hid (HX.out (by omega))
            clear HG HB HK HX
            go_wp2
            go_round
            case rel => exact ⟨k + 1, by omega, by go_num, by rw [HX'.out], HN⟩
            case measure => simp [intOf]; omega
        · obtain rfl : k = s.length := by omega
          have e1 : V = (numTo' s s.length : Nat) := HV.out.trans (by unfold numV; rw [HF.out, HK.out]; rfl)
          have e2 : O = decide (numTo' s s.length ≤ 2000000) := HO.out.trans (by unfold numOk; rw [HF.out, HK.out]; rfl)
          have E1 := Lib.hid e1; have E2 := Lib.hid e2
          clear e1 e2 HV HO HF HK
          go_wp2
          go_ret2
          exact ⟨ret2 (congrArg (Value.int .i64) E1.out.symm) (by rw [E2.out]; show Value.bool _ = _; congr 1; rw [decide_eq_decide]; omega), rfl⟩
  by_cases l3 : 1 < s.length
  · by_cases c0 : ((⟨s.toArray⟩ : ByteArray)[0]'hsz0).toNat = 48
    · have h3 : formB s = false := formB_no (.inr (.inr ⟨l3, by rw [hg0]; exact UInt8.toNat_inj.1 c0⟩))
      have e1 := Lib.hid (HV.out.trans (numV_form h3)); have e2 := Lib.hid (HO.out.trans (numOk_form h3)); clear HV HO cont h3 hg0
      have c0' : ((((⟨s.toArray⟩ : ByteArray)[0]'hsz0).toNat : Int) == 48) = true := by rw [beq_iff_eq]; omega
      go_enter Tryz.func203, Tryz.ntmps203
      go_wp2
      go_ret2
      exact ⟨ret2 (congrArg (Value.int .i64) e1.out.symm) (congrArg Value.bool e2.out.symm), rfl⟩
    · exact cont (by unfold formB; rw [decide_eq_true_eq]; refine ⟨by omega, by omega, .inr fun e => c0 ?_⟩; rw [← hg0, e]; rfl)
  · exact cont (by unfold formB; rw [decide_eq_true_eq]; exact ⟨by omega, by omega, .inl (by omega)⟩)
end Go.Proofs.YtiapkffihpgdcaaGreatDoor
/-
  Walks: the place of a dish (the program's office).
-/
namespace Go.Proofs.YtiapkffihpgdcaaGreatDoor
set_option linter.unusedVariables false
set_option linter.unusedSimpArgs false
open Go.RowKit

/-- The place of a dish; -1 if there is none. -/
def dix (l : List Dh) (n : Wd) : Int := match l.findIdx? (fun x => decide (x.name = n)) with
  | some i => i
  | none => -1
theorem dix_none {l : List Dh} {n : Wd} (h : dishB l n = false) : dix l n = -1 := by
  unfold dishB at h
  rw [anyTo_false] at h
  unfold dix
  rw [List.findIdx?_eq_none_iff.2 fun x hx => ?_]
  obtain ⟨i, hi, rfl⟩ := List.mem_iff_getElem.1 hx
  have := h i hi
  simpa [gd, hi] using this
theorem dix_first {l : List Dh} {n : Wd} {k : Nat} (hk : k < l.length) (h : (gd l k).name = n) (hb : anyTo (fun i => decide ((gd l i).name = n)) k = false) : dix l n = k := by
  rw [anyTo_false] at hb
  unfold dix
  have e : l.findIdx? (fun x => decide (x.name = n)) = some k := by
    rw [List.findIdx?_eq_some_iff_getElem]
    refine ⟨hk, ?_, fun j hj => ?_⟩
    · simpa [gd, hk] using h
    · have := hb j hj
      simp [gd, show j < l.length by omega] at this
      simpa using this
  rw [e]
theorem dix_some {l : List Dh} {n : Wd} (h : dishB l n = true) : ∃ k : Nat, k < l.length ∧ dix l n = k ∧ (gd l k).name = n ∧ gd l k = dshOf l n := by
  unfold dishB at h
  rw [anyTo_iff] at h
  obtain ⟨i, hi, hn⟩ := h
  obtain ⟨k, hk⟩ : ∃ k, (l.findIdx? fun x => decide (x.name = n)) = some k := by
    cases hf : l.findIdx? fun x => decide (x.name = n) with
    | some k => exact ⟨k, rfl⟩
    | none =>
      have := List.findIdx?_eq_none_iff.1 hf l[i] (List.getElem_mem hi)
      simp [gd, hi] at hn
      simp [hn] at this
  obtain ⟨h1, h2, h3⟩ := List.findIdx?_eq_some_iff_getElem.1 hk
  refine ⟨k, h1, by unfold dix; rw [hk], by simpa [gd, h1] using h2, ?_⟩
  have e : l.find? (fun x => decide (x.name = n)) = some l[k] := by
    rw [List.find?_eq_some_iff_getElem]
    exact ⟨h2, k, h1, rfl, fun j hj => by simpa using h3 j hj⟩
  unfold dshOf
  rw [e]
  simp [gd, h1]
theorem dix_no {l : List Dh} {n : Wd} (hh : dishB l n = false) : decide (dix l n < 0) = true ∧ decide (0 ≤ dix l n) = false := by rw [dix_none hh]; exact ⟨rfl, rfl⟩
theorem dix_yes {l : List Dh} {n : Wd} (hh : dishB l n = true) : decide (dix l n < 0) = false ∧ decide (0 ≤ dix l n) = true := by
  obtain ⟨k, _, hk, _⟩ := dix_some hh
  rw [hk, decide_eq_false_iff_not, decide_eq_true_eq]; omega
set_option maxRecDepth 100000 in
set_option maxHeartbeats 800000 in
theorem indexDish_serve (l : List Dh) (n : Wd) (hl : l.length ≤ 1000000000) (A : Option Addr) (c b : Nat) (w : World) (hR : RDh (fun _ => True) w A l) (hb : w.cell? ⟨b, 0, none⟩ = some (St n)) (hbs : b < w.heap.size) :
    Calls Tryz.prog 104 #[.slice A l.length c, .func (.func 286) #[] #[.pointer (some ⟨b, 0, none⟩)]] w fun e w' => e = .returned (.int .i64 (dix l n)) ∧ Below w.heap.size w w' := by
  obtain ⟨S, hS⟩ : ∃ S, S = dix l n := ⟨_, rfl⟩
  rw [← hS]
  have HS := Lib.hid hS; clear hS
  go_enter Tryz.func104, Tryz.ntmps104
  go_wp2
  go_loopw [8] (fun x wr => ∃ k : Nat, k ≤ l.length ∧ x = .int .i64 k ∧ Hid (anyTo (fun i => decide ((gd l i).name = n)) k = false) ∧ Below w.heap.size w wr) (fun x _ => l.length - (intOf x).toNat)
  case atStart => exact ⟨0, by omega, rfl, rfl, Below.refl _ _⟩
  case round =>
    obtain ⟨k, hkl, rfl, HK, hbl⟩ := hrel
    have hbr := (hbl.cell (p := ⟨b, 0, none⟩) hbs).trans hb
    have hsz := hbl.size
    by_cases hlt : k < l.length
    · obtain ⟨ad, rfl, hab, _, d0, d1⟩ := R2.at_ (R2.below hR hbl) hlt
      obtain ⟨nm, hnm⟩ : ∃ nm, nm = (gd l k).name := ⟨_, rfl⟩
      have HNM := Lib.hid hnm
      rw [← hnm] at d0
      clear hnm
      obtain ⟨w5, hw5⟩ : ∃ w5, wr.alloc (.cells #[St nm, .int .i64 (gd l k).item] 81) = w5 := ⟨_, rfl⟩
      have hb5 : Below wr.heap.size wr w5 := by rw [← hw5]; exact (Below.refl _ wr).alloc (Nat.le_refl _) _
      have b5 : Box w5 wr.heap.size #[St nm, .int .i64 (gd l k).item] := by rw [← hw5]; exact (Box.new wr _ _)
      have u0 := b5.cell 0
      simp only [List.getElem?_toArray, List.getElem?_cons_zero, List.getElem?_cons_succ] at u0
      have hbr5 := (hb5.cell (p := ⟨b, 0, none⟩) (by show b < wr.heap.size; omega)).trans hbr
      have hbl5 := hbl.trans (hb5.mono hsz)
      by_cases hn : nm = n
      · have HV := Lib.hid (HS.out.trans (dix_first hlt (by rw [← HNM.out]; exact hn) HK.out))
        have hn' : (nm == n) = true := by simp [hn]
        clear HS HK hn
        go_wp2
        go_ret
        exact ⟨ret_int HV.out.symm, hbl5⟩
      · have HN : Hid (anyTo (fun i => decide ((gd l i).name = n)) (k + 1) = false) := by
          show _ = _
          simp only [anyTo]
          rw [HK.out, ← HNM.out, decide_eq_false hn]; rfl
        have hn' : (nm == n) = false := by simp [hn]
        clear HS HK hn
        go_wp2
        go_roundw
        case rel => exact ⟨k + 1, by omega, by go_num, HN, hbl5⟩
        case measure => simp [intOf]; omega
    · obtain rfl : k = l.length := by omega
      have HV := Lib.hid (HS.out.trans (dix_none HK.out))
      clear HS HK
      go_wp2
      go_ret
      exact ⟨ret_int HV.out.symm, hbl⟩
set_option maxRecDepth 100000 in
set_option maxHeartbeats 800000 in
theorem indexDish_label (l : List Dh) (n : Wd) (hl : l.length ≤ 1000000000) (A : Option Addr) (c b : Nat) (w : World) (hR : RDh (fun _ => True) w A l) (hb : w.cell? ⟨b, 0, none⟩ = some (St n)) (hbs : b < w.heap.size) :
    Calls Tryz.prog 104 #[.slice A l.length c, .func (.func 105) #[] #[.pointer (some ⟨b, 0, none⟩)]] w fun e w' => e = .returned (.int .i64 (dix l n)) ∧ Below w.heap.size w w' := by
  obtain ⟨S, hS⟩ : ∃ S, S = dix l n := ⟨_, rfl⟩
  rw [← hS]
  have HS := Lib.hid hS; clear hS
  go_enter Tryz.func104, Tryz.ntmps104
  go_wp2
  go_loopw [8] (fun x wr => ∃ k : Nat, k ≤ l.length ∧ x = .int .i64 k ∧ Hid (anyTo (fun i => decide ((gd l i).name = n)) k = false) ∧ Below w.heap.size w wr) (fun x _ => l.length - (intOf x).toNat)
  case atStart => exact ⟨0, by omega, rfl, rfl, Below.refl _ _⟩
  case round =>
    obtain ⟨k, hkl, rfl, HK, hbl⟩ := hrel
    have hbr := (hbl.cell (p := ⟨b, 0, none⟩) hbs).trans hb
    have hsz := hbl.size
    by_cases hlt : k < l.length
    · obtain ⟨ad, rfl, hab, _, d0, d1⟩ := R2.at_ (R2.below hR hbl) hlt
      obtain ⟨nm, hnm⟩ : ∃ nm, nm = (gd l k).name := ⟨_, rfl⟩
      have HNM := Lib.hid hnm
      rw [← hnm] at d0
      clear hnm
      obtain ⟨w5, hw5⟩ : ∃ w5, wr.alloc (.cells #[St nm, .int .i64 (gd l k).item] 81) = w5 := ⟨_, rfl⟩
      have hb5 : Below wr.heap.size wr w5 := by rw [← hw5]; exact (Below.refl _ wr).alloc (Nat.le_refl _) _
      have b5 : Box w5 wr.heap.size #[St nm, .int .i64 (gd l k).item] := by rw [← hw5]; exact (Box.new wr _ _)
      have u0 := b5.cell 0
      simp only [List.getElem?_toArray, List.getElem?_cons_zero, List.getElem?_cons_succ] at u0
      have hbr5 := (hb5.cell (p := ⟨b, 0, none⟩) (by show b < wr.heap.size; omega)).trans hbr
      have hbl5 := hbl.trans (hb5.mono hsz)
      by_cases hn : nm = n
      · have HV := Lib.hid (HS.out.trans (dix_first hlt (by rw [← HNM.out]; exact hn) HK.out))
        have hn' : (nm == n) = true := by simp [hn]
        clear HS HK hn
        go_wp2
        go_ret
        exact ⟨ret_int HV.out.symm, hbl5⟩
      · have HN : Hid (anyTo (fun i => decide ((gd l i).name = n)) (k + 1) = false) := by
          show _ = _
          simp only [anyTo]
          rw [HK.out, ← HNM.out, decide_eq_false hn]; rfl
        have hn' : (nm == n) = false := by simp [hn]
        clear HS HK hn
        go_wp2
        go_roundw
        case rel => exact ⟨k + 1, by omega, by go_num, HN, hbl5⟩
        case measure => simp [intOf]; omega
    · obtain rfl : k = l.length := by omega
      have HV := Lib.hid (HS.out.trans (dix_none HK.out))
      clear HS HK
      go_wp2
      go_ret
      exact ⟨ret_int HV.out.symm, hbl⟩
set_option maxRecDepth 100000 in
set_option maxHeartbeats 800000 in
theorem containsDish_any (l : List Dh) (n : Wd) (hl : l.length ≤ 1000000000) (A : Option Addr) (c b : Nat) (w : World) (hR : RDh (fun _ => True) w A l) (hb : w.cell? ⟨b, 0, none⟩ = some (St n)) (hbs : b < w.heap.size) :
    Calls Tryz.prog 285 #[.slice A l.length c, .func (.func 286) #[] #[.pointer (some ⟨b, 0, none⟩)]] w fun e w' => e = .returned (.bool (dishB l n)) ∧ Below w.heap.size w w' := by
  have hd : decide (0 ≤ dix l n) = dishB l n := by
    cases h : dishB l n with
    | true => exact (dix_yes h).2
    | false => exact (dix_no h).2
  have HD := Lib.hid hd
  clear hd
  go_enter Tryz.func285, Tryz.ntmps285
  go_wp2_with (go_at_call 104; (with_reducible refine (indexDish_serve l n hl A c b _ hR hb hbs).mono ?_); rintro e w2 ⟨rfl, hb2⟩)
  go_ret
  exact ⟨ret_bool HD.out, hb2⟩
end Go.Proofs.YtiapkffihpgdcaaGreatDoor
