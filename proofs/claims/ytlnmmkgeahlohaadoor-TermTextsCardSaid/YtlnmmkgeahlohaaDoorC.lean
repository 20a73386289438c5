/-
  Walks: which days are school days.
-/
import Derived.Test.YtlnmmkgeahlohaaDoorB
namespace Go.Proofs.YtlnmmkgeahlohaaDoor
set_option linter.unusedVariables false
set_option linter.unusedSimpArgs false
open Go.RowKit

def IdxOf (b : Bool) (w0 : World) (e : Ending) (w' : World) : Prop := ∃ i : Int, e = .returned (.int .i64 i) ∧ (b = true → 0 ≤ i) ∧ (b = false → i < 0) ∧ w0 = w'
set_option maxRecDepth 100000 in
set_option maxHeartbeats 400000 in
theorem index_any (l : List Int) (x : Int) (hl : l.length ≤ 1000000000) (A : Option Addr) (c : Nat) (w : World) (hR : RN w A l) :
    Calls Tryd.prog 71 #[.slice A l.length c, .int .i64 x] w (IdxOf (hasB l x) w) := by
  obtain ⟨S, hS⟩ : ∃ S, S = hasB l x := ⟨_, rfl⟩
  rw [← hS]
  have HS := Lib.hid hS
  clear hS
  go_enter Tryd.func71, Tryd.ntmps71
  go_wp2
  go_loop [8] (fun y => ∃ k : Nat, k ≤ l.length ∧ y = .int .i64 k ∧ Hid (hasTo l x k = false)) (fun y => l.length - (intOf y).toNat)
  case atStart => exact ⟨0, by omega, rfl, rfl⟩
  case round =>
    obtain ⟨k, hk, rfl, HK⟩ := hrel
    by_cases hlt : k < l.length
    · obtain ⟨ad, rfl, hab, c0⟩ := hR.at_ hlt
      cases hq : (x == gi l k) with
      | true =>
        have hv : S = true := by rw [HS.out]; exact (hasB_iff _ _).2 ⟨k, hlt, by have := beq_iff_eq.1 hq; exact this.symm⟩
        have HV := Lib.hid hv
        clear hv
        go_wp2
        go_ret
        exact ⟨k, rfl, (fun _ => by omega), (fun h => by rw [HV.out] at h; cases h), rfl⟩
      | false =>
        have hq' : (gi l k == x) = false := by rw [beq_eq_false_iff_ne] at hq ⊢; exact fun h => hq h.symm
        have hnx : hasTo l x (k + 1) = false := by simp only [hasTo, HK.out, hq']; rfl
        have HNX := Lib.hid hnx
        clear hnx hq'
        go_wp2
        go_round
        case rel => exact ⟨k + 1, by omega, by go_num, HNX⟩
        case measure => simp [intOf]; omega
    · have hv : S = false := by rw [HS.out]; unfold hasB; rw [show l.length = k by omega]; exact HK.out
      have HV := Lib.hid hv; clear hv
      go_wp2
      go_ret
      exact ⟨-1, rfl, (fun h => by rw [HV.out] at h; cases h), (fun _ => by omega), rfl⟩

set_option maxHeartbeats 400000 in
theorem contains_any (l : List Int) (x : Int) (hl : l.length ≤ 1000000000) (A : Option Addr) (c : Nat) (w : World) (hR : RN w A l) :
    Calls Tryd.prog 56 #[.slice A l.length c, .int .i64 x] w fun e w' => e = .returned (.bool (hasB l x)) ∧ w = w' := by
  go_enter Tryd.func56, Tryd.ntmps56
  go_wp2_with fail
  refine (index_any l x hl A c _ hR).mono ?_
  rintro e w2 ⟨i, rfl, hi1, hi2, rfl⟩
  cases hf : hasB l x with
  | true =>
    have h0 := hi1 hf
    have HF := Lib.hid hf
    clear hi1 hi2 hf
    go_wp2
    go_ret
    exact ⟨ret_bool (by rw [HF.out] <;> first | rfl | (simp; done) | (simp [h0]; done) | (simp; omega)), rfl⟩
  | false =>
    have h0 := hi2 hf
    have HF := Lib.hid hf
    clear hi1 hi2 hf
    go_wp2
    go_ret
    exact ⟨ret_bool (by rw [HF.out] <;> first | rfl | (simp; done) | (simp [h0]; done) | (simp; omega)), rfl⟩

set_option maxHeartbeats 400000 in
theorem weekday_any (t : Tm) (d : Int) (A1 A2 : Option Addr) (c1 c2 : Nat) (w : World) (h1 : RN w A1 t.rest) (h2 : RN w A2 t.clo) (hok : TmOk t) (hd : 0 ≤ d) (hd2 : d ≤ 1000) :
    Calls Tryd.prog 42 #[.agg #[.int .i64 t.len, .slice A1 t.rest.length c1, .slice A2 t.clo.length c2], .int .i64 d] w fun e w' => e = .returned (.bool (wkB t d)) ∧ Below w.heap.size w w' := by
  have hb0 : Below w.heap.size w (w.alloc (.cells #[.int .i64 t.len, .slice A1 t.rest.length c1, .slice A2 t.clo.length c2] 24)) := (Below.refl _ _).alloc (Nat.le_refl _) _
  have hl := isSet_len hok.rest (by omega)
  go_enter Tryd.func42, Tryd.ntmps42
  go_wp2_with fail
  refine (contains_any t.rest (d % 7) (by omega) A1 c1 _ (h1.below hb0)).mono ?_
  rintro e w2 ⟨rfl, rfl⟩
  go_wp2
  go_ret
  exact ⟨rfl, hb0⟩
theorem isNaN_any (n : Int) (w : World) : Calls Tryd.prog 70 #[.int .i64 n] w fun e w' => e = .returned (.bool false) ∧ w = w' := by
  have h : (n != n) = false := by simp
  go_enter Tryd.func70, Tryd.ntmps70
  go_wp2
  go_ret
  exact ⟨rfl, rfl⟩
theorem sisNaN_any (n : Int) (w : World) : Calls Tryd.prog 55 #[.int .i64 n] w fun e w' => e = .returned (.bool false) ∧ w = w' := by
  have h : (n != n) = false := by simp
  go_enter Tryd.func55, Tryd.ntmps55
  go_wp2
  go_ret
  exact ⟨rfl, rfl⟩
theorem less_any (a b : Int) (w : World) : Calls Tryd.prog 54 #[.int .i64 a, .int .i64 b] w fun e w' => e = .returned (.bool (decide (a < b))) ∧ w = w' := by
  go_enter Tryd.func54, Tryd.ntmps54
  go_wp2_with (go_at_call 70; refine (isNaN_any _ _).mono ?_; rintro e w' ⟨rfl, rfl⟩)
  go_ret
  exact ⟨rfl, rfl⟩

/-- How far the search has come. -/
def Srch (l : List Int) (x : Int) (i j : Nat) : Prop := (∀ m, m < i → gi l m < x) ∧ (∀ m, j ≤ m → m < l.length → x ≤ gi l m)
set_option maxRecDepth 100000 in
set_option maxHeartbeats 800000 in
theorem search_any (l : List Int) (x b : Int) (hs : isSet l b = true) (hl : l.length ≤ 1000000) (A : Option Addr) (c : Nat) (w : World) (hR : RN w A l) :
    Calls Tryd.prog 41 #[.slice A l.length c, .int .i64 x] w fun e w' => ∃ n : Nat, CutI l x n ∧ e = .returned (.tuple #[.int .i64 n, .bool (hasB l x)]) ∧ Below w.heap.size w w' := by
  have HSet := Lib.hid hs
  obtain ⟨b', hb'⟩ : ∃ b', b' = hasB l x := ⟨_, rfl⟩
  rw [← hb']
  have HB := Lib.hid hb'
  clear hs hb'
  go_enter Tryd.func41, Tryd.ntmps41
  go_wp2
  go_loop [7, 8] (fun y z => ∃ i j : Nat, i ≤ j ∧ j ≤ l.length ∧ y = .int .i64 i ∧ z = .int .i64 j ∧ Srch l x i j) (fun y z => (intOf z).toNat - (intOf y).toNat)
  case atStart => exact ⟨0, l.length, by omega, by omega, rfl, rfl, by intro m hm; omega, by intro m h1 h2; omega⟩
  case round =>
    obtain ⟨i, j, hij, hj, rfl, rfl, hs⟩ := hrel
    by_cases hlt : i < j
    · obtain ⟨ad, rfl, hab, c0⟩ := hR.at_ (k := (i + j) / 2) (by omega)
      by_cases ht : gi l ((i + j) / 2) < x
      · have hd : decide (gi l ((i + j) / 2) < x) = true := decide_eq_true ht
        go_wp2_with (go_at_call 54; refine (less_any _ _ _).mono ?_; rintro e w' ⟨rfl, rfl⟩)
        go_round
        case rel => exact ⟨(i + j) / 2 + 1, j, by omega, by omega, by go_num, rfl, fun m hm => by
            rcases Nat.lt_or_eq_of_le (show m ≤ (i + j) / 2 by omega) with h | h
            · exact Int.lt_trans (isSet_lt HSet.out m _ h (by omega)) ht
            · subst h; exact ht, hs.2⟩
        case measure => simp [intOf]; omega
      · have hd : decide (gi l ((i + j) / 2) < x) = false := decide_eq_false ht
        go_wp2_with (go_at_call 54; refine (less_any _ _ _).mono ?_; rintro e w' ⟨rfl, rfl⟩)
        go_round
        case rel => exact ⟨i, (i + j) / 2, by omega, by omega, rfl, by go_num, hs.1, fun m h1 h2 => by
            rcases Nat.lt_or_eq_of_le h1 with h | h
            · have := isSet_lt HSet.out _ m h h2; omega
            · subst h; omega⟩
        case measure => simp [intOf]; omega
    · have hcut : CutI l x i := ⟨by omega, hs.1, fun m h1 h2 => hs.2 m (by omega) h2⟩
      have hhas := hcut.has HSet.out
      rw [← HB.out] at hhas
      have HH := Lib.hid hhas
      clear hhas
      by_cases hi : i < l.length
      · obtain ⟨ad, rfl, hab, c0⟩ := hR.at_ hi
        cases hq : (gi l i == x) with
        | true =>
          have hv : b' = true := HH.out.2 ⟨hi, by simpa using hq⟩
          have HV := Lib.hid hv; clear hv
          go_wp2_with (go_at_call 55; refine (sisNaN_any _ _).mono ?_; rintro e w' ⟨rfl, rfl⟩)
          go_ret2
          exact ⟨i, hcut, ret2 rfl (by rw [HV.out]; rfl), Below.refl _ _⟩
        | false =>
          have hv : b' = false := by
            cases hb : b' with
            | false => rfl
            | true => have := (HH.out.1 hb).2; simp [this] at hq
          have HV := Lib.hid hv; clear hv
          go_wp2_with (go_at_call 55; refine (sisNaN_any _ _).mono ?_; rintro e w' ⟨rfl, rfl⟩)
          go_ret2
          exact ⟨i, hcut, ret2 rfl (by rw [HV.out]; rfl), Below.refl _ _⟩
      · have hv : b' = false := by
          cases hb : b' with
          | false => rfl
          | true => exact absurd (HH.out.1 hb).1 hi
        have HV := Lib.hid hv; clear hv
        go_wp2
        go_ret2
        exact ⟨i, hcut, ret2 rfl (by rw [HV.out]; rfl), Below.refl _ _⟩

set_option maxHeartbeats 800000 in
theorem open_any (t : Tm) (d : Int) (A1 A2 : Option Addr) (c1 c2 : Nat) (w : World) (h1 : RN w A1 t.rest) (h2 : RN w A2 t.clo) (hok : TmOk t) (hd : 0 ≤ d) (hd2 : d ≤ 1000) :
    Calls Tryd.prog 26 #[.agg #[.int .i64 t.len, .slice A1 t.rest.length c1, .slice A2 t.clo.length c2], .int .i64 d] w fun e w' => e = .returned (.bool (opB t d)) ∧ Below w.heap.size w w' := by
  have hx0 : Below (w.heap.size + 1) (w.alloc (.cells #[.int .i64 t.len, .slice A1 t.rest.length c1, .slice A2 t.clo.length c2] 24)) (w.alloc (.cells #[.int .i64 t.len, .slice A1 t.rest.length c1, .slice A2 t.clo.length c2] 24)) := Below.refl _ _
  obtain ⟨_, _, _, hb0⟩ := blk_facts hx0 (by omega)
  have hl := hok.clo60
  obtain ⟨S, hS⟩ : ∃ S, S = opB t d := ⟨_, rfl⟩
  rw [← hS]
  have HS := Lib.hid hS
  clear hS
  go_enter Tryd.func26, Tryd.ntmps26
  go_wp2_with fail
  refine (search_any t.clo d t.len hok.clo (by omega) A2 c2 _ (h2.below hb0)).mono ?_
  rintro e w1 ⟨n, -, rfl, hb1⟩
  have hx1 := hx0.trans (hb1.mono (by simp))
  clear hb1
  obtain ⟨bx, _, _, hb1⟩ := blk_facts hx1 (by omega)
  go_wp2_with fail
  refine (weekday_any t d A1 A2 c1 c2 _ (h1.below hb1) (h2.below hb1) hok hd hd2).mono ?_
  rintro e w2 ⟨rfl, hb2⟩
  have hb3 := hb1.trans (hb2.mono hb1.size)
  cases hw : wkB t d with
  | false =>
    have hv : S = false := by rw [HS.out, opB, hw]; rfl
    have HV := Lib.hid hv; clear hv
    go_wp2
    go_ret
    exact ⟨ret_bool (by rw [HV.out]), hb3⟩
  | true =>
    have hv : S = !hasB t.clo d := by rw [HS.out, opB, hw]; rfl
    have HV := Lib.hid hv; clear hv
    go_wp2
    go_ret
    exact ⟨ret_bool (by rw [HV.out]), hb3⟩

end Go.Proofs.YtlnmmkgeahlohaaDoor
