/-
  The walk of the law TermDays.
-/
import Derived.Test.YtecjmpaomebdbaaQ
namespace Go.Proofs.Ytecjmpaomebdbaa
set_option linter.unusedVariables false
set_option linter.unusedSimpArgs false
open Go.RowKit

theorem daysE_ok {t : Tm} {c : Cy} {m : Int} (h : daysE t c m = 0) : bE t c = 0 ∧ 0 ≤ m ∧ m < c.n := by
  unfold daysE at h
  by_cases h1 : bE t c = 0
  · rw [if_neg (by simp [h1])] at h
    cases h2 : inB m 0 (c.n - 1) with
    | false => rw [h2] at h; cases h
    | true => have := inB_true.1 h2; exact ⟨h1, this.1, by omega⟩
  · rw [if_pos h1] at h; exact absurd h h1
theorem days_served {t : Tm} {c : Cy} {m : Int} (h : daysE t c m = 0) : ∃ k : Nat, m = k ∧ k < (servedR t c).length ∧ gi (servedR t c) k = ((daysR t c m).length : Nat) := by
  obtain ⟨h1, h2, h3⟩ := daysE_ok h
  obtain ⟨k, rfl⟩ := Int.eq_ofNat_of_zero_le h2
  refine ⟨k, rfl, ?_, ?_⟩
  · unfold servedR; rw [if_pos h1, svTo_length]; omega
  · unfold servedR daysR; rw [if_pos h1, if_pos h, svTo_at _ _ _ _ _ (by omega), daysTo_len]
theorem daysR_le (t : Tm) (c : Cy) (m : Int) : (daysR t c m).length ≤ 1000 := by
  unfold daysR
  by_cases h : daysE t c m = 0
  · rw [if_pos h]
    have := (bE_ok (daysE_ok h).1).1.len2
    have := daysTo_le t c m t.len.toNat
    omega
  · rw [if_neg h]; simp
theorem servedR_le (t : Tm) (c : Cy) : (servedR t c).length ≤ 1000 := by
  unfold servedR
  by_cases h : bE t c = 0
  · rw [if_pos h, svTo_length]
    have := (bE_ok h).2.n2
    omega
  · rw [if_neg h]; simp

set_option maxRecDepth 100000 in
set_option maxHeartbeats 3200000 in
theorem termDays_any (t : Tm) (A1 A2 : Option Addr) (c1 c2 : Nat) (c : Cy) (m : Int) (w : World) (h1 : RN w A1 t.rest) (h2 : RN w A2 t.clo) :
    Calls Try.prog 13 #[.agg #[.int .i64 t.len, .slice A1 t.rest.length c1, .slice A2 t.clo.length c2], .agg #[.int .i64 c.n, .int .i64 c.f, .int .i64 c.k], .int .i64 m] w fun e w' => e = .returned (.bool true) ∧ Below w.heap.size w w' := by
  have hy : Below w.heap.size w ((w.alloc (.cells #[.int .i64 t.len, .slice A1 t.rest.length c1, .slice A2 t.clo.length c2] 24)).alloc (.cells #[.int .i64 c.n, .int .i64 c.f, .int .i64 c.k] 26)) := ((Below.refl _ _).alloc (Nat.le_refl _) _).alloc (by simp) _
  have b0 : Box ((w.alloc (.cells #[.int .i64 t.len, .slice A1 t.rest.length c1, .slice A2 t.clo.length c2] 24)).alloc (.cells #[.int .i64 c.n, .int .i64 c.f, .int .i64 c.k] 26)) w.heap.size #[.int .i64 t.len, .slice A1 t.rest.length c1, .slice A2 t.clo.length c2] := (Box.new w _ _).alloc _
  have b1 : Box ((w.alloc (.cells #[.int .i64 t.len, .slice A1 t.rest.length c1, .slice A2 t.clo.length c2] 24)).alloc (.cells #[.int .i64 c.n, .int .i64 c.f, .int .i64 c.k] 26)) (w.heap.size + 1) #[.int .i64 c.n, .int .i64 c.f, .int .i64 c.k] := (Box.new (w.alloc (.cells #[.int .i64 t.len, .slice A1 t.rest.length c1, .slice A2 t.clo.length c2] 24)) _ _).at' (by simp)
  replace h1 := h1.below hy
  replace h2 := h2.below hy
  go_enter Try.func13, Try.ntmps13
  go_wp2_with fail
  refine (long_any t A1 A2 c1 c2 _).mono ?_
  rintro e w1 ⟨rfl, hb1⟩
  replace b0 := b0.below hb1; replace b1 := b1.below hb1; replace h1 := h1.below hb1; replace h2 := h2.below hb1; replace hy := hy.trans (hb1.mono hy.size)
  clear hb1
  cases hlg : longB t with
  | true =>
    have xx0 := b0.cell; have nn0 := b0.lt; have xx1 := b1.cell; have nn1 := b1.lt
    go_wp2_with fail
    clear xx0 nn0 xx1 nn1
    refine (known_any _).mono ?_
    rintro e w2 ⟨rfl, hb2⟩
    go_wp2
    go_ret
    exact ⟨rfl, hy.trans (hb2.mono hy.size)⟩
  | false =>
    obtain ⟨l1, l2⟩ := longB_no hlg
    have hd1 := daysR_le t c m
    have hd2 := servedR_le t c
    have xx0 := b0.cell; have nn0 := b0.lt; have xx1 := b1.cell; have nn1 := b1.lt
    go_wp2_with fail
    clear xx0 nn0 xx1 nn1
    refine (days_any m c t A1 A2 c1 c2 _ h1 h2 (by omega) (by omega)).mono ?_
    rintro e w2 ⟨Aa, ca, rfl, owna, hb2⟩
    have ra := RN.of_own owna
    clear owna
    replace b0 := b0.below hb2; replace b1 := b1.below hb2; replace h1 := h1.below hb2; replace h2 := h2.below hb2; replace hy := hy.trans (hb2.mono hy.size)
    clear hb2
    have xx0 := b0.cell; have nn0 := b0.lt; have xx1 := b1.cell; have nn1 := b1.lt
    go_wp2_with fail
    clear xx0 nn0 xx1 nn1
    refine (rdays_any m c t A1 A2 c1 c2 _ h1 h2 (by omega) (by omega)).mono ?_
    rintro e w3 ⟨Ab, cb, rfl, ownb, hb3⟩
    replace b0 := b0.below hb3; replace b1 := b1.below hb3; replace h1 := h1.below hb3; replace h2 := h2.below hb3; replace ra := ra.below hb3; replace hy := hy.trans (hb3.mono hy.size)
    clear hb3
    have rb := RN.of_own ownb
    clear ownb
    have xx0 := b0.cell; have nn0 := b0.lt; have xx1 := b1.cell; have nn1 := b1.lt
    go_wp2_with fail
    clear xx0 nn0 xx1 nn1
    refine (served_any c t A1 A2 c1 c2 _ h1 h2 (by omega) (by omega)).mono ?_
    rintro e w4 ⟨Al, cl, rfl, ownl, hb4⟩
    replace b0 := b0.below hb4; replace b1 := b1.below hb4; replace h1 := h1.below hb4; replace h2 := h2.below hb4; replace ra := ra.below hb4; replace rb := rb.below hb4; replace hy := hy.trans (hb4.mono hy.size)
    clear hb4
    have rl := RN.of_own ownl
    clear ownl
    have xx0 := b0.cell; have nn0 := b0.lt; have xx1 := b1.cell; have nn1 := b1.lt
    go_wp2_with fail
    clear xx0 nn0 xx1 nn1
    refine (rserved_any c t A1 A2 c1 c2 _ h1 h2 (by omega) (by omega)).mono ?_
    rintro e w5 ⟨Am, cm, rfl, ownm, hb5⟩
    replace b0 := b0.below hb5; replace b1 := b1.below hb5; replace h1 := h1.below hb5; replace h2 := h2.below hb5; replace ra := ra.below hb5; replace rb := rb.below hb5; replace rl := rl.below hb5; replace hy := hy.trans (hb5.mono hy.size)
    clear hb5
    have rm := RN.of_own ownm
    clear ownm
    have xx0 := b0.cell; have nn0 := b0.lt; have xx1 := b1.cell; have nn1 := b1.lt
    go_wp2_with fail
    clear xx0 nn0 xx1 nn1
    refine (lost_any c t A1 A2 c1 c2 _ h1 h2 (by omega) (by omega)).mono ?_
    rintro e w6 ⟨rfl, hb6⟩
    replace b0 := b0.below hb6; replace b1 := b1.below hb6; replace h1 := h1.below hb6; replace h2 := h2.below hb6; replace ra := ra.below hb6; replace rb := rb.below hb6; replace rl := rl.below hb6; replace rm := rm.below hb6; replace hy := hy.trans (hb6.mono hy.size)
    clear hb6
    have xx0 := b0.cell; have nn0 := b0.lt; have xx1 := b1.cell; have nn1 := b1.lt
    go_wp2_with fail
    clear xx0 nn0 xx1 nn1
    refine (rlost_any c t A1 A2 c1 c2 _ h1 h2 (by omega) (by omega)).mono ?_
    rintro e w7 ⟨rfl, hb7⟩
    replace b0 := b0.below hb7; replace b1 := b1.below hb7; replace h1 := h1.below hb7; replace h2 := h2.below hb7; replace ra := ra.below hb7; replace rb := rb.below hb7; replace rl := rl.below hb7; replace rm := rm.below hb7; replace hy := hy.trans (hb7.mono hy.size)
    clear hb7
    have xx0 := b0.cell; have nn0 := b0.lt; have xx1 := b1.cell; have nn1 := b1.lt
    go_wp2_with fail
    clear xx0 nn0 xx1 nn1
    refine (sameInts_any (daysR t c m) (daysR t c m) _ _ _ _ _ ra rb (by omega) (by omega)).mono ?_
    rintro e w8 ⟨rfl, hb8⟩
    replace b0 := b0.below hb8; replace b1 := b1.below hb8; replace h1 := h1.below hb8; replace h2 := h2.below hb8; replace ra := ra.below hb8; replace rb := rb.below hb8; replace rl := rl.below hb8; replace rm := rm.below hb8; replace hy := hy.trans (hb8.mono hy.size)
    clear hb8
    rw [show decide (daysR t c m = daysR t c m) = true by simp]
    have xx0 := b0.cell; have nn0 := b0.lt; have xx1 := b1.cell; have nn1 := b1.lt
    go_wp2_with fail
    clear xx0 nn0 xx1 nn1
    refine (sameInts_any (servedR t c) (servedR t c) _ _ _ _ _ rl rm (by omega) (by omega)).mono ?_
    rintro e w9 ⟨rfl, hb9⟩
    replace b0 := b0.below hb9; replace b1 := b1.below hb9; replace h1 := h1.below hb9; replace h2 := h2.below hb9; replace ra := ra.below hb9; replace rb := rb.below hb9; replace rl := rl.below hb9; replace rm := rm.below hb9; replace hy := hy.trans (hb9.mono hy.size)
    clear hb9
    rw [show decide (servedR t c = servedR t c) = true by simp]
    by_cases hE : daysE t c m = 0
    · have hE1 : (daysE t c m != 0) = false := by simp [hE]
      obtain ⟨k, hk, hkl, hg⟩ := days_served hE
      subst hk
      obtain ⟨ad, e', _, e0⟩ := rl.at_ hkl
      subst e'
      rw [hg] at e0
      clear hE hg
      have xx0 := b0.cell; have nn0 := b0.lt; have xx1 := b1.cell; have nn1 := b1.lt
      go_wp2_with fail
      clear xx0 nn0 xx1 nn1
      refine (known_any _).mono ?_
      rintro e w10 ⟨rfl, hb10⟩
      go_wp2
      go_ret
      exact ⟨rfl, hy.trans (hb10.mono hy.size)⟩
    · have hE1 : (daysE t c m != 0) = true := by simp [hE]
      clear hE
      have xx0 := b0.cell; have nn0 := b0.lt; have xx1 := b1.cell; have nn1 := b1.lt
      go_wp2_with fail
      clear xx0 nn0 xx1 nn1
      refine (known_any _).mono ?_
      rintro e w10 ⟨rfl, hb10⟩
      go_wp2
      go_ret
      exact ⟨rfl, hy.trans (hb10.mono hy.size)⟩

end Go.Proofs.Ytecjmpaomebdbaa
