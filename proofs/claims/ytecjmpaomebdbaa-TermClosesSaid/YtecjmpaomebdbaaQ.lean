/-
  Walks: how many menus are lost; equal lists.
-/
import Derived.Test.YtecjmpaomebdbaaP
namespace Go.Proofs.Ytecjmpaomebdbaa
set_option linter.unusedVariables false
set_option linter.unusedSimpArgs false
open Go.RowKit

set_option maxHeartbeats 800000 in
theorem sameInts_any (l m : List Int) (A A' : Option Addr) (c c' : Nat) (w : World) (hl : RN w A l) (hm : RN w A' m) (hb : l.length ≤ 1000000000) (hb' : m.length ≤ 1000000000) :
    Calls Try.prog 47 #[.slice A l.length c, .slice A' m.length c'] w fun e w' => e = .returned (.bool (decide (l = m))) ∧ Below w.heap.size w w' := by
  by_cases hlen : l.length = m.length
  · have hlen' : ((l.length : Int) != (m.length : Int)) = false := by simp [hlen]
    have HL := Lib.hid hlen; clear hlen
    go_enter Try.func47, Try.ntmps47
    go_wp2
    go_loopw [5] (fun x wr => ∃ k : Nat, k ≤ l.length ∧ x = .int .i64 k ∧ eqIn l m k ∧ Below w.heap.size w wr) (fun x _ => l.length - (intOf x).toNat)
    case atStart => exact ⟨0, by omega, rfl, fun i hi => by omega, Below.refl _ _⟩
    case round =>
      obtain ⟨k, hk, rfl, he, hbl⟩ := hrel
      by_cases hlt : k < l.length
      · have hlt' : k < m.length := by rw [← HL.out]; exact hlt
        obtain ⟨ad, rfl, hab, c0⟩ := (hl.below hbl).at_ hlt
        obtain ⟨ad', rfl, hab', d0⟩ := (hm.below hbl).at_ hlt'
        cases hq : (gi l k != gi m k) with
        | true =>
          have hne : gi l k ≠ gi m k := by simpa using hq
          have HNE := Lib.hid hne; clear hne
          go_wp2_with fail
          go_quiet (fail)
          go_wp2
          go_ret
          exact ⟨ret_bool (by symm; rw [decide_eq_false_iff_not]; intro e; exact HNE.out (by rw [e])), below_drewN hbl _⟩
        | false =>
          have heq : gi l k = gi m k := by simpa using hq
          have HEQ := Lib.hid heq; clear heq
          go_wp2_with fail
          go_quiet (fail)
          go_wp2
          go_roundw
          case rel => exact ⟨k + 1, by omega, by go_num, fun i hi => by
            by_cases e : i = k
            · subst e; exact HEQ.out
            · exact he i (by omega), below_drewN hbl _⟩
          case measure => simp [intOf]; omega
      · obtain rfl : k = l.length := by omega
        go_wp2
        go_ret
        exact ⟨ret_bool (by symm; rw [decide_eq_true_eq]; exact eqIn_all HL.out he), hbl⟩
  · have hlen' : ((l.length : Int) != (m.length : Int)) = true := by simp; omega
    have HL := Lib.hid hlen; clear hlen
    go_enter Try.func47, Try.ntmps47
    go_wp2
    go_ret
    exact ⟨ret_bool (by symm; rw [decide_eq_false_iff_not]; intro e; exact HL.out (by rw [e])), Below.refl _ _⟩


theorem RN.drew {w : World} {A : Option Addr} {l : List Int} (h : RN w A l) : RN w.drew A l := h

set_option maxRecDepth 100000 in
set_option maxHeartbeats 3200000 in
theorem lost_any (c : Cy) (t : Tm) (A1 A2 : Option Addr) (c1 c2 : Nat) (w : World) (h1 : RN w A1 t.rest) (h2 : RN w A2 t.clo) (hl1 : t.rest.length ≤ 1000000000) (hl2 : t.clo.length ≤ 1000000000) :
    Calls Try.prog 45 #[.agg #[.int .i64 t.len, .slice A1 t.rest.length c1, .slice A2 t.clo.length c2], .agg #[.int .i64 c.n, .int .i64 c.f, .int .i64 c.k]] w fun e w' => e = .returned (.tuple #[.int .i64 (lostR t c), .int .i64 (bE t c)]) ∧ Below w.heap.size w w' := by
  obtain ⟨R, hR⟩ : ∃ R, R = lostR t c := ⟨_, rfl⟩
  rw [← hR]
  have HR := Lib.hid hR
  clear hR
  have hy : Below w.heap.size w ((w.alloc (.cells #[.int .i64 t.len, .slice A1 t.rest.length c1, .slice A2 t.clo.length c2] 24)).alloc (.cells #[.int .i64 c.n, .int .i64 c.f, .int .i64 c.k] 26)) := ((Below.refl _ _).alloc (Nat.le_refl _) _).alloc (by simp) _
  have b0 : Box ((w.alloc (.cells #[.int .i64 t.len, .slice A1 t.rest.length c1, .slice A2 t.clo.length c2] 24)).alloc (.cells #[.int .i64 c.n, .int .i64 c.f, .int .i64 c.k] 26)) w.heap.size #[.int .i64 t.len, .slice A1 t.rest.length c1, .slice A2 t.clo.length c2] := (Box.new w _ _).alloc _
  have b1 : Box ((w.alloc (.cells #[.int .i64 t.len, .slice A1 t.rest.length c1, .slice A2 t.clo.length c2] 24)).alloc (.cells #[.int .i64 c.n, .int .i64 c.f, .int .i64 c.k] 26)) (w.heap.size + 1) #[.int .i64 c.n, .int .i64 c.f, .int .i64 c.k] := (Box.new (w.alloc (.cells #[.int .i64 t.len, .slice A1 t.rest.length c1, .slice A2 t.clo.length c2] 24)) _ _).at' (by simp)
  replace h1 := h1.below hy
  replace h2 := h2.below hy
  go_enter Try.func45, Try.ntmps45
  go_wp2_with fail
  refine (both_any c t A1 A2 c1 c2 _ h1 h2 hl1 hl2).mono ?_
  rintro e w1 ⟨rfl, hb1⟩
  replace b0 := b0.below hb1; replace b1 := b1.below hb1; replace h1 := h1.below hb1; replace h2 := h2.below hb1; replace hy := hy.trans (hb1.mono hy.size)
  clear hb1
  by_cases h0 : bE t c = 0
  · have h0' : (bE t c != 0) = false := by simp [h0]
    obtain ⟨hok, hcy⟩ := bE_ok h0
    have hRv : R = (cnt (lostP t c) t.clo.length : Nat) := by rw [HR.out, lostR, if_pos h0]
    have H0 := Lib.hid h0
    have H2 := Lib.hid hRv
    have ln1 := hok.len1
    have ln2 := hok.len2
    have l60 := hok.clo60
    clear h0 hRv
    have hsz := b1.lt
    have xx0 := b0.cell; have nn0 := b0.lt; have xx1 := b1.cell; have nn1 := b1.lt
    go_wp2
    clear xx0 nn0 xx1 nn1
    go_loopw [7, 19] (fun n x wr => ∃ k : Nat, k ≤ t.clo.length ∧ x = .int .i64 k ∧ n = .int .i64 (cnt (lostP t c) k : Nat) ∧ Box wr w.heap.size #[.int .i64 t.len, .slice A1 t.rest.length c1, .slice A2 t.clo.length c2] ∧ Box wr (w.heap.size + 1) #[.int .i64 c.n, .int .i64 c.f, .int .i64 c.k] ∧ RN wr A1 t.rest ∧ RN wr A2 t.clo ∧ Below w.heap.size w wr) (fun _ x _ => t.clo.length - (intOf x).toNat)
    case atStart => exact ⟨0, by omega, rfl, rfl, b0, b1, h1, h2, hy⟩
    case round =>
      clear b0 b1 h1 h2 hy
      obtain ⟨k, hk, rfl, rfl, b0, b1, h1, h2, hy⟩ := hrel
      have hcb := cnt_le (lostP t c) k
      by_cases hlt : k < t.clo.length
      · obtain ⟨ad, rfl, hab, e0⟩ := h2.at_ hlt
        obtain ⟨d0, d1⟩ := isSet_at hok.clo hlt
        cases hk1 : (c.k == 1) with
        | false =>
          have hcn := cnt_no (lostP t c) k (by unfold lostP; rw [hk1]; rfl)
          have HC := Lib.hid hcn
          clear hcn
          have xx0 := b0.cell; have nn0 := b0.lt; have xx1 := b1.cell; have nn1 := b1.lt
          go_wp2_with fail
          clear xx0 nn0 xx1 nn1
          go_roundw
          case rel => exact ⟨k + 1, by omega, by go_num, by rw [HC.out], b0, b1, h1, h2, hy⟩
          case measure => simp [intOf]; omega
        | true =>
          have xx0 := b0.cell; have nn0 := b0.lt; have xx1 := b1.cell; have nn1 := b1.lt
          go_wp2_with fail
          clear xx0 nn0 xx1 nn1
          refine (weekday_any t (gi t.clo k) A1 _ c1 c2 _ h1 h2 hok (by omega) (by omega)).mono ?_
          rintro e w3 ⟨rfl, hb3⟩
          replace b0 := b0.below hb3; replace b1 := b1.below hb3; replace h1 := h1.below hb3; replace h2 := h2.below hb3; replace hy := hy.trans (hb3.mono hy.size)
          clear hb3
          cases hw : wkB t (gi t.clo k) with
          | false =>
            have hcn := cnt_no (lostP t c) k (by unfold lostP; rw [hk1, hw]; rfl)
            have HC := Lib.hid hcn
            clear hcn
            have xx0 := b0.cell; have nn0 := b0.lt; have xx1 := b1.cell; have nn1 := b1.lt
            go_wp2_with fail
            clear xx0 nn0 xx1 nn1
            go_roundw
            case rel => exact ⟨k + 1, by omega, by go_num, by rw [HC.out], b0, b1, h1, h2, hy⟩
            case measure => simp [intOf]; omega
          | true =>
            have hcn := cnt_yes (lostP t c) k (by unfold lostP; rw [hk1, hw]; rfl)
            have HC := Lib.hid hcn
            clear hcn
            have xx0 := b0.cell; have nn0 := b0.lt; have xx1 := b1.cell; have nn1 := b1.lt
            go_wp2_with fail
            clear xx0 nn0 xx1 nn1
            go_roundw
            case rel => exact ⟨k + 1, by omega, by go_num, by rw [HC.out]; go_num, b0, b1, h1, h2, hy⟩
            case measure => simp [intOf]; omega
      · have hkl : k = t.clo.length := by omega
        have HKL := Lib.hid hkl
        clear hkl
        have xx0 := b0.cell; have nn0 := b0.lt; have xx1 := b1.cell; have nn1 := b1.lt
        go_wp2_with fail
        clear xx0 nn0 xx1 nn1
        go_ret2
        exact ⟨ret2 (by rw [H2.out, ← HKL.out]; rfl) (by rw [H0.out]; rfl), hy⟩
  · have h0' : (bE t c != 0) = true := by simp [h0]
    have hRv : R = 0 := by rw [HR.out, lostR, if_neg h0]
    have H2 := Lib.hid hRv
    clear hRv h0
    go_wp2
    go_ret2
    exact ⟨ret2 (by rw [H2.out]; rfl) rfl, hy⟩

set_option maxRecDepth 100000 in
set_option maxHeartbeats 3200000 in
theorem rlost_any (c : Cy) (t : Tm) (A1 A2 : Option Addr) (c1 c2 : Nat) (w : World) (h1 : RN w A1 t.rest) (h2 : RN w A2 t.clo) (hl1 : t.rest.length ≤ 1000000000) (hl2 : t.clo.length ≤ 1000000000) :
    Calls Try.prog 46 #[.agg #[.int .i64 t.len, .slice A1 t.rest.length c1, .slice A2 t.clo.length c2], .agg #[.int .i64 c.n, .int .i64 c.f, .int .i64 c.k]] w fun e w' => e = .returned (.tuple #[.int .i64 (lostR t c), .int .i64 (bE t c)]) ∧ Below w.heap.size w w' := by
  obtain ⟨R, hR⟩ : ∃ R, R = lostR t c := ⟨_, rfl⟩
  rw [← hR]
  have HR := Lib.hid hR
  clear hR
  have hy : Below w.heap.size w ((w.alloc (.cells #[.int .i64 t.len, .slice A1 t.rest.length c1, .slice A2 t.clo.length c2] 24)).alloc (.cells #[.int .i64 c.n, .int .i64 c.f, .int .i64 c.k] 26)) := ((Below.refl _ _).alloc (Nat.le_refl _) _).alloc (by simp) _
  have b0 : Box ((w.alloc (.cells #[.int .i64 t.len, .slice A1 t.rest.length c1, .slice A2 t.clo.length c2] 24)).alloc (.cells #[.int .i64 c.n, .int .i64 c.f, .int .i64 c.k] 26)) w.heap.size #[.int .i64 t.len, .slice A1 t.rest.length c1, .slice A2 t.clo.length c2] := (Box.new w _ _).alloc _
  have b1 : Box ((w.alloc (.cells #[.int .i64 t.len, .slice A1 t.rest.length c1, .slice A2 t.clo.length c2] 24)).alloc (.cells #[.int .i64 c.n, .int .i64 c.f, .int .i64 c.k] 26)) (w.heap.size + 1) #[.int .i64 c.n, .int .i64 c.f, .int .i64 c.k] := (Box.new (w.alloc (.cells #[.int .i64 t.len, .slice A1 t.rest.length c1, .slice A2 t.clo.length c2] 24)) _ _).at' (by simp)
  replace h1 := h1.below hy
  replace h2 := h2.below hy
  go_enter Try.func46, Try.ntmps46
  go_wp2_with fail
  refine (rboth_any c t A1 A2 c1 c2 _ h1 h2 hl1 hl2).mono ?_
  rintro e w1 ⟨rfl, hb1⟩
  replace b0 := b0.below hb1; replace b1 := b1.below hb1; replace h1 := h1.below hb1; replace h2 := h2.below hb1; replace hy := hy.trans (hb1.mono hy.size)
  clear hb1
  by_cases h0 : bE t c = 0
  · have h0' : (bE t c != 0) = false := by simp [h0]
    obtain ⟨hok, hcy⟩ := bE_ok h0
    have hRv : R = (cnt (lostP t c) t.clo.length : Nat) := by rw [HR.out, lostR, if_pos h0]
    have H0 := Lib.hid h0
    have H2 := Lib.hid hRv
    have ln1 := hok.len1
    have ln2 := hok.len2
    have l60 := hok.clo60
    clear h0 hRv
    have hsz := b1.lt
    cases hk1 : (c.k == 1) with
    | false =>
      have hz := lost_waits (t := t) hk1 t.clo.length
      have HZ := Lib.hid hz
      clear hz
      have xx0 := b0.cell; have nn0 := b0.lt; have xx1 := b1.cell; have nn1 := b1.lt
      go_wp2
      clear xx0 nn0 xx1 nn1
      go_loopw [7, 8] (fun n x wr => x = .int .i64 0 ∧ n = .int .i64 0 ∧ Box wr w.heap.size #[.int .i64 t.len, .slice A1 t.rest.length c1, .slice A2 t.clo.length c2] ∧ Box wr (w.heap.size + 1) #[.int .i64 c.n, .int .i64 c.f, .int .i64 c.k] ∧ RN wr A1 t.rest ∧ RN wr A2 t.clo ∧ Below w.heap.size w wr) (fun _ _ _ => 0)
      case atStart => exact ⟨rfl, rfl, b0, b1, h1, h2, hy⟩
      case round =>
        clear b0 b1 h1 h2 hy
        obtain ⟨rfl, rfl, b0, b1, h1, h2, hy⟩ := hrel
        by_cases hlt : 0 < t.clo.length
        · skip
          have xx0 := b0.cell; have nn0 := b0.lt; have xx1 := b1.cell; have nn1 := b1.lt
          go_wp2_with fail
          clear xx0 nn0 xx1 nn1
          go_ret2
          exact ⟨ret2 (by rw [H2.out, HZ.out]; rfl) (by rw [H0.out]; rfl), hy⟩
        · skip
          have xx0 := b0.cell; have nn0 := b0.lt; have xx1 := b1.cell; have nn1 := b1.lt
          go_wp2_with fail
          clear xx0 nn0 xx1 nn1
          go_ret2
          exact ⟨ret2 (by rw [H2.out, HZ.out]; rfl) (by rw [H0.out]; rfl), hy⟩
    | true =>
      have xx0 := b0.cell; have nn0 := b0.lt; have xx1 := b1.cell; have nn1 := b1.lt
      go_wp2
      clear xx0 nn0 xx1 nn1
      go_loopw [7, 8] (fun n x wr => ∃ k : Nat, k ≤ t.clo.length ∧ x = .int .i64 k ∧ n = .int .i64 (cnt (lostP t c) k : Nat) ∧ Box wr w.heap.size #[.int .i64 t.len, .slice A1 t.rest.length c1, .slice A2 t.clo.length c2] ∧ Box wr (w.heap.size + 1) #[.int .i64 c.n, .int .i64 c.f, .int .i64 c.k] ∧ RN wr A1 t.rest ∧ RN wr A2 t.clo ∧ Below w.heap.size w wr) (fun _ x _ => t.clo.length - (intOf x).toNat)
      case atStart => exact ⟨0, by omega, rfl, rfl, b0, b1, h1, h2, hy⟩
      case round =>
        clear b0 b1 h1 h2 hy
        obtain ⟨k, hk, rfl, rfl, b0, b1, h1, h2, hy⟩ := hrel
        have hcb := cnt_le (lostP t c) k
        by_cases hlt : k < t.clo.length
        · obtain ⟨ad, rfl, hab, e0⟩ := h2.at_ hlt
          obtain ⟨d0, d1⟩ := isSet_at hok.clo hlt
          have q0 : (0 : Int) ≤ (k : Int) := Int.natCast_nonneg _
          have q1 : (k : Int) < (t.clo.length : Int) := by omega
          have xx0 := b0.cell; have nn0 := b0.lt; have xx1 := b1.cell; have nn1 := b1.lt
          go_wp2_with fail
          clear xx0 nn0 xx1 nn1
          have x0 := b0.cell 0; have x1 := b0.cell 1; have x2 := b0.cell 2
          simp only [List.getElem?_toArray, List.getElem?_cons_zero, List.getElem?_cons_succ] at x0 x1 x2
          go_still_tail 6, (by kernel_rfl)
          change wpList _ _ _ _ _ wr.drew
          go_wp2_with fail
          clear x0 x1 x2
          refine (rweekDay_any t (gi t.clo k) A1 _ c1 c2 _ h1.drew h2.drew hok (by omega) (by omega)).mono ?_
          rintro e w3 ⟨rfl, hb3⟩
          replace b0 := b0.drew; replace b1 := b1.drew; replace h1 := h1.drew; replace h2 := h2.drew; replace hy := hy.drew
          replace b0 := b0.below hb3; replace b1 := b1.below hb3; replace h1 := h1.below hb3; replace h2 := h2.below hb3; replace hy := hy.trans (hb3.mono hy.size)
          clear hb3
          cases hw : wkB t (gi t.clo k) with
          | false =>
            have hcn := cnt_no (lostP t c) k (by unfold lostP; rw [hk1, hw]; rfl)
            have HC := Lib.hid hcn
            clear hcn
            have xx0 := b0.cell; have nn0 := b0.lt; have xx1 := b1.cell; have nn1 := b1.lt
            go_wp2_with fail
            clear xx0 nn0 xx1 nn1
            go_roundw
            case rel => exact ⟨k + 1, by omega, by go_num, by rw [HC.out], b0, b1, h1, h2, hy⟩
            case measure => simp [intOf]; omega
          | true =>
            have hcn := cnt_yes (lostP t c) k (by unfold lostP; rw [hk1, hw]; rfl)
            have HC := Lib.hid hcn
            clear hcn
            have xx0 := b0.cell; have nn0 := b0.lt; have xx1 := b1.cell; have nn1 := b1.lt
            go_wp2_with fail
            clear xx0 nn0 xx1 nn1
            go_roundw
            case rel => exact ⟨k + 1, by omega, by go_num, by rw [HC.out]; go_num, b0, b1, h1, h2, hy⟩
            case measure => simp [intOf]; omega
        · have hkl : k = t.clo.length := by omega
          have HKL := Lib.hid hkl
          clear hkl
          have xx0 := b0.cell; have nn0 := b0.lt; have xx1 := b1.cell; have nn1 := b1.lt
          go_wp2_with fail
          clear xx0 nn0 xx1 nn1
          go_ret2
          exact ⟨ret2 (by rw [H2.out, ← HKL.out]; rfl) (by rw [H0.out]; rfl), hy⟩
  · have h0' : (bE t c != 0) = true := by simp [h0]
    have hRv : R = 0 := by rw [HR.out, lostR, if_neg h0]
    have H2 := Lib.hid hRv
    clear hRv h0
    go_wp2
    go_ret2
    exact ⟨ret2 (by rw [H2.out]; rfl) rfl, hy⟩


end Go.Proofs.Ytecjmpaomebdbaa
