/-
  Plain: what TopDays says.
-/
import Derived.Test.YtecjmpaomebdbaaCloOW
import Derived.Test.YtecjmpaomebdbaaZ
import Derived.Test.YtecjmpaomebdbaaEvenP
import Derived.Test.YtecjmpaomebdbaaT
namespace Go.Proofs.Ytecjmpaomebdbaa
set_option linter.unusedVariables false
set_option linter.unusedSimpArgs false
open Go.RowKit

theorem daysTo_from (t : Tm) (c : Cy) (m : Int) : ∀ k, daysTo t c m k = fromB (fun x => mnAt t c x.toNat == m) k
  | 0 => rfl
  | k + 1 => by
    have ih := daysTo_from t c m k
    cases h : (mnAt t c k == m) with
    | true => rw [daysTo_yes h, fromB_yes (by simpa using h), ih]
    | false => rw [daysTo_no h, fromB_no (by simpa using h), ih]
theorem dT_at {t : Tm} {c : Cy} {m : Int} {N i : Nat} (hi : i < (daysTo t c m N).length) : ∃ d : Nat, d < N ∧ gi (daysTo t c m N) i = d ∧ mnAt t c d = m := by
  have h := gi_mem _ _ hi
  obtain ⟨x, hx⟩ : ∃ x, gi (daysTo t c m N) i = x := ⟨_, rfl⟩
  rw [hx] at h ⊢
  rw [daysTo_from, fromB_mem] at h
  obtain ⟨h1, h2, h3⟩ := h
  exact ⟨x.toNat, by omega, by omega, by simpa using h3⟩
theorem dT_mem {t : Tm} {c : Cy} {m : Int} {N d : Nat} (hd : d < N) : hasB (daysTo t c m N) d = (mnAt t c d == m) := by
  rw [Bool.eq_iff_iff, hasB_mem, daysTo_from, fromB_mem]
  simp only [Int.toNat_natCast]
  constructor
  · rintro ⟨_, _, h⟩; exact h
  · intro h; exact ⟨by omega, by omega, h⟩
theorem dT_new {t : Tm} {c : Cy} {m : Int} {N i : Nat} (hi : i < (daysTo t c m N).length) : hasB ((daysTo t c m N).take i) (gi (daysTo t c m N) i) = false := by
  cases h : hasB ((daysTo t c m N).take i) (gi (daysTo t c m N) i) with
  | false => rfl
  | true =>
    rw [hasB_mem] at h
    obtain ⟨j, hj, he⟩ := List.mem_iff_getElem.1 h
    have hji : j < i := by rw [List.length_take] at hj; omega
    rw [List.getElem_take, gi_getElem _ j (by omega)] at he
    have hp := fromB_asc (fun x => mnAt t c x.toNat == m) N
    rw [← daysTo_from] at hp
    have := List.pairwise_iff_getElem.1 hp j i (by omega) hi hji
    rw [gi_getElem _ j (by omega), gi_getElem _ i hi] at this
    omega
/-- what stands in 'menu' when the first m menus are done, and i days of the next -/
def mk (t : Tm) (c : Cy) (m : Int) (N i d : Nat) : Int := if mnAt t c d < m then mnAt t c d else if hasB ((daysTo t c m N).take i) d then m else -1
def mkL (t : Tm) (c : Cy) (m : Int) (N i : Nat) : List Int := (List.range N).map (mk t c m N i)
theorem mkL_len (t : Tm) (c : Cy) (m : Int) (N i : Nat) : (mkL t c m N i).length = N := by simp [mkL]
theorem mkL_at (t : Tm) (c : Cy) (m : Int) (N i d : Nat) (h : d < N) : gi (mkL t c m N i) d = mk t c m N i d := by simp [gi, mkL, h]
theorem mk_new {t : Tm} {c : Cy} {m : Int} {N i : Nat} (hi : i < (daysTo t c m N).length) {d : Nat} (hd : gi (daysTo t c m N) i = d) (hm : mnAt t c d = m) : mk t c m N i d = -1 := by
  unfold mk
  rw [if_neg (by omega), ← hd, dT_new hi, if_neg (by simp)]
theorem mkL_set {t : Tm} {c : Cy} {m : Int} {N i : Nat} (hi : i < (daysTo t c m N).length) {d : Nat} (hd : gi (daysTo t c m N) i = d) (hm : mnAt t c d = m) : (mkL t c m N i).set d m = mkL t c m N (i + 1) := by
  apply List.ext_getElem
  · simp [mkL]
  · intro j h1 h2
    have hj : j < N := by simpa [mkL] using h2
    have htk : (daysTo t c m N).take (i + 1) = (daysTo t c m N).take i ++ [(d : Int)] := by rw [take_gi hi, hd]
    have hh : ∀ x : Int, hasB ((daysTo t c m N).take (i + 1)) x = (x == d || hasB ((daysTo t c m N).take i) x) := by
      intro x
      rw [htk, Bool.eq_iff_iff, hasB_mem, Bool.or_eq_true, beq_iff_eq, hasB_mem, List.mem_append]
      simp only [List.mem_cons, List.not_mem_nil, or_false]
      exact ⟨fun h => h.symm, fun h => h.symm⟩
    rw [List.getElem_set]
    simp only [mkL, List.getElem_map, List.getElem_range]
    by_cases e : d = j
    · subst e
      rw [if_pos rfl]
      unfold mk
      rw [if_neg (by omega), hh]; simp
    · rw [if_neg e]
      unfold mk
      rw [hh, show ((j : Int) == (d : Int)) = false by simp; omega, Bool.false_or]
theorem mkL_next (t : Tm) (c : Cy) (m : Int) (N : Nat) : mkL t c m N (daysTo t c m N).length = mkL t c (m + 1) N 0 := by
  unfold mkL
  apply List.map_congr_left
  intro d hd
  have hd := List.mem_range.1 hd
  unfold mk
  rw [List.take_length, dT_mem hd, List.take_zero]
  have h0 : hasB [] (d : Int) = false := rfl
  rw [h0]
  by_cases h1 : mnAt t c d < m
  · rw [if_pos h1, if_pos (by omega)]
  · rw [if_neg h1]
    by_cases h2 : mnAt t c d = m
    · rw [if_pos (by simpa using h2), if_pos (by omega), h2]
    · rw [if_neg (by simpa using h2), if_neg (by omega), if_neg (by simp)]
theorem mkL_zero {t : Tm} {c : Cy} (hc : CyOk c) (N : Nat) : mkL t c 0 N 0 = List.replicate N (-1) := by
  rw [List.eq_replicate_iff]
  refine ⟨mkL_len _ _ _ _ _, fun b hb => ?_⟩
  obtain ⟨d, _, rfl⟩ := List.mem_map.1 hb
  have := (mnAt_bd hc (t := t) d).1
  unfold mk
  by_cases h : mnAt t c d < 0
  · rw [if_pos h]; omega
  · rw [if_neg h, if_neg (by simp [hasB, hasTo])]
theorem mk_full {t : Tm} {c : Cy} (hc : CyOk c) (N d : Nat) : mk t c c.n N 0 d = mnAt t c d := by
  unfold mk; rw [if_pos (mnAt_bd hc d).2]
def flL (N k : Nat) : List Int := (List.range N).map fun d => if d < k then -1 else 0
theorem flL_len (N k : Nat) : (flL N k).length = N := by simp [flL]
theorem flL_zero (N : Nat) : flL N 0 = List.replicate N 0 := by
  rw [List.eq_replicate_iff]
  refine ⟨by simp [flL], fun b hb => ?_⟩
  obtain ⟨d, _, rfl⟩ := List.mem_map.1 hb
  simp
theorem flL_full {t : Tm} {c : Cy} (hc : CyOk c) (N : Nat) : flL N N = mkL t c 0 N 0 := by
  rw [mkL_zero hc, List.eq_replicate_iff]
  refine ⟨by simp [flL], fun b hb => ?_⟩
  obtain ⟨d, hd, rfl⟩ := List.mem_map.1 hb
  simp [List.mem_range.1 hd]
theorem flL_set (N k : Nat) : (flL N k).set k (-1) = flL N (k + 1) := by
  apply List.ext_getElem
  · simp [flL]
  · intro j h1 h2
    rw [List.getElem_set]
    simp only [flL, List.getElem_map, List.getElem_range]
    by_cases e : k = j
    · subst e; rw [if_pos rfl, if_pos (by omega)]
    · rw [if_neg e]
      by_cases h : j < k
      · rw [if_pos h, if_pos (by omega)]
      · rw [if_neg h, if_neg (by omega)]

/-! ### the days in their order -/
theorem days_ok {t : Tm} {c : Cy} (ht : TmOk t) (hc : CyOk c) {m : Int} (h0 : 0 ≤ m) (h1 : m < c.n) : daysE t c m = 0 ∧ daysR t c m = daysTo t c m t.len.toNat := by
  have e : daysE t c m = 0 := by unfold daysE; rw [if_neg (by simp [bE_of ht hc]), if_pos (inB_true.2 ⟨h0, by omega⟩)]
  exact ⟨e, by rw [daysR, if_pos e]⟩
theorem menu_open {t : Tm} {c : Cy} (ht : TmOk t) (hc : CyOk c) {d : Nat} (hd : (d : Int) < t.len) (ho : opB t d = true) : menuE t c d = 0 ∧ menuR t c d = mnAt t c d := by
  have e : menuE t c d = 0 := by unfold menuE; rw [if_neg (by simp [bE_of ht hc]), if_pos (inB_true.2 ⟨by omega, by omega⟩), if_pos ho]
  exact ⟨e, by rw [menuR, if_pos e]; simp⟩
theorem menu_shut {t : Tm} {c : Cy} (ht : TmOk t) (hc : CyOk c) {d : Nat} (hd : (d : Int) < t.len) (ho : opB t d = false) : menuE t c d = 13 := by
  unfold menuE; rw [if_neg (by simp [bE_of ht hc]), if_pos (inB_true.2 ⟨by omega, by omega⟩), if_neg (by simp [ho])]
theorem nth_at {t : Tm} (ht : TmOk t) {d : Nat} (hd : (d : Int) < t.len) (ho : opB t d = true) : nthE t (dl t 0 d).length = 0 ∧ nthN t (dl t 0 d).length = d := by
  obtain ⟨h1, h2⟩ := dl_hit (t := t) (a := 0) (k := d) (K := t.len.toNat) (by omega) (by simpa using ho)
  have e : nthE t (dl t 0 d).length = 0 := by unfold nthE; rw [if_neg (by simp [ht.to]), if_pos ⟨by omega, by omega⟩]
  exact ⟨e, by rw [nthN, if_pos e, Int.toNat_natCast, h2]; omega⟩
theorem nth_end {t : Tm} (ht : TmOk t) : nthE t (dl t 0 t.len.toNat).length = 5 := by
  unfold nthE; rw [if_neg (by simp [ht.to]), if_neg (by omega)]
theorem mn_waits {t : Tm} {c : Cy} (hk : c.k = 0) {d : Nat} (ho : opB t d = true) : mnAt t c d = (c.f + (dl t 0 d).length) % c.n := by
  rw [mnAt_open ho, dl_cnt]
  congr 3
  exact cnt_congr _ _ _ fun i _ => by unfold stB; rw [hk]; simp
theorem cnt_less (p q : Nat → Bool) (x : Nat) (hq : ∀ i, i ≠ x → q i = p i) (hx : q x = false) : ∀ N, cnt q N + (if x < N ∧ p x = true then 1 else 0) = cnt p N
  | 0 => by simp [cnt]
  | N + 1 => by
    have ih := cnt_less p q x hq hx N
    by_cases e : N = x
    · subst e
      have h1 : ¬ (N < N ∧ p N = true) := by omega
      rw [if_neg h1] at ih
      cases hp : p N with
      | true =>
        have h2 : N < N + 1 ∧ true = true := ⟨by omega, rfl⟩
        rw [if_pos h2, cnt_yes p N hp, cnt_no q N hx]; omega
      | false => rw [if_neg (by simp), cnt_no p N hp, cnt_no q N hx]; omega
    · have h3 : (x < N + 1 ∧ p x = true) ↔ (x < N ∧ p x = true) := ⟨fun h => ⟨by omega, h.2⟩, fun h => ⟨by omega, h.2⟩⟩
      have h4 : (if x < N + 1 ∧ p x = true then 1 else 0) = (if x < N ∧ p x = true then 1 else 0) := by simp only [h3]
      rw [h4]
      cases hp : p N with
      | true => rw [cnt_yes p N hp, cnt_yes q N (by rw [hq N e, hp])]; omega
      | false => rw [cnt_no p N hp, cnt_no q N (by rw [hq N e, hp])]; omega
theorem cl_count {t : Tm} {d : Int} (h : clE t d = 0) : nE (clT t d) 0 t.len = 0 ∧ cN (clT t d) 0 t.len = (dl t 0 t.len.toNat).length - (if opB t d then 1 else 0) := by
  obtain ⟨ht, h0, h1, hh, h60⟩ := clE_ok h
  have hT := clT_ok h
  have hl : (clT t d).len = t.len := by rw [clT_yes h]
  have e : nE (clT t d) 0 t.len = 0 := by
    unfold nE; rw [if_neg (by simp [hT.to]), hl, if_neg (by omega)]
  refine ⟨e, ?_⟩
  rw [cN, if_pos e, Int.sub_zero, dl_cnt, dl_cnt]
  have hd : ((d.toNat : Nat) : Int) = d := by omega
  have hq : opB (clT t d) ((d.toNat : Nat) : Int) = false := by
    unfold opB; rw [clT_has h, hd]; simp
  have := cnt_less (fun i : Nat => opB t i) (fun i : Nat => opB (clT t d) i) d.toNat (fun i hi => clT_op h (by omega)) hq t.len.toNat
  simp only [hd] at this
  cases ho : opB t d with
  | true => rw [ho, if_pos ⟨by omega, rfl⟩] at this; simp; omega
  | false => rw [ho, if_neg (by simp)] at this; simp; omega
end Go.Proofs.Ytecjmpaomebdbaa
