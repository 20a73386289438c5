/-
  The plain mathematics of remainders: no program in sight.
-/
import Derived.Test.YtlnmmkgeahlohaaDoorPlain
namespace Go.Proofs.YtlnmmkgeahlohaaDoor
set_option linter.unusedVariables false
set_option linter.unusedSimpArgs false

structure Ln where
  r : Int
  m : Int
def gl (l : List Ln) (k : Nat) : Ln := l.getD k ⟨0, 0⟩
theorem gl_getElem (l : List Ln) (k : Nat) (h : k < l.length) : l[k] = gl l k := by simp [gl, h]
def mN (l : List Ln) (k : Nat) : Nat := (gl l k).m.toNat
def rN (l : List Ln) (k : Nat) : Nat := ((gl l k).r % (gl l k).m).toNat
def lnTo (l : List Ln) : Nat → Bool
  | 0 => true
  | k + 1 => lnTo l k && inB (gl l k).m 1 100000
theorem lnTo_iff (l : List Ln) (k : Nat) : lnTo l k = true ↔ ∀ i, i < k → inB (gl l i).m 1 100000 = true := by
  induction k with
  | zero => simp [lnTo]
  | succ k ih =>
    simp only [lnTo, Bool.and_eq_true, ih]
    constructor
    · rintro ⟨h1, h2⟩ i hi
      by_cases e : i = k
      · subst e; exact h2
      · exact h1 i (by omega)
    · intro h; exact ⟨fun i hi => h i (by omega), h k (by omega)⟩
def lcTo (l : List Ln) : Nat → Nat
  | 0 => 1
  | k + 1 => (lcTo l k).lcm (mN l k)
def slvE (l : List Ln) : Int := if 6 < l.length then 4 else if lnTo l l.length then (if 1099511627776 < lcTo l l.length then 4 else 0) else 1
/-- All moduli are in range. -/
def Good (l : List Ln) : Prop := ∀ i, i < l.length → 1 ≤ mN l i ∧ mN l i ≤ 100000 ∧ (gl l i).m = mN l i ∧ rN l i < mN l i ∧ ((rN l i : Nat) : Int) = (gl l i).r % (gl l i).m
theorem Good.of {l : List Ln} (h : lnTo l l.length = true) : Good l := by
  intro i hi
  have hb := inB_true.1 ((lnTo_iff _ _).1 h i hi)
  have h0 := Int.emod_nonneg (gl l i).r (show (gl l i).m ≠ 0 by omega)
  have h1 := Int.emod_lt_of_pos (gl l i).r (show 0 < (gl l i).m by omega)
  unfold mN rN
  refine ⟨by omega, by omega, by omega, by omega, by omega⟩
section
variable {l : List Ln}
theorem lc_succ (l : List Ln) (k : Nat) : lcTo l (k + 1) = (lcTo l k).lcm (mN l k) := rfl
theorem lc_pos (hg : Good l) : ∀ k, k ≤ l.length → 0 < lcTo l k
  | 0, _ => Nat.one_pos
  | k + 1, h => Nat.lcm_pos (lc_pos hg k (by omega)) (by have := (hg k (by omega)).1; omega)
theorem lc_dvd_step (l : List Ln) (k : Nat) : lcTo l k ∣ lcTo l (k + 1) := Nat.dvd_lcm_left _ _
theorem lc_dvd_m (l : List Ln) (k : Nat) : mN l k ∣ lcTo l (k + 1) := Nat.dvd_lcm_right _ _
theorem lc_dvd_lc (l : List Ln) (i : Nat) : ∀ k, i ≤ k → lcTo l i ∣ lcTo l k
  | 0, h => by have : i = 0 := by omega
               subst this; exact Nat.dvd_refl _
  | k + 1, h => by
    by_cases e : i = k + 1
    · subst e; exact Nat.dvd_refl _
    · exact Nat.dvd_trans (lc_dvd_lc l i k (by omega)) (lc_dvd_step l k)
theorem lc_dvd (l : List Ln) (i k : Nat) (h : i < k) : mN l i ∣ lcTo l k := Nat.dvd_trans (lc_dvd_m l i) (lc_dvd_lc l (i + 1) k (by omega))
theorem lc_min (l : List Ln) (x : Nat) : ∀ k, (∀ i, i < k → mN l i ∣ x) → lcTo l k ∣ x
  | 0, _ => Nat.one_dvd _
  | k + 1, h => Nat.lcm_dvd (lc_min l x k fun i hi => h i (by omega)) (h k (by omega))
theorem lc_le (hg : Good l) (i k : Nat) (h : i ≤ k) (hk : k ≤ l.length) : lcTo l i ≤ lcTo l k := Nat.le_of_dvd (lc_pos hg k hk) (lc_dvd_lc l i k h)
/-- The next modulus, as it is reckoned. -/
theorem lc_quo (l : List Ln) (k : Nat) : lcTo l k / (lcTo l k).gcd (mN l k) * mN l k = lcTo l (k + 1) := by
  rw [lc_succ, Nat.lcm, Nat.div_mul_right_comm (Nat.gcd_dvd_left _ _)]
def stp (l : List Ln) (k : Nat) : Nat := mN l k / (lcTo l k).gcd (mN l k)
theorem lc_stp (l : List Ln) (k : Nat) : lcTo l k * stp l k = lcTo l (k + 1) := by
  unfold stp; rw [lc_succ, Nat.lcm, Nat.mul_div_assoc _ (Nat.gcd_dvd_right _ _)]
theorem stp_le (l : List Ln) (k : Nat) : stp l k ≤ mN l k := Nat.div_le_self _ _
theorem stp_pos (hg : Good l) (k : Nat) (hk : k < l.length) : 0 < stp l k := by
  have := lc_pos hg (k + 1) hk
  rw [← lc_stp] at this
  exact Nat.pos_of_mul_pos_left this
theorem lc_big (hg : Good l) (k : Nat) (hk : k < l.length) (hb : lcTo l k ≤ 1099511627776) : lcTo l (k + 1) ≤ 1099511627776 * 100000 := by
  rw [← lc_stp]
  exact Nat.mul_le_mul hb (Nat.le_trans (stp_le l k) (hg k hk).2.1)

/-- x has the first k remainders. -/
def Has (l : List Ln) (k x : Nat) : Prop := ∀ i, i < k → x % mN l i = rN l i
def Sol (l : List Ln) (k x : Nat) : Prop := x < lcTo l k ∧ Has l k x
theorem Has.mod {k x : Nat} (h : Has l k x) : Has l k (x % lcTo l k) := fun i hi => by rw [Nat.mod_mod_of_dvd _ (lc_dvd l i k hi)]; exact h i hi
theorem Has.mod' {k x : Nat} (h : Has l k (x % lcTo l k)) : Has l k x := fun i hi => by have := h i hi; rwa [Nat.mod_mod_of_dvd _ (lc_dvd l i k hi)] at this
theorem Has.less {k j x : Nat} (h : Has l k x) (hj : j ≤ k) : Has l j x := fun i hi => h i (by omega)
theorem Sol.of_has (hg : Good l) {k x : Nat} (hk : k ≤ l.length) (h : Has l k x) : Sol l k (x % lcTo l k) := ⟨Nat.mod_lt _ (lc_pos hg k hk), h.mod⟩
theorem Sol.le_eq {k x y : Nat} (hx : Sol l k x) (hy : Sol l k y) (hle : y ≤ x) : x = y := by
  have h1 : lcTo l k ∣ x - y := lc_min l _ k fun i hi => Nat.dvd_of_mod_eq_zero (Nat.sub_mod_eq_zero_of_mod_eq (by rw [hx.2 i hi, hy.2 i hi]))
  have := Nat.eq_zero_of_dvd_of_lt h1 (by have := hx.1; omega)
  omega
theorem Sol.uniq {k x y : Nat} (hx : Sol l k x) (hy : Sol l k y) : x = y := by
  rcases Nat.le_total y x with h | h
  · exact hx.le_eq hy h
  · exact (hy.le_eq hx h).symm
/-- The remainder behind j steps. -/
def atJ (l : List Ln) (k a j : Nat) : Nat := (a + lcTo l k * j) % mN l k
theorem atJ_zero (l : List Ln) (k a : Nat) : atJ l k a 0 = a % mN l k := by simp [atJ]
theorem atJ_succ (l : List Ln) (k a j : Nat) : (atJ l k a j + lcTo l k % mN l k) % mN l k = atJ l k a (j + 1) := by
  unfold atJ
  rw [← Nat.add_mod, Nat.mul_succ, Nat.add_assoc]
theorem atJ_period (l : List Ln) (k a q : Nat) : atJ l k a q = atJ l k a (q % stp l k) := by
  unfold atJ
  obtain ⟨c, hc⟩ := lc_dvd_m l k
  conv => lhs; rw [← Nat.div_add_mod q (stp l k), Nat.mul_add, ← Nat.mul_assoc, lc_stp, hc, Nat.mul_assoc, Nat.add_left_comm, Nat.mul_add_mod]
theorem Sol.next {k a j : Nat} (h : Sol l k a) (hj : j < stp l k) (hr : atJ l k a j = rN l k) : Sol l (k + 1) (a + lcTo l k * j) := by
  refine ⟨?_, fun i hi => ?_⟩
  · rw [← lc_stp]
    have h1 : lcTo l k * (j + 1) ≤ lcTo l k * stp l k := Nat.mul_le_mul_left _ hj
    rw [Nat.mul_succ] at h1
    have := h.1
    omega
  · by_cases e : i = k
    · subst e; exact hr
    · obtain ⟨c, hc⟩ := lc_dvd l i k (by omega)
      rw [hc, Nat.mul_assoc, Nat.add_mul_mod_self_left]
      exact h.2 i (by omega)
theorem Sol.none (hg : Good l) {k a : Nat} (hk : k < l.length) (h : Sol l k a) (hn : ∀ j, j < stp l k → atJ l k a j ≠ rN l k) : ∀ x, ¬ Has l l.length x := by
  intro x hx
  have h1 : x % lcTo l k = a := (Sol.of_has hg (by omega) (hx.less (by omega))).uniq h
  have h2 := hx k hk
  refine hn ((x / lcTo l k) % stp l k) (Nat.mod_lt _ (stp_pos hg k hk)) ?_
  rw [← atJ_period]
  unfold atJ
  rw [← h1, Nat.mod_add_div]
  exact h2
theorem Sol.zero (l : List Ln) : Sol l 0 0 := ⟨Nat.one_pos, fun i hi => by omega⟩

/-- What a solving may answer. -/
def SRel (l : List Ln) (a m : Int) (ok : Bool) : Prop :=
  (slvE l = 0 ∧ ok = true ∧ (∃ x, Sol l l.length x ∧ a = (x : Nat)) ∧ m = (lcTo l l.length : Nat)) ∨ ((slvE l = 0 → ∀ x, ¬ Has l l.length x) ∧ ok = false ∧ a = 0 ∧ m = 0)
theorem SRel.same {a m a' m' : Int} {ok ok' : Bool} (h : SRel l a m ok) (h' : SRel l a' m' ok') : a = a' ∧ m = m' ∧ ok = ok' := by
  rcases h with ⟨e1, e2, ⟨x, hx, e3⟩, e4⟩ | ⟨n1, e2, e3, e4⟩ <;> rcases h' with ⟨f1, f2, ⟨y, hy, f3⟩, f4⟩ | ⟨n2, f2, f3, f4⟩
  · rw [e2, f2, e3, f3, e4, f4, hx.uniq hy]; simp
  · exact absurd hx.2 (n2 e1 x)
  · exact absurd hy.2 (n1 f1 y)
  · rw [e2, f2, e3, f3, e4, f4]; simp
theorem SRel.no {a m : Int} {ok : Bool} (h : SRel l a m ok) (he : ¬ slvE l = 0) : a = 0 ∧ m = 0 ∧ ok = false := by
  rcases h with ⟨e1, _⟩ | ⟨_, e2, e3, e4⟩
  · exact absurd e1 he
  · exact ⟨e3, e4, e2⟩
theorem slvE_ok (h : slvE l = 0) : l.length ≤ 6 ∧ Good l ∧ lcTo l l.length ≤ 1099511627776 := by
  unfold slvE at h
  by_cases h6 : 6 < l.length
  · rw [if_pos h6] at h; cases h
  · rw [if_neg h6] at h
    cases hl : lnTo l l.length with
    | false => rw [hl] at h; cases h
    | true =>
      rw [hl, if_pos rfl] at h
      by_cases hb : 1099511627776 < lcTo l l.length
      · rw [if_pos hb] at h; cases h
      · exact ⟨by omega, Good.of hl, by omega⟩
theorem slvE_of (h6 : ¬ 6 < l.length) (hl : lnTo l l.length = true) (hb : ¬ 1099511627776 < lcTo l l.length) : slvE l = 0 := by unfold slvE; rw [if_neg h6, if_pos hl, if_neg hb]
theorem slvE_big (h6 : ¬ 6 < l.length) (hl : lnTo l l.length = true) {k : Nat} (hk : k ≤ l.length) (hb : 1099511627776 < lcTo l k) : slvE l = 4 := by
  unfold slvE; rw [if_neg h6, if_pos hl, if_pos (by have := lc_le (Good.of hl) k l.length hk (Nat.le_refl _); omega)]
theorem slvE_arg (h6 : ¬ 6 < l.length) {k : Nat} (hk : k < l.length) (hb : inB (gl l k).m 1 100000 = false) : slvE l = 1 := by
  unfold slvE; rw [if_neg h6]
  cases hl : lnTo l l.length with
  | false => rfl
  | true => rw [(lnTo_iff _ _).1 hl k hk] at hb; cases hb
theorem slvE_long (h6 : 6 < l.length) : slvE l = 4 := by unfold slvE; rw [if_pos h6]
end

end Go.Proofs.YtlnmmkgeahlohaaDoor
