/-
  Two cycles that run on meet on the days that remainders tell; the walk of the law TermMeets.
-/
import Derived.Test.YtlnmmkgeahlohaaDoorL
namespace Go.Proofs.YtlnmmkgeahlohaaDoor
set_option linter.unusedVariables false
set_option linter.unusedSimpArgs false
open Go.RowKit

def allT : Tm := ⟨1000, [], []⟩
def runs (c : Cy) : Cy := ⟨c.n, c.f, 1⟩
def meetL (a b : Cy) (x y : Int) : List Ln := [⟨x - a.f, a.n⟩, ⟨y - b.f, b.n⟩]
theorem allT_op (d : Nat) : opB allT d = true := rfl
theorem allT_st (c : Cy) (d : Nat) : stB allT (runs c) d = true := rfl
theorem allT_cnt (c : Cy) (d : Nat) : cnt (stB allT (runs c)) d = d := by
  induction d with
  | zero => rfl
  | succ d ih => rw [cnt_yes _ _ (allT_st c d), ih]
theorem allT_mn (c : Cy) (d : Nat) : mnAt allT (runs c) d = (c.f + d) % c.n := by
  rw [mnAt_open (allT_op d), allT_cnt]; rfl
theorem rem_iff {n f x : Int} (d : Nat) (h0 : 0 ≤ x) (h1 : x < n) : (f + (d : Int)) % n = x ↔ (d : Int) % n = (x - f) % n := by
  constructor
  · intro h
    rw [← h, Int.emod_sub_emod]
    congr 1; omega
  · intro h
    rw [← Int.add_emod_emod, h, Int.add_emod_emod, show f + (x - f) = x by omega, Int.emod_eq_of_lt h0 h1]
theorem togE_ok {t : Tm} {a b : Cy} {x y : Int} (h : togE t a b x y = 0) : TmOk t ∧ CyOk a ∧ CyOk b ∧ 0 ≤ x ∧ x < a.n ∧ 0 ≤ y ∧ y < b.n := by
  unfold togE at h
  by_cases h1 : bE t a = 0
  · rw [if_neg (by simp [h1])] at h
    by_cases h2 : cE b = 0
    · rw [if_neg (by simp [h2])] at h
      cases i1 : inB x 0 (a.n - 1) with
      | false => rw [i1] at h; cases h
      | true =>
        cases i2 : inB y 0 (b.n - 1) with
        | false => rw [i1, i2] at h; cases h
        | true =>
          obtain ⟨k1, k2⟩ := bE_ok h1
          have j1 := inB_true.1 i1
          have j2 := inB_true.1 i2
          exact ⟨k1, k2, CyOk.of h2, by omega, by omega, by omega, by omega⟩
    · rw [if_pos h2] at h; exact absurd h h2
  · rw [if_pos h1] at h; exact absurd h h1
section
variable {a b : Cy} {x y : Int}
theorem meet_has (hE : togE allT (runs a) (runs b) x y = 0) (d : Nat) : meetB allT (runs a) (runs b) x y d = true ↔ Has (meetL a b x y) 2 d := by
  obtain ⟨-, ca, cb, x0, x1, y0, y1⟩ := togE_ok hE
  have na : 1 ≤ a.n := ca.n1
  have nb : 1 ≤ b.n := cb.n1
  have ea : (d % mN (meetL a b x y) 0 = rN (meetL a b x y) 0) ↔ (d : Int) % a.n = (x - a.f) % a.n := by
    show d % a.n.toNat = ((x - a.f) % a.n).toNat ↔ _
    have h1 := Int.emod_nonneg (x - a.f) (show a.n ≠ 0 by omega)
    have h2 := Int.emod_nonneg (d : Int) (show a.n ≠ 0 by omega)
    have h3 : (((d % a.n.toNat : Nat)) : Int) = (d : Int) % a.n := by rw [Int.natCast_emod, Int.toNat_of_nonneg (by omega)]
    omega
  have eb : (d % mN (meetL a b x y) 1 = rN (meetL a b x y) 1) ↔ (d : Int) % b.n = (y - b.f) % b.n := by
    show d % b.n.toNat = ((y - b.f) % b.n).toNat ↔ _
    have h1 := Int.emod_nonneg (y - b.f) (show b.n ≠ 0 by omega)
    have h2 := Int.emod_nonneg (d : Int) (show b.n ≠ 0 by omega)
    have h3 : (((d % b.n.toNat : Nat)) : Int) = (d : Int) % b.n := by rw [Int.natCast_emod, Int.toNat_of_nonneg (by omega)]
    omega
  unfold meetB
  rw [allT_mn, allT_mn, Bool.and_eq_true, beq_iff_eq, beq_iff_eq, rem_iff d x0 (show x < a.n from x1), rem_iff d y0 (show y < b.n from y1), ← ea, ← eb]
  constructor
  · rintro ⟨h1, h2⟩ i hi
    match i, hi with
    | 0, _ => exact h1
    | 1, _ => exact h2
  · intro h; exact ⟨h 0 (by omega), h 1 (by omega)⟩
theorem meet_slvE (hE : togE allT (runs a) (runs b) x y = 0) : slvE (meetL a b x y) = 0 := by
  obtain ⟨-, ca, cb, x0, x1, y0, y1⟩ := togE_ok hE
  have na : 1 ≤ a.n := ca.n1
  have nb : 1 ≤ b.n := cb.n1
  have na2 : a.n ≤ 40 := ca.n2
  have nb2 : b.n ≤ 40 := cb.n2
  refine slvE_of (by show ¬ 6 < 2; omega) ?_ ?_
  · refine (lnTo_iff _ _).2 fun i hi => ?_
    match i, hi with
    | 0, _ => exact inB_true.2 (show 1 ≤ a.n ∧ a.n ≤ 100000 by omega)
    | 1, _ => exact inB_true.2 (show 1 ≤ b.n ∧ b.n ≤ 100000 by omega)
    | i + 2, hi => exact absurd hi (by show ¬ i + 2 < 2; omega)
  · show ¬ 1099511627776 < ((1 : Nat).lcm a.n.toNat).lcm b.n.toNat
    rw [Nat.lcm_one_left]
    have : a.n.toNat.lcm b.n.toNat ≤ a.n.toNat * b.n.toNat := Nat.div_le_self _ _
    have : a.n.toNat * b.n.toNat ≤ 40 * 40 := Nat.mul_le_mul (by omega) (by omega)
    omega
theorem meet_law (hE : togE allT (runs a) (runs b) x y = 0) {s m : Int} {ok : Bool} (h : SRel (meetL a b x y) s m ok) :
    0 ≤ s ∧ togB allT (runs a) (runs b) x y = (ok && decide (s < 1000)) ∧ (togB allT (runs a) (runs b) x y = true → togR allT (runs a) (runs b) x y = s) := by
  have h2 : (meetL a b x y).length = 2 := rfl
  rcases firstTo_spec (meetB allT (runs a) (runs b) x y) 1000 with ⟨hn, hm⟩ | ⟨d, hs, hd, hp, hm⟩
  · obtain ⟨r1, r2⟩ := tog_none (t := allT) hn
    rw [r1, r2]
    rcases h with ⟨_, e2, ⟨z, hz, e3⟩, _⟩ | ⟨_, e2, e3, _⟩
    · refine ⟨by omega, ?_, by simp⟩
      have : ¬ s < 1000 := fun hlt => by
        have := hm z (by omega)
        rw [(meet_has hE z).2 (by rw [← h2]; exact hz.2)] at this; cases this
      rw [decide_eq_false this, Bool.and_false]
    · rw [e2]; exact ⟨by omega, rfl, by simp⟩
  · obtain ⟨r1, r2⟩ := tog_some (t := allT) hE hs
    rw [r1, r2]
    have hhas := (meet_has hE d).1 hp
    rcases h with ⟨e0, e2, ⟨z, hz, e3⟩, _⟩ | ⟨e1, _⟩
    · have hg := (slvE_ok e0).2.1
      have hzd : z = d % lcTo (meetL a b x y) 2 := hz.uniq (Sol.of_has hg (Nat.le_refl _) hhas)
      have hle : z ≤ d := by rw [hzd]; exact Nat.mod_le _ _
      have hge : ¬ z < d := fun hlt => by
        have := hm z hlt
        rw [(meet_has hE z).2 hz.2] at this; cases this
      have : z = d := by omega
      subst this
      rw [e2, e3]
      exact ⟨by omega, by rw [decide_eq_true (by omega)]; rfl, fun _ => rfl⟩
    · exact absurd hhas (e1 (meet_slvE hE) d)
end

end Go.Proofs.YtlnmmkgeahlohaaDoor
