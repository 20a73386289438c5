/-
  Plain: a solution has all remainders; any number has a solution of its own remainders.
-/
import Derived.Test.YtecjmpaomebdbaaI
namespace Go.Proofs.Ytecjmpaomebdbaa
set_option linter.unusedVariables false
set_option linter.unusedSimpArgs false
open Go.RowKit

theorem tmod_same {x r M : Int} (h : x % M = r % M) : (x - r.tmod M).tmod M = 0 := by
  have h1 : M ∣ x - r := Int.dvd_of_emod_eq_zero (Int.emod_eq_emod_iff_emod_sub_eq_zero.1 h)
  have h2 : x - r.tmod M = (x - r) + M * r.tdiv M := by have := Int.mul_tdiv_add_tmod r M; omega
  rw [h2]
  exact Int.tmod_eq_zero_of_dvd (Int.dvd_add h1 (Int.dvd_mul_right _ _))
theorem sol_all {l : List Ln} {a m : Int} (h : slvE l = 0) (hs : SRel l a m true) : 0 ≤ a ∧ a < m ∧ m ≤ 1099511627776 ∧ ∀ i, i < l.length → 1 ≤ (gl l i).m ∧ (gl l i).m ≤ 100000 ∧ m.tmod (gl l i).m = 0 ∧ (a - (gl l i).r.tmod (gl l i).m).tmod (gl l i).m = 0 := by
  obtain ⟨_, hg, hb⟩ := slvE_ok h
  rcases hs with ⟨_, _, ⟨x, hx, rfl⟩, rfl⟩ | hs
  · refine ⟨by omega, by have := hx.1; omega, by omega, fun i hi => ?_⟩
    obtain ⟨g1, g2, g3, g4, g5⟩ := hg i hi
    refine ⟨by omega, by omega, ?_, ?_⟩
    · rw [g3]
      exact Int.tmod_eq_zero_of_dvd (Int.natCast_dvd_natCast.2 (lc_dvd l i l.length hi))
    · apply tmod_same
      have := hx.2 i hi
      rw [← g5, ← this, g3]
      simp
  · cases hs.2.1
/-- the lines with all remainders of one number -/
def setR (l : List Ln) (n : Int) : List Ln := l.map fun x => ⟨n, x.m⟩
theorem setR_len (l : List Ln) (n : Int) : (setR l n).length = l.length := by simp [setR]
theorem setR_at (l : List Ln) (n : Int) {i : Nat} (hi : i < l.length) : gl (setR l n) i = ⟨n, (gl l i).m⟩ := by simp [gl, setR, hi]
theorem setR_lnTo (l : List Ln) (n : Int) : ∀ k, k ≤ l.length → lnTo (setR l n) k = lnTo l k
  | 0, _ => rfl
  | k + 1, h => by simp only [lnTo]; rw [setR_lnTo l n k (by omega), setR_at l n (by omega)]
theorem setR_lc (l : List Ln) (n : Int) : ∀ k, k ≤ l.length → lcTo (setR l n) k = lcTo l k
  | 0, _ => rfl
  | k + 1, h => by simp only [lcTo, mN]; rw [setR_lc l n k (by omega), setR_at l n (by omega)]
theorem setR_slvE (l : List Ln) (n : Int) : slvE (setR l n) = slvE l := by
  unfold slvE; rw [setR_len, setR_lnTo l n _ (Nat.le_refl _), setR_lc l n _ (Nat.le_refl _)]
theorem set_all {l : List Ln} {n b m : Int} {ok : Bool} (h : slvE l = 0) (hs : SRel (setR l n) b m ok) : ok = true ∧ 0 < m ∧ 0 ≤ b ∧ b < m ∧ m ≤ 1099511627776 ∧ (n.tmod m - b).tmod m = 0 := by
  have h' : slvE (setR l n) = 0 := by rw [setR_slvE]; exact h
  obtain ⟨_, hg, hb⟩ := slvE_ok h'
  have hp := lc_pos hg _ (Nat.le_refl _)
  obtain ⟨L, hL⟩ : ∃ L, lcTo (setR l n) (setR l n).length = L := ⟨_, rfl⟩
  have hH : Has (setR l n) (setR l n).length (n % (L : Int)).toNat := by
    intro i hi
    obtain ⟨g1, g2, g3, g4, g5⟩ := hg i hi
    have hd : ((mN (setR l n) i : Nat) : Int) ∣ (L : Int) := by rw [← hL]; exact Int.natCast_dvd_natCast.2 (lc_dvd _ i _ hi)
    have hr : (gl (setR l n) i).r = n := by rw [setR_at l n (by rw [setR_len] at hi; exact hi)]
    have h0 : 0 ≤ n % (L : Int) := Int.emod_nonneg _ (by omega)
    have e1 : (((n % (L : Int)).toNat % mN (setR l n) i : Nat) : Int) = n % (mN (setR l n) i : Nat) := by
      rw [Int.natCast_emod, Int.toNat_of_nonneg h0, Int.emod_emod_of_dvd _ hd]
    have e2 : ((rN (setR l n) i : Nat) : Int) = n % (mN (setR l n) i : Nat) := by rw [g5, hr, g3]
    omega
  rcases hs with ⟨_, rfl, ⟨x, hx, rfl⟩, rfl⟩ | hs
  · have hu : x = (n % (L : Int)).toNat % L := by
      have := Sol.of_has hg (Nat.le_refl _) hH
      rw [hL] at this
      exact hx.uniq this
    have hlt := hx.1
    rw [hL] at hlt hp hb ⊢
    have h0 : 0 ≤ n % (L : Int) := Int.emod_nonneg _ (by omega)
    have h1 : n % (L : Int) < L := Int.emod_lt_of_pos _ (by omega)
    have hx2 : (x : Int) = n % (L : Int) := by
      rw [hu, Nat.mod_eq_of_lt (by omega)]; omega
    refine ⟨rfl, by omega, by omega, by omega, by omega, ?_⟩
    have h3 : (n.tmod (L : Int) - (x : Int)) = -((x : Int) - n.tmod L) := by omega
    have h4 : ((x : Int) - n.tmod L).tmod L = 0 := tmod_same (by rw [hx2, Int.emod_emod_of_dvd _ (Int.dvd_refl _)])
    rw [h3, Int.neg_tmod, h4]; rfl
  · exact absurd hH (hs.1 h' _)
end Go.Proofs.Ytecjmpaomebdbaa
