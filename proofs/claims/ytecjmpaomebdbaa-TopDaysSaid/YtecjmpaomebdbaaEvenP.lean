/-
  Plain: by a cycle that waits the menus are served equally often, up to once; all school days have a menu.
-/
import Derived.Test.YtecjmpaomebdbaaT
namespace Go.Proofs.Ytecjmpaomebdbaa
set_option linter.unusedVariables false
set_option linter.unusedSimpArgs false
open Go.RowKit

def sumT (l : List Int) : Nat → Int
  | 0 => 0
  | k + 1 => sumT l k + gi l k
theorem sumT_set (l : List Int) (m : Nat) (v : Int) : ∀ k, k ≤ l.length → sumT (l.set m v) k = sumT l k + (if m < k then v - gi l m else 0)
  | 0, _ => by simp [sumT]
  | k + 1, h => by
    have ih := sumT_set l m v k (by omega)
    simp only [sumT]
    rw [ih]
    by_cases e : m = k
    · subst e
      have : gi (l.set m v) m = v := by simp [gi, List.getElem?_set_self (show m < l.length by omega)]
      rw [this, if_neg (by omega), if_pos (by omega)]; omega
    · have : gi (l.set m v) k = gi l k := by simp [gi, List.getElem?_set_ne e]
      rw [this]
      by_cases h2 : m < k
      · rw [if_pos h2, if_pos (by omega)]; omega
      · rw [if_neg h2, if_neg (by omega)]; omega
theorem sumT_mono {l : List Int} (h : ∀ i, i < l.length → 0 ≤ gi l i) (k : Nat) : ∀ n, k ≤ n → n ≤ l.length → sumT l k ≤ sumT l n
  | 0, h1, _ => by have : k = 0 := by omega
                   subst this; exact Int.le_refl _
  | n + 1, h1, h2 => by
    by_cases e : k = n + 1
    · subst e; exact Int.le_refl _
    · have := sumT_mono h k n (by omega) (by omega)
      have := h n (by omega)
      simp only [sumT]; omega
theorem sumT_zeros (n : Nat) : ∀ k, sumT (List.replicate n 0) k = 0
  | 0 => rfl
  | k + 1 => by
    have ih := sumT_zeros n k
    simp only [sumT, ih]
    by_cases h : k < n <;> simp [gi, h, List.getElem?_replicate]
/-- all school days have a menu -/
theorem sv_sum (t : Tm) (c : Cy) (hc : CyOk c) : ∀ k, sumT (svTo t c c.n.toNat k) c.n.toNat = ((cnt (fun d : Nat => opB t d) k : Nat) : Int)
  | 0 => by rw [svTo_zero, sumT_zeros]; simp [cnt]
  | k + 1 => by
    have ih := sv_sum t c hc k
    have hb := mnAt_bd (t := t) hc k
    have hn := mnAt_nonneg (t := t) hc k
    cases ho : opB t k with
    | false =>
      have h1 : mnAt t c k < 0 := by
        by_cases h : 0 ≤ mnAt t c k
        · rw [hn.1 h] at ho; cases ho
        · omega
      rw [svTo_skip h1, ih, cnt_no _ _ ho]
    | true =>
      have h1 := hn.2 ho
      obtain ⟨m, hm⟩ := Int.eq_ofNat_of_zero_le h1
      have hmn : m < c.n.toNat := by omega
      rw [← svTo_more hmn hm, sumT_set _ _ _ _ (by rw [svTo_length]; exact Nat.le_refl _), if_pos hmn, ih, cnt_yes _ _ ho, svTo_at _ _ _ _ _ hmn]
      simp; omega
theorem dl_cnt (t : Tm) : ∀ k, (dl t 0 k).length = cnt (fun d : Nat => opB t d) k
  | 0 => rfl
  | k + 1 => by
    have ih := dl_cnt t k
    cases ho : opB t k with
    | true => rw [dl_yes (by simpa using ho), cnt_yes _ _ ho]; simp [ih]
    | false => rw [dl_no (by simpa using ho), cnt_no _ _ ho, ih]

/-- how many steps behind the first menu the menu m comes -/
def far (f n m : Int) : Int := if f ≤ m then m - f else m + n - f
theorem even_inv (t : Tm) (c : Cy) (hc : CyOk c) (hk : c.k = 0) : ∀ k : Nat, ∃ Q r : Nat, (r : Int) < c.n ∧
    (c.f + cnt (fun d : Nat => opB t d) k) % c.n = (if c.f + r < c.n then c.f + r else c.f + r - c.n) ∧
    ∀ m : Nat, (m : Int) < c.n → cnt (fun d => mnAt t c d == (m : Int)) k = Q + if far c.f c.n m < r then 1 else 0
  | 0 => by
    have h1 := hc.n1
    have h2 := hc.f0
    have h3 := hc.f1
    refine ⟨0, 0, by omega, ?_, ?_⟩
    · rw [if_pos (by simpa using h3)]; simp [cnt]; exact Int.emod_eq_of_lt h2 h3
    · intro m hm
      rw [if_neg (by unfold far; split <;> omega)]; simp [cnt]
  | k + 1 => by
    have h1 := hc.n1
    have h2 := hc.f0
    have h3 := hc.f1
    obtain ⟨Q, r, hr, hp, hm⟩ := even_inv t c hc hk k
    have hst : cnt (stB t c) k = cnt (fun d : Nat => opB t d) k := cnt_congr _ _ _ fun i _ => by simp [stB, hk]
    cases ho : opB t k with
    | false =>
      refine ⟨Q, r, hr, by rw [cnt_no _ _ ho]; exact hp, fun m h => ?_⟩
      rw [cnt_no _ _ (by rw [mnAt_shut ho, beq_eq_false_iff_ne]; omega)]
      exact hm m h
    | true =>
      have hmn : mnAt t c k = (if c.f + r < c.n then c.f + r else c.f + r - c.n) := by rw [mnAt_open ho, hst, hp]
      have hnx : (c.f + cnt (fun d : Nat => opB t d) (k + 1)) % c.n = ((if c.f + r < c.n then c.f + r else c.f + r - c.n) + 1) % c.n := by
        rw [← hp, next_mod h1, cnt_yes _ _ ho]; simp
      have hcm : ∀ m : Nat, cnt (fun d => mnAt t c d == (m : Int)) (k + 1) = cnt (fun d => mnAt t c d == (m : Int)) k + if (if c.f + r < c.n then c.f + r else c.f + r - c.n) = (m : Int) then 1 else 0 := by
        intro m
        simp only [cnt, hmn, beq_iff_eq]
      by_cases hl : (r : Int) + 1 < c.n
      · refine ⟨Q, r + 1, by omega, ?_, ?_⟩
        · rw [hnx]
          by_cases g1 : c.f + r < c.n
          · rw [if_pos g1]
            by_cases g2 : c.f + r + 1 < c.n
            · rw [if_pos (by omega), Int.emod_eq_of_lt (by omega) (by omega)]; omega
            · have : c.f + r + 1 = c.n := by omega
              rw [this, Int.emod_self, if_neg (by omega)]; omega
          · rw [if_neg g1, if_neg (by omega), Int.emod_eq_of_lt (by omega) (by omega)]; omega
        · intro m h
          rw [hcm, hm m h]
          unfold far
          (repeat' split) <;> omega
      · refine ⟨Q + 1, 0, by omega, ?_, ?_⟩
        · have z : (if c.f + ((0 : Nat) : Int) < c.n then c.f + ((0 : Nat) : Int) else c.f + ((0 : Nat) : Int) - c.n) = c.f := by rw [if_pos (by omega)]; omega
          rw [hnx, z]
          by_cases g1 : c.f + r < c.n
          · rw [if_pos g1]
            have : c.f + r + 1 = c.n := by omega
            rw [this, Int.emod_self]; omega
          · rw [if_neg g1, Int.emod_eq_of_lt (by omega) (by omega)]; omega
        · intro m h
          rw [hcm, hm m h]
          unfold far
          (repeat' split) <;> omega

/-- what the law asks of the list of numbers -/
theorem served_even {t : Tm} {c : Cy} (h : bE t c = 0) : 0 < (servedR t c).length ∧ (servedR t c).length ≤ 40 ∧ (∀ i, i < (servedR t c).length → 0 ≤ gi (servedR t c) i ∧ gi (servedR t c) i ≤ 1000) ∧
    nE t 0 t.len = 0 ∧ cN t 0 t.len = sumT (servedR t c) (servedR t c).length ∧ sumT (servedR t c) (servedR t c).length ≤ 1000 ∧
    ∃ Q : Int, ∀ i, i < (servedR t c).length → (c.k = 0 → Q ≤ gi (servedR t c) i ∧ gi (servedR t c) i ≤ Q + 1) := by
  obtain ⟨hok, hc⟩ := bE_ok h
  have n1 := hc.n1
  have n2 := hc.n2
  have t1 := hok.len1
  have t2 := hok.len2
  have hlen : (servedR t c).length = c.n.toNat := by unfold servedR; rw [if_pos h, svTo_length]
  have hat : ∀ i, i < c.n.toNat → gi (servedR t c) i = ((cnt (fun d => mnAt t c d == (i : Int)) t.len.toNat : Nat) : Int) := fun i hi => by unfold servedR; rw [if_pos h, svTo_at _ _ _ _ _ hi]
  have hz : tE t = 0 := by
    by_cases g : tE t = 0
    · exact g
    · rw [bE, if_pos g] at h; exact h
  have hne : nE t 0 t.len = 0 := by rw [nE, if_neg (by simp [hz]), if_neg (by omega)]
  have hcn := cnt_le (fun d : Nat => opB t d) t.len.toNat
  have hsum : sumT (servedR t c) (servedR t c).length = ((cnt (fun d : Nat => opB t d) t.len.toNat : Nat) : Int) := by
    rw [hlen]; unfold servedR; rw [if_pos h]; exact sv_sum t c hc _
  refine ⟨by omega, by omega, ?_, hne, ?_, by rw [hsum]; omega, ?_⟩
  · intro i hi
    rw [hat i (by omega)]
    have := cnt_le (fun d => mnAt t c d == (i : Int)) t.len.toNat
    omega
  · rw [hsum, cN, if_pos hne, Int.sub_zero, dl_cnt]
  · by_cases hk : c.k = 0
    · obtain ⟨Q, r, _, _, hm⟩ := even_inv t c hc hk t.len.toNat
      refine ⟨Q, fun i hi _ => ?_⟩
      rw [hat i (by omega), hm i (by omega)]
      split <;> omega
    · exact ⟨0, fun i _ h => absurd h hk⟩
end Go.Proofs.Ytecjmpaomebdbaa
