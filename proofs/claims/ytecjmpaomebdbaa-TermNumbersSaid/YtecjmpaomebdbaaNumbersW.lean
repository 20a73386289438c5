/-
  The walk of the law TermNumbers.
-/
import Derived.Test.YtecjmpaomebdbaaZ
namespace Go.Proofs.Ytecjmpaomebdbaa
set_option linter.unusedVariables false
set_option linter.unusedSimpArgs false
open Go.RowKit

theorem dl_nth (t : Tm) (b : Int) : ∀ K i, i < (dl t b K).length → ∃ k : Nat, k < K ∧ gi (dl t b K) i = b + k ∧ opB t (b + k) = true ∧ (dl t b k).length = i
  | 0, i, h => by simp [dl] at h
  | K + 1, i, h => by
    cases ho : opB t (b + K) with
    | false =>
      rw [dl_no ho] at h ⊢
      obtain ⟨k, a1, a2, a3, a4⟩ := dl_nth t b K i h
      exact ⟨k, by omega, a2, a3, a4⟩
    | true =>
      rw [dl_yes ho] at h ⊢
      by_cases hi : i < (dl t b K).length
      · obtain ⟨k, a1, a2, a3, a4⟩ := dl_nth t b K i hi
        exact ⟨k, by omega, by rw [← a2]; simp [gi, List.getElem?_append_left hi], a3, a4⟩
      · have hi2 : i = (dl t b K).length := by simp at h; omega
        subst hi2
        exact ⟨K, by omega, by simp [gi], ho, rfl⟩
theorem nth_facts {t : Tm} {n : Int} (h : nthE t n = 0) : nE t 0 (nthN t n) = 0 ∧ cN t 0 (nthN t n) = n ∧ isOpR t (nthN t n) = true ∧ qE t (nthN t n) = 0 := by
  have hz : tE t = 0 := by
    by_cases g : tE t = 0
    · exact g
    · rw [nthE, if_pos g] at h; exact h
  have hr : 0 ≤ n ∧ n < (dl t 0 t.len.toNat).length := by
    by_cases g : 0 ≤ n ∧ n < (dl t 0 t.len.toNat).length
    · exact g
    · rw [nthE, if_neg (by simp [hz]), if_neg g] at h; cases h
  have ha : nthN t n = gi (dl t 0 t.len.toNat) n.toNat := by rw [nthN, if_pos h]
  obtain ⟨k, k1, k2, k3, k4⟩ := dl_nth t 0 t.len.toNat n.toNat (by omega)
  have hk : nthN t n = k := by rw [ha, k2]; omega
  rw [hk]
  have hne : nE t 0 k = 0 := by rw [nE, if_neg (by simp [hz]), if_neg (by omega)]
  have hq : qE t k = 0 := by rw [qE, if_neg (by simp [hz]), if_pos (inB_true.2 (by omega))]
  refine ⟨hne, ?_, by rw [isOpR_yes hq]; simpa using k3, hq⟩
  rw [cN, if_pos hne, show ((k : Int) - 0).toNat = k by omega, k4]
  omega
theorem wf_bd {n : Int} (h : (Lit.int .i64 n).wf = true) : -9223372036854775808 ≤ n ∧ n ≤ 9223372036854775807 := by
  simp only [Lit.wf, IntKind.min, IntKind.max, IntKind.signed, IntKind.bits, Bool.and_eq_true, decide_eq_true_eq, if_true] at h
  omega

set_option maxRecDepth 100000 in
set_option maxHeartbeats 1000000 in
theorem termNumbers_any (t : Tm) (A1 A2 : Option Addr) (c1 c2 : Nat) (n d : Int) (w : World) (h1 : RN w A1 t.rest) (h2 : RN w A2 t.clo) (wfn : (Lit.int .i64 n).wf = true) :
    Calls Try.prog 14 #[.agg #[.int .i64 t.len, .slice A1 t.rest.length c1, .slice A2 t.clo.length c2], .int .i64 n, .int .i64 d] w fun e w' => e = .returned (.bool true) ∧ Below w.heap.size w w' := by
  have hn := wf_bd wfn
  clear wfn
  have hy : Below w.heap.size w (w.alloc (.cells #[.int .i64 t.len, .slice A1 t.rest.length c1, .slice A2 t.clo.length c2] 24)) := (Below.refl _ _).alloc (Nat.le_refl _) _
  have b0 : Box (w.alloc (.cells #[.int .i64 t.len, .slice A1 t.rest.length c1, .slice A2 t.clo.length c2] 24)) w.heap.size #[.int .i64 t.len, .slice A1 t.rest.length c1, .slice A2 t.clo.length c2] := Box.new w _ _
  replace h1 := h1.below hy
  replace h2 := h2.below hy
  go_enter Try.func14, Try.ntmps14
  go_wp2_with fail
  refine (long_any t A1 A2 c1 c2 _).mono ?_
  rintro e w1 ⟨rfl, hb1⟩
  replace b0 := b0.below hb1; replace h1 := h1.below hb1; replace h2 := h2.below hb1; replace hy := hy.trans (hb1.mono hy.size)
  clear hb1
  cases hlg : longB t with
  | true =>
    have xx0 := b0.cell; have nn0 := b0.lt
    go_wp2_with fail
    clear xx0 nn0
    refine (known_any _).mono ?_
    rintro e w2 ⟨rfl, hb2⟩
    go_wp2
    go_ret
    exact ⟨rfl, hy.trans (hb2.mono hy.size)⟩
  | false =>
    obtain ⟨l1, l2⟩ := longB_no hlg
    have xx0 := b0.cell; have nn0 := b0.lt
    go_wp2_with fail
    clear xx0 nn0
    refine (nth_any t n A1 A2 c1 c2 _ h1 h2 (by omega) (by omega) hn).mono ?_
    rintro e w2 ⟨rfl, hb2⟩
    replace b0 := b0.below hb2; replace h1 := h1.below hb2; replace h2 := h2.below hb2; replace hy := hy.trans (hb2.mono hy.size)
    clear hb2
    have xx0 := b0.cell; have nn0 := b0.lt
    go_wp2_with fail
    clear xx0 nn0
    refine (rnth_any t n A1 A2 c1 c2 _ h1 h2 (by omega) (by omega)).mono ?_
    rintro e w3 ⟨rfl, hb3⟩
    replace b0 := b0.below hb3; replace h1 := h1.below hb3; replace h2 := h2.below hb3; replace hy := hy.trans (hb3.mono hy.size)
    clear hb3
    have xx0 := b0.cell; have nn0 := b0.lt
    go_wp2_with fail
    clear xx0 nn0
    refine (next_any t d A1 A2 c1 c2 _ h1 h2 (by omega) (by omega)).mono ?_
    rintro e w4 ⟨rfl, hb4⟩
    replace b0 := b0.below hb4; replace h1 := h1.below hb4; replace h2 := h2.below hb4; replace hy := hy.trans (hb4.mono hy.size)
    clear hb4
    have xx0 := b0.cell; have nn0 := b0.lt
    go_wp2_with fail
    clear xx0 nn0
    refine (rnext_any t d A1 A2 c1 c2 _ h1 h2 (by omega) (by omega)).mono ?_
    rintro e w5 ⟨rfl, hb5⟩
    replace b0 := b0.below hb5; replace h1 := h1.below hb5; replace h2 := h2.below hb5; replace hy := hy.trans (hb5.mono hy.size)
    clear hb5
    by_cases g0 : nthE t n = 0
    · obtain ⟨s0, s1, s2, s3⟩ := nth_facts g0
      have q0 : (nthE t n != 0) = false := by simp [g0]
      clear g0
      have xx0 := b0.cell; have nn0 := b0.lt
      go_wp2_with fail
      clear xx0 nn0
      refine (count_any t 0 (nthN t n) A1 A2 c1 c2 _ h1 h2 (by omega) (by omega)).mono ?_
      rintro e w6 ⟨rfl, hb6⟩
      replace b0 := b0.below hb6; replace h1 := h1.below hb6; replace h2 := h2.below hb6; replace hy := hy.trans (hb6.mono hy.size)
      clear hb6
      rw [s0, s1]
      have xx0 := b0.cell; have nn0 := b0.lt
      go_wp2_with fail
      clear xx0 nn0
      refine (isOpen_any (nthN t n) t A1 A2 c1 c2 _ h1 h2 (by omega) (by omega)).mono ?_
      rintro e w7 ⟨rfl, hb7⟩
      replace b0 := b0.below hb7; replace h1 := h1.below hb7; replace h2 := h2.below hb7; replace hy := hy.trans (hb7.mono hy.size)
      clear hb7
      rw [s2, s3]
      have xx0 := b0.cell; have nn0 := b0.lt
      go_wp2_with fail
      clear xx0 nn0
      refine (known_any _).mono ?_
      rintro e w8 ⟨rfl, hb8⟩
      go_wp2
      go_ret
      exact ⟨rfl, hy.trans (hb8.mono hy.size)⟩
    · have q0 : (nthE t n != 0) = true := by simp [g0]
      clear g0
      have xx0 := b0.cell; have nn0 := b0.lt
      go_wp2_with fail
      clear xx0 nn0
      refine (known_any _).mono ?_
      rintro e w6 ⟨rfl, hb6⟩
      go_wp2
      go_ret
      exact ⟨rfl, hy.trans (hb6.mono hy.size)⟩
end Go.Proofs.Ytecjmpaomebdbaa
