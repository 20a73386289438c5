/-
  The walk of the law TermCounts.
-/
import Derived.Test.YtecjmpaomebdbaaT
namespace Go.Proofs.Ytecjmpaomebdbaa
set_option linter.unusedVariables false
set_option linter.unusedSimpArgs false
open Go.RowKit

theorem dl_add (t : Tm) (a : Int) (j : Nat) : ∀ k, dl t a (j + k) = dl t a j ++ dl t (a + j) k
  | 0 => by simp [dl]
  | k + 1 => by
    have ih := dl_add t a j k
    have he : a + ((j + k : Nat) : Int) = a + j + k := by omega
    rw [← Nat.add_assoc]
    simp only [dl]
    rw [ih, he, List.append_assoc]
theorem counts_add {t : Tm} {a m e : Int} (h : nE t a m = 0) (k : nE t m e = 0) : nE t a e = 0 ∧ RowKit.wrap64 (cN t a m + cN t m e) = cN t a e ∧ cN t a m + cN t m e = cN t a e := by
  obtain ⟨hok, a0, a1, a2⟩ := nE_ok h
  obtain ⟨_, b0, b1, b2⟩ := nE_ok k
  have hz : tE t = 0 := by
    by_cases g : tE t = 0
    · exact g
    · rw [nE, if_pos g] at h; exact h
  have he : nE t a e = 0 := by rw [nE, if_neg (by simp [hz]), if_neg (by omega)]
  have hs : cN t a m + cN t m e = cN t a e := by
    rw [cN, cN, cN, if_pos h, if_pos k, if_pos he]
    have e1 : (e - a).toNat = (m - a).toNat + (e - m).toNat := by omega
    have e2 : a + ((m - a).toNat : Int) = m := by omega
    rw [e1, dl_add, e2]
    simp
  refine ⟨he, ?_, hs⟩
  rw [hs, cN, if_pos he]
  have := dl_len t a (e - a).toNat
  have := hok.len2
  unfold RowKit.wrap64; omega

set_option maxRecDepth 100000 in
set_option maxHeartbeats 1000000 in
theorem termCounts_any (t : Tm) (A1 A2 : Option Addr) (c1 c2 : Nat) (a e m : Int) (w : World) (h1 : RN w A1 t.rest) (h2 : RN w A2 t.clo) :
    Calls Try.prog 11 #[.agg #[.int .i64 t.len, .slice A1 t.rest.length c1, .slice A2 t.clo.length c2], .agg #[.int .i64 a, .int .i64 e], .int .i64 m] w fun e w' => e = .returned (.bool true) ∧ Below w.heap.size w w' := by
  have hy : Below w.heap.size w ((w.alloc (.cells #[.int .i64 t.len, .slice A1 t.rest.length c1, .slice A2 t.clo.length c2] 24)).alloc (.cells #[.int .i64 a, .int .i64 e] 65)) := ((Below.refl _ _).alloc (Nat.le_refl _) _).alloc (by simp) _
  have b0 : Box ((w.alloc (.cells #[.int .i64 t.len, .slice A1 t.rest.length c1, .slice A2 t.clo.length c2] 24)).alloc (.cells #[.int .i64 a, .int .i64 e] 65)) w.heap.size #[.int .i64 t.len, .slice A1 t.rest.length c1, .slice A2 t.clo.length c2] := (Box.new w _ _).alloc _
  have b1 : Box ((w.alloc (.cells #[.int .i64 t.len, .slice A1 t.rest.length c1, .slice A2 t.clo.length c2] 24)).alloc (.cells #[.int .i64 a, .int .i64 e] 65)) (w.heap.size + 1) #[.int .i64 a, .int .i64 e] := (Box.new (w.alloc (.cells #[.int .i64 t.len, .slice A1 t.rest.length c1, .slice A2 t.clo.length c2] 24)) _ _).at' (by simp)
  replace h1 := h1.below hy
  replace h2 := h2.below hy
  go_enter Try.func11, Try.ntmps11
  go_wp2_with fail
  refine (long_any t A1 A2 c1 c2 _).mono ?_
  rintro e w1 ⟨rfl, hb1⟩
  replace b0 := b0.below hb1; replace b1 := b1.below hb1; replace h1 := h1.below hb1; replace h2 := h2.below hb1; replace hy := hy.trans (hb1.mono hy.size)
  clear hb1
  cases hlg : longB t with
  | true =>
    have xx0 := b0.cell; have nn0 := b0.lt; have xx1 := b1.cell; have nn1 := b1.lt
    go_wp2_with fail
    clear xx0 nn0 xx1 nn1
    refine (known_any _).mono ?_
    rintro e w2 ⟨rfl, hb2⟩
    go_wp2
    go_ret
    exact ⟨rfl, hy.trans (hb2.mono hy.size)⟩
  | false =>
    obtain ⟨l1, l2⟩ := longB_no hlg
    have xx0 := b0.cell; have nn0 := b0.lt; have xx1 := b1.cell; have nn1 := b1.lt
    go_wp2_with fail
    clear xx0 nn0 xx1 nn1
    refine (count_any t a e A1 A2 c1 c2 _ h1 h2 (by omega) (by omega)).mono ?_
    rintro e w2 ⟨rfl, hb2⟩
    replace b0 := b0.below hb2; replace b1 := b1.below hb2; replace h1 := h1.below hb2; replace h2 := h2.below hb2; replace hy := hy.trans (hb2.mono hy.size)
    clear hb2
    have xx0 := b0.cell; have nn0 := b0.lt; have xx1 := b1.cell; have nn1 := b1.lt
    go_wp2_with fail
    clear xx0 nn0 xx1 nn1
    refine (rcount_any t a e A1 A2 c1 c2 _ h1 h2 (by omega) (by omega)).mono ?_
    rintro e w3 ⟨rfl, hb3⟩
    replace b0 := b0.below hb3; replace b1 := b1.below hb3; replace h1 := h1.below hb3; replace h2 := h2.below hb3; replace hy := hy.trans (hb3.mono hy.size)
    clear hb3
    have xx0 := b0.cell; have nn0 := b0.lt; have xx1 := b1.cell; have nn1 := b1.lt
    go_wp2_with fail
    clear xx0 nn0 xx1 nn1
    refine (count_any t a m A1 A2 c1 c2 _ h1 h2 (by omega) (by omega)).mono ?_
    rintro e w4 ⟨rfl, hb4⟩
    replace b0 := b0.below hb4; replace b1 := b1.below hb4; replace h1 := h1.below hb4; replace h2 := h2.below hb4; replace hy := hy.trans (hb4.mono hy.size)
    clear hb4
    have xx0 := b0.cell; have nn0 := b0.lt; have xx1 := b1.cell; have nn1 := b1.lt
    go_wp2_with fail
    clear xx0 nn0 xx1 nn1
    refine (count_any t m e A1 A2 c1 c2 _ h1 h2 (by omega) (by omega)).mono ?_
    rintro e w5 ⟨rfl, hb5⟩
    replace b0 := b0.below hb5; replace b1 := b1.below hb5; replace h1 := h1.below hb5; replace h2 := h2.below hb5; replace hy := hy.trans (hb5.mono hy.size)
    clear hb5
    by_cases g0 : nE t a m = 0
    · by_cases g1 : nE t m e = 0
      · obtain ⟨s0, s1, s2⟩ := counts_add g0 g1
        have q0 : (nE t a m != 0) = false := by simp [g0]
        have q1 : (nE t m e != 0) = false := by simp [g1]
        have q2 : (nE t a e == 0) = true := by simp [s0]
        have q3 : wrap64 (cN t a m + cN t m e) = cN t a e := s1
        clear s1 s2
        clear g0 g1
        have xx0 := b0.cell; have nn0 := b0.lt; have xx1 := b1.cell; have nn1 := b1.lt
        go_wp2_with fail
        clear xx0 nn0 xx1 nn1
        refine (known_any _).mono ?_
        rintro e w6 ⟨rfl, hb6⟩
        go_wp2
        go_ret
        exact ⟨rfl, hy.trans (hb6.mono hy.size)⟩
      · have q0 : (nE t a m != 0) = false := by simp [g0]
        have q1 : (nE t m e != 0) = true := by simp [g1]
        clear g0 g1
        have xx0 := b0.cell; have nn0 := b0.lt; have xx1 := b1.cell; have nn1 := b1.lt
        go_wp2_with fail
        clear xx0 nn0 xx1 nn1
        refine (known_any _).mono ?_
        rintro e w6 ⟨rfl, hb6⟩
        go_wp2
        go_ret
        exact ⟨rfl, hy.trans (hb6.mono hy.size)⟩
    · have q0 : (nE t a m != 0) = true := by simp [g0]
      clear g0
      have xx0 := b0.cell; have nn0 := b0.lt; have xx1 := b1.cell; have nn1 := b1.lt
      go_wp2_with fail
      clear xx0 nn0 xx1 nn1
      refine (known_any _).mono ?_
      rintro e w6 ⟨rfl, hb6⟩
      go_wp2
      go_ret
      exact ⟨rfl, hy.trans (hb6.mono hy.size)⟩
end Go.Proofs.Ytecjmpaomebdbaa
