/-
  Walks: how many school days a stretch has: the code's and the document's, at whatever term.
-/
import Derived.Test.YtecjmpaomebdbaaQ
import Derived.Test.YtecjmpaomebdbaaS
namespace Go.Proofs.Ytecjmpaomebdbaa
set_option linter.unusedVariables false
set_option linter.unusedSimpArgs false
open Go.RowKit

set_option maxRecDepth 100000 in
set_option maxHeartbeats 1000000 in
theorem count_any (t : Tm) (a e : Int) (A1 A2 : Option Addr) (c1 c2 : Nat) (w : World) (h1 : RN w A1 t.rest) (h2 : RN w A2 t.clo) (hl1 : t.rest.length ≤ 1000000000) (hl2 : t.clo.length ≤ 1000000000) :
    Calls Try.prog 21 #[.agg #[.int .i64 t.len, .slice A1 t.rest.length c1, .slice A2 t.clo.length c2], .int .i64 a, .int .i64 e] w fun r w' => r = .returned (.tuple #[.int .i64 (cN t a e), .int .i64 (nE t a e)]) ∧ Below w.heap.size w w' := by
  by_cases hg : nE t a e = 0
  · obtain ⟨hok, g1, g2, g3⟩ := nE_ok hg
    have hz : tE t = 0 := by
      by_cases h : tE t = 0
      · exact h
      · rw [nE, if_pos h] at hg; exact hg
    rw [cN, if_pos hg, hg]
    exact count_ok t a e A1 A2 c1 c2 w h1 h2 hz g1 g2 g3
  · have HG := Lib.hid hg
    clear hg
    obtain ⟨E, hE⟩ : ∃ E, E = nE t a e := ⟨_, rfl⟩
    obtain ⟨C, hC⟩ : ∃ C, C = cN t a e := ⟨_, rfl⟩
    rw [← hE, ← hC]
    rw [cN, ← hE] at hC
    have HE := Lib.hid hE
    have HC := Lib.hid hC
    clear hE hC
    have hy : Below w.heap.size w (w.alloc (.cells #[.int .i64 t.len, .slice A1 t.rest.length c1, .slice A2 t.clo.length c2] 24)) := (Below.refl _ w).alloc (Nat.le_refl _) _
    have b0 : Box (w.alloc (.cells #[.int .i64 t.len, .slice A1 t.rest.length c1, .slice A2 t.clo.length c2] 24)) w.heap.size #[.int .i64 t.len, .slice A1 t.rest.length c1, .slice A2 t.clo.length c2] := Box.new w _ _
    replace h1 := h1.below hy
    replace h2 := h2.below hy
    go_enter Try.func21, Try.ntmps21
    go_wp2_with fail
    refine (tvalidate_any t A1 A2 c1 c2 _ h1 h2 hl1 hl2).mono ?_
    rintro r w1 ⟨rfl, hb1⟩
    replace b0 := b0.below hb1; replace h1 := h1.below hb1; replace h2 := h2.below hb1; replace hy := hy.trans (hb1.mono hy.size)
    clear hb1
    by_cases h0 : tE t = 0
    · have h0' : (tE t != 0) = false := by simp [h0]
      have hEm : E = if a < 0 ∨ e < a ∨ t.len < e then 1 else 0 := by rw [HE.out, nE, if_neg (by simp [h0])]
      have hnz : E ≠ 0 := by rw [HE.out]; exact HG.out
      have HEM := Lib.hid hEm
      have HNZ := Lib.hid hnz
      clear h0 hEm hnz
      by_cases a0 : a < 0
      · have hEv : E = 1 := by rw [HEM.out, if_pos (by omega)]
        have HEV := Lib.hid hEv
        clear hEv
        have xx0 := b0.cell; have nn0 := b0.lt
        go_wp2
        clear xx0 nn0
        go_ret2
        exact ⟨ret2 (by rw [HC.out, if_neg (by rw [HEV.out]; decide)] <;> rfl) (by rw [HEV.out] <;> rfl), hy⟩
      by_cases a1 : e < a
      · have hEv : E = 1 := by rw [HEM.out, if_pos (by omega)]
        have HEV := Lib.hid hEv
        clear hEv
        have xx0 := b0.cell; have nn0 := b0.lt
        go_wp2
        clear xx0 nn0
        go_ret2
        exact ⟨ret2 (by rw [HC.out, if_neg (by rw [HEV.out]; decide)] <;> rfl) (by rw [HEV.out] <;> rfl), hy⟩
      by_cases a2 : t.len < e
      · have hEv : E = 1 := by rw [HEM.out, if_pos (by omega)]
        have HEV := Lib.hid hEv
        clear hEv
        have xx0 := b0.cell; have nn0 := b0.lt
        go_wp2
        clear xx0 nn0
        go_ret2
        exact ⟨ret2 (by rw [HC.out, if_neg (by rw [HEV.out]; decide)] <;> rfl) (by rw [HEV.out] <;> rfl), hy⟩
      exact absurd (by rw [HEM.out, if_neg (by omega)]) HNZ.out
    · have h0' : (tE t != 0) = true := by simp [h0]
      have hEv : E = tE t := by rw [HE.out, nE, if_pos h0]
      have hCv : C = 0 := by rw [HC.out, if_neg (by rw [hEv]; exact h0)]
      have HEV := Lib.hid hEv
      have HCV := Lib.hid hCv
      clear h0 hEv hCv
      have xx0 := b0.cell; have nn0 := b0.lt
      go_wp2
      clear xx0 nn0
      go_ret2
      exact ⟨ret2 (by rw [HCV.out] <;> rfl) (by rw [HEV.out] <;> rfl), hy⟩

set_option maxRecDepth 100000 in
set_option maxHeartbeats 1000000 in
theorem rcount_any (t : Tm) (a e : Int) (A1 A2 : Option Addr) (c1 c2 : Nat) (w : World) (h1 : RN w A1 t.rest) (h2 : RN w A2 t.clo) (hl1 : t.rest.length ≤ 1000000000) (hl2 : t.clo.length ≤ 1000000000) :
    Calls Try.prog 41 #[.agg #[.int .i64 t.len, .slice A1 t.rest.length c1, .slice A2 t.clo.length c2], .int .i64 a, .int .i64 e] w fun r w' => r = .returned (.tuple #[.int .i64 (cN t a e), .int .i64 (nE t a e)]) ∧ Below w.heap.size w w' := by
  obtain ⟨E, hE⟩ : ∃ E, E = nE t a e := ⟨_, rfl⟩
  obtain ⟨C, hC⟩ : ∃ C, C = cN t a e := ⟨_, rfl⟩
  rw [← hE, ← hC]
  rw [cN, ← hE] at hC
  have HE := Lib.hid hE
  have HC := Lib.hid hC
  clear hE hC
  have hy : Below w.heap.size w (w.alloc (.cells #[.int .i64 t.len, .slice A1 t.rest.length c1, .slice A2 t.clo.length c2] 24)) := (Below.refl _ w).alloc (Nat.le_refl _) _
  have b0 : Box (w.alloc (.cells #[.int .i64 t.len, .slice A1 t.rest.length c1, .slice A2 t.clo.length c2] 24)) w.heap.size #[.int .i64 t.len, .slice A1 t.rest.length c1, .slice A2 t.clo.length c2] := Box.new w _ _
  replace h1 := h1.below hy
  replace h2 := h2.below hy
  go_enter Try.func41, Try.ntmps41
  go_wp2_with fail
  refine (rtvalidate_any t A1 A2 c1 c2 _ h1 h2 hl1 hl2).mono ?_
  rintro r w1 ⟨rfl, hb1⟩
  replace b0 := b0.below hb1; replace h1 := h1.below hb1; replace h2 := h2.below hb1; replace hy := hy.trans (hb1.mono hy.size)
  clear hb1
  by_cases h0 : tE t = 0
  · have h0' : (tE t != 0) = false := by simp [h0]
    have hok := TmOk.of h0
    have hEm : E = if a < 0 ∨ e < a ∨ t.len < e then 1 else 0 := by rw [HE.out, nE, if_neg (by simp [h0])]
    have HEM := Lib.hid hEm
    have l2 := hok.len2
    clear h0 hEm
    by_cases a0 : a < 0
    · have hEv : E = 1 := by rw [HEM.out, if_pos (by omega)]
      have HEV := Lib.hid hEv
      clear hEv
      have xx0 := b0.cell; have nn0 := b0.lt
      go_wp2
      clear xx0 nn0
      go_ret2
      exact ⟨ret2 (by rw [HC.out, if_neg (by rw [HEV.out]; decide)] <;> rfl) (by rw [HEV.out] <;> rfl), hy⟩
    by_cases a1 : e < a
    · have hEv : E = 1 := by rw [HEM.out, if_pos (by omega)]
      have HEV := Lib.hid hEv
      clear hEv
      have xx0 := b0.cell; have nn0 := b0.lt
      go_wp2
      clear xx0 nn0
      go_ret2
      exact ⟨ret2 (by rw [HC.out, if_neg (by rw [HEV.out]; decide)] <;> rfl) (by rw [HEV.out] <;> rfl), hy⟩
    by_cases a2 : t.len < e
    · have hEv : E = 1 := by rw [HEM.out, if_pos (by omega)]
      have HEV := Lib.hid hEv
      clear hEv
      have xx0 := b0.cell; have nn0 := b0.lt
      go_wp2
      clear xx0 nn0
      go_ret2
      exact ⟨ret2 (by rw [HC.out, if_neg (by rw [HEV.out]; decide)] <;> rfl) (by rw [HEV.out] <;> rfl), hy⟩
    have hEv : E = 0 := by rw [HEM.out, if_neg (by omega)]
    have HEV := Lib.hid hEv
    clear hEv
    have xx0 := b0.cell; have nn0 := b0.lt
    go_wp2
    clear xx0 nn0
    go_loopw [10, 9] (fun x n wr => ∃ k : Nat, k ≤ (e - a).toNat ∧ x = .int .i64 (a + k) ∧ n = .int .i64 (dl t a k).length ∧ Box wr w.heap.size #[.int .i64 t.len, .slice A1 t.rest.length c1, .slice A2 t.clo.length c2] ∧ RN wr A1 t.rest ∧ RN wr A2 t.clo ∧ Below w.heap.size w wr) (fun x _ _ => (e - intOf x).toNat)
    case atStart => exact ⟨0, by omega, by simp, rfl, b0, h1, h2, hy⟩
    case round =>
      clear b0 h1 h2 hy
      obtain ⟨k, hk, rfl, rfl, b0, h1, h2, hy⟩ := hrel
      have hdl := dl_len t a k
      by_cases hlt : a + k < e
      · cases ho : opB t (a + k) with
        | true =>
          have hd := dl_yes ho
          have HD := Lib.hid hd
          clear hd
          have xx0 := b0.cell; have nn0 := b0.lt
          go_wp2_with fail
          clear xx0 nn0
          refine (ropen_any t (a + k) A1 A2 c1 c2 _ h1 h2 hok (by omega) (by omega)).mono ?_
          rintro r w2 ⟨rfl, hb2⟩
          rw [ho]
          replace b0 := b0.below hb2; replace h1 := h1.below hb2; replace h2 := h2.below hb2; replace hy := hy.trans (hb2.mono hy.size)
          clear hb2
          have xx0 := b0.cell; have nn0 := b0.lt
          go_wp2
          clear xx0 nn0
          go_roundw
          case rel => exact ⟨k + 1, by omega, by rw [Int.natCast_succ, ← Int.add_assoc], by rw [HD.out]; simp, b0, h1, h2, hy⟩
          case measure => simp only [intOf]; omega
        | false =>
          have hd := dl_no ho
          have HD := Lib.hid hd
          clear hd
          have xx0 := b0.cell; have nn0 := b0.lt
          go_wp2_with fail
          clear xx0 nn0
          refine (ropen_any t (a + k) A1 A2 c1 c2 _ h1 h2 hok (by omega) (by omega)).mono ?_
          rintro r w2 ⟨rfl, hb2⟩
          rw [ho]
          replace b0 := b0.below hb2; replace h1 := h1.below hb2; replace h2 := h2.below hb2; replace hy := hy.trans (hb2.mono hy.size)
          clear hb2
          have xx0 := b0.cell; have nn0 := b0.lt
          go_wp2
          clear xx0 nn0
          go_roundw
          case rel => exact ⟨k + 1, by omega, by rw [Int.natCast_succ, ← Int.add_assoc], by rw [HD.out], b0, h1, h2, hy⟩
          case measure => simp only [intOf]; omega
      · obtain rfl : k = (e - a).toNat := by omega
        have xx0 := b0.cell; have nn0 := b0.lt
        go_wp2
        clear xx0 nn0
        go_ret2
        exact ⟨ret2 (by rw [HC.out, if_pos HEV.out] <;> rfl) (by rw [HEV.out] <;> rfl), hy⟩
  · have h0' : (tE t != 0) = true := by simp [h0]
    have hEv : E = tE t := by rw [HE.out, nE, if_pos h0]
    have hCv : C = 0 := by rw [HC.out, if_neg (by rw [hEv]; exact h0)]
    have HEV := Lib.hid hEv
    have HCV := Lib.hid hCv
    clear h0 hEv hCv
    have xx0 := b0.cell; have nn0 := b0.lt
    go_wp2
    clear xx0 nn0
    go_ret2
    exact ⟨ret2 (by rw [HCV.out] <;> rfl) (by rw [HEV.out] <;> rfl), hy⟩
end Go.Proofs.Ytecjmpaomebdbaa
