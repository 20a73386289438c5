/-
  The walk of the law TermEven.
-/
import Derived.Test.YtecjmpaomebdbaaEvenP
namespace Go.Proofs.Ytecjmpaomebdbaa
set_option linter.unusedVariables false
set_option linter.unusedSimpArgs false
open Go.RowKit

set_option maxRecDepth 100000 in
set_option maxHeartbeats 1000000 in
theorem termEven_any (t : Tm) (A1 A2 : Option Addr) (c1 c2 : Nat) (c : Cy) (w : World) (h1 : RN w A1 t.rest) (h2 : RN w A2 t.clo) :
    Calls Try.prog 12 #[.agg #[.int .i64 t.len, .slice A1 t.rest.length c1, .slice A2 t.clo.length c2], .agg #[.int .i64 c.n, .int .i64 c.f, .int .i64 c.k]] w fun e w' => e = .returned (.bool true) ∧ Below w.heap.size w w' := by
  have hy : Below w.heap.size w ((w.alloc (.cells #[.int .i64 t.len, .slice A1 t.rest.length c1, .slice A2 t.clo.length c2] 24)).alloc (.cells #[.int .i64 c.n, .int .i64 c.f, .int .i64 c.k] 26)) := ((Below.refl _ _).alloc (Nat.le_refl _) _).alloc (by simp) _
  have b0 : Box ((w.alloc (.cells #[.int .i64 t.len, .slice A1 t.rest.length c1, .slice A2 t.clo.length c2] 24)).alloc (.cells #[.int .i64 c.n, .int .i64 c.f, .int .i64 c.k] 26)) w.heap.size #[.int .i64 t.len, .slice A1 t.rest.length c1, .slice A2 t.clo.length c2] := (Box.new w _ _).alloc _
  have b1 : Box ((w.alloc (.cells #[.int .i64 t.len, .slice A1 t.rest.length c1, .slice A2 t.clo.length c2] 24)).alloc (.cells #[.int .i64 c.n, .int .i64 c.f, .int .i64 c.k] 26)) (w.heap.size + 1) #[.int .i64 c.n, .int .i64 c.f, .int .i64 c.k] := (Box.new (w.alloc (.cells #[.int .i64 t.len, .slice A1 t.rest.length c1, .slice A2 t.clo.length c2] 24)) _ _).at' (by simp)
  replace h1 := h1.below hy
  replace h2 := h2.below hy
  go_enter Try.func12, Try.ntmps12
  go_wp2_with fail
  refine (long_any t A1 A2 c1 c2 _).mono ?_
  rintro e w1 ⟨rfl, hb1⟩
  replace b0 := b0.below hb1; replace b1 := b1.below hb1; replace h1 := h1.below hb1; replace h2 := h2.below hb1; replace hy := hy.trans (hb1.mono hy.size)
  clear hb1
  cases hlg : longB t with
  | true =>
    have xx0 := b0.cell; have nn0 := b0.lt; have xx1 := b1.cell; have nn1 := b1.lt
    go_wp2_with fail
    clear xx0 nn0 xx1 nn1
    refine (known_any _).mono ?_
    rintro e w2 ⟨rfl, hb2⟩
    go_wp2
    go_ret
    exact ⟨rfl, hy.trans (hb2.mono hy.size)⟩
  | false =>
    obtain ⟨l1, l2⟩ := longB_no hlg
    have xx0 := b0.cell; have nn0 := b0.lt; have xx1 := b1.cell; have nn1 := b1.lt
    go_wp2_with fail
    clear xx0 nn0 xx1 nn1
    refine (served_any c t A1 A2 c1 c2 _ h1 h2 (by omega) (by omega)).mono ?_
    rintro e w2 ⟨Al, cl, rfl, ownl, hb2⟩
    replace b0 := b0.below hb2; replace b1 := b1.below hb2; replace h1 := h1.below hb2; replace h2 := h2.below hb2; replace hy := hy.trans (hb2.mono hy.size)
    clear hb2
    have rl := RN.of_own ownl
    clear ownl
    by_cases hE : bE t c = 0
    · obtain ⟨e0, e1, e2, e3, e4, e5, Q, e6⟩ := served_even hE
      have hE1 : (bE t c != 0) = false := by simp [hE]
      clear hE
      obtain ⟨l, hl⟩ : ∃ l, servedR t c = l := ⟨_, rfl⟩
      rw [hl] at e0 e1 e2 e4 e5 e6 rl ⊢
      clear hl
      have hlen : ((l.length : Int) == 0) = false := by rw [beq_eq_false_iff_ne]; omega
      have xx0 := b0.cell; have nn0 := b0.lt; have xx1 := b1.cell; have nn1 := b1.lt
      go_wp2_with fail
      clear xx0 nn0 xx1 nn1
      refine (count_any t 0 t.len A1 A2 c1 c2 _ h1 h2 (by omega) (by omega)).mono ?_
      rintro e w3 ⟨rfl, hb3⟩
      replace b0 := b0.below hb3; replace b1 := b1.below hb3; replace h1 := h1.below hb3; replace h2 := h2.below hb3; replace rl := rl.below hb3; replace hy := hy.trans (hb3.mono hy.size)
      clear hb3
      rw [e3, e4]
      obtain ⟨ad, rfl, hab, c0⟩ := rl.at_ e0
      have c1' := c0
      simp [Addr.add] at c1'
      have xx0 := b0.cell; have nn0 := b0.lt; have xx1 := b1.cell; have nn1 := b1.lt
      go_wp2_with fail
      clear xx0 nn0 xx1 nn1
      go_quiet (fail)
      go_wp2
      go_loopw [12, 9, 10, 11] (fun i lo hi s wr => ∃ (k : Nat) (x y : Int), k ≤ l.length ∧ i = .int .i64 k ∧ lo = .int .i64 x ∧ hi = .int .i64 y ∧ s = .int .i64 (sumT l k) ∧ (c.k = 0 → Q ≤ x ∧ y ≤ Q + 1) ∧ (0 ≤ x ∧ x ≤ 1000) ∧ Box wr (w.heap.size + 1) #[.int .i64 c.n, .int .i64 c.f, .int .i64 c.k] ∧ RN wr (some ad) l ∧ Below w.heap.size w wr) (fun i _ _ _ _ => l.length - (intOf i).toNat)
      case atStart =>
        have g0 := e2 0 e0
        exact ⟨0, gi l 0, gi l 0, by omega, rfl, rfl, rfl, rfl, e6 0 e0, g0, b1.drewN nq, rl.drewN nq, below_drewN hy nq⟩
      case round =>
        clear b0 b1 h1 h2 rl hy c0 c1' hab
        obtain ⟨k, x, y, hk, rfl, rfl, rfl, rfl, hQ, hx, b1, rl, hy⟩ := hrel
        by_cases hlt : k < l.length
        · obtain ⟨ad', e', hab, c0⟩ := rl.at_ hlt
          cases e'
          have hg := e2 k hlt
          have hq := e6 k hlt
          have hs0 := sumT_mono (fun i hi => (e2 i hi).1) 0 k (by omega) (by omega)
          have hs1 := sumT_mono (fun i hi => (e2 i hi).1) (k + 1) l.length (by omega) (Nat.le_refl _)
          simp only [sumT] at hs0 hs1
          have hw : IntKind.i64.wrap (sumT l k + gi l k) = sumT l k + gi l k := wrap_small _ (by omega) (by omega)
          go_wp2_with fail
          go_quiet (fail)
          go_wp2
          go_roundw
          case rel =>
            refine ⟨k + 1, min x (gi l k), max y (gi l k), by omega, by go_num, ?_, ?_, by simp only [sumT], fun h => ?_, by omega, b1.drewN _, rl.drewN _, below_drewN hy _⟩
            · congr 1; split <;> omega
            · congr 1; split <;> omega
            · have := hQ h; have := hq h; omega
          case measure => simp [intOf]; omega
        · obtain rfl : k = l.length := by omega
          have xx0 := b1.cell; have nn0 := b1.lt
          have hw : IntKind.i64.wrap (x + 1) = x + 1 := wrap_small _ (by omega) (by omega)
          by_cases hk0 : c.k = 0
          · have hk1 : (c.k != 0) = false := by simp [hk0]
            obtain ⟨q1, q2⟩ := hQ hk0
            have hle : y ≤ x + 1 := by omega
            clear hk0 hQ q1 q2
            go_wp2_with fail
            refine (known_any _).mono ?_
            rintro e w9 ⟨rfl, hb9⟩
            go_wp2
            go_ret
            exact ⟨rfl, hy.trans (hb9.mono hy.size)⟩
          · have hk1 : (c.k != 0) = true := by simp [hk0]
            clear hk0 hQ
            go_wp2_with fail
            refine (known_any _).mono ?_
            rintro e w9 ⟨rfl, hb9⟩
            go_wp2
            go_ret
            exact ⟨rfl, hy.trans (hb9.mono hy.size)⟩
      
    · have hE1 : (bE t c != 0) = true := by simp [hE]
      have hl : servedR t c = [] := by rw [servedR, if_neg hE]
      rw [hl] at rl ⊢
      clear hE hl
      have xx0 := b0.cell; have nn0 := b0.lt; have xx1 := b1.cell; have nn1 := b1.lt
      go_wp2_with fail
      clear xx0 nn0 xx1 nn1
      refine (known_any _).mono ?_
      rintro e w3 ⟨rfl, hb3⟩
      go_wp2
      go_ret
      exact ⟨rfl, hy.trans (hb3.mono hy.size)⟩
end Go.Proofs.Ytecjmpaomebdbaa
