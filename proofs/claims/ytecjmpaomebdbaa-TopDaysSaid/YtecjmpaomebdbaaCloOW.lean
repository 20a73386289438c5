/-
  The walk of the law TermClosesOne.
-/
import Derived.Test.YtecjmpaomebdbaaAt
namespace Go.Proofs.Ytecjmpaomebdbaa
set_option linter.unusedVariables false
set_option linter.unusedSimpArgs false
open Go.RowKit

theorem clT_has {t : Tm} {d : Int} (h : clE t d = 0) (x : Int) : hasB (clT t d).clo x = (x == d || hasB t.clo x) := by
  obtain ⟨ht, h0, h1, hh, h60⟩ := clE_ok h
  rw [clT_yes h, Bool.eq_iff_iff, hasB_mem, Bool.or_eq_true, beq_iff_eq, hasB_mem]
  show x ∈ addD t.clo d t.len ↔ _
  rw [addD_mem _ _ _ (by omega)]
  constructor
  · rintro ⟨_, _, h⟩; exact h
  · rintro (rfl | h)
    · exact ⟨h0, h1, .inl rfl⟩
    · have := (set_asc ht.clo).2 x h
      exact ⟨this.1, this.2, .inr h⟩
theorem clT_wk {t : Tm} {d : Int} (h : clE t d = 0) (x : Int) : wkB (clT t d) x = wkB t x := by rw [clT_yes h]; rfl
theorem clT_op {t : Tm} {d : Int} (h : clE t d = 0) {x : Int} (hx : ¬ x = d) : opB (clT t d) x = opB t x := by
  unfold opB
  rw [clT_wk h, clT_has h, show (x == d) = false by simp [hx], Bool.false_or]
theorem clT_len {t : Tm} {d : Int} (h : clE t d = 0) : (clT t d).rest.length ≤ 1000 ∧ (clT t d).clo.length ≤ 1000 := by
  have hk := clT_ok h
  have h1 := isSet_len hk.rest (by omega)
  have h2 := hk.clo60
  omega
theorem stB_runs {t : Tm} {c : Cy} (hk : c.k = 1) (d : Nat) : stB t c d = wkB t d := by
  unfold stB opB
  rw [hk]
  cases wkB t d <;> cases hasB t.clo d <;> rfl
theorem closes_one {t : Tm} {c : Cy} {d y : Int} (h : clE t d = 0) (hk : c.k = 1) (hy : ¬ y = d) : menuE (clT t d) c y = menuE t c y ∧ menuR (clT t d) c y = menuR t c y := by
  obtain ⟨ht, h0, h1, hh, h60⟩ := clE_ok h
  have hT := clT_ok h
  have hl : (clT t d).len = t.len := by rw [clT_yes h]
  have e1 : menuE (clT t d) c y = menuE t c y := by
    unfold menuE bE
    rw [ht.to, hT.to, hl, clT_op h hy]
  refine ⟨e1, ?_⟩
  unfold menuR
  rw [e1]
  by_cases hm : menuE t c y = 0
  · rw [if_pos hm, if_pos hm]
    have hyr : 0 ≤ y := by
      unfold menuE at hm
      by_cases hb : bE t c = 0
      · rw [if_neg (by simp [hb])] at hm
        cases hi : inB y 0 (t.len - 1) with
        | true => exact (inB_true.1 hi).1
        | false => rw [hi] at hm; cases hm
      · rw [if_pos hb] at hm; exact absurd hm hb
    have hyn : ((y.toNat : Nat) : Int) = y := by omega
    unfold mnAt
    rw [hyn, clT_op h hy, cnt_congr _ (stB t c) y.toNat (fun i _ => by rw [stB_runs hk, stB_runs hk, clT_wk h])]
  · rw [if_neg hm, if_neg hm]

set_option maxRecDepth 100000 in
set_option maxHeartbeats 3200000 in
theorem termClosesOne_any (t : Tm) (A1 A2 : Option Addr) (c1 c2 : Nat) (c : Cy) (x y : Int) (w : World) (h1 : RN w A1 t.rest) (h2 : RN w A2 t.clo) :
    Calls Try.prog 15 #[.agg #[.int .i64 t.len, .slice A1 t.rest.length c1, .slice A2 t.clo.length c2], .agg #[.int .i64 c.n, .int .i64 c.f, .int .i64 c.k], .agg #[.int .i64 x, .int .i64 y]] w fun e w' => e = .returned (.bool true) ∧ Below w.heap.size w w' := by
  have hy : Below w.heap.size w (((w.alloc (.cells #[.int .i64 t.len, .slice A1 t.rest.length c1, .slice A2 t.clo.length c2] 24)).alloc (.cells #[.int .i64 c.n, .int .i64 c.f, .int .i64 c.k] 26)).alloc (.cells #[.int .i64 x, .int .i64 y] 54)) := (((Below.refl _ _).alloc (Nat.le_refl _) _).alloc (by simp) _).alloc (by simp; omega) _
  have b0 : Box (((w.alloc (.cells #[.int .i64 t.len, .slice A1 t.rest.length c1, .slice A2 t.clo.length c2] 24)).alloc (.cells #[.int .i64 c.n, .int .i64 c.f, .int .i64 c.k] 26)).alloc (.cells #[.int .i64 x, .int .i64 y] 54)) w.heap.size #[.int .i64 t.len, .slice A1 t.rest.length c1, .slice A2 t.clo.length c2] := ((Box.new w _ _).alloc _).alloc _
  have b1 : Box (((w.alloc (.cells #[.int .i64 t.len, .slice A1 t.rest.length c1, .slice A2 t.clo.length c2] 24)).alloc (.cells #[.int .i64 c.n, .int .i64 c.f, .int .i64 c.k] 26)).alloc (.cells #[.int .i64 x, .int .i64 y] 54)) (w.heap.size + 1) #[.int .i64 c.n, .int .i64 c.f, .int .i64 c.k] := ((Box.new (w.alloc (.cells #[.int .i64 t.len, .slice A1 t.rest.length c1, .slice A2 t.clo.length c2] 24)) _ _).at' (by simp)).alloc _
  have b2 : Box (((w.alloc (.cells #[.int .i64 t.len, .slice A1 t.rest.length c1, .slice A2 t.clo.length c2] 24)).alloc (.cells #[.int .i64 c.n, .int .i64 c.f, .int .i64 c.k] 26)).alloc (.cells #[.int .i64 x, .int .i64 y] 54)) (w.heap.size + 2) #[.int .i64 x, .int .i64 y] := (Box.new ((w.alloc (.cells #[.int .i64 t.len, .slice A1 t.rest.length c1, .slice A2 t.clo.length c2] 24)).alloc (.cells #[.int .i64 c.n, .int .i64 c.f, .int .i64 c.k] 26)) _ _).at' (by simp)
  replace h1 := h1.below hy
  replace h2 := h2.below hy
  go_enter Try.func15, Try.ntmps15
  go_wp2_with fail
  go_quiet (fail)
  go_wp2_with fail
  replace b0 := b0.drewN nq; replace b1 := b1.drewN nq; replace h1 := h1.drewN nq; replace h2 := h2.drewN nq; replace hy := below_drewN hy nq
  clear b2
  refine (long_any t A1 A2 c1 c2 _).mono ?_
  rintro e w1 ⟨rfl, hb1⟩
  replace b0 := b0.below hb1; replace b1 := b1.below hb1; replace h1 := h1.below hb1; replace h2 := h2.below hb1; replace hy := hy.trans (hb1.mono hy.size)
  clear hb1
  cases hlg : longB t with
  | true =>
    have xx0 := b0.cell; have nn0 := b0.lt; have xx1 := b1.cell; have nn1 := b1.lt
    go_wp2_with fail
    clear xx0 nn0 xx1 nn1
    refine (known_any _).mono ?_
    rintro e w2 ⟨rfl, hb2⟩
    go_wp2
    go_ret
    exact ⟨rfl, hy.trans (hb2.mono hy.size)⟩
  | false =>
    obtain ⟨l1, l2⟩ := longB_no hlg
    have xx0 := b0.cell; have nn0 := b0.lt; have xx1 := b1.cell; have nn1 := b1.lt
    go_wp2_with fail
    clear xx0 nn0 xx1 nn1
    refine (close_any t x A1 A2 c1 c2 _ h1 h2 (by omega) (by omega)).mono ?_
    rintro e w2 ⟨A, k, A', k', m, rfl, own1, own2, hm, hlt, hb2⟩
    have g1 := RN.of_own own1
    have g2 := RN.of_own own2
    clear own1 own2 hm hlt
    replace b0 := b0.below hb2; replace b1 := b1.below hb2; replace h1 := h1.below hb2; replace h2 := h2.below hb2; replace hy := hy.trans (hb2.mono hy.size)
    clear hb2
    have hyA := hy.alloc hy.size (.cells #[.int .i64 (clT t x).len, .slice A (clT t x).rest.length k, .slice A' (clT t x).clo.length k'] 24)
    by_cases hE : clE t x = 0
    · have hE1 : (clE t x != 0) = false := by simp [hE]
      by_cases hk : c.k = 1
      · have hk1 : (c.k != 1) = false := by simp [hk]
        by_cases hxy : y = x
        · have hxy1 : (y == x) = true := by simp [hxy]
          clear hE hk hxy
          have xx0 := b0.cell; have nn0 := b0.lt; have xx1 := b1.cell; have nn1 := b1.lt
          go_wp2_with fail
          clear xx0 nn0 xx1 nn1
          refine (known_any _).mono ?_
          rintro e w3 ⟨rfl, hb3⟩
          go_wp2
          go_ret
          exact ⟨rfl, hyA.trans (hb3.mono hyA.size)⟩
        · have hxy1 : (y == x) = false := by simp [hxy]
          obtain ⟨e1, e2⟩ := closes_one hE hk hxy
          have hlT := clT_len hE
          obtain ⟨T, hT⟩ : ∃ T, T = clT t x := ⟨_, rfl⟩
          rw [← hT] at g1 g2 e1 e2 hlT ⊢
          have HT := Lib.hid hT
          clear hT
          clear hE hk hxy
          have xx0 := b0.cell; have nn0 := b0.lt; have xx1 := b1.cell; have nn1 := b1.lt
          go_wp2_with fail
          clear xx0 nn0 xx1 nn1
          have b3 : Box (w2.alloc (.cells #[.int .i64 T.len, .slice A T.rest.length k, .slice A' T.clo.length k'] 24)) w2.heap.size #[.int .i64 T.len, .slice A T.rest.length k, .slice A' T.clo.length k'] := Box.new _ _ _
          replace b0 := b0.alloc (.cells #[.int .i64 T.len, .slice A T.rest.length k, .slice A' T.clo.length k'] 24); replace b1 := b1.alloc (.cells #[.int .i64 T.len, .slice A T.rest.length k, .slice A' T.clo.length k'] 24); replace h1 := h1.alloc (.cells #[.int .i64 T.len, .slice A T.rest.length k, .slice A' T.clo.length k'] 24); replace h2 := h2.alloc (.cells #[.int .i64 T.len, .slice A T.rest.length k, .slice A' T.clo.length k'] 24); replace g1 := g1.alloc (.cells #[.int .i64 T.len, .slice A T.rest.length k, .slice A' T.clo.length k'] 24); replace g2 := g2.alloc (.cells #[.int .i64 T.len, .slice A T.rest.length k, .slice A' T.clo.length k'] 24); replace hy := hy.alloc hy.size (.cells #[.int .i64 T.len, .slice A T.rest.length k, .slice A' T.clo.length k'] 24)
          refine (menu_any c y t A1 A2 c1 c2 _ h1 h2 (by omega) (by omega)).mono ?_
          rintro e w3 ⟨rfl, hb3⟩
          replace b0 := b0.below hb3; replace b1 := b1.below hb3; replace b3 := b3.below hb3; replace h1 := h1.below hb3; replace h2 := h2.below hb3; replace g1 := g1.below hb3; replace g2 := g2.below hb3; replace hy := hy.trans (hb3.mono hy.size)
          clear hb3
          have xx0 := b0.cell; have nn0 := b0.lt; have xx1 := b1.cell; have nn1 := b1.lt; have xx2 := b3.cell; have nn2 := b3.lt
          go_wp2_with fail
          clear xx0 nn0 xx1 nn1 xx2 nn2
          refine (menu_any c y T A A' k k' _ g1 g2 (by omega) (by omega)).mono ?_
          rintro e w4 ⟨rfl, hb4⟩
          replace b0 := b0.below hb4; replace b1 := b1.below hb4; replace b3 := b3.below hb4; replace h1 := h1.below hb4; replace h2 := h2.below hb4; replace g1 := g1.below hb4; replace g2 := g2.below hb4; replace hy := hy.trans (hb4.mono hy.size)
          clear hb4
          rw [e1, e2]
          have xx0 := b0.cell; have nn0 := b0.lt; have xx1 := b1.cell; have nn1 := b1.lt; have xx2 := b3.cell; have nn2 := b3.lt
          go_wp2_with fail
          clear xx0 nn0 xx1 nn1 xx2 nn2
          refine (known_any _).mono ?_
          rintro e w5 ⟨rfl, hb5⟩
          go_wp2
          go_ret
          exact ⟨rfl, hy.trans (hb5.mono hy.size)⟩
      · have hk1 : (c.k != 1) = true := by simp [hk]
        clear hE hk
        have xx0 := b0.cell; have nn0 := b0.lt; have xx1 := b1.cell; have nn1 := b1.lt
        go_wp2_with fail
        clear xx0 nn0 xx1 nn1
        refine (known_any _).mono ?_
        rintro e w3 ⟨rfl, hb3⟩
        go_wp2
        go_ret
        exact ⟨rfl, hyA.trans (hb3.mono hyA.size)⟩
    · have hE1 : (clE t x != 0) = true := by simp [hE]
      clear hE
      have xx0 := b0.cell; have nn0 := b0.lt; have xx1 := b1.cell; have nn1 := b1.lt
      go_wp2_with fail
      clear xx0 nn0 xx1 nn1
      refine (known_any _).mono ?_
      rintro e w3 ⟨rfl, hb3⟩
      go_wp2
      go_ret
      exact ⟨rfl, hyA.trans (hb3.mono hyA.size)⟩
end Go.Proofs.Ytecjmpaomebdbaa
