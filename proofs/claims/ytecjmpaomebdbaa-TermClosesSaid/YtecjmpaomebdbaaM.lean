/-
  Two cycles that run on meet on the days that remainders tell; the walk of the law TermMeets.
-/
import Derived.Test.YtecjmpaomebdbaaL
namespace Go.Proofs.Ytecjmpaomebdbaa
set_option linter.unusedVariables false
set_option linter.unusedSimpArgs false
open Go.RowKit

def allT : Tm := ⟨1000, [], []⟩
def runs (c : Cy) : Cy := ⟨c.n, c.f, 1⟩
def meetL (a b : Cy) (x y : Int) : List Ln := [⟨x - a.f, a.n⟩, ⟨y - b.f, b.n⟩]
theorem allT_op (d : Nat) : opB allT d = true := rfl
theorem allT_st (c : Cy) (d : Nat) : stB allT (runs c) d = true := rfl
theorem allT_cnt (c : Cy) (d : Nat) : cnt (stB allT (runs c)) d = d := by
  induction d with
  | zero => rfl
  | succ d ih => rw [cnt_yes _ _ (allT_st c d), ih]
theorem allT_mn (c : Cy) (d : Nat) : mnAt allT (runs c) d = (c.f + d) % c.n := by
  rw [mnAt_open (allT_op d), allT_cnt]; rfl
theorem rem_iff {n f x : Int} (d : Nat) (h0 : 0 ≤ x) (h1 : x < n) : (f + (d : Int)) % n = x ↔ (d : Int) % n = (x - f) % n := by
  constructor
  · intro h
    rw [← h, Int.emod_sub_emod]
    congr 1; omega
  · intro h
    rw [← Int.add_emod_emod, h, Int.add_emod_emod, show f + (x - f) = x by omega, Int.emod_eq_of_lt h0 h1]
theorem togE_ok {t : Tm} {a b : Cy} {x y : Int} (h : togE t a b x y = 0) : TmOk t ∧ CyOk a ∧ CyOk b ∧ 0 ≤ x ∧ x < a.n ∧ 0 ≤ y ∧ y < b.n := by
  unfold togE at h
  by_cases h1 : bE t a = 0
  · rw [if_neg (by simp [h1])] at h
    by_cases h2 : cE b = 0
    · rw [if_neg (by simp [h2])] at h
      cases i1 : inB x 0 (a.n - 1) with
      | false => rw [i1] at h; cases h
      | true =>
        cases i2 : inB y 0 (b.n - 1) with
        | false => rw [i1, i2] at h; cases h
        | true =>
          obtain ⟨k1, k2⟩ := bE_ok h1
          have j1 := inB_true.1 i1
          have j2 := inB_true.1 i2
          exact ⟨k1, k2, CyOk.of h2, by omega, by omega, by omega, by omega⟩
    · rw [if_pos h2] at h; exact absurd h h2
  · rw [if_pos h1] at h; exact absurd h h1
section
variable {a b : Cy} {x y : Int}
theorem meet_has (hE : togE allT (runs a) (runs b) x y = 0) (d : Nat) : meetB allT (runs a) (runs b) x y d = true ↔ Has (meetL a b x y) 2 d := by
  obtain ⟨-, ca, cb, x0, x1, y0, y1⟩ := togE_ok hE
  have na : 1 ≤ a.n := ca.n1
  have nb : 1 ≤ b.n := cb.n1
  have ea : (d % mN (meetL a b x y) 0 = rN (meetL a b x y) 0) ↔ (d : Int) % a.n = (x - a.f) % a.n := by
    show d % a.n.toNat = ((x - a.f) % a.n).toNat ↔ _
    have h1 := Int.emod_nonneg (x - a.f) (show a.n ≠ 0 by omega)
    have h2 := Int.emod_nonneg (d : Int) (show a.n ≠ 0 by omega)
    have h3 : (((d % a.n.toNat : Nat)) : Int) = (d : Int) % a.n := by rw [Int.natCast_emod, Int.toNat_of_nonneg (by omega)]
    omega
  have eb : (d % mN (meetL a b x y) 1 = rN (meetL a b x y) 1) ↔ (d : Int) % b.n = (y - b.f) % b.n := by
    show d % b.n.toNat = ((y - b.f) % b.n).toNat ↔ _
    have h1 := Int.emod_nonneg (y - b.f) (show b.n ≠ 0 by omega)
    have h2 := Int.emod_nonneg (d : Int) (show b.n ≠ 0 by omega)
    have h3 : (((d % b.n.toNat : Nat)) : Int) = (d : Int) % b.n := by rw [Int.natCast_emod, Int.toNat_of_nonneg (by omega)]
    omega
  unfold meetB
  rw [allT_mn, allT_mn, Bool.and_eq_true, beq_iff_eq, beq_iff_eq, rem_iff d x0 (show x < a.n from x1), rem_iff d y0 (show y < b.n from y1), ← ea, ← eb]
  constructor
  · rintro ⟨h1, h2⟩ i hi
    match i, hi with
    | 0, _ => exact h1
    | 1, _ => exact h2
  · intro h; exact ⟨h 0 (by omega), h 1 (by omega)⟩
theorem meet_slvE (hE : togE allT (runs a) (runs b) x y = 0) : slvE (meetL a b x y) = 0 := by
  obtain ⟨-, ca, cb, x0, x1, y0, y1⟩ := togE_ok hE
  have na : 1 ≤ a.n := ca.n1
  have nb : 1 ≤ b.n := cb.n1
  have na2 : a.n ≤ 40 := ca.n2
  have nb2 : b.n ≤ 40 := cb.n2
  refine slvE_of (by show ¬ 6 < 2; omega) ?_ ?_
  · refine (lnTo_iff _ _).2 fun i hi => ?_
    match i, hi with
    | 0, _ => exact inB_true.2 (show 1 ≤ a.n ∧ a.n ≤ 100000 by omega)
    | 1, _ => exact inB_true.2 (show 1 ≤ b.n ∧ b.n ≤ 100000 by omega)
    | i + 2, hi => exact absurd hi (by show ¬ i + 2 < 2; omega)
  · show ¬ 1099511627776 < ((1 : Nat).lcm a.n.toNat).lcm b.n.toNat
    rw [Nat.lcm_one_left]
    have : a.n.toNat.lcm b.n.toNat ≤ a.n.toNat * b.n.toNat := Nat.div_le_self _ _
    have : a.n.toNat * b.n.toNat ≤ 40 * 40 := Nat.mul_le_mul (by omega) (by omega)
    omega
theorem meet_law (hE : togE allT (runs a) (runs b) x y = 0) {s m : Int} {ok : Bool} (h : SRel (meetL a b x y) s m ok) :
    0 ≤ s ∧ togB allT (runs a) (runs b) x y = (ok && decide (s < 1000)) ∧ (togB allT (runs a) (runs b) x y = true → togR allT (runs a) (runs b) x y = s) := by
  have h2 : (meetL a b x y).length = 2 := rfl
  rcases firstTo_spec (meetB allT (runs a) (runs b) x y) 1000 with ⟨hn, hm⟩ | ⟨d, hs, hd, hp, hm⟩
  · obtain ⟨r1, r2⟩ := tog_none (t := allT) hn
    rw [r1, r2]
    rcases h with ⟨_, e2, ⟨z, hz, e3⟩, _⟩ | ⟨_, e2, e3, _⟩
    · refine ⟨by omega, ?_, by simp⟩
      have : ¬ s < 1000 := fun hlt => by
        have := hm z (by omega)
        rw [(meet_has hE z).2 (by rw [← h2]; exact hz.2)] at this; cases this
      rw [decide_eq_false this, Bool.and_false]
    · rw [e2]; exact ⟨by omega, rfl, by simp⟩
  · obtain ⟨r1, r2⟩ := tog_some (t := allT) hE hs
    rw [r1, r2]
    have hhas := (meet_has hE d).1 hp
    rcases h with ⟨e0, e2, ⟨z, hz, e3⟩, _⟩ | ⟨e1, _⟩
    · have hg := (slvE_ok e0).2.1
      have hzd : z = d % lcTo (meetL a b x y) 2 := hz.uniq (Sol.of_has hg (Nat.le_refl _) hhas)
      have hle : z ≤ d := by rw [hzd]; exact Nat.mod_le _ _
      have hge : ¬ z < d := fun hlt => by
        have := hm z hlt
        rw [(meet_has hE z).2 hz.2] at this; cases this
      have : z = d := by omega
      subst this
      rw [e2, e3]
      exact ⟨by omega, by rw [decide_eq_true (by omega)]; rfl, fun _ => rfl⟩
    · exact absurd hhas (e1 (meet_slvE hE) d)
end

set_option maxRecDepth 100000 in
set_option maxHeartbeats 3200000 in
theorem termMeets_any (a b : Cy) (x y : Int) (w : World) :
    Calls Try.prog 10 #[.agg #[.int .i64 a.n, .int .i64 a.f, .int .i64 a.k], .agg #[.int .i64 b.n, .int .i64 b.f, .int .i64 b.k], .agg #[.int .i64 x, .int .i64 y]] w fun e w' => e = .returned (.bool true) ∧ Below w.heap.size w w' := by
  have hy : Below w.heap.size w ((((w.alloc (.cells #[.int .i64 a.n, .int .i64 a.f, .int .i64 1] 26)).alloc (.cells #[.int .i64 b.n, .int .i64 b.f, .int .i64 1] 26)).alloc (.cells #[.int .i64 x, .int .i64 y] 54)).alloc (.cells #[.int .i64 1000, .slice none 0 0, .slice none 0 0] 24)) := ((((Below.refl _ _).alloc (Nat.le_refl _) _).alloc (by simp) _).alloc (by simp; omega) _).alloc (by simp; omega) _
  have b0 : Box ((((w.alloc (.cells #[.int .i64 a.n, .int .i64 a.f, .int .i64 1] 26)).alloc (.cells #[.int .i64 b.n, .int .i64 b.f, .int .i64 1] 26)).alloc (.cells #[.int .i64 x, .int .i64 y] 54)).alloc (.cells #[.int .i64 1000, .slice none 0 0, .slice none 0 0] 24)) w.heap.size #[.int .i64 a.n, .int .i64 a.f, .int .i64 1] := (((Box.new w _ _).alloc _).alloc _).alloc _
  have b1 : Box ((((w.alloc (.cells #[.int .i64 a.n, .int .i64 a.f, .int .i64 1] 26)).alloc (.cells #[.int .i64 b.n, .int .i64 b.f, .int .i64 1] 26)).alloc (.cells #[.int .i64 x, .int .i64 y] 54)).alloc (.cells #[.int .i64 1000, .slice none 0 0, .slice none 0 0] 24)) (w.heap.size + 1) #[.int .i64 b.n, .int .i64 b.f, .int .i64 1] := (((Box.new (w.alloc (.cells #[.int .i64 a.n, .int .i64 a.f, .int .i64 1] 26)) _ _).at' (by simp)).alloc _).alloc _
  have b2 : Box ((((w.alloc (.cells #[.int .i64 a.n, .int .i64 a.f, .int .i64 1] 26)).alloc (.cells #[.int .i64 b.n, .int .i64 b.f, .int .i64 1] 26)).alloc (.cells #[.int .i64 x, .int .i64 y] 54)).alloc (.cells #[.int .i64 1000, .slice none 0 0, .slice none 0 0] 24)) (w.heap.size + 2) #[.int .i64 x, .int .i64 y] := ((Box.new ((w.alloc (.cells #[.int .i64 a.n, .int .i64 a.f, .int .i64 1] 26)).alloc (.cells #[.int .i64 b.n, .int .i64 b.f, .int .i64 1] 26)) _ _).at' (by simp)).alloc _
  go_enter Try.func10, Try.ntmps10
  go_wp2_with fail
  refine (together_any (runs a) (runs b) x y allT none none 0 0 _ ⟨rfl, fun h => by cases h⟩ ⟨rfl, fun h => by cases h⟩ (by decide) (by decide)).mono ?_
  rintro e w1 ⟨rfl, hb1⟩
  replace b0 := b0.below hb1; replace b1 := b1.below hb1; replace b2 := b2.below hb1; replace hy := hy.trans (hb1.mono hy.size)
  clear hb1
  by_cases hE : togE allT (runs a) (runs b) x y = 0
  · have hE1 : (togE allT (runs a) (runs b) x y != 0) = false := by simp [hE]
    obtain ⟨-, ca, cb, x0, x1, y0, y1⟩ := togE_ok hE
    have na : 1 ≤ a.n := ca.n1
    have na2 : a.n ≤ 40 := ca.n2
    have nb : 1 ≤ b.n := cb.n1
    have nb2 : b.n ≤ 40 := cb.n2
    have fa : 0 ≤ a.f := ca.f0
    have fa2 : a.f < a.n := ca.f1
    have fb : 0 ≤ b.f := cb.f0
    have fb2 : b.f < b.n := cb.f1
    have xx1 : x < a.n := x1
    have yy1 : y < b.n := y1
    have HE := Lib.hid hE
    clear hE x1 y1 ca cb
    have xx0 := b0.cell; have nn0 := b0.lt; have xx1 := b1.cell; have nn1 := b1.lt; have xx2 := b2.cell; have nn2 := b2.lt
    go_wp2_with fail
    clear xx0 nn0 xx1 nn1 xx2 nn2
    refine (solve_any (meetL a b x y) (by show 2 ≤ 1000000; omega) _ 2 _ (RL.lit (n := w1.heap.size + 1) (meetL a b x y) _ rfl (Below.refl _ _) (by omega))).mono ?_
    rintro e w2 ⟨s, m, ok, rfl, hs, hb2⟩
    rw [meet_slvE HE.out]
    have hy2 := hy.trans ((((Below.refl w.heap.size w1).alloc hy.size _)).trans (hb2.mono (by have := hy.size; simp; omega)))
    obtain ⟨s0, e1, e2⟩ := meet_law HE.out hs
    obtain ⟨T, hT⟩ : ∃ T, T = togB allT (runs a) (runs b) x y := ⟨_, rfl⟩
    obtain ⟨R, hR⟩ : ∃ R, R = togR allT (runs a) (runs b) x y := ⟨_, rfl⟩
    rw [← hT] at e1 e2 ⊢
    rw [← hR] at e2 ⊢
    clear hT hR hs hb2 hy
    cases ok with
    | false =>
      have hf : T = false := e1
      subst hf
      clear e1 e2
      go_wp2_with fail
      refine (known_any _).mono ?_
      rintro e w6 ⟨rfl, hb6⟩
      go_wp2
      go_ret
      exact ⟨rfl, hy2.trans (hb6.mono hy2.size)⟩
    | true =>
      by_cases hlt : s < 1000
      · have hf : T = true := by rw [e1, decide_eq_true hlt]; rfl
        have hr : (R == s) = true := by rw [e2 hf]; simp
        subst hf
        clear e1 e2
        go_wp2_with fail
        refine (known_any _).mono ?_
        rintro e w6 ⟨rfl, hb6⟩
        go_wp2
        go_ret
        exact ⟨rfl, hy2.trans (hb6.mono hy2.size)⟩
      · have hf : T = false := by rw [e1, decide_eq_false hlt]; rfl
        have hd : decide (s < 1000) = false := decide_eq_false hlt
        subst hf
        clear e1 e2
        go_wp2_with fail
        refine (known_any _).mono ?_
        rintro e w6 ⟨rfl, hb6⟩
        go_wp2
        go_ret
        exact ⟨rfl, hy2.trans (hb6.mono hy2.size)⟩
  · have hE1 : (togE allT (runs a) (runs b) x y != 0) = true := by simp [hE]
    clear hE
    have xx0 := b0.cell; have nn0 := b0.lt; have xx1 := b1.cell; have nn1 := b1.lt; have xx2 := b2.cell; have nn2 := b2.lt
    go_wp2_with fail
    clear xx0 nn0 xx1 nn1 xx2 nn2
    refine (known_any _).mono ?_
    rintro e w6 ⟨rfl, hb6⟩
    go_wp2
    go_ret
    exact ⟨rfl, hy.trans (hb6.mono hy.size)⟩

end Go.Proofs.Ytecjmpaomebdbaa
