/-
  The walk of the law TermTurns.
-/
import Derived.Test.YtecjmpaomebdbaaK
namespace Go.Proofs.Ytecjmpaomebdbaa
set_option linter.unusedVariables false
set_option linter.unusedSimpArgs false
open Go.RowKit

/-! ### boxes -/
/-- Block g holds just the cells cs, and can be written. -/
structure Box (w : World) (g : Nat) (cs : Array Value) : Prop where
  lt : g < w.heap.size
  cell : ∀ j, w.cell? ⟨g, j, none⟩ = cs[j]?
  free : ∀ j, w.frozen? ⟨g, j, none⟩ = false
theorem Box.below {w w' : World} {g : Nat} {cs : Array Value} (h : Box w g cs) (hb : Below w.heap.size w w') : Box w' g cs :=
  ⟨Nat.lt_of_lt_of_le h.lt hb.size, fun j => (hb.cell (p := ⟨g, j, none⟩) h.lt).trans (h.cell j), fun j => (hb.frozen (p := ⟨g, j, none⟩) h.lt).trans (h.free j)⟩
theorem Box.new (w : World) (t : TypeId) (cs : Array Value) : Box (w.alloc (.cells cs t)) w.heap.size cs :=
  ⟨by simp, fun j => by simp [World.cell?_alloc_at], fun j => by simp [go_sem]⟩
theorem Box.alloc {w : World} {g : Nat} {cs : Array Value} (h : Box w g cs) (o : Obj) : Box (w.alloc o) g cs := h.below ((Below.refl _ _).alloc (Nat.le_refl _) _)
theorem Box.at' {w : World} {g g' : Nat} {cs : Array Value} (h : Box w g cs) (e : g = g') : Box w g' cs := e ▸ h

theorem neq_cycle (a b c a' b' c' : Int) (w : World) : (binOp .neq 26 (.agg #[.int .i64 a, .int .i64 b, .int .i64 c]) (.agg #[.int .i64 a', .int .i64 b', .int .i64 c'])).run Try.prog w = .ok (.bool (!(a == a' && (b == b' && c == c')))) w := by
  have hS : Try.prog.underlying 26 = some (.struct (Try.prog.fieldsOf 26)) := by kernel_rfl
  have hp : Try.prog.stoodInHeld 26 = false := by kernel_rfl
  have u3 := Try.underlying3
  have a3 := Try.isAgg3
  have z3 := Try.sizeOf3
  rw [run_neq_struct, show (10000 : Nat) = 9999 + 1 from rfl, run_equalIn_agg w 9999 26 _ _ hS hp]
  simp only [Program.fieldsOf, Try.underlying26]
  go_simp
  by_cases h1 : a = a'
  · by_cases h2 : b = b'
    · by_cases h3 : c = c' <;> simp [h1, h2, h3]
    · simp [h1, h2]
  · simp [h1]

/-! ### plain -/
theorem turn_ok {c : Cy} (hc : CyOk c) (b : Int) : CyOk (turnC c b) ∧ (turnC c b).n = c.n ∧ (turnC c b).f = (c.f + b % c.n) % c.n ∧ (turnC c b).k = c.k := by
  rw [turn_yes hc.to]
  have h1 := hc.n1
  exact ⟨⟨h1, hc.n2, Int.emod_nonneg _ (by omega), Int.emod_lt_of_pos _ (by omega), hc.k⟩, rfl, rfl, rfl⟩
theorem turn_st {t : Tm} {c : Cy} (hc : CyOk c) (b : Int) (d : Nat) : stB t (turnC c b) d = stB t c d := by unfold stB; rw [(turn_ok hc b).2.2.2]
theorem turn_mn {t : Tm} {c : Cy} (hc : CyOk c) (b : Int) (d : Nat) (ho : opB t d = true) : mnAt t (turnC c b) d = (mnAt t c d + b.tmod c.n + c.n) % c.n := by
  have h1 := hc.n1
  rw [mnAt_open ho, mnAt_open ho, (turn_ok hc b).2.1, (turn_ok hc b).2.2.1, cnt_congr _ (stB t c) d (fun i _ => turn_st hc b i), Int.emod_add_emod, Int.add_emod_right]
  obtain ⟨e1, _, _⟩ := tmod_cases b c.n h1
  have e2 : ∀ z : Int, (z + b.tmod c.n) % c.n = (z + b % c.n) % c.n := fun z => by
    rcases e1 with e | e <;> rw [e]
    rw [← Int.add_sub_assoc, Int.sub_emod, Int.emod_self]; simp
  rw [e2, Int.emod_add_emod]
  congr 1; omega
theorem turn_menuE {t : Tm} {c : Cy} (hc : CyOk c) (b d : Int) : menuE t (turnC c b) d = menuE t c d := by
  unfold menuE bE; rw [(turn_ok hc b).1.to, hc.to]
theorem turn_menuR {t : Tm} {c : Cy} (hc : CyOk c) (b d : Int) (h : menuE t c d = 0) : menuR t (turnC c b) d = (menuR t c d + b.tmod c.n + c.n) % c.n ∧ 0 ≤ menuR t c d ∧ menuR t c d < c.n := by
  have ho : opB t d.toNat = true := by
    unfold menuE at h
    by_cases h1 : bE t c = 0
    · rw [if_neg (by simp [h1])] at h
      cases hi : inB d 0 (t.len - 1) with
      | false => rw [hi] at h; cases h
      | true =>
        have hd := inB_true.1 hi
        have e : ((d.toNat : Nat) : Int) = d := by omega
        rw [e]
        cases ho : opB t d with
        | false => rw [hi, ho] at h; cases h
        | true => rfl
    · rw [if_pos h1] at h; exact absurd h h1
  rw [menuR_yes h, menuR_yes (by rw [turn_menuE hc]; exact h)]
  exact ⟨turn_mn hc b _ ho, (mnAt_nonneg hc _).2 ho, (mnAt_bd hc _).2⟩

theorem Box.drewN {w : World} {g : Nat} {cs : Array Value} (h : Box w g cs) (n : Nat) : Box (w.drewN n) g cs := ⟨h.lt, h.cell, h.free⟩
theorem Box.ne {w : World} {g : Nat} {cs : Array Value} (h : Box w g cs) : ¬ g = w.heap.size := Nat.ne_of_lt h.lt
theorem RN.drewN {w : World} {A : Option Addr} {l : List Int} (h : RN w A l) (n : Nat) : RN (w.drewN n) A l := h
theorem RN.alloc {w : World} {A : Option Addr} {l : List Int} (h : RN w A l) (o : Obj) : RN (w.alloc o) A l := h.below ((Below.refl _ _).alloc (Nat.le_refl _) _)
set_option maxRecDepth 100000 in
set_option maxHeartbeats 3200000 in
theorem termTurns_any (t : Tm) (A1 A2 : Option Addr) (c1 c2 : Nat) (c : Cy) (x y : Int) (w : World) (h1 : RN w A1 t.rest) (h2 : RN w A2 t.clo) :
    Calls Try.prog 8 #[.agg #[.int .i64 t.len, .slice A1 t.rest.length c1, .slice A2 t.clo.length c2], .agg #[.int .i64 c.n, .int .i64 c.f, .int .i64 c.k], .agg #[.int .i64 x, .int .i64 y]] w fun e w' => e = .returned (.bool true) ∧ Below w.heap.size w w' := by
  have hy : Below w.heap.size w (((w.alloc (.cells #[.int .i64 t.len, .slice A1 t.rest.length c1, .slice A2 t.clo.length c2] 24)).alloc (.cells #[.int .i64 c.n, .int .i64 c.f, .int .i64 c.k] 26)).alloc (.cells #[.int .i64 x, .int .i64 y] 54)) := (((Below.refl _ _).alloc (Nat.le_refl _) _).alloc (by simp) _).alloc (by simp; omega) _
  have b0 : Box (((w.alloc (.cells #[.int .i64 t.len, .slice A1 t.rest.length c1, .slice A2 t.clo.length c2] 24)).alloc (.cells #[.int .i64 c.n, .int .i64 c.f, .int .i64 c.k] 26)).alloc (.cells #[.int .i64 x, .int .i64 y] 54)) w.heap.size #[.int .i64 t.len, .slice A1 t.rest.length c1, .slice A2 t.clo.length c2] := ((Box.new w _ _).alloc _).alloc _
  have b1 : Box (((w.alloc (.cells #[.int .i64 t.len, .slice A1 t.rest.length c1, .slice A2 t.clo.length c2] 24)).alloc (.cells #[.int .i64 c.n, .int .i64 c.f, .int .i64 c.k] 26)).alloc (.cells #[.int .i64 x, .int .i64 y] 54)) (w.heap.size + 1) #[.int .i64 c.n, .int .i64 c.f, .int .i64 c.k] := ((Box.new (w.alloc (.cells #[.int .i64 t.len, .slice A1 t.rest.length c1, .slice A2 t.clo.length c2] 24)) _ _).at' (by simp)).alloc _
  have b2 : Box (((w.alloc (.cells #[.int .i64 t.len, .slice A1 t.rest.length c1, .slice A2 t.clo.length c2] 24)).alloc (.cells #[.int .i64 c.n, .int .i64 c.f, .int .i64 c.k] 26)).alloc (.cells #[.int .i64 x, .int .i64 y] 54)) (w.heap.size + 2) #[.int .i64 x, .int .i64 y] := (Box.new ((w.alloc (.cells #[.int .i64 t.len, .slice A1 t.rest.length c1, .slice A2 t.clo.length c2] 24)).alloc (.cells #[.int .i64 c.n, .int .i64 c.f, .int .i64 c.k] 26)) _ _).at' (by simp)
  replace h1 := h1.below hy
  replace h2 := h2.below hy
  have hneq := neq_cycle
  go_enter Try.func8, Try.ntmps8
  go_wp2_with fail
  go_quiet (fail)
  go_wp2_with fail
  replace b0 := b0.drewN nq; replace b1 := b1.drewN nq; replace b2 := b2.drewN nq; replace h1 := h1.drewN nq; replace h2 := h2.drewN nq; replace hy := below_drewN hy nq
  refine (long_any t A1 A2 c1 c2 _).mono ?_
  rintro e w1 ⟨rfl, hb1⟩
  replace b0 := b0.below hb1; replace b1 := b1.below hb1; replace b2 := b2.below hb1; replace h1 := h1.below hb1; replace h2 := h2.below hb1; replace hy := hy.trans (hb1.mono hy.size)
  clear hb1
  cases hlg : longB t with
  | true =>
    have xx0 := b0.cell; have nn0 := b0.lt; have xx1 := b1.cell; have nn1 := b1.lt; have xx2 := b2.cell; have nn2 := b2.lt
    go_wp2_with fail
    clear xx0 nn0 xx1 nn1 xx2 nn2
    refine (known_any _).mono ?_
    rintro e w2 ⟨rfl, hb2⟩
    go_wp2
    go_ret
    exact ⟨rfl, hy.trans (hb2.mono hy.size)⟩
  | false =>
    obtain ⟨l1, l2⟩ := longB_no hlg
    have xx0 := b0.cell; have nn0 := b0.lt; have xx1 := b1.cell; have nn1 := b1.lt; have xx2 := b2.cell; have nn2 := b2.lt
    go_wp2_with fail
    clear xx0 nn0 xx1 nn1 xx2 nn2
    refine (turn_any c x _).mono ?_
    rintro e w2 ⟨rfl, hb2⟩
    replace b0 := b0.below hb2; replace b1 := b1.below hb2; replace b2 := b2.below hb2; replace h1 := h1.below hb2; replace h2 := h2.below hb2; replace hy := hy.trans (hb2.mono hy.size)
    clear hb2
    obtain ⟨T, hT⟩ : ∃ T, T = turnC c x := ⟨_, rfl⟩
    rw [← hT]
    have HT := Lib.hid hT
    clear hT
    have xx0 := b0.cell; have nn0 := b0.lt; have xx1 := b1.cell; have nn1 := b1.lt; have xx2 := b2.cell; have nn2 := b2.lt
    go_wp2_with fail
    clear xx0 nn0 xx1 nn1 xx2 nn2
    have b3 : Box (w2.alloc (.cells #[.int .i64 T.n, .int .i64 T.f, .int .i64 T.k] 26)) w2.heap.size #[.int .i64 T.n, .int .i64 T.f, .int .i64 T.k] := Box.new _ _ _
    replace b0 := b0.alloc (.cells #[.int .i64 T.n, .int .i64 T.f, .int .i64 T.k] 26); replace b1 := b1.alloc (.cells #[.int .i64 T.n, .int .i64 T.f, .int .i64 T.k] 26); replace b2 := b2.alloc (.cells #[.int .i64 T.n, .int .i64 T.f, .int .i64 T.k] 26); replace h1 := h1.alloc (.cells #[.int .i64 T.n, .int .i64 T.f, .int .i64 T.k] 26); replace h2 := h2.alloc (.cells #[.int .i64 T.n, .int .i64 T.f, .int .i64 T.k] 26); replace hy := hy.alloc hy.size (.cells #[.int .i64 T.n, .int .i64 T.f, .int .i64 T.k] 26)
    refine (rturn_any c x _).mono ?_
    rintro e w3 ⟨rfl, hb3⟩
    replace b0 := b0.below hb3; replace b1 := b1.below hb3; replace b2 := b2.below hb3; replace b3 := b3.below hb3; replace h1 := h1.below hb3; replace h2 := h2.below hb3; replace hy := hy.trans (hb3.mono hy.size)
    clear hb3
    rw [← HT.out]
    have xx0 := b0.cell; have nn0 := b0.lt; have xx1 := b1.cell; have nn1 := b1.lt; have xx2 := b2.cell; have nn2 := b2.lt; have xx3 := b3.cell; have nn3 := b3.lt
    go_wp2_with fail
    clear xx0 nn0 xx1 nn1 xx2 nn2 xx3 nn3
    replace b0 := b0.alloc (.cells #[.int .i64 T.n, .int .i64 T.f, .int .i64 T.k] 26); replace b1 := b1.alloc (.cells #[.int .i64 T.n, .int .i64 T.f, .int .i64 T.k] 26); replace b2 := b2.alloc (.cells #[.int .i64 T.n, .int .i64 T.f, .int .i64 T.k] 26); replace b3 := b3.alloc (.cells #[.int .i64 T.n, .int .i64 T.f, .int .i64 T.k] 26); replace h1 := h1.alloc (.cells #[.int .i64 T.n, .int .i64 T.f, .int .i64 T.k] 26); replace h2 := h2.alloc (.cells #[.int .i64 T.n, .int .i64 T.f, .int .i64 T.k] 26); replace hy := hy.alloc hy.size (.cells #[.int .i64 T.n, .int .i64 T.f, .int .i64 T.k] 26)
    refine (menu_any c y t A1 A2 c1 c2 _ h1 h2 (by omega) (by omega)).mono ?_
    rintro e w4 ⟨rfl, hb4⟩
    replace b0 := b0.below hb4; replace b1 := b1.below hb4; replace b2 := b2.below hb4; replace b3 := b3.below hb4; replace h1 := h1.below hb4; replace h2 := h2.below hb4; replace hy := hy.trans (hb4.mono hy.size)
    clear hb4
    have xx0 := b0.cell; have nn0 := b0.lt; have xx1 := b1.cell; have nn1 := b1.lt; have xx2 := b2.cell; have nn2 := b2.lt; have xx3 := b3.cell; have nn3 := b3.lt
    go_wp2_with fail
    clear xx0 nn0 xx1 nn1 xx2 nn2 xx3 nn3
    refine (menu_any T y t A1 A2 c1 c2 _ h1 h2 (by omega) (by omega)).mono ?_
    rintro e w5 ⟨rfl, hb5⟩
    replace b0 := b0.below hb5; replace b1 := b1.below hb5; replace b2 := b2.below hb5; replace b3 := b3.below hb5; replace h1 := h1.below hb5; replace h2 := h2.below hb5; replace hy := hy.trans (hb5.mono hy.size)
    clear hb5
    by_cases hE : cE c = 0
    · have hE1 : (cE c != 0) = false := by simp [hE]
      have hc := CyOk.of hE
      by_cases hM : menuE t c y = 0
      · have hM1 : (menuE t c y != 0) = false := by simp [hM]
        have e5 : menuE t T y = 0 := by rw [HT.out, turn_menuE hc, hM]
        obtain ⟨e6, m0, m1⟩ := turn_menuR hc x y hM
        rw [← HT.out] at e6
        have f1 : (menuE t T y == 0) = true := by simp [e5]
        have f2 : (menuR t T y == (menuR t c y + x.tmod c.n + c.n) % c.n) = true := by simp [e6]
        have f3 : (menuR t T y == (menuR t c y + x.tmod c.n) % c.n) = true := by rw [Int.add_emod_right] at e6; simp [e6]
        obtain ⟨n1, n2, -, -, -⟩ := hc
        obtain ⟨t1, t2, -, -⟩ := tmod_bd x c.n n1
        have nz : ¬ c.n = 0 := by omega
        clear hE hM e5 e6
        have xx0 := b0.cell; have nn0 := b0.lt; have xx1 := b1.cell; have nn1 := b1.lt; have xx2 := b2.cell; have nn2 := b2.lt; have xx3 := b3.cell; have nn3 := b3.lt
        go_wp2_with fail
        clear xx0 nn0 xx1 nn1 xx2 nn2 xx3 nn3
        refine (known_any _).mono ?_
        rintro e w6 ⟨rfl, hb6⟩
        go_wp2
        go_ret
        exact ⟨rfl, hy.trans (hb6.mono hy.size)⟩
      · have hM1 : (menuE t c y != 0) = true := by simp [hM]
        clear hM
        have xx0 := b0.cell; have nn0 := b0.lt; have xx1 := b1.cell; have nn1 := b1.lt; have xx2 := b2.cell; have nn2 := b2.lt; have xx3 := b3.cell; have nn3 := b3.lt
        go_wp2_with fail
        clear xx0 nn0 xx1 nn1 xx2 nn2 xx3 nn3
        refine (known_any _).mono ?_
        rintro e w6 ⟨rfl, hb6⟩
        go_wp2
        go_ret
        exact ⟨rfl, hy.trans (hb6.mono hy.size)⟩
    · have hE1 : (cE c != 0) = true := by simp [hE]
      clear hE
      have xx0 := b0.cell; have nn0 := b0.lt; have xx1 := b1.cell; have nn1 := b1.lt; have xx2 := b2.cell; have nn2 := b2.lt; have xx3 := b3.cell; have nn3 := b3.lt
      go_wp2_with fail
      clear xx0 nn0 xx1 nn1 xx2 nn2 xx3 nn3
      refine (known_any _).mono ?_
      rintro e w6 ⟨rfl, hb6⟩
      go_wp2
      go_ret
      exact ⟨rfl, hy.trans (hb6.mono hy.size)⟩

end Go.Proofs.Ytecjmpaomebdbaa
