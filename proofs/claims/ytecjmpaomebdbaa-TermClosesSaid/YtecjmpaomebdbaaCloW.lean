/-
  The walk of the law TermCloses.
-/
import Derived.Test.YtecjmpaomebdbaaAv
import Derived.Test.YtecjmpaomebdbaaAb
namespace Go.Proofs.Ytecjmpaomebdbaa
set_option linter.unusedVariables false
set_option linter.unusedSimpArgs false
open Go.RowKit

theorem OwnN.below {w w' : World} {base c : Nat} {A : Option Addr} {l : List Int} (h : OwnN w base A c l) (hb : Below w.heap.size w w') : OwnN w' base A c l := h.kept hb
theorem OwnN.alloc {w : World} {base c : Nat} {A : Option Addr} {l : List Int} (h : OwnN w base A c l) (o : Obj) : OwnN (w.alloc o) base A c l := h.kept ((Below.refl _ _).alloc (Nat.le_refl _) _)
theorem OwnN.far {w : World} {base c : Nat} {A : Option Addr} {l : List Int} {p : Addr} (h : OwnN w base A c l) (hp : ∀ k, (Value.slice A l.length c).ownBlock = some k → k ≠ p.block) (v : Value) : OwnN (w.setCell p v) base A c l := by
  refine ⟨h.1, ?_⟩
  rcases h.2 with hn | ⟨g, cap, cur, e, hbg, hh, rest⟩
  · exact .inl hn
  · refine .inr ⟨g, cap, cur, e, hbg, ?_, rest⟩
    rw [heap_setCell_other _ _ _ _ (hp g (by rw [e]; rfl))]
    exact hh
theorem OwnN.st {w : World} {base c : Nat} {A : Option Addr} {l : List Int} (h : OwnN w base A c l) {k : Nat} (hk : k < l.length) : ∃ g, A = some ⟨g, 0, none⟩ ∧ base ≤ g ∧ g < w.heap.size ∧ w.cell? ⟨g, k, none⟩ = some (.int .i64 (gi l k)) ∧ w.frozen? ⟨g, k, none⟩ = false ∧
    ∀ v : Int, OwnN (w.setCell ⟨g, k, none⟩ (.int .i64 v)) base A c (l.set k v) := by
  have hL := h
  unfold OwnN at hL
  obtain ⟨g, cur, rfl, hbg, hg, -, -, -, -⟩ := h.row (by omega)
  have hlt := World.ownsRow.lt hL g rfl
  refine ⟨g, rfl, hlt.1, hlt.2, ?_, World.ownsRow.frozenAt hL _, fun v => ?_⟩
  · rw [World.ownsRow.cellAt hL k (by omega)]
    simp [ints, gi, hk]
  · have e := (World.ownsRow.stored hL k (.int .i64 v)).1
    unfold OwnN
    rw [List.length_set, show ints (l.set k v) = (ints l).set k (.int .i64 v) by simp [ints]]
    exact e
theorem Box.far {w : World} {g : Nat} {cs : Array Value} {p : Addr} (h : Box w g cs) (hp : g ≠ p.block) (v : Value) : Box (w.setCell p v) g cs := by
  refine ⟨by have := h.lt; simpa [World.setCell] using this, fun j => ?_, fun j => by rw [World.frozen?_setCell]; exact h.free j⟩
  rw [World.cell?_setCell_other _ _ _ _ (fun e => hp (by rw [e]))]
  exact h.cell j
theorem clT_small {t : Tm} {d : Int} : (clT t d).rest.length ≤ 1000 ∧ (clT t d).clo.length ≤ 1000 := by
  by_cases h : clE t d = 0
  · have hk := clT_ok h
    have h1 := isSet_len hk.rest (by omega)
    have h2 := hk.clo60
    omega
  · rw [clT_no h]; simp
theorem reT_small {t : Tm} {d : Int} : (reT t d).rest.length ≤ 1000 ∧ (reT t d).clo.length ≤ 1000 := by
  by_cases h : reE t d = 0
  · have hk := reT_ok h
    have h1 := isSet_len hk.rest (by omega)
    have h2 := hk.clo60
    omega
  · rw [reT_no h]; simp
theorem re_of_cl {t : Tm} {d : Int} (h : clE t d = 0) : reE t d = 12 := by
  obtain ⟨ht, h0, h1, hh, h60⟩ := clE_ok h
  unfold reE
  rw [if_neg (by rw [qE_of ht h0 h1]; simp), hh]; rfl

set_option maxRecDepth 100000 in
set_option maxHeartbeats 8000000 in
theorem termCloses_any (t : Tm) (A1 A2 : Option Addr) (c1 c2 : Nat) (day : Int) (w : World) (h1 : RN w A1 t.rest) (h2 : RN w A2 t.clo) :
    Calls Try.prog 16 #[.agg #[.int .i64 t.len, .slice A1 t.rest.length c1, .slice A2 t.clo.length c2], .int .i64 day] w fun e w' => e = .returned (.bool true) ∧ Below w.heap.size w w' := by
  have hy : Below w.heap.size w (w.alloc (.cells #[.int .i64 t.len, .slice A1 t.rest.length c1, .slice A2 t.clo.length c2] 24)) := (Below.refl _ _).alloc (Nat.le_refl _) _
  have b0 : Box (w.alloc (.cells #[.int .i64 t.len, .slice A1 t.rest.length c1, .slice A2 t.clo.length c2] 24)) w.heap.size #[.int .i64 t.len, .slice A1 t.rest.length c1, .slice A2 t.clo.length c2] := Box.new w _ _
  replace h1 := h1.below hy
  replace h2 := h2.below hy
  go_enter Try.func16, Try.ntmps16
  go_wp2_with fail
  refine (long_any t A1 A2 c1 c2 _).mono ?_
  rintro e w1 ⟨rfl, hb1⟩
  replace b0 := b0.below hb1; replace h1 := h1.below hb1; replace h2 := h2.below hb1
  replace hy := hy.trans (hb1.mono hy.size)
  clear hb1
  cases hlg : longB t with
  | true =>
    have xx0 := b0.cell; have nn0 := b0.lt
    go_wp2_with fail
    clear xx0 nn0
    refine (known_any _).mono ?_
    rintro e w2 ⟨rfl, hb2⟩
    go_wp2
    go_ret
    exact ⟨rfl, hy.trans (hb2.mono hy.size)⟩
  | false =>
    obtain ⟨l1, l2⟩ := longB_no hlg
    clear hlg
    obtain ⟨T, hT⟩ : ∃ T, T = clT t day := ⟨_, rfl⟩
    obtain ⟨R, hR⟩ : ∃ R, R = reT t day := ⟨_, rfl⟩
    have HT := Lib.hid hT
    have HR := Lib.hid hR
    obtain ⟨lT1, lT2⟩ := clT_small (t := t) (d := day)
    obtain ⟨lR1, lR2⟩ := reT_small (t := t) (d := day)
    rw [← hT] at lT1 lT2
    rw [← hR] at lR1 lR2
    clear hT hR
    have xx0 := b0.cell; have nn0 := b0.lt
    go_wp2_with fail
    clear xx0 nn0
    refine (copy_any t A1 A2 c1 c2 _ h1 h2 (by omega) (by omega)).mono ?_
    rintro e w2 ⟨Ao, ko, Ap, kp, rfl, ow1, ow2, hb2⟩
    have go1 := RN.of_own ow1
    have go2 := RN.of_own ow2
    clear ow1 ow2
    replace b0 := b0.below hb2; replace h1 := h1.below hb2; replace h2 := h2.below hb2
    replace hy := hy.trans (hb2.mono hy.size)
    clear hb2
    have xx0 := b0.cell; have nn0 := b0.lt
    go_wp2_with fail
    clear xx0 nn0
    have bo : Box (w2.alloc (.cells #[.int .i64 t.len, .slice Ao t.rest.length ko, .slice Ap t.clo.length kp] 24)) w2.heap.size #[.int .i64 t.len, .slice Ao t.rest.length ko, .slice Ap t.clo.length kp] := Box.new _ _ _
    replace b0 := b0.alloc (.cells #[.int .i64 t.len, .slice Ao t.rest.length ko, .slice Ap t.clo.length kp] 24); replace h1 := h1.alloc (.cells #[.int .i64 t.len, .slice Ao t.rest.length ko, .slice Ap t.clo.length kp] 24); replace h2 := h2.alloc (.cells #[.int .i64 t.len, .slice Ao t.rest.length ko, .slice Ap t.clo.length kp] 24); replace go1 := go1.alloc (.cells #[.int .i64 t.len, .slice Ao t.rest.length ko, .slice Ap t.clo.length kp] 24); replace go2 := go2.alloc (.cells #[.int .i64 t.len, .slice Ao t.rest.length ko, .slice Ap t.clo.length kp] 24)
    replace hy := hy.alloc hy.size (.cells #[.int .i64 t.len, .slice Ao t.rest.length ko, .slice Ap t.clo.length kp] 24)
    obtain ⟨wP, hwP⟩ : ∃ wP, wP = w2.alloc (.cells #[.int .i64 t.len, .slice Ao t.rest.length ko, .slice Ap t.clo.length kp] 24) := ⟨_, rfl⟩
    rw [← hwP] at b0 bo h1 h2 go1 go2 hy ⊢
    clear hwP
    have p0 := b0; have po := bo; have p1 := h1; have p2 := h2; have q1 := go1; have q2 := go2
    have hP := Below.refl wP.heap.size wP
    refine (close_any t day Ao Ap ko kp _ go1 go2 (by omega) (by omega)).mono ?_
    rintro e w3 ⟨A3, k3, A4, k4, mA, rfl, own1, own2, hmA, hlA, hb3⟩
    rw [← HT.out] at own1 own2 hlA ⊢
    have nA3 : ∀ k, (Value.slice A3 T.rest.length k3).ownBlock = some k → k < w3.heap.size := fun k hk => (World.ownsRow.lt own1 k hk).2
    have nA4 : ∀ k, (Value.slice A4 T.clo.length k4).ownBlock = some k → k < w3.heap.size := fun k hk => (World.ownsRow.lt own2 k hk).2
    have gA1 := RN.of_own own1
    have gA2 := RN.of_own own2
    replace b0 := b0.below hb3; replace bo := bo.below hb3; replace h1 := h1.below hb3; replace h2 := h2.below hb3; replace go1 := go1.below hb3; replace go2 := go2.below hb3
    replace hP := hP.trans (hb3.mono hP.size)
    clear hb3
    have HN3 := Lib.hid nA3; have HN4 := Lib.hid nA4; have HLA := Lib.hid hlA
    clear nA3 nA4 hlA
    have xx0 := b0.cell; have nn0 := b0.lt
    go_wp2_with fail
    clear xx0 nn0
    have bA : Box (w3.alloc (.cells #[.int .i64 T.len, .slice A3 T.rest.length k3, .slice A4 T.clo.length k4] 24)) w3.heap.size #[.int .i64 T.len, .slice A3 T.rest.length k3, .slice A4 T.clo.length k4] := Box.new _ _ _
    replace b0 := b0.alloc (.cells #[.int .i64 T.len, .slice A3 T.rest.length k3, .slice A4 T.clo.length k4] 24); replace bo := bo.alloc (.cells #[.int .i64 T.len, .slice A3 T.rest.length k3, .slice A4 T.clo.length k4] 24); replace h1 := h1.alloc (.cells #[.int .i64 T.len, .slice A3 T.rest.length k3, .slice A4 T.clo.length k4] 24); replace h2 := h2.alloc (.cells #[.int .i64 T.len, .slice A3 T.rest.length k3, .slice A4 T.clo.length k4] 24); replace go1 := go1.alloc (.cells #[.int .i64 T.len, .slice A3 T.rest.length k3, .slice A4 T.clo.length k4] 24); replace go2 := go2.alloc (.cells #[.int .i64 T.len, .slice A3 T.rest.length k3, .slice A4 T.clo.length k4] 24); replace gA1 := gA1.alloc (.cells #[.int .i64 T.len, .slice A3 T.rest.length k3, .slice A4 T.clo.length k4] 24); replace gA2 := gA2.alloc (.cells #[.int .i64 T.len, .slice A3 T.rest.length k3, .slice A4 T.clo.length k4] 24); replace own1 := own1.alloc (.cells #[.int .i64 T.len, .slice A3 T.rest.length k3, .slice A4 T.clo.length k4] 24); replace own2 := own2.alloc (.cells #[.int .i64 T.len, .slice A3 T.rest.length k3, .slice A4 T.clo.length k4] 24)
    replace hP := hP.alloc hP.size (.cells #[.int .i64 T.len, .slice A3 T.rest.length k3, .slice A4 T.clo.length k4] 24)
    refine (rclose_any t day A1 A2 c1 c2 _ h1 h2 (by omega) (by omega)).mono ?_
    rintro e w4 ⟨B3, q3, B4, q4, mB, rfl, ob1, ob2, -, -, hb4⟩
    rw [← HT.out] at ob1 ob2 ⊢
    have gB1 := RN.of_own ob1
    have gB2 := RN.of_own ob2
    clear ob1 ob2
    replace b0 := b0.below hb4; replace bo := bo.below hb4; replace bA := bA.below hb4; replace h1 := h1.below hb4; replace h2 := h2.below hb4; replace go1 := go1.below hb4; replace go2 := go2.below hb4; replace gA1 := gA1.below hb4; replace gA2 := gA2.below hb4; replace own1 := own1.below hb4; replace own2 := own2.below hb4
    replace hP := hP.trans (hb4.mono hP.size)
    clear hb4
    have xx0 := bo.cell; have nn0 := bo.lt
    go_wp2_with fail
    clear xx0 nn0
    have bB : Box (w4.alloc (.cells #[.int .i64 T.len, .slice B3 T.rest.length q3, .slice B4 T.clo.length q4] 24)) w4.heap.size #[.int .i64 T.len, .slice B3 T.rest.length q3, .slice B4 T.clo.length q4] := Box.new _ _ _
    replace b0 := b0.alloc (.cells #[.int .i64 T.len, .slice B3 T.rest.length q3, .slice B4 T.clo.length q4] 24); replace bo := bo.alloc (.cells #[.int .i64 T.len, .slice B3 T.rest.length q3, .slice B4 T.clo.length q4] 24); replace bA := bA.alloc (.cells #[.int .i64 T.len, .slice B3 T.rest.length q3, .slice B4 T.clo.length q4] 24); replace h1 := h1.alloc (.cells #[.int .i64 T.len, .slice B3 T.rest.length q3, .slice B4 T.clo.length q4] 24); replace h2 := h2.alloc (.cells #[.int .i64 T.len, .slice B3 T.rest.length q3, .slice B4 T.clo.length q4] 24); replace go1 := go1.alloc (.cells #[.int .i64 T.len, .slice B3 T.rest.length q3, .slice B4 T.clo.length q4] 24); replace go2 := go2.alloc (.cells #[.int .i64 T.len, .slice B3 T.rest.length q3, .slice B4 T.clo.length q4] 24); replace gA1 := gA1.alloc (.cells #[.int .i64 T.len, .slice B3 T.rest.length q3, .slice B4 T.clo.length q4] 24); replace gA2 := gA2.alloc (.cells #[.int .i64 T.len, .slice B3 T.rest.length q3, .slice B4 T.clo.length q4] 24); replace own1 := own1.alloc (.cells #[.int .i64 T.len, .slice B3 T.rest.length q3, .slice B4 T.clo.length q4] 24); replace own2 := own2.alloc (.cells #[.int .i64 T.len, .slice B3 T.rest.length q3, .slice B4 T.clo.length q4] 24); replace gB1 := gB1.alloc (.cells #[.int .i64 T.len, .slice B3 T.rest.length q3, .slice B4 T.clo.length q4] 24); replace gB2 := gB2.alloc (.cells #[.int .i64 T.len, .slice B3 T.rest.length q3, .slice B4 T.clo.length q4] 24)
    replace hP := hP.alloc hP.size (.cells #[.int .i64 T.len, .slice B3 T.rest.length q3, .slice B4 T.clo.length q4] 24)
    refine (reopen_any t day Ao Ap ko kp _ go1 go2 (by omega) (by omega)).mono ?_
    rintro e w5 ⟨C3, j3, C4, j4, mC, rfl, ob1, ob2, -, -, hb5⟩
    rw [← HR.out] at ob1 ob2 ⊢
    have gC1 := RN.of_own ob1
    have gC2 := RN.of_own ob2
    clear ob1 ob2
    replace b0 := b0.below hb5; replace bo := bo.below hb5; replace bA := bA.below hb5; replace bB := bB.below hb5; replace h1 := h1.below hb5; replace h2 := h2.below hb5; replace go1 := go1.below hb5; replace go2 := go2.below hb5; replace gA1 := gA1.below hb5; replace gA2 := gA2.below hb5; replace own1 := own1.below hb5; replace own2 := own2.below hb5; replace gB1 := gB1.below hb5; replace gB2 := gB2.below hb5
    replace hP := hP.trans (hb5.mono hP.size)
    clear hb5
    have xx0 := b0.cell; have nn0 := b0.lt
    go_wp2_with fail
    clear xx0 nn0
    have bC : Box (w5.alloc (.cells #[.int .i64 R.len, .slice C3 R.rest.length j3, .slice C4 R.clo.length j4] 24)) w5.heap.size #[.int .i64 R.len, .slice C3 R.rest.length j3, .slice C4 R.clo.length j4] := Box.new _ _ _
    replace b0 := b0.alloc (.cells #[.int .i64 R.len, .slice C3 R.rest.length j3, .slice C4 R.clo.length j4] 24); replace bo := bo.alloc (.cells #[.int .i64 R.len, .slice C3 R.rest.length j3, .slice C4 R.clo.length j4] 24); replace bA := bA.alloc (.cells #[.int .i64 R.len, .slice C3 R.rest.length j3, .slice C4 R.clo.length j4] 24); replace bB := bB.alloc (.cells #[.int .i64 R.len, .slice C3 R.rest.length j3, .slice C4 R.clo.length j4] 24); replace h1 := h1.alloc (.cells #[.int .i64 R.len, .slice C3 R.rest.length j3, .slice C4 R.clo.length j4] 24); replace h2 := h2.alloc (.cells #[.int .i64 R.len, .slice C3 R.rest.length j3, .slice C4 R.clo.length j4] 24); replace go1 := go1.alloc (.cells #[.int .i64 R.len, .slice C3 R.rest.length j3, .slice C4 R.clo.length j4] 24); replace go2 := go2.alloc (.cells #[.int .i64 R.len, .slice C3 R.rest.length j3, .slice C4 R.clo.length j4] 24); replace gA1 := gA1.alloc (.cells #[.int .i64 R.len, .slice C3 R.rest.length j3, .slice C4 R.clo.length j4] 24); replace gA2 := gA2.alloc (.cells #[.int .i64 R.len, .slice C3 R.rest.length j3, .slice C4 R.clo.length j4] 24); replace own1 := own1.alloc (.cells #[.int .i64 R.len, .slice C3 R.rest.length j3, .slice C4 R.clo.length j4] 24); replace own2 := own2.alloc (.cells #[.int .i64 R.len, .slice C3 R.rest.length j3, .slice C4 R.clo.length j4] 24); replace gB1 := gB1.alloc (.cells #[.int .i64 R.len, .slice C3 R.rest.length j3, .slice C4 R.clo.length j4] 24); replace gB2 := gB2.alloc (.cells #[.int .i64 R.len, .slice C3 R.rest.length j3, .slice C4 R.clo.length j4] 24); replace gC1 := gC1.alloc (.cells #[.int .i64 R.len, .slice C3 R.rest.length j3, .slice C4 R.clo.length j4] 24); replace gC2 := gC2.alloc (.cells #[.int .i64 R.len, .slice C3 R.rest.length j3, .slice C4 R.clo.length j4] 24)
    replace hP := hP.alloc hP.size (.cells #[.int .i64 R.len, .slice C3 R.rest.length j3, .slice C4 R.clo.length j4] 24)
    refine (rreopen_any t day A1 A2 c1 c2 _ h1 h2 (by omega) (by omega)).mono ?_
    rintro e w6 ⟨D3, i3, D4, i4, mD, rfl, ob1, ob2, -, -, hb6⟩
    rw [← HR.out] at ob1 ob2 ⊢
    have gD1 := RN.of_own ob1
    have gD2 := RN.of_own ob2
    clear ob1 ob2
    replace b0 := b0.below hb6; replace bo := bo.below hb6; replace bA := bA.below hb6; replace bB := bB.below hb6; replace bC := bC.below hb6; replace h1 := h1.below hb6; replace h2 := h2.below hb6; replace go1 := go1.below hb6; replace go2 := go2.below hb6; replace gA1 := gA1.below hb6; replace gA2 := gA2.below hb6; replace own1 := own1.below hb6; replace own2 := own2.below hb6; replace gB1 := gB1.below hb6; replace gB2 := gB2.below hb6; replace gC1 := gC1.below hb6; replace gC2 := gC2.below hb6
    replace hP := hP.trans (hb6.mono hP.size)
    clear hb6
    have xx0 := bA.cell; have nn0 := bA.lt; have xx1 := bB.cell; have nn1 := bB.lt
    go_wp2_with fail
    clear xx0 nn0 xx1 nn1
    have bD : Box (w6.alloc (.cells #[.int .i64 R.len, .slice D3 R.rest.length i3, .slice D4 R.clo.length i4] 24)) w6.heap.size #[.int .i64 R.len, .slice D3 R.rest.length i3, .slice D4 R.clo.length i4] := Box.new _ _ _
    replace b0 := b0.alloc (.cells #[.int .i64 R.len, .slice D3 R.rest.length i3, .slice D4 R.clo.length i4] 24); replace bo := bo.alloc (.cells #[.int .i64 R.len, .slice D3 R.rest.length i3, .slice D4 R.clo.length i4] 24); replace bA := bA.alloc (.cells #[.int .i64 R.len, .slice D3 R.rest.length i3, .slice D4 R.clo.length i4] 24); replace bB := bB.alloc (.cells #[.int .i64 R.len, .slice D3 R.rest.length i3, .slice D4 R.clo.length i4] 24); replace bC := bC.alloc (.cells #[.int .i64 R.len, .slice D3 R.rest.length i3, .slice D4 R.clo.length i4] 24); replace h1 := h1.alloc (.cells #[.int .i64 R.len, .slice D3 R.rest.length i3, .slice D4 R.clo.length i4] 24); replace h2 := h2.alloc (.cells #[.int .i64 R.len, .slice D3 R.rest.length i3, .slice D4 R.clo.length i4] 24); replace go1 := go1.alloc (.cells #[.int .i64 R.len, .slice D3 R.rest.length i3, .slice D4 R.clo.length i4] 24); replace go2 := go2.alloc (.cells #[.int .i64 R.len, .slice D3 R.rest.length i3, .slice D4 R.clo.length i4] 24); replace gA1 := gA1.alloc (.cells #[.int .i64 R.len, .slice D3 R.rest.length i3, .slice D4 R.clo.length i4] 24); replace gA2 := gA2.alloc (.cells #[.int .i64 R.len, .slice D3 R.rest.length i3, .slice D4 R.clo.length i4] 24); replace own1 := own1.alloc (.cells #[.int .i64 R.len, .slice D3 R.rest.length i3, .slice D4 R.clo.length i4] 24); replace own2 := own2.alloc (.cells #[.int .i64 R.len, .slice D3 R.rest.length i3, .slice D4 R.clo.length i4] 24); replace gB1 := gB1.alloc (.cells #[.int .i64 R.len, .slice D3 R.rest.length i3, .slice D4 R.clo.length i4] 24); replace gB2 := gB2.alloc (.cells #[.int .i64 R.len, .slice D3 R.rest.length i3, .slice D4 R.clo.length i4] 24); replace gC1 := gC1.alloc (.cells #[.int .i64 R.len, .slice D3 R.rest.length i3, .slice D4 R.clo.length i4] 24); replace gC2 := gC2.alloc (.cells #[.int .i64 R.len, .slice D3 R.rest.length i3, .slice D4 R.clo.length i4] 24); replace gD1 := gD1.alloc (.cells #[.int .i64 R.len, .slice D3 R.rest.length i3, .slice D4 R.clo.length i4] 24); replace gD2 := gD2.alloc (.cells #[.int .i64 R.len, .slice D3 R.rest.length i3, .slice D4 R.clo.length i4] 24)
    replace hP := hP.alloc hP.size (.cells #[.int .i64 R.len, .slice D3 R.rest.length i3, .slice D4 R.clo.length i4] 24)
    refine (same_any T T A3 A4 B3 B4 k3 k4 q3 q4 _ gA1 gA2 gB1 gB2 (by omega) (by omega) (by omega) (by omega)).mono ?_
    rintro e w7 ⟨rfl, hb7⟩
    replace b0 := b0.below hb7; replace bo := bo.below hb7; replace bA := bA.below hb7; replace bB := bB.below hb7; replace bC := bC.below hb7; replace bD := bD.below hb7; replace h1 := h1.below hb7; replace h2 := h2.below hb7; replace go1 := go1.below hb7; replace go2 := go2.below hb7; replace gA1 := gA1.below hb7; replace gA2 := gA2.below hb7; replace own1 := own1.below hb7; replace own2 := own2.below hb7; replace gB1 := gB1.below hb7; replace gB2 := gB2.below hb7; replace gC1 := gC1.below hb7; replace gC2 := gC2.below hb7; replace gD1 := gD1.below hb7; replace gD2 := gD2.below hb7
    replace hP := hP.trans (hb7.mono hP.size)
    clear hb7
    rw [sameB_refl]
    clear gB1 gB2
    have xx0 := bC.cell; have nn0 := bC.lt; have xx1 := bD.cell; have nn1 := bD.lt
    go_wp2_with fail
    clear xx0 nn0 xx1 nn1
    refine (same_any R R C3 C4 D3 D4 j3 j4 i3 i4 _ gC1 gC2 gD1 gD2 (by omega) (by omega) (by omega) (by omega)).mono ?_
    rintro e w8 ⟨rfl, hb8⟩
    replace b0 := b0.below hb8; replace bo := bo.below hb8; replace bA := bA.below hb8; replace bB := bB.below hb8; replace bC := bC.below hb8; replace bD := bD.below hb8; replace h1 := h1.below hb8; replace h2 := h2.below hb8; replace go1 := go1.below hb8; replace go2 := go2.below hb8; replace gA1 := gA1.below hb8; replace gA2 := gA2.below hb8; replace own1 := own1.below hb8; replace own2 := own2.below hb8; replace gC1 := gC1.below hb8; replace gC2 := gC2.below hb8; replace gD1 := gD1.below hb8; replace gD2 := gD2.below hb8
    replace hP := hP.trans (hb8.mono hP.size)
    clear hb8
    rw [sameB_refl]
    clear gD1 gD2 bB bD
    by_cases hE : clE t day = 0
    · have hE1 : (clE t day != 0) = false := by simp [hE]
      obtain ⟨r1, r2⟩ := cl_re hE
      rw [← HT.out] at r1 r2
      have hG1 : (reE t day != 0) = true := by rw [re_of_cl hE]; rfl
      clear hE
      have xx0 := bA.cell; have nn0 := bA.lt
      go_wp2_with fail
      clear xx0 nn0
      refine (reopen_any T day A3 A4 k3 k4 _ gA1 gA2 (by omega) (by omega)).mono ?_
      rintro e w9 ⟨X3, x3, X4, x4, mX, rfl, ob1, ob2, -, -, hb9⟩
      rw [r1, r2]
      rw [r2] at ob1 ob2
      have gX1 := RN.of_own ob1
      have gX2 := RN.of_own ob2
      clear ob1 ob2
      replace b0 := b0.below hb9; replace bo := bo.below hb9; replace bA := bA.below hb9; replace bC := bC.below hb9; replace h1 := h1.below hb9; replace h2 := h2.below hb9; replace go1 := go1.below hb9; replace go2 := go2.below hb9; replace gA1 := gA1.below hb9; replace gA2 := gA2.below hb9; replace own1 := own1.below hb9; replace own2 := own2.below hb9; replace gC1 := gC1.below hb9; replace gC2 := gC2.below hb9
      replace hP := hP.trans (hb9.mono hP.size)
      clear hb9
      have xx0 := bC.cell; have nn0 := bC.lt
      go_wp2_with fail
      clear xx0 nn0
      have bX : Box (w9.alloc (.cells #[.int .i64 t.len, .slice X3 t.rest.length x3, .slice X4 t.clo.length x4] 24)) w9.heap.size #[.int .i64 t.len, .slice X3 t.rest.length x3, .slice X4 t.clo.length x4] := Box.new _ _ _
      replace b0 := b0.alloc (.cells #[.int .i64 t.len, .slice X3 t.rest.length x3, .slice X4 t.clo.length x4] 24); replace bo := bo.alloc (.cells #[.int .i64 t.len, .slice X3 t.rest.length x3, .slice X4 t.clo.length x4] 24); replace bA := bA.alloc (.cells #[.int .i64 t.len, .slice X3 t.rest.length x3, .slice X4 t.clo.length x4] 24); replace bC := bC.alloc (.cells #[.int .i64 t.len, .slice X3 t.rest.length x3, .slice X4 t.clo.length x4] 24); replace h1 := h1.alloc (.cells #[.int .i64 t.len, .slice X3 t.rest.length x3, .slice X4 t.clo.length x4] 24); replace h2 := h2.alloc (.cells #[.int .i64 t.len, .slice X3 t.rest.length x3, .slice X4 t.clo.length x4] 24); replace go1 := go1.alloc (.cells #[.int .i64 t.len, .slice X3 t.rest.length x3, .slice X4 t.clo.length x4] 24); replace go2 := go2.alloc (.cells #[.int .i64 t.len, .slice X3 t.rest.length x3, .slice X4 t.clo.length x4] 24); replace gA1 := gA1.alloc (.cells #[.int .i64 t.len, .slice X3 t.rest.length x3, .slice X4 t.clo.length x4] 24); replace gA2 := gA2.alloc (.cells #[.int .i64 t.len, .slice X3 t.rest.length x3, .slice X4 t.clo.length x4] 24); replace own1 := own1.alloc (.cells #[.int .i64 t.len, .slice X3 t.rest.length x3, .slice X4 t.clo.length x4] 24); replace own2 := own2.alloc (.cells #[.int .i64 t.len, .slice X3 t.rest.length x3, .slice X4 t.clo.length x4] 24); replace gC1 := gC1.alloc (.cells #[.int .i64 t.len, .slice X3 t.rest.length x3, .slice X4 t.clo.length x4] 24); replace gC2 := gC2.alloc (.cells #[.int .i64 t.len, .slice X3 t.rest.length x3, .slice X4 t.clo.length x4] 24); replace gX1 := gX1.alloc (.cells #[.int .i64 t.len, .slice X3 t.rest.length x3, .slice X4 t.clo.length x4] 24); replace gX2 := gX2.alloc (.cells #[.int .i64 t.len, .slice X3 t.rest.length x3, .slice X4 t.clo.length x4] 24)
      replace hP := hP.alloc hP.size (.cells #[.int .i64 t.len, .slice X3 t.rest.length x3, .slice X4 t.clo.length x4] 24)
      refine (close_any R day C3 C4 j3 j4 _ gC1 gC2 (by omega) (by omega)).mono ?_
      rintro e w10 ⟨Y3, y3, Y4, y4, mY, rfl, -, -, -, -, hb10⟩
      replace b0 := b0.below hb10; replace bo := bo.below hb10; replace bA := bA.below hb10; replace bC := bC.below hb10; replace bX := bX.below hb10; replace h1 := h1.below hb10; replace h2 := h2.below hb10; replace go1 := go1.below hb10; replace go2 := go2.below hb10; replace gA1 := gA1.below hb10; replace gA2 := gA2.below hb10; replace own1 := own1.below hb10; replace own2 := own2.below hb10; replace gC1 := gC1.below hb10; replace gC2 := gC2.below hb10; replace gX1 := gX1.below hb10; replace gX2 := gX2.below hb10
      replace hP := hP.trans (hb10.mono hP.size)
      clear hb10
      have xx0 := b0.cell; have nn0 := b0.lt; have xx1 := bX.cell; have nn1 := bX.lt
      go_wp2_with fail
      clear xx0 nn0 xx1 nn1
      have bY : Box (w10.alloc (.cells #[.int .i64 (clT R day).len, .slice Y3 (clT R day).rest.length y3, .slice Y4 (clT R day).clo.length y4] 24)) w10.heap.size #[.int .i64 (clT R day).len, .slice Y3 (clT R day).rest.length y3, .slice Y4 (clT R day).clo.length y4] := Box.new _ _ _
      replace b0 := b0.alloc (.cells #[.int .i64 (clT R day).len, .slice Y3 (clT R day).rest.length y3, .slice Y4 (clT R day).clo.length y4] 24); replace bo := bo.alloc (.cells #[.int .i64 (clT R day).len, .slice Y3 (clT R day).rest.length y3, .slice Y4 (clT R day).clo.length y4] 24); replace bA := bA.alloc (.cells #[.int .i64 (clT R day).len, .slice Y3 (clT R day).rest.length y3, .slice Y4 (clT R day).clo.length y4] 24); replace bC := bC.alloc (.cells #[.int .i64 (clT R day).len, .slice Y3 (clT R day).rest.length y3, .slice Y4 (clT R day).clo.length y4] 24); replace bX := bX.alloc (.cells #[.int .i64 (clT R day).len, .slice Y3 (clT R day).rest.length y3, .slice Y4 (clT R day).clo.length y4] 24); replace h1 := h1.alloc (.cells #[.int .i64 (clT R day).len, .slice Y3 (clT R day).rest.length y3, .slice Y4 (clT R day).clo.length y4] 24); replace h2 := h2.alloc (.cells #[.int .i64 (clT R day).len, .slice Y3 (clT R day).rest.length y3, .slice Y4 (clT R day).clo.length y4] 24); replace go1 := go1.alloc (.cells #[.int .i64 (clT R day).len, .slice Y3 (clT R day).rest.length y3, .slice Y4 (clT R day).clo.length y4] 24); replace go2 := go2.alloc (.cells #[.int .i64 (clT R day).len, .slice Y3 (clT R day).rest.length y3, .slice Y4 (clT R day).clo.length y4] 24); replace gA1 := gA1.alloc (.cells #[.int .i64 (clT R day).len, .slice Y3 (clT R day).rest.length y3, .slice Y4 (clT R day).clo.length y4] 24); replace gA2 := gA2.alloc (.cells #[.int .i64 (clT R day).len, .slice Y3 (clT R day).rest.length y3, .slice Y4 (clT R day).clo.length y4] 24); replace own1 := own1.alloc (.cells #[.int .i64 (clT R day).len, .slice Y3 (clT R day).rest.length y3, .slice Y4 (clT R day).clo.length y4] 24); replace own2 := own2.alloc (.cells #[.int .i64 (clT R day).len, .slice Y3 (clT R day).rest.length y3, .slice Y4 (clT R day).clo.length y4] 24); replace gC1 := gC1.alloc (.cells #[.int .i64 (clT R day).len, .slice Y3 (clT R day).rest.length y3, .slice Y4 (clT R day).clo.length y4] 24); replace gC2 := gC2.alloc (.cells #[.int .i64 (clT R day).len, .slice Y3 (clT R day).rest.length y3, .slice Y4 (clT R day).clo.length y4] 24); replace gX1 := gX1.alloc (.cells #[.int .i64 (clT R day).len, .slice Y3 (clT R day).rest.length y3, .slice Y4 (clT R day).clo.length y4] 24); replace gX2 := gX2.alloc (.cells #[.int .i64 (clT R day).len, .slice Y3 (clT R day).rest.length y3, .slice Y4 (clT R day).clo.length y4] 24)
      replace hP := hP.alloc hP.size (.cells #[.int .i64 (clT R day).len, .slice Y3 (clT R day).rest.length y3, .slice Y4 (clT R day).clo.length y4] 24)
      refine (same_any t t X3 X4 A1 A2 x3 x4 c1 c2 _ gX1 gX2 h1 h2 (by omega) (by omega) (by omega) (by omega)).mono ?_
      rintro e w11 ⟨rfl, hb11⟩
      replace b0 := b0.below hb11; replace bo := bo.below hb11; replace bA := bA.below hb11; replace bC := bC.below hb11; replace bX := bX.below hb11; replace bY := bY.below hb11; replace h1 := h1.below hb11; replace h2 := h2.below hb11; replace go1 := go1.below hb11; replace go2 := go2.below hb11; replace gA1 := gA1.below hb11; replace gA2 := gA2.below hb11; replace own1 := own1.below hb11; replace own2 := own2.below hb11; replace gC1 := gC1.below hb11; replace gC2 := gC2.below hb11; replace gX1 := gX1.below hb11; replace gX2 := gX2.below hb11
      replace hP := hP.trans (hb11.mono hP.size)
      clear hb11
      rw [sameB_refl]
      have HP0 := hP
      have xx0 := bA.cell; have nn0 := bA.lt
      go_wp2
      clear xx0 nn0
      go_loopw [19] (fun x wr => ∃ k : Nat, k ≤ T.clo.length ∧ x = .int .i64 k ∧ (∃ ys : List Int, ys.length = T.clo.length ∧ OwnN wr mA A4 k4 ys) ∧ OwnN wr wP.heap.size A3 k3 T.rest ∧ Box wr w3.heap.size #[.int .i64 T.len, .slice A3 T.rest.length k3, .slice A4 T.clo.length k4] ∧ Below wP.heap.size wP wr) (fun x _ => T.clo.length - (intOf x).toNat)
      case atStart => exact ⟨0, by omega, rfl, ⟨_, rfl, own2⟩, own1, bA, hP⟩
      case round =>
        clear own2 own1 bA hP HP0
        obtain ⟨k, hk, rfl, ⟨ys, hys, own2⟩, own1, bA, hP⟩ := hrel
        by_cases hlt : k < T.clo.length
        · obtain ⟨g, hA4, hg0, hg1, z0, z1, hst⟩ := own2.st (k := k) (by omega)
          subst hA4
          have hgn : g < w3.heap.size := HN4.out g rfl
          have own2' := hst (-1)
          have own1' := own1.far (p := ⟨g, k, none⟩) (fun j hj => by have := HLA.out j hj; show j ≠ g; omega) (.int .i64 (-1))
          have bA' := bA.far (p := ⟨g, k, none⟩) (show w3.heap.size ≠ g by omega) (.int .i64 (-1))
          have hP' := hP.setCell (p := ⟨g, k, none⟩) (show wP.heap.size ≤ g by omega) (.int .i64 (-1))
          clear own2 own1 hst hP
          have xx0 := bA.cell; have nn0 := bA.lt
          go_wp2
          go_roundw
          case rel => exact ⟨k + 1, by omega, by go_num, ⟨_, by rw [List.length_set]; exact hys, own2'⟩, own1', bA', hP'⟩
          case measure => simp [intOf]; omega
        · have hkk : k = T.clo.length := by omega
          clear own2
          have xx0 := bA.cell; have nn0 := bA.lt
          go_wp2
          clear xx0 nn0
          go_loopw [20] (fun x wr => ∃ k : Nat, k ≤ T.rest.length ∧ x = .int .i64 k ∧ (∃ ys : List Int, ys.length = T.rest.length ∧ OwnN wr wP.heap.size A3 k3 ys) ∧ Box wr w3.heap.size #[.int .i64 T.len, .slice A3 T.rest.length k3, .slice A4 T.clo.length k4] ∧ Below wP.heap.size wP wr) (fun x _ => T.rest.length - (intOf x).toNat)
          case atStart => exact ⟨0, by omega, rfl, ⟨_, rfl, own1⟩, bA, hP⟩
          case round =>
            clear own1 bA hP hlt hkk hk
            obtain ⟨k, hk, rfl, ⟨ys, hys, own1⟩, bA, hP⟩ := hrel
            by_cases hlt : k < T.rest.length
            · obtain ⟨g, hA3, hg0, hg1, z0, z1, hst⟩ := own1.st (k := k) (by omega)
              subst hA3
              have hgn : g < w3.heap.size := HN3.out g rfl
              have own1' := hst (-1)
              have bA' := bA.far (p := ⟨g, k, none⟩) (show w3.heap.size ≠ g by omega) (.int .i64 (-1))
              have hP' := hP.setCell (p := ⟨g, k, none⟩) (show wP.heap.size ≤ g by omega) (.int .i64 (-1))
              clear own1 hst hP
              have xx0 := bA.cell; have nn0 := bA.lt
              go_wp2
              go_roundw
              case rel => exact ⟨k + 1, by omega, by go_num, ⟨_, by rw [List.length_set]; exact hys, own1'⟩, bA', hP'⟩
              case measure => simp [intOf]; omega
            · clear own1
              have xx0 := bA.cell; have nn0 := bA.lt; have xx1 := (p0.below hP).cell; have nn1 := (p0.below hP).lt; have xx2 := (po.below hP).cell; have nn2 := (po.below hP).lt
              go_wp2_with fail
              clear xx0 nn0 xx1 nn1 xx2 nn2
              refine (same_any t t Ao Ap A1 A2 ko kp c1 c2 _ (q1.below hP) (q2.below hP) (p1.below hP) (p2.below hP) (by omega) (by omega) (by omega) (by omega)).mono ?_
              rintro e wZ ⟨rfl, hbZ⟩
              rw [sameB_refl]
              go_wp2_with fail
              refine (known_any _).mono ?_
              rintro e wK ⟨rfl, hbK⟩
              go_wp2
              go_ret
              exact ⟨rfl, hy.trans ((hP.trans ((hbZ.trans (hbK.mono hbZ.size)).mono hP.size)).mono hy.size)⟩
    · have hE1 : (clE t day != 0) = true := by simp [hE]
      by_cases hG : reE t day = 0
      · have hG1 : (reE t day != 0) = false := by simp [hG]
        obtain ⟨r1, r2⟩ := re_cl hG
        rw [← HR.out] at r1 r2
        clear hE hG
        have xx0 := bA.cell; have nn0 := bA.lt
        go_wp2_with fail
        clear xx0 nn0
        refine (reopen_any T day A3 A4 k3 k4 _ gA1 gA2 (by omega) (by omega)).mono ?_
        rintro e w9 ⟨X3, x3, X4, x4, mX, rfl, -, -, -, -, hb9⟩
        replace b0 := b0.below hb9; replace bo := bo.below hb9; replace bA := bA.below hb9; replace bC := bC.below hb9; replace h1 := h1.below hb9; replace h2 := h2.below hb9; replace go1 := go1.below hb9; replace go2 := go2.below hb9; replace gA1 := gA1.below hb9; replace gA2 := gA2.below hb9; replace own1 := own1.below hb9; replace own2 := own2.below hb9; replace gC1 := gC1.below hb9; replace gC2 := gC2.below hb9
        replace hP := hP.trans (hb9.mono hP.size)
        clear hb9
        have xx0 := bC.cell; have nn0 := bC.lt
        go_wp2_with fail
        clear xx0 nn0
        have bX : Box (w9.alloc (.cells #[.int .i64 (reT T day).len, .slice X3 (reT T day).rest.length x3, .slice X4 (reT T day).clo.length x4] 24)) w9.heap.size #[.int .i64 (reT T day).len, .slice X3 (reT T day).rest.length x3, .slice X4 (reT T day).clo.length x4] := Box.new _ _ _
        replace b0 := b0.alloc (.cells #[.int .i64 (reT T day).len, .slice X3 (reT T day).rest.length x3, .slice X4 (reT T day).clo.length x4] 24); replace bo := bo.alloc (.cells #[.int .i64 (reT T day).len, .slice X3 (reT T day).rest.length x3, .slice X4 (reT T day).clo.length x4] 24); replace bA := bA.alloc (.cells #[.int .i64 (reT T day).len, .slice X3 (reT T day).rest.length x3, .slice X4 (reT T day).clo.length x4] 24); replace bC := bC.alloc (.cells #[.int .i64 (reT T day).len, .slice X3 (reT T day).rest.length x3, .slice X4 (reT T day).clo.length x4] 24); replace h1 := h1.alloc (.cells #[.int .i64 (reT T day).len, .slice X3 (reT T day).rest.length x3, .slice X4 (reT T day).clo.length x4] 24); replace h2 := h2.alloc (.cells #[.int .i64 (reT T day).len, .slice X3 (reT T day).rest.length x3, .slice X4 (reT T day).clo.length x4] 24); replace go1 := go1.alloc (.cells #[.int .i64 (reT T day).len, .slice X3 (reT T day).rest.length x3, .slice X4 (reT T day).clo.length x4] 24); replace go2 := go2.alloc (.cells #[.int .i64 (reT T day).len, .slice X3 (reT T day).rest.length x3, .slice X4 (reT T day).clo.length x4] 24); replace gA1 := gA1.alloc (.cells #[.int .i64 (reT T day).len, .slice X3 (reT T day).rest.length x3, .slice X4 (reT T day).clo.length x4] 24); replace gA2 := gA2.alloc (.cells #[.int .i64 (reT T day).len, .slice X3 (reT T day).rest.length x3, .slice X4 (reT T day).clo.length x4] 24); replace own1 := own1.alloc (.cells #[.int .i64 (reT T day).len, .slice X3 (reT T day).rest.length x3, .slice X4 (reT T day).clo.length x4] 24); replace own2 := own2.alloc (.cells #[.int .i64 (reT T day).len, .slice X3 (reT T day).rest.length x3, .slice X4 (reT T day).clo.length x4] 24); replace gC1 := gC1.alloc (.cells #[.int .i64 (reT T day).len, .slice X3 (reT T day).rest.length x3, .slice X4 (reT T day).clo.length x4] 24); replace gC2 := gC2.alloc (.cells #[.int .i64 (reT T day).len, .slice X3 (reT T day).rest.length x3, .slice X4 (reT T day).clo.length x4] 24)
        replace hP := hP.alloc hP.size (.cells #[.int .i64 (reT T day).len, .slice X3 (reT T day).rest.length x3, .slice X4 (reT T day).clo.length x4] 24)
        refine (close_any R day C3 C4 j3 j4 _ gC1 gC2 (by omega) (by omega)).mono ?_
        rintro e w10 ⟨Y3, y3, Y4, y4, mY, rfl, ob1, ob2, -, -, hb10⟩
        rw [r1, r2]
        rw [r2] at ob1 ob2
        have gY1 := RN.of_own ob1
        have gY2 := RN.of_own ob2
        clear ob1 ob2
        replace b0 := b0.below hb10; replace bo := bo.below hb10; replace bA := bA.below hb10; replace bC := bC.below hb10; replace bX := bX.below hb10; replace h1 := h1.below hb10; replace h2 := h2.below hb10; replace go1 := go1.below hb10; replace go2 := go2.below hb10; replace gA1 := gA1.below hb10; replace gA2 := gA2.below hb10; replace own1 := own1.below hb10; replace own2 := own2.below hb10; replace gC1 := gC1.below hb10; replace gC2 := gC2.below hb10
        replace hP := hP.trans (hb10.mono hP.size)
        clear hb10
        have bY : Box (w10.alloc (.cells #[.int .i64 t.len, .slice Y3 t.rest.length y3, .slice Y4 t.clo.length y4] 24)) w10.heap.size #[.int .i64 t.len, .slice Y3 t.rest.length y3, .slice Y4 t.clo.length y4] := Box.new _ _ _
        have xx0 := b0.cell; have nn0 := b0.lt
        go_wp2_with fail
        clear xx0 nn0
        replace b0 := b0.alloc (.cells #[.int .i64 t.len, .slice Y3 t.rest.length y3, .slice Y4 t.clo.length y4] 24); replace bo := bo.alloc (.cells #[.int .i64 t.len, .slice Y3 t.rest.length y3, .slice Y4 t.clo.length y4] 24); replace bA := bA.alloc (.cells #[.int .i64 t.len, .slice Y3 t.rest.length y3, .slice Y4 t.clo.length y4] 24); replace bC := bC.alloc (.cells #[.int .i64 t.len, .slice Y3 t.rest.length y3, .slice Y4 t.clo.length y4] 24); replace bX := bX.alloc (.cells #[.int .i64 t.len, .slice Y3 t.rest.length y3, .slice Y4 t.clo.length y4] 24); replace h1 := h1.alloc (.cells #[.int .i64 t.len, .slice Y3 t.rest.length y3, .slice Y4 t.clo.length y4] 24); replace h2 := h2.alloc (.cells #[.int .i64 t.len, .slice Y3 t.rest.length y3, .slice Y4 t.clo.length y4] 24); replace go1 := go1.alloc (.cells #[.int .i64 t.len, .slice Y3 t.rest.length y3, .slice Y4 t.clo.length y4] 24); replace go2 := go2.alloc (.cells #[.int .i64 t.len, .slice Y3 t.rest.length y3, .slice Y4 t.clo.length y4] 24); replace gA1 := gA1.alloc (.cells #[.int .i64 t.len, .slice Y3 t.rest.length y3, .slice Y4 t.clo.length y4] 24); replace gA2 := gA2.alloc (.cells #[.int .i64 t.len, .slice Y3 t.rest.length y3, .slice Y4 t.clo.length y4] 24); replace own1 := own1.alloc (.cells #[.int .i64 t.len, .slice Y3 t.rest.length y3, .slice Y4 t.clo.length y4] 24); replace own2 := own2.alloc (.cells #[.int .i64 t.len, .slice Y3 t.rest.length y3, .slice Y4 t.clo.length y4] 24); replace gC1 := gC1.alloc (.cells #[.int .i64 t.len, .slice Y3 t.rest.length y3, .slice Y4 t.clo.length y4] 24); replace gC2 := gC2.alloc (.cells #[.int .i64 t.len, .slice Y3 t.rest.length y3, .slice Y4 t.clo.length y4] 24); replace gY1 := gY1.alloc (.cells #[.int .i64 t.len, .slice Y3 t.rest.length y3, .slice Y4 t.clo.length y4] 24); replace gY2 := gY2.alloc (.cells #[.int .i64 t.len, .slice Y3 t.rest.length y3, .slice Y4 t.clo.length y4] 24)
        replace hP := hP.alloc hP.size (.cells #[.int .i64 t.len, .slice Y3 t.rest.length y3, .slice Y4 t.clo.length y4] 24)
        refine (same_any t t Y3 Y4 A1 A2 y3 y4 c1 c2 _ gY1 gY2 h1 h2 (by omega) (by omega) (by omega) (by omega)).mono ?_
        rintro e w11 ⟨rfl, hb11⟩
        replace b0 := b0.below hb11; replace bo := bo.below hb11; replace bA := bA.below hb11; replace bC := bC.below hb11; replace bX := bX.below hb11; replace h1 := h1.below hb11; replace h2 := h2.below hb11; replace go1 := go1.below hb11; replace go2 := go2.below hb11; replace gA1 := gA1.below hb11; replace gA2 := gA2.below hb11; replace own1 := own1.below hb11; replace own2 := own2.below hb11; replace gC1 := gC1.below hb11; replace gC2 := gC2.below hb11; replace gY1 := gY1.below hb11; replace gY2 := gY2.below hb11
        replace hP := hP.trans (hb11.mono hP.size)
        clear hb11
        rw [sameB_refl]
        have HP0 := hP
        have xx0 := bA.cell; have nn0 := bA.lt
        go_wp2
        clear xx0 nn0
        go_loopw [19] (fun x wr => ∃ k : Nat, k ≤ T.clo.length ∧ x = .int .i64 k ∧ (∃ ys : List Int, ys.length = T.clo.length ∧ OwnN wr mA A4 k4 ys) ∧ OwnN wr wP.heap.size A3 k3 T.rest ∧ Box wr w3.heap.size #[.int .i64 T.len, .slice A3 T.rest.length k3, .slice A4 T.clo.length k4] ∧ Below wP.heap.size wP wr) (fun x _ => T.clo.length - (intOf x).toNat)
        case atStart => exact ⟨0, by omega, rfl, ⟨_, rfl, own2⟩, own1, bA, hP⟩
        case round =>
          clear own2 own1 bA hP HP0
          obtain ⟨k, hk, rfl, ⟨ys, hys, own2⟩, own1, bA, hP⟩ := hrel
          by_cases hlt : k < T.clo.length
          · obtain ⟨g, hA4, hg0, hg1, z0, z1, hst⟩ := own2.st (k := k) (by omega)
            subst hA4
            have hgn : g < w3.heap.size := HN4.out g rfl
            have own2' := hst (-1)
            have own1' := own1.far (p := ⟨g, k, none⟩) (fun j hj => by have := HLA.out j hj; show j ≠ g; omega) (.int .i64 (-1))
            have bA' := bA.far (p := ⟨g, k, none⟩) (show w3.heap.size ≠ g by omega) (.int .i64 (-1))
            have hP' := hP.setCell (p := ⟨g, k, none⟩) (show wP.heap.size ≤ g by omega) (.int .i64 (-1))
            clear own2 own1 hst hP
            have xx0 := bA.cell; have nn0 := bA.lt
            go_wp2
            go_roundw
            case rel => exact ⟨k + 1, by omega, by go_num, ⟨_, by rw [List.length_set]; exact hys, own2'⟩, own1', bA', hP'⟩
            case measure => simp [intOf]; omega
          · have hkk : k = T.clo.length := by omega
            clear own2
            have xx0 := bA.cell; have nn0 := bA.lt
            go_wp2
            clear xx0 nn0
            go_loopw [20] (fun x wr => ∃ k : Nat, k ≤ T.rest.length ∧ x = .int .i64 k ∧ (∃ ys : List Int, ys.length = T.rest.length ∧ OwnN wr wP.heap.size A3 k3 ys) ∧ Box wr w3.heap.size #[.int .i64 T.len, .slice A3 T.rest.length k3, .slice A4 T.clo.length k4] ∧ Below wP.heap.size wP wr) (fun x _ => T.rest.length - (intOf x).toNat)
            case atStart => exact ⟨0, by omega, rfl, ⟨_, rfl, own1⟩, bA, hP⟩
            case round =>
              clear own1 bA hP hlt hkk hk
              obtain ⟨k, hk, rfl, ⟨ys, hys, own1⟩, bA, hP⟩ := hrel
              by_cases hlt : k < T.rest.length
              · obtain ⟨g, hA3, hg0, hg1, z0, z1, hst⟩ := own1.st (k := k) (by omega)
                subst hA3
                have hgn : g < w3.heap.size := HN3.out g rfl
                have own1' := hst (-1)
                have bA' := bA.far (p := ⟨g, k, none⟩) (show w3.heap.size ≠ g by omega) (.int .i64 (-1))
                have hP' := hP.setCell (p := ⟨g, k, none⟩) (show wP.heap.size ≤ g by omega) (.int .i64 (-1))
                clear own1 hst hP
                have xx0 := bA.cell; have nn0 := bA.lt
                go_wp2
                go_roundw
                case rel => exact ⟨k + 1, by omega, by go_num, ⟨_, by rw [List.length_set]; exact hys, own1'⟩, bA', hP'⟩
                case measure => simp [intOf]; omega
              · clear own1
                have xx0 := bA.cell; have nn0 := bA.lt; have xx1 := (p0.below hP).cell; have nn1 := (p0.below hP).lt; have xx2 := (po.below hP).cell; have nn2 := (po.below hP).lt
                go_wp2_with fail
                clear xx0 nn0 xx1 nn1 xx2 nn2
                refine (same_any t t Ao Ap A1 A2 ko kp c1 c2 _ (q1.below hP) (q2.below hP) (p1.below hP) (p2.below hP) (by omega) (by omega) (by omega) (by omega)).mono ?_
                rintro e wZ ⟨rfl, hbZ⟩
                rw [sameB_refl]
                go_wp2_with fail
                refine (known_any _).mono ?_
                rintro e wK ⟨rfl, hbK⟩
                go_wp2
                go_ret
                exact ⟨rfl, hy.trans ((hP.trans ((hbZ.trans (hbK.mono hbZ.size)).mono hP.size)).mono hy.size)⟩
      · have hG1 : (reE t day != 0) = true := by simp [hG]
        clear hE hG
        have xx0 := bA.cell; have nn0 := bA.lt
        go_wp2_with fail
        clear xx0 nn0
        refine (reopen_any T day A3 A4 k3 k4 _ gA1 gA2 (by omega) (by omega)).mono ?_
        rintro e w9 ⟨X3, x3, X4, x4, mX, rfl, -, -, -, -, hb9⟩
        replace b0 := b0.below hb9; replace bo := bo.below hb9; replace bA := bA.below hb9; replace bC := bC.below hb9; replace h1 := h1.below hb9; replace h2 := h2.below hb9; replace go1 := go1.below hb9; replace go2 := go2.below hb9; replace gA1 := gA1.below hb9; replace gA2 := gA2.below hb9; replace own1 := own1.below hb9; replace own2 := own2.below hb9; replace gC1 := gC1.below hb9; replace gC2 := gC2.below hb9
        replace hP := hP.trans (hb9.mono hP.size)
        clear hb9
        have xx0 := bC.cell; have nn0 := bC.lt
        go_wp2_with fail
        clear xx0 nn0
        have bX : Box (w9.alloc (.cells #[.int .i64 (reT T day).len, .slice X3 (reT T day).rest.length x3, .slice X4 (reT T day).clo.length x4] 24)) w9.heap.size #[.int .i64 (reT T day).len, .slice X3 (reT T day).rest.length x3, .slice X4 (reT T day).clo.length x4] := Box.new _ _ _
        replace b0 := b0.alloc (.cells #[.int .i64 (reT T day).len, .slice X3 (reT T day).rest.length x3, .slice X4 (reT T day).clo.length x4] 24); replace bo := bo.alloc (.cells #[.int .i64 (reT T day).len, .slice X3 (reT T day).rest.length x3, .slice X4 (reT T day).clo.length x4] 24); replace bA := bA.alloc (.cells #[.int .i64 (reT T day).len, .slice X3 (reT T day).rest.length x3, .slice X4 (reT T day).clo.length x4] 24); replace bC := bC.alloc (.cells #[.int .i64 (reT T day).len, .slice X3 (reT T day).rest.length x3, .slice X4 (reT T day).clo.length x4] 24); replace h1 := h1.alloc (.cells #[.int .i64 (reT T day).len, .slice X3 (reT T day).rest.length x3, .slice X4 (reT T day).clo.length x4] 24); replace h2 := h2.alloc (.cells #[.int .i64 (reT T day).len, .slice X3 (reT T day).rest.length x3, .slice X4 (reT T day).clo.length x4] 24); replace go1 := go1.alloc (.cells #[.int .i64 (reT T day).len, .slice X3 (reT T day).rest.length x3, .slice X4 (reT T day).clo.length x4] 24); replace go2 := go2.alloc (.cells #[.int .i64 (reT T day).len, .slice X3 (reT T day).rest.length x3, .slice X4 (reT T day).clo.length x4] 24); replace gA1 := gA1.alloc (.cells #[.int .i64 (reT T day).len, .slice X3 (reT T day).rest.length x3, .slice X4 (reT T day).clo.length x4] 24); replace gA2 := gA2.alloc (.cells #[.int .i64 (reT T day).len, .slice X3 (reT T day).rest.length x3, .slice X4 (reT T day).clo.length x4] 24); replace own1 := own1.alloc (.cells #[.int .i64 (reT T day).len, .slice X3 (reT T day).rest.length x3, .slice X4 (reT T day).clo.length x4] 24); replace own2 := own2.alloc (.cells #[.int .i64 (reT T day).len, .slice X3 (reT T day).rest.length x3, .slice X4 (reT T day).clo.length x4] 24); replace gC1 := gC1.alloc (.cells #[.int .i64 (reT T day).len, .slice X3 (reT T day).rest.length x3, .slice X4 (reT T day).clo.length x4] 24); replace gC2 := gC2.alloc (.cells #[.int .i64 (reT T day).len, .slice X3 (reT T day).rest.length x3, .slice X4 (reT T day).clo.length x4] 24)
        replace hP := hP.alloc hP.size (.cells #[.int .i64 (reT T day).len, .slice X3 (reT T day).rest.length x3, .slice X4 (reT T day).clo.length x4] 24)
        refine (close_any R day C3 C4 j3 j4 _ gC1 gC2 (by omega) (by omega)).mono ?_
        rintro e w10 ⟨Y3, y3, Y4, y4, mY, rfl, -, -, -, -, hb10⟩
        replace b0 := b0.below hb10; replace bo := bo.below hb10; replace bA := bA.below hb10; replace bC := bC.below hb10; replace bX := bX.below hb10; replace h1 := h1.below hb10; replace h2 := h2.below hb10; replace go1 := go1.below hb10; replace go2 := go2.below hb10; replace gA1 := gA1.below hb10; replace gA2 := gA2.below hb10; replace own1 := own1.below hb10; replace own2 := own2.below hb10; replace gC1 := gC1.below hb10; replace gC2 := gC2.below hb10
        replace hP := hP.trans (hb10.mono hP.size)
        clear hb10
        replace b0 := b0.alloc (.cells #[.int .i64 (clT R day).len, .slice Y3 (clT R day).rest.length y3, .slice Y4 (clT R day).clo.length y4] 24); replace bo := bo.alloc (.cells #[.int .i64 (clT R day).len, .slice Y3 (clT R day).rest.length y3, .slice Y4 (clT R day).clo.length y4] 24); replace bA := bA.alloc (.cells #[.int .i64 (clT R day).len, .slice Y3 (clT R day).rest.length y3, .slice Y4 (clT R day).clo.length y4] 24); replace bC := bC.alloc (.cells #[.int .i64 (clT R day).len, .slice Y3 (clT R day).rest.length y3, .slice Y4 (clT R day).clo.length y4] 24); replace bX := bX.alloc (.cells #[.int .i64 (clT R day).len, .slice Y3 (clT R day).rest.length y3, .slice Y4 (clT R day).clo.length y4] 24); replace h1 := h1.alloc (.cells #[.int .i64 (clT R day).len, .slice Y3 (clT R day).rest.length y3, .slice Y4 (clT R day).clo.length y4] 24); replace h2 := h2.alloc (.cells #[.int .i64 (clT R day).len, .slice Y3 (clT R day).rest.length y3, .slice Y4 (clT R day).clo.length y4] 24); replace go1 := go1.alloc (.cells #[.int .i64 (clT R day).len, .slice Y3 (clT R day).rest.length y3, .slice Y4 (clT R day).clo.length y4] 24); replace go2 := go2.alloc (.cells #[.int .i64 (clT R day).len, .slice Y3 (clT R day).rest.length y3, .slice Y4 (clT R day).clo.length y4] 24); replace gA1 := gA1.alloc (.cells #[.int .i64 (clT R day).len, .slice Y3 (clT R day).rest.length y3, .slice Y4 (clT R day).clo.length y4] 24); replace gA2 := gA2.alloc (.cells #[.int .i64 (clT R day).len, .slice Y3 (clT R day).rest.length y3, .slice Y4 (clT R day).clo.length y4] 24); replace own1 := own1.alloc (.cells #[.int .i64 (clT R day).len, .slice Y3 (clT R day).rest.length y3, .slice Y4 (clT R day).clo.length y4] 24); replace own2 := own2.alloc (.cells #[.int .i64 (clT R day).len, .slice Y3 (clT R day).rest.length y3, .slice Y4 (clT R day).clo.length y4] 24); replace gC1 := gC1.alloc (.cells #[.int .i64 (clT R day).len, .slice Y3 (clT R day).rest.length y3, .slice Y4 (clT R day).clo.length y4] 24); replace gC2 := gC2.alloc (.cells #[.int .i64 (clT R day).len, .slice Y3 (clT R day).rest.length y3, .slice Y4 (clT R day).clo.length y4] 24)
        replace hP := hP.alloc hP.size (.cells #[.int .i64 (clT R day).len, .slice Y3 (clT R day).rest.length y3, .slice Y4 (clT R day).clo.length y4] 24)
        have HP0 := hP
        have xx0 := bA.cell; have nn0 := bA.lt
        go_wp2
        clear xx0 nn0
        go_loopw [19] (fun x wr => ∃ k : Nat, k ≤ T.clo.length ∧ x = .int .i64 k ∧ (∃ ys : List Int, ys.length = T.clo.length ∧ OwnN wr mA A4 k4 ys) ∧ OwnN wr wP.heap.size A3 k3 T.rest ∧ Box wr w3.heap.size #[.int .i64 T.len, .slice A3 T.rest.length k3, .slice A4 T.clo.length k4] ∧ Below wP.heap.size wP wr) (fun x _ => T.clo.length - (intOf x).toNat)
        case atStart => exact ⟨0, by omega, rfl, ⟨_, rfl, own2⟩, own1, bA, hP⟩
        case round =>
          clear own2 own1 bA hP HP0
          obtain ⟨k, hk, rfl, ⟨ys, hys, own2⟩, own1, bA, hP⟩ := hrel
          by_cases hlt : k < T.clo.length
          · obtain ⟨g, hA4, hg0, hg1, z0, z1, hst⟩ := own2.st (k := k) (by omega)
            subst hA4
            have hgn : g < w3.heap.size := HN4.out g rfl
            have own2' := hst (-1)
            have own1' := own1.far (p := ⟨g, k, none⟩) (fun j hj => by have := HLA.out j hj; show j ≠ g; omega) (.int .i64 (-1))
            have bA' := bA.far (p := ⟨g, k, none⟩) (show w3.heap.size ≠ g by omega) (.int .i64 (-1))
            have hP' := hP.setCell (p := ⟨g, k, none⟩) (show wP.heap.size ≤ g by omega) (.int .i64 (-1))
            clear own2 own1 hst hP
            have xx0 := bA.cell; have nn0 := bA.lt
            go_wp2
            go_roundw
            case rel => exact ⟨k + 1, by omega, by go_num, ⟨_, by rw [List.length_set]; exact hys, own2'⟩, own1', bA', hP'⟩
            case measure => simp [intOf]; omega
          · have hkk : k = T.clo.length := by omega
            clear own2
            have xx0 := bA.cell; have nn0 := bA.lt
            go_wp2
            clear xx0 nn0
            go_loopw [20] (fun x wr => ∃ k : Nat, k ≤ T.rest.length ∧ x = .int .i64 k ∧ (∃ ys : List Int, ys.length = T.rest.length ∧ OwnN wr wP.heap.size A3 k3 ys) ∧ Box wr w3.heap.size #[.int .i64 T.len, .slice A3 T.rest.length k3, .slice A4 T.clo.length k4] ∧ Below wP.heap.size wP wr) (fun x _ => T.rest.length - (intOf x).toNat)
            case atStart => exact ⟨0, by omega, rfl, ⟨_, rfl, own1⟩, bA, hP⟩
            case round =>
              clear own1 bA hP hlt hkk hk
              obtain ⟨k, hk, rfl, ⟨ys, hys, own1⟩, bA, hP⟩ := hrel
              by_cases hlt : k < T.rest.length
              · obtain ⟨g, hA3, hg0, hg1, z0, z1, hst⟩ := own1.st (k := k) (by omega)
                subst hA3
                have hgn : g < w3.heap.size := HN3.out g rfl
                have own1' := hst (-1)
                have bA' := bA.far (p := ⟨g, k, none⟩) (show w3.heap.size ≠ g by omega) (.int .i64 (-1))
                have hP' := hP.setCell (p := ⟨g, k, none⟩) (show wP.heap.size ≤ g by omega) (.int .i64 (-1))
                clear own1 hst hP
                have xx0 := bA.cell; have nn0 := bA.lt
                go_wp2
                go_roundw
                case rel => exact ⟨k + 1, by omega, by go_num, ⟨_, by rw [List.length_set]; exact hys, own1'⟩, bA', hP'⟩
                case measure => simp [intOf]; omega
              · clear own1
                have xx0 := bA.cell; have nn0 := bA.lt; have xx1 := (p0.below hP).cell; have nn1 := (p0.below hP).lt; have xx2 := (po.below hP).cell; have nn2 := (po.below hP).lt
                go_wp2_with fail
                clear xx0 nn0 xx1 nn1 xx2 nn2
                refine (same_any t t Ao Ap A1 A2 ko kp c1 c2 _ (q1.below hP) (q2.below hP) (p1.below hP) (p2.below hP) (by omega) (by omega) (by omega) (by omega)).mono ?_
                rintro e wZ ⟨rfl, hbZ⟩
                rw [sameB_refl]
                go_wp2_with fail
                refine (known_any _).mono ?_
                rintro e wK ⟨rfl, hbK⟩
                go_wp2
                go_ret
                exact ⟨rfl, hy.trans ((hP.trans ((hbZ.trans (hbK.mono hbZ.size)).mono hP.size)).mono hy.size)⟩
end Go.Proofs.Ytecjmpaomebdbaa
