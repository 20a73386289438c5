/-
  Walks: the cycle that begins with a later menu.
-/
import Derived.Test.YtecjmpaomebdbaaMenusW
import Derived.StillTailTactics
namespace Go.Proofs.Ytecjmpaomebdbaa
set_option linter.unusedVariables false
set_option linter.unusedSimpArgs false
open Go.RowKit

/-- The cycle that begins with a later menu. -/
def turnC (c : Cy) (by_ : Int) : Cy := if cE c = 0 then ⟨c.n, (c.f + by_ % c.n) % c.n, c.k⟩ else ⟨0, 0, 0⟩
theorem turn_yes {c : Cy} {b : Int} (h : cE c = 0) : turnC c b = ⟨c.n, (c.f + b % c.n) % c.n, c.k⟩ := by unfold turnC; rw [if_pos h]
theorem turn_no {c : Cy} {b : Int} (h : ¬ cE c = 0) : turnC c b = ⟨0, 0, 0⟩ := by unfold turnC; rw [if_neg h]

theorem two_frozen {w wr : World} {cs1 cs2 : Array Value} {t1 t2 : TypeId} {n : Nat} (hb : Below n ((w.alloc (.cells cs1 t1)).alloc (.cells cs2 t2)) wr) (hn : w.heap.size + 1 < n) :
    (∀ j, wr.frozen? ⟨w.heap.size, j, none⟩ = false) ∧ (∀ j, wr.frozen? ⟨w.heap.size + 1, j, none⟩ = false) := by
  refine ⟨fun j => ?_, fun j => ?_⟩
  · rw [hb.frozen (p := ⟨w.heap.size, j, none⟩) (by show w.heap.size < n; omega)]; simp [go_sem]
  · rw [hb.frozen (p := ⟨w.heap.size + 1, j, none⟩) hn]; simp [go_sem]

set_option maxRecDepth 100000 in
set_option maxHeartbeats 800000 in
theorem turn_any (c : Cy) (b : Int) (w : World) :
    Calls Try.prog 37 #[.agg #[.int .i64 c.n, .int .i64 c.f, .int .i64 c.k], .int .i64 b] w fun e w' => e = .returned (.tuple #[.agg #[.int .i64 (turnC c b).n, .int .i64 (turnC c b).f, .int .i64 (turnC c b).k], .int .i64 (cE c)]) ∧ Below w.heap.size w w' := by
  obtain ⟨T, hT⟩ : ∃ T, T = turnC c b := ⟨_, rfl⟩
  rw [← hT]
  have HT := Lib.hid hT
  clear hT
  have hx0 : Below (w.heap.size + 2) ((w.alloc (.cells #[.int .i64 c.n, .int .i64 c.f, .int .i64 c.k] 26)).alloc (.cells #[.int .i64 0, .int .i64 0, .int .i64 0] 26)) ((w.alloc (.cells #[.int .i64 c.n, .int .i64 c.f, .int .i64 c.k] 26)).alloc (.cells #[.int .i64 0, .int .i64 0, .int .i64 0] 26)) := Below.refl _ _
  go_enter Try.func37, Try.ntmps37
  go_wp2_with fail
  refine (cvalidate_any c _).mono ?_
  rintro e w1 ⟨rfl, hb1⟩
  have hx1 := hx0.trans (hb1.mono (by simp))
  clear hx0 hb1
  obtain ⟨bx, bY, _, hb⟩ := two_blk hx1 (by omega)
  have bf := two_frozen hx1 (by omega)
  by_cases h0 : cE c = 0
  · have h0' : (cE c != 0) = false := by simp [h0]
    obtain ⟨m1, m2, f0, f1, hkk⟩ := CyOk.of h0
    have hTv := HT.out.trans (turn_yes (b := b) h0)
    have H0 := Lib.hid h0
    have HTV := Lib.hid hTv
    have q0 := Int.emod_nonneg b (show c.n ≠ 0 by omega)
    have q1 := Int.emod_lt_of_pos b (show 0 < c.n by omega)
    obtain ⟨bf1, bf2⟩ := bf
    have c0 : w1.cell? ⟨w.heap.size, 0, none⟩ = some (.int .i64 c.n) := by rw [bx]; rfl
    have c1 : w1.cell? ⟨w.heap.size, 1, none⟩ = some (.int .i64 c.f) := by rw [bx]; rfl
    have c2 : w1.cell? ⟨w.heap.size, 2, none⟩ = some (.int .i64 c.k) := by rw [bx]; rfl
    have e1 : IntKind.i64.wrap (c.f + b % c.n) = c.f + b % c.n := IntWalk.i64_in _ (by omega)
    have e2 : ¬ c.n = 0 := by omega
    have e3 : 0 ≤ c.f + b % c.n := by omega
    have e4 : (c.f + b % c.n).tmod c.n = (c.f + b % c.n) % c.n := Int.tmod_eq_emod_of_nonneg e3
    clear h0 hTv hkk bx
    go_wp2_with fail
    go_still_tail 11, (by kernel_rfl)
    still_call (mod_any _ _ _ (by omega) (by omega))
    repeat still_step
    refine wpStill_nil ?_
    clear e1 e2 e4
    change wpList _ _ _ _ _ w1.drew
    go_wp2_with fail
    exact bodyPost_ret (v := .tuple #[.agg #[.int .i64 c.n, .int .i64 ((c.f + b) % c.n), .int .i64 c.k], .int .i64 0]) (by simp [results, Try.results37, go_sem, bf2, bY]) rfl ⟨by rw [HTV.out, H0.out, Int.add_emod_emod], by go_grown⟩
  · have h0' : (cE c != 0) = true := by simp [h0]
    have hTv := HT.out.trans (turn_no (b := b) h0)
    have HTV := Lib.hid hTv
    obtain ⟨bf1, bf2⟩ := bf
    clear h0 hTv
    go_wp2
    exact bodyPost_ret (v := .tuple #[.agg #[.int .i64 0, .int .i64 0, .int .i64 0], .int .i64 (cE c)]) (by simp [results, Try.results37, go_sem, bf2, bY]) rfl ⟨by rw [HTV.out], by go_grown⟩

set_option maxRecDepth 100000 in
set_option maxHeartbeats 800000 in
theorem rturn_any (c : Cy) (b : Int) (w : World) :
    Calls Try.prog 38 #[.agg #[.int .i64 c.n, .int .i64 c.f, .int .i64 c.k], .int .i64 b] w fun e w' => e = .returned (.tuple #[.agg #[.int .i64 (turnC c b).n, .int .i64 (turnC c b).f, .int .i64 (turnC c b).k], .int .i64 (cE c)]) ∧ Below w.heap.size w w' := by
  obtain ⟨T, hT⟩ : ∃ T, T = turnC c b := ⟨_, rfl⟩
  rw [← hT]
  have HT := Lib.hid hT
  clear hT
  have hx0 : Below (w.heap.size + 2) ((w.alloc (.cells #[.int .i64 c.n, .int .i64 c.f, .int .i64 c.k] 26)).alloc (.cells #[.int .i64 0, .int .i64 0, .int .i64 0] 26)) ((w.alloc (.cells #[.int .i64 c.n, .int .i64 c.f, .int .i64 c.k] 26)).alloc (.cells #[.int .i64 0, .int .i64 0, .int .i64 0] 26)) := Below.refl _ _
  go_enter Try.func38, Try.ntmps38
  go_wp2_with fail
  refine (rcvalidate_any c _).mono ?_
  rintro e w1 ⟨rfl, hb1⟩
  have hx1 := hx0.trans (hb1.mono (by simp))
  clear hx0 hb1
  obtain ⟨bx, bY, _, hb⟩ := two_blk hx1 (by omega)
  have bf := two_frozen hx1 (by omega)
  by_cases h0 : cE c = 0
  · have h0' : (cE c != 0) = false := by simp [h0]
    obtain ⟨m1, m2, f0, f1, hkk⟩ := CyOk.of h0
    have hTv := HT.out.trans (turn_yes (b := b) h0)
    have H0 := Lib.hid h0
    have HTV := Lib.hid hTv
    have q0 := Int.emod_nonneg b (show c.n ≠ 0 by omega)
    have q1 := Int.emod_lt_of_pos b (show 0 < c.n by omega)
    obtain ⟨bf1, bf2⟩ := bf
    have c0 : w1.cell? ⟨w.heap.size, 0, none⟩ = some (.int .i64 c.n) := by rw [bx]; rfl
    have c1 : w1.cell? ⟨w.heap.size, 1, none⟩ = some (.int .i64 c.f) := by rw [bx]; rfl
    have c2 : w1.cell? ⟨w.heap.size, 2, none⟩ = some (.int .i64 c.k) := by rw [bx]; rfl
    have e1 : IntKind.i64.wrap (c.f + b % c.n) = c.f + b % c.n := IntWalk.i64_in _ (by omega)
    have e2 : ¬ c.n = 0 := by omega
    have e3 : 0 ≤ c.f + b % c.n := by omega
    have e4 : (c.f + b % c.n).tmod c.n = (c.f + b % c.n) % c.n := Int.tmod_eq_emod_of_nonneg e3
    clear h0 hTv hkk bx
    go_wp2_with fail
    go_still_tail 11, (by kernel_rfl)
    still_call (modulo_any _ _ _ (by omega) (by omega))
    repeat still_step
    refine wpStill_nil ?_
    clear e1 e2 e4
    change wpList _ _ _ _ _ w1.drew
    go_wp2_with fail
    exact bodyPost_ret (v := .tuple #[.agg #[.int .i64 c.n, .int .i64 ((c.f + b) % c.n), .int .i64 c.k], .int .i64 0]) (by simp [results, Try.results38, go_sem, bf2, bY]) rfl ⟨by rw [HTV.out, H0.out, Int.add_emod_emod], by go_grown⟩
  · have h0' : (cE c != 0) = true := by simp [h0]
    have hTv := HT.out.trans (turn_no (b := b) h0)
    have HTV := Lib.hid hTv
    obtain ⟨bf1, bf2⟩ := bf
    clear h0 hTv
    go_wp2
    exact bodyPost_ret (v := .tuple #[.agg #[.int .i64 0, .int .i64 0, .int .i64 0], .int .i64 (cE c)]) (by simp [results, Try.results38, go_sem, bf2, bY]) rfl ⟨by rw [HTV.out], by go_grown⟩

end Go.Proofs.Ytecjmpaomebdbaa
