/-
  The walks of the laws TermMenus and TermSolves.
-/
import Derived.Test.YtecjmpaomebdbaaI
namespace Go.Proofs.Ytecjmpaomebdbaa
set_option linter.unusedVariables false
set_option linter.unusedSimpArgs false
open Go.RowKit

def longB (t : Tm) : Bool := decide (50 < t.rest.length) || decide (200 < t.clo.length)
theorem long_any (t : Tm) (A1 A2 : Option Addr) (c1 c2 : Nat) (w : World) :
    Calls Try.prog 17 #[.agg #[.int .i64 t.len, .slice A1 t.rest.length c1, .slice A2 t.clo.length c2]] w fun e w' => e = .returned (.bool (longB t)) ∧ Below w.heap.size w w' := by
  have hb0 : Below w.heap.size w (w.alloc (.cells #[.int .i64 t.len, .slice A1 t.rest.length c1, .slice A2 t.clo.length c2] 24)) := (Below.refl _ _).alloc (Nat.le_refl _) _
  obtain ⟨S, hS⟩ : ∃ S, S = longB t := ⟨_, rfl⟩
  rw [← hS]
  by_cases h1 : 50 < t.rest.length
  · have hv : S = true := by rw [hS, longB, decide_eq_true h1]; rfl
    have HV := Lib.hid hv
    clear hv hS
    go_enter Try.func17, Try.ntmps17
    go_wp2
    go_ret
    exact ⟨ret_bool (by rw [HV.out]), hb0⟩
  · by_cases h2 : 200 < t.clo.length
    · have hv : S = true := by rw [hS, longB, decide_eq_true h2, Bool.or_true]
      have HV := Lib.hid hv
      clear hv hS
      go_enter Try.func17, Try.ntmps17
      go_wp2
      go_ret
      exact ⟨ret_bool (by rw [HV.out]; simp; omega), hb0⟩
    · have hv : S = false := by rw [hS, longB, decide_eq_false h1, decide_eq_false h2]; rfl
      have HV := Lib.hid hv
      clear hv hS
      go_enter Try.func17, Try.ntmps17
      go_wp2
      go_ret
      exact ⟨ret_bool (by rw [HV.out]; simp; omega), hb0⟩
theorem longB_no {t : Tm} (h : longB t = false) : t.rest.length ≤ 50 ∧ t.clo.length ≤ 200 := by
  simp [longB] at h; omega

set_option maxRecDepth 100000 in
set_option maxHeartbeats 800000 in
theorem termMenus_any (t : Tm) (A1 A2 : Option Addr) (c1 c2 : Nat) (c : Cy) (d : Int) (w : World) (h1 : RN w A1 t.rest) (h2 : RN w A2 t.clo) :
    Calls Try.prog 3 #[.agg #[.int .i64 t.len, .slice A1 t.rest.length c1, .slice A2 t.clo.length c2], .agg #[.int .i64 c.n, .int .i64 c.f, .int .i64 c.k], .int .i64 d] w fun e w' => e = .returned (.bool true) ∧ Below w.heap.size w w' := by
  have hx0 : Below (w.heap.size + 2) ((w.alloc (.cells #[.int .i64 t.len, .slice A1 t.rest.length c1, .slice A2 t.clo.length c2] 24)).alloc (.cells #[.int .i64 c.n, .int .i64 c.f, .int .i64 c.k] 26)) ((w.alloc (.cells #[.int .i64 t.len, .slice A1 t.rest.length c1, .slice A2 t.clo.length c2] 24)).alloc (.cells #[.int .i64 c.n, .int .i64 c.f, .int .i64 c.k] 26)) := Below.refl _ _
  go_enter Try.func3, Try.ntmps3
  go_wp2_with fail
  refine (long_any t A1 A2 c1 c2 _).mono ?_
  rintro e w1 ⟨rfl, hb1⟩
  have hx1 := hx0.trans (hb1.mono (by simp))
  clear hx0 hb1
  obtain ⟨bx, bY, _, hb⟩ := two_blk hx1 (by omega)
  cases hlg : longB t with
  | true =>
    go_wp2_with fail
    refine (known_any _).mono ?_
    rintro e w2 ⟨rfl, hb2⟩
    go_wp2
    go_ret
    exact ⟨rfl, hb.trans (hb2.mono hb.size)⟩
  | false =>
    obtain ⟨l1, l2⟩ := longB_no hlg
    go_wp2_with fail
    refine (menu_any c d t A1 A2 c1 c2 _ (h1.below hb) (h2.below hb) (by omega) (by omega)).mono ?_
    rintro e w2 ⟨rfl, hb2⟩
    have hx2 := two_step hx1 hb2
    clear hx1 hb2 bx bY hb
    obtain ⟨bx, bY, _, hb⟩ := two_blk hx2 (by omega)
    go_wp2_with fail
    refine (rmenu_any c d t A1 A2 c1 c2 _ (h1.below hb) (h2.below hb) (by omega) (by omega)).mono ?_
    rintro e w3 ⟨rfl, hb3⟩
    have hx3 := two_step hx2 hb3
    clear hx2 hb3 bx bY hb
    obtain ⟨bx, bY, _, hb⟩ := two_blk hx3 (by omega)
    go_wp2_with fail
    refine (known_any _).mono ?_
    rintro e w4 ⟨rfl, hb4⟩
    go_wp2
    go_ret
    exact ⟨rfl, hb.trans (hb4.mono hb.size)⟩

set_option maxRecDepth 100000 in
set_option maxHeartbeats 800000 in
theorem termSolves_any (l : List Ln) (A : Option Addr) (c : Nat) (w : World) (hR : RL w A l) :
    Calls Try.prog 5 #[.slice A l.length c] w fun e w' => e = .returned (.bool true) ∧ Below w.heap.size w w' := by
  by_cases h100 : 100 < l.length
  · go_enter Try.func5, Try.ntmps5
    go_wp2_with fail
    refine (known_any _).mono ?_
    rintro e w2 ⟨rfl, hb2⟩
    go_wp2
    go_ret
    exact ⟨rfl, hb2⟩
  · go_enter Try.func5, Try.ntmps5
    go_wp2_with fail
    refine (solve_any l (by omega) A c _ hR).mono ?_
    rintro e w1 ⟨a, m, ok, rfl, hs, hb1⟩
    go_wp2_with fail
    refine (rsolve_any l (by omega) A c _ (hR.below hb1)).mono ?_
    rintro e w2 ⟨a', m', ok', rfl, hs', hb2⟩
    obtain ⟨rfl, rfl, rfl⟩ := hs.same hs'
    have hy2 := hb1.trans (hb2.mono hb1.size)
    clear hs hs'
    cases ok
    all_goals
      go_wp2_with fail
      refine (known_any _).mono ?_
      rintro e w3 ⟨rfl, hb3⟩
      go_wp2
      go_ret
      exact ⟨rfl, hy2.trans (hb3.mono hy2.size)⟩

end Go.Proofs.Ytecjmpaomebdbaa
