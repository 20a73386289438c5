/-
  The walks of the laws TermMenus and TermSolves.
-/
import Derived.Test.YtlnmmkgeahlohaaDoorI
namespace Go.Proofs.YtlnmmkgeahlohaaDoor
set_option linter.unusedVariables false
set_option linter.unusedSimpArgs false
open Go.RowKit

def longB (t : Tm) : Bool := decide (50 < t.rest.length) || decide (200 < t.clo.length)
theorem long_any (t : Tm) (A1 A2 : Option Addr) (c1 c2 : Nat) (w : World) :
    Calls Tryd.prog 4 #[.agg #[.int .i64 t.len, .slice A1 t.rest.length c1, .slice A2 t.clo.length c2]] w fun e w' => e = .returned (.bool (longB t)) ∧ Below w.heap.size w w' := by
  have hb0 : Below w.heap.size w (w.alloc (.cells #[.int .i64 t.len, .slice A1 t.rest.length c1, .slice A2 t.clo.length c2] 24)) := (Below.refl _ _).alloc (Nat.le_refl _) _
  obtain ⟨S, hS⟩ : ∃ S, S = longB t := ⟨_, rfl⟩
  rw [← hS]
  by_cases h1 : 50 < t.rest.length
  · have hv : S = true := by rw [hS, longB, decide_eq_true h1]; rfl
    have HV := Lib.hid hv
    clear hv hS
    go_enter Tryd.func4, Tryd.ntmps4
    go_wp2
    go_ret
    exact ⟨ret_bool (by rw [HV.out]), hb0⟩
  · by_cases h2 : 200 < t.clo.length
    · have hv : S = true := by rw [hS, longB, decide_eq_true h2, Bool.or_true]
      have HV := Lib.hid hv
      clear hv hS
      go_enter Tryd.func4, Tryd.ntmps4
      go_wp2
      go_ret
      exact ⟨ret_bool (by rw [HV.out]; simp; omega), hb0⟩
    · have hv : S = false := by rw [hS, longB, decide_eq_false h1, decide_eq_false h2]; rfl
      have HV := Lib.hid hv
      clear hv hS
      go_enter Tryd.func4, Tryd.ntmps4
      go_wp2
      go_ret
      exact ⟨ret_bool (by rw [HV.out]; simp; omega), hb0⟩
theorem longB_no {t : Tm} (h : longB t = false) : t.rest.length ≤ 50 ∧ t.clo.length ≤ 200 := by
  simp [longB] at h; omega

end Go.Proofs.YtlnmmkgeahlohaaDoor
