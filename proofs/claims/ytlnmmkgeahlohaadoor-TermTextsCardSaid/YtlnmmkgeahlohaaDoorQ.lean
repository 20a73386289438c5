/-
  Walks: how many menus are lost; equal lists.
-/
import Derived.Test.YtlnmmkgeahlohaaDoorP
namespace Go.Proofs.YtlnmmkgeahlohaaDoor
set_option linter.unusedVariables false
set_option linter.unusedSimpArgs false
open Go.RowKit

set_option maxHeartbeats 800000 in
theorem sameInts_any (l m : List Int) (A A' : Option Addr) (c c' : Nat) (w : World) (hl : RN w A l) (hm : RN w A' m) (hb : l.length ≤ 1000000000) (hb' : m.length ≤ 1000000000) :
    Calls Tryd.prog 23 #[.slice A l.length c, .slice A' m.length c'] w fun e w' => e = .returned (.bool (decide (l = m))) ∧ Below w.heap.size w w' := by
  by_cases hlen : l.length = m.length
  · have hlen' : ((l.length : Int) != (m.length : Int)) = false := by simp [hlen]
    have HL := Lib.hid hlen; clear hlen
    go_enter Tryd.func23, Tryd.ntmps23
    go_wp2
    go_loopw [5] (fun x wr => ∃ k : Nat, k ≤ l.length ∧ x = .int .i64 k ∧ eqIn l m k ∧ Below w.heap.size w wr) (fun x _ => l.length - (intOf x).toNat)
    case atStart => exact ⟨0, by omega, rfl, fun i hi => by omega, Below.refl _ _⟩
    case round =>
      obtain ⟨k, hk, rfl, he, hbl⟩ := hrel
      by_cases hlt : k < l.length
      · have hlt' : k < m.length := by rw [← HL.out]; exact hlt
        obtain ⟨ad, rfl, hab, c0⟩ := (hl.below hbl).at_ hlt
        obtain ⟨ad', rfl, hab', d0⟩ := (hm.below hbl).at_ hlt'
        cases hq : (gi l k != gi m k) with
        | true =>
          have hne : gi l k ≠ gi m k := by simpa using hq
          have HNE := Lib.hid hne; clear hne
          go_wp2_with fail
          go_quiet (fail)
          go_wp2
          go_ret
          exact ⟨ret_bool (by symm; rw [decide_eq_false_iff_not]; intro e; exact HNE.out (by rw [e])), below_drewN hbl _⟩
        | false =>
          have heq : gi l k = gi m k := by simpa using hq
          have HEQ := Lib.hid heq; clear heq
          go_wp2_with fail
          go_quiet (fail)
          go_wp2
          go_roundw
          case rel => exact ⟨k + 1, by omega, by go_num, fun i hi => by
            by_cases e : i = k
            · subst e; exact HEQ.out
            · exact he i (by omega), below_drewN hbl _⟩
          case measure => simp [intOf]; omega
      · obtain rfl : k = l.length := by omega
        go_wp2
        go_ret
        exact ⟨ret_bool (by symm; rw [decide_eq_true_eq]; exact eqIn_all HL.out he), hbl⟩
  · have hlen' : ((l.length : Int) != (m.length : Int)) = true := by simp; omega
    have HL := Lib.hid hlen; clear hlen
    go_enter Tryd.func23, Tryd.ntmps23
    go_wp2
    go_ret
    exact ⟨ret_bool (by symm; rw [decide_eq_false_iff_not]; intro e; exact HL.out (by rw [e])), Below.refl _ _⟩


theorem RN.drew {w : World} {A : Option Addr} {l : List Int} (h : RN w A l) : RN w.drew A l := h

end Go.Proofs.YtlnmmkgeahlohaaDoor
