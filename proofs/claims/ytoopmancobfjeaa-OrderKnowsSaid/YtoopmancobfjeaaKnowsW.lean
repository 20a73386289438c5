/-
  The walk of the law OrderKnows.
-/
import Derived.Test.YtoopmancobfjeaaH
namespace Go.Proofs.Ytoopmancobfjeaa
set_option linter.unusedVariables false
set_option linter.unusedSimpArgs false
open Go.RowKit

set_option maxRecDepth 100000 in
set_option maxHeartbeats 1600000 in
theorem orderKnows_any (l : List Fact) (t child day : Int) (A : Option Addr) (c B : Nat) (hc : l.length ≤ c) (w : World) (hR : RF w B A l) :
    Calls Try.prog 8 #[.slice A l.length c, .agg #[.int .i64 t, .int .i64 child, .int .i64 day]] w fun e w' => e = .returned (.bool true) ∧ Below w.heap.size w w' := by
  go_enter Try.func8, Try.ntmps8
  go_wp2_with fail
  refine (long_any l A c _).mono ?_
  rintro e w1 ⟨rfl, rfl⟩
  have hb0 : Below w.heap.size w (w.alloc (.cells #[.int .i64 t, .int .i64 child, .int .i64 day] 24)) := (Below.refl _ _).alloc (Nat.le_refl _) _
  by_cases h200 : 200 < l.length
  · have h2 : decide (200 < l.length) = true := decide_eq_true h200
    go_wp2_with fail
    refine (known_any _).mono ?_
    rintro e w2 ⟨rfl, hb2⟩
    go_wp2
    go_ret
    exact ⟨rfl, hb0.trans (hb2.mono hb0.size)⟩
  · have h2 : decide (200 < l.length) = false := decide_eq_false h200
    have hl : l.length ≤ 1000000000 := by omega
    go_wp2_with fail
    refine (knownX_any l t child day hl A c B hc _ (hR.below hb0)).mono ?_
    rintro e w2 ⟨rfl, hb2⟩
    have hx2 : Below (w.heap.size + 1) (w.alloc (.cells #[.int .i64 t, .int .i64 child, .int .i64 day] 24)) w2 := by simpa using hb2
    obtain ⟨bx, _, _, hb2'⟩ := blk_facts hx2 (by omega)
    clear hb2
    go_wp2_with fail
    refine (rknownX_any l t child day hl A c B _ (hR.below hb2')).mono ?_
    rintro e w3 ⟨rfl, hb3⟩
    have hx3 := hx2.trans (hb3.mono (by have := hx2.size; simp at this; omega))
    clear bx hb3
    obtain ⟨bx, _, _, hb3'⟩ := blk_facts hx3 (by omega)
    go_wp2_with fail
    refine (reasonX_any l t child day hl A c B hc _ (hR.below hb3')).mono ?_
    rintro e w4 ⟨rfl, hb4⟩
    have hx4 := hx3.trans (hb4.mono (by have := hx3.size; simp at this; omega))
    clear bx hb4
    obtain ⟨bx, _, _, hb4'⟩ := blk_facts hx4 (by omega)
    go_wp2_with fail
    refine (rreasonX_any l t child day hl A c B _ (hR.below hb4')).mono ?_
    rintro e w5 ⟨rfl, hb5⟩
    have hb5' := hb4'.trans (hb5.mono hb4'.size)
    clear bx hb5 hx2 hx3 hx4 hb2' hb3' hb4' hb0
    by_cases hB : askE l child day = 0 ∧ 0 ≤ rsn l t child day
    · have e1 : reasonB l t child day = true := decide_eq_true hB
      have hbd : -1 ≤ rsn l t child day ∧ rsn l t child day < l.length := rsnTo_bd l t child day l.length
      obtain ⟨k, hk⟩ := Int.eq_ofNat_of_zero_le hB.2
      have e2 : reasonR l t child day = k := by unfold reasonR; rw [if_pos hB, hk]
      have e3 : knownR l t child day = (gf l k).me := by
        unfold knownR knw fMe; rw [if_pos hB.1, if_neg (by omega), hk]; rfl
      have hkl : k < l.length := by omega
      obtain ⟨ad, rfl, hab, -, -, -, -, d4⟩ := (hR.below hb5').at_ hkl
      rw [e1, e2, e3]
      clear e1 e2 e3 hbd hk hB
      go_wp2_with fail
      refine (known_any _).mono ?_
      rintro e w6 ⟨rfl, hb6⟩
      go_wp2
      go_ret
      exact ⟨rfl, hb5'.trans (hb6.mono hb5'.size)⟩
    · have e1 : reasonB l t child day = false := decide_eq_false hB
      rw [e1]
      clear e1 hB
      go_wp2_with fail
      refine (known_any _).mono ?_
      rintro e w6 ⟨rfl, hb6⟩
      go_wp2
      go_ret
      exact ⟨rfl, hb5'.trans (hb6.mono hb5'.size)⟩

end Go.Proofs.Ytoopmancobfjeaa
