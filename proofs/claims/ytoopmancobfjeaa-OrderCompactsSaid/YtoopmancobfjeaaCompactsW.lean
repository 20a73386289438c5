/-
  The walk of the law OrderCompacts.
-/
import Derived.Test.YtoopmancobfjeaaO
import Derived.Test.YtoopmancobfjeaaTellsW
namespace Go.Proofs.Ytoopmancobfjeaa
set_option linter.unusedVariables false
set_option linter.unusedSimpArgs false
open Go.RowKit

theorem cpE_ok {l : List Fact} {t : Int} (h : cpE l t = 0) : vld l = 0 ∧ (cpTo l t 100).length ≤ 60 := by
  unfold cpE at h
  by_cases hv : vld l = 0
  · rw [if_pos hv] at h
    by_cases hb : 60 < (cpTo l t 100).length
    · rw [if_pos hb] at h; cases h
    · exact ⟨hv, by omega⟩
  · rw [if_neg hv] at h; exact absurd h hv
theorem cp_known {l : List Fact} {t : Int} (h : cpE l t = 0) (c d : Int) : knownR (cpR l t) 0 c d = knownR l t c d ∧ askE (cpR l t) c d = askE l c d := by
  obtain ⟨hv, hlen⟩ := cpE_ok h
  have hV := Vld.of hv
  have hr : cpR l t = cpTo l t 100 := by rw [cpR, if_pos h]
  have hv2 := (cp_valid hV hlen).to
  have ha : askE (cpTo l t 100) c d = askE l c d := by unfold askE askd; rw [hv, hv2]
  rw [hr]
  refine ⟨?_, ha⟩
  unfold knownR
  rw [ha]
  by_cases h0 : askE l c d = 0
  · rw [if_pos h0, if_pos h0]
    obtain ⟨_, a1, a2, a3, a4⟩ := askE_ok h0
    exact cp_same hV t a1 a2 a3 a4
  · rw [if_neg h0, if_neg h0]
theorem cpR_le (l : List Fact) (t : Int) : (cpR l t).length ≤ 100000 := by
  unfold cpR; split
  · have := cpTo_le l t 100; omega
  · simp

set_option maxRecDepth 100000 in
set_option maxHeartbeats 1600000 in
theorem orderCompacts_any (l : List Fact) (t child day : Int) (A : Option Addr) (c B : Nat) (hc : l.length ≤ c) (w : World) (hR : RF w B A l) :
    Calls Try.prog 9 #[.slice A l.length c, .agg #[.int .i64 t, .int .i64 child, .int .i64 day]] w fun e w' => e = .returned (.bool true) ∧ Below w.heap.size w w' := by
  go_enter Try.func9, Try.ntmps9
  go_wp2_with fail
  refine (long_any l A c _).mono ?_
  rintro e w1 ⟨rfl, rfl⟩
  have hb0 : Below w.heap.size w (w.alloc (.cells #[.int .i64 t, .int .i64 child, .int .i64 day] 24)) := (Below.refl _ _).alloc (Nat.le_refl _) _
  by_cases h200 : 200 < l.length
  · have h2 : decide (200 < l.length) = true := decide_eq_true h200
    go_wp2_with fail
    refine (known_any _).mono ?_
    rintro e w2 ⟨rfl, hb2⟩
    go_wp2
    go_ret
    exact ⟨rfl, hb0.trans (hb2.mono hb0.size)⟩
  · have h2 : decide (200 < l.length) = false := decide_eq_false h200
    have hl : l.length ≤ 100000000 := by omega
    have hl9 : l.length ≤ 1000000000 := by omega
    have hlen := cpR_le l t
    have hkn := fun h => cp_known (l := l) (t := t) h child day
    obtain ⟨X, hX⟩ : ∃ X, X = cpR l t := ⟨_, rfl⟩
    obtain ⟨E, hE⟩ : ∃ E, E = cpE l t := ⟨_, rfl⟩
    rw [← hX] at hlen hkn
    rw [← hE] at hkn
    have HKN := Lib.hid hkn
    have HX := Lib.hid hX
    have HE := Lib.hid hE
    clear hkn hX hE
    go_wp2_with fail
    refine (compactX_any l t hl A c B hc _ (hR.below hb0)).mono ?_
    rw [← HX.out, ← HE.out]
    rintro e w2 ⟨A1, c1, rfl, own1, hb2⟩
    have hx2 := box_first hb2
    obtain ⟨bx, _, _, hy2⟩ := blk_facts hx2 (by omega)
    clear hb2
    go_wp2_with fail
    refine (rcompactX_any l t hl A c B _ (hR.below hy2)).mono ?_
    rw [← HX.out, ← HE.out]
    rintro e w3 ⟨A2, c2, rfl, own2, hb3⟩
    have hx3 := box_step hx2 hb3
    have own1 := own1.kept hb3
    clear bx hb3 hx2 hy2
    obtain ⟨bx, _, _, hy3⟩ := blk_facts hx3 (by omega)
    have r1 := own1.reads
    have c1h := own1.cap
    have r2 := own2.reads
    clear own1 own2
    go_wp2_with fail
    refine (sameFacts_any X X _ _ _ _ _ _ _ r1 r2 (by omega) (by omega)).mono ?_
    rintro e w4 ⟨rfl, hb4⟩
    rw [show decide (X = X) = true by simp]
    have hx4 := box_step hx3 hb4
    have r1 := r1.below hb4
    clear bx hb4 hx3 hy3 r2
    obtain ⟨bx, _, _, hy4⟩ := blk_facts hx4 (by omega)
    by_cases h0 : E = 0
    · obtain ⟨e1, e2⟩ := HKN.out h0
      have hE0 : (E != 0) = false := by simp [h0]
      have H12 := Lib.hid (And.intro e1 e2)
      clear h0 e1 e2
      go_wp2_with fail
      refine (knownX_any l t child day hl9 A c B hc _ (hR.below hy4)).mono ?_
      rintro e w5 ⟨rfl, hb5⟩
      have hx5 := box_step hx4 hb5
      have r1 := r1.below hb5
      clear bx hb5 hx4 hy4
      obtain ⟨bx, _, _, hy5⟩ := blk_facts hx5 (by omega)
      go_wp2_with fail
      refine (knownX_any X 0 child day (by omega) _ _ _ c1h _ r1).mono ?_
      rw [H12.out.1, H12.out.2]
      rintro e w6 ⟨rfl, hb6⟩
      have hy6 := hy5.trans (hb6.mono hy5.size)
      clear bx hb6 hx5 hy5 r1
      go_wp2_with fail
      refine (known_any _).mono ?_
      rintro e w7 ⟨rfl, hb7⟩
      go_wp2
      go_ret
      exact ⟨rfl, hy6.trans (hb7.mono hy6.size)⟩
    · have hE0 : (E != 0) = true := by simp [h0]
      clear h0
      go_wp2_with fail
      refine (known_any _).mono ?_
      rintro e w7 ⟨rfl, hb7⟩
      go_wp2
      go_ret
      exact ⟨rfl, hy4.trans (hb7.mono hy4.size)⟩

end Go.Proofs.Ytoopmancobfjeaa
