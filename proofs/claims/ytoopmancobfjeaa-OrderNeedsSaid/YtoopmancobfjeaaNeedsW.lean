/-
  The walk of the law OrderNeeds.
-/
import Derived.Test.YtoopmancobfjeaaQ
import Derived.Test.YtoopmancobfjeaaTellsW
namespace Go.Proofs.Ytoopmancobfjeaa
set_option linter.unusedVariables false
set_option linter.unusedSimpArgs false
open Go.RowKit

theorem neR_le (l : List Fact) : (neR l).length ≤ l.length := by
  unfold neR; split
  · exact neTo_le l l.length
  · simp

set_option maxRecDepth 100000 in
set_option maxHeartbeats 1600000 in
theorem orderNeeds_any (l : List Fact) (t child day : Int) (A : Option Addr) (c B : Nat) (hc : l.length ≤ c) (w : World) (hR : RF w B A l) :
    Calls Try.prog 10 #[.slice A l.length c, .agg #[.int .i64 t, .int .i64 child, .int .i64 day]] w fun e w' => e = .returned (.bool true) ∧ Below w.heap.size w w' := by
  go_enter Try.func10, Try.ntmps10
  go_wp2_with fail
  refine (long_any l A c _).mono ?_
  rintro e w1 ⟨rfl, rfl⟩
  have hb0 : Below w.heap.size w (w.alloc (.cells #[.int .i64 t, .int .i64 child, .int .i64 day] 24)) := (Below.refl _ _).alloc (Nat.le_refl _) _
  by_cases h200 : 200 < l.length
  · have h2 : decide (200 < l.length) = true := decide_eq_true h200
    go_wp2_with fail
    refine (known_any _).mono ?_
    rintro e w2 ⟨rfl, hb2⟩
    go_wp2
    go_ret
    exact ⟨rfl, hb0.trans (hb2.mono hb0.size)⟩
  · have h2 : decide (200 < l.length) = false := decide_eq_false h200
    have hl : l.length ≤ 100000000 := by omega
    have hl9 : l.length ≤ 1000000000 := by omega
    have hlen := neR_le l
    obtain ⟨X, hX⟩ : ∃ X, X = neR l := ⟨_, rfl⟩
    rw [← hX] at hlen
    have HX := Lib.hid hX
    clear hX
    go_wp2_with fail
    refine (needlessX_any l hl A c B hc _ (hR.below hb0)).mono ?_
    rw [← HX.out]
    rintro e w2 ⟨A1, c1, rfl, own1, hb2⟩
    have hx2 := box_first hb2
    obtain ⟨bx, _, _, hy2⟩ := blk_facts hx2 (by omega)
    clear hb2
    go_wp2_with fail
    refine (rneedlessX_any l hl A c B _ (hR.below hy2)).mono ?_
    rw [← HX.out]
    rintro e w3 ⟨A2, c2, rfl, own2, hb3⟩
    have hx3 := box_step hx2 hb3
    have own1 := own1.kept hb3
    clear bx hb3 hx2 hy2
    obtain ⟨bx, _, _, hy3⟩ := blk_facts hx3 (by omega)
    have r1 := RN.of_own own1
    have r2 := RN.of_own own2
    clear own1 own2
    go_wp2_with fail
    refine (sameInts_any X X _ _ _ _ _ r1 r2 (by omega) (by omega)).mono ?_
    rintro e w4 ⟨rfl, hb4⟩
    rw [show decide (X = X) = true by simp]
    have hx4 := box_step hx3 hb4
    have r1 := r1.below hb4
    clear bx hb4 hx3 hy3 r2
    obtain ⟨bx, _, _, hy4⟩ := blk_facts hx4 (by omega)
    by_cases hv : vld l = 0
    · have hv0 : (vld l != 0) = false := by simp [hv]
      have hXX : X = neTo l l.length := by rw [HX.out, neR, if_pos hv]
      have HXX := Lib.hid hXX
      have HV := Lib.hid hv
      clear hv hXX
      go_wp2
      go_loopw [9, 10, 11] (fun r a x wr => ∃ k : Nat, k ≤ l.length ∧ x = .int .i64 k ∧ ∃ n : Nat, a = .int .i64 n ∧ n ≤ X.length ∧ Hid (n = (neTo l k).length) ∧ ∃ A3 c3, r = .slice A3 (restTo l k).length c3 ∧ OwnF wr w4.heap.size A3 c3 (restTo l k) ∧ Below w4.heap.size w4 wr) (fun _ _ x _ => l.length - (intOf x).toNat)
      case atStart => exact ⟨0, by omega, rfl, 0, rfl, by omega, rfl, none, 0, rfl, World.ownsRow_nil _ _ _ _, Below.refl _ _⟩
      case round =>
        clear bx hy4
        obtain ⟨k, hk, rfl, n, rfl, hnX, HN, A3, c3, rfl, own, hb5⟩ := hrel
        have hx5 := box_step hx4 hb5
        obtain ⟨bx, _, _, hy5⟩ := blk_facts hx5 (by omega)
        have hrl := restTo_le l k
        by_cases hlt : k < l.length
        · obtain ⟨ad, rfl, hab, c0', q1, q2, q3, q4⟩ := (hR.below hy5).at_ hlt
          obtain ⟨ne1, ne2⟩ := ne_at hlt
          rw [← HXX.out, ← HN.out] at ne1 ne2
          cases hq : uB l k with
          | true =>
            have hnn := neTo_yes l k hq
            have hrr := restTo_yes l k hq
            have hne := ne2 hq
            have HNN := Lib.hid hnn
            have HRR := Lib.hid hrr
            have hbs := hb5.size
            clear ne1 ne2 hq hnn hrr
            by_cases hnx : n < X.length
            · have hne' : (gi X n == (k : Int)) = false := by simp [hne hnx]
              obtain ⟨ad', rfl, hab', d0⟩ := (r1.below hb5).at_ hnx
              clear hne
              go_wp2_with (at_builtin; refine wpList_app1 rfl _ _ rfl Try.underlying22 info_fact rfl (by omega) rfl own rfl rfl (by simp [Value.oneCell']) (by omega) (by omega) (by omega) ?_; intro A' c' w6 own6 hb6)
              go_roundw
              case rel => exact ⟨k + 1, by omega, by go_num, n, rfl, hnX, by rw [HNN.out]; exact HN.out, A', c', by rw [HRR.out, List.length_append]; rfl, OwnF.snoc own6 rfl HRR.out, hb5.trans (hb6 _ (Nat.le_refl _))⟩
              case measure => simp [intOf]; omega
            · clear hne
              go_wp2_with (at_builtin; refine wpList_app1 rfl _ _ rfl Try.underlying22 info_fact rfl (by omega) rfl own rfl rfl (by simp [Value.oneCell']) (by omega) (by omega) (by omega) ?_; intro A' c' w6 own6 hb6)
              go_roundw
              case rel => exact ⟨k + 1, by omega, by go_num, n, rfl, hnX, by rw [HNN.out]; exact HN.out, A', c', by rw [HRR.out, List.length_append]; rfl, OwnF.snoc own6 rfl HRR.out, hb5.trans (hb6 _ (Nat.le_refl _))⟩
              case measure => simp [intOf]; omega
          | false =>
            have hnn := neTo_no l k hq
            have hrr := restTo_no l k hq
            obtain ⟨hnx, hge⟩ := ne1 hq
            have hne' : (gi X n == (k : Int)) = true := by simp [hge]
            have HNN := Lib.hid hnn
            have HRR := Lib.hid hrr
            obtain ⟨ad', rfl, hab', d0⟩ := (r1.below hb5).at_ hnx
            clear ne1 ne2 hq hnn hrr hge
            go_wp2
            go_roundw
            case rel => exact ⟨k + 1, by omega, by go_num, n + 1, by go_num, by omega, by rw [HNN.out, List.length_append, ← HN.out]; rfl, A3, c3, by rw [HRR.out], by rw [HRR.out]; exact own, hb5⟩
            case measure => simp [intOf]; omega
        · have hkl : restTo l k = restTo l l.length := by rw [show k = l.length by omega]
          rw [hkl] at own hrl ⊢
          clear hkl
          obtain ⟨e1, e2⟩ := rest_known HV.out t child day
          obtain ⟨Y, hY⟩ : ∃ Y, Y = restTo l l.length := ⟨_, rfl⟩
          rw [← hY] at own hrl e1 e2 ⊢
          have HY := Lib.hid hY
          have H12 := Lib.hid (And.intro e1 e2)
          clear hY e1 e2
          have r3 := own.reads
          have c3h := own.cap
          clear own
          go_wp2_with fail
          refine (knownX_any l t child day hl9 A c B hc _ (hR.below hy5)).mono ?_
          rintro e w6 ⟨rfl, hb6⟩
          have hx6 := box_step hx5 hb6
          have r3 := r3.below hb6
          clear bx hb6 hx5 hy5
          obtain ⟨bx, _, _, hy6⟩ := blk_facts hx6 (by omega)
          go_wp2_with fail
          refine (knownX_any Y t child day (by omega) _ _ _ c3h _ r3).mono ?_
          rw [H12.out.1, H12.out.2]
          rintro e w7 ⟨rfl, hb7⟩
          have hy7 := hy6.trans (hb7.mono hy6.size)
          clear bx hb7 hx6 hy6 r3
          go_wp2_with fail
          refine (known_any _).mono ?_
          rintro e w8 ⟨rfl, hb8⟩
          go_wp2
          go_ret
          exact ⟨rfl, hy7.trans (hb8.mono hy7.size)⟩
    · have hv0 : (vld l != 0) = true := by simp [hv]
      clear hv
      go_wp2_with fail
      refine (known_any _).mono ?_
      rintro e w7 ⟨rfl, hb7⟩
      go_wp2
      go_ret
      exact ⟨rfl, hy4.trans (hb7.mono hy4.size)⟩

end Go.Proofs.Ytoopmancobfjeaa
