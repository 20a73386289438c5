/-
  The walk of the law TermSolvesAll.
-/
import Derived.Test.YtecjmpaomebdbaaAp
import Derived.Test.YtecjmpaomebdbaaQ
namespace Go.Proofs.Ytecjmpaomebdbaa
set_option linter.unusedVariables false
set_option linter.unusedSimpArgs false
open Go.RowKit

set_option maxRecDepth 100000 in
set_option maxHeartbeats 4000000 in
theorem termSolvesAll_any (l : List Ln) (A : Option Addr) (c : Nat) (n : Int) (w : World) (hR : RL w A l) :
    Calls Try.prog 6 #[.slice A l.length c, .int .i64 n] w fun e w' => e = .returned (.bool true) ∧ Below w.heap.size w w' := by
  by_cases h100 : 100 < l.length
  · go_enter Try.func6, Try.ntmps6
    go_wp2_with fail
    refine (known_any _).mono ?_
    rintro e w2 ⟨rfl, hb2⟩
    go_wp2
    go_ret
    exact ⟨rfl, hb2⟩
  · obtain ⟨i0, hi0, hz0, hz1, hz2⟩ := info_parts info_line
    go_enter Try.func6, Try.ntmps6
    go_wp2_with fail
    refine (solve_any l (by omega) A c _ hR).mono ?_
    rintro e w1 ⟨a, m, ok, rfl, hs, hb1⟩
    have r1 := hR.below hb1
    by_cases hE : slvE l = 0
    · rw [hE]
      cases ok with
      | false =>
        go_wp2
        go_loopw [9] (fun x wr => x = .int .i64 0 ∧ Below w1.heap.size w1 wr) (fun x _ => l.length - (intOf x).toNat)
        case atStart => exact ⟨rfl, Below.refl _ _⟩
        case round =>
          obtain ⟨rfl, hbl⟩ := hrel
          have rr0 := r1.below hbl
          by_cases hl0 : 0 < l.length
          · have h0 : (wr.alloc (.cells #[] 50)).ownsRow wr.heap.size 50 2 (.slice (some ⟨wr.heap.size, 0, none⟩) 0 0) 0 [] := World.ownsRow_lit wr #[] 0 (Nat.le_refl _) (by unfold maxLen; omega) rfl
            have hy0 : Below wr.heap.size wr (wr.alloc (.cells #[] 50)) := (Below.refl _ _).alloc (Nat.le_refl _) _
            have hsz := hy0.size
            have rr := rr0.below hy0
            go_wp2_with (at_builtin; refine wpList_append_any _ rfl _ _ 45 rfl wr.heap.size 50 i0 _ 2 16 Try.underlying45 hi0 hz0 hz1 hz2 rfl (by omega) _ 0 [] rfl h0 _ A l.length c (cellsL l) rfl rr (cellsL_one l) (by unfold maxLen; omega) (by omega) hsz ?_; intro v' w2 own2 hg2 hat2)
            obtain ⟨A', c', rfl⟩ := own_shape own2
            rw [Nat.zero_add, List.nil_append] at own2
            rw [Nat.zero_add]
            have hb2 : Below wr.heap.size wr w2 := hy0.grown hg2 hsz (fun k hk => by have e : (some wr.heap.size : Option Nat) = some k := hk; cases e; exact Nat.le_refl _)
            have own3 : OwnL w2 wr.heap.size A' c' l := own2
            have hs2 := hb2.size
            clear hg2 hat2 own2 h0 hy0 rr hi0 hz0 hz1 hz2
            go_wp2
            go_loopw [11] (fun x wy => ∃ k : Nat, k ≤ l.length ∧ x = .int .i64 k ∧ OwnL wy wr.heap.size A' c' (lsetTo l n k) ∧ Below wr.heap.size wr wy) (fun x _ => l.length - (intOf x).toNat)
            case atStart => exact ⟨0, by omega, rfl, own3, hb2⟩
            case round =>
              clear hs2 hsz own3 hb2
              obtain ⟨k2, hk2, rfl, ownk, hbk⟩ := hrel
              have hl2 := lsetTo_len l n k2
              by_cases hlt2 : k2 < l.length
              · obtain ⟨g, rfl, hg1, hg2, z0, z1, hst⟩ := ownk.at_ (k := k2) (by omega)
                have hnx := hst n
                clear hst ownk
                go_wp2
                go_roundw
                case rel => exact ⟨k2 + 1, by omega, by go_num, hnx, hbk.setCell hg1 _⟩
                case measure => simp [intOf]; omega
              · have hkl2 : k2 = l.length := by omega
                subst hkl2
                rw [lsetTo_all] at ownk
                have hq := solve_any (setR l n) (by rw [setR_len]; omega) A' c' _ ownk.reads
                rw [setR_len] at hq
                go_wp2_with fail
                refine hq.mono ?_
                rintro e w5 ⟨b, m', ok', rfl, hs', hb5⟩
                obtain ⟨rfl, t1, t2, t3, t4, t5⟩ := set_all hE hs'
                rw [setR_slvE, hE]
                clear hs' hq ownk
                have q1 := Int.tmod_lt_of_pos n t1
                have q2 := Int.lt_tmod_of_pos n t1
                have hw5 : wrap64 (n.tmod m' - b) = n.tmod m' - b := by unfold wrap64; omega
                have q5 : ((wrap64 (n.tmod m' - b)).tmod m' == 0) = true := by rw [hw5, t5]; rfl
                have hm5 : ¬ m' = 0 := by omega
                clear hw5 t5 q1 q2
                go_wp2_with fail
                refine (known_any _).mono ?_
                rintro e w6 ⟨rfl, hb6⟩
                go_wp2
                go_ret
                exact ⟨rfl, hb1.trans ((hbl.trans ((hbk.trans ((hb5.trans (hb6.mono hb5.size)).mono hbk.size)).mono hbl.size)).mono hb1.size)⟩
          · have h0 : (wr.alloc (.cells #[] 50)).ownsRow wr.heap.size 50 2 (.slice (some ⟨wr.heap.size, 0, none⟩) 0 0) 0 [] := World.ownsRow_lit wr #[] 0 (Nat.le_refl _) (by unfold maxLen; omega) rfl
            have hy0 : Below wr.heap.size wr (wr.alloc (.cells #[] 50)) := (Below.refl _ _).alloc (Nat.le_refl _) _
            have hsz := hy0.size
            have rr := rr0.below hy0
            go_wp2_with (at_builtin; refine wpList_append_any _ rfl _ _ 45 rfl wr.heap.size 50 i0 _ 2 16 Try.underlying45 hi0 hz0 hz1 hz2 rfl (by omega) _ 0 [] rfl h0 _ A l.length c (cellsL l) rfl rr (cellsL_one l) (by unfold maxLen; omega) (by omega) hsz ?_; intro v' w2 own2 hg2 hat2)
            obtain ⟨A', c', rfl⟩ := own_shape own2
            rw [Nat.zero_add, List.nil_append] at own2
            rw [Nat.zero_add]
            have hb2 : Below wr.heap.size wr w2 := hy0.grown hg2 hsz (fun k hk => by have e : (some wr.heap.size : Option Nat) = some k := hk; cases e; exact Nat.le_refl _)
            have own3 : OwnL w2 wr.heap.size A' c' l := own2
            have hs2 := hb2.size
            clear hg2 hat2 own2 h0 hy0 rr hi0 hz0 hz1 hz2
            go_wp2
            go_loopw [11] (fun x wy => ∃ k : Nat, k ≤ l.length ∧ x = .int .i64 k ∧ OwnL wy wr.heap.size A' c' (lsetTo l n k) ∧ Below wr.heap.size wr wy) (fun x _ => l.length - (intOf x).toNat)
            case atStart => exact ⟨0, by omega, rfl, own3, hb2⟩
            case round =>
              clear hs2 hsz own3 hb2
              obtain ⟨k2, hk2, rfl, ownk, hbk⟩ := hrel
              have hl2 := lsetTo_len l n k2
              by_cases hlt2 : k2 < l.length
              · exfalso; omega
              · have hkl2 : k2 = l.length := by omega
                subst hkl2
                rw [lsetTo_all] at ownk
                have hq := solve_any (setR l n) (by rw [setR_len]; omega) A' c' _ ownk.reads
                rw [setR_len] at hq
                go_wp2_with fail
                refine hq.mono ?_
                rintro e w5 ⟨b, m', ok', rfl, hs', hb5⟩
                obtain ⟨rfl, t1, t2, t3, t4, t5⟩ := set_all hE hs'
                rw [setR_slvE, hE]
                clear hs' hq ownk
                have q1 := Int.tmod_lt_of_pos n t1
                have q2 := Int.lt_tmod_of_pos n t1
                have hw5 : wrap64 (n.tmod m' - b) = n.tmod m' - b := by unfold wrap64; omega
                have q5 : ((wrap64 (n.tmod m' - b)).tmod m' == 0) = true := by rw [hw5, t5]; rfl
                have hm5 : ¬ m' = 0 := by omega
                clear hw5 t5 q1 q2
                go_wp2_with fail
                refine (known_any _).mono ?_
                rintro e w6 ⟨rfl, hb6⟩
                go_wp2
                go_ret
                exact ⟨rfl, hb1.trans ((hbl.trans ((hbk.trans ((hb5.trans (hb6.mono hb5.size)).mono hbk.size)).mono hbl.size)).mono hb1.size)⟩
      | true =>
        obtain ⟨s0, s1, s2, s3⟩ := sol_all hE hs
        go_wp2
        go_loopw [9] (fun x wr => ∃ k : Nat, k ≤ l.length ∧ x = .int .i64 k ∧ Below w1.heap.size w1 wr) (fun x _ => l.length - (intOf x).toNat)
        case atStart => exact ⟨0, by omega, rfl, Below.refl _ _⟩
        case round =>
          obtain ⟨k, hk, rfl, hbl⟩ := hrel
          by_cases hlt : k < l.length
          · obtain ⟨ad, rfl, hab, e0, e1⟩ := (r1.below hbl).at_ hlt
            obtain ⟨m1, m2, m3, m4⟩ := s3 k hlt
            have hd0 : decide (a < 0) = false := by simp; omega
            have hd1 : decide (m ≤ a) = false := by simp; omega
            have hm0 : ¬ (gl l k).m = 0 := by omega
            have ht1 := Int.tmod_lt_of_pos (gl l k).r (show 0 < (gl l k).m by omega)
            have ht2 := Int.lt_tmod_of_pos (gl l k).r (show 0 < (gl l k).m by omega)
            have hw : wrap64 (a - (gl l k).r.tmod (gl l k).m) = a - (gl l k).r.tmod (gl l k).m := by unfold wrap64; omega
            have hd2 : (m.tmod (gl l k).m != 0) = false := by rw [m3]; rfl
            have hd3 : ((wrap64 (a - (gl l k).r.tmod (gl l k).m)).tmod (gl l k).m != 0) = false := by rw [hw, m4]; rfl
            clear m3 m4 hw ht1 ht2
            go_wp2_with fail
            go_quiet (fail)
            go_wp2
            go_roundw
            case rel => exact ⟨k + 1, by omega, by go_num, below_drewN hbl _⟩
            case measure => simp [intOf]; omega
          · have hkl : k = l.length := by omega
            subst hkl
            have rr0 := r1.below hbl
            have h0 : (wr.alloc (.cells #[] 50)).ownsRow wr.heap.size 50 2 (.slice (some ⟨wr.heap.size, 0, none⟩) 0 0) 0 [] := World.ownsRow_lit wr #[] 0 (Nat.le_refl _) (by unfold maxLen; omega) rfl
            have hy0 : Below wr.heap.size wr (wr.alloc (.cells #[] 50)) := (Below.refl _ _).alloc (Nat.le_refl _) _
            have hsz := hy0.size
            have rr := rr0.below hy0
            go_wp2_with (at_builtin; refine wpList_append_any _ rfl _ _ 45 rfl wr.heap.size 50 i0 _ 2 16 Try.underlying45 hi0 hz0 hz1 hz2 rfl (by omega) _ 0 [] rfl h0 _ A l.length c (cellsL l) rfl rr (cellsL_one l) (by unfold maxLen; omega) (by omega) hsz ?_; intro v' w2 own2 hg2 hat2)
            obtain ⟨A', c', rfl⟩ := own_shape own2
            rw [Nat.zero_add, List.nil_append] at own2
            rw [Nat.zero_add]
            have hb2 : Below wr.heap.size wr w2 := hy0.grown hg2 hsz (fun k hk => by have e : (some wr.heap.size : Option Nat) = some k := hk; cases e; exact Nat.le_refl _)
            have own3 : OwnL w2 wr.heap.size A' c' l := own2
            have hs2 := hb2.size
            clear hg2 hat2 own2 h0 hy0 rr hi0 hz0 hz1 hz2
            go_wp2
            go_loopw [11] (fun x wy => ∃ k : Nat, k ≤ l.length ∧ x = .int .i64 k ∧ OwnL wy wr.heap.size A' c' (lsetTo l n k) ∧ Below wr.heap.size wr wy) (fun x _ => l.length - (intOf x).toNat)
            case atStart => exact ⟨0, by omega, rfl, own3, hb2⟩
            case round =>
              clear hs2 hsz own3 hb2
              obtain ⟨k2, hk2, rfl, ownk, hbk⟩ := hrel
              have hl2 := lsetTo_len l n k2
              by_cases hlt2 : k2 < l.length
              · obtain ⟨g, rfl, hg1, hg2, z0, z1, hst⟩ := ownk.at_ (k := k2) (by omega)
                have hnx := hst n
                clear hst ownk
                go_wp2
                go_roundw
                case rel => exact ⟨k2 + 1, by omega, by go_num, hnx, hbk.setCell hg1 _⟩
                case measure => simp [intOf]; omega
              · have hkl2 : k2 = l.length := by omega
                subst hkl2
                rw [lsetTo_all] at ownk
                have hq := solve_any (setR l n) (by rw [setR_len]; omega) A' c' _ ownk.reads
                rw [setR_len] at hq
                go_wp2_with fail
                refine hq.mono ?_
                rintro e w5 ⟨b, m', ok', rfl, hs', hb5⟩
                obtain ⟨rfl, t1, t2, t3, t4, t5⟩ := set_all hE hs'
                rw [setR_slvE, hE]
                clear hs' hq ownk
                have q1 := Int.tmod_lt_of_pos n t1
                have q2 := Int.lt_tmod_of_pos n t1
                have hw5 : wrap64 (n.tmod m' - b) = n.tmod m' - b := by unfold wrap64; omega
                have q5 : ((wrap64 (n.tmod m' - b)).tmod m' == 0) = true := by rw [hw5, t5]; rfl
                have hm5 : ¬ m' = 0 := by omega
                clear hw5 t5 q1 q2
                go_wp2_with fail
                refine (known_any _).mono ?_
                rintro e w6 ⟨rfl, hb6⟩
                go_wp2
                go_ret
                exact ⟨rfl, hb1.trans ((hbl.trans ((hbk.trans ((hb5.trans (hb6.mono hb5.size)).mono hbk.size)).mono hbl.size)).mono hb1.size)⟩
    · obtain ⟨rfl, rfl, rfl⟩ := hs.no hE
      have hE1 : (slvE l != 0) = true := by simp [hE]
      clear hs hE
      go_wp2_with fail
      refine (known_any _).mono ?_
      rintro e w2 ⟨rfl, hb2⟩
      go_wp2
      go_ret
      exact ⟨rfl, hb1.trans (hb2.mono hb1.size)⟩
end Go.Proofs.Ytecjmpaomebdbaa
