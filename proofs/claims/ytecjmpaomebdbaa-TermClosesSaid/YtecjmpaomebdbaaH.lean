/-
  Walks: the reference's Solve.
-/
import Derived.Test.YtecjmpaomebdbaaG
namespace Go.Proofs.Ytecjmpaomebdbaa
set_option linter.unusedVariables false
set_option linter.unusedSimpArgs false
open Go.RowKit

theorem atJ_first {l : List Ln} (hg : Good l) {k s j : Nat} (hk : k < l.length) (h : atJ l k s j = rN l k) (hm : ∀ i, i < j → atJ l k s i ≠ rN l k) : j < stp l k := by
  rcases Nat.lt_or_ge j (stp l k) with h1 | h1
  · exact h1
  · rw [atJ_period] at h
    exact absurd h (hm _ (Nat.lt_of_lt_of_le (Nat.mod_lt _ (stp_pos hg k hk)) h1))

set_option maxRecDepth 100000 in
set_option maxHeartbeats 6400000 in
theorem rsolve_any (l : List Ln) (hl : l.length ≤ 1000000) (A : Option Addr) (c : Nat) (w : World) (hR : RL w A l) :
    Calls Try.prog 32 #[.slice A l.length c] w (SlvPost l w) := by
  by_cases h6 : 6 < l.length
  · have hE : slvE l = 4 := slvE_long h6
    have HE := Lib.hid hE
    clear hE
    go_enter Try.func32, Try.ntmps32
    go_wp2
    exact bodyPost_ret (v := .tuple #[.int .i64 0, .int .i64 0, .bool false, .int .i64 4]) (by simp [results, Try.results32, go_sem]) rfl ⟨0, 0, false, by rw [HE.out], .inr ⟨(fun h => by rw [HE.out] at h; cases h), rfl, rfl, rfl⟩, Below.refl _ _⟩
  · go_enter Try.func32, Try.ntmps32
    go_wp2
    go_loop [6] (fun x => ∃ k : Nat, k ≤ l.length ∧ x = .int .i64 k ∧ Hid (lnTo l k = true)) (fun x => l.length - (intOf x).toNat)
    case atStart => exact ⟨0, by omega, rfl, rfl⟩
    case round =>
      obtain ⟨k, hk, rfl, HK⟩ := hrel
      by_cases hlt : k < l.length
      · obtain ⟨ad, rfl, hab, c0, c1⟩ := hR.at_ hlt
        cases hi : inB (gl l k).m 1 100000 with
        | true =>
          have hnx : lnTo l (k + 1) = true := by simp only [lnTo, HK.out, hi]; rfl
          have HNX := Lib.hid hnx
          clear hnx
          go_wp2_with (go_at_call 58; refine (within_any _ _ _ _).mono ?_; rintro e w' ⟨rfl, hw'⟩; subst hw')
          go_round
          case rel => exact ⟨k + 1, by omega, by go_num, HNX⟩
          case measure => simp [intOf]; omega
        | false =>
          have hE : slvE l = 1 := slvE_arg h6 hlt hi
          have HE := Lib.hid hE
          clear hE
          go_wp2_with (go_at_call 58; refine (within_any _ _ _ _).mono ?_; rintro e w' ⟨rfl, hw'⟩; subst hw')
          exact bodyPost_ret (v := .tuple #[.int .i64 0, .int .i64 0, .bool false, .int .i64 1]) (by simp [results, Try.results32, go_sem]) rfl ⟨0, 0, false, by rw [HE.out], .inr ⟨(fun h => by rw [HE.out] at h; cases h), rfl, rfl, rfl⟩, Below.refl _ _⟩
      · have hln : lnTo l l.length = true := by rw [show l.length = k by omega]; exact HK.out
        have HG := Lib.hid (Good.of hln)
        have HLN := Lib.hid hln
        clear hln
        go_wp2
        go_loopw [7, 8] (fun a x wr => ∃ k : Nat, k ≤ l.length ∧ x = .int .i64 k ∧ a = .int .i64 (lcTo l k : Nat) ∧ lcTo l k ≤ 1099511627776 ∧ Below w.heap.size w wr) (fun _ x _ => l.length - (intOf x).toNat)
        case atStart => exact ⟨0, by omega, rfl, rfl, by simp [lcTo], Below.refl _ _⟩
        case round =>
          obtain ⟨k, hk, rfl, rfl, hlc, hbl⟩ := hrel
          by_cases hlt : k < l.length
          · obtain ⟨ad, rfl, hab, c0, c1⟩ := (hR.below hbl).at_ hlt
            obtain ⟨g1, g2, g3, -, -⟩ := HG.out k hlt
            rw [g3] at c1
            clear g3
            have hq := lc_quo l k
            have hpos := lc_pos HG.out k (by omega)
            have hgp : 0 < (lcTo l k).gcd (mN l k) := Nat.gcd_pos_of_pos_left _ hpos
            have hbig := lc_big HG.out k hlt hlc
            have hq1 : lcTo l k / (lcTo l k).gcd (mN l k) ≤ lcTo l k := Nat.div_le_self _ _
            obtain ⟨N, hN⟩ : ∃ N, N = lcTo l (k + 1) := ⟨_, rfl⟩
            rw [← hN] at hq hbig
            obtain ⟨Q, hQ⟩ : ∃ Q, Q = lcTo l k / (lcTo l k).gcd (mN l k) := ⟨_, rfl⟩
            rw [← hQ] at hq hq1
            have e1 : IntKind.i64.wrap (((lcTo l k : Nat) : Int) / (((lcTo l k).gcd (mN l k) : Nat) : Int)) = (Q : Int) := by
              rw [show (((lcTo l k : Nat) : Int) / (((lcTo l k).gcd (mN l k) : Nat) : Int)) = (Q : Int) by rw [hQ]; rfl]; exact IntWalk.i64_in _ (by omega)
            have e2 : IntKind.i64.wrap ((Q : Int) * (mN l k : Int)) = (N : Int) := wrapN hq (by omega)
            have HNN := Lib.hid hN
            have z0 : (0 : Int) ≤ (k : Int) := Int.natCast_nonneg _
            have z1 : (k : Int) < (l.length : Int) := by omega
            clear hq hQ hN
            by_cases hbn : 1099511627776 < N
            · have hE : slvE l = 4 := slvE_big h6 HLN.out (k := k + 1) hlt (by rw [← HNN.out]; exact hbn)
              have HE := Lib.hid hE
              clear hE
              go_wp2_with fail
              go_quiet ((go_at_call 69; exact Calls.quiet_of_same (rgcd_any _ _ _ (by omega) (by omega))))
              clear e1 e2
              go_wp2
              exact bodyPost_ret (v := .tuple #[.int .i64 0, .int .i64 0, .bool false, .int .i64 4]) (by simp [results, Try.results32, go_sem]) rfl ⟨0, 0, false, by rw [HE.out], .inr ⟨(fun h => by rw [HE.out] at h; cases h), rfl, rfl, rfl⟩, below_drewN hbl _⟩
            · go_wp2_with fail
              go_quiet ((go_at_call 69; exact Calls.quiet_of_same (rgcd_any _ _ _ (by omega) (by omega))))
              clear e1 e2
              go_wp2
              go_roundw
              case rel => exact ⟨k + 1, by omega, by go_num, by rw [HNN.out], by rw [← HNN.out]; omega, below_drewN hbl _⟩
              case measure => simp [intOf]; omega
          · have hkl : k = l.length := by omega
            have hbl1 : ¬ 1099511627776 < lcTo l l.length := by rw [← hkl]; omega
            have HE := Lib.hid (slvE_of h6 HLN.out hbl1)
            have HBG := Lib.hid hbl1
            have HKL0 := Lib.hid hkl
            clear hkl hbl1 hlc
            go_wp2
            go_loopw [9, 10, 11] (fun a m x wr => ∃ k : Nat, k ≤ l.length ∧ x = .int .i64 k ∧ (∃ s : Nat, a = .int .i64 (s : Nat) ∧ Hid (Sol l k s)) ∧ m = .int .i64 (lcTo l k : Nat) ∧ Below w.heap.size w wr) (fun _ _ x _ => l.length - (intOf x).toNat)
            case atStart => exact ⟨0, by omega, rfl, ⟨0, rfl, Sol.zero l⟩, rfl, hbl⟩
            case round =>
              clear hbl
              obtain ⟨k, hk, rfl, ⟨s, rfl, HS⟩, rfl, hbl⟩ := hrel
              obtain ⟨wo, rfl⟩ : ∃ wo : World, wo = wr := ⟨_, rfl⟩
              by_cases hlt : k < l.length
              · obtain ⟨ad, rfl, hab, c0, c1⟩ := (hR.below hbl).at_ hlt
                obtain ⟨g1, g2, g3, g4, g5⟩ := HG.out k hlt
                rw [g3] at c1 g5
                clear g3
                have hpos := lc_pos HG.out k (by omega)
                have hsl := stp_le l k
                have hgp : 0 < (lcTo l k).gcd (mN l k) := Nat.gcd_pos_of_pos_left _ hpos
                have hle1 : lcTo l (k + 1) ≤ 1099511627776 := by have := lc_le HG.out (k + 1) l.length (by omega) (Nat.le_refl _); have := HBG.out; omega
                have hle0 : lcTo l k ≤ 1099511627776 := by have := lc_le HG.out k (k + 1) (by omega) (by omega); omega
                have hs1 := HS.out.1
                have G5 := Lib.hid g5
                have z0 : (0 : Int) ≤ (k : Int) := Int.natCast_nonneg _
                have z1 : (k : Int) < (l.length : Int) := by omega
                clear g5
                go_wp2
                go_loopw [9, 13] (fun y z wi => ∃ j t : Nat, j ≤ mN l k ∧ z = .int .i64 (j : Nat) ∧ y = .int .i64 (t : Nat) ∧ Hid (t = s + lcTo l k * j) ∧ Hid (∀ i, i < j → atJ l k s i ≠ rN l k) ∧ Below w.heap.size w wi) (fun _ z _ => mN l k - (intOf z).toNat)
                case atStart => exact ⟨0, s, by omega, rfl, rfl, Lib.hid (by simp), fun i hi => by omega, hbl⟩
                case round =>
                  clear hbl c0 c1 hab
                  obtain ⟨j, t, hj, rfl, rfl, HT, HJ, hbl⟩ := hrel
                  obtain ⟨ad', e', hab, c0, c1⟩ := (hR.below hbl).at_ hlt
                  cases e'
                  rw [(HG.out k hlt).2.2.1] at c1
                  have hjm : lcTo l k * j ≤ 1099511627776 * 100000 := Nat.mul_le_mul hle0 (by omega)
                  have htb : t ≤ 1099511627776 * 100001 := by have := HT.out; omega
                  have hat : t % mN l k = atJ l k s j := by rw [HT.out]; rfl
                  have hte : (((t : Nat) : Int) % (mN l k : Int) != (gl l k).r % (mN l k : Int)) = decide (atJ l k s j ≠ rN l k) := by
                    rw [← G5.out, ← hat]; by_cases hj : t % mN l k = rN l k
                    · rw [decide_eq_false (by simp [hj]), bne_eq_false_iff_eq]; omega
                    · rw [decide_eq_true hj, bne_iff_ne]; omega
                  clear hat
                  by_cases hf : atJ l k s j = rN l k
                  · rw [decide_eq_false (by simpa using hf)] at hte
                    have hjs := atJ_first HG.out hlt hf HJ.out
                    have hsol := HS.out.next hjs hf
                    rw [← HT.out] at hsol
                    have htN := hsol.1
                    have HSN := Lib.hid hsol
                    have hq := lc_quo l k
                    have hq1 : lcTo l k / (lcTo l k).gcd (mN l k) ≤ lcTo l k := Nat.div_le_self _ _
                    obtain ⟨N, hN⟩ : ∃ N, N = lcTo l (k + 1) := ⟨_, rfl⟩
                    rw [← hN] at hq htN
                    obtain ⟨Q, hQ⟩ : ∃ Q, Q = lcTo l k / (lcTo l k).gcd (mN l k) := ⟨_, rfl⟩
                    rw [← hQ] at hq hq1
                    have e1 : IntKind.i64.wrap (((lcTo l k : Nat) : Int) / (((lcTo l k).gcd (mN l k) : Nat) : Int)) = (Q : Int) := by
                      rw [show (((lcTo l k : Nat) : Int) / (((lcTo l k).gcd (mN l k) : Nat) : Int)) = (Q : Int) by rw [hQ]; rfl]; exact IntWalk.i64_in _ (by omega)
                    have e2 : IntKind.i64.wrap ((Q : Int) * (mN l k : Int)) = (N : Int) := wrapN hq (by omega)
                    have e3 : ((t : Nat) : Int) % ((N : Nat) : Int) = (t : Int) := Int.emod_eq_of_lt (by omega) (by omega)
                    have HNN := Lib.hid hN
                    have E3 := Lib.hid e3
                    clear hf hsol hq hQ hN e3
                    go_wp2_with fail
                    go_quiet ((go_at_call 70; exact Calls.quiet_of_same (modulo_any _ _ _ (by omega) (by omega))))
                    go_wp2_with (go_at_call 69; refine (rgcd_any _ _ _ (by omega) (by omega)).mono ?_; rintro e w' ⟨rfl, hw'⟩; subst hw')
                    go_roundw
                    case rel => exact ⟨k + 1, by omega, by go_num, ⟨t, by rw [E3.out], HSN⟩, by rw [HNN.out], by exact below_drewN hbl _⟩
                    case measure => simp [intOf]; omega
                  · rw [decide_eq_true (by simpa using hf)] at hte
                    have HF := Lib.hid hf
                    clear hf
                    by_cases hjl : j < mN l k
                    · go_wp2_with fail
                      go_quiet ((go_at_call 70; exact Calls.quiet_of_same (modulo_any _ _ _ (by omega) (by omega))))
                      go_wp2
                      go_roundw
                      case rel =>
                        exact ⟨j + 1, t + lcTo l k, by omega, by go_num, by go_num, Lib.hid (by rw [HT.out, Nat.mul_succ]; omega), fun i hi => by
                          by_cases e : i = j
                          · subst e; exact HF.out
                          · exact HJ.out i (by omega), by exact below_drewN hbl _⟩
                      case measure => simp [intOf]; omega
                    · have hnone := HS.out.none HG.out hlt (fun i hi => by
                        by_cases e : i = j
                        · subst e; exact HF.out
                        · exact HJ.out i (by omega))
                      have HNO := Lib.hid hnone
                      clear hnone
                      go_wp2_with fail
                      go_quiet ((go_at_call 70; exact Calls.quiet_of_same (modulo_any _ _ _ (by omega) (by omega))))
                      go_wp2
                      exact bodyPost_ret (v := .tuple #[.int .i64 0, .int .i64 0, .bool false, .int .i64 0]) (by simp [results, Try.results32, go_sem]) rfl ⟨0, 0, false, by rw [HE.out], .inr ⟨(fun _ => HNO.out), rfl, rfl, rfl⟩, by exact below_drewN hbl _⟩
              · have hkl : k = l.length := by omega
                rw [hkl] at HS
                have HKL := Lib.hid hkl
                clear hkl
                go_wp2
                refine bodyPost_ret (results_tmp4 rfl _ _ _) rfl ⟨s, lcTo l l.length, true, ret4 rfl (by rw [← HKL0.out]; rfl) rfl (by rw [HE.out]; rfl), .inl ⟨HE.out, rfl, ⟨s, HS.out, rfl⟩, rfl⟩, hbl⟩

end Go.Proofs.Ytecjmpaomebdbaa
