/-
  The walk of the law OrderChildren.
-/
import Derived.Test.YtoopmancobfjeaaJ
namespace Go.Proofs.Ytoopmancobfjeaa
set_option linter.unusedVariables false
set_option linter.unusedSimpArgs false
open Go.RowKit

def sumM (l : List Fact) (t : Int) (d k : Nat) : Nat := sumN (fun m => (chTo l t m d 100).length) k
theorem one_of_ten : ∀ n : Nat, n < 10 → sumN (fun m => one ((n : Int) == (m : Int))) 10 = 1 := by decide
theorem sumM_ten {l : List Fact} (hV : Vld l) (t : Int) (d : Nat) : sumM l t d 10 = 100 := by
  have h1 : sumM l t d 10 = sumN (fun m => sumN (fun c => one (hasM l t (m : Nat) c d)) 100) 10 := sumN_congr _ _ _ fun m _ => chTo_len l t m d 100
  rw [h1, sumN_swap]
  have h2 : ∀ c, c < 100 → sumN (fun m => one (hasM l t (m : Nat) c d)) 10 = 1 := by
    intro c _
    have hk := knw_bd hV t c d
    obtain ⟨n, hn⟩ := Int.eq_ofNat_of_zero_le hk.1
    have h3 := one_of_ten n (by omega)
    unfold hasM
    rw [hn]
    exact h3
  rw [sumN_congr _ (fun _ => 1) 100 h2]
  rfl
theorem sumM_le (l : List Fact) (t : Int) (d k : Nat) : sumM l t d k ≤ k * 100 := sumN_le _ 100 k fun m _ => chTo_le l t m d 100
theorem chE_meal {l : List Fact} {day m : Int} (h : chE l day m = 0) (k : Nat) (hk : k < 10) : chE l day k = 0 := by
  obtain ⟨h1, h2⟩ := askd_ok h
  rw [Bool.and_eq_true] at h2
  unfold chE askd
  rw [if_neg (by omega), h2.1, show inB (k : Int) 0 9 = true from inB_true.2 (by omega)]
  rfl

set_option maxRecDepth 100000 in
set_option maxHeartbeats 1600000 in
theorem orderChildren_any (l : List Fact) (t day m : Int) (A : Option Addr) (c B : Nat) (hc : l.length ≤ c) (w : World) (hR : RF w B A l) :
    Calls Try.prog 7 #[.slice A l.length c, .agg #[.int .i64 t, .int .i64 day, .int .i64 m]] w fun e w' => e = .returned (.bool true) ∧ Below w.heap.size w w' := by
  go_enter Try.func7, Try.ntmps7
  go_wp2_with fail
  refine (long_any l A c _).mono ?_
  rintro e w1 ⟨rfl, rfl⟩
  have hb0 : Below w.heap.size w (w.alloc (.cells #[.int .i64 t, .int .i64 day, .int .i64 m] 52)) := (Below.refl _ _).alloc (Nat.le_refl _) _
  by_cases h200 : 200 < l.length
  · have h2 : decide (200 < l.length) = true := decide_eq_true h200
    go_wp2_with fail
    refine (known_any _).mono ?_
    rintro e w2 ⟨rfl, hb2⟩
    go_wp2
    go_ret
    exact ⟨rfl, hb0.trans (hb2.mono hb0.size)⟩
  · have h2 : decide (200 < l.length) = false := decide_eq_false h200
    have hl : l.length ≤ 1000000000 := by omega
    go_wp2_with fail
    refine (childrenX_any l t day m hl A c B hc _ (hR.below hb0)).mono ?_
    rintro e w2 ⟨A1, c1, rfl, own1, hb2⟩
    have hx2 : Below (w.heap.size + 1) (w.alloc (.cells #[.int .i64 t, .int .i64 day, .int .i64 m] 52)) w2 := by simpa using hb2
    obtain ⟨bx, _, _, hb2'⟩ := blk_facts hx2 (by omega)
    clear hb2
    go_wp2_with fail
    refine (rchildrenX_any l t day m hl A c B _ (hR.below hb2')).mono ?_
    rintro e w3 ⟨A2, c2, rfl, own2, hb3⟩
    have hx3 := hx2.trans (hb3.mono (by have := hx2.size; simp at this; omega))
    have hs1 := RN.of_own (own1.kept hb3)
    have hs2 := RN.of_own own2
    have hlen : (childR l t day m).length ≤ 100 := by
      unfold childR; split
      · exact chTo_le l t m day.toNat 100
      · simp
    clear bx hb3 own1 own2 hx2 hb2'
    obtain ⟨bx, _, _, hb3'⟩ := blk_facts hx3 (by omega)
    go_wp2_with fail
    refine (sameInts_any (childR l t day m) (childR l t day m) _ _ _ _ _ hs1 hs2 (by omega) (by omega)).mono ?_
    rintro e w4 ⟨rfl, hb4⟩
    rw [show decide (childR l t day m = childR l t day m) = true by simp]
    have hx4 := hx3.trans (hb4.mono (by have := hx3.size; simp at this; omega))
    clear bx hb4 hs1 hs2 hx3 hb3'
    obtain ⟨bx, _, _, hb4'⟩ := blk_facts hx4 (by omega)
    by_cases h0 : chE l day m = 0
    · obtain ⟨hV, hd0, hd1, -⟩ := chE_ok h0
      have hE0 : (chE l day m != 0) = false := by simp [h0]
      have H0 := Lib.hid h0; clear h0
      obtain ⟨d, rfl⟩ := Int.eq_ofNat_of_zero_le hd0
      go_wp2
      go_loopw [9, 10] (fun s x wr => ∃ k : Nat, k ≤ 10 ∧ x = .int .i64 k ∧ s = .int .i64 (sumM l t d k : Nat) ∧ Below (w.heap.size + 1) (w.alloc (.cells #[.int .i64 t, .int .i64 (d : Nat), .int .i64 m] 52)) wr) (fun _ x _ => 10 - (intOf x).toNat)
      case atStart => exact ⟨0, by omega, rfl, rfl, hx4⟩
      case round =>
        clear bx hb4' hx4
        obtain ⟨k, hk, rfl, rfl, hx⟩ := hrel
        obtain ⟨bx, _, _, hbl⟩ := blk_facts hx (by omega)
        have hsm := sumM_le l t d k
        by_cases hlt : k < 10
        · have hce := chE_meal H0.out k hlt
          have hcr : childR l t d k = chTo l t k d 100 := by unfold childR; rw [if_pos hce]; rfl
          have hnx : sumM l t d (k + 1) = sumM l t d k + (chTo l t k d 100).length := rfl
          have hcl := chTo_le l t k d 100
          have HCE := Lib.hid hce
          have HCR := Lib.hid hcr
          have HNX := Lib.hid hnx
          clear hce hcr hnx
          go_wp2_with fail
          refine (childrenX_any l t d k hl A c B hc _ (hR.below hbl)).mono ?_
          rw [HCE.out, HCR.out]
          rintro e w5 ⟨A3, c3, rfl, own3, hb5⟩
          have hx5 := hx.trans (hb5.mono (by have := hx.size; simp at this; omega))
          clear bx own3 hb5
          go_wp2
          go_roundw
          case rel => exact ⟨k + 1, by omega, by go_num, by rw [HNX.out]; go_num, hx5⟩
          case measure => simp [intOf]; omega
        · obtain rfl : k = 10 := by omega
          have hten := sumM_ten hV t d
          rw [hten]
          clear hten
          go_wp2_with fail
          refine (known_any _).mono ?_
          rintro e w6 ⟨rfl, hb6⟩
          go_wp2
          go_ret
          exact ⟨rfl, hbl.trans (hb6.mono hbl.size)⟩
    · have hE0 : (chE l day m != 0) = true := by simp [h0]
      clear h0
      go_wp2_with fail
      refine (known_any _).mono ?_
      rintro e w6 ⟨rfl, hb6⟩
      go_wp2
      go_ret
      exact ⟨rfl, hb4'.trans (hb6.mono hb4'.size)⟩

end Go.Proofs.Ytoopmancobfjeaa
