/-
  Walks: Count.
-/
import Derived.Test.YtoopmancobfjeaaJ
namespace Go.Proofs.Ytoopmancobfjeaa
set_option linter.unusedVariables false
set_option linter.unusedSimpArgs false
open Go.RowKit

def cE (l : List Fact) (f u m : Int) : Int := askd l (inB m 0 9 && decide (0 ≤ f ∧ f ≤ u ∧ u ≤ 1000))
def countR (l : List Fact) (t f u m : Int) : Int := if cE l f u m = 0 then (countN l t m f.toNat (u - f).toNat : Nat) else 0
theorem cE_ok {l : List Fact} {f u m : Int} (h : cE l f u m = 0) : Vld l ∧ 0 ≤ m ∧ m ≤ 9 ∧ 0 ≤ f ∧ f ≤ u ∧ u ≤ 1000 := by
  obtain ⟨h1, h2⟩ := askd_ok h
  rw [Bool.and_eq_true, decide_eq_true_eq] at h2
  have := inB_true.1 h2.1
  exact ⟨Vld.of h1, by omega, by omega, by omega, by omega, by omega⟩
theorem countN_le (l : List Fact) (t m : Int) (f n : Nat) (hn : n ≤ 1000) : countN l t m f n ≤ 100000 := by
  have := sumN_le (fun c => rowN l t m f c n) 1000 100 (fun c _ => by have := rowN_le l t m f c n; omega)
  unfold countN; omega
/-- The first k children's meals. -/
def cntTo (l : List Fact) (t m : Int) (f n k : Nat) : Nat := sumN (fun c => rowN l t m f c n) k
theorem cntTo_le (l : List Fact) (t m : Int) (f n k : Nat) : cntTo l t m f n k ≤ k * n := sumN_le _ n k fun c _ => rowN_le l t m f c n
theorem rowN_succ (l : List Fact) (t m : Int) (f c k : Nat) : rowN l t m f c (k + 1) = rowN l t m f c k + one (hasM l t m c (f + k)) := rfl
theorem cntTo_succ (l : List Fact) (t m : Int) (f n k : Nat) : cntTo l t m f n (k + 1) = cntTo l t m f n k + rowN l t m f k n := rfl

set_option maxRecDepth 100000 in
set_option maxHeartbeats 1600000 in
theorem countX_any (l : List Fact) (t f u m : Int) (hl : l.length ≤ 1000000000) (A0 : Option Addr) (c0 B : Nat) (hc : l.length ≤ c0) (w : World) (hR : RF w B A0 l) :
    Calls Try.prog 22 #[.slice A0 l.length c0, .int .i64 t, .int .i64 f, .int .i64 u, .int .i64 m] w fun e w' => e = .returned (.tuple #[.int .i64 (countR l t f u m), .int .i64 (cE l f u m)]) ∧ Below w.heap.size w w' := by
  obtain ⟨E, hE⟩ : ∃ E, E = cE l f u m := ⟨_, rfl⟩
  obtain ⟨R, hr⟩ : ∃ R, R = countR l t f u m := ⟨_, rfl⟩
  rw [← hr, ← hE]
  have HR := Lib.hid hr; clear hr
  have HE := Lib.hid hE; clear hE
  by_cases hgood : inB m 0 9 = true ∧ 0 ≤ f ∧ f ≤ u ∧ u ≤ 1000
  · obtain ⟨hm, hf, hfu, hu⟩ := hgood
    have hA : E = askd l true := by rw [HE.out, cE, hm, show decide (0 ≤ f ∧ f ≤ u ∧ u ≤ 1000) = true from decide_eq_true ⟨hf, hfu, hu⟩]; rfl
    have HA := Lib.hid hA; clear hA
    go_enter Try.func22, Try.ntmps22
    go_wp2_with fail
    refine (isMeal_any _ _).mono ?_
    rintro e w' ⟨rfl, rfl⟩
    rw [hm]
    go_wp2_with fail
    refine (asked_any l _ A0 c0 B _ hR hl).mono ?_
    rintro e w1 ⟨rfl, hb1⟩
    rw [← HA.out]
    by_cases h0 : E = 0
    · obtain ⟨hV, -⟩ := cE_ok (HE.out.symm.trans h0)
      obtain ⟨a, rfl⟩ := Int.eq_ofNat_of_zero_le hf
      obtain ⟨b, rfl⟩ : ∃ b : Nat, u = b := Int.eq_ofNat_of_zero_le (by omega)
      obtain ⟨n, rfl⟩ : ∃ n, b = a + n := ⟨b - a, by omega⟩
      have hk : R = (cntTo l t m a n 100 : Nat) := by
        rw [HR.out, countR, if_pos (HE.out.symm.trans h0)]
        have e1 : (((a + n : Nat) : Int) - (a : Int)).toNat = n := by omega
        rw [e1]; rfl
      have HK := Lib.hid hk
      have hE0 : (E != 0) = false := by simp [h0]
      have H0 := Lib.hid h0
      clear h0 hk hm
      go_wp2
      go_loopw [13, 37] (fun s x wr => ∃ k : Nat, k ≤ 100 ∧ x = .int .i64 k ∧ s = .int .i64 (cntTo l t m a n k : Nat) ∧ Below w'.heap.size w' wr) (fun _ x _ => 100 - (intOf x).toNat)
      case atStart => exact ⟨0, by omega, rfl, rfl, hb1⟩
      case round =>
        obtain ⟨k, hk, rfl, rfl, hbl⟩ := hrel
        obtain ⟨wo, rfl⟩ : ∃ wo : World, wo = wr := ⟨_, rfl⟩
        have hcb := cntTo_le l t m a n k
        have hcb2 : k * n ≤ 100 * 1000 := Nat.mul_le_mul hk (by omega)
        by_cases hlt : k < 100
        · go_wp2_with fail
          refine (days_any l t k hV A0 c0 B hc _ (hR.below hbl)).mono ?_
          rintro e w2 ⟨g, rfl, own, hb2⟩
          have hbl2 := hbl.trans (hb2.mono hbl.size)
          clear hb2 hbl
          by_cases ha : 1000 ≤ a
          · have hn : n ≤ 0 := by omega
            have h1000 : (1000 = a) = True := eq_true (by omega)
            have hr0 : rowN l t m a k n = 0 := by have := rowN_le l t m a k n; omega
            have HR0 := Lib.hid hr0; clear hr0
            go_wp2
            refine wp_loop_rounds 1 ?_
            rw [rounds_succ]
            go_wp2
            go_roundw
            case rel => exact ⟨k + 1, by omega, by go_num, by rw [cntTo_succ, HR0.out]; rfl, hbl2⟩
            case measure => simp [intOf]; omega
          · have hna : ¬ 1000 = a := by omega
            have hgl := own.lt
            go_wp2
            go_loopw [13, 48] (fun s y wi => ∃ j : Nat, j ≤ n ∧ y = .int .i64 j ∧ s = .int .i64 (cntTo l t m a n k + rowN l t m a k j : Nat) ∧ (∀ d, d < 1000 → wi.cell? ⟨g, d, none⟩ = some (.int .i64 (gi (dayL l t k) d))) ∧ Below w'.heap.size w' wi) (fun _ y _ => n - (intOf y).toNat)
            case atStart => exact ⟨0, by omega, rfl, rfl, fun d hd => own.cell d hd, hbl2⟩
            case round =>
              clear own hbl2
              obtain ⟨j, hj, rfl, rfl, hcs, hbl2⟩ := hrel
              have hrl := rowN_le l t m a k j
              by_cases hjn : j < n
              · have hc1 := hcs (a + j) (by omega)
                rw [gi_dayL l t k (a + j) (by omega)] at hc1
                have HCS := Lib.hid hcs; clear hcs
                have hns := rowN_succ l t m a k j
                unfold hasM at hns
                obtain ⟨kn, hkn⟩ : ∃ kn, kn = knw l t k (a + j : Nat) := ⟨_, rfl⟩
                rw [← hkn] at hns hc1
                clear hkn
                cases hq : (kn == m) with
                | true =>
                  rw [hq] at hns
                  have HNS := Lib.hid hns; clear hns
                  go_wp2
                  go_roundw
                  case rel => exact ⟨j + 1, by omega, by go_num, by rw [HNS.out, show one true = 1 from rfl]; go_num, HCS.out, hbl2⟩
                  case measure => simp [intOf]; omega
                | false =>
                  rw [hq] at hns
                  have HNS := Lib.hid hns; clear hns
                  go_wp2
                  go_roundw
                  case rel => exact ⟨j + 1, by omega, by go_num, by rw [HNS.out, show one false = 0 from rfl]; rfl, HCS.out, hbl2⟩
                  case measure => simp [intOf]; omega
              · obtain rfl : j = n := by omega
                clear hcs
                go_wp2
                go_roundw
                case rel => exact ⟨k + 1, by omega, by go_num, by rw [cntTo_succ], hbl2⟩
                case measure => simp [intOf]; omega
        · obtain rfl : k = 100 := by omega
          go_wp2
          go_ret2
          exact ⟨ret2 (by rw [HK.out]; rfl) (by rw [H0.out]; rfl), hbl⟩
    · have hE0 : (E != 0) = true := by simp [h0]
      have hk : R = 0 := by rw [HR.out, countR, if_neg (fun h => h0 (HE.out.trans h))]
      have HK := Lib.hid hk
      clear h0 hk
      go_wp2
      go_ret2
      exact ⟨ret2 (by rw [HK.out]; rfl) rfl, hb1⟩
  · have h0 : ¬ E = 0 := by
      rw [HE.out]; intro h; obtain ⟨_, q1, q2, q3, q4, q5⟩ := cE_ok h
      exact hgood ⟨inB_true.2 ⟨q1, q2⟩, q3, q4, q5⟩
    have hA : E = askd l false := by
      rw [HE.out, cE]
      congr 1
      rw [Bool.and_eq_false_iff]
      by_cases hm : inB m 0 9 = true
      · exact .inr (decide_eq_false fun h => hgood ⟨hm, h⟩)
      · exact .inl (by simpa using hm)
    have hk : R = 0 := by rw [HR.out, countR, if_neg (fun h => h0 (HE.out.trans h))]
    have HK := Lib.hid hk
    have HA := Lib.hid hA
    have hE0 : (E != 0) = true := by simp [h0]
    clear h0 hk hA
    cases hm : inB m 0 9 with
    | true =>
      have hcases : f < 0 ∨ (0 ≤ f ∧ u < f) ∨ (0 ≤ f ∧ f ≤ u ∧ 1000 < u) := by
        rcases Int.lt_or_le f 0 with h | h
        · exact .inl h
        · rcases Int.lt_or_le u f with h' | h'
          · exact .inr (.inl ⟨h, h'⟩)
          · rcases Int.lt_or_le 1000 u with h'' | h''
            · exact .inr (.inr ⟨h, h', h''⟩)
            · exact absurd ⟨hm, h, h', h''⟩ hgood
      clear hgood
      rcases hcases with h1 | ⟨h1, h2⟩ | ⟨h1, h2, h3⟩
      all_goals
        go_enter Try.func22, Try.ntmps22
        go_wp2_with fail
        refine (isMeal_any _ _).mono ?_
        rintro e w' ⟨rfl, rfl⟩
        rw [hm]
        go_wp2_with fail
        refine (asked_any l _ A0 c0 B _ hR hl).mono ?_
        rintro e w1 ⟨rfl, hb1⟩
        first
          | rw [← HA.out]
          | rw [show decide (u ≤ 1000) = false from decide_eq_false (by omega), ← HA.out]
        go_wp2
        go_ret2
        exact ⟨ret2 (by rw [HK.out]; rfl) rfl, hb1⟩
    | false =>
      clear hgood
      go_enter Try.func22, Try.ntmps22
      go_wp2_with fail
      refine (isMeal_any _ _).mono ?_
      rintro e w' ⟨rfl, rfl⟩
      rw [hm]
      go_wp2_with fail
      refine (asked_any l _ A0 c0 B _ hR hl).mono ?_
      rintro e w1 ⟨rfl, hb1⟩
      rw [← HA.out]
      go_wp2
      go_ret2
      exact ⟨ret2 (by rw [HK.out]; rfl) rfl, hb1⟩

theorem cE_other (l : List Fact) (f u m : Int) : cE l f u m = if vld l ≠ 0 then vld l else if inB m 0 9 = true ∧ 0 ≤ f ∧ f ≤ u ∧ u ≤ 1000 then 0 else 1 := by
  unfold cE askd
  by_cases hv : vld l = 0
  · simp only [hv, ne_eq, not_true_eq_false, if_false]
    by_cases hg : inB m 0 9 = true ∧ 0 ≤ f ∧ f ≤ u ∧ u ≤ 1000
    · rw [if_pos hg, if_pos (by rw [hg.1, decide_eq_true hg.2]; rfl)]
    · rw [if_neg hg, if_neg]
      rw [Bool.and_eq_true, decide_eq_true_eq]; exact hg
  · simp only [ne_eq, hv, not_false_eq_true, if_true]

set_option maxRecDepth 100000 in
set_option maxHeartbeats 1600000 in
theorem rcountX_any (l : List Fact) (t f u m : Int) (hl : l.length ≤ 1000000000) (A0 : Option Addr) (c0 B : Nat) (w : World) (hR : RF w B A0 l) :
    Calls Try.prog 23 #[.slice A0 l.length c0, .int .i64 t, .int .i64 f, .int .i64 u, .int .i64 m] w fun e w' => e = .returned (.tuple #[.int .i64 (countR l t f u m), .int .i64 (cE l f u m)]) ∧ Below w.heap.size w w' := by
  have hEE := cE_other l f u m
  obtain ⟨E, hE⟩ : ∃ E, E = cE l f u m := ⟨_, rfl⟩
  obtain ⟨R, hr⟩ : ∃ R, R = countR l t f u m := ⟨_, rfl⟩
  rw [← hE] at hEE
  rw [← hr, ← hE]
  have HR := Lib.hid hr; clear hr
  have HE := Lib.hid hE; clear hE
  have HEE := Lib.hid hEE; clear hEE
  have hneg : ¬ E = 0 → R = 0 := fun h0 => by rw [HR.out, countR, if_neg (fun h => h0 (HE.out.trans h))]
  have HNEG := Lib.hid hneg; clear hneg
  go_enter Try.func23, Try.ntmps23
  go_wp2_with fail
  refine (rvalidate_any l A0 c0 B _ hR hl).mono ?_
  rintro e w1 ⟨rfl, hb1⟩
  by_cases hv : vld l = 0
  · have hv1 : (vld l != 0) = false := by simp [hv]
    have HV := Lib.hid hv; clear hv
    have bad : ∀ (_ : ¬ (inB m 0 9 = true ∧ 0 ≤ f ∧ f ≤ u ∧ u ≤ 1000)), E = 1 ∧ R = 0 := fun h => by
      have h1 : E = 1 := by rw [HEE.out, if_neg (by rw [HV.out]; simp), if_neg h]
      exact ⟨h1, HNEG.out (by rw [h1]; decide)⟩
    have HB := Lib.hid bad; clear bad
    by_cases h1 : f < 0
    · have HX := Lib.hid (HB.out (fun h => by omega))
      go_wp2
      go_ret2
      exact ⟨ret2 (by rw [HX.out.2]; rfl) (by rw [HX.out.1]; rfl), hb1⟩
    · by_cases h2 : u < f
      · have HX := Lib.hid (HB.out (fun h => by omega))
        go_wp2
        go_ret2
        exact ⟨ret2 (by rw [HX.out.2]; rfl) (by rw [HX.out.1]; rfl), hb1⟩
      · by_cases h3 : 1000 < u
        · have HX := Lib.hid (HB.out (fun h => by omega))
          go_wp2
          go_ret2
          exact ⟨ret2 (by rw [HX.out.2]; rfl) (by rw [HX.out.1]; rfl), hb1⟩
        · cases hm : inB m 0 9 with
          | false =>
            have HX := Lib.hid (HB.out (fun h => by rw [hm] at h; exact absurd h.1 (by simp)))
            go_wp2_with (first | (go_at_call 67; refine (within_any _ _ _ _).mono ?_; rintro e w' ⟨rfl, rfl⟩))
            go_ret2
            exact ⟨ret2 (by rw [HX.out.2]; rfl) (by rw [HX.out.1]; rfl), hb1⟩
          | true =>
            have h0 : E = 0 := by rw [HEE.out, if_neg (by rw [HV.out]; simp), if_pos ⟨hm, by omega, by omega, by omega⟩]
            obtain ⟨a, rfl⟩ := Int.eq_ofNat_of_zero_le (show 0 ≤ f by omega)
            obtain ⟨b, rfl⟩ : ∃ b : Nat, u = b := Int.eq_ofNat_of_zero_le (by omega)
            obtain ⟨n, rfl⟩ : ∃ n, b = a + n := ⟨b - a, by omega⟩
            have hk : R = (sumN (fun j => (chTo l t m (a + j) 100).length) n : Nat) := by
              rw [HR.out, countR, if_pos (HE.out.symm.trans h0), countN_days]
              have e1 : (((a + n : Nat) : Int) - (a : Int)).toNat = n := by omega
              rw [e1]; rfl
            have HK := Lib.hid hk
            have H0 := Lib.hid h0
            clear h0 hk
            go_wp2_with (first | (go_at_call 67; refine (within_any _ _ _ _).mono ?_; rintro e w' ⟨rfl, rfl⟩))
            go_loopw [13, 14] (fun s x wr => ∃ d j S : Nat, j ≤ n ∧ d ≤ a + n ∧ Hid (d = a + j) ∧ S ≤ j * 100 ∧ Hid (S = sumN (fun j => (chTo l t m (a + j) 100).length) j) ∧ x = .int .i64 d ∧ s = .int .i64 S ∧ Below w.heap.size w wr) (fun _ x _ => 1000 - (intOf x).toNat)
            case atStart => exact ⟨a, 0, 0, by omega, by omega, rfl, by omega, rfl, rfl, rfl, hb1⟩
            case round =>
              obtain ⟨d, j, S, hj, hdn, HD, hsl, HS, rfl, rfl, hbl⟩ := hrel
              by_cases hjn : d < a + n
              · have hcl := chTo_le l t m d 100
                go_wp2_with fail
                refine (rchildren_any l t m d hl A0 c0 B _ (hR.below hbl)).mono ?_
                rintro e w2 ⟨A, c, rfl, own2, hb2⟩
                have hbl2 := hbl.trans (hb2.mono hbl.size)
                clear own2 hb2
                go_wp2
                go_roundw
                case rel => exact ⟨d + 1, j + 1, S + (chTo l t m d 100).length, by have := HD.out; omega, by omega, by have := HD.out; show d + 1 = a + (j + 1); omega, by omega, by have h1 := HS.out; have h2 := HD.out; subst h2; simp only [sumN]; rw [← h1]; rfl, by go_num, by go_num, hbl2⟩
                case measure => simp [intOf]; omega
              · go_wp2
                go_ret2
                have hjn' : j = n := by have := HD.out; omega
                exact ⟨ret2 (by rw [HK.out, ← hjn', ← HS.out]; rfl) (by rw [H0.out]; rfl), hbl⟩
  · have hv1 : (vld l != 0) = true := by simp [hv]
    have h0 : E = vld l := by rw [HEE.out, if_pos hv]
    have hk : R = 0 := HNEG.out (by rw [h0]; exact hv)
    have HX := Lib.hid hk
    have H0 := Lib.hid h0
    clear hk h0 hv
    go_wp2
    go_ret2
    exact ⟨ret2 (by rw [HX.out]; rfl) (by rw [H0.out]; rfl), hb1⟩

end Go.Proofs.Ytoopmancobfjeaa
