/-
  Walks: Bill, of the program and of the reference.
-/
import Derived.Test.YtoopmancobfjeaaU
namespace Go.Proofs.Ytoopmancobfjeaa
set_option linter.unusedVariables false
set_option linter.unusedSimpArgs false
open Go.RowKit

set_option maxRecDepth 100000 in
set_option maxHeartbeats 1600000 in
theorem billX_any (l : List Fact) (r : List Sp) (p : List Int) (cut c f t : Int) (hl : l.length ≤ 1000000000) (hrl : r.length ≤ 1000000000) (hpl : p.length ≤ 1000000000) (A1 A2 A3 : Option Addr) (c1 c2 c3 B : Nat) (hc1 : l.length ≤ c1) (w : World) (h1 : RF w B A1 l) (h2 : RS w A2 r) (h3 : RN w A3 p) :
    Calls Try.prog 48 #[.slice A1 l.length c1, .slice A2 r.length c2, .slice A3 p.length c3, .int .i64 cut, .int .i64 c, .int .i64 f, .int .i64 t] w fun e w' => e = .returned (.tuple #[.int .i64 (billR l r p cut c f t), .int .i64 (billE l r p cut c f t)]) ∧ Below w.heap.size w w' := by
  obtain ⟨bb, hbb⟩ : ∃ bb, bE l r p cut = bb := ⟨_, rfl⟩
  obtain ⟨E, hE⟩ : ∃ E, E = billE l r p cut c f t := ⟨_, rfl⟩
  have hE2 := hE.trans (billE_split l r p cut c f t bb hbb)
  obtain ⟨R, hR⟩ : ∃ R, R = billR l r p cut c f t := ⟨_, rfl⟩
  have hR2 : R = if E = 0 then billTo l r p cut c f (t - f).toNat else 0 := by rw [hR, hE]; rfl
  rw [← hE, ← hR]
  have HE := Lib.hid hE2
  have HR := Lib.hid hR2
  have HBB := Lib.hid hbb
  clear hE hE2 hR hR2 hbb
  go_enter Try.func48, Try.ntmps48
  go_wp2_with fail
  refine (billed_any l r p cut hl hrl hpl A1 A2 A3 c1 c2 c3 B _ h1 h2 h3).mono ?_
  rintro e w1 ⟨rfl, hb1⟩
  rw [HBB.out]
  by_cases h0 : bb = 0
  · obtain ⟨v1, v2, v3⟩ := bE_ok (HBB.out.trans h0)
    have hV := Vld.of v1
    have hr60 := (vrt_ok v2).1
    have hb0 : (bb != 0) = false := by simp [h0]
    have hEE : E = if inB c 0 99 && daysB f t then 0 else 1 := by rw [HE.out, if_neg (by simp [h0])]
    have HEE := Lib.hid hEE
    clear h0 hEE v1 v2
    cases hi : inB c 0 99 with
    | false =>
      have hEv : E = 1 := by rw [HEE.out, hi]; rfl
      have hRv : R = 0 := by rw [HR.out, hEv]; rfl
      have H1 := Lib.hid hEv
      have H2 := Lib.hid hRv
      clear hEv hRv
      go_wp2_with (go_at_call 58; refine (isChild_any _ _).mono ?_; rintro e w' ⟨rfl, hw'⟩; subst hw')
      go_ret2
      exact ⟨ret2 (by rw [H2.out]; rfl) (by rw [H1.out]; rfl), hb1⟩
    | true =>
      by_cases g1 : f < 0
      · have hEv : E = 1 := by rw [HEE.out, hi, (show daysB f t = false from decide_eq_false (by omega))]; rfl
        have hRv : R = 0 := by rw [HR.out, hEv]; rfl
        have H1 := Lib.hid hEv
        have H2 := Lib.hid hRv
        clear hEv hRv
        go_wp2_with (go_at_call 58; refine (isChild_any _ _).mono ?_; rintro e w' ⟨rfl, hw'⟩; subst hw')
        go_ret2
        exact ⟨ret2 (by rw [H2.out]; rfl) (by rw [H1.out]; rfl), hb1⟩
      · by_cases g2 : t < f
        · have hEv : E = 1 := by rw [HEE.out, hi, (show daysB f t = false from decide_eq_false (by omega))]; rfl
          have hRv : R = 0 := by rw [HR.out, hEv]; rfl
          have H1 := Lib.hid hEv
          have H2 := Lib.hid hRv
          clear hEv hRv
          go_wp2_with (go_at_call 58; refine (isChild_any _ _).mono ?_; rintro e w' ⟨rfl, hw'⟩; subst hw')
          go_ret2
          exact ⟨ret2 (by rw [H2.out]; rfl) (by rw [H1.out]; rfl), hb1⟩
        · by_cases g3 : 1000 < t
          · have hEv : E = 1 := by rw [HEE.out, hi, (show daysB f t = false from decide_eq_false (by omega))]; rfl
            have hRv : R = 0 := by rw [HR.out, hEv]; rfl
            have H1 := Lib.hid hEv
            have H2 := Lib.hid hRv
            clear hEv hRv
            go_wp2_with (go_at_call 58; refine (isChild_any _ _).mono ?_; rintro e w' ⟨rfl, hw'⟩; subst hw')
            go_ret2
            exact ⟨ret2 (by rw [H2.out]; rfl) (by rw [H1.out]; rfl), hb1⟩
          · have hEv : E = 0 := by rw [HEE.out, hi, (show daysB f t = true from decide_eq_true (by omega))]; rfl
            have hRv : R = billTo l r p cut c f (t - f).toNat := by rw [HR.out, if_pos hEv]
            have H1 := Lib.hid hEv
            have H2 := Lib.hid hRv
            clear hEv hRv
            go_wp2_with (go_at_call 58; refine (isChild_any _ _).mono ?_; rintro e w' ⟨rfl, hw'⟩; subst hw')
            go_loopw [17, 18] (fun s x wr => ∃ k : Nat, f + k ≤ t ∧ x = .int .i64 (f + k) ∧ s = .int .i64 (billTo l r p cut c f k) ∧ Below w.heap.size w wr) (fun _ x _ => (t - intOf x).toNat)
            case atStart => exact ⟨0, by omega, by go_num, rfl, hb1⟩
            case round =>
              obtain ⟨k, hk, rfl, rfl, hbl⟩ := hrel
              by_cases hlt : f + k < t
              · have hbt := billTo_bd hV (r := r) v3 c f k
                have hpb := payI_bd hV (r := r) v3 c (f + k)
                have hnx : billTo l r p cut c f (k + 1) = billTo l r p cut c f k + payI l r p cut c (f + k) := rfl
                have HNX := Lib.hid hnx; clear hnx
                go_wp2_with fail
                refine (pay_any l r p cut c (f + k) hV v3 hr60 (by omega) (by omega) A1 A2 A3 c1 c2 c3 B hc1 _ (h1.below hbl) (h2.below hbl) (h3.below hbl)).mono ?_
                rintro e w2 ⟨rfl, hb2⟩
                go_wp2
                go_roundw
                case rel => exact ⟨k + 1, by omega, by go_num, by rw [HNX.out], hbl.trans (hb2.mono hbl.size)⟩
                case measure => simp [intOf]; omega
              · have hkt : (t - f).toNat = k := by omega
                have HKT := Lib.hid hkt; clear hkt
                go_wp2
                go_ret2
                exact ⟨ret2 (by rw [H2.out, HKT.out]; rfl) (by rw [H1.out]; rfl), hbl⟩
  · have hb0 : (bb != 0) = true := by simp [h0]
    have hEv : E = bb := by rw [HE.out, if_pos h0]
    have hRv : R = 0 := by rw [HR.out, if_neg (by rw [hEv]; exact h0)]
    have H1 := Lib.hid hEv
    have H2 := Lib.hid hRv
    clear hEv hRv h0
    go_wp2
    go_ret2
    exact ⟨ret2 (by rw [H2.out]; rfl) (by rw [H1.out]; rfl), hb1⟩

set_option maxRecDepth 100000 in
set_option maxHeartbeats 1600000 in
theorem rbillX_any (l : List Fact) (r : List Sp) (p : List Int) (cut c f t : Int) (hl : l.length ≤ 1000000000) (hrl : r.length ≤ 1000000000) (hpl : p.length ≤ 1000000000) (A1 A2 A3 : Option Addr) (c1 c2 c3 B : Nat) (w : World) (h1 : RF w B A1 l) (h2 : RS w A2 r) (h3 : RN w A3 p) :
    Calls Try.prog 49 #[.slice A1 l.length c1, .slice A2 r.length c2, .slice A3 p.length c3, .int .i64 cut, .int .i64 c, .int .i64 f, .int .i64 t] w fun e w' => e = .returned (.tuple #[.int .i64 (billR l r p cut c f t), .int .i64 (billE l r p cut c f t)]) ∧ Below w.heap.size w w' := by
  obtain ⟨bb, hbb⟩ : ∃ bb, bE l r p cut = bb := ⟨_, rfl⟩
  obtain ⟨E, hE⟩ : ∃ E, E = billE l r p cut c f t := ⟨_, rfl⟩
  have hE2 := hE.trans (billE_split l r p cut c f t bb hbb)
  obtain ⟨R, hR⟩ : ∃ R, R = billR l r p cut c f t := ⟨_, rfl⟩
  have hR2 : R = if E = 0 then billTo l r p cut c f (t - f).toNat else 0 := by rw [hR, hE]; rfl
  rw [← hE, ← hR]
  have HE := Lib.hid hE2
  have HR := Lib.hid hR2
  have HBB := Lib.hid hbb
  clear hE hE2 hR hR2 hbb
  go_enter Try.func49, Try.ntmps49
  go_wp2_with fail
  refine (rbilled_any l r p cut hl hrl hpl A1 A2 A3 c1 c2 c3 B _ h1 h2 h3).mono ?_
  rintro e w1 ⟨rfl, hb1⟩
  rw [HBB.out]
  by_cases h0 : bb = 0
  · obtain ⟨v1, v2, v3⟩ := bE_ok (HBB.out.trans h0)
    have hV := Vld.of v1
    have hr60 := (vrt_ok v2).1
    have hb0 : (bb != 0) = false := by simp [h0]
    have hEE : E = if inB c 0 99 && daysB f t then 0 else 1 := by rw [HE.out, if_neg (by simp [h0])]
    have HEE := Lib.hid hEE
    clear h0 hEE v1 v2
    cases hi : inB c 0 99 with
    | false =>
      have hEv : E = 1 := by rw [HEE.out, hi]; rfl
      have hRv : R = 0 := by rw [HR.out, hEv]; rfl
      have H1 := Lib.hid hEv
      have H2 := Lib.hid hRv
      clear hEv hRv
      go_wp2_with (go_at_call 67; refine (within_any _ _ _ _).mono ?_; rintro e w' ⟨rfl, hw'⟩; subst hw')
      go_ret2
      exact ⟨ret2 (by rw [H2.out]; rfl) (by rw [H1.out]; rfl), hb1⟩
    | true =>
      by_cases g1 : f < 0
      · have hEv : E = 1 := by rw [HEE.out, hi, (show daysB f t = false from decide_eq_false (by omega))]; rfl
        have hRv : R = 0 := by rw [HR.out, hEv]; rfl
        have H1 := Lib.hid hEv
        have H2 := Lib.hid hRv
        clear hEv hRv
        go_wp2_with (go_at_call 67; refine (within_any _ _ _ _).mono ?_; rintro e w' ⟨rfl, hw'⟩; subst hw')
        go_ret2
        exact ⟨ret2 (by rw [H2.out]; rfl) (by rw [H1.out]; rfl), hb1⟩
      · by_cases g2 : t < f
        · have hEv : E = 1 := by rw [HEE.out, hi, (show daysB f t = false from decide_eq_false (by omega))]; rfl
          have hRv : R = 0 := by rw [HR.out, hEv]; rfl
          have H1 := Lib.hid hEv
          have H2 := Lib.hid hRv
          clear hEv hRv
          go_wp2_with (go_at_call 67; refine (within_any _ _ _ _).mono ?_; rintro e w' ⟨rfl, hw'⟩; subst hw')
          go_ret2
          exact ⟨ret2 (by rw [H2.out]; rfl) (by rw [H1.out]; rfl), hb1⟩
        · by_cases g3 : 1000 < t
          · have hEv : E = 1 := by rw [HEE.out, hi, (show daysB f t = false from decide_eq_false (by omega))]; rfl
            have hRv : R = 0 := by rw [HR.out, hEv]; rfl
            have H1 := Lib.hid hEv
            have H2 := Lib.hid hRv
            clear hEv hRv
            go_wp2_with (go_at_call 67; refine (within_any _ _ _ _).mono ?_; rintro e w' ⟨rfl, hw'⟩; subst hw')
            go_ret2
            exact ⟨ret2 (by rw [H2.out]; rfl) (by rw [H1.out]; rfl), hb1⟩
          · have hEv : E = 0 := by rw [HEE.out, hi, (show daysB f t = true from decide_eq_true (by omega))]; rfl
            have hRv : R = billTo l r p cut c f (t - f).toNat := by rw [HR.out, if_pos hEv]
            have H1 := Lib.hid hEv
            have H2 := Lib.hid hRv
            clear hEv hRv
            go_wp2_with (go_at_call 67; refine (within_any _ _ _ _).mono ?_; rintro e w' ⟨rfl, hw'⟩; subst hw')
            go_loop [17, 18] (fun s x => ∃ k : Nat, f + k ≤ t ∧ x = .int .i64 (f + k) ∧ s = .int .i64 (billTo l r p cut c f k)) (fun _ x => (t - intOf x).toNat)
            case atStart => exact ⟨0, by omega, by go_num, rfl⟩
            case round =>
              obtain ⟨k, hk, rfl, rfl⟩ := hrel
              by_cases hlt : f + k < t
              · have hbt := billTo_bd hV (r := r) v3 c f k
                have hpb := payI_bd hV (r := r) v3 c (f + k)
                have hnx : billTo l r p cut c f (k + 1) = billTo l r p cut c f k + payI l r p cut c (f + k) := rfl
                have HNX := Lib.hid hnx; clear hnx
                go_wp2_with fail
                refine (rpay_any l r p cut c (f + k) hV v3 hr60 (by omega) (by omega) A1 A2 A3 c1 c2 c3 B _ (h1.below hb1) (h2.below hb1) (h3.below hb1)).mono ?_
                rintro e w2 ⟨rfl, rfl⟩
                go_wp2
                go_round
                case rel => exact ⟨k + 1, by omega, by go_num, by rw [HNX.out]⟩
                case measure => simp [intOf]; omega
              · have hkt : (t - f).toNat = k := by omega
                have HKT := Lib.hid hkt; clear hkt
                go_wp2
                go_ret2
                exact ⟨ret2 (by rw [H2.out, HKT.out]; rfl) (by rw [H1.out]; rfl), hb1⟩
  · have hb0 : (bb != 0) = true := by simp [h0]
    have hEv : E = bb := by rw [HE.out, if_pos h0]
    have hRv : R = 0 := by rw [HR.out, if_neg (by rw [hEv]; exact h0)]
    have H1 := Lib.hid hEv
    have H2 := Lib.hid hRv
    clear hEv hRv h0
    go_wp2
    go_ret2
    exact ⟨ret2 (by rw [H2.out]; rfl) (by rw [H1.out]; rfl), hb1⟩

end Go.Proofs.Ytoopmancobfjeaa
