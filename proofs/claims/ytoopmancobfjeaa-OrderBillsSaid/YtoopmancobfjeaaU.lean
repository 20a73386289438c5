/-
  Walks: Pay and Bill, of the program and of the reference.
-/
import Derived.Test.YtoopmancobfjeaaT
namespace Go.Proofs.Ytoopmancobfjeaa
set_option linter.unusedVariables false
set_option linter.unusedSimpArgs false
open Go.RowKit

/-! ### plain -/
def payE (l : List Fact) (r : List Sp) (p : List Int) (cut c d : Int) : Int := if bE l r p cut ≠ 0 then bE l r p cut else if inB c 0 99 && inB d 0 999 then 0 else 1
def payR (l : List Fact) (r : List Sp) (p : List Int) (cut c d : Int) : Int := if payE l r p cut c d = 0 then payI l r p cut c d else 0
def daysB (f t : Int) : Bool := decide (0 ≤ f ∧ f ≤ t ∧ t ≤ 1000)
def billE (l : List Fact) (r : List Sp) (p : List Int) (cut c f t : Int) : Int := if bE l r p cut ≠ 0 then bE l r p cut else if inB c 0 99 && daysB f t then 0 else 1
def billTo (l : List Fact) (r : List Sp) (p : List Int) (cut c f : Int) : Nat → Int
  | 0 => 0
  | k + 1 => billTo l r p cut c f k + payI l r p cut c (f + k)
def billR (l : List Fact) (r : List Sp) (p : List Int) (cut c f t : Int) : Int := if billE l r p cut c f t = 0 then billTo l r p cut c f (t - f).toNat else 0
theorem billTo_bd {l : List Fact} (hV : Vld l) {r : List Sp} {p : List Int} {cut : Int} (h : bG p cut = true) (c f : Int) (k : Nat) : 0 ≤ billTo l r p cut c f k ∧ billTo l r p cut c f k ≤ k * 10000 := by
  induction k with
  | zero => simp [billTo]
  | succ k ih => have := payI_bd hV (r := r) h c (f + k); simp only [billTo]; omega
theorem billTo_add (l : List Fact) (r : List Sp) (p : List Int) (cut c f : Int) (a b : Nat) : billTo l r p cut c f (a + b) = billTo l r p cut c f a + billTo l r p cut c (f + a) b := by
  induction b with
  | zero => simp [billTo]
  | succ b ih =>
    rw [← Nat.add_assoc]; simp only [billTo]; rw [ih]
    rw [show f + ((a + b : Nat) : Int) = f + (a : Int) + (b : Int) by omega]; omega
theorem payE_split (l : List Fact) (r : List Sp) (p : List Int) (cut c d : Int) (bb : Int) (b : bE l r p cut = bb) : payE l r p cut c d = if bb ≠ 0 then bb else if inB c 0 99 && inB d 0 999 then 0 else 1 := by subst b; rfl
theorem billE_split (l : List Fact) (r : List Sp) (p : List Int) (cut c f t : Int) (bb : Int) (b : bE l r p cut = bb) : billE l r p cut c f t = if bb ≠ 0 then bb else if inB c 0 99 && daysB f t then 0 else 1 := by subst b; rfl

set_option maxRecDepth 100000 in
set_option maxHeartbeats 1600000 in
theorem rbilled_any (l : List Fact) (r : List Sp) (p : List Int) (cut : Int) (hl : l.length ≤ 1000000000) (hrl : r.length ≤ 1000000000) (hpl : p.length ≤ 1000000000) (A1 A2 A3 : Option Addr) (c1 c2 c3 B : Nat) (w : World) (h1 : RF w B A1 l) (h2 : RS w A2 r) (h3 : RN w A3 p) :
    Calls Try.prog 81 #[.slice A1 l.length c1, .slice A2 r.length c2, .slice A3 p.length c3, .int .i64 cut] w fun e w' => e = .returned (.int .i64 (bE l r p cut)) ∧ Below w.heap.size w w' := by
  obtain ⟨E, hE⟩ : ∃ E, E = bE l r p cut := ⟨_, rfl⟩
  rw [← hE]
  have HE := Lib.hid hE; clear hE
  go_enter Try.func81, Try.ntmps81
  go_wp2_with fail
  refine (rvalidate_any l A1 c1 B _ h1 hl).mono ?_
  rintro e w1 ⟨rfl, hb1⟩
  by_cases hv : vld l = 0
  · have hv1 : (vld l != 0) = false := by simp [hv]
    have HV := Lib.hid hv; clear hv
    go_wp2_with fail
    refine (rvrights_any r A2 c2 _ (h2.below hb1) hrl).mono ?_
    rintro e w2 ⟨rfl, hb2⟩
    have hb2' := hb1.trans (hb2.mono hb1.size)
    clear hb2
    by_cases hr : vrt r = 0
    · have hr1 : (vrt r != 0) = false := by simp [hr]
      have hEE : E = if bG p cut then 0 else 1 := by rw [HE.out, bE, if_neg (by rw [HV.out]; simp), if_neg (by rw [hr]; simp)]
      have HEE := Lib.hid hEE
      clear hr hEE
      by_cases hp9 : p.length = 9
      · have hp9' : ((p.length : Int) != 9) = false := by simp [hp9]
        have hp9n : 9 ≤ p.length ∧ p.length ≤ 9 := by omega
        have HP := Lib.hid hp9; clear hp9
        cases hc : inB cut 0 10000 with
        | false =>
          have hbad : E = 1 := by rw [HEE.out, bG, hc]; simp
          have HB := Lib.hid hbad; clear hbad
          go_wp2_with (go_at_call 67; refine (within_any _ _ _ _).mono ?_; rintro e w' ⟨rfl, rfl⟩)
          go_ret
          exact ⟨ret_int (by rw [HB.out]), hb2'⟩
        | true =>
          have hEp : E = if prAll p p.length then 0 else 1 := by rw [HEE.out, bG, hc, decide_eq_true HP.out]; simp
          have HEP := Lib.hid hEp; clear hEp
          go_wp2_with (go_at_call 67; refine (within_any _ _ _ _).mono ?_; rintro e w' ⟨rfl, rfl⟩)
          go_loop [10] (fun x => ∃ k : Nat, k ≤ p.length ∧ x = .int .i64 k ∧ Hid (prAll p k = true)) (fun x => p.length - (intOf x).toNat)
          case atStart => exact ⟨0, by omega, rfl, rfl⟩
          case round =>
            obtain ⟨k, hk, rfl, HK⟩ := hrel
            by_cases hlt : k < p.length
            · obtain ⟨ad, rfl, hab, c0⟩ := (h3.below hb2').at_ hlt
              cases hq : inB (gi p k) 0 10000 with
              | false =>
                have hf : E = 1 := by
                  rw [HEP.out]
                  cases ha : prAll p p.length with
                  | false => rfl
                  | true => rw [(prAll_iff _ _).1 ha k hlt] at hq; cases hq
                have HF := Lib.hid hf
                clear hf
                go_wp2_with (go_at_call 67; refine (within_any _ _ _ _).mono ?_; rintro e w' ⟨rfl, rfl⟩)
                go_ret
                exact ⟨ret_int (by rw [HF.out]), hb2'⟩
              | true =>
                have hnx : prAll p (k + 1) = true := by simp only [prAll, HK.out, hq]; rfl
                have HNX := Lib.hid hnx
                clear hnx
                go_wp2_with (go_at_call 67; refine (within_any _ _ _ _).mono ?_; rintro e w' ⟨rfl, rfl⟩)
                go_round
                case rel => exact ⟨k + 1, by omega, by go_num, HNX⟩
                case measure => simp [intOf]; omega
            · have hf : E = 0 := by rw [HEP.out, show p.length = k by omega, HK.out]; rfl
              have HF := Lib.hid hf
              clear hf
              go_wp2
              go_ret
              exact ⟨ret_int (by rw [HF.out]), hb2'⟩
      · have hp9' : ((p.length : Int) != 9) = true := by simp; omega
        have hbad : E = 1 := by rw [HEE.out, bG, decide_eq_false hp9]; rfl
        have HB := Lib.hid hbad
        clear hbad hp9
        go_wp2
        go_ret
        exact ⟨ret_int (by rw [HB.out]), hb2'⟩
    · have hr1 : (vrt r != 0) = true := by simp [hr]
      have hEE : E = vrt r := by rw [HE.out, bE, if_neg (by rw [HV.out]; simp), if_pos hr]
      have HEE := Lib.hid hEE
      clear hr hEE
      go_wp2
      go_ret
      exact ⟨ret_int (by rw [HEE.out]), hb2'⟩
  · have hv1 : (vld l != 0) = true := by simp [hv]
    have hEE : E = vld l := by rw [HE.out, bE, if_pos hv]
    have HEE := Lib.hid hEE
    clear hv hEE
    go_wp2
    go_ret
    exact ⟨ret_int (by rw [HEE.out]), hb1⟩

set_option maxRecDepth 100000 in
set_option maxHeartbeats 1600000 in
theorem payX_any (l : List Fact) (r : List Sp) (p : List Int) (cut c d : Int) (hl : l.length ≤ 1000000000) (hrl : r.length ≤ 1000000000) (hpl : p.length ≤ 1000000000) (A1 A2 A3 : Option Addr) (c1 c2 c3 B : Nat) (hc1 : l.length ≤ c1) (w : World) (h1 : RF w B A1 l) (h2 : RS w A2 r) (h3 : RN w A3 p) :
    Calls Try.prog 46 #[.slice A1 l.length c1, .slice A2 r.length c2, .slice A3 p.length c3, .int .i64 cut, .int .i64 c, .int .i64 d] w fun e w' => e = .returned (.tuple #[.int .i64 (payR l r p cut c d), .int .i64 (payE l r p cut c d)]) ∧ Below w.heap.size w w' := by
  obtain ⟨bb, hbb⟩ : ∃ bb, bE l r p cut = bb := ⟨_, rfl⟩
  obtain ⟨E, hE⟩ : ∃ E, E = payE l r p cut c d := ⟨_, rfl⟩
  have hE2 := hE.trans (payE_split l r p cut c d bb hbb)
  obtain ⟨R, hR⟩ : ∃ R, R = payR l r p cut c d := ⟨_, rfl⟩
  have hR2 : R = if E = 0 then payI l r p cut c d else 0 := by rw [hR, hE]; rfl
  rw [← hE, ← hR]
  have HE := Lib.hid hE2
  have HR := Lib.hid hR2
  have HBB := Lib.hid hbb
  clear hE hE2 hR hR2 hbb
  go_enter Try.func46, Try.ntmps46
  go_wp2_with fail
  refine (billed_any l r p cut hl hrl hpl A1 A2 A3 c1 c2 c3 B _ h1 h2 h3).mono ?_
  rintro e w1 ⟨rfl, hb1⟩
  rw [HBB.out]
  by_cases h0 : bb = 0
  · obtain ⟨v1, v2, v3⟩ := bE_ok (HBB.out.trans h0)
    have hV := Vld.of v1
    have hr60 := (vrt_ok v2).1
    have hb0 : (bb != 0) = false := by simp [h0]
    have hEE : E = if inB c 0 99 && inB d 0 999 then 0 else 1 := by rw [HE.out, if_neg (by simp [h0])]
    have HEE := Lib.hid hEE
    clear h0 hEE v1 v2
    cases hi : inB c 0 99 with
    | false =>
      have hEv : E = 1 := by rw [HEE.out, hi]; rfl
      have hRv : R = 0 := by rw [HR.out, hEv]; rfl
      have H1 := Lib.hid hEv
      have H2 := Lib.hid hRv
      clear hEv hRv
      go_wp2_with (go_at_call 58; refine (isChild_any _ _).mono ?_; rintro e w' ⟨rfl, hw'⟩; subst hw')
      go_ret2
      exact ⟨ret2 (by rw [H2.out]; rfl) (by rw [H1.out]; rfl), hb1⟩
    | true =>
      cases hd : inB d 0 999 with
      | false =>
        have hEv : E = 1 := by rw [HEE.out, hi, hd]; rfl
        have hRv : R = 0 := by rw [HR.out, hEv]; rfl
        have H1 := Lib.hid hEv
        have H2 := Lib.hid hRv
        clear hEv hRv
        go_wp2_with (first | (go_at_call 58; refine (isChild_any _ _).mono ?_; rintro e w' ⟨rfl, hw'⟩; subst hw') | (go_at_call 72; refine (isDay_any _ _).mono ?_; rintro e w' ⟨rfl, hw'⟩; subst hw'))
        go_ret2
        exact ⟨ret2 (by rw [H2.out]; rfl) (by rw [H1.out]; rfl), hb1⟩
      | true =>
        have hdb := inB_true.1 hd
        have hEv : E = 0 := by rw [HEE.out, hi, hd]; rfl
        have hRv : R = payI l r p cut c d := by rw [HR.out, if_pos hEv]
        have H1 := Lib.hid hEv
        have H2 := Lib.hid hRv
        clear hEv hRv
        go_wp2_with (first | (go_at_call 58; refine (isChild_any _ _).mono ?_; rintro e w' ⟨rfl, hw'⟩; subst hw') | (go_at_call 72; refine (isDay_any _ _).mono ?_; rintro e w' ⟨rfl, hw'⟩; subst hw') | (go_at_call 80; refine (pay_any l r p cut c d hV v3 hr60 hdb.1 hdb.2 A1 A2 A3 c1 c2 c3 B hc1 _ (h1.below hb1) (h2.below hb1) (h3.below hb1)).mono ?_; rintro e w2 ⟨rfl, hb2⟩))
        go_ret2
        exact ⟨ret2 (by rw [H2.out]; rfl) (by rw [H1.out]; rfl), hb1.trans (hb2.mono hb1.size)⟩
  · have hb0 : (bb != 0) = true := by simp [h0]
    have hEv : E = bb := by rw [HE.out, if_pos h0]
    have hRv : R = 0 := by rw [HR.out, if_neg (by rw [hEv]; exact h0)]
    have H1 := Lib.hid hEv
    have H2 := Lib.hid hRv
    clear hEv hRv h0
    go_wp2
    go_ret2
    exact ⟨ret2 (by rw [H2.out]; rfl) (by rw [H1.out]; rfl), hb1⟩

set_option maxRecDepth 100000 in
set_option maxHeartbeats 1600000 in
theorem rpayX_any (l : List Fact) (r : List Sp) (p : List Int) (cut c d : Int) (hl : l.length ≤ 1000000000) (hrl : r.length ≤ 1000000000) (hpl : p.length ≤ 1000000000) (A1 A2 A3 : Option Addr) (c1 c2 c3 B : Nat) (w : World) (h1 : RF w B A1 l) (h2 : RS w A2 r) (h3 : RN w A3 p) :
    Calls Try.prog 47 #[.slice A1 l.length c1, .slice A2 r.length c2, .slice A3 p.length c3, .int .i64 cut, .int .i64 c, .int .i64 d] w fun e w' => e = .returned (.tuple #[.int .i64 (payR l r p cut c d), .int .i64 (payE l r p cut c d)]) ∧ Below w.heap.size w w' := by
  obtain ⟨bb, hbb⟩ : ∃ bb, bE l r p cut = bb := ⟨_, rfl⟩
  obtain ⟨E, hE⟩ : ∃ E, E = payE l r p cut c d := ⟨_, rfl⟩
  have hE2 := hE.trans (payE_split l r p cut c d bb hbb)
  obtain ⟨R, hR⟩ : ∃ R, R = payR l r p cut c d := ⟨_, rfl⟩
  have hR2 : R = if E = 0 then payI l r p cut c d else 0 := by rw [hR, hE]; rfl
  rw [← hE, ← hR]
  have HE := Lib.hid hE2
  have HR := Lib.hid hR2
  have HBB := Lib.hid hbb
  clear hE hE2 hR hR2 hbb
  go_enter Try.func47, Try.ntmps47
  go_wp2_with fail
  refine (rbilled_any l r p cut hl hrl hpl A1 A2 A3 c1 c2 c3 B _ h1 h2 h3).mono ?_
  rintro e w1 ⟨rfl, hb1⟩
  rw [HBB.out]
  by_cases h0 : bb = 0
  · obtain ⟨v1, v2, v3⟩ := bE_ok (HBB.out.trans h0)
    have hV := Vld.of v1
    have hr60 := (vrt_ok v2).1
    have hb0 : (bb != 0) = false := by simp [h0]
    have hEE : E = if inB c 0 99 && inB d 0 999 then 0 else 1 := by rw [HE.out, if_neg (by simp [h0])]
    have HEE := Lib.hid hEE
    clear h0 hEE v1 v2
    cases hi : inB c 0 99 with
    | false =>
      have hEv : E = 1 := by rw [HEE.out, hi]; rfl
      have hRv : R = 0 := by rw [HR.out, hEv]; rfl
      have H1 := Lib.hid hEv
      have H2 := Lib.hid hRv
      clear hEv hRv
      go_wp2_with (go_at_call 67; refine (within_any _ _ _ _).mono ?_; rintro e w' ⟨rfl, hw'⟩; subst hw')
      go_ret2
      exact ⟨ret2 (by rw [H2.out]; rfl) (by rw [H1.out]; rfl), hb1⟩
    | true =>
      cases hd : inB d 0 999 with
      | false =>
        have hEv : E = 1 := by rw [HEE.out, hi, hd]; rfl
        have hRv : R = 0 := by rw [HR.out, hEv]; rfl
        have H1 := Lib.hid hEv
        have H2 := Lib.hid hRv
        clear hEv hRv
        go_wp2_with (go_at_call 67; refine (within_any _ _ _ _).mono ?_; rintro e w' ⟨rfl, hw'⟩; subst hw')
        go_ret2
        exact ⟨ret2 (by rw [H2.out]; rfl) (by rw [H1.out]; rfl), hb1⟩
      | true =>
        have hdb := inB_true.1 hd
        have hEv : E = 0 := by rw [HEE.out, hi, hd]; rfl
        have hRv : R = payI l r p cut c d := by rw [HR.out, if_pos hEv]
        have H1 := Lib.hid hEv
        have H2 := Lib.hid hRv
        clear hEv hRv
        go_wp2_with (first | (go_at_call 67; refine (within_any _ _ _ _).mono ?_; rintro e w' ⟨rfl, hw'⟩; subst hw') | (go_at_call 82; refine (rpay_any l r p cut c d hV v3 hr60 hdb.1 hdb.2 A1 A2 A3 c1 c2 c3 B _ (h1.below hb1) (h2.below hb1) (h3.below hb1)).mono ?_; rintro e w2 ⟨rfl, rfl⟩))
        go_ret2
        exact ⟨ret2 (by rw [H2.out]; rfl) (by rw [H1.out]; rfl), hb1⟩
  · have hb0 : (bb != 0) = true := by simp [h0]
    have hEv : E = bb := by rw [HE.out, if_pos h0]
    have hRv : R = 0 := by rw [HR.out, if_neg (by rw [hEv]; exact h0)]
    have H1 := Lib.hid hEv
    have H2 := Lib.hid hRv
    clear hEv hRv h0
    go_wp2
    go_ret2
    exact ⟨ret2 (by rw [H2.out]; rfl) (by rw [H1.out]; rfl), hb1⟩

end Go.Proofs.Ytoopmancobfjeaa
