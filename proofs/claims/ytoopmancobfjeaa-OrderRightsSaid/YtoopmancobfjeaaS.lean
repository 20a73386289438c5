/-
  Walks: what is paid.
-/
import Derived.Test.YtoopmancobfjeaaJ
import Derived.Test.YtoopmancobfjeaaR
namespace Go.Proofs.Ytoopmancobfjeaa
set_option linter.unusedVariables false
set_option linter.unusedSimpArgs false
open Go.RowKit

/-! ### plain -/
def prAll (p : List Int) : Nat → Bool
  | 0 => true
  | k + 1 => prAll p k && inB (gi p k) 0 10000
theorem prAll_iff (p : List Int) (k : Nat) : prAll p k = true ↔ ∀ i, i < k → inB (gi p i) 0 10000 = true := by
  induction k with
  | zero => simp [prAll]
  | succ k ih =>
    simp only [prAll, Bool.and_eq_true, ih]
    constructor
    · rintro ⟨h1, h2⟩ i hi
      by_cases e : i = k
      · subst e; exact h2
      · exact h1 i (by omega)
    · intro h; exact ⟨fun i hi => h i (by omega), h k (by omega)⟩
def bG (p : List Int) (cut : Int) : Bool := decide (p.length = 9) && (prAll p p.length && inB cut 0 10000)
def bE (l : List Fact) (r : List Sp) (p : List Int) (cut : Int) : Int := if vld l ≠ 0 then vld l else if vrt r ≠ 0 then vrt r else if bG p cut then 0 else 1
theorem bG_iff (p : List Int) (cut : Int) : bG p cut = true ↔ p.length = 9 ∧ (∀ i, i < p.length → inB (gi p i) 0 10000 = true) ∧ 0 ≤ cut ∧ cut ≤ 10000 := by
  simp only [bG, Bool.and_eq_true, decide_eq_true_eq, prAll_iff, inB_true]
theorem bE_ok {l : List Fact} {r : List Sp} {p : List Int} {cut : Int} (h : bE l r p cut = 0) : vld l = 0 ∧ vrt r = 0 ∧ bG p cut = true := by
  unfold bE at h
  by_cases h1 : vld l = 0
  · rw [if_neg (by simp [h1])] at h
    by_cases h2 : vrt r = 0
    · rw [if_neg (by simp [h2])] at h
      cases hb : bG p cut with
      | true => exact ⟨h1, h2, rfl⟩
      | false => rw [hb] at h; cases h
    · rw [if_pos h2] at h; exact absurd h h2
  · rw [if_pos h1] at h; exact absurd h h1
def priceI (p : List Int) (m : Int) : Int := if m = 0 then 0 else gi p (m - 1).toNat
def payI (l : List Fact) (r : List Sp) (p : List Int) (cut c d : Int) : Int := if freeB r c d then 0 else max (priceI p (knw l (d * 1440 - cut) c d)) (priceI p (knw l 1440000 c d))
theorem priceI_bd {p : List Int} {cut : Int} (h : bG p cut = true) (m : Int) (h0 : 0 ≤ m) (h9 : m ≤ 9) : 0 ≤ priceI p m ∧ priceI p m ≤ 10000 := by
  unfold priceI
  split
  · omega
  · obtain ⟨h1, h2, _⟩ := (bG_iff _ _).1 h
    have := inB_true.1 (h2 (m - 1).toNat (by omega))
    omega
theorem payI_bd {l : List Fact} (hV : Vld l) {r : List Sp} {p : List Int} {cut : Int} (h : bG p cut = true) (c d : Int) : 0 ≤ payI l r p cut c d ∧ payI l r p cut c d ≤ 10000 := by
  unfold payI
  split
  · omega
  · have a := knw_bd hV (d * 1440 - cut) c d
    have b := knw_bd hV 1440000 c d
    have := priceI_bd h _ a.1 a.2
    have := priceI_bd h _ b.1 b.2
    omega

/-! ### walks -/
theorem billf_any (p : Int) (w : World) : Calls Try.prog 95 #[.int .i64 p] w fun e w' => e = .returned (.bool (!inB p 0 10000)) ∧ w = w' := by
  go_enter Try.func95, Try.ntmps95
  go_wp2
  all_goals
    go_ret
    exact ⟨ret_bool (by unfold inB; by_cases h1 : 0 ≤ p <;> by_cases h2 : p ≤ 10000 <;> simp [h1, h2] <;> omega), rfl⟩

set_option maxRecDepth 100000 in
set_option maxHeartbeats 800000 in
theorem index_price (p : List Int) (A : Option Addr) (cp : Nat) (w : World) (hR : RN w A p) (hl : p.length ≤ 1000000000) :
    Calls Try.prog 104 #[.slice A p.length cp, .func (.func 95) #[] #[]] w (IdxPost (!prAll p p.length) w) := by
  go_enter Try.func104, Try.ntmps104
  go_wp2
  go_loop [8] (fun x => ∃ k : Nat, k ≤ p.length ∧ x = .int .i64 k ∧ Hid (prAll p k = true)) (fun x => p.length - (intOf x).toNat)
  case atStart => exact ⟨0, by omega, rfl, rfl⟩
  case round =>
    obtain ⟨k, hk, rfl, HK⟩ := hrel
    by_cases hlt : k < p.length
    · obtain ⟨ad, rfl, hab, c0⟩ := hR.at_ hlt
      cases hq : inB (gi p k) 0 10000 with
      | false =>
        have hf : prAll p p.length = false := by
          cases ha : prAll p p.length with
          | false => rfl
          | true => rw [(prAll_iff _ _).1 ha k hlt] at hq; cases hq
        have HF := Lib.hid hf
        clear hf
        go_wp2_with (go_at_call 95; refine (billf_any _ _).mono ?_; rintro e w' ⟨rfl, rfl⟩)
        go_ret
        exact ⟨k, rfl, (fun _ => by omega), (fun h => by rw [HF.out] at h; cases h), Below.refl _ _⟩
      | true =>
        have hnx : prAll p (k + 1) = true := by simp only [prAll, HK.out, hq]; rfl
        have HNX := Lib.hid hnx
        clear hnx
        go_wp2_with (go_at_call 95; refine (billf_any _ _).mono ?_; rintro e w' ⟨rfl, rfl⟩)
        go_round
        case rel => exact ⟨k + 1, by omega, by go_num, HNX⟩
        case measure => simp [intOf]; omega
    · have hf : prAll p p.length = true := by rw [show p.length = k by omega]; exact HK.out
      have HF := Lib.hid hf
      clear hf
      go_wp2
      go_ret
      exact ⟨-1, rfl, (fun h => by rw [HF.out] at h; cases h), (fun _ => by omega), Below.refl _ _⟩

set_option maxHeartbeats 400000 in
theorem contains_price (p : List Int) (A : Option Addr) (cp : Nat) (w : World) (hR : RN w A p) (hl : p.length ≤ 1000000000) :
    Calls Try.prog 94 #[.slice A p.length cp, .func (.func 95) #[] #[]] w fun e w' => e = .returned (.bool (!prAll p p.length)) ∧ Below w.heap.size w w' := by
  go_enter Try.func94, Try.ntmps94
  go_wp2_with fail
  refine (index_price p A cp _ hR hl).mono ?_
  rintro e w2 ⟨i, rfl, hi1, hi2, hbl⟩
  cases hf : prAll p p.length with
  | false =>
    have h0 := hi1 (by rw [hf]; rfl)
    have HF := Lib.hid hf
    clear hi1 hi2 hf
    go_wp2
    go_ret
    exact ⟨ret_bool (by rw [HF.out] <;> first | rfl | (simp; done) | (simp [h0]; done) | (simp; omega)), hbl⟩
  | true =>
    have h0 := hi2 (by rw [hf]; rfl)
    have HF := Lib.hid hf
    clear hi1 hi2 hf
    go_wp2
    go_ret
    exact ⟨ret_bool (by rw [HF.out] <;> first | rfl | (simp; done) | (simp [h0]; done) | (simp; omega)), hbl⟩

set_option maxRecDepth 100000 in
set_option maxHeartbeats 1600000 in
theorem billed_any (l : List Fact) (r : List Sp) (p : List Int) (cut : Int) (hl : l.length ≤ 1000000000) (hrl : r.length ≤ 1000000000) (hpl : p.length ≤ 1000000000) (A1 A2 A3 : Option Addr) (c1 c2 c3 B : Nat) (w : World) (h1 : RF w B A1 l) (h2 : RS w A2 r) (h3 : RN w A3 p) :
    Calls Try.prog 79 #[.slice A1 l.length c1, .slice A2 r.length c2, .slice A3 p.length c3, .int .i64 cut] w fun e w' => e = .returned (.int .i64 (bE l r p cut)) ∧ Below w.heap.size w w' := by
  obtain ⟨E, hE⟩ : ∃ E, E = bE l r p cut := ⟨_, rfl⟩
  rw [← hE]
  have HE := Lib.hid hE; clear hE
  go_enter Try.func79, Try.ntmps79
  go_wp2_with fail
  refine (validate_any l A1 c1 B _ h1 hl).mono ?_
  rintro e w1 ⟨rfl, hb1⟩
  by_cases hv : vld l = 0
  · have hv1 : (vld l != 0) = false := by simp [hv]
    have HV := Lib.hid hv; clear hv
    go_wp2_with fail
    refine (vrights_any r A2 c2 _ (h2.below hb1) hrl).mono ?_
    rintro e w2 ⟨rfl, hb2⟩
    have hb2' := hb1.trans (hb2.mono hb1.size)
    clear hb2
    by_cases hr : vrt r = 0
    · have hr1 : (vrt r != 0) = false := by simp [hr]
      have hEE : E = if bG p cut then 0 else 1 := by rw [HE.out, bE, if_neg (by rw [HV.out]; simp), if_neg (by rw [hr]; simp)]
      have HEE := Lib.hid hEE
      clear hr hEE
      by_cases hp9 : p.length = 9
      · have hp9' : ((p.length : Int) != 9) = false := by simp [hp9]
        have HP := Lib.hid hp9; clear hp9
        go_wp2_with fail
        refine (contains_price p A3 c3 _ (h3.below hb2') hpl).mono ?_
        rintro e w3 ⟨rfl, hb3⟩
        have hb3' := hb2'.trans (hb3.mono hb2'.size)
        clear hb3
        cases ha : prAll p p.length with
        | false =>
          have hbad : E = 1 := by rw [HEE.out, bG, ha]; simp
          have HB := Lib.hid hbad
          clear hbad ha
          go_wp2
          go_ret
          exact ⟨ret_int (by rw [HB.out]), hb3'⟩
        | true =>
          by_cases q1 : cut < 0
          · have hbad : E = 1 := by rw [HEE.out, bG, ha, inB_false.2 (show ¬ (0 ≤ cut ∧ cut ≤ 10000) by omega)]; simp
            have HB := Lib.hid hbad
            clear hbad ha
            go_wp2
            go_ret
            exact ⟨ret_int (by rw [HB.out]), hb3'⟩
          · by_cases q2 : 10000 < cut
            · have hbad : E = 1 := by rw [HEE.out, bG, ha, inB_false.2 (show ¬ (0 ≤ cut ∧ cut ≤ 10000) by omega)]; simp
              have HB := Lib.hid hbad
              clear hbad ha
              go_wp2
              go_ret
              exact ⟨ret_int (by rw [HB.out]), hb3'⟩
            · have hok : E = 0 := by rw [HEE.out, bG, ha, inB_true.2 (show 0 ≤ cut ∧ cut ≤ 10000 by omega), decide_eq_true HP.out]; rfl
              have HB := Lib.hid hok
              clear hok ha
              go_wp2
              go_ret
              exact ⟨ret_int (by rw [HB.out]), hb3'⟩
      · have hp9' : ((p.length : Int) != 9) = true := by simp; omega
        have hbad : E = 1 := by rw [HEE.out, bG, decide_eq_false hp9]; rfl
        have HB := Lib.hid hbad
        clear hbad hp9
        go_wp2
        go_ret
        exact ⟨ret_int (by rw [HB.out]), hb2'⟩
    · have hr1 : (vrt r != 0) = true := by simp [hr]
      have hEE : E = vrt r := by rw [HE.out, bE, if_neg (by rw [HV.out]; simp), if_pos hr]
      have HEE := Lib.hid hEE
      clear hr hEE
      go_wp2
      go_ret
      exact ⟨ret_int (by rw [HEE.out]), hb2'⟩
  · have hv1 : (vld l != 0) = true := by simp [hv]
    have hEE : E = vld l := by rw [HE.out, bE, if_pos hv]
    have HEE := Lib.hid hEE
    clear hv hEE
    go_wp2
    go_ret
    exact ⟨ret_int (by rw [HEE.out]), hb1⟩

end Go.Proofs.Ytoopmancobfjeaa
