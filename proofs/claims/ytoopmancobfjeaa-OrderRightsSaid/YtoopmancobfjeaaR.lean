/-
  Walks: rights: validity, and when a child is free. (A right is a triple: child, from, to.)
-/
import Derived.Test.YtoopmancobfjeaaG
namespace Go.Proofs.Ytoopmancobfjeaa
set_option linter.unusedVariables false
set_option linter.unusedSimpArgs false
open Go.RowKit

def rtN (c f u : Int) : Bool := decide (0 ≤ c ∧ c ≤ 99 ∧ 0 ≤ f ∧ f < u ∧ u ≤ 1000)
def rtB (s : Sp) : Bool := rtN s.fr s.un s.me
theorem rtB_iff (s : Sp) : rtB s = true ↔ 0 ≤ s.fr ∧ s.fr ≤ 99 ∧ 0 ≤ s.un ∧ s.un < s.me ∧ s.me ≤ 1000 := by simp [rtB, rtN]
def rtAll (r : List Sp) : Nat → Bool
  | 0 => true
  | k + 1 => rtAll r k && rtB (gs r k)
theorem rtAll_iff (r : List Sp) (k : Nat) : rtAll r k = true ↔ ∀ i, i < k → rtB (gs r i) = true := by
  induction k with
  | zero => simp [rtAll]
  | succ k ih =>
    simp only [rtAll, Bool.and_eq_true, ih]
    constructor
    · rintro ⟨h1, h2⟩ i hi
      by_cases e : i = k
      · subst e; exact h2
      · exact h1 i (by omega)
    · intro h; exact ⟨fun i hi => h i (by omega), h k (by omega)⟩
def vrt (r : List Sp) : Int := if 60 < r.length then 4 else if rtAll r r.length then 0 else 1
theorem vrt_ok {r : List Sp} (h : vrt r = 0) : r.length ≤ 60 ∧ ∀ i, i < r.length → rtB (gs r i) = true := by
  unfold vrt at h
  by_cases h6 : 60 < r.length
  · rw [if_pos h6] at h; cases h
  · rw [if_neg h6] at h
    cases ha : rtAll r r.length with
    | true => exact ⟨by omega, (rtAll_iff _ _).1 ha⟩
    | false => rw [ha] at h; cases h
def tellB (s : Sp) (c d : Int) : Bool := decide (s.fr = c ∧ s.un ≤ d ∧ d < s.me)
def tellN (ch f u c d : Int) : Bool := decide (ch = c ∧ f ≤ d ∧ d < u)
def frTo (r : List Sp) (c d : Int) : Nat → Bool
  | 0 => false
  | k + 1 => frTo r c d k || tellN (gs r k).fr (gs r k).un (gs r k).me c d
theorem frTo_iff (r : List Sp) (c d : Int) (k : Nat) : frTo r c d k = true ↔ ∃ i, i < k ∧ tellN (gs r i).fr (gs r i).un (gs r i).me c d = true := by
  induction k with
  | zero => simp [frTo]
  | succ k ih =>
    simp only [frTo, Bool.or_eq_true, ih]
    constructor
    · rintro (⟨i, hi, h⟩ | h)
      · exact ⟨i, by omega, h⟩
      · exact ⟨k, by omega, h⟩
    · rintro ⟨i, hi, h⟩
      by_cases e : i = k
      · subst e; exact .inr h
      · exact .inl ⟨i, by omega, h⟩
def freeB (r : List Sp) (c d : Int) : Bool := frTo r c d r.length

theorem box3 {w w1 : World} {a b c : Value} {t : TypeId} {n : Nat} (hb : Below n (w.alloc (.cells #[a, b, c] t)) w1) (hn : n = w.heap.size + 1) :
    w1.cell? ⟨w.heap.size, 0, none⟩ = some a ∧ w1.cell? ⟨w.heap.size, 1, none⟩ = some b ∧ w1.cell? ⟨w.heap.size, 2, none⟩ = some c ∧ w.heap.size < w1.heap.size ∧ Below w.heap.size w w1 := by
  obtain ⟨h1, _, h3, h4⟩ := blk_facts hb (by omega)
  exact ⟨by rw [h1]; rfl, by rw [h1]; rfl, by rw [h1]; rfl, h3, h4⟩

set_option maxRecDepth 100000 in
set_option maxHeartbeats 800000 in
theorem vrights_any (r : List Sp) (A : Option Addr) (c : Nat) (w : World) (hR : RS w A r) (hl : r.length ≤ 1000000000) :
    Calls Try.prog 54 #[.slice A r.length c] w fun e w' => e = .returned (.int .i64 (vrt r)) ∧ Below w.heap.size w w' := by
  by_cases h60 : 60 < r.length
  · have hv : vrt r = 4 := by unfold vrt; rw [if_pos h60]
    rw [hv]; clear hv
    go_enter Try.func54, Try.ntmps54
    go_wp2
    go_ret
    exact ⟨rfl, Below.refl _ _⟩
  · obtain ⟨V, hV⟩ : ∃ V, V = vrt r := ⟨_, rfl⟩
    rw [← hV]
    have hv1 : rtAll r r.length = true → V = 0 := fun h => by rw [hV, vrt, if_neg h60, if_pos h]
    have hv2 : rtAll r r.length = false → V = 1 := fun h => by rw [hV, vrt, if_neg h60, if_neg (by rw [h]; simp)]
    have H1 := Lib.hid hv1
    have H2 := Lib.hid hv2
    clear hV hv1 hv2
    go_enter Try.func54, Try.ntmps54
    go_wp2
    go_loopw [10] (fun x wr => ∃ k : Nat, k ≤ r.length ∧ x = .int .i64 k ∧ Hid (rtAll r k = true) ∧ Below w.heap.size w wr) (fun x _ => r.length - (intOf x).toNat)
    case atStart => exact ⟨0, by omega, rfl, rfl, Below.refl _ _⟩
    case round =>
      obtain ⟨k, hk, rfl, HK, hbl⟩ := hrel
      by_cases hlt : k < r.length
      · obtain ⟨ad, rfl, hab, c0, c1, c2⟩ := (hR.below hbl).at_ hlt
        cases hq : rtB (gs r k) with
        | true =>
          obtain ⟨q1, q2, q3, q4, q5⟩ := (rtB_iff _).1 hq
          have hi : inB (gs r k).fr 0 99 = true := inB_true.2 ⟨q1, q2⟩
          have hnx : rtAll r (k + 1) = true := by simp only [rtAll, HK.out, hq]; rfl
          have HNX := Lib.hid hnx
          clear hnx hq
          go_wp2_with (go_at_call 58; refine (isChild_any _ _).mono ?_; rintro e w' ⟨rfl, hw'⟩; subst hw')
          go_roundw
          case rel => exact ⟨k + 1, by omega, by go_num, HNX, hbl.alloc hbl.size _⟩
          case measure => simp [intOf]; omega
        | false =>
          have hbad : V = 1 := by
            refine H2.out ?_
            cases ha : rtAll r r.length with
            | false => rfl
            | true => rw [(rtAll_iff _ _).1 ha k hlt] at hq; cases hq
          have HB := Lib.hid hbad
          have hn : ¬ (inB (gs r k).fr 0 99 = true ∧ 0 ≤ (gs r k).un ∧ (gs r k).un < (gs r k).me ∧ (gs r k).me ≤ 1000) := by
            intro hh
            have := inB_true.1 hh.1
            rw [(rtB_iff _).2 ⟨this.1, this.2, hh.2⟩] at hq; cases hq
          have HN := Lib.hid hn
          clear hbad hq hn
          cases hi : inB (gs r k).fr 0 99 with
          | false =>
            go_wp2_with (go_at_call 58; refine (isChild_any _ _).mono ?_; rintro e w' ⟨rfl, hw'⟩; subst hw')
            go_ret
            exact ⟨ret_int (by rw [HB.out]), hbl.alloc hbl.size _⟩
          | true =>
            have hcases : (gs r k).un < 0 ∨ (0 ≤ (gs r k).un ∧ (gs r k).me ≤ (gs r k).un) ∨ (0 ≤ (gs r k).un ∧ (gs r k).un < (gs r k).me ∧ 1000 < (gs r k).me) := by
              have := HN.out
              rcases Int.lt_or_le (gs r k).un 0 with h | h
              · exact .inl h
              · rcases Int.lt_or_le (gs r k).un (gs r k).me with h' | h'
                · rcases Int.lt_or_le 1000 (gs r k).me with h'' | h''
                  · exact .inr (.inr ⟨h, h', h''⟩)
                  · exact absurd ⟨hi, h, h', h''⟩ this
                · exact .inr (.inl ⟨h, h'⟩)
            rcases hcases with p1 | ⟨p1, p2⟩ | ⟨p1, p2, p3⟩
            all_goals
              go_wp2_with (go_at_call 58; refine (isChild_any _ _).mono ?_; rintro e w' ⟨rfl, hw'⟩; subst hw')
              go_ret
              exact ⟨ret_int (by rw [HB.out]), hbl.alloc hbl.size _⟩
      · have hv : V = 0 := H1.out (by rw [show r.length = k by omega]; exact HK.out)
        have HV := Lib.hid hv; clear hv
        go_wp2
        go_ret
        exact ⟨ret_int (by rw [HV.out]), hbl⟩

set_option maxRecDepth 100000 in
set_option maxHeartbeats 800000 in
theorem rvrights_any (r : List Sp) (A : Option Addr) (c : Nat) (w : World) (hR : RS w A r) (hl : r.length ≤ 1000000000) :
    Calls Try.prog 55 #[.slice A r.length c] w fun e w' => e = .returned (.int .i64 (vrt r)) ∧ Below w.heap.size w w' := by
  by_cases h60 : 60 < r.length
  · have hv : vrt r = 4 := by unfold vrt; rw [if_pos h60]
    rw [hv]; clear hv
    go_enter Try.func55, Try.ntmps55
    go_wp2
    go_ret
    exact ⟨rfl, Below.refl _ _⟩
  · obtain ⟨V, hV⟩ : ∃ V, V = vrt r := ⟨_, rfl⟩
    rw [← hV]
    have hv1 : rtAll r r.length = true → V = 0 := fun h => by rw [hV, vrt, if_neg h60, if_pos h]
    have hv2 : rtAll r r.length = false → V = 1 := fun h => by rw [hV, vrt, if_neg h60, if_neg (by rw [h]; simp)]
    have H1 := Lib.hid hv1
    have H2 := Lib.hid hv2
    clear hV hv1 hv2
    go_enter Try.func55, Try.ntmps55
    go_wp2
    go_loopw [3] (fun x wr => ∃ k : Nat, k ≤ r.length ∧ x = .int .i64 k ∧ Hid (rtAll r k = true) ∧ Below w.heap.size w wr) (fun x _ => r.length - (intOf x).toNat)
    case atStart => exact ⟨0, by omega, rfl, rfl, Below.refl _ _⟩
    case round =>
      obtain ⟨k, hk, rfl, HK, hbl⟩ := hrel
      by_cases hlt : k < r.length
      · obtain ⟨ad, rfl, hab, c0, c1, c2⟩ := (hR.below hbl).at_ hlt
        have hsb : rtB (gs r k) = (inB (gs r k).fr 0 99 && stretchB (gs r k).un (gs r k).me) := by
          rw [Bool.eq_iff_iff, rtB_iff, Bool.and_eq_true, inB_true]; simp [stretchB]; omega
        have q10 : (0 : Int) ≤ (k : Int) := Int.natCast_nonneg _
        have q11 : (k : Int) < (r.length : Int) := by omega
        have hbad : rtB (gs r k) = false → V = 1 := fun hq => by
          refine H2.out ?_
          cases ha : rtAll r r.length with
          | false => rfl
          | true => rw [(rtAll_iff _ _).1 ha k hlt] at hq; cases hq
        cases hi : inB (gs r k).fr 0 99 with
        | false =>
          have HB := Lib.hid (hbad (by rw [hsb, hi]; rfl))
          clear hbad hsb
          go_wp2_with fail
          go_quiet ((first | (go_at_call 67; exact Calls.quiet_of_same (within_any _ _ _ _)) | (go_at_call 71; exact Calls.quiet_of_same (rdays_any _ _ _))))
          go_wp2
          go_ret
          exact ⟨ret_int (by rw [HB.out]), below_drewN hbl _⟩
        | true =>
          cases hd : stretchB (gs r k).un (gs r k).me with
          | false =>
            have HB := Lib.hid (hbad (by rw [hsb, hi, hd]; rfl))
            clear hbad hsb
            go_wp2_with fail
            go_quiet ((first | (go_at_call 67; exact Calls.quiet_of_same (within_any _ _ _ _)) | (go_at_call 71; exact Calls.quiet_of_same (rdays_any _ _ _))))
            go_wp2
            go_ret
            exact ⟨ret_int (by rw [HB.out]), below_drewN hbl _⟩
          | true =>
            have hnx : rtAll r (k + 1) = true := by simp only [rtAll, HK.out, hsb, hi, hd]; rfl
            have HNX := Lib.hid hnx
            clear hnx hbad hsb
            go_wp2_with fail
            go_quiet ((first | (go_at_call 67; exact Calls.quiet_of_same (within_any _ _ _ _)) | (go_at_call 71; exact Calls.quiet_of_same (rdays_any _ _ _))))
            go_wp2
            go_roundw
            case rel => exact ⟨k + 1, by omega, by go_num, HNX, below_drewN hbl _⟩
            case measure => simp [intOf]; omega
      · have hv : V = 0 := H1.out (by rw [show r.length = k by omega]; exact HK.out)
        have HV := Lib.hid hv; clear hv
        go_wp2
        go_ret
        exact ⟨ret_int (by rw [HV.out]), hbl⟩

/-! ### free -/
def IdxPost (b : Bool) (w0 : World) (e : Ending) (w' : World) : Prop := ∃ i : Int, e = .returned (.int .i64 i) ∧ (b = true → 0 ≤ i) ∧ (b = false → i < 0) ∧ Below w0.heap.size w0 w'
set_option maxRecDepth 100000 in
set_option maxHeartbeats 400000 in
theorem freef_any (ch f u c d : Int) (b1 b2 : Nat) (w : World) (h1 : w.cell? ⟨b1, 0, none⟩ = some (.int .i64 c)) (h2 : w.cell? ⟨b2, 0, none⟩ = some (.int .i64 d)) (hb1 : b1 < w.heap.size) (hb2 : b2 < w.heap.size) :
    Calls Try.prog 99 #[.agg #[.int .i64 ch, .int .i64 f, .int .i64 u], .pointer (some ⟨b1, 0, none⟩), .pointer (some ⟨b2, 0, none⟩)] w fun e w' => e = .returned (.bool (tellN ch f u c d)) ∧ Below w.heap.size w w' := by
  have e1 : ¬ b1 = w.heap.size := by omega
  have e2 : ¬ b2 = w.heap.size := by omega
  go_enter Try.func99, Try.ntmps99
  go_wp2
  all_goals
    go_ret
    exact ⟨ret_bool (by unfold tellN; first | (rw [decide_eq_decide]; omega) | (symm; rw [decide_eq_false_iff_not]; omega)), by go_grown⟩

set_option maxRecDepth 100000 in
set_option maxHeartbeats 800000 in
theorem index_free (r : List Sp) (c d : Int) (A : Option Addr) (cp b1 b2 : Nat) (w : World) (hR : RS w A r) (hl : r.length ≤ 1000000000) (h1 : w.cell? ⟨b1, 0, none⟩ = some (.int .i64 c)) (h2 : w.cell? ⟨b2, 0, none⟩ = some (.int .i64 d)) (hb1 : b1 < w.heap.size) (hb2 : b2 < w.heap.size) :
    Calls Try.prog 100 #[.slice A r.length cp, .func (.func 99) #[] #[.pointer (some ⟨b1, 0, none⟩), .pointer (some ⟨b2, 0, none⟩)]] w (IdxPost (freeB r c d) w) := by
  go_enter Try.func100, Try.ntmps100
  go_wp2
  go_loopw [8] (fun x wr => ∃ k : Nat, k ≤ r.length ∧ x = .int .i64 k ∧ Hid (frTo r c d k = false) ∧ Below w.heap.size w wr) (fun x _ => r.length - (intOf x).toNat)
  case atStart => exact ⟨0, by omega, rfl, rfl, Below.refl _ _⟩
  case round =>
    obtain ⟨k, hk, rfl, HK, hbl⟩ := hrel
    by_cases hlt : k < r.length
    · obtain ⟨ad, rfl, hab, c0, c1, c2⟩ := (hR.below hbl).at_ hlt
      have g1 := (hbl.cell (p := ⟨b1, 0, none⟩) hb1).trans h1
      have g2 := (hbl.cell (p := ⟨b2, 0, none⟩) hb2).trans h2
      have hbs := hbl.size
      go_wp2_with fail
      refine (freef_any _ _ _ c d b1 b2 _ g1 g2 (by omega) (by omega)).mono ?_
      rintro e w2 ⟨rfl, hb2'⟩
      have hbl2 := hbl.trans (hb2'.mono hbl.size)
      clear g1 g2 c0 c1 c2 hb2'
      cases hq : tellN (gs r k).fr (gs r k).un (gs r k).me c d with
      | true =>
        have hf : freeB r c d = true := (frTo_iff _ _ _ _).2 ⟨k, hlt, hq⟩
        have HF := Lib.hid hf
        clear hf hq
        go_wp2
        go_ret
        exact ⟨k, rfl, (fun _ => by omega), (fun h => by rw [HF.out] at h; cases h), hbl2⟩
      | false =>
        have hnx : frTo r c d (k + 1) = false := by simp only [frTo, HK.out, hq]; rfl
        have HNX := Lib.hid hnx
        clear hnx hq
        go_wp2
        go_roundw
        case rel => exact ⟨k + 1, by omega, by go_num, HNX, hbl2⟩
        case measure => simp [intOf]; omega
    · have hf : freeB r c d = false := by unfold freeB; rw [show r.length = k by omega]; exact HK.out
      have HF := Lib.hid hf
      clear hf
      go_wp2
      go_ret
      exact ⟨-1, rfl, (fun h => by rw [HF.out] at h; cases h), (fun _ => by omega), hbl⟩

set_option maxHeartbeats 400000 in
theorem contains_free (r : List Sp) (c d : Int) (A : Option Addr) (cp b1 b2 : Nat) (w : World) (hR : RS w A r) (hl : r.length ≤ 1000000000) (h1 : w.cell? ⟨b1, 0, none⟩ = some (.int .i64 c)) (h2 : w.cell? ⟨b2, 0, none⟩ = some (.int .i64 d)) (hb1 : b1 < w.heap.size) (hb2 : b2 < w.heap.size) :
    Calls Try.prog 98 #[.slice A r.length cp, .func (.func 99) #[] #[.pointer (some ⟨b1, 0, none⟩), .pointer (some ⟨b2, 0, none⟩)]] w fun e w' =>
      e = .returned (.bool (freeB r c d)) ∧ Below w.heap.size w w' := by
  go_enter Try.func98, Try.ntmps98
  go_wp2_with fail
  refine (index_free r c d A cp b1 b2 _ hR hl h1 h2 hb1 hb2).mono ?_
  rintro e w2 ⟨i, rfl, hi1, hi2, hbl⟩
  cases hf : freeB r c d with
  | true =>
    have h0 := hi1 hf
    have HF := Lib.hid hf
    clear hi1 hi2 hf
    go_wp2
    go_ret
    exact ⟨ret_bool (by rw [HF.out] <;> first | rfl | (simp; done) | (simp [h0]; done) | (simp; omega)), hbl⟩
  | false =>
    have h0 := hi2 hf
    have HF := Lib.hid hf
    clear hi1 hi2 hf
    go_wp2
    go_ret
    exact ⟨ret_bool (by rw [HF.out] <;> first | rfl | (simp; done) | (simp [h0]; done) | (simp; omega)), hbl⟩

set_option maxHeartbeats 400000 in
theorem free_any (r : List Sp) (c d : Int) (A : Option Addr) (cp : Nat) (w : World) (hR : RS w A r) (hl : r.length ≤ 1000000000) :
    Calls Try.prog 83 #[.slice A r.length cp, .int .i64 c, .int .i64 d] w fun e w' => e = .returned (.bool (freeB r c d)) ∧ Below w.heap.size w w' := by
  go_enter Try.func83, Try.ntmps83
  go_wp2_with fail
  have hb0 : Below w.heap.size w ((w.alloc (.cells #[.int .i64 c] 3)).alloc (.cells #[.int .i64 d] 3)) := ((Below.refl _ _).alloc (Nat.le_refl _) _).alloc (by simp) _
  refine (contains_free r c d A cp w.heap.size (w.heap.size + 1) ((w.alloc (.cells #[.int .i64 c] 3)).alloc (.cells #[.int .i64 d] 3)) (hR.below hb0) hl (by simp [go_sem]) (by simp [go_sem]) (by simp; omega) (by simp)).mono ?_
  rintro e w2 ⟨rfl, hb2⟩
  go_wp2
  go_ret
  exact ⟨rfl, hb0.trans (hb2.mono hb0.size)⟩

set_option maxRecDepth 100000 in
set_option maxHeartbeats 800000 in
theorem rfree_any (r : List Sp) (c d : Int) (A : Option Addr) (cp : Nat) (w : World) (hR : RS w A r) (hl : r.length ≤ 1000000000) :
    Calls Try.prog 84 #[.slice A r.length cp, .int .i64 c, .int .i64 d] w fun e w' => e = .returned (.bool (freeB r c d)) ∧ w = w' := by
  obtain ⟨N, hN⟩ : ∃ N, N = freeB r c d := ⟨_, rfl⟩
  rw [← hN]
  have HN := Lib.hid hN; clear hN
  go_enter Try.func84, Try.ntmps84
  go_wp2
  go_loop [7] (fun x => ∃ k : Nat, k ≤ r.length ∧ x = .int .i64 k ∧ Hid (frTo r c d k = false)) (fun x => r.length - (intOf x).toNat)
  case atStart => exact ⟨0, by omega, rfl, rfl⟩
  case round =>
    obtain ⟨k, hk, rfl, HK⟩ := hrel
    by_cases hlt : k < r.length
    · obtain ⟨ad, rfl, hab, c0, c1, c2⟩ := hR.at_ hlt
      cases hq : tellN (gs r k).fr (gs r k).un (gs r k).me c d with
      | true =>
        have hf : N = true := by rw [HN.out]; exact (frTo_iff _ _ _ _).2 ⟨k, hlt, hq⟩
        have HF := Lib.hid hf
        simp only [tellN, decide_eq_true_eq] at hq
        obtain ⟨p1, p2, p3⟩ := hq
        have p1' : ((gs r k).fr == c) = true := by simp [p1]
        clear hf p1
        go_wp2
        go_ret
        exact ⟨ret_bool (by rw [HF.out]), rfl⟩
      | false =>
        have hnx : frTo r c d (k + 1) = false := by simp only [frTo, HK.out, hq]; rfl
        have HNX := Lib.hid hnx
        have hn : ¬ ((gs r k).fr = c ∧ (gs r k).un ≤ d ∧ d < (gs r k).me) := by simpa only [tellN, decide_eq_false_iff_not] using hq
        have HNN := Lib.hid hn
        clear hnx hq hn
        go_wp2
        all_goals first
          | exact absurd ⟨‹_›, ‹_›, ‹_›⟩ HNN.out
          | (go_round
             case rel => exact ⟨k + 1, by omega, by go_num, HNX⟩
             case measure => simp [intOf]; omega)
    · have hf : N = false := by rw [HN.out]; unfold freeB; rw [show r.length = k by omega]; exact HK.out
      have HF := Lib.hid hf
      clear hf
      go_wp2
      go_ret
      exact ⟨ret_bool (by rw [HF.out]), rfl⟩

end Go.Proofs.Ytoopmancobfjeaa
