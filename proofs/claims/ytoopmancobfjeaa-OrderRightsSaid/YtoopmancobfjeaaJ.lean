/-
  Walks: Children and Count.
-/
import Derived.Test.YtoopmancobfjeaaI
namespace Go.Proofs.Ytoopmancobfjeaa
set_option linter.unusedVariables false
set_option linter.unusedSimpArgs false
open Go.RowKit

def RetIn (w0 : World) (L : List Int) (er : Int) (e : Ending) (w' : World) : Prop :=
  ∃ A c, e = .returned (.tuple #[.slice A L.length c, .int .i64 er]) ∧ OwnN w' w0.heap.size A c L ∧ Below w0.heap.size w0 w'
def chE (l : List Fact) (day m : Int) : Int := askd l (inB day 0 999 && inB m 0 9)
def childR (l : List Fact) (t day m : Int) : List Int := if chE l day m = 0 then chTo l t m day.toNat 100 else []
theorem chE_ok {l : List Fact} {day m : Int} (h : chE l day m = 0) : Vld l ∧ 0 ≤ day ∧ day ≤ 999 ∧ 0 ≤ m ∧ m ≤ 9 := by
  obtain ⟨h1, h2⟩ := askd_ok h
  rw [Bool.and_eq_true] at h2
  have := inB_true.1 h2.1
  have := inB_true.1 h2.2
  exact ⟨Vld.of h1, by omega, by omega, by omega, by omega⟩

set_option maxRecDepth 100000 in
set_option maxHeartbeats 800000 in
theorem childrenX_any (l : List Fact) (t day m : Int) (hl : l.length ≤ 1000000000) (A0 : Option Addr) (c0 B : Nat) (hc : l.length ≤ c0) (w : World) (hR : RF w B A0 l) :
    Calls Try.prog 31 #[.slice A0 l.length c0, .int .i64 t, .int .i64 day, .int .i64 m] w (RetIn w (childR l t day m) (chE l day m)) := by
  obtain ⟨E, hE⟩ : ∃ E, E = chE l day m := ⟨_, rfl⟩
  obtain ⟨L, hL⟩ : ∃ L, L = childR l t day m := ⟨_, rfl⟩
  rw [← hL, ← hE]
  have HE1 : Hid (askd l (inB day 0 999 && inB m 0 9) = E) := hE.symm
  have HL := Lib.hid hL; clear hL
  have HE := Lib.hid hE; clear hE
  go_enter Try.func31, Try.ntmps31
  go_wp2_with fail
  refine (isDay_any _ _).mono ?_
  rintro e w0 ⟨rfl, rfl⟩
  obtain ⟨b1, hb1⟩ : ∃ b, b = inB day 0 999 := ⟨_, rfl⟩
  rw [← hb1]
  rw [← hb1] at HE1
  clear hb1
  cases b1 with
  | true =>
    go_wp2_with (go_at_call 66; refine (isMeal_any _ _).mono ?_; rintro e w' ⟨rfl, rfl⟩)
    refine (asked_any l _ A0 c0 B _ hR hl).mono ?_
    rintro e w1 ⟨rfl, hb1⟩
    rw [show inB m 0 9 = (true && inB m 0 9) by simp, HE1.out]
    by_cases h0 : E = 0
    · obtain ⟨hV, hd0, hd1, -⟩ := chE_ok (HE.out.symm.trans h0)
      obtain ⟨d, rfl⟩ := Int.eq_ofNat_of_zero_le hd0
      have hk : L = chTo l t m d 100 := by rw [HL.out, childR, if_pos (HE.out.symm.trans h0)]; rfl
      have HLL := Lib.hid hk
      have hE0 : (E != 0) = false := by simp [h0]
      have H0 := Lib.hid h0
      clear h0 hk
      go_wp2
      go_loopw [11, 24] (fun o x wr => ∃ k : Nat, k ≤ 100 ∧ x = .int .i64 k ∧ ∃ A c, o = .slice A (chTo l t m d k).length c ∧ OwnN wr w'.heap.size A c (chTo l t m d k) ∧ Below w'.heap.size w' wr) (fun _ x _ => 100 - (intOf x).toNat)
      case atStart => exact ⟨0, by omega, rfl, none, 0, rfl, World.ownsRow_nil _ _ _ _, hb1⟩
      case round =>
        obtain ⟨k, hk, rfl, A, c, rfl, own, hbl⟩ := hrel
        by_cases hlt : k < 100
        · have hll := chTo_le l t m d k
          go_wp2_with fail
          refine (reason_any l t k d hV A0 c0 B hc _ (hR.below hbl)).mono ?_
          rintro e w2 ⟨rfl, hb2⟩
          have own2 := own.kept hb2
          have hbl2 := hbl.trans (hb2.mono hbl.size)
          have hbs := hbl2.size
          clear own hb2
          have hfld := field_found
          have hfld2 := field_meal
          have hkm : fMe l (rsn l t k d) = knw l t k d := rfl
          have HKM := Lib.hid hkm; clear hkm
          unfold foundV
          rw [HKM.out]
          cases hq : (knw l t k d == m) with
          | true =>
            have hs := chTo_yes l t m d k hq
            have HS := Lib.hid hs; clear hs
            go_wp2_with (at_builtin; refine wpList_app1 rfl _ _ rfl Try.underlying53 info_int rfl (by omega) rfl own2 rfl rfl (by simp [Value.oneCell']) (by omega) (by omega) (by omega) ?_; intro A' c' w3 own3 hb3)
            go_roundw
            case rel => exact ⟨k + 1, by omega, by go_num, A', c', by rw [HS.out, List.length_append]; rfl, OwnN.snoc own3 rfl HS.out, hbl2.trans (hb3 _ (Nat.le_refl _))⟩
            case measure => simp [intOf]; omega
          | false =>
            have hs := chTo_no l t m d k hq
            have HS := Lib.hid hs; clear hs
            go_wp2
            go_roundw
            case rel => exact ⟨k + 1, by omega, by go_num, A, c, by rw [HS.out], by rw [HS.out]; exact own2, hbl2⟩
            case measure => simp [intOf]; omega
        · obtain rfl : k = 100 := by omega
          go_wp2
          go_ret2
          exact ⟨A, c, ret2 (by rw [HLL.out]; rfl) (by rw [H0.out]; rfl), by rw [HLL.out]; exact own, hbl⟩
    · have hE0 : (E != 0) = true := by simp [h0]
      have hk : L = [] := by rw [HL.out, childR, if_neg (fun h => h0 (HE.out.trans h))]
      have HKK := Lib.hid hk
      clear h0 hk
      go_wp2
      go_ret2
      exact ⟨none, 0, ret2 (by rw [HKK.out]; rfl) rfl, by rw [HKK.out]; exact World.ownsRow_nil _ _ _ _, hb1⟩
  | false =>
    go_wp2_with fail
    refine (asked_any l _ A0 c0 B _ hR hl).mono ?_
    rintro e w1 ⟨rfl, hb1⟩
    rw [show askd l false = E by rw [← HE1.out]; rfl]
    have h0 : ¬ E = 0 := by rw [← HE1.out]; intro h; have := (askd_ok h).2; simp at this
    have hE0 : (E != 0) = true := by simp [h0]
    have hk : L = [] := by rw [HL.out, childR, if_neg (fun h => h0 (HE.out.trans h))]
    have HKK := Lib.hid hk
    clear h0 hk
    go_wp2
    go_ret2
    exact ⟨none, 0, ret2 (by rw [HKK.out]; rfl) rfl, by rw [HKK.out]; exact World.ownsRow_nil _ _ _ _, hb1⟩

theorem chE_other (l : List Fact) (day m : Int) : chE l day m = if askd l (inB 0 0 99 && inB day 0 999) ≠ 0 then askd l (inB 0 0 99 && inB day 0 999) else if inB m 0 9 then 0 else 1 := by
  have h1 : inB 0 0 99 = true := by decide
  rw [h1, Bool.true_and]
  unfold chE askd
  cases inB day 0 999 <;> cases inB m 0 9 <;> by_cases hv : vld l = 0 <;> simp [hv]

set_option maxRecDepth 100000 in
set_option maxHeartbeats 800000 in
theorem rchildrenX_any (l : List Fact) (t day m : Int) (hl : l.length ≤ 1000000000) (A0 : Option Addr) (c0 B : Nat) (w : World) (hR : RF w B A0 l) :
    Calls Try.prog 32 #[.slice A0 l.length c0, .int .i64 t, .int .i64 day, .int .i64 m] w (RetIn w (childR l t day m) (chE l day m)) := by
  obtain ⟨E, hE⟩ : ∃ E, E = askd l (inB 0 0 99 && inB day 0 999) := ⟨_, rfl⟩
  have hEE := chE_other l day m
  rw [← hE] at hEE
  have HE := Lib.hid hE; clear hE
  have HEE := Lib.hid hEE; clear hEE
  obtain ⟨L, hL⟩ : ∃ L, L = childR l t day m := ⟨_, rfl⟩
  obtain ⟨E2, hE2⟩ : ∃ E, E = chE l day m := ⟨_, rfl⟩
  rw [← hL, ← hE2]
  have HL := Lib.hid hL; clear hL
  have HE2 := Lib.hid hE2; clear hE2
  go_enter Try.func32, Try.ntmps32
  go_wp2_with fail
  refine (rasked_any l _ _ A0 c0 B _ hR hl).mono ?_
  rintro e w1 ⟨rfl, hb1⟩
  rw [← HE.out]
  by_cases h0 : E = 0
  · have hE0 : (E != 0) = false := by simp [h0]
    have H0 := Lib.hid h0; clear h0
    cases hm : inB m 0 9 with
    | true =>
      have h2 : E2 = 0 := by rw [HE2.out, HEE.out, if_neg (by rw [H0.out]; simp), if_pos hm]
      obtain ⟨hV, hd0, hd1, -⟩ := chE_ok (HE2.out.symm.trans h2)
      obtain ⟨d, rfl⟩ := Int.eq_ofNat_of_zero_le hd0
      have hk : L = chTo l t m d 100 := by rw [HL.out, childR, if_pos (HE2.out.symm.trans h2)]; rfl
      have HLL := Lib.hid hk
      have H2 := Lib.hid h2
      clear h2 hk
      go_wp2_with (first | (go_at_call 67; refine (within_any _ _ _ _).mono ?_; rintro e w' ⟨rfl, rfl⟩) | (go_at_call 68; refine (rchildren_any l t m d hl A0 c0 B _ (hR.below hb1)).mono ?_; rintro e w2 ⟨A, c, rfl, own2, hb2⟩))
      go_ret2
      exact ⟨A, c, ret2 (by rw [HLL.out]; rfl) (by rw [H2.out]; rfl), by rw [HLL.out]; exact own_base own2 hb1.size, hb1.trans (hb2.mono hb1.size)⟩
    | false =>
      have h2 : E2 = 1 := by rw [HE2.out, HEE.out, if_neg (by rw [H0.out]; simp), if_neg (by rw [hm]; simp)]
      have hk : L = [] := by rw [HL.out, childR, if_neg (by rw [← HE2.out, h2]; decide)]
      have HLL := Lib.hid hk
      have H2 := Lib.hid h2
      clear h2 hk
      go_wp2_with (first | (go_at_call 67; refine (within_any _ _ _ _).mono ?_; rintro e w' ⟨rfl, rfl⟩))
      go_ret2
      exact ⟨none, 0, ret2 (by rw [HLL.out]; rfl) (by rw [H2.out]; rfl), by rw [HLL.out]; exact World.ownsRow_nil _ _ _ _, hb1⟩
  · have hE0 : (E != 0) = true := by simp [h0]
    have h2 : E2 = E := by rw [HE2.out, HEE.out, if_pos h0]
    have hk : L = [] := by rw [HL.out, childR, if_neg (by rw [← HE2.out, h2]; exact h0)]
    have HKK := Lib.hid hk
    have H2 := Lib.hid h2
    clear h0 hk h2
    go_wp2
    go_ret2
    exact ⟨none, 0, ret2 (by rw [HKK.out]; rfl) (by rw [H2.out]; rfl), by rw [HKK.out]; exact World.ownsRow_nil _ _ _ _, hb1⟩

/-- The slice (A, n = l.length) reads as the numbers l. -/
def RN (w : World) (A : Option Addr) (l : List Int) : Prop := Reads w w.heap.size 1 A l.length (ints l)
section
variable {w w' : World} {base c : Nat} {A : Option Addr} {l : List Int}
theorem RN.below (h : RN w A l) (hb : Below w.heap.size w w') : RN w' A l := (Reads.below' h hb (Nat.le_refl _)).more hb.size
theorem RN.of_own (h : OwnN w base A c l) : RN w A l := Reads.of_own h
theorem RN.at_ (h : RN w A l) {k : Nat} (hk : k < l.length) : ∃ ad, A = some ad ∧ (ad.add k).block < w.heap.size ∧ w.cell? (ad.add k) = some (.int .i64 (gi l k)) := by
  obtain ⟨ad, e, hb, hc⟩ := h.2 (by omega)
  exact ⟨ad, e, by rw [block_of_add]; exact hb, hc k _ (by simp [ints, gi, hk])⟩
end
def eqIn (l m : List Int) (k : Nat) : Prop := ∀ i, i < k → gi l i = gi m i
theorem eqIn_all {l m : List Int} (hlen : l.length = m.length) (h : eqIn l m l.length) : l = m := by
  apply List.ext_getElem hlen
  intro i h1 h2
  have := h i h1
  simpa [gi, h1, h2] using this

set_option maxHeartbeats 800000 in
theorem sameInts_any (l m : List Int) (A A' : Option Addr) (c c' : Nat) (w : World) (hl : RN w A l) (hm : RN w A' m) (hb : l.length ≤ 1000000000) (hb' : m.length ≤ 1000000000) :
    Calls Try.prog 33 #[.slice A l.length c, .slice A' m.length c'] w fun e w' => e = .returned (.bool (decide (l = m))) ∧ Below w.heap.size w w' := by
  by_cases hlen : l.length = m.length
  · have hlen' : ((l.length : Int) != (m.length : Int)) = false := by simp [hlen]
    have HL := Lib.hid hlen; clear hlen
    go_enter Try.func33, Try.ntmps33
    go_wp2
    go_loopw [5] (fun x wr => ∃ k : Nat, k ≤ l.length ∧ x = .int .i64 k ∧ eqIn l m k ∧ Below w.heap.size w wr) (fun x _ => l.length - (intOf x).toNat)
    case atStart => exact ⟨0, by omega, rfl, fun i hi => by omega, Below.refl _ _⟩
    case round =>
      obtain ⟨k, hk, rfl, he, hbl⟩ := hrel
      by_cases hlt : k < l.length
      · have hlt' : k < m.length := by rw [← HL.out]; exact hlt
        obtain ⟨ad, rfl, hab, c0⟩ := (hl.below hbl).at_ hlt
        obtain ⟨ad', rfl, hab', d0⟩ := (hm.below hbl).at_ hlt'
        cases hq : (gi l k != gi m k) with
        | true =>
          have hne : gi l k ≠ gi m k := by simpa using hq
          have HNE := Lib.hid hne; clear hne
          go_wp2_with fail
          go_quiet (fail)
          go_wp2
          go_ret
          exact ⟨ret_bool (by symm; rw [decide_eq_false_iff_not]; intro e; exact HNE.out (by rw [e])), below_drewN hbl _⟩
        | false =>
          have heq : gi l k = gi m k := by simpa using hq
          have HEQ := Lib.hid heq; clear heq
          go_wp2_with fail
          go_quiet (fail)
          go_wp2
          go_roundw
          case rel => exact ⟨k + 1, by omega, by go_num, fun i hi => by
            by_cases e : i = k
            · subst e; exact HEQ.out
            · exact he i (by omega), below_drewN hbl _⟩
          case measure => simp [intOf]; omega
      · obtain rfl : k = l.length := by omega
        go_wp2
        go_ret
        exact ⟨ret_bool (by symm; rw [decide_eq_true_eq]; exact eqIn_all HL.out he), hbl⟩
  · have hlen' : ((l.length : Int) != (m.length : Int)) = true := by simp; omega
    have HL := Lib.hid hlen; clear hlen
    go_enter Try.func33, Try.ntmps33
    go_wp2
    go_ret
    exact ⟨ret_bool (by symm; rw [decide_eq_false_iff_not]; intro e; exact HL.out (by rw [e])), Below.refl _ _⟩

end Go.Proofs.Ytoopmancobfjeaa
