/-
  Walks: Validate, asked and the small predicates, of the program and of the reference.
-/
import Derived.Test.YtoopmancobfjeaaBase
namespace Go.Proofs.Ytoopmancobfjeaa
set_option linter.unusedVariables false
set_option linter.unusedSimpArgs false
open Go.RowKit

set_option maxHeartbeats 400000 in
theorem right_any (a c f t m : Int) (w : World) :
    Calls Try.prog 70 #[.agg #[.int .i64 a, .int .i64 c, .int .i64 f, .int .i64 t, .int .i64 m]] w fun e w' => e = .returned (.bool (rightN a c f t m)) ∧ Below w.heap.size w w' := by
  go_enter Try.func70, Try.ntmps70
  go_wp2
  all_goals
    go_ret
    exact ⟨ret_bool (by unfold rightN; first | (rw [decide_eq_decide]; omega) | (symm; rw [decide_eq_false_iff_not]; omega)), by go_grown⟩

theorem isChild_any (n : Int) (w : World) : Calls Try.prog 58 #[.int .i64 n] w fun e w' => e = .returned (.bool (inB n 0 99)) ∧ w' = w := by
  go_enter Try.func58, Try.ntmps58
  go_wp2
  all_goals
    go_ret
    exact ⟨ret_bool (by unfold inB; first | (rw [decide_eq_decide]; omega) | (symm; rw [decide_eq_false_iff_not]; omega)), rfl⟩
theorem isDay_any (n : Int) (w : World) : Calls Try.prog 72 #[.int .i64 n] w fun e w' => e = .returned (.bool (inB n 0 999)) ∧ w' = w := by
  go_enter Try.func72, Try.ntmps72
  go_wp2
  all_goals
    go_ret
    exact ⟨ret_bool (by unfold inB; first | (rw [decide_eq_decide]; omega) | (symm; rw [decide_eq_false_iff_not]; omega)), rfl⟩
theorem isMeal_any (n : Int) (w : World) : Calls Try.prog 66 #[.int .i64 n] w fun e w' => e = .returned (.bool (inB n 0 9)) ∧ w' = w := by
  go_enter Try.func66, Try.ntmps66
  go_wp2
  all_goals
    go_ret
    exact ⟨ret_bool (by unfold inB; first | (rw [decide_eq_decide]; omega) | (symm; rw [decide_eq_false_iff_not]; omega)), rfl⟩
theorem within_any (n lo hi : Int) (w : World) : Calls Try.prog 67 #[.int .i64 n, .int .i64 lo, .int .i64 hi] w fun e w' => e = .returned (.bool (inB n lo hi)) ∧ w' = w := by
  go_enter Try.func67, Try.ntmps67
  go_wp2
  all_goals
    go_ret
    exact ⟨ret_bool (by unfold inB; first | (rw [decide_eq_decide]; omega) | (symm; rw [decide_eq_false_iff_not]; omega)), rfl⟩
def stretchB (f t : Int) : Bool := decide (0 ≤ f ∧ f < t ∧ t ≤ 1000)
theorem rdays_any (f t : Int) (w : World) : Calls Try.prog 71 #[.int .i64 f, .int .i64 t] w fun e w' => e = .returned (.bool (stretchB f t)) ∧ w' = w := by
  go_enter Try.func71, Try.ntmps71
  go_wp2
  all_goals
    go_ret
    exact ⟨ret_bool (by unfold stretchB; first | (rw [decide_eq_decide]; omega) | (symm; rw [decide_eq_false_iff_not]; omega)), rfl⟩

set_option maxHeartbeats 400000 in
theorem validate_any (l : List Fact) (A : Option Addr) (c B : Nat) (w : World) (hR : RF w B A l) (hl : l.length ≤ 1000000000) :
    Calls Try.prog 27 #[.slice A l.length c] w fun e w' => e = .returned (.int .i64 (vld l)) ∧ Below w.heap.size w w' := by
  go_enter Try.func27, Try.ntmps27
  by_cases h60 : 60 < l.length
  · go_wp2
    go_ret
    exact ⟨ret_int (by unfold vld; rw [if_pos h60]), by go_grown⟩
  · go_wp2
    go_loopw [10] (fun i wr => ∃ k : Nat, k ≤ l.length ∧ i = .int .i64 k ∧ Below w.heap.size w wr ∧ Hid (vG (-1) l = vG (prv l k) (l.drop k))) (fun i _ => l.length - (intOf i).toNat)
    case atStart => exact ⟨0, by omega, rfl, Below.refl _ _, by rw [prv_zero]; rfl⟩
    case round =>
      obtain ⟨k, hk, rfl, hbl, HV⟩ := hrel
      by_cases hlt : k < l.length
      · obtain ⟨ad, rfl, hab, c0, c1, c2, c3, c4⟩ := (hR.below hbl).at_ hlt
        go_wp2_with fail
        refine (right_any _ _ _ _ _ _).mono ?_
        rintro e w1 ⟨rfl, hb1⟩
        obtain ⟨⟨b0, b1, b2, b3, b4⟩, hz1, hb2⟩ := box5 hb1 (by simp)
        have hb3 := hbl.trans (hb2.mono hbl.size)
        clear c0 c1 c2 c3 c4 hb1
        by_cases hr : rightB (gf l k) = true
        · have hr' : rightN (gf l k).at_ (gf l k).ch (gf l k).fr (gf l k).un (gf l k).me = true := hr
          by_cases hk0 : k = 0
          · subst hk0
            go_wp2_with fail
            go_quiet (fail)
            go_wp2
            go_roundw
            case rel => exact ⟨1, by omega, rfl, below_drewN hb3 _, vld_next l 0 hlt HV.out hr (by omega)⟩
            case measure => simp [intOf]; omega
          · have hkp : 0 < k := by omega
            obtain ⟨ad', e', hab', c0, -⟩ := (hR.below hb3).at_ (k := k - 1) (by omega)
            cases e'
            by_cases hp : (gf l k).at_ < (gf l (k - 1)).at_
            · go_wp2_with fail
              go_quiet (fail)
              go_wp2
              go_ret
              exact ⟨ret_int (vld_order l k hlt h60 HV.out hr hkp hp).symm, below_drewN hb3 _⟩
            · go_wp2_with fail
              go_quiet (fail)
              go_wp2
              go_roundw
              case rel => exact ⟨k + 1, by omega, by go_num, below_drewN hb3 _, vld_next l k hlt HV.out hr (fun _ => by omega)⟩
              case measure => simp [intOf]; omega
        · have hr' : rightN (gf l k).at_ (gf l k).ch (gf l k).fr (gf l k).un (gf l k).me = false := by simpa [rightB] using hr
          go_wp2
          go_ret
          exact ⟨ret_int (vld_wrong l k hlt h60 HV.out hr').symm, hb3⟩
      · go_wp2
        go_ret
        exact ⟨ret_int (vld_end l k hlt h60 HV.out).symm, hbl⟩

set_option maxHeartbeats 800000 in
theorem rvalidate_any (l : List Fact) (A : Option Addr) (c B : Nat) (w : World) (hR : RF w B A l) (hl : l.length ≤ 1000000000) :
    Calls Try.prog 28 #[.slice A l.length c] w fun e w' => e = .returned (.int .i64 (vld l)) ∧ Below w.heap.size w w' := by
  go_enter Try.func28, Try.ntmps28
  by_cases h60 : 60 < l.length
  · go_wp2
    go_ret
    exact ⟨ret_int (by unfold vld; rw [if_pos h60]), by go_grown⟩
  · go_wp2
    go_loopw [3] (fun i wr => ∃ k : Nat, k ≤ l.length ∧ i = .int .i64 k ∧ Below w.heap.size w wr ∧ Hid (vG (-1) l = vG (prv l k) (l.drop k))) (fun i _ => l.length - (intOf i).toNat)
    case atStart => exact ⟨0, by omega, rfl, Below.refl _ _, by rw [prv_zero]; rfl⟩
    case round =>
      obtain ⟨k, hk, rfl, hbl, HV⟩ := hrel
      by_cases hlt : k < l.length
      · obtain ⟨ad, rfl, hab, c0, c1, c2, c3, c4⟩ := (hR.below hbl).at_ hlt
        by_cases hr : rightB (gf l k) = true
        · obtain ⟨r1, r2, r3, r4, r5, r6, r7, r8, r9⟩ := (right_iff _).1 hr
          have i1 : inB (gf l k).at_ 0 1440000 = true := inB_true.2 ⟨r1, r2⟩
          have i2 : inB (gf l k).ch 0 99 = true := inB_true.2 ⟨r3, r4⟩
          have i3 : stretchB (gf l k).fr (gf l k).un = true := by simp [stretchB]; omega
          have i4 : inB (gf l k).me 0 9 = true := inB_true.2 ⟨r8, r9⟩
          clear r1 r2 r3 r4 r5 r6 r7 r8 r9
          have hb3 := hbl.alloc hbl.size (.cells #[.int .i64 (gf l k).at_, .int .i64 (gf l k).ch, .int .i64 (gf l k).fr, .int .i64 (gf l k).un, .int .i64 (gf l k).me] 43)
          by_cases hk0 : k = 0
          · have hd : decide (0 < k) = false := by simp; omega
            clear hk0
            go_wp2_with (first | (go_at_call 67; refine (within_any _ _ _ _).mono ?_; rintro e w' ⟨rfl, rfl⟩) | (go_at_call 71; refine (rdays_any _ _ _).mono ?_; rintro e w' ⟨rfl, rfl⟩))
            go_quiet (fail)
            go_wp2
            go_roundw
            case rel => exact ⟨k + 1, by omega, by go_num, below_drewN hb3 _, vld_next l k hlt HV.out hr (fun h => by simp at hd; omega)⟩
            case measure => simp [intOf]; omega
          · have hkp : 0 < k := by omega
            obtain ⟨ad', e', hab', d0, -⟩ := (hR.below hbl).at_ (k := k - 1) (by omega)
            cases e'
            by_cases hp : (gf l k).at_ < (gf l (k - 1)).at_
            · go_wp2_with (first | (go_at_call 67; refine (within_any _ _ _ _).mono ?_; rintro e w' ⟨rfl, rfl⟩) | (go_at_call 71; refine (rdays_any _ _ _).mono ?_; rintro e w' ⟨rfl, rfl⟩))
              go_quiet (fail)
              go_wp2
              go_ret
              exact ⟨ret_int (vld_order l k hlt h60 HV.out hr hkp hp).symm, below_drewN hb3 _⟩
            · go_wp2_with (first | (go_at_call 67; refine (within_any _ _ _ _).mono ?_; rintro e w' ⟨rfl, rfl⟩) | (go_at_call 71; refine (rdays_any _ _ _).mono ?_; rintro e w' ⟨rfl, rfl⟩))
              go_quiet (fail)
              go_wp2
              go_roundw
              case rel => exact ⟨k + 1, by omega, by go_num, below_drewN hb3 _, vld_next l k hlt HV.out hr (fun _ => by omega)⟩
              case measure => simp [intOf]; omega
        · have hr' : rightB (gf l k) = false := by simpa using hr
          have hn : ¬ (inB (gf l k).at_ 0 1440000 = true ∧ inB (gf l k).ch 0 99 = true ∧ stretchB (gf l k).fr (gf l k).un = true ∧ inB (gf l k).me 0 9 = true) := by
            intro hh; apply hr; rw [right_iff]; simp [inB, stretchB] at hh; omega
          have HN := Lib.hid hn; clear hn hr
          go_wp2_with (first | (go_at_call 67; refine (within_any _ _ _ _).mono ?_; rintro e w' ⟨rfl, rfl⟩) | (go_at_call 71; refine (rdays_any _ _ _).mono ?_; rintro e w' ⟨rfl, rfl⟩))
          all_goals first
            | exact absurd ⟨‹_›, ‹_›, ‹_›, by simpa using ‹(!inB (gf l k).me 0 9) = false›⟩ HN.out
            | (go_ret; exact ⟨ret_int (vld_wrong l k hlt h60 HV.out hr').symm, hbl.alloc hbl.size _⟩)
      · go_wp2
        go_ret
        exact ⟨ret_int (vld_end l k hlt h60 HV.out).symm, hbl⟩

set_option maxHeartbeats 400000 in
theorem asked_any (l : List Fact) (b : Bool) (A : Option Addr) (c B : Nat) (w : World) (hR : RF w B A l) (hl : l.length ≤ 1000000000) :
    Calls Try.prog 57 #[.slice A l.length c, .bool b] w fun e w' => e = .returned (.int .i64 (askd l b)) ∧ Below w.heap.size w w' := by
  go_enter Try.func57, Try.ntmps57
  go_wp2_with fail
  refine (validate_any l A c B _ hR hl).mono ?_
  rintro e w1 ⟨rfl, hb1⟩
  by_cases hv : vld l = 0
  · have hv1 : (vld l != 0) = false := by simp [hv]
    have HV := Lib.hid hv; clear hv
    cases b
    all_goals
      go_wp2
      go_ret
      exact ⟨ret_int (by simp [askd, HV.out]), hb1⟩
  · have hv1 : (vld l != 0) = true := by simp [hv]
    have HV := Lib.hid hv; clear hv
    go_wp2
    go_ret
    exact ⟨ret_int (by unfold askd; rw [if_pos HV.out]), hb1⟩

set_option maxHeartbeats 400000 in
theorem rasked_any (l : List Fact) (child day : Int) (A : Option Addr) (c B : Nat) (w : World) (hR : RF w B A l) (hl : l.length ≤ 1000000000) :
    Calls Try.prog 60 #[.slice A l.length c, .int .i64 child, .int .i64 day] w fun e w' => e = .returned (.int .i64 (askd l (inB child 0 99 && inB day 0 999))) ∧ Below w.heap.size w w' := by
  go_enter Try.func60, Try.ntmps60
  go_wp2_with fail
  refine (rvalidate_any l A c B _ hR hl).mono ?_
  rintro e w1 ⟨rfl, hb1⟩
  by_cases hv : vld l = 0
  · have hv1 : (vld l != 0) = false := by simp [hv]
    have HV := Lib.hid hv; clear hv
    by_cases h1 : inB child 0 99 = true
    · by_cases h2 : inB day 0 999 = true
      · go_wp2_with (go_at_call 67; refine (within_any _ _ _ _).mono ?_; rintro e w' ⟨rfl, rfl⟩)
        go_ret
        exact ⟨ret_int (by simp [askd, HV.out, h1, h2]), hb1⟩
      · have h2' : inB day 0 999 = false := by simpa using h2
        clear h2
        go_wp2_with (go_at_call 67; refine (within_any _ _ _ _).mono ?_; rintro e w' ⟨rfl, rfl⟩)
        go_ret
        exact ⟨ret_int (by simp [askd, HV.out, h1, h2']), hb1⟩
    · have h1' : inB child 0 99 = false := by simpa using h1
      clear h1
      go_wp2_with (go_at_call 67; refine (within_any _ _ _ _).mono ?_; rintro e w' ⟨rfl, rfl⟩)
      go_ret
      exact ⟨ret_int (by simp [askd, HV.out, h1']), hb1⟩
  · have hv1 : (vld l != 0) = true := by simp [hv]
    have HV := Lib.hid hv; clear hv
    go_wp2
    go_ret
    exact ⟨ret_int (by unfold askd; rw [if_pos HV.out]), hb1⟩

end Go.Proofs.Ytoopmancobfjeaa
