/-
  Walks: Known and Reason.
-/
import Derived.Test.YtoopmancobfjeaaG
namespace Go.Proofs.Ytoopmancobfjeaa
set_option linter.unusedVariables false
set_option linter.unusedSimpArgs false
open Go.RowKit

theorem field_found (a b c d e f : Int) (w : World) : (Instr.field 94 (.agg #[.int .i64 a, .int .i64 b, .int .i64 c, .int .i64 d, .int .i64 e, .int .i64 f]) 0).run Try.prog w = .ok (.agg #[.int .i64 a, .int .i64 b, .int .i64 c, .int .i64 d, .int .i64 e]) w := by kernel_rfl
theorem field_meal (a b c d e : Int) (w : World) : (Instr.field 43 (.agg #[.int .i64 a, .int .i64 b, .int .i64 c, .int .i64 d, .int .i64 e]) 4).run Try.prog w = .ok (.int .i64 e) w := by kernel_rfl
/-- The error of a table, a child and a day. -/
def askE (l : List Fact) (child day : Int) : Int := askd l (inB child 0 99 && inB day 0 999)
theorem askE_ok {l : List Fact} {child day : Int} (h : askE l child day = 0) : Vld l ∧ 0 ≤ child ∧ child ≤ 99 ∧ 0 ≤ day ∧ day ≤ 999 := by
  obtain ⟨h1, h2⟩ := askd_ok h
  rw [Bool.and_eq_true] at h2
  have := inB_true.1 h2.1
  have := inB_true.1 h2.2
  exact ⟨Vld.of h1, by omega, by omega, by omega, by omega⟩
def knownR (l : List Fact) (t child day : Int) : Int := if askE l child day = 0 then knw l t child day else 0
def reasonR (l : List Fact) (t child day : Int) : Int := if askE l child day = 0 ∧ 0 ≤ rsn l t child day then rsn l t child day else 0
def reasonB (l : List Fact) (t child day : Int) : Bool := decide (askE l child day = 0 ∧ 0 ≤ rsn l t child day)

set_option maxRecDepth 100000 in
set_option maxHeartbeats 400000 in
theorem knownX_any (l : List Fact) (t child day : Int) (hl : l.length ≤ 1000000000) (A : Option Addr) (c B : Nat) (hc : l.length ≤ c) (w : World) (hR : RF w B A l) :
    Calls Try.prog 34 #[.slice A l.length c, .int .i64 t, .int .i64 child, .int .i64 day] w fun e w' => e = .returned (.tuple #[.int .i64 (knownR l t child day), .int .i64 (askE l child day)]) ∧ Below w.heap.size w w' := by
  obtain ⟨E, hE⟩ : ∃ E, E = askE l child day := ⟨_, rfl⟩
  have hE1 : askd l (inB child 0 99 && inB day 0 999) = E := by rw [hE]; rfl
  rw [← hE]
  obtain ⟨KR, hKR⟩ : ∃ KR, KR = knownR l t child day := ⟨_, rfl⟩
  rw [← hKR]
  have HK := Lib.hid hKR; clear hKR
  have HE := Lib.hid hE; clear hE
  have HE1 := Lib.hid hE1; clear hE1
  go_enter Try.func34, Try.ntmps34
  go_wp2_with fail
  refine (isChild_any _ _).mono ?_
  rintro e w' ⟨rfl, rfl⟩
  obtain ⟨b1, hb1⟩ : ∃ b, b = inB child 0 99 := ⟨_, rfl⟩
  rw [← hb1]
  rw [← hb1] at HE1
  clear hb1
  have hrest : ∀ w1, Below w'.heap.size w' w1 → RF w1 B A l := fun w1 hb => hR.below hb
  cases b1 with
  | true =>
    go_wp2_with (go_at_call 72; refine (isDay_any _ _).mono ?_; rintro e w1 ⟨rfl, rfl⟩)
    refine (asked_any l _ A c B _ hR hl).mono ?_
    rintro e w1 ⟨rfl, hb1⟩
    rw [show inB day 0 999 = (true && inB day 0 999) by simp, HE1.out]
    by_cases h0 : E = 0
    · obtain ⟨hV, -⟩ := askE_ok (HE.out.symm.trans h0)
      have hk : KR = fMe l (rsn l t child day) := by rw [HK.out, knownR, if_pos (HE.out.symm.trans h0)]; rfl
      have HKK := Lib.hid hk
      have hE0 : (E != 0) = false := by simp [h0]
      have H0 := Lib.hid h0
      clear h0 hk
      go_wp2_with fail
      refine (reason_any l t child day hV A c B hc _ (hR.below hb1)).mono ?_
      rintro e w2 ⟨rfl, hb2⟩
      unfold foundV
      have hfld := field_found
      have hfld2 := field_meal
      go_wp2
      go_ret2
      exact ⟨ret2 (by rw [HKK.out]; rfl) (by rw [H0.out]; rfl), hb1.trans (hb2.mono hb1.size)⟩
    · have hE0 : (E != 0) = true := by simp [h0]
      have hk : KR = 0 := by rw [HK.out, knownR, if_neg (fun h => h0 (HE.out.trans h))]
      have HKK := Lib.hid hk
      clear h0 hk
      go_wp2
      go_ret2
      exact ⟨ret2 (by rw [HKK.out]; rfl) rfl, hb1⟩
  | false =>
    go_wp2_with fail
    refine (asked_any l _ A c B _ hR hl).mono ?_
    rintro e w1 ⟨rfl, hb1⟩
    rw [show askd l false = E by rw [← HE1.out]; rfl]
    have h0 : ¬ E = 0 := by rw [← HE1.out]; intro h; have := (askd_ok h).2; simp at this
    have hE0 : (E != 0) = true := by simp [h0]
    have hk : KR = 0 := by rw [HK.out, knownR, if_neg (fun h => h0 (HE.out.trans h))]
    have HKK := Lib.hid hk
    clear h0 hk
    go_wp2
    go_ret2
    exact ⟨ret2 (by rw [HKK.out]; rfl) rfl, hb1⟩

theorem ret3 {a b c a' b' c' : Value} (h1 : a = a') (h2 : b = b') (h3 : c = c') : Ending.returned (.tuple #[a, b, c]) = .returned (.tuple #[a', b', c']) := by rw [h1, h2, h3]

set_option maxRecDepth 100000 in
set_option maxHeartbeats 400000 in
theorem rknownX_any (l : List Fact) (t child day : Int) (hl : l.length ≤ 1000000000) (A : Option Addr) (c B : Nat) (w : World) (hR : RF w B A l) :
    Calls Try.prog 35 #[.slice A l.length c, .int .i64 t, .int .i64 child, .int .i64 day] w fun e w' => e = .returned (.tuple #[.int .i64 (knownR l t child day), .int .i64 (askE l child day)]) ∧ Below w.heap.size w w' := by
  obtain ⟨E, hE⟩ : ∃ E, E = askE l child day := ⟨_, rfl⟩
  obtain ⟨KR, hKR⟩ : ∃ KR, KR = knownR l t child day := ⟨_, rfl⟩
  rw [← hKR, ← hE]
  have HK := Lib.hid hKR; clear hKR
  have HE := Lib.hid hE; clear hE
  go_enter Try.func35, Try.ntmps35
  go_wp2_with fail
  refine (rasked_any l _ _ A c B _ hR hl).mono ?_
  rintro e w1 ⟨rfl, hb1⟩
  rw [show askd l (inB child 0 99 && inB day 0 999) = E by rw [HE.out]; rfl]
  by_cases h0 : E = 0
  · have hk : KR = knw l t child day := by rw [HK.out, knownR, if_pos (HE.out.symm.trans h0)]
    have HKK := Lib.hid hk
    have hE0 : (E != 0) = false := by simp [h0]
    have H0 := Lib.hid h0
    clear h0 hk
    go_wp2_with fail
    refine (rknown_any l t child day hl A c B _ (hR.below hb1)).mono ?_
    rintro e w2 ⟨rfl, rfl⟩
    go_wp2
    go_ret2
    exact ⟨ret2 (by rw [HKK.out]; rfl) (by rw [H0.out]; rfl), hb1⟩
  · have hE0 : (E != 0) = true := by simp [h0]
    have hk : KR = 0 := by rw [HK.out, knownR, if_neg (fun h => h0 (HE.out.trans h))]
    have HKK := Lib.hid hk
    clear h0 hk
    go_wp2
    go_ret2
    exact ⟨ret2 (by rw [HKK.out]; rfl) rfl, hb1⟩

set_option maxRecDepth 100000 in
set_option maxHeartbeats 400000 in
theorem rreasonX_any (l : List Fact) (t child day : Int) (hl : l.length ≤ 1000000000) (A : Option Addr) (c B : Nat) (w : World) (hR : RF w B A l) :
    Calls Try.prog 37 #[.slice A l.length c, .int .i64 t, .int .i64 child, .int .i64 day] w fun e w' => e = .returned (.tuple #[.int .i64 (reasonR l t child day), .bool (reasonB l t child day), .int .i64 (askE l child day)]) ∧ Below w.heap.size w w' := by
  obtain ⟨E, hE⟩ : ∃ E, E = askE l child day := ⟨_, rfl⟩
  obtain ⟨KR, hKR⟩ : ∃ KR, KR = reasonR l t child day := ⟨_, rfl⟩
  obtain ⟨KB, hKB⟩ : ∃ KR, KR = reasonB l t child day := ⟨_, rfl⟩
  obtain ⟨R, hr⟩ : ∃ R, R = rsn l t child day := ⟨_, rfl⟩
  rw [← hKR, ← hKB, ← hE]
  have HK := Lib.hid hKR; clear hKR
  have HB := Lib.hid hKB; clear hKB
  have HE := Lib.hid hE; clear hE
  have HR := Lib.hid hr; clear hr
  go_enter Try.func37, Try.ntmps37
  go_wp2_with fail
  refine (rasked_any l _ _ A c B _ hR hl).mono ?_
  rintro e w1 ⟨rfl, hb1⟩
  rw [show askd l (inB child 0 99 && inB day 0 999) = E by rw [HE.out]; rfl]
  by_cases h0 : E = 0
  · have hk1 : 0 ≤ R → KR = R ∧ KB = true := fun h => ⟨by rw [HK.out, reasonR, if_pos ⟨HE.out.symm.trans h0, HR.out ▸ h⟩, HR.out], by rw [HB.out, reasonB]; exact decide_eq_true ⟨HE.out.symm.trans h0, HR.out ▸ h⟩⟩
    have hk2 : R < 0 → KR = 0 ∧ KB = false := fun h => ⟨by rw [HK.out, reasonR, if_neg]; rintro ⟨_, h2⟩; rw [← HR.out] at h2; omega, by rw [HB.out, reasonB]; refine decide_eq_false ?_; rintro ⟨_, h2⟩; rw [← HR.out] at h2; omega⟩
    have HK1 := Lib.hid hk1
    have HK2 := Lib.hid hk2
    have hE0 : (E != 0) = false := by simp [h0]
    have H0 := Lib.hid h0
    clear h0 hk1 hk2
    go_wp2_with fail
    refine (rreason_any l t child day hl A c B _ (hR.below hb1)).mono ?_
    rintro e w2 ⟨rfl, rfl⟩
    rw [← HR.out]
    by_cases hr0 : 0 ≤ R
    · have hd : decide (0 ≤ R) = true := decide_eq_true hr0
      have hm : max R 0 = R := by omega
      have HM := Lib.hid hm; clear hm
      go_wp2
      go_ret3
      obtain ⟨k1, k2⟩ := HK1.out hr0
      exact ⟨ret3 (by rw [k1]; first | rfl | exact congrArg _ HM.out) (by rw [k2]; first | rfl | simp [hd]) (by rw [H0.out]; rfl), hb1⟩
    · have hd : decide (0 ≤ R) = false := decide_eq_false hr0
      have hm : max R 0 = 0 := by omega
      have HM := Lib.hid hm; clear hm
      go_wp2
      go_ret3
      obtain ⟨k1, k2⟩ := HK2.out (by omega)
      exact ⟨ret3 (by rw [k1]; first | rfl | exact congrArg _ HM.out) (by rw [k2]; first | rfl | simp [hd]) (by rw [H0.out]; rfl), hb1⟩
  · have hE0 : (E != 0) = true := by simp [h0]
    have hk : KR = 0 := by rw [HK.out, reasonR, if_neg (fun h => h0 (HE.out.trans h.1))]
    have hk2 : KB = false := by rw [HB.out, reasonB]; exact decide_eq_false (fun h => h0 (HE.out.trans h.1))
    have HKK := Lib.hid hk
    have HKB := Lib.hid hk2
    clear h0 hk hk2
    go_wp2
    go_ret3
    exact ⟨ret3 (by rw [HKK.out]; rfl) (by rw [HKB.out]; rfl) rfl, hb1⟩

set_option maxRecDepth 100000 in
set_option maxHeartbeats 400000 in
theorem reasonX_any (l : List Fact) (t child day : Int) (hl : l.length ≤ 1000000000) (A : Option Addr) (c B : Nat) (hc : l.length ≤ c) (w : World) (hR : RF w B A l) :
    Calls Try.prog 36 #[.slice A l.length c, .int .i64 t, .int .i64 child, .int .i64 day] w fun e w' => e = .returned (.tuple #[.int .i64 (reasonR l t child day), .bool (reasonB l t child day), .int .i64 (askE l child day)]) ∧ Below w.heap.size w w' := by
  obtain ⟨E, hE⟩ : ∃ E, E = askE l child day := ⟨_, rfl⟩
  have hE1 : askd l (inB child 0 99 && inB day 0 999) = E := by rw [hE]; rfl
  obtain ⟨KR, hKR⟩ : ∃ KR, KR = reasonR l t child day := ⟨_, rfl⟩
  obtain ⟨KB, hKB⟩ : ∃ KR, KR = reasonB l t child day := ⟨_, rfl⟩
  obtain ⟨R, hr⟩ : ∃ R, R = rsn l t child day := ⟨_, rfl⟩
  rw [← hKR, ← hKB, ← hE]
  have HK := Lib.hid hKR; clear hKR
  have HB := Lib.hid hKB; clear hKB
  have HE := Lib.hid hE; clear hE
  have HE1 := Lib.hid hE1; clear hE1
  have HR := Lib.hid hr; clear hr
  have hneg : ¬ E = 0 → KR = 0 ∧ KB = false := fun h0 => ⟨by rw [HK.out, reasonR, if_neg (fun h => h0 (HE.out.trans h.1))], by rw [HB.out, reasonB]; exact decide_eq_false (fun h => h0 (HE.out.trans h.1))⟩
  have HNEG := Lib.hid hneg; clear hneg
  go_enter Try.func36, Try.ntmps36
  go_wp2_with fail
  refine (isChild_any _ _).mono ?_
  rintro e w' ⟨rfl, rfl⟩
  obtain ⟨b1, hb1⟩ : ∃ b, b = inB child 0 99 := ⟨_, rfl⟩
  rw [← hb1]
  rw [← hb1] at HE1
  clear hb1
  cases b1 with
  | true =>
    go_wp2_with (go_at_call 72; refine (isDay_any _ _).mono ?_; rintro e w1 ⟨rfl, rfl⟩)
    refine (asked_any l _ A c B _ hR hl).mono ?_
    rintro e w1 ⟨rfl, hb1⟩
    rw [show inB day 0 999 = (true && inB day 0 999) by simp, HE1.out]
    by_cases h0 : E = 0
    · obtain ⟨hV, -⟩ := askE_ok (HE.out.symm.trans h0)
      have hk1 : 0 ≤ R → KR = R ∧ KB = true := fun h => ⟨by rw [HK.out, reasonR, if_pos ⟨HE.out.symm.trans h0, HR.out ▸ h⟩, HR.out], by rw [HB.out, reasonB]; exact decide_eq_true ⟨HE.out.symm.trans h0, HR.out ▸ h⟩⟩
      have hk2 : R < 0 → KR = 0 ∧ KB = false := fun h => ⟨by rw [HK.out, reasonR, if_neg]; rintro ⟨_, h2⟩; rw [← HR.out] at h2; omega, by rw [HB.out, reasonB]; refine decide_eq_false ?_; rintro ⟨_, h2⟩; rw [← HR.out] at h2; omega⟩
      have HK1 := Lib.hid hk1
      have HK2 := Lib.hid hk2
      have hE0 : (E != 0) = false := by simp [h0]
      have H0 := Lib.hid h0
      clear h0 hk1 hk2
      go_wp2_with fail
      refine (reason_any l t child day hV A c B hc _ (hR.below hb1)).mono ?_
      rintro e w2 ⟨rfl, hb2⟩
      rw [← HR.out]
      unfold foundV
      by_cases hr0 : R < 0
      · go_wp2
        go_ret3
        obtain ⟨k1, k2⟩ := HK2.out hr0
        exact ⟨ret3 (by rw [k1]; rfl) (by rw [k2]; rfl) (by rw [H0.out]; rfl), by have h3 := hb1.trans (hb2.mono hb1.size); exact h3.alloc h3.size _⟩
      · go_wp2
        go_ret3
        obtain ⟨k1, k2⟩ := HK1.out (by omega)
        exact ⟨ret3 (by rw [k1]; rfl) (by rw [k2]; rfl) (by rw [H0.out]; rfl), by have h3 := hb1.trans (hb2.mono hb1.size); exact h3.alloc h3.size _⟩
    · have hE0 : (E != 0) = true := by simp [h0]
      have HN := Lib.hid (HNEG.out h0)
      clear h0
      go_wp2
      go_ret3
      exact ⟨ret3 (by rw [HN.out.1]; rfl) (by rw [HN.out.2]; rfl) rfl, hb1⟩
  | false =>
    go_wp2_with fail
    refine (asked_any l _ A c B _ hR hl).mono ?_
    rintro e w1 ⟨rfl, hb1⟩
    rw [show askd l false = E by rw [← HE1.out]; rfl]
    have h0 : ¬ E = 0 := by rw [← HE1.out]; intro h; have := (askd_ok h).2; simp at this
    have hE0 : (E != 0) = true := by simp [h0]
    have HN := Lib.hid (HNEG.out h0)
    clear h0
    go_wp2
    go_ret3
    exact ⟨ret3 (by rw [HN.out.1]; rfl) (by rw [HN.out.2]; rfl) rfl, hb1⟩

end Go.Proofs.Ytoopmancobfjeaa
