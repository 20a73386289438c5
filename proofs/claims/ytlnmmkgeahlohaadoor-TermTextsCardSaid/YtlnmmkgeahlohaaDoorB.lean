/-
  Walks: which terms and cycles are valid.
-/
import Derived.Test.YtlnmmkgeahlohaaDoorA
namespace Go.Proofs.YtlnmmkgeahlohaaDoor
set_option linter.unusedVariables false
set_option linter.unusedSimpArgs false
open Go.RowKit

theorem box_step {w w1 w2 : World} {cs : Array Value} {t : TypeId} (hx : Below (w.heap.size + 1) (w.alloc (.cells cs t)) w1) (hb : Below w1.heap.size w1 w2) : Below (w.heap.size + 1) (w.alloc (.cells cs t)) w2 :=
  hx.trans (hb.mono (by have := hx.size; simp at this; omega))
theorem two_step {w w1 w2 : World} {cs cs' : Array Value} {t t' : TypeId} (hx : Below (w.heap.size + 2) ((w.alloc (.cells cs t)).alloc (.cells cs' t')) w1) (hb : Below w1.heap.size w1 w2) : Below (w.heap.size + 2) ((w.alloc (.cells cs t)).alloc (.cells cs' t')) w2 :=
  hx.trans (hb.mono (by have := hx.size; simp at this; omega))
theorem tE_len {t : Tm} (h : ¬ (1 ≤ t.len ∧ t.len ≤ 1000)) : tE t = 1 := by unfold tE; rw [inB_false.2 h]; rfl
theorem tE_rest {t : Tm} (h : isSet t.rest 7 = false) : tE t = 1 := by unfold tE; rw [h]; cases inB t.len 1 1000 <;> rfl
theorem tE_seven {t : Tm} (h : t.rest.length = 7) : tE t = 1 := by unfold tE; rw [decide_eq_true h]; cases inB t.len 1 1000 <;> cases isSet t.rest 7 <;> rfl
theorem tE_more {t : Tm} (a : 1 ≤ t.len ∧ t.len ≤ 1000) (b : isSet t.rest 7 = true) (d : ¬ t.rest.length = 7) : tE t = if 60 < t.clo.length then 4 else if isSet t.clo t.len then 0 else 1 := by
  unfold tE; rw [inB_true.2 a, b, decide_eq_false d]; rfl

set_option maxRecDepth 100000 in
set_option maxHeartbeats 800000 in
theorem tvalidate_any (t : Tm) (A1 A2 : Option Addr) (c1 c2 : Nat) (w : World) (h1 : RN w A1 t.rest) (h2 : RN w A2 t.clo) (hl1 : t.rest.length ≤ 1000000000) (hl2 : t.clo.length ≤ 1000000000) :
    Calls Tryd.prog 13 #[.agg #[.int .i64 t.len, .slice A1 t.rest.length c1, .slice A2 t.clo.length c2]] w fun e w' => e = .returned (.int .i64 (tE t)) ∧ Below w.heap.size w w' := by
  obtain ⟨E, hE⟩ : ∃ E, E = tE t := ⟨_, rfl⟩
  rw [← hE]
  have hb0 : Below w.heap.size w (w.alloc (.cells #[.int .i64 t.len, .slice A1 t.rest.length c1, .slice A2 t.clo.length c2] 24)) := (Below.refl _ _).alloc (Nat.le_refl _) _
  have g1 := h1.below hb0
  have g2 := h2.below hb0
  by_cases l1 : t.len < 1
  · have hEv : E = 1 := hE.trans (tE_len (by omega))
    have HEV := Lib.hid hEv
    clear hEv
    clear hE
    go_enter Tryd.func13, Tryd.ntmps13
    go_wp2
    go_ret
    exact ⟨ret_int (by rw [HEV.out]), hb0⟩
  by_cases l2 : 1000 < t.len
  · have hEv : E = 1 := hE.trans (tE_len (by omega))
    have HEV := Lib.hid hEv
    clear hEv
    clear hE
    go_enter Tryd.func13, Tryd.ntmps13
    go_wp2
    go_ret
    exact ⟨ret_int (by rw [HEV.out]), hb0⟩
  have HE := Lib.hid hE
  clear hE
  go_enter Tryd.func13, Tryd.ntmps13
  go_wp2_with fail
  refine (isSet_any t.rest 7 hl1 A1 c1 _ g1).mono ?_
  rintro e w1 ⟨rfl, rfl⟩
  cases hs : isSet t.rest 7 with
  | false =>
    have hEv := HE.out.trans (tE_rest hs)
    have HEV := Lib.hid hEv
    clear hEv hs
    go_wp2
    go_ret
    exact ⟨ret_int (by rw [HEV.out]), hb0⟩
  | true =>
    by_cases h7 : t.rest.length = 7
    · have hEv := HE.out.trans (tE_seven h7)
      have h7' : ((t.rest.length : Int) == 7) = true := by simp [h7]
      have HEV := Lib.hid hEv
      clear hEv hs h7
      go_wp2
      go_ret
      exact ⟨ret_int (by rw [HEV.out]), hb0⟩
    · have hEm := HE.out.trans (tE_more (by omega) hs h7)
      have h7' : ((t.rest.length : Int) == 7) = false := by simp; omega
      have HEM := Lib.hid hEm
      clear hEm hs h7
      by_cases h60 : 60 < t.clo.length
      · have HEV := Lib.hid (HEM.out.trans (if_pos h60))
        go_wp2
        go_ret
        exact ⟨ret_int (by rw [HEV.out]), hb0⟩
      · have hEn := HEM.out.trans (if_neg h60)
        have HEN := Lib.hid hEn
        clear hEn
        go_wp2_with fail
        refine (isSet_any t.clo t.len hl2 A2 c2 _ g2).mono ?_
        rintro e w1 ⟨rfl, rfl⟩
        cases hs2 : isSet t.clo t.len with
        | false =>
          have hEv : E = 1 := by rw [HEN.out, hs2]; rfl
          have HEV := Lib.hid hEv
          clear hEv hs2
          go_wp2
          go_ret
          exact ⟨ret_int (by rw [HEV.out]), hb0⟩
        | true =>
          have hEv : E = 0 := by rw [HEN.out, hs2]; rfl
          have HEV := Lib.hid hEv
          clear hEv hs2
          go_wp2
          go_ret
          exact ⟨ret_int (by rw [HEV.out]), hb0⟩

set_option maxRecDepth 100000 in
set_option maxHeartbeats 800000 in
theorem rtvalidate_any (t : Tm) (A1 A2 : Option Addr) (c1 c2 : Nat) (w : World) (h1 : RN w A1 t.rest) (h2 : RN w A2 t.clo) (hl1 : t.rest.length ≤ 1000000000) (hl2 : t.clo.length ≤ 1000000000) :
    Calls Tryd.prog 16 #[.agg #[.int .i64 t.len, .slice A1 t.rest.length c1, .slice A2 t.clo.length c2]] w fun e w' => e = .returned (.int .i64 (tE t)) ∧ Below w.heap.size w w' := by
  obtain ⟨E, hE⟩ : ∃ E, E = tE t := ⟨_, rfl⟩
  rw [← hE]
  have HE := Lib.hid hE
  clear hE
  have hx0 : Below (w.heap.size + 1) (w.alloc (.cells #[.int .i64 t.len, .slice A1 t.rest.length c1, .slice A2 t.clo.length c2] 24)) (w.alloc (.cells #[.int .i64 t.len, .slice A1 t.rest.length c1, .slice A2 t.clo.length c2] 24)) := Below.refl _ _
  obtain ⟨_, _, _, hb0⟩ := blk_facts hx0 (by omega)
  go_enter Tryd.func16, Tryd.ntmps16
  go_wp2_with fail
  refine (within_any _ _ _ _).mono ?_
  rintro e w1 ⟨rfl, hw1⟩
  subst hw1
  cases hi : inB t.len 1 1000 with
  | false =>
    have hEv := HE.out.trans (tE_len (inB_false.1 hi))
    have HEV := Lib.hid hEv
    clear hEv
    go_wp2
    go_ret
    exact ⟨ret_int (by rw [HEV.out]), hb0⟩
  | true =>
    have hib := inB_true.1 hi
    go_wp2_with fail
    refine (risSet_any t.rest 6 hl1 A1 c1 _ (h1.below hb0)).mono ?_
    rintro e w1 ⟨rfl, hb1⟩
    rw [show (6 : Int) + 1 = 7 by decide]
    have hx1 := hx0.trans (hb1.mono (by simp))
    clear hb1
    obtain ⟨bx, _, _, hb1⟩ := blk_facts hx1 (by omega)
    cases hs : isSet t.rest 7 with
    | false =>
      have hEv := HE.out.trans (tE_rest hs)
      have HEV := Lib.hid hEv
      clear hEv hs
      go_wp2
      go_ret
      exact ⟨ret_int (by rw [HEV.out]), hb1⟩
    | true =>
      by_cases h7 : t.rest.length = 7
      · have hEv := HE.out.trans (tE_seven h7)
        have h7' : ((t.rest.length : Int) == 7) = true := by simp [h7]
        have HEV := Lib.hid hEv
        clear hEv hs h7
        go_wp2
        go_ret
        exact ⟨ret_int (by rw [HEV.out]), hb1⟩
      · have hEm := HE.out.trans (tE_more (by omega) hs h7)
        have h7' : ((t.rest.length : Int) == 7) = false := by simp; omega
        have HEM := Lib.hid hEm
        clear hEm hs h7
        by_cases h60 : 60 < t.clo.length
        · have HEV := Lib.hid (HEM.out.trans (if_pos h60))
          go_wp2
          go_ret
          exact ⟨ret_int (by rw [HEV.out]), hb1⟩
        · have hEn := HEM.out.trans (if_neg h60)
          have HEN := Lib.hid hEn
          clear hEn
          go_wp2_with fail
          refine (risSet_any t.clo (t.len - 1) hl2 A2 c2 _ (h2.below hb1)).mono ?_
          rintro e w2 ⟨rfl, hb2⟩
          rw [show t.len - 1 + 1 = t.len by omega]
          have hb3 := hb1.trans (hb2.mono hb1.size)
          cases hs2 : isSet t.clo t.len with
          | false =>
            have hEv : E = 1 := by rw [HEN.out, hs2]; rfl
            have HEV := Lib.hid hEv
            clear hEv hs2
            go_wp2
            go_ret
            exact ⟨ret_int (by rw [HEV.out]), hb3⟩
          | true =>
            have hEv : E = 0 := by rw [HEN.out, hs2]; rfl
            have HEV := Lib.hid hEv
            clear hEv hs2
            go_wp2
            go_ret
            exact ⟨ret_int (by rw [HEV.out]), hb3⟩

theorem cE_bad {c : Cy} (h : ¬ CyOk c) : cE c = 1 := by
  unfold cE; split
  · rename_i h1; exact absurd (CyOk.of (by unfold cE; rw [if_pos h1])) h
  · rfl

set_option maxHeartbeats 800000 in
theorem cvalidate_any (c : Cy) (w : World) :
    Calls Tryd.prog 40 #[.agg #[.int .i64 c.n, .int .i64 c.f, .int .i64 c.k]] w fun e w' => e = .returned (.int .i64 (cE c)) ∧ Below w.heap.size w w' := by
  obtain ⟨E, hE⟩ : ∃ E, E = cE c := ⟨_, rfl⟩
  rw [← hE]
  have HE := Lib.hid hE
  clear hE
  have hb0 : Below w.heap.size w (w.alloc (.cells #[.int .i64 c.n, .int .i64 c.f, .int .i64 c.k] 37)) := (Below.refl _ _).alloc (Nat.le_refl _) _
  go_enter Tryd.func40, Tryd.ntmps40
  by_cases a1 : c.n < 1
  · have hEv : E = 1 := HE.out.trans (cE_bad (fun h => by have := h.n1; have := h.n2; have := h.f0; have := h.f1; omega))
    have HEV := Lib.hid hEv
    clear hEv
    go_wp2
    go_ret
    exact ⟨ret_int (by rw [HEV.out]), hb0⟩
  by_cases a2 : 40 < c.n
  · have hEv : E = 1 := HE.out.trans (cE_bad (fun h => by have := h.n1; have := h.n2; have := h.f0; have := h.f1; omega))
    have HEV := Lib.hid hEv
    clear hEv
    go_wp2
    go_ret
    exact ⟨ret_int (by rw [HEV.out]), hb0⟩
  by_cases a3 : c.f < 0
  · have hEv : E = 1 := HE.out.trans (cE_bad (fun h => by have := h.n1; have := h.n2; have := h.f0; have := h.f1; omega))
    have HEV := Lib.hid hEv
    clear hEv
    go_wp2
    go_ret
    exact ⟨ret_int (by rw [HEV.out]), hb0⟩
  by_cases a4 : c.n ≤ c.f
  · have hEv : E = 1 := HE.out.trans (cE_bad (fun h => by have := h.n1; have := h.n2; have := h.f0; have := h.f1; omega))
    have HEV := Lib.hid hEv
    clear hEv
    go_wp2
    go_ret
    exact ⟨ret_int (by rw [HEV.out]), hb0⟩
  cases hk0 : (c.k != 0) with
  | false =>
    have hEv : E = 0 := HE.out.trans (CyOk.to ⟨by omega, by omega, by omega, by omega, .inl (by simpa using hk0)⟩)
    have HEV := Lib.hid hEv
    clear hEv
    go_wp2
    go_ret
    exact ⟨ret_int (by rw [HEV.out]), hb0⟩
  | true =>
  cases hk1 : (c.k != 1) with
  | false =>
    have hEv : E = 0 := HE.out.trans (CyOk.to ⟨by omega, by omega, by omega, by omega, .inr (by simpa using hk1)⟩)
    have HEV := Lib.hid hEv
    clear hEv
    go_wp2
    go_ret
    exact ⟨ret_int (by rw [HEV.out]), hb0⟩
  | true =>
    have hEv : E = 1 := HE.out.trans (cE_bad (fun h => by rcases h.k with h | h <;> simp [h] at hk0 hk1))
    have HEV := Lib.hid hEv
    clear hEv
    go_wp2
    go_ret
    exact ⟨ret_int (by rw [HEV.out]), hb0⟩

end Go.Proofs.YtlnmmkgeahlohaaDoor
