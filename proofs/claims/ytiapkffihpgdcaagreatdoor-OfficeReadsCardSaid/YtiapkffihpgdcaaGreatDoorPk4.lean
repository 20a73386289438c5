import Derived.Test.YtiapkffihpgdcaaGreatDoorPk1
import Derived.Test.YtiapkffihpgdcaaGreatDoorPk3
import Derived.IntWalk
import Derived.ScopeJumps
import Derived.WalkMore
import Derived.StillTailTactics
import Derived.Deep.RegionHeld3
/-
  Walks: the errors of terms, cycles and days; Menu.
-/
namespace Go.Proofs.YtiapkffihpgdcaaGreatDoor
set_option linter.unusedVariables false
set_option linter.unusedSimpArgs false
open Go.RowKit

def isOpR (t : Tm) (d : Int) : Bool := decide (qE t d = 0) && opB t d

set_option maxHeartbeats 400000 in
theorem both_any (c : Cy) (t : Tm) (A1 A2 : Option Addr) (c1 c2 : Nat) (w : World) (h1 : RN w A1 t.rest) (h2 : RN w A2 t.clo) (hl1 : t.rest.length ≤ 1000000000) (hl2 : t.clo.length ≤ 1000000000) :
    Calls Tryz.prog 124 #[.agg #[.int .i64 t.len, .slice A1 t.rest.length c1, .slice A2 t.clo.length c2], .agg #[.int .i64 c.n, .int .i64 c.f, .int .i64 c.k]] w fun e w' => e = .returned (.int .i64 (bE t c)) ∧ Below w.heap.size w w' := by
  obtain ⟨E, hE⟩ : ∃ E, E = bE t c := ⟨_, rfl⟩
  rw [← hE]
  have HE := Lib.hid hE
  clear hE
  have hx0 : Below (w.heap.size + 2) ((w.alloc (.cells #[.int .i64 t.len, .slice A1 t.rest.length c1, .slice A2 t.clo.length c2] 24)).alloc (.cells #[.int .i64 c.n, .int .i64 c.f, .int .i64 c.k] 26)) ((w.alloc (.cells #[.int .i64 t.len, .slice A1 t.rest.length c1, .slice A2 t.clo.length c2] 24)).alloc (.cells #[.int .i64 c.n, .int .i64 c.f, .int .i64 c.k] 26)) := Below.refl _ _
  obtain ⟨bx, bY, _, hb0⟩ := two_blk hx0 (by omega)
  clear bx bY
  go_enter Tryz.func124, Tryz.ntmps124
  go_wp2_with fail
  refine (tvalidate_any t A1 A2 c1 c2 _ (h1.below hb0) (h2.below hb0) hl1 hl2).mono ?_
  rintro e w1 ⟨rfl, hb1⟩
  have hx1 := hx0.trans (hb1.mono (by simp))
  obtain ⟨bx, bY, _, hb⟩ := two_blk hx1 (by omega)
  by_cases h0 : tE t = 0
  · have h0' : (tE t != 0) = false := by simp [h0]
    have hEv : E = cE c := by rw [HE.out, bE, if_neg (by simp [h0])]
    have HEV := Lib.hid hEv
    clear h0 hEv
    go_wp2_with fail
    refine (cvalidate_any c _).mono ?_
    rintro e w2 ⟨rfl, hb2⟩
    go_wp2
    go_ret
    exact ⟨ret_int (by rw [HEV.out]), hb.trans (hb2.mono hb.size)⟩
  · have h0' : (tE t != 0) = true := by simp [h0]
    have hEv : E = tE t := by rw [HE.out, bE, if_pos h0]
    have HEV := Lib.hid hEv
    clear h0 hEv
    go_wp2
    go_ret
    exact ⟨ret_int (by rw [HEV.out]), hb⟩

set_option maxHeartbeats 400000 in
theorem rboth_any (c : Cy) (t : Tm) (A1 A2 : Option Addr) (c1 c2 : Nat) (w : World) (h1 : RN w A1 t.rest) (h2 : RN w A2 t.clo) (hl1 : t.rest.length ≤ 1000000000) (hl2 : t.clo.length ≤ 1000000000) :
    Calls Tryz.prog 199 #[.agg #[.int .i64 t.len, .slice A1 t.rest.length c1, .slice A2 t.clo.length c2], .agg #[.int .i64 c.n, .int .i64 c.f, .int .i64 c.k]] w fun e w' => e = .returned (.int .i64 (bE t c)) ∧ Below w.heap.size w w' := by
  obtain ⟨E, hE⟩ : ∃ E, E = bE t c := ⟨_, rfl⟩
  rw [← hE]
  have HE := Lib.hid hE
  clear hE
  have hx0 : Below (w.heap.size + 2) ((w.alloc (.cells #[.int .i64 t.len, .slice A1 t.rest.length c1, .slice A2 t.clo.length c2] 24)).alloc (.cells #[.int .i64 c.n, .int .i64 c.f, .int .i64 c.k] 26)) ((w.alloc (.cells #[.int .i64 t.len, .slice A1 t.rest.length c1, .slice A2 t.clo.length c2] 24)).alloc (.cells #[.int .i64 c.n, .int .i64 c.f, .int .i64 c.k] 26)) := Below.refl _ _
  obtain ⟨bx, bY, _, hb0⟩ := two_blk hx0 (by omega)
  clear bx bY
  go_enter Tryz.func199, Tryz.ntmps199
  go_wp2_with fail
  refine (rtvalidate_any t A1 A2 c1 c2 _ (h1.below hb0) (h2.below hb0) hl1 hl2).mono ?_
  rintro e w1 ⟨rfl, hb1⟩
  have hx1 := hx0.trans (hb1.mono (by simp))
  obtain ⟨bx, bY, _, hb⟩ := two_blk hx1 (by omega)
  by_cases h0 : tE t = 0
  · have h0' : (tE t != 0) = false := by simp [h0]
    have hEv : E = cE c := by rw [HE.out, bE, if_neg (by simp [h0])]
    have HEV := Lib.hid hEv
    clear h0 hEv
    go_wp2_with fail
    refine (rcvalidate_any c _).mono ?_
    rintro e w2 ⟨rfl, hb2⟩
    go_wp2
    go_ret
    exact ⟨ret_int (by rw [HEV.out]), hb.trans (hb2.mono hb.size)⟩
  · have h0' : (tE t != 0) = true := by simp [h0]
    have hEv : E = tE t := by rw [HE.out, bE, if_pos h0]
    have HEV := Lib.hid hEv
    clear h0 hEv
    go_wp2
    go_ret
    exact ⟨ret_int (by rw [HEV.out]), hb⟩

set_option maxHeartbeats 400000 in
theorem asked_any (d : Int) (t : Tm) (A1 A2 : Option Addr) (c1 c2 : Nat) (w : World) (h1 : RN w A1 t.rest) (h2 : RN w A2 t.clo) (hl1 : t.rest.length ≤ 1000000000) (hl2 : t.clo.length ≤ 1000000000) :
    Calls Tryz.prog 125 #[.agg #[.int .i64 t.len, .slice A1 t.rest.length c1, .slice A2 t.clo.length c2], .int .i64 d] w fun e w' => e = .returned (.int .i64 (qE t d)) ∧ Below w.heap.size w w' := by
  obtain ⟨E, hE⟩ : ∃ E, E = qE t d := ⟨_, rfl⟩
  rw [← hE]
  have HE := Lib.hid hE
  clear hE
  have hx0 : Below (w.heap.size + 1) (w.alloc (.cells #[.int .i64 t.len, .slice A1 t.rest.length c1, .slice A2 t.clo.length c2] 24)) (w.alloc (.cells #[.int .i64 t.len, .slice A1 t.rest.length c1, .slice A2 t.clo.length c2] 24)) := Below.refl _ _
  obtain ⟨_, _, _, hb0⟩ := blk_facts hx0 (by omega)
  go_enter Tryz.func125, Tryz.ntmps125
  go_wp2_with fail
  refine (tvalidate_any t A1 A2 c1 c2 _ (h1.below hb0) (h2.below hb0) hl1 hl2).mono ?_
  rintro e w1 ⟨rfl, hb1⟩
  have hx1 := hx0.trans (hb1.mono (by simp))
  obtain ⟨bx, _, _, hb⟩ := blk_facts hx1 (by omega)
  by_cases h0 : tE t = 0
  · have h0' : (tE t != 0) = false := by simp [h0]
    have hEm : E = if inB d 0 (t.len - 1) then 0 else 1 := by rw [HE.out, qE, if_neg (by simp [h0])]
    have HEM := Lib.hid hEm
    clear h0 hEm
    by_cases d0 : d < 0
    · have hEv : E = 1 := by rw [HEM.out, inB_false.2 (by omega)]; rfl
      have HEV := Lib.hid hEv
      clear hEv
      go_wp2
      go_ret
      exact ⟨ret_int (by rw [HEV.out]), hb⟩
    · by_cases d1 : t.len ≤ d
      · have hEv : E = 1 := by rw [HEM.out, inB_false.2 (by omega)]; rfl
        have HEV := Lib.hid hEv
        clear hEv
        go_wp2
        go_ret
        exact ⟨ret_int (by rw [HEV.out]), hb⟩
      · have hEv : E = 0 := by rw [HEM.out, inB_true.2 (show 0 ≤ d ∧ d ≤ t.len - 1 by omega)]; rfl
        have HEV := Lib.hid hEv
        clear hEv
        go_wp2
        go_ret
        exact ⟨ret_int (by rw [HEV.out]), hb⟩
  · have h0' : (tE t != 0) = true := by simp [h0]
    have hEv : E = tE t := by rw [HE.out, qE, if_pos h0]
    have HEV := Lib.hid hEv
    clear h0 hEv
    go_wp2
    go_ret
    exact ⟨ret_int (by rw [HEV.out]), hb⟩

theorem isOpR_yes {t : Tm} {d : Int} (h : qE t d = 0) : isOpR t d = opB t d := by unfold isOpR; rw [decide_eq_true h]; rfl
theorem isOpR_no {t : Tm} {d : Int} (h : ¬ qE t d = 0) : isOpR t d = false := by unfold isOpR; rw [decide_eq_false h]; rfl
set_option maxHeartbeats 400000 in
theorem isOpen_any (d : Int) (t : Tm) (A1 A2 : Option Addr) (c1 c2 : Nat) (w : World) (h1 : RN w A1 t.rest) (h2 : RN w A2 t.clo) (hl1 : t.rest.length ≤ 1000000000) (hl2 : t.clo.length ≤ 1000000000) :
    Calls Tryz.prog 92 #[.agg #[.int .i64 t.len, .slice A1 t.rest.length c1, .slice A2 t.clo.length c2], .int .i64 d] w fun e w' => e = .returned (.tuple #[.bool (isOpR t d), .int .i64 (qE t d)]) ∧ Below w.heap.size w w' := by
  obtain ⟨R, hR⟩ : ∃ R, R = isOpR t d := ⟨_, rfl⟩
  rw [← hR]
  have HR := Lib.hid hR
  clear hR
  have hx0 : Below (w.heap.size + 1) (w.alloc (.cells #[.int .i64 t.len, .slice A1 t.rest.length c1, .slice A2 t.clo.length c2] 24)) (w.alloc (.cells #[.int .i64 t.len, .slice A1 t.rest.length c1, .slice A2 t.clo.length c2] 24)) := Below.refl _ _
  obtain ⟨_, _, _, hb0⟩ := blk_facts hx0 (by omega)
  go_enter Tryz.func92, Tryz.ntmps92
  go_wp2_with fail
  refine (asked_any d t A1 A2 c1 c2 _ (h1.below hb0) (h2.below hb0) hl1 hl2).mono ?_
  rintro e w1 ⟨rfl, hb1⟩
  have hx1 := hx0.trans (hb1.mono (by simp))
  obtain ⟨bx, _, _, hb⟩ := blk_facts hx1 (by omega)
  by_cases h0 : qE t d = 0
  · have h0' : (qE t d == 0) = true := by simp [h0]
    have hRv := HR.out.trans (isOpR_yes h0)
    have HRV := Lib.hid hRv
    obtain ⟨hok, d0, d1⟩ := qE_ok h0
    have d2 := hok.len2
    clear h0 hRv
    go_wp2_with fail
    refine (open_any t d A1 A2 c1 c2 _ (h1.below hb) (h2.below hb) hok d0 (by omega)).mono ?_
    rintro e w2 ⟨rfl, hb2⟩
    go_wp2
    go_ret2
    exact ⟨ret2 (by rw [HRV.out]; rfl) rfl, hb.trans (hb2.mono hb.size)⟩
  · have h0' : (qE t d == 0) = false := by simp [h0]
    have hRv := HR.out.trans (isOpR_no h0)
    have HRV := Lib.hid hRv
    clear h0 hRv
    go_wp2
    go_ret2
    exact ⟨ret2 (by rw [HRV.out]; rfl) rfl, hb⟩

theorem menuE_both {t : Tm} {c : Cy} (d : Int) (h : ¬ bE t c = 0) : menuE t c d = bE t c := by unfold menuE; rw [if_pos h]
theorem menuE_arg {t : Tm} {c : Cy} {d : Int} (h : bE t c = 0) (hi : inB d 0 (t.len - 1) = false) : menuE t c d = 1 := by unfold menuE; rw [if_neg (by simp [h]), hi]; rfl
theorem menuE_shut {t : Tm} {c : Cy} {d : Int} (h : bE t c = 0) (hi : inB d 0 (t.len - 1) = true) (ho : opB t d = false) : menuE t c d = 13 := by unfold menuE; rw [if_neg (by simp [h]), hi, ho]; rfl
theorem menuE_open {t : Tm} {c : Cy} {d : Int} (h : bE t c = 0) (hi : inB d 0 (t.len - 1) = true) (ho : opB t d = true) : menuE t c d = 0 := by unfold menuE; rw [if_neg (by simp [h]), hi, ho]; rfl
theorem qE_in {t : Tm} {d : Int} (h : TmOk t) : qE t d = if inB d 0 (t.len - 1) then 0 else 1 := by unfold qE; rw [if_neg (by simp [h.to])]
theorem menuR_no {t : Tm} {c : Cy} {d : Int} (h : ¬ menuE t c d = 0) : menuR t c d = 0 := by unfold menuR; rw [if_neg h]
theorem menuR_yes {t : Tm} {c : Cy} {d : Int} (h : menuE t c d = 0) : menuR t c d = mnAt t c d.toNat := by unfold menuR; rw [if_pos h]

set_option maxRecDepth 100000 in
set_option maxHeartbeats 800000 in
theorem menu_any (c : Cy) (d : Int) (t : Tm) (A1 A2 : Option Addr) (c1 c2 : Nat) (w : World) (h1 : RN w A1 t.rest) (h2 : RN w A2 t.clo) (hl1 : t.rest.length ≤ 1000000000) (hl2 : t.clo.length ≤ 1000000000) :
    Calls Tryz.prog 50 #[.agg #[.int .i64 t.len, .slice A1 t.rest.length c1, .slice A2 t.clo.length c2], .agg #[.int .i64 c.n, .int .i64 c.f, .int .i64 c.k], .int .i64 d] w fun e w' => e = .returned (.tuple #[.int .i64 (menuR t c d), .int .i64 (menuE t c d)]) ∧ Below w.heap.size w w' := by
  obtain ⟨E, hE⟩ : ∃ E, E = menuE t c d := ⟨_, rfl⟩
  obtain ⟨R, hR⟩ : ∃ R, R = menuR t c d := ⟨_, rfl⟩
  rw [← hE, ← hR]
  have HE := Lib.hid hE
  have HR := Lib.hid hR
  clear hE hR
  have hx0 : Below (w.heap.size + 2) ((w.alloc (.cells #[.int .i64 t.len, .slice A1 t.rest.length c1, .slice A2 t.clo.length c2] 24)).alloc (.cells #[.int .i64 c.n, .int .i64 c.f, .int .i64 c.k] 26)) ((w.alloc (.cells #[.int .i64 t.len, .slice A1 t.rest.length c1, .slice A2 t.clo.length c2] 24)).alloc (.cells #[.int .i64 c.n, .int .i64 c.f, .int .i64 c.k] 26)) := Below.refl _ _
  obtain ⟨bx, bY, _, hb0⟩ := two_blk hx0 (by omega)
  clear bx bY
  go_enter Tryz.func50, Tryz.ntmps50
  go_wp2_with fail
  refine (both_any c t A1 A2 c1 c2 _ (h1.below hb0) (h2.below hb0) hl1 hl2).mono ?_
  rintro e w1 ⟨rfl, hb1⟩
  have hx1 := hx0.trans (hb1.mono (by simp))
  clear hx0 hb0 hb1
  obtain ⟨bx, bY, _, hb⟩ := two_blk hx1 (by omega)
  by_cases h0 : bE t c = 0
  · have h0' : (bE t c != 0) = false := by simp [h0]
    obtain ⟨hok, hcy⟩ := bE_ok h0
    have l1 := hok.len1
    have l2 := hok.len2
    have H0 := Lib.hid h0
    have QE := Lib.hid (qE_in (d := d) hok)
    clear h0
    cases hi : inB d 0 (t.len - 1) with
    | false =>
      have hEv : E = 1 := HE.out.trans (menuE_arg H0.out hi)
      have hRv : R = 0 := HR.out.trans (menuR_no (by rw [← HE.out, hEv]; decide))
      have HEV := Lib.hid hEv
      have HRV := Lib.hid hRv
      clear hEv hRv
      go_wp2_with fail
      refine (asked_any d t A1 A2 c1 c2 _ (h1.below hb) (h2.below hb) hl1 hl2).mono ?_
      rintro e w2 ⟨rfl, hb2⟩
      have hx2 := two_step hx1 hb2
      clear hx1 hb2 bx bY hb
      obtain ⟨bx, bY, _, hb⟩ := two_blk hx2 (by omega)
      rw [QE.out, hi]
      go_wp2
      go_ret2
      exact ⟨ret2 (by rw [HRV.out]; rfl) (by rw [HEV.out]; rfl), hb⟩
    | true =>
      have hib := inB_true.1 hi
      obtain ⟨k, rfl⟩ := Int.eq_ofNat_of_zero_le hib.1
      go_wp2_with fail
      refine (asked_any _ t A1 A2 c1 c2 _ (h1.below hb) (h2.below hb) hl1 hl2).mono ?_
      rintro e w2 ⟨rfl, hb2⟩
      have hx2 := two_step hx1 hb2
      clear hx1 hb2 bx bY hb
      obtain ⟨bx, bY, _, hb⟩ := two_blk hx2 (by omega)
      rw [QE.out, hi]
      go_wp2_with fail
      refine (open_any t k A1 A2 c1 c2 _ (h1.below hb) (h2.below hb) hok (by omega) (by omega)).mono ?_
      rintro e w3 ⟨rfl, hb3⟩
      have hx3 := two_step hx2 hb3
      clear hx2 hb3 bx bY hb
      obtain ⟨bx, bY, _, hb⟩ := two_blk hx3 (by omega)
      cases ho : opB t k with
      | false =>
        have hEv : E = 13 := HE.out.trans (menuE_shut H0.out hi ho)
        have hRv : R = 0 := HR.out.trans (menuR_no (by rw [← HE.out, hEv]; decide))
        have HEV := Lib.hid hEv
        have HRV := Lib.hid hRv
        clear hEv hRv
        go_wp2
        go_ret2
        exact ⟨ret2 (by rw [HRV.out]; rfl) (by rw [HEV.out]; rfl), hb⟩
      | true =>
        have hEv : E = 0 := HE.out.trans (menuE_open H0.out hi ho)
        have hRv : R = mnAt t c k := HR.out.trans (menuR_yes (by rw [← HE.out, hEv]))
        have HEV := Lib.hid hEv
        have HRV := Lib.hid hRv
        clear hEv hRv
        go_wp2_with fail
        refine (menus_any t c A1 A2 c1 c2 _ (h1.below hb) (h2.below hb) hok hcy).mono ?_
        rintro e w4 ⟨g, n, rfl, own4, hb4⟩
        have hml := mnL_length t c
        have hn := own4.1
        have hkn : k < n := by omega
        have d0 := own4.cell k hkn
        rw [mnL_at t c k (by omega)] at d0
        clear hn hml
        go_wp2
        go_ret2
        exact ⟨ret2 (by rw [HRV.out]; rfl) (by rw [HEV.out]; rfl), hb.trans (hb4.mono hb.size)⟩
  · have h0' : (bE t c != 0) = true := by simp [h0]
    have hEv : E = bE t c := HE.out.trans (menuE_both d h0)
    have hRv : R = 0 := HR.out.trans (menuR_no (by rw [← HE.out, hEv]; exact h0))
    have HEV := Lib.hid hEv
    have HRV := Lib.hid hRv
    clear hEv hRv h0
    go_wp2
    go_ret2
    exact ⟨ret2 (by rw [HRV.out]; rfl) (by rw [HEV.out]; rfl), hb⟩

set_option maxRecDepth 100000 in
set_option maxHeartbeats 800000 in
theorem rmenu_any (c : Cy) (d : Int) (t : Tm) (A1 A2 : Option Addr) (c1 c2 : Nat) (w : World) (h1 : RN w A1 t.rest) (h2 : RN w A2 t.clo) (hl1 : t.rest.length ≤ 1000000000) (hl2 : t.clo.length ≤ 1000000000) :
    Calls Tryz.prog 178 #[.agg #[.int .i64 t.len, .slice A1 t.rest.length c1, .slice A2 t.clo.length c2], .agg #[.int .i64 c.n, .int .i64 c.f, .int .i64 c.k], .int .i64 d] w fun e w' => e = .returned (.tuple #[.int .i64 (menuR t c d), .int .i64 (menuE t c d)]) ∧ Below w.heap.size w w' := by
  obtain ⟨E, hE⟩ : ∃ E, E = menuE t c d := ⟨_, rfl⟩
  obtain ⟨R, hR⟩ : ∃ R, R = menuR t c d := ⟨_, rfl⟩
  rw [← hE, ← hR]
  have HE := Lib.hid hE
  have HR := Lib.hid hR
  clear hE hR
  have hx0 : Below (w.heap.size + 2) ((w.alloc (.cells #[.int .i64 t.len, .slice A1 t.rest.length c1, .slice A2 t.clo.length c2] 24)).alloc (.cells #[.int .i64 c.n, .int .i64 c.f, .int .i64 c.k] 26)) ((w.alloc (.cells #[.int .i64 t.len, .slice A1 t.rest.length c1, .slice A2 t.clo.length c2] 24)).alloc (.cells #[.int .i64 c.n, .int .i64 c.f, .int .i64 c.k] 26)) := Below.refl _ _
  obtain ⟨bx, bY, _, hb0⟩ := two_blk hx0 (by omega)
  clear bx bY
  go_enter Tryz.func178, Tryz.ntmps178
  go_wp2_with fail
  refine (rboth_any c t A1 A2 c1 c2 _ (h1.below hb0) (h2.below hb0) hl1 hl2).mono ?_
  rintro e w1 ⟨rfl, hb1⟩
  have hx1 := hx0.trans (hb1.mono (by simp))
  clear hx0 hb0 hb1
  obtain ⟨bx, bY, _, hb⟩ := two_blk hx1 (by omega)
  by_cases h0 : bE t c = 0
  · have h0' : (bE t c != 0) = false := by simp [h0]
    obtain ⟨hok, hcy⟩ := bE_ok h0
    have l1 := hok.len1
    have l2 := hok.len2
    have H0 := Lib.hid h0
    have QE := Lib.hid (qE_in (d := d) hok)
    clear h0
    cases hi : inB d 0 (t.len - 1) with
    | false =>
      have hEv : E = 1 := HE.out.trans (menuE_arg H0.out hi)
      have hRv : R = 0 := HR.out.trans (menuR_no (by rw [← HE.out, hEv]; decide))
      have HEV := Lib.hid hEv
      have HRV := Lib.hid hRv
      clear hEv hRv
      go_wp2_with fail
      refine (within_any _ _ _ _).mono ?_
      rintro e w2 ⟨rfl, hw2⟩
      subst hw2
      go_wp2
      go_ret2
      exact ⟨ret2 (by rw [HRV.out]; rfl) (by rw [HEV.out]; rfl), hb⟩
    | true =>
      have hib := inB_true.1 hi
      obtain ⟨k, rfl⟩ := Int.eq_ofNat_of_zero_le hib.1
      go_wp2_with fail
      refine (within_any _ _ _ _).mono ?_
      rintro e w2 ⟨rfl, hw2⟩
      subst hw2
      go_wp2_with fail
      refine (ropen_any t k A1 A2 c1 c2 _ (h1.below hb) (h2.below hb) hok (by omega) (by omega)).mono ?_
      rintro e w3 ⟨rfl, hb3⟩
      have hx3 := two_step hx1 hb3
      clear hx1 hb3 bx bY hb
      obtain ⟨bx, bY, _, hb⟩ := two_blk hx3 (by omega)
      cases ho : opB t k with
      | false =>
        have hEv : E = 13 := HE.out.trans (menuE_shut H0.out hi ho)
        have hRv : R = 0 := HR.out.trans (menuR_no (by rw [← HE.out, hEv]; decide))
        have HEV := Lib.hid hEv
        have HRV := Lib.hid hRv
        clear hEv hRv
        go_wp2
        go_ret2
        exact ⟨ret2 (by rw [HRV.out]; rfl) (by rw [HEV.out]; rfl), hb⟩
      | true =>
        have hEv : E = 0 := HE.out.trans (menuE_open H0.out hi ho)
        have hRv : R = mnAt t c k := HR.out.trans (menuR_yes (by rw [← HE.out, hEv]))
        have HEV := Lib.hid hEv
        have HRV := Lib.hid hRv
        clear hEv hRv
        go_wp2_with fail
        refine (rmenus_any t c A1 A2 c1 c2 _ (h1.below hb) (h2.below hb) hok hcy).mono ?_
        rintro e w4 ⟨A, n, c', rfl, hn, own4, hb4⟩
        have hml := mnL_length t c
        have hk : k < (mnL t c).length := by omega
        obtain ⟨ad, rfl, _, d0⟩ := (RN.of_own own4).at_ hk
        rw [mnL_at t c k (by omega)] at d0
        have hkn : k < n := by omega
        clear hn hml hk
        go_wp2
        go_ret2
        exact ⟨ret2 (by rw [HRV.out]; rfl) (by rw [HEV.out]; rfl), hb.trans (hb4.mono hb.size)⟩
  · have h0' : (bE t c != 0) = true := by simp [h0]
    have hEv : E = bE t c := HE.out.trans (menuE_both d h0)
    have hRv : R = 0 := HR.out.trans (menuR_no (by rw [← HE.out, hEv]; exact h0))
    have HEV := Lib.hid hEv
    have HRV := Lib.hid hRv
    clear hEv hRv h0
    go_wp2
    go_ret2
    exact ⟨ret2 (by rw [HRV.out]; rfl) (by rw [HEV.out]; rfl), hb⟩

end Go.Proofs.YtiapkffihpgdcaaGreatDoor
/-
  The plain mathematics of remainders: no program in sight.
-/
namespace Go.Proofs.YtiapkffihpgdcaaGreatDoor
set_option linter.unusedVariables false
set_option linter.unusedSimpArgs false

structure Ln where
  r : Int
  m : Int
def gl (l : List Ln) (k : Nat) : Ln := l.getD k ⟨0, 0⟩
theorem gl_getElem (l : List Ln) (k : Nat) (h : k < l.length) : l[k] = gl l k := by simp [gl, h]
def mN (l : List Ln) (k : Nat) : Nat := (gl l k).m.toNat
def rN (l : List Ln) (k : Nat) : Nat := ((gl l k).r % (gl l k).m).toNat
def lnTo (l : List Ln) : Nat → Bool
  | 0 => true
  | k + 1 => lnTo l k && inB (gl l k).m 1 100000
theorem lnTo_iff (l : List Ln) (k : Nat) : lnTo l k = true ↔ ∀ i, i < k → inB (gl l i).m 1 100000 = true := by
  induction k with
  | zero => simp [lnTo]
  | succ k ih =>
    simp only [lnTo, Bool.and_eq_true, ih]
    constructor
    · rintro ⟨h1, h2⟩ i hi
      by_cases e : i = k
      · subst e; exact h2
      · exact h1 i (by omega)
    · intro h; exact ⟨fun i hi => h i (by omega), h k (by omega)⟩
def lcTo (l : List Ln) : Nat → Nat
  | 0 => 1
  | k + 1 => (lcTo l k).lcm (mN l k)
def slvE (l : List Ln) : Int := if 6 < l.length then 4 else if lnTo l l.length then (if 1099511627776 < lcTo l l.length then 4 else 0) else 1
/-- All moduli are in range. -/
def Good (l : List Ln) : Prop := ∀ i, i < l.length → 1 ≤ mN l i ∧ mN l i ≤ 100000 ∧ (gl l i).m = mN l i ∧ rN l i < mN l i ∧ ((rN l i : Nat) : Int) = (gl l i).r % (gl l i).m
theorem Good.of {l : List Ln} (h : lnTo l l.length = true) : Good l := by
  intro i hi
  have hb := inB_true.1 ((lnTo_iff _ _).1 h i hi)
  have h0 := Int.emod_nonneg (gl l i).r (show (gl l i).m ≠ 0 by omega)
  have h1 := Int.emod_lt_of_pos (gl l i).r (show 0 < (gl l i).m by omega)
  unfold mN rN
  refine ⟨by omega, by omega, by omega, by omega, by omega⟩
section
variable {l : List Ln}
theorem lc_succ (l : List Ln) (k : Nat) : lcTo l (k + 1) = (lcTo l k).lcm (mN l k) := rfl
theorem lc_pos (hg : Good l) : ∀ k, k ≤ l.length → 0 < lcTo l k
  | 0, _ => Nat.one_pos
  | k + 1, h => Nat.lcm_pos (lc_pos hg k (by omega)) (by have := (hg k (by omega)).1; omega)
theorem lc_dvd_step (l : List Ln) (k : Nat) : lcTo l k ∣ lcTo l (k + 1) := Nat.dvd_lcm_left _ _
theorem lc_dvd_m (l : List Ln) (k : Nat) : mN l k ∣ lcTo l (k + 1) := Nat.dvd_lcm_right _ _
theorem lc_dvd_lc (l : List Ln) (i : Nat) : ∀ k, i ≤ k → lcTo l i ∣ lcTo l k
  | 0, h => by have : i = 0 := by omega
               subst this; exact Nat.dvd_refl _
  | k + 1, h => by
    by_cases e : i = k + 1
    · subst e; exact Nat.dvd_refl _
    · exact Nat.dvd_trans (lc_dvd_lc l i k (by omega)) (lc_dvd_step l k)
theorem lc_dvd (l : List Ln) (i k : Nat) (h : i < k) : mN l i ∣ lcTo l k := Nat.dvd_trans (lc_dvd_m l i) (lc_dvd_lc l (i + 1) k (by omega))
theorem lc_min (l : List Ln) (x : Nat) : ∀ k, (∀ i, i < k → mN l i ∣ x) → lcTo l k ∣ x
  | 0, _ => Nat.one_dvd _
  | k + 1, h => Nat.lcm_dvd (lc_min l x k fun i hi => h i (by omega)) (h k (by omega))
theorem lc_le (hg : Good l) (i k : Nat) (h : i ≤ k) (hk : k ≤ l.length) : lcTo l i ≤ lcTo l k := Nat.le_of_dvd (lc_pos hg k hk) (lc_dvd_lc l i k h)
/-- The next modulus, as it is reckoned. -/
theorem lc_quo (l : List Ln) (k : Nat) : lcTo l k / (lcTo l k).gcd (mN l k) * mN l k = lcTo l (k + 1) := by
  rw [lc_succ, Nat.lcm, Nat.div_mul_right_comm (Nat.gcd_dvd_left _ _)]
def stp (l : List Ln) (k : Nat) : Nat := mN l k / (lcTo l k).gcd (mN l k)
theorem lc_stp (l : List Ln) (k : Nat) : lcTo l k * stp l k = lcTo l (k + 1) := by
  unfold stp; rw [lc_succ, Nat.lcm, Nat.mul_div_assoc _ (Nat.gcd_dvd_right _ _)]
theorem stp_le (l : List Ln) (k : Nat) : stp l k ≤ mN l k := Nat.div_le_self _ _
theorem stp_pos (hg : Good l) (k : Nat) (hk : k < l.length) : 0 < stp l k := by
  have := lc_pos hg (k + 1) hk
  rw [← lc_stp] at this
  exact Nat.pos_of_mul_pos_left this
theorem lc_big (hg : Good l) (k : Nat) (hk : k < l.length) (hb : lcTo l k ≤ 1099511627776) : lcTo l (k + 1) ≤ 1099511627776 * 100000 := by
  rw [← lc_stp]
  exact Nat.mul_le_mul hb (Nat.le_trans (stp_le l k) (hg k hk).2.1)

/-- x has the first k remainders. -/
def Has (l : List Ln) (k x : Nat) : Prop := ∀ i, i < k → x % mN l i = rN l i
def Sol (l : List Ln) (k x : Nat) : Prop := x < lcTo l k ∧ Has l k x
theorem Has.mod {k x : Nat} (h : Has l k x) : Has l k (x % lcTo l k) := fun i hi => by rw [Nat.mod_mod_of_dvd _ (lc_dvd l i k hi)]; exact h i hi
theorem Has.mod' {k x : Nat} (h : Has l k (x % lcTo l k)) : Has l k x := fun i hi => by have := h i hi; rwa [Nat.mod_mod_of_dvd _ (lc_dvd l i k hi)] at this
theorem Has.less {k j x : Nat} (h : Has l k x) (hj : j ≤ k) : Has l j x := fun i hi => h i (by omega)
theorem Sol.of_has (hg : Good l) {k x : Nat} (hk : k ≤ l.length) (h : Has l k x) : Sol l k (x % lcTo l k) := ⟨Nat.mod_lt _ (lc_pos hg k hk), h.mod⟩
theorem Sol.le_eq {k x y : Nat} (hx : Sol l k x) (hy : Sol l k y) (hle : y ≤ x) : x = y := by
  have h1 : lcTo l k ∣ x - y := lc_min l _ k fun i hi => Nat.dvd_of_mod_eq_zero (Nat.sub_mod_eq_zero_of_mod_eq (by rw [hx.2 i hi, hy.2 i hi]))
  have := Nat.eq_zero_of_dvd_of_lt h1 (by have := hx.1; omega)
  omega
theorem Sol.uniq {k x y : Nat} (hx : Sol l k x) (hy : Sol l k y) : x = y := by
  rcases Nat.le_total y x with h | h
  · exact hx.le_eq hy h
  · exact (hy.le_eq hx h).symm
/-- The remainder behind j steps. -/
def atJ (l : List Ln) (k a j : Nat) : Nat := (a + lcTo l k * j) % mN l k
theorem atJ_zero (l : List Ln) (k a : Nat) : atJ l k a 0 = a % mN l k := by simp [atJ]
theorem atJ_succ (l : List Ln) (k a j : Nat) : (atJ l k a j + lcTo l k % mN l k) % mN l k = atJ l k a (j + 1) := by
  unfold atJ
  rw [← Nat.add_mod, Nat.mul_succ, Nat.add_assoc]
theorem atJ_period (l : List Ln) (k a q : Nat) : atJ l k a q = atJ l k a (q % stp l k) := by
  unfold atJ
  obtain ⟨c, hc⟩ := lc_dvd_m l k
  conv => lhs; rw [← Nat.div_add_mod q (stp l k), Nat.mul_add, ← Nat.mul_assoc, lc_stp, hc, Nat.mul_assoc, Nat.add_left_comm, Nat.mul_add_mod]
theorem Sol.next {k a j : Nat} (h : Sol l k a) (hj : j < stp l k) (hr : atJ l k a j = rN l k) : Sol l (k + 1) (a + lcTo l k * j) := by
  refine ⟨?_, fun i hi => ?_⟩
  · rw [← lc_stp]
    have h1 : lcTo l k * (j + 1) ≤ lcTo l k * stp l k := Nat.mul_le_mul_left _ hj
    rw [Nat.mul_succ] at h1
    have := h.1
    omega
  · by_cases e : i = k
    · subst e; exact hr
    · obtain ⟨c, hc⟩ := lc_dvd l i k (by omega)
      rw [hc, Nat.mul_assoc, Nat.add_mul_mod_self_left]
      exact h.2 i (by omega)
theorem Sol.none (hg : Good l) {k a : Nat} (hk : k < l.length) (h : Sol l k a) (hn : ∀ j, j < stp l k → atJ l k a j ≠ rN l k) : ∀ x, ¬ Has l l.length x := by
  intro x hx
  have h1 : x % lcTo l k = a := (Sol.of_has hg (by omega) (hx.less (by omega))).uniq h
  have h2 := hx k hk
  refine hn ((x / lcTo l k) % stp l k) (Nat.mod_lt _ (stp_pos hg k hk)) ?_
  rw [← atJ_period]
  unfold atJ
  rw [← h1, Nat.mod_add_div]
  exact h2
theorem Sol.zero (l : List Ln) : Sol l 0 0 := ⟨Nat.one_pos, fun i hi => by omega⟩

/-- What a solving may answer. -/
def SRel (l : List Ln) (a m : Int) (ok : Bool) : Prop :=
  (slvE l = 0 ∧ ok = true ∧ (∃ x, Sol l l.length x ∧ a = (x : Nat)) ∧ m = (lcTo l l.length : Nat)) ∨ ((slvE l = 0 → ∀ x, ¬ Has l l.length x) ∧ ok = false ∧ a = 0 ∧ m = 0)
theorem SRel.same {a m a' m' : Int} {ok ok' : Bool} (h : SRel l a m ok) (h' : SRel l a' m' ok') : a = a' ∧ m = m' ∧ ok = ok' := by
  rcases h with ⟨e1, e2, ⟨x, hx, e3⟩, e4⟩ | ⟨n1, e2, e3, e4⟩ <;> rcases h' with ⟨f1, f2, ⟨y, hy, f3⟩, f4⟩ | ⟨n2, f2, f3, f4⟩
  · rw [e2, f2, e3, f3, e4, f4, hx.uniq hy]; simp
  · exact absurd hx.2 (n2 e1 x)
  · exact absurd hy.2 (n1 f1 y)
  · rw [e2, f2, e3, f3, e4, f4]; simp
theorem SRel.no {a m : Int} {ok : Bool} (h : SRel l a m ok) (he : ¬ slvE l = 0) : a = 0 ∧ m = 0 ∧ ok = false := by
  rcases h with ⟨e1, _⟩ | ⟨_, e2, e3, e4⟩
  · exact absurd e1 he
  · exact ⟨e3, e4, e2⟩
theorem slvE_ok (h : slvE l = 0) : l.length ≤ 6 ∧ Good l ∧ lcTo l l.length ≤ 1099511627776 := by
  unfold slvE at h
  by_cases h6 : 6 < l.length
  · rw [if_pos h6] at h; cases h
  · rw [if_neg h6] at h
    cases hl : lnTo l l.length with
    | false => rw [hl] at h; cases h
    | true =>
      rw [hl, if_pos rfl] at h
      by_cases hb : 1099511627776 < lcTo l l.length
      · rw [if_pos hb] at h; cases h
      · exact ⟨by omega, Good.of hl, by omega⟩
theorem slvE_of (h6 : ¬ 6 < l.length) (hl : lnTo l l.length = true) (hb : ¬ 1099511627776 < lcTo l l.length) : slvE l = 0 := by unfold slvE; rw [if_neg h6, if_pos hl, if_neg hb]
theorem slvE_big (h6 : ¬ 6 < l.length) (hl : lnTo l l.length = true) {k : Nat} (hk : k ≤ l.length) (hb : 1099511627776 < lcTo l k) : slvE l = 4 := by
  unfold slvE; rw [if_neg h6, if_pos hl, if_pos (by have := lc_le (Good.of hl) k l.length hk (Nat.le_refl _); omega)]
theorem slvE_arg (h6 : ¬ 6 < l.length) {k : Nat} (hk : k < l.length) (hb : inB (gl l k).m 1 100000 = false) : slvE l = 1 := by
  unfold slvE; rw [if_neg h6]
  cases hl : lnTo l l.length with
  | false => rfl
  | true => rw [(lnTo_iff _ _).1 hl k hk] at hb; cases hb
theorem slvE_long (h6 : 6 < l.length) : slvE l = 4 := by unfold slvE; rw [if_pos h6]
end

end Go.Proofs.YtiapkffihpgdcaaGreatDoor
/-
  Walks: remainders and greatest common divisors.
-/
namespace Go.Proofs.YtiapkffihpgdcaaGreatDoor
set_option linter.unusedVariables false
set_option linter.unusedSimpArgs false
open Go.RowKit

theorem tmod_cases (n m : Int) (h : 1 ≤ m) : (n.tmod m = n % m ∨ n.tmod m = n % m - m) ∧ 0 ≤ n % m ∧ n % m < m := by
  refine ⟨?_, Int.emod_nonneg n (by omega), Int.emod_lt_of_pos n (by omega)⟩
  rw [Int.tmod_eq_emod]
  split
  · left; simp
  · right; congr 1; omega
theorem tmod_bd (n m : Int) (h : 1 ≤ m) : -m ≤ n.tmod m ∧ n.tmod m < m ∧ (0 ≤ n.tmod m → n.tmod m = n % m) ∧ (n.tmod m < 0 → n.tmod m + m = n % m) := by
  obtain ⟨h1, h2, h3⟩ := tmod_cases n m h
  omega
theorem mod_eq (n m : Int) (h : 1 ≤ m) : (n.tmod m + m) % m = n % m := by
  obtain ⟨h1, h2, h3⟩ := tmod_cases n m h
  rcases h1 with e | e <;> rw [e]
  · rw [Int.add_emod_right, Int.emod_emod_of_dvd _ (Int.dvd_refl m)]
  · rw [Int.sub_add_cancel, Int.emod_emod_of_dvd _ (Int.dvd_refl m)]
theorem gcd_hid {p q G : Nat} (h : Hid (p.gcd q = G)) : Hid (q.gcd (p % q) = G) := Lib.hid (by rw [← h.out, Nat.gcd_comm p q, Nat.gcd_rec q p, Nat.gcd_comm])
def GcdPost (g : Nat) (w0 : World) (e : Ending) (w' : World) : Prop := e = .returned (.int .i64 (g : Nat)) ∧ ∃ n, w' = w0.drewN n
end Go.Proofs.YtiapkffihpgdcaaGreatDoor
/-
  Walks: lists of remainders in memory; the first loops of Solve.
-/
namespace Go.Proofs.YtiapkffihpgdcaaGreatDoor
set_option linter.unusedVariables false
set_option linter.unusedSimpArgs false
open Go.RowKit

/-! (The next four are the guide's, from its pages of words to copy.) -/
theorem quiet_add_same {P : Program} {f : FuncId} {args : Array Value} {w : World} {a n : Nat} {v : Value}
    (h : Calls P f args (w.drewN (a + n)) fun e w' => e = .returned v ∧ w' = w.drewN (a + n)) :
    Calls P f args (w.drewN (a + n)) fun e w'' => e = .returned v ∧ ∃ m, w'' = w.drewN (a + m) :=
  h.mono fun _ _ ⟨he, hm⟩ => ⟨he, n, hm⟩
theorem quiet_add {P : Program} {f : FuncId} {args : Array Value} {w : World} {a n : Nat} {v : Value}
    (h : Calls P f args (w.drewN (a + n)) fun e w' => e = .returned v ∧ ∃ m, w' = (w.drewN (a + n)).drewN m) :
    Calls P f args (w.drewN (a + n)) fun e w'' => e = .returned v ∧ ∃ m, w'' = w.drewN (a + m) :=
  h.mono fun _ _ ⟨he, m, hm⟩ => ⟨he, n + m, by rw [hm, World.drewN_drewN, Nat.add_assoc]⟩
theorem quiet_left {P : Program} {f : FuncId} {args : Array Value} {w : World} {n : Nat} {v : Value}
    (h : Calls P f args (w.drewN n) fun e w' => e = .returned v ∧ w.drewN n = w') : Calls P f args (w.drewN n) fun e w'' => e = .returned v ∧ ∃ m, w'' = w.drewN m :=
  h.mono fun _ _ ⟨he, hm⟩ => ⟨he, n, hm.symm⟩
theorem results_tmp4 {fn : Func} {t u v x : Tmp} (h : fn.results = #[.tmp t, .tmp u, .tmp v, .tmp x]) (tmps : Array Value) (P : Program) (w : World) :
    (results fn tmps).run P w = .ok (.tuple #[tmps.getD t undef, tmps.getD u undef, tmps.getD v undef, tmps.getD x undef]) w := by simp [results, h]
theorem ret4 {a b c d a' b' c' d' : Value} (h1 : a = a') (h2 : b = b') (h3 : c = c') (h4 : d = d') : Ending.returned (.tuple #[a, b, c, d]) = .returned (.tuple #[a', b', c', d']) := by rw [h1, h2, h3, h4]

def Ln.vals (s : Ln) : List Value := [.int .i64 s.r, .int .i64 s.m]
def cellsL (l : List Ln) : List Value := l.flatMap Ln.vals
theorem cellsL_cons (s : Ln) (l : List Ln) : cellsL (s :: l) = s.vals ++ cellsL l := by simp [cellsL]
theorem cellsL_length (l : List Ln) : (cellsL l).length = l.length * 2 := by
  induction l with
  | nil => rfl
  | cons f l ih => rw [cellsL_cons, List.length_append, ih]; simp [Ln.vals]; omega
theorem cellsL_at (l : List Ln) (k j : Nat) (hk : k < l.length) (hj : j < 2) : (cellsL l)[k * 2 + j]? = (gl l k).vals[j]? := by
  induction l generalizing k with
  | nil => simp at hk
  | cons f l ih =>
    rw [cellsL_cons]
    cases k with
    | zero => rw [List.getElem?_append_left (by simp [Ln.vals]; omega)]; simp [gl]
    | succ k =>
      rw [List.getElem?_append_right (by simp [Ln.vals]; omega)]
      have : (k + 1) * 2 + j - f.vals.length = k * 2 + j := by simp [Ln.vals]; omega
      rw [this, ih k (by simpa using hk)]
      simp [gl]
/-- The slice (A, n = l.length) reads as the lines l. -/
def RL (w : World) (A : Option Addr) (l : List Ln) : Prop := Reads w w.heap.size 2 A l.length (cellsL l)
section
variable {w w' : World} {A : Option Addr} {l : List Ln}
theorem RL.below (h : RL w A l) (hb : Below w.heap.size w w') : RL w' A l := (Reads.below' h hb (Nat.le_refl _)).more hb.size
theorem RL.at_ (h : RL w A l) {k : Nat} (hk : k < l.length) : ∃ ad, A = some ad ∧ (ad.add (k * 2)).block < w.heap.size ∧ w.cell? (ad.add (k * 2)) = some (.int .i64 (gl l k).r) ∧
    w.cell? ⟨(ad.add (k * 2)).block, (ad.add (k * 2)).off + 1, none⟩ = some (.int .i64 (gl l k).m) := by
  obtain ⟨ad, e, hb, hc⟩ := h.2 (by omega)
  have hs := fun j => addr_succ ad (k * 2) j
  exact ⟨ad, e, by rw [block_of_add]; exact hb, hc (k * 2 + 0) _ (cellsL_at l k 0 hk (by omega)), (hs 0) ▸ hc _ _ (cellsL_at l k 1 hk (by omega))⟩
end

theorem wrapN {a b c : Nat} (h : a * b = c) (hc : c ≤ 1000000000000000000) : IntKind.i64.wrap ((a : Int) * (b : Int)) = (c : Int) := by
  rw [show (a : Int) * (b : Int) = (c : Int) by rw [← h, Int.natCast_mul]]; exact IntWalk.i64_in _ (by omega)
def SlvPost (l : List Ln) (w0 : World) (e : Ending) (w' : World) : Prop := ∃ a m ok, e = .returned (.tuple #[.int .i64 a, .int .i64 m, .bool ok, .int .i64 (slvE l)]) ∧ SRel l a m ok ∧ Below w0.heap.size w0 w'

end Go.Proofs.YtiapkffihpgdcaaGreatDoor
/-
  Walks: the reference's Solve.
-/
namespace Go.Proofs.YtiapkffihpgdcaaGreatDoor
set_option linter.unusedVariables false
set_option linter.unusedSimpArgs false
open Go.RowKit

theorem atJ_first {l : List Ln} (hg : Good l) {k s j : Nat} (hk : k < l.length) (h : atJ l k s j = rN l k) (hm : ∀ i, i < j → atJ l k s i ≠ rN l k) : j < stp l k := by
  rcases Nat.lt_or_ge j (stp l k) with h1 | h1
  · exact h1
  · rw [atJ_period] at h
    exact absurd h (hm _ (Nat.lt_of_lt_of_le (Nat.mod_lt _ (stp_pos hg k hk)) h1))

end Go.Proofs.YtiapkffihpgdcaaGreatDoor
/-
  Walks: what the laws check besides.
-/
namespace Go.Proofs.YtiapkffihpgdcaaGreatDoor
set_option linter.unusedVariables false
set_option linter.unusedSimpArgs false
open Go.RowKit

theorem RN.lit {w w' : World} {n : Nat} (l : List Int) (cs : Array Value) (hcs : cs = (ints l).toArray) (hb : Below n (w.alloc (.cells cs 3)) w') (hn : w.heap.size < n) : RN w' (some ⟨w.heap.size, 0, none⟩) l := by
  obtain ⟨h1, _, h3, _⟩ := blk_facts hb hn
  refine ⟨by simp [ints], fun _ => ⟨_, rfl, h3, fun j u hu => ?_⟩⟩
  have hadd : (⟨w.heap.size, 0, none⟩ : Addr).add j = ⟨w.heap.size, j, none⟩ := by unfold Addr.add; split <;> simp_all
  rw [hadd, h1, hcs]
  simpa using hu
def exT : Tm := ⟨14, [5, 6], [2]⟩
def exC : Cy := ⟨3, 0, 1⟩
def exL : List Ln := [⟨2, 3⟩, ⟨3, 5⟩]
theorem ex_menuR : menuR exT exC 3 = 0 := by decide +kernel
theorem ex_menuE : menuE exT exC 3 = 0 := by decide +kernel
theorem ex_slvE : slvE exL = 0 := by decide +kernel
theorem ex_lc : lcTo exL 2 = 15 := by decide +kernel
theorem ex_sol : Sol exL 2 8 := ⟨by decide +kernel, by unfold Has; decide +kernel⟩
theorem ex_solve {a m : Int} {ok : Bool} (h : SRel exL a m ok) : a = 8 ∧ m = 15 ∧ ok = true := by
  rcases h with ⟨_, h2, ⟨x, hx, h3⟩, h4⟩ | ⟨h1, _⟩
  · rw [h2, h3, h4, show exL.length = 2 from rfl, ex_lc, Sol.uniq hx ex_sol]; simp
  · exact absurd ex_sol.2 (h1 ex_slvE 8)

end Go.Proofs.YtiapkffihpgdcaaGreatDoor
/-
  The walks of the laws TermMenus and TermSolves.
-/
namespace Go.Proofs.YtiapkffihpgdcaaGreatDoor
set_option linter.unusedVariables false
set_option linter.unusedSimpArgs false
open Go.RowKit

def longB (t : Tm) : Bool := decide (50 < t.rest.length) || decide (200 < t.clo.length)
theorem long_any (t : Tm) (A1 A2 : Option Addr) (c1 c2 : Nat) (w : World) :
    Calls Tryz.prog 61 #[.agg #[.int .i64 t.len, .slice A1 t.rest.length c1, .slice A2 t.clo.length c2]] w fun e w' => e = .returned (.bool (longB t)) ∧ Below w.heap.size w w' := by
  have hb0 : Below w.heap.size w (w.alloc (.cells #[.int .i64 t.len, .slice A1 t.rest.length c1, .slice A2 t.clo.length c2] 24)) := (Below.refl _ _).alloc (Nat.le_refl _) _
  obtain ⟨S, hS⟩ : ∃ S, S = longB t := ⟨_, rfl⟩
  rw [← hS]
  by_cases h1 : 50 < t.rest.length
  · have hv : S = true := by rw [hS, longB, decide_eq_true h1]; rfl
    have HV := Lib.hid hv
    clear hv hS
    go_enter Tryz.func61, Tryz.ntmps61
    go_wp2
    go_ret
    exact ⟨ret_bool (by rw [HV.out]), hb0⟩
  · by_cases h2 : 200 < t.clo.length
    · have hv : S = true := by rw [hS, longB, decide_eq_true h2, Bool.or_true]
      have HV := Lib.hid hv
      clear hv hS
      go_enter Tryz.func61, Tryz.ntmps61
      go_wp2
      go_ret
      exact ⟨ret_bool (by rw [HV.out]; simp; omega), hb0⟩
    · have hv : S = false := by rw [hS, longB, decide_eq_false h1, decide_eq_false h2]; rfl
      have HV := Lib.hid hv
      clear hv hS
      go_enter Tryz.func61, Tryz.ntmps61
      go_wp2
      go_ret
      exact ⟨ret_bool (by rw [HV.out]; simp; omega), hb0⟩
theorem longB_no {t : Tm} (h : longB t = false) : t.rest.length ≤ 50 ∧ t.clo.length ≤ 200 := by
  simp [longB] at h; omega

end Go.Proofs.YtiapkffihpgdcaaGreatDoor
/-
  Walks: the cycle that begins with a later menu.
-/
namespace Go.Proofs.YtiapkffihpgdcaaGreatDoor
set_option linter.unusedVariables false
set_option linter.unusedSimpArgs false
open Go.RowKit

/-- The cycle that begins with a later menu. -/
def turnC (c : Cy) (by_ : Int) : Cy := if cE c = 0 then ⟨c.n, (c.f + by_ % c.n) % c.n, c.k⟩ else ⟨0, 0, 0⟩
theorem turn_yes {c : Cy} {b : Int} (h : cE c = 0) : turnC c b = ⟨c.n, (c.f + b % c.n) % c.n, c.k⟩ := by unfold turnC; rw [if_pos h]
theorem turn_no {c : Cy} {b : Int} (h : ¬ cE c = 0) : turnC c b = ⟨0, 0, 0⟩ := by unfold turnC; rw [if_neg h]

theorem two_frozen {w wr : World} {cs1 cs2 : Array Value} {t1 t2 : TypeId} {n : Nat} (hb : Below n ((w.alloc (.cells cs1 t1)).alloc (.cells cs2 t2)) wr) (hn : w.heap.size + 1 < n) :
    (∀ j, wr.frozen? ⟨w.heap.size, j, none⟩ = false) ∧ (∀ j, wr.frozen? ⟨w.heap.size + 1, j, none⟩ = false) := by
  refine ⟨fun j => ?_, fun j => ?_⟩
  · rw [hb.frozen (p := ⟨w.heap.size, j, none⟩) (by show w.heap.size < n; omega)]; simp [go_sem]
  · rw [hb.frozen (p := ⟨w.heap.size + 1, j, none⟩) hn]; simp [go_sem]

end Go.Proofs.YtiapkffihpgdcaaGreatDoor
/-
  Walks: the first day on which two menus meet.
-/
namespace Go.Proofs.YtiapkffihpgdcaaGreatDoor
set_option linter.unusedVariables false
set_option linter.unusedSimpArgs false
open Go.RowKit

/-! ### plain -/
def firstTo (p : Nat → Bool) : Nat → Option Nat
  | 0 => none
  | k + 1 => match firstTo p k with
    | some d => some d
    | none => if p k then some k else none
theorem firstTo_none (p : Nat → Bool) : ∀ k, (∀ i, i < k → p i = false) → firstTo p k = none
  | 0, _ => rfl
  | k + 1, h => by simp only [firstTo]; rw [firstTo_none p k fun i hi => h i (by omega)]; simp [h k (by omega)]
theorem firstTo_some (p : Nat → Bool) (d : Nat) (hd : p d = true) (hm : ∀ i, i < d → p i = false) : ∀ k, d < k → firstTo p k = some d
  | 0, h => by omega
  | k + 1, h => by
    simp only [firstTo]
    by_cases e : d = k
    · subst e; rw [firstTo_none p d hm]; simp [hd]
    · rw [firstTo_some p d hd hm k (by omega)]
theorem firstTo_spec (p : Nat → Bool) : ∀ k, (firstTo p k = none ∧ ∀ i, i < k → p i = false) ∨ ∃ d, firstTo p k = some d ∧ d < k ∧ p d = true ∧ ∀ i, i < d → p i = false
  | 0 => .inl ⟨rfl, fun i hi => by omega⟩
  | k + 1 => by
    rcases firstTo_spec p k with ⟨h1, h2⟩ | ⟨d, h1, h2, h3, h4⟩
    · cases hp : p k with
      | true => exact .inr ⟨k, by simp [firstTo, h1, hp], by omega, hp, h2⟩
      | false =>
        refine .inl ⟨by simp [firstTo, h1, hp], fun i hi => ?_⟩
        by_cases e : i = k
        · subst e; exact hp
        · exact h2 i (by omega)
    · exact .inr ⟨d, by simp [firstTo, h1], by omega, h3, h4⟩
def meetB (t : Tm) (a b : Cy) (x y : Int) (d : Nat) : Bool := (mnAt t a d == x) && (mnAt t b d == y)
def togE (t : Tm) (a b : Cy) (x y : Int) : Int := if bE t a ≠ 0 then bE t a else if cE b ≠ 0 then cE b else if inB x 0 (a.n - 1) && inB y 0 (b.n - 1) then 0 else 1
def togO (t : Tm) (a b : Cy) (x y : Int) : Option Nat := if togE t a b x y = 0 then firstTo (meetB t a b x y) t.len.toNat else none
def togR (t : Tm) (a b : Cy) (x y : Int) : Int := match togO t a b x y with | some d => d | none => 0
def togB (t : Tm) (a b : Cy) (x y : Int) : Bool := (togO t a b x y).isSome
theorem tog_no {t : Tm} {a b : Cy} {x y : Int} (h : ¬ togE t a b x y = 0) : togR t a b x y = 0 ∧ togB t a b x y = false := by unfold togR togB togO; rw [if_neg h]; exact ⟨rfl, rfl⟩
theorem tog_none {t : Tm} {a b : Cy} {x y : Int} (h : firstTo (meetB t a b x y) t.len.toNat = none) : togR t a b x y = 0 ∧ togB t a b x y = false := by
  unfold togR togB togO; rw [h]; split <;> simp_all
theorem tog_some {t : Tm} {a b : Cy} {x y : Int} {d : Nat} (hE : togE t a b x y = 0) (h : firstTo (meetB t a b x y) t.len.toNat = some d) : togR t a b x y = d ∧ togB t a b x y = true := by
  unfold togR togB togO; rw [if_pos hE, h]; exact ⟨rfl, rfl⟩

/-! ### memory -/
theorem three_blk {w wr : World} {cs1 cs2 cs3 : Array Value} {t1 t2 t3 : TypeId} {n : Nat} (hb : Below n (((w.alloc (.cells cs1 t1)).alloc (.cells cs2 t2)).alloc (.cells cs3 t3)) wr) (hn : w.heap.size + 2 < n) :
    (∀ j, wr.cell? ⟨w.heap.size, j, none⟩ = cs1[j]?) ∧ (∀ j, wr.cell? ⟨w.heap.size + 1, j, none⟩ = cs2[j]?) ∧ (∀ j, wr.cell? ⟨w.heap.size + 2, j, none⟩ = cs3[j]?) ∧ w.heap.size + 2 < wr.heap.size ∧ Below w.heap.size w wr := by
  refine ⟨fun j => ?_, fun j => ?_, fun j => ?_, by have := hb.size; simp at this; omega, ((((Below.refl _ _).alloc (Nat.le_refl _) _).alloc (by simp) _).alloc (by simp; omega) _).trans (hb.mono (by omega))⟩
  · rw [hb.cell (p := ⟨w.heap.size, j, none⟩) (by show w.heap.size < n; omega), World.cell?_alloc_lt _ _ _ (by simp; omega), World.cell?_alloc_lt _ _ _ (by simp)]; simp [World.cell?_alloc_at]
  · rw [hb.cell (p := ⟨w.heap.size + 1, j, none⟩) (by show w.heap.size + 1 < n; omega), World.cell?_alloc_lt _ _ _ (by simp), World.cell?_alloc_at _ _ _ _ (by simp)]
  · rw [hb.cell (p := ⟨w.heap.size + 2, j, none⟩) hn, World.cell?_alloc_at _ _ _ _ (by simp)]
theorem three_step {w w1 w2 : World} {cs cs' cs'' : Array Value} {t t' t'' : TypeId} (hx : Below (w.heap.size + 3) (((w.alloc (.cells cs t)).alloc (.cells cs' t')).alloc (.cells cs'' t'')) w1) (hb : Below w1.heap.size w1 w2) : Below (w.heap.size + 3) (((w.alloc (.cells cs t)).alloc (.cells cs' t')).alloc (.cells cs'' t'')) w2 :=
  hx.trans (hb.mono (by have := hx.size; simp at this; omega))

theorem menusR_any (t : Tm) (c : Cy) (A1 A2 : Option Addr) (c1 c2 : Nat) (w : World) (h1 : RN w A1 t.rest) (h2 : RN w A2 t.clo) (hok : TmOk t) (hcy : CyOk c) :
    Calls Tryz.prog 127 #[.agg #[.int .i64 t.len, .slice A1 t.rest.length c1, .slice A2 t.clo.length c2], .agg #[.int .i64 c.n, .int .i64 c.f, .int .i64 c.k]] w fun e w' => ∃ A c', e = .returned (.slice A (mnL t c).length c') ∧ RN w' A (mnL t c) ∧ Below w.heap.size w w' :=
  (menus_any t c A1 A2 c1 c2 w h1 h2 hok hcy).mono fun e w' ⟨g, n, he, own, hb⟩ => ⟨some ⟨g, 0, none⟩, n, by rw [own.1]; exact he, RN.of_own own.own, hb⟩
theorem rmenusR_any (t : Tm) (c : Cy) (A1 A2 : Option Addr) (c1 c2 : Nat) (w : World) (h1 : RN w A1 t.rest) (h2 : RN w A2 t.clo) (hok : TmOk t) (hcy : CyOk c) :
    Calls Tryz.prog 200 #[.agg #[.int .i64 t.len, .slice A1 t.rest.length c1, .slice A2 t.clo.length c2], .agg #[.int .i64 c.n, .int .i64 c.f, .int .i64 c.k]] w fun e w' => ∃ A c', e = .returned (.slice A (mnL t c).length c') ∧ RN w' A (mnL t c) ∧ Below w.heap.size w w' :=
  (rmenus_any t c A1 A2 c1 c2 w h1 h2 hok hcy).mono fun e w' ⟨A, n, c', he, hn, own, hb⟩ => ⟨A, c', by rw [← hn]; exact he, RN.of_own own, hb⟩

end Go.Proofs.YtiapkffihpgdcaaGreatDoor
