/-
  Walks: the errors of terms, cycles and days; Menu.
-/
import Derived.Test.YtlnmmkgeahlohaaDoorD
namespace Go.Proofs.YtlnmmkgeahlohaaDoor
set_option linter.unusedVariables false
set_option linter.unusedSimpArgs false
open Go.RowKit

def isOpR (t : Tm) (d : Int) : Bool := decide (qE t d = 0) && opB t d

set_option maxHeartbeats 400000 in
theorem both_any (c : Cy) (t : Tm) (A1 A2 : Option Addr) (c1 c2 : Nat) (w : World) (h1 : RN w A1 t.rest) (h2 : RN w A2 t.clo) (hl1 : t.rest.length ≤ 1000000000) (hl2 : t.clo.length ≤ 1000000000) :
    Calls Tryd.prog 24 #[.agg #[.int .i64 t.len, .slice A1 t.rest.length c1, .slice A2 t.clo.length c2], .agg #[.int .i64 c.n, .int .i64 c.f, .int .i64 c.k]] w fun e w' => e = .returned (.int .i64 (bE t c)) ∧ Below w.heap.size w w' := by
  obtain ⟨E, hE⟩ : ∃ E, E = bE t c := ⟨_, rfl⟩
  rw [← hE]
  have HE := Lib.hid hE
  clear hE
  have hx0 : Below (w.heap.size + 2) ((w.alloc (.cells #[.int .i64 t.len, .slice A1 t.rest.length c1, .slice A2 t.clo.length c2] 24)).alloc (.cells #[.int .i64 c.n, .int .i64 c.f, .int .i64 c.k] 37)) ((w.alloc (.cells #[.int .i64 t.len, .slice A1 t.rest.length c1, .slice A2 t.clo.length c2] 24)).alloc (.cells #[.int .i64 c.n, .int .i64 c.f, .int .i64 c.k] 37)) := Below.refl _ _
  obtain ⟨bx, bY, _, hb0⟩ := two_blk hx0 (by omega)
  clear bx bY
  go_enter Tryd.func24, Tryd.ntmps24
  go_wp2_with fail
  refine (tvalidate_any t A1 A2 c1 c2 _ (h1.below hb0) (h2.below hb0) hl1 hl2).mono ?_
  rintro e w1 ⟨rfl, hb1⟩
  have hx1 := hx0.trans (hb1.mono (by simp))
  obtain ⟨bx, bY, _, hb⟩ := two_blk hx1 (by omega)
  by_cases h0 : tE t = 0
  · have h0' : (tE t != 0) = false := by simp [h0]
    have hEv : E = cE c := by rw [HE.out, bE, if_neg (by simp [h0])]
    have HEV := Lib.hid hEv
    clear h0 hEv
    go_wp2_with fail
    refine (cvalidate_any c _).mono ?_
    rintro e w2 ⟨rfl, hb2⟩
    go_wp2
    go_ret
    exact ⟨ret_int (by rw [HEV.out]), hb.trans (hb2.mono hb.size)⟩
  · have h0' : (tE t != 0) = true := by simp [h0]
    have hEv : E = tE t := by rw [HE.out, bE, if_pos h0]
    have HEV := Lib.hid hEv
    clear h0 hEv
    go_wp2
    go_ret
    exact ⟨ret_int (by rw [HEV.out]), hb⟩

set_option maxHeartbeats 400000 in
theorem asked_any (d : Int) (t : Tm) (A1 A2 : Option Addr) (c1 c2 : Nat) (w : World) (h1 : RN w A1 t.rest) (h2 : RN w A2 t.clo) (hl1 : t.rest.length ≤ 1000000000) (hl2 : t.clo.length ≤ 1000000000) :
    Calls Tryd.prog 25 #[.agg #[.int .i64 t.len, .slice A1 t.rest.length c1, .slice A2 t.clo.length c2], .int .i64 d] w fun e w' => e = .returned (.int .i64 (qE t d)) ∧ Below w.heap.size w w' := by
  obtain ⟨E, hE⟩ : ∃ E, E = qE t d := ⟨_, rfl⟩
  rw [← hE]
  have HE := Lib.hid hE
  clear hE
  have hx0 : Below (w.heap.size + 1) (w.alloc (.cells #[.int .i64 t.len, .slice A1 t.rest.length c1, .slice A2 t.clo.length c2] 24)) (w.alloc (.cells #[.int .i64 t.len, .slice A1 t.rest.length c1, .slice A2 t.clo.length c2] 24)) := Below.refl _ _
  obtain ⟨_, _, _, hb0⟩ := blk_facts hx0 (by omega)
  go_enter Tryd.func25, Tryd.ntmps25
  go_wp2_with fail
  refine (tvalidate_any t A1 A2 c1 c2 _ (h1.below hb0) (h2.below hb0) hl1 hl2).mono ?_
  rintro e w1 ⟨rfl, hb1⟩
  have hx1 := hx0.trans (hb1.mono (by simp))
  obtain ⟨bx, _, _, hb⟩ := blk_facts hx1 (by omega)
  by_cases h0 : tE t = 0
  · have h0' : (tE t != 0) = false := by simp [h0]
    have hEm : E = if inB d 0 (t.len - 1) then 0 else 1 := by rw [HE.out, qE, if_neg (by simp [h0])]
    have HEM := Lib.hid hEm
    clear h0 hEm
    by_cases d0 : d < 0
    · have hEv : E = 1 := by rw [HEM.out, inB_false.2 (by omega)]; rfl
      have HEV := Lib.hid hEv
      clear hEv
      go_wp2
      go_ret
      exact ⟨ret_int (by rw [HEV.out]), hb⟩
    · by_cases d1 : t.len ≤ d
      · have hEv : E = 1 := by rw [HEM.out, inB_false.2 (by omega)]; rfl
        have HEV := Lib.hid hEv
        clear hEv
        go_wp2
        go_ret
        exact ⟨ret_int (by rw [HEV.out]), hb⟩
      · have hEv : E = 0 := by rw [HEM.out, inB_true.2 (show 0 ≤ d ∧ d ≤ t.len - 1 by omega)]; rfl
        have HEV := Lib.hid hEv
        clear hEv
        go_wp2
        go_ret
        exact ⟨ret_int (by rw [HEV.out]), hb⟩
  · have h0' : (tE t != 0) = true := by simp [h0]
    have hEv : E = tE t := by rw [HE.out, qE, if_pos h0]
    have HEV := Lib.hid hEv
    clear h0 hEv
    go_wp2
    go_ret
    exact ⟨ret_int (by rw [HEV.out]), hb⟩

theorem isOpR_yes {t : Tm} {d : Int} (h : qE t d = 0) : isOpR t d = opB t d := by unfold isOpR; rw [decide_eq_true h]; rfl
theorem isOpR_no {t : Tm} {d : Int} (h : ¬ qE t d = 0) : isOpR t d = false := by unfold isOpR; rw [decide_eq_false h]; rfl
theorem menuE_both {t : Tm} {c : Cy} (d : Int) (h : ¬ bE t c = 0) : menuE t c d = bE t c := by unfold menuE; rw [if_pos h]
theorem menuE_arg {t : Tm} {c : Cy} {d : Int} (h : bE t c = 0) (hi : inB d 0 (t.len - 1) = false) : menuE t c d = 1 := by unfold menuE; rw [if_neg (by simp [h]), hi]; rfl
theorem menuE_shut {t : Tm} {c : Cy} {d : Int} (h : bE t c = 0) (hi : inB d 0 (t.len - 1) = true) (ho : opB t d = false) : menuE t c d = 13 := by unfold menuE; rw [if_neg (by simp [h]), hi, ho]; rfl
theorem menuE_open {t : Tm} {c : Cy} {d : Int} (h : bE t c = 0) (hi : inB d 0 (t.len - 1) = true) (ho : opB t d = true) : menuE t c d = 0 := by unfold menuE; rw [if_neg (by simp [h]), hi, ho]; rfl
theorem qE_in {t : Tm} {d : Int} (h : TmOk t) : qE t d = if inB d 0 (t.len - 1) then 0 else 1 := by unfold qE; rw [if_neg (by simp [h.to])]
theorem menuR_no {t : Tm} {c : Cy} {d : Int} (h : ¬ menuE t c d = 0) : menuR t c d = 0 := by unfold menuR; rw [if_neg h]
theorem menuR_yes {t : Tm} {c : Cy} {d : Int} (h : menuE t c d = 0) : menuR t c d = mnAt t c d.toNat := by unfold menuR; rw [if_pos h]

set_option maxRecDepth 100000 in
set_option maxHeartbeats 800000 in
theorem menu_any (c : Cy) (d : Int) (t : Tm) (A1 A2 : Option Addr) (c1 c2 : Nat) (w : World) (h1 : RN w A1 t.rest) (h2 : RN w A2 t.clo) (hl1 : t.rest.length ≤ 1000000000) (hl2 : t.clo.length ≤ 1000000000) :
    Calls Tryd.prog 11 #[.agg #[.int .i64 t.len, .slice A1 t.rest.length c1, .slice A2 t.clo.length c2], .agg #[.int .i64 c.n, .int .i64 c.f, .int .i64 c.k], .int .i64 d] w fun e w' => e = .returned (.tuple #[.int .i64 (menuR t c d), .int .i64 (menuE t c d)]) ∧ Below w.heap.size w w' := by
  obtain ⟨E, hE⟩ : ∃ E, E = menuE t c d := ⟨_, rfl⟩
  obtain ⟨R, hR⟩ : ∃ R, R = menuR t c d := ⟨_, rfl⟩
  rw [← hE, ← hR]
  have HE := Lib.hid hE
  have HR := Lib.hid hR
  clear hE hR
  have hx0 : Below (w.heap.size + 2) ((w.alloc (.cells #[.int .i64 t.len, .slice A1 t.rest.length c1, .slice A2 t.clo.length c2] 24)).alloc (.cells #[.int .i64 c.n, .int .i64 c.f, .int .i64 c.k] 37)) ((w.alloc (.cells #[.int .i64 t.len, .slice A1 t.rest.length c1, .slice A2 t.clo.length c2] 24)).alloc (.cells #[.int .i64 c.n, .int .i64 c.f, .int .i64 c.k] 37)) := Below.refl _ _
  obtain ⟨bx, bY, _, hb0⟩ := two_blk hx0 (by omega)
  clear bx bY
  go_enter Tryd.func11, Tryd.ntmps11
  go_wp2_with fail
  refine (both_any c t A1 A2 c1 c2 _ (h1.below hb0) (h2.below hb0) hl1 hl2).mono ?_
  rintro e w1 ⟨rfl, hb1⟩
  have hx1 := hx0.trans (hb1.mono (by simp))
  clear hx0 hb0 hb1
  obtain ⟨bx, bY, _, hb⟩ := two_blk hx1 (by omega)
  by_cases h0 : bE t c = 0
  · have h0' : (bE t c != 0) = false := by simp [h0]
    obtain ⟨hok, hcy⟩ := bE_ok h0
    have l1 := hok.len1
    have l2 := hok.len2
    have H0 := Lib.hid h0
    have QE := Lib.hid (qE_in (d := d) hok)
    clear h0
    cases hi : inB d 0 (t.len - 1) with
    | false =>
      have hEv : E = 1 := HE.out.trans (menuE_arg H0.out hi)
      have hRv : R = 0 := HR.out.trans (menuR_no (by rw [← HE.out, hEv]; decide))
      have HEV := Lib.hid hEv
      have HRV := Lib.hid hRv
      clear hEv hRv
      go_wp2_with fail
      refine (asked_any d t A1 A2 c1 c2 _ (h1.below hb) (h2.below hb) hl1 hl2).mono ?_
      rintro e w2 ⟨rfl, hb2⟩
      have hx2 := two_step hx1 hb2
      clear hx1 hb2 bx bY hb
      obtain ⟨bx, bY, _, hb⟩ := two_blk hx2 (by omega)
      rw [QE.out, hi]
      go_wp2
      go_ret2
      exact ⟨ret2 (by rw [HRV.out]; rfl) (by rw [HEV.out]; rfl), hb⟩
    | true =>
      have hib := inB_true.1 hi
      obtain ⟨k, rfl⟩ := Int.eq_ofNat_of_zero_le hib.1
      go_wp2_with fail
      refine (asked_any _ t A1 A2 c1 c2 _ (h1.below hb) (h2.below hb) hl1 hl2).mono ?_
      rintro e w2 ⟨rfl, hb2⟩
      have hx2 := two_step hx1 hb2
      clear hx1 hb2 bx bY hb
      obtain ⟨bx, bY, _, hb⟩ := two_blk hx2 (by omega)
      rw [QE.out, hi]
      go_wp2_with fail
      refine (open_any t k A1 A2 c1 c2 _ (h1.below hb) (h2.below hb) hok (by omega) (by omega)).mono ?_
      rintro e w3 ⟨rfl, hb3⟩
      have hx3 := two_step hx2 hb3
      clear hx2 hb3 bx bY hb
      obtain ⟨bx, bY, _, hb⟩ := two_blk hx3 (by omega)
      cases ho : opB t k with
      | false =>
        have hEv : E = 13 := HE.out.trans (menuE_shut H0.out hi ho)
        have hRv : R = 0 := HR.out.trans (menuR_no (by rw [← HE.out, hEv]; decide))
        have HEV := Lib.hid hEv
        have HRV := Lib.hid hRv
        clear hEv hRv
        go_wp2
        go_ret2
        exact ⟨ret2 (by rw [HRV.out]; rfl) (by rw [HEV.out]; rfl), hb⟩
      | true =>
        have hEv : E = 0 := HE.out.trans (menuE_open H0.out hi ho)
        have hRv : R = mnAt t c k := HR.out.trans (menuR_yes (by rw [← HE.out, hEv]))
        have HEV := Lib.hid hEv
        have HRV := Lib.hid hRv
        clear hEv hRv
        go_wp2_with fail
        refine (menus_any t c A1 A2 c1 c2 _ (h1.below hb) (h2.below hb) hok hcy).mono ?_
        rintro e w4 ⟨g, n, rfl, own4, hb4⟩
        have hml := mnL_length t c
        have hn := own4.1
        have hkn : k < n := by omega
        have d0 := own4.cell k hkn
        rw [mnL_at t c k (by omega)] at d0
        clear hn hml
        go_wp2
        go_ret2
        exact ⟨ret2 (by rw [HRV.out]; rfl) (by rw [HEV.out]; rfl), hb.trans (hb4.mono hb.size)⟩
  · have h0' : (bE t c != 0) = true := by simp [h0]
    have hEv : E = bE t c := HE.out.trans (menuE_both d h0)
    have hRv : R = 0 := HR.out.trans (menuR_no (by rw [← HE.out, hEv]; exact h0))
    have HEV := Lib.hid hEv
    have HRV := Lib.hid hRv
    clear hEv hRv h0
    go_wp2
    go_ret2
    exact ⟨ret2 (by rw [HRV.out]; rfl) (by rw [HEV.out]; rfl), hb⟩

end Go.Proofs.YtlnmmkgeahlohaaDoor
