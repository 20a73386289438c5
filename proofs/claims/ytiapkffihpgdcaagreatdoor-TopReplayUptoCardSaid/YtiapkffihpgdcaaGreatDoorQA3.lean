import Derived.Test.YtiapkffihpgdcaaGreatDoorQA1
import Derived.Test.YtiapkffihpgdcaaGreatDoorQA2
import Derived.IntWalk
import Derived.ScopeJumps
import Derived.WalkMore
import Derived.Test.YtiapkffihpgdcaaGreatDoorRows
import Derived.ProofKit
import Derived.Deep.Slices
import Derived.Deep.Fields
import Derived.ChangeSame
import Derived.ChangeSlices
import Derived.Lib.SmallJoins
import Derived.Shelf.Lays2
import Derived.Shelf.Lays7
import Derived.Shelf.LaysM
import Derived.Shelf.SlLaysF0
import Derived.Shelf.SlGeneric
import Derived.Ground.NamesProg
import Derived.Ground.Names2Prog
import Derived.Ground.Names7Prog
import Derived.Ground.SlsfProg
import Derived.Test.YtiapkffihpgdcaaGreatDoorProg
import Derived.StillTailTactics
import Derived.Deep.RegionHeld3
set_option linter.unusedVariables false
set_option linter.unusedSimpArgs false
set_option maxRecDepth 100000
namespace Go.Proofs.YtiapkffihpgdcaaGreatDoor
open Go.RowKit
def isOpR (t : Tm) (d : Int) : Bool := decide (qE t d = 0) && opB t d
set_option maxHeartbeats 400000 in
theorem both_any (c : Cy) (t : Tm) (A1 A2 : Option Addr) (c1 c2 : Nat) (w : World) (h1 : RN w A1 t.rest) (h2 : RN w A2 t.clo) (hl1 : t.rest.length ≤ 1000000000) (hl2 : t.clo.length ≤ 1000000000) :
  Calls Tryz.prog 124 #[.agg #[.int .i64 t.len, .slice A1 t.rest.length c1, .slice A2 t.clo.length c2], .agg #[.int .i64 c.n, .int .i64 c.f, .int .i64 c.k]] w fun e w' => e = .returned (.int .i64 (bE t c)) ∧ Below w.heap.size w w' := by
 obtain ⟨E, hE⟩ : ∃ E, E = bE t c := ⟨_, rfl⟩
 rw [← hE]
 have HE := Lib.hid hE
 clear hE
 have hx0 : Below (w.heap.size + 2) ((w.alloc (.cells #[.int .i64 t.len, .slice A1 t.rest.length c1, .slice A2 t.clo.length c2] 24)).alloc (.cells #[.int .i64 c.n, .int .i64 c.f, .int .i64 c.k] 26)) ((w.alloc (.cells #[.int .i64 t.len, .slice A1 t.rest.length c1, .slice A2 t.clo.length c2] 24)).alloc (.cells #[.int .i64 c.n, .int .i64 c.f, .int .i64 c.k] 26)) := Below.refl _ _
 obtain ⟨bx, bY, _, hb0⟩ := two_blk hx0 (by omega)
 clear bx bY
 go_enter Tryz.func124, Tryz.ntmps124
 go_wp2_with fail
 refine (tvalidate_any t A1 A2 c1 c2 _ (h1.below hb0) (h2.below hb0) hl1 hl2).mono ?_
 rintro e w1 ⟨rfl, hb1⟩
 have hx1 := hx0.trans (hb1.mono (by simp))
 obtain ⟨bx, bY, _, hb⟩ := two_blk hx1 (by omega)
 by_cases h0 : tE t = 0
 ·have h0' : (tE t != 0) = false := by simp [h0]
  have hEv : E = cE c := by rw [HE.out, bE, if_neg (by simp [h0])]
  have HEV := Lib.hid hEv
  clear h0 hEv
  go_wp2_with fail
  refine (cvalidate_any c _).mono ?_
  rintro e w2 ⟨rfl, hb2⟩
  go_wp2
  go_ret
  exact ⟨ret_int (by rw [HEV.out]), hb.trans (hb2.mono hb.size)⟩
 ·have h0' : (tE t != 0) = true := by simp [h0]
  have hEv : E = tE t := by rw [HE.out, bE, if_pos h0]
  have HEV := Lib.hid hEv
  clear h0 hEv
  go_wp2
  go_ret
  exact ⟨ret_int (by rw [HEV.out]), hb⟩
set_option maxHeartbeats 400000 in
theorem rboth_any (c : Cy) (t : Tm) (A1 A2 : Option Addr) (c1 c2 : Nat) (w : World) (h1 : RN w A1 t.rest) (h2 : RN w A2 t.clo) (hl1 : t.rest.length ≤ 1000000000) (hl2 : t.clo.length ≤ 1000000000) :
  Calls Tryz.prog 199 #[.agg #[.int .i64 t.len, .slice A1 t.rest.length c1, .slice A2 t.clo.length c2], .agg #[.int .i64 c.n, .int .i64 c.f, .int .i64 c.k]] w fun e w' => e = .returned (.int .i64 (bE t c)) ∧ Below w.heap.size w w' := by
 obtain ⟨E, hE⟩ : ∃ E, E = bE t c := ⟨_, rfl⟩
 rw [← hE]
 have HE := Lib.hid hE
 clear hE
 have hx0 : Below (w.heap.size + 2) ((w.alloc (.cells #[.int .i64 t.len, .slice A1 t.rest.length c1, .slice A2 t.clo.length c2] 24)).alloc (.cells #[.int .i64 c.n, .int .i64 c.f, .int .i64 c.k] 26)) ((w.alloc (.cells #[.int .i64 t.len, .slice A1 t.rest.length c1, .slice A2 t.clo.length c2] 24)).alloc (.cells #[.int .i64 c.n, .int .i64 c.f, .int .i64 c.k] 26)) := Below.refl _ _
 obtain ⟨bx, bY, _, hb0⟩ := two_blk hx0 (by omega)
 clear bx bY
 go_enter Tryz.func199, Tryz.ntmps199
 go_wp2_with fail
 refine (rtvalidate_any t A1 A2 c1 c2 _ (h1.below hb0) (h2.below hb0) hl1 hl2).mono ?_
 rintro e w1 ⟨rfl, hb1⟩
 have hx1 := hx0.trans (hb1.mono (by simp))
 obtain ⟨bx, bY, _, hb⟩ := two_blk hx1 (by omega)
 by_cases h0 : tE t = 0
 ·have h0' : (tE t != 0) = false := by simp [h0]
  have hEv : E = cE c := by rw [HE.out, bE, if_neg (by simp [h0])]
  have HEV := Lib.hid hEv
  clear h0 hEv
  go_wp2_with fail
  refine (rcvalidate_any c _).mono ?_
  rintro e w2 ⟨rfl, hb2⟩
  go_wp2
  go_ret
  exact ⟨ret_int (by rw [HEV.out]), hb.trans (hb2.mono hb.size)⟩
 ·have h0' : (tE t != 0) = true := by simp [h0]
  have hEv : E = tE t := by rw [HE.out, bE, if_pos h0]
  have HEV := Lib.hid hEv
  clear h0 hEv
  go_wp2
  go_ret
  exact ⟨ret_int (by rw [HEV.out]), hb⟩
set_option maxHeartbeats 400000 in
theorem asked_any (d : Int) (t : Tm) (A1 A2 : Option Addr) (c1 c2 : Nat) (w : World) (h1 : RN w A1 t.rest) (h2 : RN w A2 t.clo) (hl1 : t.rest.length ≤ 1000000000) (hl2 : t.clo.length ≤ 1000000000) :
  Calls Tryz.prog 125 #[.agg #[.int .i64 t.len, .slice A1 t.rest.length c1, .slice A2 t.clo.length c2], .int .i64 d] w fun e w' => e = .returned (.int .i64 (qE t d)) ∧ Below w.heap.size w w' := by
 obtain ⟨E, hE⟩ : ∃ E, E = qE t d := ⟨_, rfl⟩
 rw [← hE]
 have HE := Lib.hid hE
 clear hE
 have hx0 : Below (w.heap.size + 1) (w.alloc (.cells #[.int .i64 t.len, .slice A1 t.rest.length c1, .slice A2 t.clo.length c2] 24)) (w.alloc (.cells #[.int .i64 t.len, .slice A1 t.rest.length c1, .slice A2 t.clo.length c2] 24)) := Below.refl _ _
 obtain ⟨_, _, _, hb0⟩ := blk_facts hx0 (by omega)
 go_enter Tryz.func125, Tryz.ntmps125
 go_wp2_with fail
 refine (tvalidate_any t A1 A2 c1 c2 _ (h1.below hb0) (h2.below hb0) hl1 hl2).mono ?_
 rintro e w1 ⟨rfl, hb1⟩
 have hx1 := hx0.trans (hb1.mono (by simp))
 obtain ⟨bx, _, _, hb⟩ := blk_facts hx1 (by omega)
 by_cases h0 : tE t = 0
 ·have h0' : (tE t != 0) = false := by simp [h0]
  have hEm : E = if inB d 0 (t.len - 1) then 0 else 1 := by rw [HE.out, qE, if_neg (by simp [h0])]
  have HEM := Lib.hid hEm
  clear h0 hEm
  by_cases d0 : d < 0
  ·have hEv : E = 1 := by rw [HEM.out, inB_false.2 (by omega)]; rfl
   have HEV := Lib.hid hEv
   clear hEv
   go_wp2
   go_ret
   exact ⟨ret_int (by rw [HEV.out]), hb⟩
  ·by_cases d1 : t.len ≤ d
   ·have hEv : E = 1 := by rw [HEM.out, inB_false.2 (by omega)]; rfl
    have HEV := Lib.hid hEv
    clear hEv
    go_wp2
    go_ret
    exact ⟨ret_int (by rw [HEV.out]), hb⟩
   ·have hEv : E = 0 := by rw [HEM.out, inB_true.2 (show 0 ≤ d ∧ d ≤ t.len - 1 by omega)]; rfl
    have HEV := Lib.hid hEv
    clear hEv
    go_wp2
    go_ret
    exact ⟨ret_int (by rw [HEV.out]), hb⟩
 ·have h0' : (tE t != 0) = true := by simp [h0]
  have hEv : E = tE t := by rw [HE.out, qE, if_pos h0]
  have HEV := Lib.hid hEv
  clear h0 hEv
  go_wp2
  go_ret
  exact ⟨ret_int (by rw [HEV.out]), hb⟩
theorem isOpR_yes {t : Tm} {d : Int} (h : qE t d = 0) : isOpR t d = opB t d := by unfold isOpR; rw [decide_eq_true h]; rfl
theorem isOpR_no {t : Tm} {d : Int} (h : ¬ qE t d = 0) : isOpR t d = false := by unfold isOpR; rw [decide_eq_false h]; rfl
set_option maxHeartbeats 400000 in
theorem isOpen_any (d : Int) (t : Tm) (A1 A2 : Option Addr) (c1 c2 : Nat) (w : World) (h1 : RN w A1 t.rest) (h2 : RN w A2 t.clo) (hl1 : t.rest.length ≤ 1000000000) (hl2 : t.clo.length ≤ 1000000000) :
  Calls Tryz.prog 92 #[.agg #[.int .i64 t.len, .slice A1 t.rest.length c1, .slice A2 t.clo.length c2], .int .i64 d] w fun e w' => e = .returned (.tuple #[.bool (isOpR t d), .int .i64 (qE t d)]) ∧ Below w.heap.size w w' := by
 obtain ⟨R, hR⟩ : ∃ R, R = isOpR t d := ⟨_, rfl⟩
 rw [← hR]
 have HR := Lib.hid hR
 clear hR
 have hx0 : Below (w.heap.size + 1) (w.alloc (.cells #[.int .i64 t.len, .slice A1 t.rest.length c1, .slice A2 t.clo.length c2] 24)) (w.alloc (.cells #[.int .i64 t.len, .slice A1 t.rest.length c1, .slice A2 t.clo.length c2] 24)) := Below.refl _ _
 obtain ⟨_, _, _, hb0⟩ := blk_facts hx0 (by omega)
 go_enter Tryz.func92, Tryz.ntmps92
 go_wp2_with fail
 refine (asked_any d t A1 A2 c1 c2 _ (h1.below hb0) (h2.below hb0) hl1 hl2).mono ?_
 rintro e w1 ⟨rfl, hb1⟩
 have hx1 := hx0.trans (hb1.mono (by simp))
 obtain ⟨bx, _, _, hb⟩ := blk_facts hx1 (by omega)
 by_cases h0 : qE t d = 0
 ·have h0' : (qE t d == 0) = true := by simp [h0]
  have hRv := HR.out.trans (isOpR_yes h0)
  have HRV := Lib.hid hRv
  obtain ⟨hok, d0, d1⟩ := qE_ok h0
  have d2 := hok.len2
  clear h0 hRv
  go_wp2_with fail
  refine (open_any t d A1 A2 c1 c2 _ (h1.below hb) (h2.below hb) hok d0 (by omega)).mono ?_
  rintro e w2 ⟨rfl, hb2⟩
  go_wp2
  go_ret2
  exact ⟨ret2 (by rw [HRV.out]; rfl) rfl, hb.trans (hb2.mono hb.size)⟩
 ·have h0' : (qE t d == 0) = false := by simp [h0]
  have hRv := HR.out.trans (isOpR_no h0)
  have HRV := Lib.hid hRv
  clear h0 hRv
  go_wp2
  go_ret2
  exact ⟨ret2 (by rw [HRV.out]; rfl) rfl, hb⟩
theorem menuE_both {t : Tm} {c : Cy} (d : Int) (h : ¬ bE t c = 0) : menuE t c d = bE t c := by unfold menuE; rw [if_pos h]
theorem menuE_arg {t : Tm} {c : Cy} {d : Int} (h : bE t c = 0) (hi : inB d 0 (t.len - 1) = false) : menuE t c d = 1 := by unfold menuE; rw [if_neg (by simp [h]), hi]; rfl
theorem menuE_shut {t : Tm} {c : Cy} {d : Int} (h : bE t c = 0) (hi : inB d 0 (t.len - 1) = true) (ho : opB t d = false) : menuE t c d = 13 := by unfold menuE; rw [if_neg (by simp [h]), hi, ho]; rfl
theorem menuE_open {t : Tm} {c : Cy} {d : Int} (h : bE t c = 0) (hi : inB d 0 (t.len - 1) = true) (ho : opB t d = true) : menuE t c d = 0 := by unfold menuE; rw [if_neg (by simp [h]), hi, ho]; rfl
theorem qE_in {t : Tm} {d : Int} (h : TmOk t) : qE t d = if inB d 0 (t.len - 1) then 0 else 1 := by unfold qE; rw [if_neg (by simp [h.to])]
theorem menuR_no {t : Tm} {c : Cy} {d : Int} (h : ¬ menuE t c d = 0) : menuR t c d = 0 := by unfold menuR; rw [if_neg h]
theorem menuR_yes {t : Tm} {c : Cy} {d : Int} (h : menuE t c d = 0) : menuR t c d = mnAt t c d.toNat := by unfold menuR; rw [if_pos h]
set_option maxHeartbeats 800000 in
theorem menu_any (c : Cy) (d : Int) (t : Tm) (A1 A2 : Option Addr) (c1 c2 : Nat) (w : World) (h1 : RN w A1 t.rest) (h2 : RN w A2 t.clo) (hl1 : t.rest.length ≤ 1000000000) (hl2 : t.clo.length ≤ 1000000000) :
  Calls Tryz.prog 50 #[.agg #[.int .i64 t.len, .slice A1 t.rest.length c1, .slice A2 t.clo.length c2], .agg #[.int .i64 c.n, .int .i64 c.f, .int .i64 c.k], .int .i64 d] w fun e w' => e = .returned (.tuple #[.int .i64 (menuR t c d), .int .i64 (menuE t c d)]) ∧ Below w.heap.size w w' := by
 obtain ⟨E, hE⟩ : ∃ E, E = menuE t c d := ⟨_, rfl⟩
 obtain ⟨R, hR⟩ : ∃ R, R = menuR t c d := ⟨_, rfl⟩
 rw [← hE, ← hR]
 have HE := Lib.hid hE
 have HR := Lib.hid hR
 clear hE hR
 have hx0 : Below (w.heap.size + 2) ((w.alloc (.cells #[.int .i64 t.len, .slice A1 t.rest.length c1, .slice A2 t.clo.length c2] 24)).alloc (.cells #[.int .i64 c.n, .int .i64 c.f, .int .i64 c.k] 26)) ((w.alloc (.cells #[.int .i64 t.len, .slice A1 t.rest.length c1, .slice A2 t.clo.length c2] 24)).alloc (.cells #[.int .i64 c.n, .int .i64 c.f, .int .i64 c.k] 26)) := Below.refl _ _
 obtain ⟨bx, bY, _, hb0⟩ := two_blk hx0 (by omega)
 clear bx bY
 go_enter Tryz.func50, Tryz.ntmps50
 go_wp2_with fail
 refine (both_any c t A1 A2 c1 c2 _ (h1.below hb0) (h2.below hb0) hl1 hl2).mono ?_
 rintro e w1 ⟨rfl, hb1⟩
 have hx1 := hx0.trans (hb1.mono (by simp))
 clear hx0 hb0 hb1
 obtain ⟨bx, bY, _, hb⟩ := two_blk hx1 (by omega)
 by_cases h0 : bE t c = 0
 ·have h0' : (bE t c != 0) = false := by simp [h0]
  obtain ⟨hok, hcy⟩ := bE_ok h0
  have l1 := hok.len1
  have l2 := hok.len2
  have H0 := Lib.hid h0
  have QE := Lib.hid (qE_in (d := d) hok)
  clear h0
  cases hi : inB d 0 (t.len - 1) with
  | false =>
   have hEv : E = 1 := HE.out.trans (menuE_arg H0.out hi)
   have hRv : R = 0 := HR.out.trans (menuR_no (by rw [← HE.out, hEv]; decide))
   have HEV := Lib.hid hEv
   have HRV := Lib.hid hRv
   clear hEv hRv
   go_wp2_with fail
   refine (asked_any d t A1 A2 c1 c2 _ (h1.below hb) (h2.below hb) hl1 hl2).mono ?_
   rintro e w2 ⟨rfl, hb2⟩
   have hx2 := two_step hx1 hb2
   clear hx1 hb2 bx bY hb
   obtain ⟨bx, bY, _, hb⟩ := two_blk hx2 (by omega)
   rw [QE.out, hi]
   go_wp2
   go_ret2
   exact ⟨ret2 (by rw [HRV.out]; rfl) (by rw [HEV.out]; rfl), hb⟩
  | true =>
   have hib := inB_true.1 hi
   obtain ⟨k, rfl⟩ := Int.eq_ofNat_of_zero_le hib.1
   go_wp2_with fail
   refine (asked_any _ t A1 A2 c1 c2 _ (h1.below hb) (h2.below hb) hl1 hl2).mono ?_
   rintro e w2 ⟨rfl, hb2⟩
   have hx2 := two_step hx1 hb2
   clear hx1 hb2 bx bY hb
   obtain ⟨bx, bY, _, hb⟩ := two_blk hx2 (by omega)
   rw [QE.out, hi]
   go_wp2_with fail
   refine (open_any t k A1 A2 c1 c2 _ (h1.below hb) (h2.below hb) hok (by omega) (by omega)).mono ?_
   rintro e w3 ⟨rfl, hb3⟩
   have hx3 := two_step hx2 hb3
   clear hx2 hb3 bx bY hb
   obtain ⟨bx, bY, _, hb⟩ := two_blk hx3 (by omega)
   cases ho : opB t k with
   | false =>
    have hEv : E = 13 := HE.out.trans (menuE_shut H0.out hi ho)
    have hRv : R = 0 := HR.out.trans (menuR_no (by rw [← HE.out, hEv]; decide))
    have HEV := Lib.hid hEv
    have HRV := Lib.hid hRv
    clear hEv hRv
    go_wp2
    go_ret2
    exact ⟨ret2 (by rw [HRV.out]; rfl) (by rw [HEV.out]; rfl), hb⟩
   | true =>
    have hEv : E = 0 := HE.out.trans (menuE_open H0.out hi ho)
    have hRv : R = mnAt t c k := HR.out.trans (menuR_yes (by rw [← HE.out, hEv]))
    have HEV := Lib.hid hEv
    have HRV := Lib.hid hRv
    clear hEv hRv
    go_wp2_with fail
    refine (menus_any t c A1 A2 c1 c2 _ (h1.below hb) (h2.below hb) hok hcy).mono ?_
    rintro e w4 ⟨g, n, rfl, own4, hb4⟩
    have hml := mnL_length t c
    have hn := own4.1
    have hkn : k < n := by omega
    have d0 := own4.cell k hkn
    rw [mnL_at t c k (by omega)] at d0
    clear hn hml
    go_wp2
    go_ret2
    exact ⟨ret2 (by rw [HRV.out]; rfl) (by rw [HEV.out]; rfl), hb.trans (hb4.mono hb.size)⟩
 ·have h0' : (bE t c != 0) = true := by simp [h0]
  have hEv : E = bE t c := HE.out.trans (menuE_both d h0)
  have hRv : R = 0 := HR.out.trans (menuR_no (by rw [← HE.out, hEv]; exact h0))
  have HEV := Lib.hid hEv
  have HRV := Lib.hid hRv
  clear hEv hRv h0
  go_wp2
  go_ret2
  exact ⟨ret2 (by rw [HRV.out]; rfl) (by rw [HEV.out]; rfl), hb⟩
set_option maxHeartbeats 800000 in
theorem rmenu_any (c : Cy) (d : Int) (t : Tm) (A1 A2 : Option Addr) (c1 c2 : Nat) (w : World) (h1 : RN w A1 t.rest) (h2 : RN w A2 t.clo) (hl1 : t.rest.length ≤ 1000000000) (hl2 : t.clo.length ≤ 1000000000) :
  Calls Tryz.prog 178 #[.agg #[.int .i64 t.len, .slice A1 t.rest.length c1, .slice A2 t.clo.length c2], .agg #[.int .i64 c.n, .int .i64 c.f, .int .i64 c.k], .int .i64 d] w fun e w' => e = .returned (.tuple #[.int .i64 (menuR t c d), .int .i64 (menuE t c d)]) ∧ Below w.heap.size w w' := by
 obtain ⟨E, hE⟩ : ∃ E, E = menuE t c d := ⟨_, rfl⟩
 obtain ⟨R, hR⟩ : ∃ R, R = menuR t c d := ⟨_, rfl⟩
 rw [← hE, ← hR]
 have HE := Lib.hid hE
 have HR := Lib.hid hR
 clear hE hR
 have hx0 : Below (w.heap.size + 2) ((w.alloc (.cells #[.int .i64 t.len, .slice A1 t.rest.length c1, .slice A2 t.clo.length c2] 24)).alloc (.cells #[.int .i64 c.n, .int .i64 c.f, .int .i64 c.k] 26)) ((w.alloc (.cells #[.int .i64 t.len, .slice A1 t.rest.length c1, .slice A2 t.clo.length c2] 24)).alloc (.cells #[.int .i64 c.n, .int .i64 c.f, .int .i64 c.k] 26)) := Below.refl _ _
 obtain ⟨bx, bY, _, hb0⟩ := two_blk hx0 (by omega)
 clear bx bY
 go_enter Tryz.func178, Tryz.ntmps178
 go_wp2_with fail
 refine (rboth_any c t A1 A2 c1 c2 _ (h1.below hb0) (h2.below hb0) hl1 hl2).mono ?_
 rintro e w1 ⟨rfl, hb1⟩
 have hx1 := hx0.trans (hb1.mono (by simp))
 clear hx0 hb0 hb1
 obtain ⟨bx, bY, _, hb⟩ := two_blk hx1 (by omega)
 by_cases h0 : bE t c = 0
 ·have h0' : (bE t c != 0) = false := by simp [h0]
  obtain ⟨hok, hcy⟩ := bE_ok h0
  have l1 := hok.len1
  have l2 := hok.len2
  have H0 := Lib.hid h0
  have QE := Lib.hid (qE_in (d := d) hok)
  clear h0
  cases hi : inB d 0 (t.len - 1) with
  | false =>
   have hEv : E = 1 := HE.out.trans (menuE_arg H0.out hi)
   have hRv : R = 0 := HR.out.trans (menuR_no (by rw [← HE.out, hEv]; decide))
   have HEV := Lib.hid hEv
   have HRV := Lib.hid hRv
   clear hEv hRv
   go_wp2_with fail
   refine (within_any _ _ _ _).mono ?_
   rintro e w2 ⟨rfl, hw2⟩
   subst hw2
   go_wp2
   go_ret2
   exact ⟨ret2 (by rw [HRV.out]; rfl) (by rw [HEV.out]; rfl), hb⟩
  | true =>
   have hib := inB_true.1 hi
   obtain ⟨k, rfl⟩ := Int.eq_ofNat_of_zero_le hib.1
   go_wp2_with fail
   refine (within_any _ _ _ _).mono ?_
   rintro e w2 ⟨rfl, hw2⟩
   subst hw2
   go_wp2_with fail
   refine (ropen_any t k A1 A2 c1 c2 _ (h1.below hb) (h2.below hb) hok (by omega) (by omega)).mono ?_
   rintro e w3 ⟨rfl, hb3⟩
   have hx3 := two_step hx1 hb3
   clear hx1 hb3 bx bY hb
   obtain ⟨bx, bY, _, hb⟩ := two_blk hx3 (by omega)
   cases ho : opB t k with
   | false =>
    have hEv : E = 13 := HE.out.trans (menuE_shut H0.out hi ho)
    have hRv : R = 0 := HR.out.trans (menuR_no (by rw [← HE.out, hEv]; decide))
    have HEV := Lib.hid hEv
    have HRV := Lib.hid hRv
    clear hEv hRv
    go_wp2
    go_ret2
    exact ⟨ret2 (by rw [HRV.out]; rfl) (by rw [HEV.out]; rfl), hb⟩
   | true =>
    have hEv : E = 0 := HE.out.trans (menuE_open H0.out hi ho)
    have hRv : R = mnAt t c k := HR.out.trans (menuR_yes (by rw [← HE.out, hEv]))
    have HEV := Lib.hid hEv
    have HRV := Lib.hid hRv
    clear hEv hRv
    go_wp2_with fail
    refine (rmenus_any t c A1 A2 c1 c2 _ (h1.below hb) (h2.below hb) hok hcy).mono ?_
    rintro e w4 ⟨A, n, c', rfl, hn, own4, hb4⟩
    have hml := mnL_length t c
    have hk : k < (mnL t c).length := by omega
    obtain ⟨ad, rfl, _, d0⟩ := (RN.of_own own4).at_ hk
    rw [mnL_at t c k (by omega)] at d0
    have hkn : k < n := by omega
    clear hn hml hk
    go_wp2
    go_ret2
    exact ⟨ret2 (by rw [HRV.out]; rfl) (by rw [HEV.out]; rfl), hb.trans (hb4.mono hb.size)⟩
 ·have h0' : (bE t c != 0) = true := by simp [h0]
  have hEv : E = bE t c := HE.out.trans (menuE_both d h0)
  have hRv : R = 0 := HR.out.trans (menuR_no (by rw [← HE.out, hEv]; exact h0))
  have HEV := Lib.hid hEv
  have HRV := Lib.hid hRv
  clear hEv hRv h0
  go_wp2
  go_ret2
  exact ⟨ret2 (by rw [HRV.out]; rfl) (by rw [HEV.out]; rfl), hb⟩
end Go.Proofs.YtiapkffihpgdcaaGreatDoor
namespace Go.Proofs.YtiapkffihpgdcaaGreatDoor
structure Ln where
 r : Int
 m : Int
def gl (l : List Ln) (k : Nat) : Ln := l.getD k ⟨0, 0⟩
end Go.Proofs.YtiapkffihpgdcaaGreatDoor
namespace Go.Proofs.YtiapkffihpgdcaaGreatDoor
open Go.ChangeShapes Go.WideShapes Go.ChangeAt Go.RowKit Go.Deep Go.Joins
theorem own_ : ownKnob Tryz.prog.godebug = none := by kernel_rfl
theorem laid_ : laidOutB Tryz.prog = true := by kernel_rfl
section
variable {H : Type} {enc : TypeId × Value → H} {P : Program} {w : World} {base : Nat} {spare : Nat → Bool} {held : Bool}
theorem open_slice_fields {t e : TypeId} {fs : Array Field} {fuel : Nat} {cs : List Value} {x : DataW H × List MemPlace} (ht : P.underlying t = some (.slice e)) (he : P.underlying e = some (.struct fs))
  (hone : oneCellFields P fs = true) (hC : P.cellsOf e = fs.size) (h : DataW.trod enc P w base spare held fuel t cs = some x) :
  (cs = [.slice none 0 0] ∧ x = (.nil, [])) ∨
  ∃ (a : Addr) (len cap m : Nat) (D : Nat → DataW H) (Pl : Nat → List MemPlace), cs = [.slice (some a) len cap] ∧ base ≤ a.block ∧ len ≤ cap ∧ cap ≤ maxLen ∧ m = (if spare a.block then cap else len) ∧
   x = (.slice ((List.range len).map D) ((List.range (m - len)).map fun j => D (len + j)), MemPlace.row a (m * fs.size) ++ (List.range m).flatMap Pl) ∧
   ∀ i, i < m → ∃ (ys : List (DataW H × List MemPlace)) (n : Nat), D i = .agg (ys.map (·.1)) ∧ Pl i = ys.flatMap (·.2) ∧ ys.length = fs.size ∧
    ∀ (j : Nat) (f : Field), fs[j]? = some f → ∃ (v : Value) (y : DataW H × List MemPlace), w.cell? (a.add (i * fs.size + j)) = some v ∧ ys[j]? = some y ∧ DataW.trod enc P w base spare held n f.type [v] = some y := by
 rcases open_slice ht h with h0 | ⟨a, len, cap, m, n, D, Pl, hcs, hb, hl, hm, hmm, hx, hi⟩
 ·exact .inl h0
 ·refine .inr ⟨a, len, cap, m, D, Pl, hcs, hb, hl, hm, hmm, by rw [hC] at hx; exact hx, fun i him => ?_⟩
  obtain ⟨cs', hc, ht'⟩ := hi i him
  rw [hC] at hc
  obtain ⟨ys, n', hn', hy, hlen, hyl, hf⟩ := DataW.trod_struct he ht'
  obtain ⟨_, hcl, hat⟩ := World.cells?_some hc
  simp only [Prod.mk.injEq] at hy
  refine ⟨ys, n', hy.1, hy.2, hyl, fun j f hj => ?_⟩
  obtain ⟨ho, hk⟩ := hone_of hone j f hj
  have hjl : j < fs.size := (Array.getElem?_eq_some_iff.1 hj).1
  have hcell := hat j hjl
  have hv : cs'[j]? = some (cs'[j]'(by omega)) := List.getElem?_eq_getElem (by omega)
  have h1 := hf j f hj
  rw [ho, hk] at h1
  have hone' : (cs'.drop j).take 1 = [cs'[j]'(by omega)] := by
   rw [List.drop_eq_getElem_cons (by omega)]
   rfl
  rw [hone'] at h1
  have hys : ys[j]? = some (ys[j]'(by omega)) := List.getElem?_eq_getElem (by omega)
  refine ⟨_, _, ?_, hys, h1.trans hys⟩
  rw [← Go.Deep.add_add, hcell, hv]
end
section
variable {H : Type} {enc : TypeId × Value → H}
theorem trodAll_below {W W' : World} (hb : Below W.heap.size W W') : ∀ (ts : List TypeId) (vs : List Value) (ds : List (DataW H)) (ps : List MemPlace), (∀ t ∈ ts, Tryz.prog.readableRec t = true ∧ t < Tryz.prog.types.size) →
  DataW.TrodAll enc Tryz.prog W 0 (fun _ => true) true ts vs ds ps → (∀ x ∈ ps, x.block < W.heap.size) → DataW.TrodAll enc Tryz.prog W' 0 (fun b => decide (b < W.heap.size)) true ts vs ds ps
 | [], [], [], _, _, h, _ => h
 | t :: ts, v :: vs, d :: ds, ps, hr, ⟨p, q, h1, h2, e⟩, hlt => by
  subst e
  exact ⟨p, q, Below.trod laid_ (hr t (by simp)).1 (hr t (by simp)).2 h1 hb (fun x hx => hlt x (by simp [hx])), trodAll_below hb ts vs ds q (fun t ht => hr t (by simp [ht])) h2 (fun x hx => hlt x (by simp [hx])), rfl⟩
theorem law_post {f : Func} {s : ChangeSpec} {W W' : World} {args : Array Value} {ds gs : List (DataW H)} {before : List MemPlace} (hW : DataW.Whole enc Tryz.prog f.params.toList s.vars false W args.toList ds gs before)
    (hv : s.vars = []) (hr : f.resultTypes = #[4]) (hfn : s.fn H (ds ++ []) = { results := [.lit (.bool true)], args := ds }) (hp : ∀ t ∈ f.params.toList, Tryz.prog.readableRec t = true ∧ t < Tryz.prog.types.size)
    (hb : Below W.heap.size W W') : s.post enc Tryz.prog f false true false false W args (.bool true) W' := by
  have hlt := fun p hp => hW.lt p hp
  have hW' := hW
  obtain ⟨p, q, hA, hVr, rfl, hfz, hnd⟩ := hW
  rw [hv] at hVr
  obtain ⟨rfl, rfl⟩ := trodVars_none hVr
  refine ⟨ds, [], _, [], p, [], hW', ?_, ?_, ?_, hb.frame _, fun h => by cases h⟩
  · rw [hr, hfn]; exact trodAll_mk1 (shut_bool Tryz.underlying4 _)
  · rw [hfn]; exact trodAll_below hb _ _ _ _ hp hA (fun x hx => hlt x (by simp [hx]))
  · rw [hv, hfn]; exact rfl
theorem choose_list {α : Type} {Pr : Nat → α → Prop} {n : Nat} (h : ∀ i, i < n → ∃ a, Pr i a) : ∃ l : List α, l.length = n ∧ ∀ (i : Nat) (a : α), l[i]? = some a → Pr i a := by
 induction n with
 | zero => exact ⟨[], rfl, by simp⟩
 | succ n ih =>
  obtain ⟨l, hl, hP⟩ := ih fun i hi => h i (by omega)
  obtain ⟨a, ha⟩ := h n (by omega)
  refine ⟨l ++ [a], by simp [hl], fun i b hb => ?_⟩
  rcases Nat.lt_or_ge i l.length with hi | hi
  ·rw [List.getElem?_append_left hi] at hb; exact hP i b hb
  ·rw [List.getElem?_append_right hi] at hb
   have : i = l.length := by
    rcases Nat.lt_or_ge i (l.length + 1) with h1 | h1
    ·omega
    ·rw [List.getElem?_eq_none (by simp; omega)] at hb; cases hb
   subst this
   simp at hb; subst hb; rw [hl]; exact ha
theorem cell_block {w : World} {a : Addr} {v : Value} (h : w.cell? (a.add 0) = some v) : a.block < w.heap.size := by
 rcases Nat.lt_or_ge a.block w.heap.size with hlt | hge
 ·exact hlt
 ·have e : a.add 0 = a := rfl
  rw [e] at h
  unfold World.cell? at h
  rw [Array.getElem?_eq_none hge] at h
  cases h
variable {W : World}
/-- A list of numbers that comes in. -/
theorem open_nums {cs : List Value} {x : DataW H × List MemPlace} {fuel : Nat} (hf : DataW.trod enc Tryz.prog W 0 (fun _ => true) true fuel 22 cs = some x) :
  ∃ (l : List Int) (A : Option Addr) (c : Nat), cs = [.slice A l.length c] ∧ l.length ≤ c ∧ RN W A l := by
 rcases open_ints Tryz.underlying22 Tryz.underlying3 (by kernel_rfl) hf with ⟨hcs, -⟩ | ⟨a, len, cap, zs, hcs, -, hl, -, hz, -, hi, -⟩
 ·exact ⟨[], none, 0, hcs, Nat.le_refl _, rfl, fun h => by cases h⟩
 ·simp only [if_true] at hz
  have hlen : (zs.take len).length = len := by rw [List.length_take]; omega
  refine ⟨zs.take len, some a, cap, by rw [hlen]; exact hcs, by rw [hlen]; exact hl, by simp [ints], fun hp => ⟨a, rfl, ?_, fun j u hu => ?_⟩⟩
  ·exact cell_block (hi 0 (by omega))
  ·have hj : j < len := by have := (List.getElem?_eq_some_iff.1 hu).1; simp [ints] at this; omega
   rw [hi j (by omega)]
   rw [← hu]
   simp [ints, hj, show j < zs.length by omega]
theorem slice_of_cells {W : World} {r : Reach} {b0 : Nat} {v : Value} {A : Option Addr} {n c : Nat} {t e : TypeId} (ht : Tryz.prog.underlying t = some (.slice e)) (hok : Value.okWide Tryz.prog W r b0 t v) (h : v.cells.toList = [.slice A n c]) : v = .slice A n c := by
 obtain ⟨a0, len0, cap0, rfl⟩ := okWide_slice ht hok
 simpa [Value.cells] using h
end
end Go.Proofs.YtiapkffihpgdcaaGreatDoor
namespace Go.Proofs
open Go.Shelf
def Tryz.lsort_ren : Go.Shelf.Ren := ⟨fun | 189 => 274 | 125 => 305 | 257 => 304 | 128 => 320 | 129 => 301 | 294 => 312 | 295 => 313 | 296 => 314 | 297 => 315 | 298 => 316 | 299 => 317 | 216 => 263 | 300 => 318 | 301 => 319 | 328 => 332 | 329 => 333 | 330 => 334 | 331 => 335 | 332 => 336 | 215 => 298 | 343 => 341 | n => n, fun | 28 => 22 | 3 => 3 | 46 => 100 | 0 => 0 | 51 => 130 | 53 => 313 | 4 => 4 | 183 => 346 | 182 => 345 | 131 => 255 | 5 => 5 | 9 => 9 | 218 => 358 | 222 => 362 | 228 => 366 | 229 => 367 | n => n, fun | n => n⟩
theorem Tryz.lsort : Go.Proofs.Lays.n189 Tryz.prog Tryz.lsort_ren := {
  mixed := by kernel_rfl
  f125 := Tryz.func305.trans (congrArg some (by kernel_rfl))
  f128 := Tryz.func320.trans (congrArg some (by kernel_rfl))
  f129 := Tryz.func301.trans (congrArg some (by kernel_rfl))
  f189 := Tryz.func274.trans (congrArg some (by kernel_rfl))
  f215 := Tryz.func298.trans (congrArg some (by kernel_rfl))
  f216 := Tryz.func263.trans (congrArg some (by kernel_rfl))
  f257 := Tryz.func304.trans (congrArg some (by kernel_rfl))
  f294 := Tryz.func312.trans (congrArg some (by kernel_rfl))
  f295 := Tryz.func313.trans (congrArg some (by kernel_rfl))
  f296 := Tryz.func314.trans (congrArg some (by kernel_rfl))
  f297 := Tryz.func315.trans (congrArg some (by kernel_rfl))
  f298 := Tryz.func316.trans (congrArg some (by kernel_rfl))
  f299 := Tryz.func317.trans (congrArg some (by kernel_rfl))
  f300 := Tryz.func318.trans (congrArg some (by kernel_rfl))
  f301 := Tryz.func319.trans (congrArg some (by kernel_rfl))
  f328 := Tryz.func332.trans (congrArg some (by kernel_rfl))
  f329 := Tryz.func333.trans (congrArg some (by kernel_rfl))
  f330 := Tryz.func334.trans (congrArg some (by kernel_rfl))
  f331 := Tryz.func335.trans (congrArg some (by kernel_rfl))
  f332 := Tryz.func336.trans (congrArg some (by kernel_rfl))
  f343 := Tryz.func341.trans (congrArg some (by kernel_rfl))
  t0 := Tryz.underlying0
  a0 := Tryz.isAgg0
  z0 := Tryz.sizeOf0
  v0 := Tryz.zeroValue0
  t3 := Tryz.underlying3
  a3 := Tryz.isAgg3
  z3 := Tryz.sizeOf3
  v3 := Tryz.zeroValue3
  t4 := Tryz.underlying4
  a4 := Tryz.isAgg4
  z4 := Tryz.sizeOf4
  v4 := Tryz.zeroValue4
  t5 := Tryz.underlying5
  a5 := Tryz.isAgg5
  z5 := Tryz.sizeOf5
  v5 := Tryz.zeroValue5
  t9 := Tryz.underlying9
  a9 := Tryz.isAgg9
  z9 := Tryz.sizeOf9
  v9 := Tryz.zeroValue9
  t28 := Tryz.underlying22
  a28 := Tryz.isAgg22
  z28 := Tryz.sizeOf22
  v28 := Tryz.zeroValue22
  t46 := Tryz.underlying100
  a46 := Tryz.isAgg100
  z46 := Tryz.sizeOf100
  v46 := Tryz.zeroValue100
  t51 := Tryz.underlying130
  a51 := Tryz.isAgg130
  z51 := Tryz.sizeOf130
  v51 := Tryz.zeroValue130
  t53 := Tryz.underlying313
  a53 := Tryz.isAgg313
  z53 := Tryz.sizeOf313
  v53 := Tryz.zeroValue313
  t131 := Tryz.underlying255
  a131 := Tryz.isAgg255
  z131 := Tryz.sizeOf255
  v131 := Tryz.zeroValue255
  t182 := Tryz.underlying345
  a182 := Tryz.isAgg345
  z182 := Tryz.sizeOf345
  v182 := Tryz.zeroValue345
  t183 := Tryz.underlying346
  a183 := Tryz.isAgg346
  z183 := Tryz.sizeOf346
  v183 := Tryz.zeroValue346
  t218 := Tryz.underlying358
  a218 := Tryz.isAgg358
  z218 := Tryz.sizeOf358
  v218 := Tryz.zeroValue358
  t222 := Tryz.underlying362
  a222 := Tryz.isAgg362
  z222 := Tryz.sizeOf362
  v222 := Tryz.zeroValue362
  t228 := Tryz.underlying366
  a228 := Tryz.isAgg366
  z228 := Tryz.sizeOf366
  v228 := Tryz.zeroValue366
  t229 := Tryz.underlying367
  a229 := Tryz.isAgg367
  z229 := Tryz.sizeOf367
  v229 := Tryz.zeroValue367 }
def Tryz.lcomp_ren : Go.Shelf.Ren := ⟨fun | 20 => 275 | n => n, fun | 22 => 22 | 3 => 3 | 4 => 4 | 0 => 0 | n => n, fun | n => n⟩
theorem Tryz.lcomp : Go.Proofs.Lays2.n20 Tryz.prog Tryz.lcomp_ren := {
  mixed := by kernel_rfl
  f20 := Tryz.func275.trans (congrArg some (by kernel_rfl))
  t0 := Tryz.underlying0
  a0 := Tryz.isAgg0
  z0 := Tryz.sizeOf0
  v0 := Tryz.zeroValue0
  t3 := Tryz.underlying3
  a3 := Tryz.isAgg3
  z3 := Tryz.sizeOf3
  v3 := Tryz.zeroValue3
  t4 := Tryz.underlying4
  a4 := Tryz.isAgg4
  z4 := Tryz.sizeOf4
  v4 := Tryz.zeroValue4
  t22 := Tryz.underlying22
  a22 := Tryz.isAgg22
  z22 := Tryz.sizeOf22
  v22 := Tryz.zeroValue22
  i3 := by kernel_rfl }
def Tryz.leql_ren : Go.Shelf.Ren := ⟨fun | 111 => 216 | n => n, fun | 28 => 22 | 3 => 3 | 4 => 4 | 0 => 0 | n => n, fun | n => n⟩
theorem Tryz.leql : Go.Proofs.Lays.n111 Tryz.prog Tryz.leql_ren := {
  mixed := by kernel_rfl
  f111 := Tryz.func216.trans (congrArg some (by kernel_rfl))
  t0 := Tryz.underlying0
  a0 := Tryz.isAgg0
  z0 := Tryz.sizeOf0
  v0 := Tryz.zeroValue0
  t3 := Tryz.underlying3
  a3 := Tryz.isAgg3
  z3 := Tryz.sizeOf3
  v3 := Tryz.zeroValue3
  t4 := Tryz.underlying4
  a4 := Tryz.isAgg4
  z4 := Tryz.sizeOf4
  v4 := Tryz.zeroValue4
  t28 := Tryz.underlying22
  a28 := Tryz.isAgg22
  z28 := Tryz.sizeOf22
  v28 := Tryz.zeroValue22 }
def Tryz.lctz_ren : Go.Shelf.Ren := ⟨fun | 27 => 189 | 28 => 259 | 29 => 260 | n => n, fun | 25 => 100 | 3 => 3 | 27 => 130 | 22 => 313 | 4 => 4 | 53 => 334 | 0 => 0 | 5 => 5 | 54 => 335 | n => n, fun | 0 => 2 | 1 => 3 | n => n⟩
theorem Tryz.lctz : Go.Proofs.Lays7.n27 Tryz.prog Tryz.lctz_ren := {
  mixed := by kernel_rfl
  f27 := Tryz.func189.trans (congrArg some (by kernel_rfl))
  f28 := Tryz.func259.trans (congrArg some (by kernel_rfl))
  f29 := Tryz.func260.trans (congrArg some (by kernel_rfl))
  t0 := Tryz.underlying0
  a0 := Tryz.isAgg0
  z0 := Tryz.sizeOf0
  v0 := Tryz.zeroValue0
  i0 := by kernel_rfl
  t3 := Tryz.underlying3
  a3 := Tryz.isAgg3
  z3 := Tryz.sizeOf3
  v3 := Tryz.zeroValue3
  i3 := by kernel_rfl
  t4 := Tryz.underlying4
  a4 := Tryz.isAgg4
  z4 := Tryz.sizeOf4
  v4 := Tryz.zeroValue4
  i4 := by kernel_rfl
  t5 := Tryz.underlying5
  a5 := Tryz.isAgg5
  z5 := Tryz.sizeOf5
  v5 := Tryz.zeroValue5
  i5 := by kernel_rfl
  t22 := Tryz.underlying313
  a22 := Tryz.isAgg313
  z22 := Tryz.sizeOf313
  v22 := Tryz.zeroValue313
  i22 := by kernel_rfl
  t25 := Tryz.underlying100
  a25 := Tryz.isAgg100
  z25 := Tryz.sizeOf100
  v25 := Tryz.zeroValue100
  i25 := by kernel_rfl
  t27 := Tryz.underlying130
  a27 := Tryz.isAgg130
  z27 := Tryz.sizeOf130
  v27 := Tryz.zeroValue130
  i27 := by kernel_rfl
  t53 := Tryz.underlying334
  a53 := Tryz.isAgg334
  z53 := Tryz.sizeOf334
  v53 := Tryz.zeroValue334
  i53 := by kernel_rfl
  t54 := Tryz.underlying335
  a54 := Tryz.isAgg335
  z54 := Tryz.sizeOf335
  g0 := by kernel_rfl
  g1 := by kernel_rfl }
def Tryz.lcut_ren : Go.Shelf.Ren := ⟨fun | 145 => 94 | 220 => 177 | 219 => 247 | 217 => 293 | 225 => 294 | 224 => 295 | 267 => 296 | 266 => 310 | 314 => 311 | n => n, fun | 9 => 9 | 4 => 4 | 59 => 163 | 3 => 3 | 5 => 5 | 46 => 100 | 146 => 342 | 51 => 130 | n => n, fun | 1 => 1 | n => n⟩
theorem Tryz.lcut : Go.Proofs.Lays.n145 Tryz.prog Tryz.lcut_ren := {
  mixed := by kernel_rfl
  f145 := Tryz.func94.trans (congrArg some (by kernel_rfl))
  f217 := Tryz.func293.trans (congrArg some (by kernel_rfl))
  f219 := Tryz.func247.trans (congrArg some (by kernel_rfl))
  f220 := Tryz.func177.trans (congrArg some (by kernel_rfl))
  f224 := Tryz.func295.trans (congrArg some (by kernel_rfl))
  f225 := Tryz.func294.trans (congrArg some (by kernel_rfl))
  f266 := Tryz.func310.trans (congrArg some (by kernel_rfl))
  f267 := Tryz.func296.trans (congrArg some (by kernel_rfl))
  f314 := Tryz.func311.trans (congrArg some (by kernel_rfl))
  t3 := Tryz.underlying3
  a3 := Tryz.isAgg3
  z3 := Tryz.sizeOf3
  v3 := Tryz.zeroValue3
  t4 := Tryz.underlying4
  a4 := Tryz.isAgg4
  z4 := Tryz.sizeOf4
  v4 := Tryz.zeroValue4
  t5 := Tryz.underlying5
  a5 := Tryz.isAgg5
  z5 := Tryz.sizeOf5
  v5 := Tryz.zeroValue5
  t9 := Tryz.underlying9
  a9 := Tryz.isAgg9
  z9 := Tryz.sizeOf9
  v9 := Tryz.zeroValue9
  t46 := Tryz.underlying100
  a46 := Tryz.isAgg100
  z46 := Tryz.sizeOf100
  v46 := Tryz.zeroValue100
  t51 := Tryz.underlying130
  a51 := Tryz.isAgg130
  z51 := Tryz.sizeOf130
  v51 := Tryz.zeroValue130
  t59 := Tryz.underlying163
  a59 := Tryz.isAgg163
  z59 := Tryz.sizeOf163
  v59 := Tryz.zeroValue163
  t146 := Tryz.underlying342
  a146 := Tryz.isAgg342
  z146 := Tryz.sizeOf342
  v146 := Tryz.zeroValue342
  g1 := by kernel_rfl }
def Tryz.lstr_ren : Go.Shelf.Ren := ⟨fun | 169 => 158 | n => n, fun | 70 => 219 | 9 => 9 | 0 => 0 | 72 => 222 | 37 => 220 | 127 => 270 | 3 => 3 | 5 => 5 | n => n, fun | n => n⟩
theorem Tryz.lstr : Go.Proofs.Lays.n169 Tryz.prog Tryz.lstr_ren := {
  mixed := by kernel_rfl
  f169 := Tryz.func158.trans (congrArg some (by kernel_rfl))
  t0 := Tryz.underlying0
  a0 := Tryz.isAgg0
  z0 := Tryz.sizeOf0
  v0 := Tryz.zeroValue0
  t3 := Tryz.underlying3
  a3 := Tryz.isAgg3
  z3 := Tryz.sizeOf3
  v3 := Tryz.zeroValue3
  t9 := Tryz.underlying9
  a9 := Tryz.isAgg9
  z9 := Tryz.sizeOf9
  v9 := Tryz.zeroValue9
  t37 := Tryz.underlying220
  a37 := Tryz.isAgg220
  z37 := Tryz.sizeOf220
  v37 := Tryz.zeroValue220
  t70 := Tryz.underlying219
  a70 := Tryz.isAgg219
  z70 := Tryz.sizeOf219
  v70 := Tryz.zeroValue219
  t72 := Tryz.underlying222
  a72 := Tryz.isAgg222
  z72 := Tryz.sizeOf222
  v72 := Tryz.zeroValue222
  t127 := Tryz.underlying270
  a127 := Tryz.isAgg270
  z127 := Tryz.sizeOf270
  v127 := Tryz.zeroValue270 }
def Tryz.lsrc_ren : Go.Shelf.Ren := ⟨fun | 6 => 287 | 15 => 305 | 14 => 309 | 28 => 320 | 29 => 301 | 20 => 324 | 21 => 325 | 22 => 326 | 23 => 327 | 24 => 328 | 25 => 329 | 26 => 330 | 27 => 331 | 46 => 338 | 47 => 333 | 48 => 334 | 49 => 339 | 50 => 340 | 57 => 342 | n => n, fun | 22 => 46 | 24 => 56 | 25 => 330 | 3 => 3 | 39 => 100 | 0 => 0 | 53 => 130 | 55 => 313 | 4 => 4 | 46 => 346 | 45 => 345 | 50 => 255 | 5 => 5 | 9 => 9 | 66 => 358 | 70 => 362 | 76 => 366 | 77 => 367 | n => n, fun | n => n⟩
theorem Tryz.lsrc : Go.Proofs.SlLaysF0.n6 Tryz.prog Tryz.lsrc_ren := {
  mixed := by kernel_rfl
  f6 := ⟨Tryz.f287.name, by decide, Tryz.func287.trans (congrArg some (by kernel_rfl))⟩
  f14 := ⟨Tryz.f309.name, by decide, Tryz.func309.trans (congrArg some (by kernel_rfl))⟩
  f15 := Tryz.func305.trans (congrArg some (by kernel_rfl))
  f20 := ⟨Tryz.f324.name, by decide, Tryz.func324.trans (congrArg some (by kernel_rfl))⟩
  f21 := ⟨Tryz.f325.name, by decide, Tryz.func325.trans (congrArg some (by kernel_rfl))⟩
  f22 := ⟨Tryz.f326.name, by decide, Tryz.func326.trans (congrArg some (by kernel_rfl))⟩
  f23 := ⟨Tryz.f327.name, by decide, Tryz.func327.trans (congrArg some (by kernel_rfl))⟩
  f24 := ⟨Tryz.f328.name, by decide, Tryz.func328.trans (congrArg some (by kernel_rfl))⟩
  f25 := ⟨Tryz.f329.name, by decide, Tryz.func329.trans (congrArg some (by kernel_rfl))⟩
  f26 := ⟨Tryz.f330.name, by decide, Tryz.func330.trans (congrArg some (by kernel_rfl))⟩
  f27 := ⟨Tryz.f331.name, by decide, Tryz.func331.trans (congrArg some (by kernel_rfl))⟩
  f28 := Tryz.func320.trans (congrArg some (by kernel_rfl))
  f29 := Tryz.func301.trans (congrArg some (by kernel_rfl))
  f46 := ⟨Tryz.f338.name, by decide, Tryz.func338.trans (congrArg some (by kernel_rfl))⟩
  f47 := Tryz.func333.trans (congrArg some (by kernel_rfl))
  f48 := Tryz.func334.trans (congrArg some (by kernel_rfl))
  f49 := ⟨Tryz.f339.name, by decide, Tryz.func339.trans (congrArg some (by kernel_rfl))⟩
  f50 := ⟨Tryz.f340.name, by decide, Tryz.func340.trans (congrArg some (by kernel_rfl))⟩
  f57 := ⟨Tryz.f342.name, by decide, Tryz.func342.trans (congrArg some (by kernel_rfl))⟩
  t0 := Tryz.underlying0
  a0 := Tryz.isAgg0
  z0 := Tryz.sizeOf0
  v0 := Tryz.zeroValue0
  t3 := Tryz.underlying3
  a3 := Tryz.isAgg3
  z3 := Tryz.sizeOf3
  v3 := Tryz.zeroValue3
  t4 := Tryz.underlying4
  a4 := Tryz.isAgg4
  z4 := Tryz.sizeOf4
  v4 := Tryz.zeroValue4
  t5 := Tryz.underlying5
  a5 := Tryz.isAgg5
  z5 := Tryz.sizeOf5
  v5 := Tryz.zeroValue5
  t9 := Tryz.underlying9
  a9 := Tryz.isAgg9
  z9 := Tryz.sizeOf9
  v9 := Tryz.zeroValue9
  t22 := Tryz.underlying46
  a22 := Tryz.isAgg46
  z22 := Tryz.sizeOf46
  v22 := Tryz.zeroValue46
  t25 := Tryz.underlying330
  a25 := Tryz.isAgg330
  z25 := Tryz.sizeOf330
  v25 := Tryz.zeroValue330
  t39 := Tryz.underlying100
  a39 := Tryz.isAgg100
  z39 := Tryz.sizeOf100
  v39 := Tryz.zeroValue100
  t45 := Tryz.underlying345
  a45 := Tryz.isAgg345
  z45 := Tryz.sizeOf345
  v45 := Tryz.zeroValue345
  t46 := Tryz.underlying346
  a46 := Tryz.isAgg346
  z46 := Tryz.sizeOf346
  v46 := Tryz.zeroValue346
  t50 := Tryz.underlying255
  a50 := Tryz.isAgg255
  z50 := Tryz.sizeOf255
  v50 := Tryz.zeroValue255
  t53 := Tryz.underlying130
  a53 := Tryz.isAgg130
  z53 := Tryz.sizeOf130
  v53 := Tryz.zeroValue130
  t55 := Tryz.underlying313
  a55 := Tryz.isAgg313
  z55 := Tryz.sizeOf313
  v55 := Tryz.zeroValue313
  t66 := Tryz.underlying358
  a66 := Tryz.isAgg358
  z66 := Tryz.sizeOf358
  v66 := Tryz.zeroValue358
  t70 := Tryz.underlying362
  a70 := Tryz.isAgg362
  z70 := Tryz.sizeOf362
  v70 := Tryz.zeroValue362
  t76 := Tryz.underlying366
  a76 := Tryz.isAgg366
  z76 := Tryz.sizeOf366
  v76 := Tryz.zeroValue366
  t77 := Tryz.underlying367
  a77 := Tryz.isAgg367
  z77 := Tryz.sizeOf367
  v77 := Tryz.zeroValue367 }
def Tryz.litoa_ren : Go.Shelf.Ren := ⟨fun | 171 => 59 | 243 => 149 | 246 => 217 | 283 => 270 | 284 => 271 | 285 => 272 | 286 => 273 | 129 => 301 | 317 => 300 | 318 => 302 | 319 => 303 | 320 => 189 | 337 => 259 | 338 => 260 | n => n, fun | 3 => 3 | 9 => 9 | 2 => 2 | 4 => 4 | 171 => 315 | 0 => 0 | 53 => 313 | 37 => 220 | 5 => 5 | 173 => 317 | 212 => 337 | 51 => 130 | 20 => 20 | 213 => 338 | 46 => 100 | 232 => 334 | 233 => 335 | n => n, fun | 17 => 4 | 18 => 2 | 19 => 3 | n => n⟩
theorem Tryz.litoa : Go.Proofs.LaysM.n171 Tryz.prog Tryz.litoa_ren := {
  mixed := by kernel_rfl
  f129 := Tryz.func301.trans (congrArg some (by kernel_rfl))
  f171 := Tryz.func59.trans (congrArg some (by kernel_rfl))
  f243 := Tryz.func149.trans (congrArg some (by kernel_rfl))
  f246 := Tryz.func217.trans (congrArg some (by kernel_rfl))
  f283 := Tryz.func270.trans (congrArg some (by kernel_rfl))
  f284 := Tryz.func271.trans (congrArg some (by kernel_rfl))
  f285 := Tryz.func272.trans (congrArg some (by kernel_rfl))
  f286 := Tryz.func273.trans (congrArg some (by kernel_rfl))
  f317 := Tryz.func300.trans (congrArg some (by kernel_rfl))
  f318 := Tryz.func302.trans (congrArg some (by kernel_rfl))
  f319 := Tryz.func303.trans (congrArg some (by kernel_rfl))
  f320 := Tryz.func189.trans (congrArg some (by kernel_rfl))
  f337 := Tryz.func259.trans (congrArg some (by kernel_rfl))
  f338 := Tryz.func260.trans (congrArg some (by kernel_rfl))
  t0 := Tryz.underlying0
  a0 := Tryz.isAgg0
  z0 := Tryz.sizeOf0
  v0 := Tryz.zeroValue0
  t2 := Tryz.underlying2
  a2 := Tryz.isAgg2
  z2 := Tryz.sizeOf2
  v2 := Tryz.zeroValue2
  t3 := Tryz.underlying3
  a3 := Tryz.isAgg3
  z3 := Tryz.sizeOf3
  v3 := Tryz.zeroValue3
  t4 := Tryz.underlying4
  a4 := Tryz.isAgg4
  z4 := Tryz.sizeOf4
  v4 := Tryz.zeroValue4
  t5 := Tryz.underlying5
  a5 := Tryz.isAgg5
  z5 := Tryz.sizeOf5
  v5 := Tryz.zeroValue5
  t9 := Tryz.underlying9
  a9 := Tryz.isAgg9
  z9 := Tryz.sizeOf9
  v9 := Tryz.zeroValue9
  t20 := Tryz.underlying20
  a20 := Tryz.isAgg20
  z20 := Tryz.sizeOf20
  v20 := Tryz.zeroValue20
  t37 := Tryz.underlying220
  a37 := Tryz.isAgg220
  z37 := Tryz.sizeOf220
  v37 := Tryz.zeroValue220
  t46 := Tryz.underlying100
  a46 := Tryz.isAgg100
  z46 := Tryz.sizeOf100
  v46 := Tryz.zeroValue100
  t51 := Tryz.underlying130
  a51 := Tryz.isAgg130
  z51 := Tryz.sizeOf130
  v51 := Tryz.zeroValue130
  t53 := Tryz.underlying313
  a53 := Tryz.isAgg313
  z53 := Tryz.sizeOf313
  v53 := Tryz.zeroValue313
  t171 := Tryz.underlying315
  a171 := Tryz.isAgg315
  z171 := Tryz.sizeOf315
  v171 := Tryz.zeroValue315
  t173 := Tryz.underlying317
  a173 := Tryz.isAgg317
  z173 := Tryz.sizeOf317
  v173 := Tryz.zeroValue317
  t212 := Tryz.underlying337
  a212 := Tryz.isAgg337
  z212 := Tryz.sizeOf337
  v212 := Tryz.zeroValue337
  t213 := Tryz.underlying338
  a213 := Tryz.isAgg338
  z213 := Tryz.sizeOf338
  t232 := Tryz.underlying334
  a232 := Tryz.isAgg334
  z232 := Tryz.sizeOf334
  v232 := Tryz.zeroValue334
  t233 := Tryz.underlying335
  a233 := Tryz.isAgg335
  z233 := Tryz.sizeOf335
  v233 := Tryz.zeroValue335
  g17 := by kernel_rfl
  g18 := by kernel_rfl
  g19 := by kernel_rfl
  i0 := by kernel_rfl
  i2 := by kernel_rfl
  i3 := by kernel_rfl
  i4 := by kernel_rfl
  i5 := by kernel_rfl
  i9 := by kernel_rfl
  i20 := by kernel_rfl
  i37 := by kernel_rfl
  i46 := by kernel_rfl
  i51 := by kernel_rfl
  i53 := by kernel_rfl
  i171 := by kernel_rfl
  i173 := by kernel_rfl
  i212 := by kernel_rfl
  i232 := by kernel_rfl
  i233 := by kernel_rfl
  m17 := by kernel_rfl
  m18 := by kernel_rfl
  m19 := by kernel_rfl }
def Tryz.lsplit_ren : Go.Shelf.Ren := ⟨fun | 146 => 231 | 221 => 284 | 268 => 306 | 138 => 307 | 143 => 308 | 195 => 321 | 197 => 322 | 218 => 323 | 219 => 247 | 260 => 337 | 217 => 293 | 225 => 294 | 224 => 295 | 267 => 296 | 266 => 310 | 314 => 311 | n => n, fun | 9 => 9 | 31 => 33 | 3 => 3 | 4 => 4 | 0 => 0 | 105 => 351 | 21 => 21 | 5 => 5 | 46 => 100 | 119 => 369 | 139 => 372 | 138 => 371 | 146 => 342 | 51 => 130 | n => n, fun | 1 => 1 | 3 => 5 | 4 => 6 | n => n⟩
theorem Tryz.lsplit : Go.Proofs.Lays.n146 Tryz.prog Tryz.lsplit_ren := {
  mixed := by kernel_rfl
  f138 := Tryz.func307.trans (congrArg some (by kernel_rfl))
  f143 := Tryz.func308.trans (congrArg some (by kernel_rfl))
  f146 := Tryz.func231.trans (congrArg some (by kernel_rfl))
  f195 := Tryz.func321.trans (congrArg some (by kernel_rfl))
  f197 := Tryz.func322.trans (congrArg some (by kernel_rfl))
  f217 := Tryz.func293.trans (congrArg some (by kernel_rfl))
  f218 := Tryz.func323.trans (congrArg some (by kernel_rfl))
  f219 := Tryz.func247.trans (congrArg some (by kernel_rfl))
  f221 := Tryz.func284.trans (congrArg some (by kernel_rfl))
  f224 := Tryz.func295.trans (congrArg some (by kernel_rfl))
  f225 := Tryz.func294.trans (congrArg some (by kernel_rfl))
  f260 := Tryz.func337.trans (congrArg some (by kernel_rfl))
  f266 := Tryz.func310.trans (congrArg some (by kernel_rfl))
  f267 := Tryz.func296.trans (congrArg some (by kernel_rfl))
  f268 := Tryz.func306.trans (congrArg some (by kernel_rfl))
  f314 := Tryz.func311.trans (congrArg some (by kernel_rfl))
  t0 := Tryz.underlying0
  a0 := Tryz.isAgg0
  z0 := Tryz.sizeOf0
  v0 := Tryz.zeroValue0
  t3 := Tryz.underlying3
  a3 := Tryz.isAgg3
  z3 := Tryz.sizeOf3
  v3 := Tryz.zeroValue3
  t4 := Tryz.underlying4
  a4 := Tryz.isAgg4
  z4 := Tryz.sizeOf4
  v4 := Tryz.zeroValue4
  t5 := Tryz.underlying5
  a5 := Tryz.isAgg5
  z5 := Tryz.sizeOf5
  v5 := Tryz.zeroValue5
  t9 := Tryz.underlying9
  a9 := Tryz.isAgg9
  z9 := Tryz.sizeOf9
  v9 := Tryz.zeroValue9
  t21 := Tryz.underlying21
  a21 := Tryz.isAgg21
  z21 := Tryz.sizeOf21
  v21 := Tryz.zeroValue21
  t31 := Tryz.underlying33
  a31 := Tryz.isAgg33
  z31 := Tryz.sizeOf33
  v31 := Tryz.zeroValue33
  t46 := Tryz.underlying100
  a46 := Tryz.isAgg100
  z46 := Tryz.sizeOf100
  v46 := Tryz.zeroValue100
  t51 := Tryz.underlying130
  a51 := Tryz.isAgg130
  z51 := Tryz.sizeOf130
  v51 := Tryz.zeroValue130
  t105 := Tryz.underlying351
  a105 := Tryz.isAgg351
  z105 := Tryz.sizeOf351
  v105 := Tryz.zeroValue351
  t119 := Tryz.underlying369
  a119 := Tryz.isAgg369
  z119 := Tryz.sizeOf369
  t138 := Tryz.underlying371
  a138 := Tryz.isAgg371
  z138 := Tryz.sizeOf371
  v138 := Tryz.zeroValue371
  t139 := Tryz.underlying372
  a139 := Tryz.isAgg372
  z139 := Tryz.sizeOf372
  v139 := Tryz.zeroValue372
  t146 := Tryz.underlying342
  a146 := Tryz.isAgg342
  z146 := Tryz.sizeOf342
  v146 := Tryz.zeroValue342
  g1 := by kernel_rfl
  g3 := by kernel_rfl
  g4 := by kernel_rfl }
end Go.Proofs
namespace Go.Proofs.YtiapkffihpgdcaaGreatDoor
open Go.RowKit
theorem rmenusR_any (t : Tm) (c : Cy) (A1 A2 : Option Addr) (c1 c2 : Nat) (w : World) (h1 : RN w A1 t.rest) (h2 : RN w A2 t.clo) (hok : TmOk t) (hcy : CyOk c) :
  Calls Tryz.prog 200 #[.agg #[.int .i64 t.len, .slice A1 t.rest.length c1, .slice A2 t.clo.length c2], .agg #[.int .i64 c.n, .int .i64 c.f, .int .i64 c.k]] w fun e w' => ∃ A c', e = .returned (.slice A (mnL t c).length c') ∧ RN w' A (mnL t c) ∧ Below w.heap.size w w' :=
 (rmenus_any t c A1 A2 c1 c2 w h1 h2 hok hcy).mono fun e w' ⟨A, n, c', he, hn, own, hb⟩ => ⟨A, c', by rw [← hn]; exact he, RN.of_own own, hb⟩
end Go.Proofs.YtiapkffihpgdcaaGreatDoor
