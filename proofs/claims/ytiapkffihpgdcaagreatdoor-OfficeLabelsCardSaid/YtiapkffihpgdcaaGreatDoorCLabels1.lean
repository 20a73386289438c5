/-
  OfficeLabels: for every firm and every list of orders the law returns true, panics nowhere and leaves its arguments as they were: the label of each dish is that of its item, the meal of each school day that of its menu. On the tied card. No condition beyond the card.
-/
import Derived.Test.YtiapkffihpgdcaaGreatDoorQA1
import Derived.Test.YtiapkffihpgdcaaGreatDoorQA2
import Derived.Test.YtiapkffihpgdcaaGreatDoorQA3
import Derived.Test.YtiapkffihpgdcaaGreatDoorQA4
import Derived.Test.YtiapkffihpgdcaaGreatDoorQA5
import Derived.Test.YtiapkffihpgdcaaGreatDoorQA6
import Derived.Test.YtiapkffihpgdcaaGreatDoorQA7
import Derived.Test.YtiapkffihpgdcaaGreatDoorQA8
import Derived.Test.YtiapkffihpgdcaaGreatDoorQA9
import Derived.Test.YtiapkffihpgdcaaGreatDoorQA10
import Derived.Test.YtiapkffihpgdcaaGreatDoorQA11
import Derived.Test.YtiapkffihpgdcaaGreatDoorQA12
import Derived.Test.YtiapkffihpgdcaaGreatDoorQA13
import Derived.Test.YtiapkffihpgdcaaGreatDoorQA14
import Derived.Test.YtiapkffihpgdcaaGreatDoorQA15
import Derived.Test.YtiapkffihpgdcaaGreatDoorQA16
import Derived.Test.YtiapkffihpgdcaaGreatDoorQA17
import Derived.Test.YtiapkffihpgdcaaGreatDoorQA18
import Derived.Test.YtiapkffihpgdcaaGreatDoorQA19
import Derived.Test.YtiapkffihpgdcaaGreatDoorQA20
import Derived.Test.YtiapkffihpgdcaaGreatDoorQA21
import Derived.Test.YtiapkffihpgdcaaGreatDoorQA22
import Derived.Test.YtiapkffihpgdcaaGreatDoorQA23
import Derived.Test.YtiapkffihpgdcaaGreatDoorQA24
import Derived.Test.YtiapkffihpgdcaaGreatDoorQA25
import Derived.Test.YtiapkffihpgdcaaGreatDoorQA26
import Derived.Test.YtiapkffihpgdcaaGreatDoorQA27
import Derived.Test.YtiapkffihpgdcaaGreatDoorQA28
import Derived.Test.YtiapkffihpgdcaaGreatDoorQA29
import Derived.Test.YtiapkffihpgdcaaGreatDoorQA30
import Derived.Test.YtiapkffihpgdcaaGreatDoorQA31
import Derived.Test.YtiapkffihpgdcaaGreatDoorQA32
import Derived.IntWalk
import Derived.ScopeJumps
import Derived.WalkMore
import Derived.StillTailTactics
import Derived.Lib.QuietBelow
import Derived.BigRegion
import Derived.Test.YtiapkffihpgdcaaGreatDoorTie
import Derived.Test.YtiapkffihpgdcaaGreatDoorCards
import Derived.SevenTiedAt
import Derived.ChangeMaps5
set_option linter.unusedVariables false
set_option linter.unusedSimpArgs false
set_option maxRecDepth 100000
namespace Go.Proofs.YtiapkffihpgdcaaGreatDoor
open Go.RowKit
set_option maxHeartbeats 3200000 in
theorem pre_OfficeLabels {f : Fi} {w : World} (hf : f.In w) (hE : EnvA w) (l : List Wd) (A : Option Addr) (c : Nat) (hR : RS w A l) (hll : l.length ≤ 9223372036854775807) (h : lrg f.t f.b = true ∨ (lrg f.t f.b = false ∧ lng l = true) ∨ (lrg f.t f.b = false ∧ lng l = false ∧ f.e ≠ 0)) :
  Calls Tryz.prog 9 #[.agg f.cells, .slice A l.length c] w fun e w' => e = .returned (.bool true) ∧ Below w.heap.size w w' := by
 unfold Fi.cells
 obtain ⟨w2, hw2⟩ : ∃ w2, w.alloc (.cells #[.int .i64 f.t.len, .slice f.A1 f.t.rest.length f.c1, .slice f.A2 f.t.clo.length f.c2, .int .i64 f.c.n, .int .i64 f.c.f, .int .i64 f.c.k, .int .i64 f.b.props, .slice f.B1 f.b.items.length f.d1, .slice f.B2 f.b.rules.length f.d2] 32) = w2 := ⟨_, rfl⟩
 have hy : Below w.heap.size w w2 := by rw [← hw2]; exact (Below.refl _ w).alloc (Nat.le_refl _) _
 have b0 : Box w2 w.heap.size #[.int .i64 f.t.len, .slice f.A1 f.t.rest.length f.c1, .slice f.A2 f.t.clo.length f.c2, .int .i64 f.c.n, .int .i64 f.c.f, .int .i64 f.c.k, .int .i64 f.b.props, .slice f.B1 f.b.items.length f.d1, .slice f.B2 f.b.rules.length f.d2] := by rw [← hw2]; exact Box.new w _ _
 have HL := Lib.hid (large_any f.t f.c f.b (fun _ => True) f.A1 f.A2 f.B1 f.B2 f.c1 f.c2 f.d1 f.d2 f.hp f.hq f.hr w2 (hf.below hy).bk)
 have HO := Lib.hid (fun (w' : World) (hb : Below w2.heap.size w2 w') => olong_any l A c w' hll ((hR.below hy).below hb))
 have x0 := b0.cell 0; have x1 := b0.cell 1; have x2 := b0.cell 2; have x3 := b0.cell 3; have x4 := b0.cell 4; have x5 := b0.cell 5; have x6 := b0.cell 6; have x7 := b0.cell 7; have x8 := b0.cell 8; simp only [List.getElem?_toArray, List.getElem?_cons_zero, List.getElem?_cons_succ] at x0 x1 x2 x3 x4 x5 x6 x7 x8
 rcases h with h | ⟨h, h'⟩ | ⟨h, h', hz⟩
 ·rw [h] at HL
  go_enter Tryz.func9, Tryz.ntmps9
  go_wp2_with (first | (go_at_call 34; (with_reducible refine HL.out.mono ?_); rintro e w3 ⟨rfl, hb3⟩; have b3 := b0.below hb3; have hy3 := hy.trans (hb3.mono hy.size); have y0 := b3.cell 0; have y1 := b3.cell 1; have y2 := b3.cell 2; have y3 := b3.cell 3; have y4 := b3.cell 4; have y5 := b3.cell 5; have y6 := b3.cell 6; have y7 := b3.cell 7; have y8 := b3.cell 8; simp only [List.getElem?_toArray, List.getElem?_cons_zero, List.getElem?_cons_succ] at y0 y1 y2 y3 y4 y5 y6 y7 y8) | (go_at_call 31; (with_reducible refine (oknown_any (hE.below hy3)).mono ?_); rintro e wk ⟨rfl, hbk⟩))
  go_ret
  exact ⟨rfl, hy3.trans (hbk.mono hy3.size)⟩
 ·rw [h] at HL
  rw [h'] at HO
  go_enter Tryz.func9, Tryz.ntmps9
  go_wp2_with (first | (go_at_call 34; (with_reducible refine HL.out.mono ?_); rintro e w3 ⟨rfl, hb3⟩; have b3 := b0.below hb3; have hy3 := hy.trans (hb3.mono hy.size); have y0 := b3.cell 0; have y1 := b3.cell 1; have y2 := b3.cell 2; have y3 := b3.cell 3; have y4 := b3.cell 4; have y5 := b3.cell 5; have y6 := b3.cell 6; have y7 := b3.cell 7; have y8 := b3.cell 8; simp only [List.getElem?_toArray, List.getElem?_cons_zero, List.getElem?_cons_succ] at y0 y1 y2 y3 y4 y5 y6 y7 y8) | (go_at_call 35; (with_reducible refine (HO.out _ hb3).mono ?_); rintro e w4 ⟨rfl, hb4⟩; have b4 := b3.below hb4; have hy4 := hy3.trans (hb4.mono hy3.size); have z0 := b4.cell 0; have z1 := b4.cell 1; have z2 := b4.cell 2; have z3 := b4.cell 3; have z4 := b4.cell 4; have z5 := b4.cell 5; have z6 := b4.cell 6; have z7 := b4.cell 7; have z8 := b4.cell 8; simp only [List.getElem?_toArray, List.getElem?_cons_zero, List.getElem?_cons_succ] at z0 z1 z2 z3 z4 z5 z6 z7 z8) | (go_at_call 31; (with_reducible refine (oknown_any (hE.below hy4)).mono ?_); rintro e wk ⟨rfl, hbk⟩))
  go_ret
  exact ⟨rfl, hy4.trans (hbk.mono hy4.size)⟩
 ·rw [h] at HL
  rw [h'] at HO
  have hlen := lrg_len h
  have HB := Lib.hid (fun (w' : World) (hb : Below w.heap.size w w') => begin_bad (hf.below hb) hlen (hE.below hb) hz)
  have HF := Lib.hid (fun (w' : World) (hb : Below w.heap.size w w') => failed_any (hf.below hb) hlen (hE.below hb) hz)
  unfold Fi.cells at HB HF
  clear hz h h'
  go_enter Tryz.func9, Tryz.ntmps9
  go_wp2_with (first
   | (go_at_call 34; (with_reducible refine HL.out.mono ?_); rintro e w3 ⟨rfl, hb3⟩; have b3 := b0.below hb3; have hy3 := hy.trans (hb3.mono hy.size); have y0 := b3.cell 0; have y1 := b3.cell 1; have y2 := b3.cell 2; have y3 := b3.cell 3; have y4 := b3.cell 4; have y5 := b3.cell 5; have y6 := b3.cell 6; have y7 := b3.cell 7; have y8 := b3.cell 8; simp only [List.getElem?_toArray, List.getElem?_cons_zero, List.getElem?_cons_succ] at y0 y1 y2 y3 y4 y5 y6 y7 y8)
   | (go_at_call 35; (with_reducible refine (HO.out _ hb3).mono ?_); rintro e w4 ⟨rfl, hb4⟩; have b4 := b3.below hb4; have hy4 := hy3.trans (hb4.mono hy3.size); have z0 := b4.cell 0; have z1 := b4.cell 1; have z2 := b4.cell 2; have z3 := b4.cell 3; have z4 := b4.cell 4; have z5 := b4.cell 5; have z6 := b4.cell 6; have z7 := b4.cell 7; have z8 := b4.cell 8; simp only [List.getElem?_toArray, List.getElem?_cons_zero, List.getElem?_cons_succ] at z0 z1 z2 z3 z4 z5 z6 z7 z8)
   | (go_at_call 36; (with_reducible refine (HB.out _ hy4).mono ?_); rintro e w5 ⟨rfl, hb5⟩; have b5 := b4.below hb5; have hy5 := hy4.trans (hb5.mono hy4.size); have v0 := b5.cell 0; have v1 := b5.cell 1; have v2 := b5.cell 2; have v3 := b5.cell 3; have v4 := b5.cell 4; have v5 := b5.cell 5; have v6 := b5.cell 6; have v7 := b5.cell 7; have v8 := b5.cell 8; simp only [List.getElem?_toArray, List.getElem?_cons_zero, List.getElem?_cons_succ] at v0 v1 v2 v3 v4 v5 v6 v7 v8)
   | (go_at_call 37; (with_reducible refine (HF.out _ hy5).mono ?_); rintro e w6 ⟨rfl, hb6⟩))
  go_ret
  exact ⟨rfl, hy5.trans (hb6.mono hy5.size)⟩
set_option maxHeartbeats 3200000 in
theorem main_OfficeLabels {f : Fi} {w : World} (hf : f.In w) (hE : EnvA w) (l : List Wd) (A : Option Addr) (c : Nat) (hR : RS w A l) (hll : l.length ≤ 9223372036854775807) (h : lrg f.t f.b = false) (h' : lng l = false) (hz : f.e = 0) :
  Calls Tryz.prog 9 #[.agg f.cells, .slice A l.length c] w fun e w' => e = .returned (.bool true) ∧ Below w.heap.size w w' := by
 unfold Fi.cells
 obtain ⟨w2, hw2⟩ : ∃ w2, w.alloc (.cells #[.int .i64 f.t.len, .slice f.A1 f.t.rest.length f.c1, .slice f.A2 f.t.clo.length f.c2, .int .i64 f.c.n, .int .i64 f.c.f, .int .i64 f.c.k, .int .i64 f.b.props, .slice f.B1 f.b.items.length f.d1, .slice f.B2 f.b.rules.length f.d2] 32) = w2 := ⟨_, rfl⟩
 have hy : Below w.heap.size w w2 := by rw [← hw2]; exact (Below.refl _ w).alloc (Nat.le_refl _) _
 have b0 : Box w2 w.heap.size #[.int .i64 f.t.len, .slice f.A1 f.t.rest.length f.c1, .slice f.A2 f.t.clo.length f.c2, .int .i64 f.c.n, .int .i64 f.c.f, .int .i64 f.c.k, .int .i64 f.b.props, .slice f.B1 f.b.items.length f.d1, .slice f.B2 f.b.rules.length f.d2] := by rw [← hw2]; exact Box.new w _ _
 have HL := Lib.hid (large_any f.t f.c f.b (fun _ => True) f.A1 f.A2 f.B1 f.B2 f.c1 f.c2 f.d1 f.d2 f.hp f.hq f.hr w2 (hf.below hy).bk)
 have HO := Lib.hid (fun (w' : World) (hb : Below w2.heap.size w2 w') => olong_any l A c w' hll ((hR.below hy).below hb))
 have x0 := b0.cell 0; have x1 := b0.cell 1; have x2 := b0.cell 2; have x3 := b0.cell 3; have x4 := b0.cell 4; have x5 := b0.cell 5; have x6 := b0.cell 6; have x7 := b0.cell 7; have x8 := b0.cell 8; simp only [List.getElem?_toArray, List.getElem?_cons_zero, List.getElem?_cons_succ] at x0 x1 x2 x3 x4 x5 x6 x7 x8
 rw [h] at HL
 rw [h'] at HO
 have hlen := lrg_len h
 have htlen := lrg_tlen h hz
 obtain ⟨hl3, hlw⟩ := lng_no h'
 have HLW := Lib.hid hlw
 have HB := Lib.hid (fun (w' : World) (hb : Below w.heap.size w w') => begin_ok (hf.below hb) hlen (hE.below hb) hz)
 unfold Fi.cells at HB
 obtain ⟨m, hm⟩ : ∃ m, m = min l.length 30 := ⟨_, rfl⟩
 have hm1 : m ≤ l.length ∧ m ≤ 30 := by omega
 have hm2 : m = l.length ∨ (m = 30 ∧ 30 < l.length) := by omega
 have HM := Lib.hid hm2
 have hso := OfOk.new hz
 clear hz h h' hlw hm hm2
 have hsu := DhU.new f.t f.c f.b
 go_enter Tryz.func9, Tryz.ntmps9
 go_wp2_with (first
  | (go_at_call 34; (with_reducible refine HL.out.mono ?_); rintro e w3 ⟨rfl, hb3⟩; have b3 := b0.below hb3; have hy3 := hy.trans (hb3.mono hy.size); have y0 := b3.cell 0; have y1 := b3.cell 1; have y2 := b3.cell 2; have y3 := b3.cell 3; have y4 := b3.cell 4; have y5 := b3.cell 5; have y6 := b3.cell 6; have y7 := b3.cell 7; have y8 := b3.cell 8; simp only [List.getElem?_toArray, List.getElem?_cons_zero, List.getElem?_cons_succ] at y0 y1 y2 y3 y4 y5 y6 y7 y8)
  | (go_at_call 35; (with_reducible refine (HO.out _ hb3).mono ?_); rintro e w4 ⟨rfl, hb4⟩; have b4 := b3.below hb4; have hy4 := hy3.trans (hb4.mono hy3.size); have z0 := b4.cell 0; have z1 := b4.cell 1; have z2 := b4.cell 2; have z3 := b4.cell 3; have z4 := b4.cell 4; have z5 := b4.cell 5; have z6 := b4.cell 6; have z7 := b4.cell 7; have z8 := b4.cell 8; simp only [List.getElem?_toArray, List.getElem?_cons_zero, List.getElem?_cons_succ] at z0 z1 z2 z3 z4 z5 z6 z7 z8)
  | (go_at_call 36; (with_reducible refine (HB.out _ hy4).mono ?_); rintro e w5 ⟨g, x, rfl, hd⟩))
 clear hw2 HL HO HB x0 x1 x2 x3 x4 x5 x6 x7 x8 y0 y1 y2 y3 y4 y5 y6 y7 y8 z0 z1 z2 z3 z4 z5 z6 z7 z8
 have hkn := hd.kn
 clear hd
 go_loopw [8] (fun v wr => ∃ k : Nat, k ≤ m ∧ v = .int .i64 k ∧ KN w4 k (fun _ => False) g (runTo f.s0 l k) wr) (fun v _ => m - (intOf v).toNat)
 case atStart => exact ⟨0, by omega, rfl, by rw [runTo_zero]; exact hkn⟩
 case round =>
  clear hkn
  obtain ⟨k, hk, rfl, hkn⟩ := hrel
  by_cases hlt : k < m
  ·obtain ⟨ad, rfl, hab, c0⟩ := (hR.below hy4).at_ (k := k) (by omega)
   have htl := HLW.out k (by omega)
   have hrt := runTo_succ f.s0 l (k := k) (by omega)
   rw [nil_getD (by omega)] at htl hrt
   obtain ⟨tx, htx⟩ : ∃ tx, tx = l[k]'(by omega) := ⟨_, rfl⟩
   rw [← htx] at c0 htl hrt
   obtain ⟨sk, hsk⟩ : ∃ sk, sk = runTo f.s0 l k := ⟨_, rfl⟩
   rw [← hsk] at hkn hrt
   have HRT := Lib.hid hrt
   have HSK := Lib.hid hsk
   clear htx hsk hrt
   have q0 := (hkn.at_.cell (by exact hab)).trans c0
   have HD := Lib.hid (hkn.do_ (by omega) tx (by omega))
   go_wp2_with (go_at_call 25; (with_reducible refine HD.out.mono ?_); rintro e w6 ⟨rfl, hk6, _⟩)
   rw [← HRT.out] at hk6
   go_roundw
   case rel => exact ⟨k + 1, by omega, by go_num, hk6⟩
   case measure => simp [intOf]; omega
  ·obtain rfl : k = m := by omega
   have hkn' := hkn
   obtain ⟨F, h, hP, hEo, hyo, _, _⟩ := hkn'
   obtain ⟨e1, e2, e3⟩ := runTo_same f.s0 l k
   have hok : OfOk (runTo f.s0 l k) := runS_ok _ _ hso
   have hun : DhU (runTo f.s0 l k) := runS_dhu _ _ hsu
   obtain ⟨S, hS⟩ : ∃ S, S = runTo f.s0 l k := ⟨_, rfl⟩
   rw [← hS] at hP hok hun e1 e2 e3
   obtain ⟨dn, hdn⟩ : ∃ dn : Nat, f.t.len = dn := ⟨f.t.len.toNat, by omega⟩
   have hdn1 : dn ≤ 120 := by omega
   have hd1 : S.dishes.length ≤ 40 := by have := hok.dl; have := hok.cy.n2; omega
   have hyw := hy4.trans (hyo.mono hy4.size)
   have bo := b4.keep hyo b4.lt
   have HDN := Lib.hid hdn
   have HBO := Lib.hid bo
   have H1 := Lib.hid (show S.tm = f.t from e1); have H2 := Lib.hid (show S.cy = f.c from e2); have H3 := Lib.hid (show S.bk = f.b from e3)
   have HDS := Lib.hid (oDishes_any hP)
   clear hS hdn e1 e2 e3 hso hkn hsu
   have htx : k < l.length ∨ ¬ k < l.length := Decidable.em _
   obtain ⟨wo, rfl⟩ : ∃ wo : World, wo = wr := ⟨_, rfl⟩
   rcases htx with hc | hc
   all_goals
    (try (have h30 : 30 ≤ k := by have := HM.out; omega))
    go_wp2_with (go_at_call 47; (with_reducible refine HDS.out.mono ?_); rintro e wd ⟨DA, Dc, rfl, rdD, bd⟩)
    clear hc
    have rD : RDh (fun _ => True) wd DA S.dishes := R2.mono (F := fun k => wo.heap.size ≤ k) rdD fun _ _ => trivial
    have hPd := hP.below bd
    have hEd := hEo.below bd
    have hyd := hyw.trans (bd.mono hyw.size)
    have HBD := Lib.hid (HBO.out.below bd)
    clear rdD
    go_loopw [10] (fun v wr => ∃ i : Nat, i ≤ S.dishes.length ∧ v = .int .i64 i ∧ Below wd.heap.size wd wr) (fun v _ => S.dishes.length - (intOf v).toNat)
    case atStart => exact ⟨0, by omega, rfl, Below.refl _ _⟩
    case round =>
     obtain ⟨i, hi, rfl, hb⟩ := hrel
     by_cases hlt : i < S.dishes.length
     ·have hPr := hPd.below hb
      obtain ⟨ad, rfl, hab, u0, u1⟩ := RDh.at_ (R2.below rD hb) hlt
      obtain ⟨g1, g2, g3⟩ := label_at hok hun hlt
      have hlc := oLabel_any hPr ((hEd.below hb).z) (gd S.dishes i).name
      rw [g1, g2, H3.out] at hlc
      rw [H3.out] at g3
      obtain ⟨nm, hnm⟩ : ∃ nm, nm = (gd S.dishes i).name := ⟨_, rfl⟩
      obtain ⟨IT, hIT⟩ : ∃ IT, IT = (gd S.dishes i).item := ⟨_, rfl⟩
      rw [← hIT] at hlc u1 g3
      rw [← hnm] at hlc u0
      obtain ⟨LB, hLB⟩ : ∃ LB, LB = labR f.b IT := ⟨_, rfl⟩
      have hll : LB.length ≤ 20 := by
       rw [hLB]; unfold labR; rw [if_pos g3]; exact bitsL_len _
      have hyr := hyd.trans (hb.mono hyd.size)
      have hdl := fun (w' : World) (hbb : Below wr.heap.size wr w') => Label_any f.b hlen.bk IT _ f.B1 f.B2 f.d1 f.d2 f.hp f.hq f.hr w' ((hEd.below (hb.trans (hbb.mono hb.size))).z) (((hf.below hyr).bk).below hbb)
      have hdl2 : ∀ w', Below wr.heap.size wr w' → Calls Tryz.prog 48 #[.agg #[.int .i64 f.b.props, .slice f.B1 f.b.items.length f.d1, .slice f.B2 f.b.rules.length f.d2], .int .i64 IT] w' fun e w'' => ∃ A' c', e = .returned (.tuple #[.slice A' LB.length c', .int .i64 0]) ∧ OwnN w'' w'.heap.size A' c' LB ∧ Below w'.heap.size w' w'' := fun w' hbb => by
       have := hdl w' hbb
       rw [g3, ← hLB] at this
       exact this
      rw [← hLB] at hlc
      have HLC := Lib.hid hlc
      have HDL := Lib.hid hdl2
      have U1 := Lib.hid u1
      have br := HBD.out.below hb
      clear hlc hdl hdl2 g1 g2 g3 hnm hIT hLB
      go_wp2_with (go_at_call 41; (with_reducible refine HLC.out.mono ?_); rintro e w6 ⟨LA, Lc, rfl, rdL, b6⟩)
      have s6 := (br.below b6).cell 6; have s7 := (br.below b6).cell 7; have s8 := (br.below b6).cell 8
      simp only [List.getElem?_toArray, List.getElem?_cons_zero, List.getElem?_cons_succ] at s6 s7 s8
      have u6 := (b6.cell (by exact hab)).trans U1.out
      have hwl := br.lt
      have S6 := Lib.hid s6; have S7 := Lib.hid s7; have S8 := Lib.hid s8; have U6 := Lib.hid u6
      have hwl6 : w.heap.size < w6.heap.size := Nat.lt_of_lt_of_le hwl b6.size
      have hab6 : (ad.add (i * 2)).block < w6.heap.size := Nat.lt_of_lt_of_le hab b6.size
      clear u0 u1
      go_wp2_with fail
      go_region_held3 (fun w' => w'.cell? ⟨w.heap.size, 6, none⟩ = some (.int .i64 f.b.props) ∧ w'.cell? ⟨w.heap.size, 7, none⟩ = some (.slice f.B1 f.b.items.length f.d1) ∧ w'.cell? ⟨w.heap.size, 8, none⟩ = some (.slice f.B2 f.b.rules.length f.d2) ∧ w'.cell? ⟨(ad.add (i * 2)).block, (ad.add (i * 2)).off + 1, none⟩ = some (.int .i64 IT))
       (first | exact ⟨k6, k7, k8, k1⟩ | exact ⟨s6, s7, s8, u6⟩)
       (first
        | (go_at_call 48; (with_reducible refine (HDL.out _ (b6.trans ((Below.refl w6.heap.size w6).drew.mono b6.size))).mono ?_); rintro e w7 ⟨MA, Mc, rfl, ownL, b7⟩; have b67 := (Below.refl w6.heap.size w6).drew.trans b7; have k6 := (b67.cell (p := ⟨w.heap.size, 6, none⟩) hwl6).trans S6.out; have k7 := (b67.cell (p := ⟨w.heap.size, 7, none⟩) hwl6).trans S7.out; have k8 := (b67.cell (p := ⟨w.heap.size, 8, none⟩) hwl6).trans S8.out; have k1 := (b67.cell (by exact hab6)).trans U6.out))
      have c7 := b6.trans (b67.mono b6.size)
      have hsi := osameInts_any LB LB LA MA Lc Mc w7 ((RNF.rn rdL).below b67) (RN.of_own ownL) (by omega) (by omega)
      rw [show decide (LB = LB) = true from by simp] at hsi
      have HSI := Lib.hid hsi
      clear s6 s7 s8 u6 k6 k7 k8 k1 hsi
      go_wp2_with (go_at_call 43; (with_reducible refine HSI.out.mono ?_); rintro e w8 ⟨rfl, b8⟩)
      go_roundw
      case rel => exact ⟨i + 1, by omega, by go_num, hb.trans ((c7.trans (b8.mono c7.size)).mono hb.size)⟩
      case measure => simp [intOf]; omega
     ·obtain rfl : i = S.dishes.length := by omega
      go_wp2_with fail
      obtain ⟨we, rfl⟩ : ∃ we : World, we = wr := ⟨_, rfl⟩
      have hbE : bE f.t f.c = 0 := by unfold bE; rw [← H1.out, ← H2.out, if_neg (by rw [hok.tm.to]; decide)]; exact hok.cy.to
      have HBE := Lib.hid hbE
      clear hbE
      go_loopw [15] (fun v wr => ∃ d : Nat, d ≤ dn ∧ v = .int .i64 d ∧ Below wd.heap.size wd wr) (fun v _ => dn - (intOf v).toNat)
      case atStart => exact ⟨0, by omega, rfl, hb⟩
      case round =>
       clear hb
       obtain ⟨d, hd, rfl, hb⟩ := hrel
       have br := HBD.out.below hb
       have t0 := br.cell 0
       simp only [List.getElem?_toArray, List.getElem?_cons_zero, List.getElem?_cons_succ] at t0
       have hyr := hyd.trans (hb.mono hyd.size)
       by_cases hlt : d < dn
       ·have hT : decide ((d : Int) < f.t.len) = true := by rw [decide_eq_true_eq, HDN.out]; omega
        have hPr := hPd.below hb
        have hm1 := oMeal_any hPr (d : Int)
        have hm2 := fun (w' : World) (hbb : Below wr.heap.size wr w') => menu_any f.c (d : Int) f.t f.A1 f.A2 f.c1 f.c2 w' (((hf.below hyr).below hbb).rest) (((hf.below hyr).below hbb).clo) (by have := hlen.rest; omega) (by have := hlen.clo; omega)
        have hib : inB (d : Int) 0 (f.t.len - 1) = true := inB_true.2 ⟨by omega, by rw [HDN.out]; omega⟩
        cases hop : opB f.t d with
        | false =>
         have q1 : menuE f.t f.c d = 13 := menuE_shut HBE.out hib (by simpa using hop)
         obtain ⟨g1, g2⟩ := mel_shut (o := S) (d := d) (by rw [H1.out, H2.out]; exact q1)
         rw [g1, g2] at hm1
         simp only [q1] at hm2
         have HM1 := Lib.hid hm1; have HM2 := Lib.hid hm2
         clear g1 g2
         clear hm1 hm2 q1 hop hib
         go_wp2_with (first
          | (go_at_call 49; (with_reducible refine HM1.out.mono ?_); rintro e w6 ⟨rfl, b6⟩; have b6b := br.below b6; have s0 := b6b.cell 0; have s1 := b6b.cell 1; have s2 := b6b.cell 2; have s3 := b6b.cell 3; have s4 := b6b.cell 4; have s5 := b6b.cell 5; simp only [List.getElem?_toArray, List.getElem?_cons_zero, List.getElem?_cons_succ] at s0 s1 s2 s3 s4 s5)
          | (go_at_call 50; (with_reducible refine (HM2.out _ b6).mono ?_); rintro e w7 ⟨rfl, b7⟩))
         go_roundw
         case rel => exact ⟨d + 1, by omega, by go_num, hb.trans ((b6.trans (b7.mono b6.size)).mono hb.size)⟩
         case measure => simp [intOf]; omega
        | true =>
         have q1 : menuE f.t f.c d = 0 := menuE_open HBE.out hib (by simpa using hop)
         have q2 : menuR f.t f.c d = mnAt f.t f.c d := by rw [menuR_yes q1]; simp
         have hm0 : 0 ≤ mnAt f.t f.c d := (mnAt_nonneg (by rw [← H2.out]; exact hok.cy) d).2 hop
         obtain ⟨m, hm⟩ : ∃ m : Nat, mnAt f.t f.c d = m := ⟨(mnAt f.t f.c d).toNat, by omega⟩
         have hm40 : m < 40 := by have h1 := mnAt_bd (t := f.t) (by rw [← H2.out]; exact hok.cy : CyOk f.c) d; have h2 := hok.cy.n2; rw [H2.out] at h2; omega
         rw [hm] at q2
         simp only [q1, q2] at hm2
         have HM2 := Lib.hid hm2
         by_cases hml : m < S.dishes.length
         ·obtain ⟨g1, g2⟩ := mel_in (o := S) (d := d) (m := m) (by rw [H1.out, H2.out]; exact q1) (by rw [H1.out, H2.out]; exact q2) hml
          rw [g1, g2] at hm1
          clear g1 g2
          obtain ⟨NM, hNM⟩ : ∃ NM, NM = (gd S.dishes m).name := ⟨_, rfl⟩
          rw [← hNM] at hm1
          have HM1 := Lib.hid hm1
          have hget := fun (w' : World) (hbb : Below wd.heap.size wd w') => RDh.at_ (R2.below rD hbb) hml
          rw [← hNM] at hget
          have HG := Lib.hid hget
          clear hm1 hm2 q1 q2 hop hib hm hm0 hNM hget
          go_wp2_with (first
           | (go_at_call 49; (with_reducible refine HM1.out.mono ?_); rintro e w6 ⟨rfl, b6⟩; have b6b := br.below b6; have s0 := b6b.cell 0; have s1 := b6b.cell 1; have s2 := b6b.cell 2; have s3 := b6b.cell 3; have s4 := b6b.cell 4; have s5 := b6b.cell 5; simp only [List.getElem?_toArray, List.getElem?_cons_zero, List.getElem?_cons_succ] at s0 s1 s2 s3 s4 s5)
           | (go_at_call 50; (with_reducible refine (HM2.out _ b6).mono ?_); rintro e w7 ⟨rfl, b7⟩; have c7 := hb.trans ((b6.trans (b7.mono b6.size)).mono hb.size); obtain ⟨ad, rfl, hab, n0, _⟩ := HG.out _ c7))
          go_roundw
          case rel => exact ⟨d + 1, by omega, by go_num, c7⟩
          case measure => simp [intOf]; omega
         ·obtain ⟨g1, g2⟩ := mel_out (o := S) (d := d) (m := m) (by rw [H1.out, H2.out]; exact q1) (by rw [H1.out, H2.out]; exact q2) (by omega)
          rw [g1, g2] at hm1
          clear g1 g2
          have HM1 := Lib.hid hm1
          clear hm1 hm2 q1 q2 hop hib hm hm0
          go_wp2_with (first
           | (go_at_call 49; (with_reducible refine HM1.out.mono ?_); rintro e w6 ⟨rfl, b6⟩; have b6b := br.below b6; have s0 := b6b.cell 0; have s1 := b6b.cell 1; have s2 := b6b.cell 2; have s3 := b6b.cell 3; have s4 := b6b.cell 4; have s5 := b6b.cell 5; simp only [List.getElem?_toArray, List.getElem?_cons_zero, List.getElem?_cons_succ] at s0 s1 s2 s3 s4 s5)
           | (go_at_call 50; (with_reducible refine (HM2.out _ b6).mono ?_); rintro e w7 ⟨rfl, b7⟩; have c7 := hb.trans ((b6.trans (b7.mono b6.size)).mono hb.size)))
          go_roundw
          case rel => exact ⟨d + 1, by omega, by go_num, c7⟩
          case measure => simp [intOf]; omega
       ·have hT : decide ((d : Int) < f.t.len) = false := by rw [decide_eq_false_iff_not, HDN.out]; omega
        go_wp2_with (go_at_call 31; (with_reducible refine (oknown_any (hE.below hyr)).mono ?_); rintro e wk ⟨rfl, hbk⟩)
        go_ret
        exact ⟨rfl, hyr.trans (hbk.mono hyr.size)⟩
theorem officeLabels_any {f : Fi} {w : World} (hf : f.In w) (hE : EnvA w) (l : List Wd) (A : Option Addr) (c : Nat) (hR : RS w A l) (hll : l.length ≤ 9223372036854775807) :
  Calls Tryz.prog 9 #[.agg f.cells, .slice A l.length c] w fun e w' => e = .returned (.bool true) ∧ Below w.heap.size w w' := by
 cases h : lrg f.t f.b with
 | true => exact pre_OfficeLabels hf hE l A c hR hll (.inl h)
 | false =>
  cases h' : lng l with
  | true => exact pre_OfficeLabels hf hE l A c hR hll (.inr (.inl ⟨h, h'⟩))
  | false =>
   by_cases hz : f.e = 0
   ·exact main_OfficeLabels hf hE l A c hR hll h h' hz
   ·exact pre_OfficeLabels hf hE l A c hR hll (.inr (.inr ⟨h, h', hz⟩))
end Go.Proofs.YtiapkffihpgdcaaGreatDoor
namespace Go.Proofs.YtiapkffihpgdcaaGreatDoor
open Go.ChangeShapes Go.WideShapes Go.ChangeAt Go.RowKit Go.Deep Go.Joins
theorem officeLabels_env {W : World} (hL : laidMetH Tryz.prog Rows.officeLabelsRow.laid W) (hs : W.ShapedOpen Tryz.prog) : EnvA W := by
 obtain ⟨h1, h2⟩ := plain_met (Lp := plainL) (by kernel_rfl) (by kernel_rfl) hL
 exact env_of h1 (by simp [plainL]) (by simp [plainL]) h2 hs
theorem officeLabels_lifted (os : Os) (started : os.Started) (H : Type) (enc : TypeId × Value → H) :
  ReturnsInHanded {} Tryz.checked os 9 .any (fun w args => (Rows.officeLabelsSpec.pre enc Tryz.prog Tryz.f9 [] false w args ∧ laidMetH Tryz.prog Rows.officeLabelsRow.laid w) ∧ sizedMet enc Tryz.prog Tryz.f9 (OpenSpec.ofChange Rows.officeLabelsSpec) false w args)
   (Rows.officeLabelsSpec.post enc Tryz.prog Tryz.f9 false true false false) := by
 refine handed_shaped (C := Tryz.checked) (X := fun w _ => laidMetH Tryz.prog Rows.officeLabelsRow.laid w) (fun _ _ _ hh h => h.of_heap hh) own_ started (by kernel_rfl) Tryz.func9
  (ChangeSpec.witness_shaped (enc := enc) (C := Tryz.checked) (os := os) (X := fun w _ => laidMetH Tryz.prog Rows.officeLabelsRow.laid w) false (witW os plainL) #[.agg #[.int .i64 0, .slice none 0 0, .slice none 0 0, .int .i64 0, .int .i64 0, .int .i64 0, .int .i64 0, .slice none 0 0, .slice none 0 0], .slice none 0 0] 8 (by unfold witW; rw [World.layVars_os]; rfl)
   (World.shaped_of_ZipB (by kernel_rfl) (by kernel_rfl)) (by kernel_rfl) (by kernel_rfl) (by kernel_rfl)
   (laidMetH_of_parts (by rw [show (Rows.officeLabelsRow.laid.filter fun x => x.2.handleName?.isNone) = plainL by kernel_rfl]; exact witW_met _ (by kernel_rfl) (by kernel_rfl)) (by kernel_rfl))) ?_
 intro W base args ds gs before hval0 hW hS hL
 have hval : ∀ (j : Nat) t v, Tryz.f9.params[j]? = some t → args[j]? = some v → Value.okWide Tryz.prog W .any base t v := hval0
 have hW' := hW
 obtain ⟨p, q, hA0, hV, rfl, hfz, hnd⟩ := hW
 have hA : DataW.TrodAll enc Tryz.prog W 0 (fun _ => true) true Tryz.f9.params.toList args.toList ds p := hA0
 rw [Tryz.params9] at hA hval
 obtain ⟨v0, v1, d0, d1, p0, p1, rfl, rfl, rfl, h0, h1⟩ := trodAll_two hA
 obtain ⟨f, rfl, hf⟩ := open_firm (hval 0 _ v0 rfl rfl) h0
 obtain ⟨l, A, c, rfl, hrs, hll, hlk⟩ := open_orders (hval 1 _ v1 rfl rfl) h1
 refine (officeLabels_any hf (officeLabels_env hL hS) l A c hrs hll).mono fun e W' ⟨he, hb⟩ => ?_
 subst he
 exact ⟨_, rfl, law_post hW' rfl (by kernel_rfl) rfl (by rw [Tryz.params9]; intro t ht; simp at ht; rcases ht with rfl | rfl <;> exact ⟨by kernel_rfl, of_decide_eq_true (by kernel_rfl)⟩) hb⟩
set_option maxHeartbeats 4000000 in
theorem officeLabels_closed : joinedFacts Tryz.prog 9 Tryz.f9 Rows.officeLabelsSpec Rows.officeLabelsRow = true := by
 unfold joinedFacts
 simp only [Bool.and_eq_true]
 repeat' apply And.intro
 all_goals (as_aux_lemma => kernel_rfl)
set_option maxHeartbeats 4000000 in
theorem officeLabels_wrap : Tryz.f9.isWrapper Tryz.prog Rows.officeLabelsRow.wrapper Rows.officeLabelsRow.mainSum := by
 unfold Func.isWrapper; first | (rw [if_pos (by decide +kernel)]; kernel_rfl) | (rw [if_neg (by decide +kernel)]; exact ⟨rfl, rfl⟩)
theorem officeLabels_named : Tryz.prog.funcNamed Rows.officeLabelsRow.func = some 9 := by kernel_rfl
theorem officeLabels_inst : Tryz.f9.isInstance Tryz.prog Rows.officeLabelsRow.origin Rows.officeLabelsRow.targs := of_decide_eq_true (by kernel_rfl)
set_option maxHeartbeats 4000000 in
theorem officeLabels_row : Rows.OfficeLabelsSaid :=
 OpenClaim.holds_of_wide 9 Tryz.f9 rfl rfl rfl rfl rfl rfl rfl ⟨rfl, rfl, rfl, rfl, rfl⟩ rfl rfl rfl rfl rfl officeLabels_named Tryz.func9 officeLabels_closed
  officeLabels_inst officeLabels_wrap
  (fun os started H enc _ => officeLabels_lifted os started H enc)
theorem officeLabels_wfT : Rows.officeLabelsRow.wfByText (OpenSpec.ofChange Rows.officeLabelsSpec) = true := by kernel_rfl
theorem office_main : Tryz.pinned.checked.prog.mainIs = some (true, "5a9a52965f4185065c0d39a39ec58f829537e604a07fc4f1dbce9d7d2d17f592".toList) := by kernel_rfl
theorem office_looks : true = Tryz.pinned.checked.prog.looks [] := by kernel_rfl
theorem officeLabels_goes : false = Rows.officeLabelsRow.goesBy Tryz.pinned.checked.prog := by kernel_rfl
theorem officeLabels_stand : ([32, 33].all fun u => !Tryz.prog.wantsStandIn u) = true := by kernel_rfl
set_option maxHeartbeats 4000000 in
theorem officeLabels_holds : Rows.OfficeLabelsCardSaid :=
 Claim7.holds_tied_plain_at .later [] [.data, .data, .data, .handle, .pinned] true (true, "5a9a52965f4185065c0d39a39ec58f829537e604a07fc4f1dbce9d7d2d17f592") true
  officeLabels_row (fun _ h => by cases h) officeLabels_wfT (fun _ h => by cases h) officeLabels_row_tie rfl ⟨rfl, rfl⟩ office_main rfl
  (fun f fn hf hfn => by
   obtain rfl : f = 9 := Option.some.inj (officeLabels_named.symm.trans hf) |>.symm
   obtain rfl : fn = Tryz.f9 := (Option.some.inj (Tryz.func9.symm.trans hfn)).symm
   exact ⟨office_looks, fun j t ht => by
    rw [Tryz.params9] at ht
    have hm : t ∈ [32, 33] := by simpa using Array.mem_of_getElem? ht
    exact (show Tryz.prog.wantsStandIn t = false by simpa using List.all_eq_true.1 officeLabels_stand t hm)⟩)
  officeLabels_goes
end Go.Proofs.YtiapkffihpgdcaaGreatDoor
