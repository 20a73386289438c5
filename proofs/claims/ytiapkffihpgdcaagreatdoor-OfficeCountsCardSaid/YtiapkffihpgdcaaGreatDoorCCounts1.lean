/-
  OfficeCounts: for every firm and every list of orders the law returns true, panics nowhere and leaves its arguments as they were: the portions of a day are the children who have the meal, and what was cooked was eaten or wasted. On the tied card. No condition beyond the card.
-/
import Derived.Test.YtiapkffihpgdcaaGreatDoorQA1
import Derived.Test.YtiapkffihpgdcaaGreatDoorQA2
import Derived.Test.YtiapkffihpgdcaaGreatDoorQA3
import Derived.Test.YtiapkffihpgdcaaGreatDoorQA4
import Derived.Test.YtiapkffihpgdcaaGreatDoorQA5
import Derived.Test.YtiapkffihpgdcaaGreatDoorQA6
import Derived.Test.YtiapkffihpgdcaaGreatDoorQA7
import Derived.Test.YtiapkffihpgdcaaGreatDoorQA8
import Derived.Test.YtiapkffihpgdcaaGreatDoorQA9
import Derived.Test.YtiapkffihpgdcaaGreatDoorQA10
import Derived.Test.YtiapkffihpgdcaaGreatDoorQA11
import Derived.Test.YtiapkffihpgdcaaGreatDoorQA12
import Derived.Test.YtiapkffihpgdcaaGreatDoorQA13
import Derived.Test.YtiapkffihpgdcaaGreatDoorQA14
import Derived.Test.YtiapkffihpgdcaaGreatDoorQA15
import Derived.Test.YtiapkffihpgdcaaGreatDoorQA16
import Derived.Test.YtiapkffihpgdcaaGreatDoorQA17
import Derived.Test.YtiapkffihpgdcaaGreatDoorQA18
import Derived.Test.YtiapkffihpgdcaaGreatDoorQA19
import Derived.Test.YtiapkffihpgdcaaGreatDoorQA20
import Derived.Test.YtiapkffihpgdcaaGreatDoorQA21
import Derived.Test.YtiapkffihpgdcaaGreatDoorQA22
import Derived.Test.YtiapkffihpgdcaaGreatDoorQA23
import Derived.Test.YtiapkffihpgdcaaGreatDoorQA24
import Derived.Test.YtiapkffihpgdcaaGreatDoorQA25
import Derived.Test.YtiapkffihpgdcaaGreatDoorQA26
import Derived.Test.YtiapkffihpgdcaaGreatDoorQA27
import Derived.Test.YtiapkffihpgdcaaGreatDoorQA28
import Derived.Test.YtiapkffihpgdcaaGreatDoorQA29
import Derived.Test.YtiapkffihpgdcaaGreatDoorQA30
import Derived.Test.YtiapkffihpgdcaaGreatDoorQA31
import Derived.Test.YtiapkffihpgdcaaGreatDoorQA32
import Derived.IntWalk
import Derived.ScopeJumps
import Derived.WalkMore
import Derived.StillTailTactics
import Derived.Lib.QuietBelow
import Derived.BigRegion
import Derived.Test.YtiapkffihpgdcaaGreatDoorTie
import Derived.Test.YtiapkffihpgdcaaGreatDoorCards
import Derived.SevenTiedAt
import Derived.ChangeMaps5
set_option linter.unusedVariables false
set_option linter.unusedSimpArgs false
set_option maxRecDepth 100000
namespace Go.Proofs.YtiapkffihpgdcaaGreatDoor
open Go.RowKit
set_option maxHeartbeats 3200000 in
theorem pre_OfficeCounts {f : Fi} {w : World} (hf : f.In w) (hE : EnvA w) (l : List Wd) (A : Option Addr) (c : Nat) (hR : RS w A l) (hll : l.length ≤ 9223372036854775807) (h : lrg f.t f.b = true ∨ (lrg f.t f.b = false ∧ lng l = true) ∨ (lrg f.t f.b = false ∧ lng l = false ∧ f.e ≠ 0)) :
  Calls Tryz.prog 8 #[.agg f.cells, .slice A l.length c] w fun e w' => e = .returned (.bool true) ∧ Below w.heap.size w w' := by
 unfold Fi.cells
 obtain ⟨w2, hw2⟩ : ∃ w2, w.alloc (.cells #[.int .i64 f.t.len, .slice f.A1 f.t.rest.length f.c1, .slice f.A2 f.t.clo.length f.c2, .int .i64 f.c.n, .int .i64 f.c.f, .int .i64 f.c.k, .int .i64 f.b.props, .slice f.B1 f.b.items.length f.d1, .slice f.B2 f.b.rules.length f.d2] 32) = w2 := ⟨_, rfl⟩
 have hy : Below w.heap.size w w2 := by rw [← hw2]; exact (Below.refl _ w).alloc (Nat.le_refl _) _
 have b0 : Box w2 w.heap.size #[.int .i64 f.t.len, .slice f.A1 f.t.rest.length f.c1, .slice f.A2 f.t.clo.length f.c2, .int .i64 f.c.n, .int .i64 f.c.f, .int .i64 f.c.k, .int .i64 f.b.props, .slice f.B1 f.b.items.length f.d1, .slice f.B2 f.b.rules.length f.d2] := by rw [← hw2]; exact Box.new w _ _
 have HL := Lib.hid (large_any f.t f.c f.b (fun _ => True) f.A1 f.A2 f.B1 f.B2 f.c1 f.c2 f.d1 f.d2 f.hp f.hq f.hr w2 (hf.below hy).bk)
 have HO := Lib.hid (fun (w' : World) (hb : Below w2.heap.size w2 w') => olong_any l A c w' hll ((hR.below hy).below hb))
 have x0 := b0.cell 0; have x1 := b0.cell 1; have x2 := b0.cell 2; have x3 := b0.cell 3; have x4 := b0.cell 4; have x5 := b0.cell 5; have x6 := b0.cell 6; have x7 := b0.cell 7; have x8 := b0.cell 8; simp only [List.getElem?_toArray, List.getElem?_cons_zero, List.getElem?_cons_succ] at x0 x1 x2 x3 x4 x5 x6 x7 x8
 rcases h with h | ⟨h, h'⟩ | ⟨h, h', hz⟩
 ·rw [h] at HL
  go_enter Tryz.func8, Tryz.ntmps8
  go_wp2_with (first | (go_at_call 34; (with_reducible refine HL.out.mono ?_); rintro e w3 ⟨rfl, hb3⟩; have b3 := b0.below hb3; have hy3 := hy.trans (hb3.mono hy.size); have y0 := b3.cell 0; have y1 := b3.cell 1; have y2 := b3.cell 2; have y3 := b3.cell 3; have y4 := b3.cell 4; have y5 := b3.cell 5; have y6 := b3.cell 6; have y7 := b3.cell 7; have y8 := b3.cell 8; simp only [List.getElem?_toArray, List.getElem?_cons_zero, List.getElem?_cons_succ] at y0 y1 y2 y3 y4 y5 y6 y7 y8) | (go_at_call 31; (with_reducible refine (oknown_any (hE.below hy3)).mono ?_); rintro e wk ⟨rfl, hbk⟩))
  go_ret
  exact ⟨rfl, hy3.trans (hbk.mono hy3.size)⟩
 ·rw [h] at HL
  rw [h'] at HO
  go_enter Tryz.func8, Tryz.ntmps8
  go_wp2_with (first | (go_at_call 34; (with_reducible refine HL.out.mono ?_); rintro e w3 ⟨rfl, hb3⟩; have b3 := b0.below hb3; have hy3 := hy.trans (hb3.mono hy.size); have y0 := b3.cell 0; have y1 := b3.cell 1; have y2 := b3.cell 2; have y3 := b3.cell 3; have y4 := b3.cell 4; have y5 := b3.cell 5; have y6 := b3.cell 6; have y7 := b3.cell 7; have y8 := b3.cell 8; simp only [List.getElem?_toArray, List.getElem?_cons_zero, List.getElem?_cons_succ] at y0 y1 y2 y3 y4 y5 y6 y7 y8) | (go_at_call 35; (with_reducible refine (HO.out _ hb3).mono ?_); rintro e w4 ⟨rfl, hb4⟩; have b4 := b3.below hb4; have hy4 := hy3.trans (hb4.mono hy3.size); have z0 := b4.cell 0; have z1 := b4.cell 1; have z2 := b4.cell 2; have z3 := b4.cell 3; have z4 := b4.cell 4; have z5 := b4.cell 5; have z6 := b4.cell 6; have z7 := b4.cell 7; have z8 := b4.cell 8; simp only [List.getElem?_toArray, List.getElem?_cons_zero, List.getElem?_cons_succ] at z0 z1 z2 z3 z4 z5 z6 z7 z8) | (go_at_call 31; (with_reducible refine (oknown_any (hE.below hy4)).mono ?_); rintro e wk ⟨rfl, hbk⟩))
  go_ret
  exact ⟨rfl, hy4.trans (hbk.mono hy4.size)⟩
 ·rw [h] at HL
  rw [h'] at HO
  have hlen := lrg_len h
  have HB := Lib.hid (fun (w' : World) (hb : Below w.heap.size w w') => begin_bad (hf.below hb) hlen (hE.below hb) hz)
  have HF := Lib.hid (fun (w' : World) (hb : Below w.heap.size w w') => failed_any (hf.below hb) hlen (hE.below hb) hz)
  unfold Fi.cells at HB HF
  clear hz h h'
  go_enter Tryz.func8, Tryz.ntmps8
  go_wp2_with (first
   | (go_at_call 34; (with_reducible refine HL.out.mono ?_); rintro e w3 ⟨rfl, hb3⟩; have b3 := b0.below hb3; have hy3 := hy.trans (hb3.mono hy.size); have y0 := b3.cell 0; have y1 := b3.cell 1; have y2 := b3.cell 2; have y3 := b3.cell 3; have y4 := b3.cell 4; have y5 := b3.cell 5; have y6 := b3.cell 6; have y7 := b3.cell 7; have y8 := b3.cell 8; simp only [List.getElem?_toArray, List.getElem?_cons_zero, List.getElem?_cons_succ] at y0 y1 y2 y3 y4 y5 y6 y7 y8)
   | (go_at_call 35; (with_reducible refine (HO.out _ hb3).mono ?_); rintro e w4 ⟨rfl, hb4⟩; have b4 := b3.below hb4; have hy4 := hy3.trans (hb4.mono hy3.size); have z0 := b4.cell 0; have z1 := b4.cell 1; have z2 := b4.cell 2; have z3 := b4.cell 3; have z4 := b4.cell 4; have z5 := b4.cell 5; have z6 := b4.cell 6; have z7 := b4.cell 7; have z8 := b4.cell 8; simp only [List.getElem?_toArray, List.getElem?_cons_zero, List.getElem?_cons_succ] at z0 z1 z2 z3 z4 z5 z6 z7 z8)
   | (go_at_call 36; (with_reducible refine (HB.out _ hy4).mono ?_); rintro e w5 ⟨rfl, hb5⟩; have b5 := b4.below hb5; have hy5 := hy4.trans (hb5.mono hy4.size); have v0 := b5.cell 0; have v1 := b5.cell 1; have v2 := b5.cell 2; have v3 := b5.cell 3; have v4 := b5.cell 4; have v5 := b5.cell 5; have v6 := b5.cell 6; have v7 := b5.cell 7; have v8 := b5.cell 8; simp only [List.getElem?_toArray, List.getElem?_cons_zero, List.getElem?_cons_succ] at v0 v1 v2 v3 v4 v5 v6 v7 v8)
   | (go_at_call 37; (with_reducible refine (HF.out _ hy5).mono ?_); rintro e w6 ⟨rfl, hb6⟩))
  go_ret
  exact ⟨rfl, hy5.trans (hb6.mono hy5.size)⟩
set_option maxHeartbeats 3200000 in
theorem main_OfficeCounts {f : Fi} {w : World} (hf : f.In w) (hE : EnvA w) (l : List Wd) (A : Option Addr) (c : Nat) (hR : RS w A l) (hll : l.length ≤ 9223372036854775807) (h : lrg f.t f.b = false) (h' : lng l = false) (hz : f.e = 0) :
    Calls Tryz.prog 8 #[.agg f.cells, .slice A l.length c] w fun e w' => e = .returned (.bool true) ∧ Below w.heap.size w w' := by
  unfold Fi.cells
  obtain ⟨w2, hw2⟩ : ∃ w2, w.alloc (.cells #[.int .i64 f.t.len, .slice f.A1 f.t.rest.length f.c1, .slice f.A2 f.t.clo.length f.c2, .int .i64 f.c.n, .int .i64 f.c.f, .int .i64 f.c.k, .int .i64 f.b.props, .slice f.B1 f.b.items.length f.d1, .slice f.B2 f.b.rules.length f.d2] 32) = w2 := ⟨_, rfl⟩
  have hy : Below w.heap.size w w2 := by rw [← hw2]; exact (Below.refl _ w).alloc (Nat.le_refl _) _
  have b0 : Box w2 w.heap.size #[.int .i64 f.t.len, .slice f.A1 f.t.rest.length f.c1, .slice f.A2 f.t.clo.length f.c2, .int .i64 f.c.n, .int .i64 f.c.f, .int .i64 f.c.k, .int .i64 f.b.props, .slice f.B1 f.b.items.length f.d1, .slice f.B2 f.b.rules.length f.d2] := by rw [← hw2]; exact Box.new w _ _
  have HL := Lib.hid (large_any f.t f.c f.b (fun _ => True) f.A1 f.A2 f.B1 f.B2 f.c1 f.c2 f.d1 f.d2 f.hp f.hq f.hr w2 (hf.below hy).bk)
  have HO := Lib.hid (fun (w' : World) (hb : Below w2.heap.size w2 w') => olong_any l A c w' hll ((hR.below hy).below hb))
  have x0 := b0.cell 0; have x1 := b0.cell 1; have x2 := b0.cell 2; have x3 := b0.cell 3; have x4 := b0.cell 4; have x5 := b0.cell 5; have x6 := b0.cell 6; have x7 := b0.cell 7; have x8 := b0.cell 8; simp only [List.getElem?_toArray, List.getElem?_cons_zero, List.getElem?_cons_succ] at x0 x1 x2 x3 x4 x5 x6 x7 x8
  rw [h] at HL
  rw [h'] at HO
  have hlen := lrg_len h
  have htlen := lrg_tlen h hz
  obtain ⟨hl3, hlw⟩ := lng_no h'
  have HLW := Lib.hid hlw
  have HB := Lib.hid (fun (w' : World) (hb : Below w.heap.size w w') => begin_ok (hf.below hb) hlen (hE.below hb) hz)
  unfold Fi.cells at HB
  obtain ⟨m, hm⟩ : ∃ m, m = min l.length 30 := ⟨_, rfl⟩
  have hm1 : m ≤ l.length ∧ m ≤ 30 := by omega
  have hm2 : m = l.length ∨ (m = 30 ∧ 30 < l.length) := by omega
  have HM := Lib.hid hm2
  have hso := OfOk.new hz
  clear hz h h' hlw hm hm2
  go_enter Tryz.func8, Tryz.ntmps8
  go_wp2_with (first
    | (go_at_call 34; (with_reducible refine HL.out.mono ?_); rintro e w3 ⟨rfl, hb3⟩; have b3 := b0.below hb3; have hy3 := hy.trans (hb3.mono hy.size); have y0 := b3.cell 0; have y1 := b3.cell 1; have y2 := b3.cell 2; have y3 := b3.cell 3; have y4 := b3.cell 4; have y5 := b3.cell 5; have y6 := b3.cell 6; have y7 := b3.cell 7; have y8 := b3.cell 8; simp only [List.getElem?_toArray, List.getElem?_cons_zero, List.getElem?_cons_succ] at y0 y1 y2 y3 y4 y5 y6 y7 y8)
    | (go_at_call 35; (with_reducible refine (HO.out _ hb3).mono ?_); rintro e w4 ⟨rfl, hb4⟩; have b4 := b3.below hb4; have hy4 := hy3.trans (hb4.mono hy3.size); have z0 := b4.cell 0; have z1 := b4.cell 1; have z2 := b4.cell 2; have z3 := b4.cell 3; have z4 := b4.cell 4; have z5 := b4.cell 5; have z6 := b4.cell 6; have z7 := b4.cell 7; have z8 := b4.cell 8; simp only [List.getElem?_toArray, List.getElem?_cons_zero, List.getElem?_cons_succ] at z0 z1 z2 z3 z4 z5 z6 z7 z8)
    | (go_at_call 36; (with_reducible refine (HB.out _ hy4).mono ?_); rintro e w5 ⟨g, x, rfl, hd⟩))
  have hy5 := hy4.trans (hd.bel.mono hy4.size)
  clear hw2 HL HO HB x0 x1 x2 x3 x4 x5 x6 x7 x8 y0 y1 y2 y3 y4 y5 y6 y7 y8 z0 z1 z2 z3 z4 z5 z6 z7 z8
  have hkn := hd.kn
  clear hd
  go_loopw [8] (fun v wr => ∃ k : Nat, k ≤ m ∧ v = .int .i64 k ∧ KN w4 k (fun _ => False) g (runTo f.s0 l k) wr) (fun v _ => m - (intOf v).toNat)
  case atStart => exact ⟨0, by omega, rfl, by rw [runTo_zero]; exact hkn⟩
  case round =>
    clear hkn
    obtain ⟨k, hk, rfl, hkn⟩ := hrel
    by_cases hlt : k < m
    ·
      obtain ⟨ad, rfl, hab, c0⟩ := (hR.below hy4).at_ (k := k) (by omega)
      have htl := HLW.out k (by omega)
      have hrt := runTo_succ f.s0 l (k := k) (by omega)
      rw [nil_getD (by omega)] at htl hrt
      obtain ⟨tx, htx⟩ : ∃ tx, tx = l[k]'(by omega) := ⟨_, rfl⟩
      rw [← htx] at c0 htl hrt
      obtain ⟨sk, hsk⟩ : ∃ sk, sk = runTo f.s0 l k := ⟨_, rfl⟩
      rw [← hsk] at hkn hrt
      have HRT := Lib.hid hrt
      have HSK := Lib.hid hsk
      clear htx hsk hrt
      have q0 := (hkn.at_.cell (by exact hab)).trans c0
      have HD := Lib.hid (hkn.do_ (by omega) tx (by omega))
      go_wp2_with (go_at_call 25; (with_reducible refine HD.out.mono ?_); rintro e w6 ⟨rfl, hk6, _⟩)
      rw [← HRT.out] at hk6
      go_roundw
      case rel => exact ⟨k + 1, by omega, by go_num, hk6⟩
      case measure => simp [intOf]; omega
    · obtain rfl : k = m := by omega
      have hkn' := hkn
      obtain ⟨F, h, hP, hEo, hyo, _, _⟩ := hkn'
      obtain ⟨e1, e2, e3⟩ := runTo_same f.s0 l k
      have hok : OfOk (runTo f.s0 l k) := runS_ok _ _ hso
      obtain ⟨S, hS⟩ : ∃ S, S = runTo f.s0 l k := ⟨_, rfl⟩
      rw [← hS] at hP hok e1
      obtain ⟨dn, hdn⟩ : ∃ dn : Nat, f.t.len = dn := ⟨f.t.len.toNat, by omega⟩
      have hdays : S.days = dn := by unfold Of.days; rw [e1]; show f.t.len.toNat = dn; omega
      have hdn1 : dn ≤ 120 := by omega
      have hyw := hy4.trans (hyo.mono hy4.size)
      have bo := b4.keep hyo b4.lt
      have HDN := Lib.hid hdn
      have HDD := Lib.hid hdays
      have HBO := Lib.hid bo
      have HKN := Lib.hid hkn
      have htx : k < l.length ∨ ¬ k < l.length := Decidable.em _
      clear hS hdn hdays e1 e2 e3 hso hkn
      obtain ⟨wo, rfl⟩ : ∃ wo : World, wo = wr := ⟨_, rfl⟩
      rcases htx with hc | hc
      all_goals
        (try (have h30 : 30 ≤ k := by have := HM.out; omega))
        go_wp2_with fail
        clear hc
        go_loopw [9] (fun v wr => ∃ d : Nat, d ≤ dn ∧ v = .int .i64 d ∧ Below wo.heap.size wo wr) (fun v _ => dn - (intOf v).toNat)
        case atStart => exact ⟨0, by omega, rfl, Below.refl _ _⟩
        case round =>
          obtain ⟨d, hd, rfl, hb⟩ := hrel
          have t0 := (HBO.out.below hb).cell 0
          simp only [List.getElem?_toArray, List.getElem?_cons_zero, List.getElem?_cons_succ] at t0
          rw [HDN.out] at t0
          have hwb := hyw.trans (hb.mono hyw.size)
          by_cases hlt : d < dn
          · have hPr := hP.below hb
            obtain ⟨hch, hpr, hpc, hsv⟩ := counts_day hok (d := d) (by rw [HDD.out]; exact hlt)
            have HP1 := Lib.hid (oPortions_any hPr d)
            have HP2 := Lib.hid (fun (w' : World) (hb : Below wr.heap.size wr w') => oFactsC_any (hPr.below hb))
            have HP3 := Lib.hid (fun (w' : World) (hb : Below wr.heap.size wr w') => oNow_any (hPr.below hb))
            have HP4 := Lib.hid (fun (w' : World) (hb : Below wr.heap.size wr w') => Served_any (hPr.below hb) d)
            have hfl := hok.fl
            have hcc := fun (A0 : Option Addr) (c0 : Nat) (hc : S.facts.length ≤ c0) (w' : World) (hr : RF w' w'.heap.size A0 S.facts) => childrenX_any S.facts S.now d 1 (by omega) A0 c0 _ hc w' hr
            rw [hch] at hcc
            obtain ⟨CL, hCL⟩ : ∃ CL, CL = childR S.facts S.now d 1 := ⟨_, rfl⟩
            obtain ⟨PR, hPR⟩ : ∃ PR, PR = porR S d := ⟨_, rfl⟩
            obtain ⟨DE, hDE⟩ : ∃ DE, DE = dayE S d := ⟨_, rfl⟩
            obtain ⟨SE, hSE⟩ : ∃ SE, SE = svdE S d := ⟨_, rfl⟩
            obtain ⟨CK, hCK⟩ : ∃ CK, CK = ckd S d := ⟨_, rfl⟩
            obtain ⟨ET, hET⟩ : ∃ ET, ET = etn S d := ⟨_, rfl⟩
            obtain ⟨WS, hWS⟩ : ∃ WS, WS = wst S d := ⟨_, rfl⟩
            obtain ⟨MS, hMS⟩ : ∃ MS, MS = mis S d := ⟨_, rfl⟩
            rw [← hCL] at hcc hpc
            rw [← hPR] at hpr hpc hsv HP1
            rw [← hDE] at hpc HP1
            rw [← hSE, ← hCK, ← hET, ← hWS, ← hMS] at hsv HP4
            have HCC := Lib.hid hcc
            have HSV := Lib.hid hsv
            have HPC := Lib.hid hpc
            clear hcc hsv hpc hCL hPR hDE hSE hCK hET hWS hMS hch
            have k1 : ((DE == 0) = true ∧ (PR != ((CL.length : Nat) : Int)) = false) ∨ (DE == 0) = false := by
              by_cases e : DE = 0
              · exact .inl ⟨by simp [e], by rw [HPC.out e]; simp⟩
              · exact .inr (by simp [e])
            have k2 : ((SE == 0) = true ∧ (CK != ET + WS) = false ∧ decide (ET < 0) = false ∧ decide (WS < 0) = false ∧ (0 ≤ ET ∧ ET ≤ 100000) ∧ (0 ≤ WS ∧ WS ≤ 100000) ∧ (0 ≤ CK ∧ CK ≤ 100000) ∧ MS = max 0 (PR - CK)) ∨ (SE == 0) = false := by
              by_cases e : SE = 0
              · obtain ⟨g1, g2, g3, g4, g5⟩ := HSV.out e
                exact .inl ⟨by simp [e], by rw [g1]; simp, by rw [decide_eq_false_iff_not]; omega, by rw [decide_eq_false_iff_not]; omega, g2, g3, g4, g5⟩
              · exact .inr (by simp [e])
            clear HPC HSV
            rcases k1 with ⟨k1, k3⟩ | k1 <;> rcases k2 with ⟨k4, k5, k6, k7, ⟨k8, k9⟩, ⟨k10, k11⟩, ⟨k12, k13⟩, rfl⟩ | k4
            all_goals
              go_wp2_with (first
                | (go_at_call 44; (with_reducible refine HP1.out.mono ?_); rintro e w6 ⟨rfl, b6⟩)
                | (go_at_call 24; (with_reducible refine (HP2.out _ b6).mono ?_); rintro e w7 ⟨FA, Fc, rfl, hfc, rdF, b7⟩; have c7 := b6.trans (b7.mono b6.size))
                | (go_at_call 21; (with_reducible refine (HP3.out _ c7).mono ?_); rintro e w8 ⟨rfl, b8⟩; have c8 := c7.trans (b8.mono c7.size); have hrf := RF.of_readsF (rdF.below b8))
                | (go_at_call 45; (with_reducible refine (HCC.out FA Fc hfc _ hrf).mono ?_); rintro e w9 ⟨CA, Cc, rfl, _, b9⟩; have c9 := c8.trans (b9.mono c8.size))
                | (go_at_call 46; (with_reducible refine (HP4.out _ c9).mono ?_); rintro e w10 ⟨rfl, b10⟩; have c10 := c9.trans (b10.mono c9.size)))
              go_roundw
              case rel => exact ⟨d + 1, by omega, by go_num, hb.trans (c10.mono hb.size)⟩
              case measure => simp [intOf]; omega
          · obtain rfl : d = dn := by omega
            go_wp2_with (go_at_call 31; (with_reducible refine (oknown_any (hE.below hwb)).mono ?_); rintro e wk ⟨rfl, hbk⟩)
            go_ret
            exact ⟨rfl, hwb.trans (hbk.mono hwb.size)⟩
theorem officeCounts_any {f : Fi} {w : World} (hf : f.In w) (hE : EnvA w) (l : List Wd) (A : Option Addr) (c : Nat) (hR : RS w A l) (hll : l.length ≤ 9223372036854775807) :
  Calls Tryz.prog 8 #[.agg f.cells, .slice A l.length c] w fun e w' => e = .returned (.bool true) ∧ Below w.heap.size w w' := by
 cases h : lrg f.t f.b with
 | true => exact pre_OfficeCounts hf hE l A c hR hll (.inl h)
 | false =>
  cases h' : lng l with
  | true => exact pre_OfficeCounts hf hE l A c hR hll (.inr (.inl ⟨h, h'⟩))
  | false =>
   by_cases hz : f.e = 0
   ·exact main_OfficeCounts hf hE l A c hR hll h h' hz
   ·exact pre_OfficeCounts hf hE l A c hR hll (.inr (.inr ⟨h, h', hz⟩))
end Go.Proofs.YtiapkffihpgdcaaGreatDoor
namespace Go.Proofs.YtiapkffihpgdcaaGreatDoor
open Go.ChangeShapes Go.WideShapes Go.ChangeAt Go.RowKit Go.Deep Go.Joins
theorem officeCounts_env {W : World} (hL : laidMetH Tryz.prog Rows.officeCountsRow.laid W) (hs : W.ShapedOpen Tryz.prog) : EnvA W := by
 obtain ⟨h1, h2⟩ := plain_met (Lp := plainL) (by kernel_rfl) (by kernel_rfl) hL
 exact env_of h1 (by simp [plainL]) (by simp [plainL]) h2 hs
theorem officeCounts_lifted (os : Os) (started : os.Started) (H : Type) (enc : TypeId × Value → H) :
  ReturnsInHanded {} Tryz.checked os 8 .any (fun w args => (Rows.officeCountsSpec.pre enc Tryz.prog Tryz.f8 [] false w args ∧ laidMetH Tryz.prog Rows.officeCountsRow.laid w) ∧ sizedMet enc Tryz.prog Tryz.f8 (OpenSpec.ofChange Rows.officeCountsSpec) false w args)
   (Rows.officeCountsSpec.post enc Tryz.prog Tryz.f8 false true false false) := by
 refine handed_shaped (C := Tryz.checked) (X := fun w _ => laidMetH Tryz.prog Rows.officeCountsRow.laid w) (fun _ _ _ hh h => h.of_heap hh) own_ started (by kernel_rfl) Tryz.func8
  (ChangeSpec.witness_shaped (enc := enc) (C := Tryz.checked) (os := os) (X := fun w _ => laidMetH Tryz.prog Rows.officeCountsRow.laid w) false (witW os plainL) #[.agg #[.int .i64 0, .slice none 0 0, .slice none 0 0, .int .i64 0, .int .i64 0, .int .i64 0, .int .i64 0, .slice none 0 0, .slice none 0 0], .slice none 0 0] 8 (by unfold witW; rw [World.layVars_os]; rfl)
   (World.shaped_of_ZipB (by kernel_rfl) (by kernel_rfl)) (by kernel_rfl) (by kernel_rfl) (by kernel_rfl)
   (laidMetH_of_parts (by rw [show (Rows.officeCountsRow.laid.filter fun x => x.2.handleName?.isNone) = plainL by kernel_rfl]; exact witW_met _ (by kernel_rfl) (by kernel_rfl)) (by kernel_rfl))) ?_
 intro W base args ds gs before hval0 hW hS hL
 have hval : ∀ (j : Nat) t v, Tryz.f8.params[j]? = some t → args[j]? = some v → Value.okWide Tryz.prog W .any base t v := hval0
 have hW' := hW
 obtain ⟨p, q, hA0, hV, rfl, hfz, hnd⟩ := hW
 have hA : DataW.TrodAll enc Tryz.prog W 0 (fun _ => true) true Tryz.f8.params.toList args.toList ds p := hA0
 rw [Tryz.params8] at hA hval
 obtain ⟨v0, v1, d0, d1, p0, p1, rfl, rfl, rfl, h0, h1⟩ := trodAll_two hA
 obtain ⟨f, rfl, hf⟩ := open_firm (hval 0 _ v0 rfl rfl) h0
 obtain ⟨l, A, c, rfl, hrs, hll, hlk⟩ := open_orders (hval 1 _ v1 rfl rfl) h1
 refine (officeCounts_any hf (officeCounts_env hL hS) l A c hrs hll).mono fun e W' ⟨he, hb⟩ => ?_
 subst he
 exact ⟨_, rfl, law_post hW' rfl (by kernel_rfl) rfl (by rw [Tryz.params8]; intro t ht; simp at ht; rcases ht with rfl | rfl <;> exact ⟨by kernel_rfl, of_decide_eq_true (by kernel_rfl)⟩) hb⟩
set_option maxHeartbeats 4000000 in
theorem officeCounts_closed : joinedFacts Tryz.prog 8 Tryz.f8 Rows.officeCountsSpec Rows.officeCountsRow = true := by
 unfold joinedFacts
 simp only [Bool.and_eq_true]
 repeat' apply And.intro
 all_goals (as_aux_lemma => kernel_rfl)
set_option maxHeartbeats 4000000 in
theorem officeCounts_wrap : Tryz.f8.isWrapper Tryz.prog Rows.officeCountsRow.wrapper Rows.officeCountsRow.mainSum := by
 unfold Func.isWrapper; first | (rw [if_pos (by decide +kernel)]; kernel_rfl) | (rw [if_neg (by decide +kernel)]; exact ⟨rfl, rfl⟩)
theorem officeCounts_named : Tryz.prog.funcNamed Rows.officeCountsRow.func = some 8 := by kernel_rfl
theorem officeCounts_inst : Tryz.f8.isInstance Tryz.prog Rows.officeCountsRow.origin Rows.officeCountsRow.targs := of_decide_eq_true (by kernel_rfl)
set_option maxHeartbeats 4000000 in
theorem officeCounts_row : Rows.OfficeCountsSaid :=
 OpenClaim.holds_of_wide 8 Tryz.f8 rfl rfl rfl rfl rfl rfl rfl ⟨rfl, rfl, rfl, rfl, rfl⟩ rfl rfl rfl rfl rfl officeCounts_named Tryz.func8 officeCounts_closed
  officeCounts_inst officeCounts_wrap
  (fun os started H enc _ => officeCounts_lifted os started H enc)
theorem officeCounts_wfT : Rows.officeCountsRow.wfByText (OpenSpec.ofChange Rows.officeCountsSpec) = true := by kernel_rfl
theorem office_main : Tryz.pinned.checked.prog.mainIs = some (true, "5a9a52965f4185065c0d39a39ec58f829537e604a07fc4f1dbce9d7d2d17f592".toList) := by kernel_rfl
theorem office_looks : true = Tryz.pinned.checked.prog.looks [] := by kernel_rfl
theorem officeCounts_goes : false = Rows.officeCountsRow.goesBy Tryz.pinned.checked.prog := by kernel_rfl
theorem officeCounts_stand : ([32, 33].all fun u => !Tryz.prog.wantsStandIn u) = true := by kernel_rfl
set_option maxHeartbeats 4000000 in
theorem officeCounts_holds : Rows.OfficeCountsCardSaid :=
 Claim7.holds_tied_plain_at .later [] [.data, .data, .data, .handle, .pinned] true (true, "5a9a52965f4185065c0d39a39ec58f829537e604a07fc4f1dbce9d7d2d17f592") true
  officeCounts_row (fun _ h => by cases h) officeCounts_wfT (fun _ h => by cases h) officeCounts_row_tie rfl ⟨rfl, rfl⟩ office_main rfl
  (fun f fn hf hfn => by
   obtain rfl : f = 8 := Option.some.inj (officeCounts_named.symm.trans hf) |>.symm
   obtain rfl : fn = Tryz.f8 := (Option.some.inj (Tryz.func8.symm.trans hfn)).symm
   exact ⟨office_looks, fun j t ht => by
    rw [Tryz.params8] at ht
    have hm : t ∈ [32, 33] := by simpa using Array.mem_of_getElem? ht
    exact (show Tryz.prog.wantsStandIn t = false by simpa using List.all_eq_true.1 officeCounts_stand t hm)⟩)
  officeCounts_goes
end Go.Proofs.YtiapkffihpgdcaaGreatDoor
