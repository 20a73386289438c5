/-
  OfficeHarms: for every firm and every list of orders the law returns true, panics nowhere and leaves its arguments as they were: no child is served what it must avoid. On the tied card. No condition beyond the card.
-/
import Derived.Test.YtiapkffihpgdcaaGreatDoorQA1
import Derived.Test.YtiapkffihpgdcaaGreatDoorQA2
import Derived.Test.YtiapkffihpgdcaaGreatDoorQA3
import Derived.Test.YtiapkffihpgdcaaGreatDoorQA4
import Derived.Test.YtiapkffihpgdcaaGreatDoorQA5
import Derived.Test.YtiapkffihpgdcaaGreatDoorQA6
import Derived.Test.YtiapkffihpgdcaaGreatDoorQA7
import Derived.Test.YtiapkffihpgdcaaGreatDoorQA8
import Derived.Test.YtiapkffihpgdcaaGreatDoorQA9
import Derived.Test.YtiapkffihpgdcaaGreatDoorQA10
import Derived.Test.YtiapkffihpgdcaaGreatDoorQA11
import Derived.Test.YtiapkffihpgdcaaGreatDoorQA12
import Derived.Test.YtiapkffihpgdcaaGreatDoorQA13
import Derived.Test.YtiapkffihpgdcaaGreatDoorQA14
import Derived.Test.YtiapkffihpgdcaaGreatDoorQA15
import Derived.Test.YtiapkffihpgdcaaGreatDoorQA16
import Derived.Test.YtiapkffihpgdcaaGreatDoorQA17
import Derived.Test.YtiapkffihpgdcaaGreatDoorQA18
import Derived.Test.YtiapkffihpgdcaaGreatDoorQA19
import Derived.Test.YtiapkffihpgdcaaGreatDoorQA20
import Derived.Test.YtiapkffihpgdcaaGreatDoorQA21
import Derived.Test.YtiapkffihpgdcaaGreatDoorQA22
import Derived.Test.YtiapkffihpgdcaaGreatDoorQA23
import Derived.Test.YtiapkffihpgdcaaGreatDoorQA24
import Derived.Test.YtiapkffihpgdcaaGreatDoorQA25
import Derived.Test.YtiapkffihpgdcaaGreatDoorQA26
import Derived.Test.YtiapkffihpgdcaaGreatDoorQA27
import Derived.Test.YtiapkffihpgdcaaGreatDoorQA28
import Derived.Test.YtiapkffihpgdcaaGreatDoorQA29
import Derived.Test.YtiapkffihpgdcaaGreatDoorQA30
import Derived.Test.YtiapkffihpgdcaaGreatDoorQA31
import Derived.Test.YtiapkffihpgdcaaGreatDoorQA32
import Derived.IntWalk
import Derived.ScopeJumps
import Derived.WalkMore
import Derived.StillTailTactics
import Derived.Lib.QuietBelow
import Derived.BigRegion
import Derived.Test.YtiapkffihpgdcaaGreatDoorTie
import Derived.Test.YtiapkffihpgdcaaGreatDoorCards
import Derived.SevenTiedAt
import Derived.ChangeMaps5
set_option linter.unusedVariables false
set_option linter.unusedSimpArgs false
set_option maxRecDepth 100000
namespace Go.Proofs.YtiapkffihpgdcaaGreatDoor
open Go.RowKit
theorem KN.harmless {w0 w : World} {N : Nat} {Z : Nat → Prop} {g : Nat} {s : Of} (hk : KN w0 N Z g s w) {f : Fi} (hf : f.In w) (hl : f.Len) (e : s.tm = f.t ∧ s.cy = f.c ∧ s.bk = f.b) :
  Calls Tryz.prog 27 #[.pointer (some ⟨g, 0, none⟩), .agg f.cells] w fun e w' => e = .returned (.bool true) ∧ Below w.heap.size w w' := by
 obtain ⟨F, h, hP, _⟩ := hk
 exact harmless_any hP hf hl e.1 e.2.1 e.2.2
set_option maxHeartbeats 3200000 in
theorem pre_OfficeHarms {f : Fi} {w : World} (hf : f.In w) (hE : EnvA w) (l : List Wd) (A : Option Addr) (c : Nat) (hR : RS w A l) (hll : l.length ≤ 9223372036854775807) (h : lrg f.t f.b = true ∨ (lrg f.t f.b = false ∧ lng l = true) ∨ (lrg f.t f.b = false ∧ lng l = false ∧ f.e ≠ 0)) :
  Calls Tryz.prog 6 #[.agg f.cells, .slice A l.length c] w fun e w' => e = .returned (.bool true) ∧ Below w.heap.size w w' := by
 unfold Fi.cells
 obtain ⟨w2, hw2⟩ : ∃ w2, w.alloc (.cells #[.int .i64 f.t.len, .slice f.A1 f.t.rest.length f.c1, .slice f.A2 f.t.clo.length f.c2, .int .i64 f.c.n, .int .i64 f.c.f, .int .i64 f.c.k, .int .i64 f.b.props, .slice f.B1 f.b.items.length f.d1, .slice f.B2 f.b.rules.length f.d2] 32) = w2 := ⟨_, rfl⟩
 have hy : Below w.heap.size w w2 := by rw [← hw2]; exact (Below.refl _ w).alloc (Nat.le_refl _) _
 have b0 : Box w2 w.heap.size #[.int .i64 f.t.len, .slice f.A1 f.t.rest.length f.c1, .slice f.A2 f.t.clo.length f.c2, .int .i64 f.c.n, .int .i64 f.c.f, .int .i64 f.c.k, .int .i64 f.b.props, .slice f.B1 f.b.items.length f.d1, .slice f.B2 f.b.rules.length f.d2] := by rw [← hw2]; exact Box.new w _ _
 have HL := Lib.hid (large_any f.t f.c f.b (fun _ => True) f.A1 f.A2 f.B1 f.B2 f.c1 f.c2 f.d1 f.d2 f.hp f.hq f.hr w2 (hf.below hy).bk)
 have HO := Lib.hid (fun (w' : World) (hb : Below w2.heap.size w2 w') => olong_any l A c w' hll ((hR.below hy).below hb))
 have x0 := b0.cell 0; have x1 := b0.cell 1; have x2 := b0.cell 2; have x3 := b0.cell 3; have x4 := b0.cell 4; have x5 := b0.cell 5; have x6 := b0.cell 6; have x7 := b0.cell 7; have x8 := b0.cell 8; simp only [List.getElem?_toArray, List.getElem?_cons_zero, List.getElem?_cons_succ] at x0 x1 x2 x3 x4 x5 x6 x7 x8
 rcases h with h | ⟨h, h'⟩ | ⟨h, h', hz⟩
 ·rw [h] at HL
  go_enter Tryz.func6, Tryz.ntmps6
  go_wp2_with (first | (go_at_call 34; (with_reducible refine HL.out.mono ?_); rintro e w3 ⟨rfl, hb3⟩; have b3 := b0.below hb3; have hy3 := hy.trans (hb3.mono hy.size); have y0 := b3.cell 0; have y1 := b3.cell 1; have y2 := b3.cell 2; have y3 := b3.cell 3; have y4 := b3.cell 4; have y5 := b3.cell 5; have y6 := b3.cell 6; have y7 := b3.cell 7; have y8 := b3.cell 8; simp only [List.getElem?_toArray, List.getElem?_cons_zero, List.getElem?_cons_succ] at y0 y1 y2 y3 y4 y5 y6 y7 y8) | (go_at_call 31; (with_reducible refine (oknown_any (hE.below hy3)).mono ?_); rintro e wk ⟨rfl, hbk⟩))
  go_ret
  exact ⟨rfl, hy3.trans (hbk.mono hy3.size)⟩
 ·rw [h] at HL
  rw [h'] at HO
  go_enter Tryz.func6, Tryz.ntmps6
  go_wp2_with (first | (go_at_call 34; (with_reducible refine HL.out.mono ?_); rintro e w3 ⟨rfl, hb3⟩; have b3 := b0.below hb3; have hy3 := hy.trans (hb3.mono hy.size); have y0 := b3.cell 0; have y1 := b3.cell 1; have y2 := b3.cell 2; have y3 := b3.cell 3; have y4 := b3.cell 4; have y5 := b3.cell 5; have y6 := b3.cell 6; have y7 := b3.cell 7; have y8 := b3.cell 8; simp only [List.getElem?_toArray, List.getElem?_cons_zero, List.getElem?_cons_succ] at y0 y1 y2 y3 y4 y5 y6 y7 y8) | (go_at_call 35; (with_reducible refine (HO.out _ hb3).mono ?_); rintro e w4 ⟨rfl, hb4⟩; have b4 := b3.below hb4; have hy4 := hy3.trans (hb4.mono hy3.size); have z0 := b4.cell 0; have z1 := b4.cell 1; have z2 := b4.cell 2; have z3 := b4.cell 3; have z4 := b4.cell 4; have z5 := b4.cell 5; have z6 := b4.cell 6; have z7 := b4.cell 7; have z8 := b4.cell 8; simp only [List.getElem?_toArray, List.getElem?_cons_zero, List.getElem?_cons_succ] at z0 z1 z2 z3 z4 z5 z6 z7 z8) | (go_at_call 31; (with_reducible refine (oknown_any (hE.below hy4)).mono ?_); rintro e wk ⟨rfl, hbk⟩))
  go_ret
  exact ⟨rfl, hy4.trans (hbk.mono hy4.size)⟩
 ·rw [h] at HL
  rw [h'] at HO
  have hlen := lrg_len h
  have HB := Lib.hid (fun (w' : World) (hb : Below w.heap.size w w') => begin_bad (hf.below hb) hlen (hE.below hb) hz)
  have HF := Lib.hid (fun (w' : World) (hb : Below w.heap.size w w') => failed_any (hf.below hb) hlen (hE.below hb) hz)
  unfold Fi.cells at HB HF
  clear hz h h'
  go_enter Tryz.func6, Tryz.ntmps6
  go_wp2_with (first
   | (go_at_call 34; (with_reducible refine HL.out.mono ?_); rintro e w3 ⟨rfl, hb3⟩; have b3 := b0.below hb3; have hy3 := hy.trans (hb3.mono hy.size); have y0 := b3.cell 0; have y1 := b3.cell 1; have y2 := b3.cell 2; have y3 := b3.cell 3; have y4 := b3.cell 4; have y5 := b3.cell 5; have y6 := b3.cell 6; have y7 := b3.cell 7; have y8 := b3.cell 8; simp only [List.getElem?_toArray, List.getElem?_cons_zero, List.getElem?_cons_succ] at y0 y1 y2 y3 y4 y5 y6 y7 y8)
   | (go_at_call 35; (with_reducible refine (HO.out _ hb3).mono ?_); rintro e w4 ⟨rfl, hb4⟩; have b4 := b3.below hb4; have hy4 := hy3.trans (hb4.mono hy3.size); have z0 := b4.cell 0; have z1 := b4.cell 1; have z2 := b4.cell 2; have z3 := b4.cell 3; have z4 := b4.cell 4; have z5 := b4.cell 5; have z6 := b4.cell 6; have z7 := b4.cell 7; have z8 := b4.cell 8; simp only [List.getElem?_toArray, List.getElem?_cons_zero, List.getElem?_cons_succ] at z0 z1 z2 z3 z4 z5 z6 z7 z8)
   | (go_at_call 36; (with_reducible refine (HB.out _ hy4).mono ?_); rintro e w5 ⟨rfl, hb5⟩; have b5 := b4.below hb5; have hy5 := hy4.trans (hb5.mono hy4.size); have v0 := b5.cell 0; have v1 := b5.cell 1; have v2 := b5.cell 2; have v3 := b5.cell 3; have v4 := b5.cell 4; have v5 := b5.cell 5; have v6 := b5.cell 6; have v7 := b5.cell 7; have v8 := b5.cell 8; simp only [List.getElem?_toArray, List.getElem?_cons_zero, List.getElem?_cons_succ] at v0 v1 v2 v3 v4 v5 v6 v7 v8)
   | (go_at_call 37; (with_reducible refine (HF.out _ hy5).mono ?_); rintro e w6 ⟨rfl, hb6⟩))
  go_ret
  exact ⟨rfl, hy5.trans (hb6.mono hy5.size)⟩
set_option maxHeartbeats 3200000 in
theorem main_OfficeHarms {f : Fi} {w : World} (hf : f.In w) (hE : EnvA w) (l : List Wd) (A : Option Addr) (c : Nat) (hR : RS w A l) (hll : l.length ≤ 9223372036854775807) (h : lrg f.t f.b = false) (h' : lng l = false) (hz : f.e = 0) :
  Calls Tryz.prog 6 #[.agg f.cells, .slice A l.length c] w fun e w' => e = .returned (.bool true) ∧ Below w.heap.size w w' := by
 unfold Fi.cells
 obtain ⟨w2, hw2⟩ : ∃ w2, w.alloc (.cells #[.int .i64 f.t.len, .slice f.A1 f.t.rest.length f.c1, .slice f.A2 f.t.clo.length f.c2, .int .i64 f.c.n, .int .i64 f.c.f, .int .i64 f.c.k, .int .i64 f.b.props, .slice f.B1 f.b.items.length f.d1, .slice f.B2 f.b.rules.length f.d2] 32) = w2 := ⟨_, rfl⟩
 have hy : Below w.heap.size w w2 := by rw [← hw2]; exact (Below.refl _ w).alloc (Nat.le_refl _) _
 have b0 : Box w2 w.heap.size #[.int .i64 f.t.len, .slice f.A1 f.t.rest.length f.c1, .slice f.A2 f.t.clo.length f.c2, .int .i64 f.c.n, .int .i64 f.c.f, .int .i64 f.c.k, .int .i64 f.b.props, .slice f.B1 f.b.items.length f.d1, .slice f.B2 f.b.rules.length f.d2] := by rw [← hw2]; exact Box.new w _ _
 have HL := Lib.hid (large_any f.t f.c f.b (fun _ => True) f.A1 f.A2 f.B1 f.B2 f.c1 f.c2 f.d1 f.d2 f.hp f.hq f.hr w2 (hf.below hy).bk)
 have HO := Lib.hid (fun (w' : World) (hb : Below w2.heap.size w2 w') => olong_any l A c w' hll ((hR.below hy).below hb))
 have x0 := b0.cell 0; have x1 := b0.cell 1; have x2 := b0.cell 2; have x3 := b0.cell 3; have x4 := b0.cell 4; have x5 := b0.cell 5; have x6 := b0.cell 6; have x7 := b0.cell 7; have x8 := b0.cell 8; simp only [List.getElem?_toArray, List.getElem?_cons_zero, List.getElem?_cons_succ] at x0 x1 x2 x3 x4 x5 x6 x7 x8
 rw [h] at HL
 rw [h'] at HO
 have hlen := lrg_len h
 have htlen := lrg_tlen h hz
 obtain ⟨hl3, hlw⟩ := lng_no h'
 have HLW := Lib.hid hlw
 have HB := Lib.hid (fun (w' : World) (hb : Below w.heap.size w w') => begin_ok (hf.below hb) hlen (hE.below hb) hz)
 unfold Fi.cells at HB
 obtain ⟨m, hm⟩ : ∃ m, m = min l.length 30 := ⟨_, rfl⟩
 have hm1 : m ≤ l.length ∧ m ≤ 30 := by omega
 have hm2 : m = l.length ∨ (m = 30 ∧ 30 < l.length) := by omega
 have HM := Lib.hid hm2
 have hso := OfOk.new hz
 clear hz h h' hlw hm hm2
 go_enter Tryz.func6, Tryz.ntmps6
 go_wp2_with (first
  | (go_at_call 34; (with_reducible refine HL.out.mono ?_); rintro e w3 ⟨rfl, hb3⟩; have b3 := b0.below hb3; have hy3 := hy.trans (hb3.mono hy.size); have y0 := b3.cell 0; have y1 := b3.cell 1; have y2 := b3.cell 2; have y3 := b3.cell 3; have y4 := b3.cell 4; have y5 := b3.cell 5; have y6 := b3.cell 6; have y7 := b3.cell 7; have y8 := b3.cell 8; simp only [List.getElem?_toArray, List.getElem?_cons_zero, List.getElem?_cons_succ] at y0 y1 y2 y3 y4 y5 y6 y7 y8)
  | (go_at_call 35; (with_reducible refine (HO.out _ hb3).mono ?_); rintro e w4 ⟨rfl, hb4⟩; have b4 := b3.below hb4; have hy4 := hy3.trans (hb4.mono hy3.size); have z0 := b4.cell 0; have z1 := b4.cell 1; have z2 := b4.cell 2; have z3 := b4.cell 3; have z4 := b4.cell 4; have z5 := b4.cell 5; have z6 := b4.cell 6; have z7 := b4.cell 7; have z8 := b4.cell 8; simp only [List.getElem?_toArray, List.getElem?_cons_zero, List.getElem?_cons_succ] at z0 z1 z2 z3 z4 z5 z6 z7 z8)
  | (go_at_call 36; (with_reducible refine (HB.out _ hy4).mono ?_); rintro e w5 ⟨g, x, rfl, hd⟩))
 clear hw2 HL HO HB x0 x1 x2 x3 x4 x5 x6 x7 x8 y0 y1 y2 y3 y4 y5 y6 y7 y8 z0 z1 z2 z3 z4 z5 z6 z7 z8
 have hkn := hd.kn
 clear hd
 go_loopw [8] (fun v wr => ∃ k : Nat, k ≤ m ∧ v = .int .i64 k ∧ KN w4 k (fun _ => False) g (runTo f.s0 l k) wr) (fun v _ => m - (intOf v).toNat)
 case atStart => exact ⟨0, by omega, rfl, by rw [runTo_zero]; exact hkn⟩
 case round =>
  clear hkn
  obtain ⟨k, hk, rfl, hkn⟩ := hrel
  by_cases hlt : k < m
  ·
   obtain ⟨ad, rfl, hab, c0⟩ := (hR.below hy4).at_ (k := k) (by omega)
   have htl := HLW.out k (by omega)
   have hrt := runTo_succ f.s0 l (k := k) (by omega)
   rw [nil_getD (by omega)] at htl hrt
   obtain ⟨tx, htx⟩ : ∃ tx, tx = l[k]'(by omega) := ⟨_, rfl⟩
   rw [← htx] at c0 htl hrt
   obtain ⟨sk, hsk⟩ : ∃ sk, sk = runTo f.s0 l k := ⟨_, rfl⟩
   rw [← hsk] at hkn hrt
   have HRT := Lib.hid hrt
   have HSK := Lib.hid hsk
   clear htx hsk hrt
   have q0 := (hkn.at_.cell (by exact hab)).trans c0
   have HD := Lib.hid (hkn.do_ (by omega) tx (by omega))
   have HH := Lib.hid (fun (w' : World) (hk6 : KN w4 (k + 1) (fun _ => False) g (runTo f.s0 l (k + 1)) w') => hk6.harmless (hf.below (hy4.trans (hk6.at_.mono hy4.size))) hlen (runTo_same f.s0 l (k + 1)))
   unfold Fi.cells at HH
   by_cases h4 : (((k : Int) % 4) == 0) = true
   ·go_wp2_with (first
     | (go_at_call 25; (with_reducible refine HD.out.mono ?_); rintro e w6 ⟨rfl, hk6, _⟩; rw [← HRT.out] at hk6; have b6 := b4.keep hk6.at_ b4.lt; have u0 := b6.cell 0; have u1 := b6.cell 1; have u2 := b6.cell 2; have u3 := b6.cell 3; have u4 := b6.cell 4; have u5 := b6.cell 5; have u6 := b6.cell 6; have u7 := b6.cell 7; have u8 := b6.cell 8; simp only [List.getElem?_toArray, List.getElem?_cons_zero, List.getElem?_cons_succ] at u0 u1 u2 u3 u4 u5 u6 u7 u8)
     | (go_at_call 27; (with_reducible refine (HH.out _ hk6).mono ?_); rintro e w7 ⟨rfl, hb7⟩; have hk7 := hk6.below hb7))
    go_roundw
    case rel => exact ⟨k + 1, by omega, by go_num, hk7⟩
    case measure => simp [intOf]; omega
   ·have h4' : (((k : Int) % 4) == 0) = false := by simpa using h4
    clear h4
    go_wp2_with (go_at_call 25; (with_reducible refine HD.out.mono ?_); rintro e w6 ⟨rfl, hk6, _⟩; rw [← HRT.out] at hk6)
    go_roundw
    case rel => exact ⟨k + 1, by omega, by go_num, hk6⟩
    case measure => simp [intOf]; omega
  ·obtain rfl : k = m := by omega
   have hyo := hy4.trans (hkn.at_.mono hy4.size)
   have b6 := b4.keep hkn.at_ b4.lt
   have u0 := b6.cell 0; have u1 := b6.cell 1; have u2 := b6.cell 2; have u3 := b6.cell 3; have u4 := b6.cell 4; have u5 := b6.cell 5; have u6 := b6.cell 6; have u7 := b6.cell 7; have u8 := b6.cell 8; simp only [List.getElem?_toArray, List.getElem?_cons_zero, List.getElem?_cons_succ] at u0 u1 u2 u3 u4 u5 u6 u7 u8
   have HH := Lib.hid (hkn.harmless (hf.below hyo) hlen (runTo_same f.s0 l k))
   unfold Fi.cells at HH
   have htx : k < l.length ∨ ¬ k < l.length := Decidable.em _
   rcases htx with hc | hc
   all_goals
    (try (have h30 : 30 ≤ k := by have := HM.out; omega))
    go_wp2_with (first
     | (go_at_call 27; (with_reducible refine HH.out.mono ?_); rintro e w7 ⟨rfl, hb7⟩; have hy7 := hyo.trans (hb7.mono hyo.size))
     | (go_at_call 31; (with_reducible refine (oknown_any (hE.below hy7)).mono ?_); rintro e wk ⟨rfl, hbk⟩))
    go_ret
    exact ⟨rfl, hy7.trans (hbk.mono hy7.size)⟩
theorem officeHarms_any {f : Fi} {w : World} (hf : f.In w) (hE : EnvA w) (l : List Wd) (A : Option Addr) (c : Nat) (hR : RS w A l) (hll : l.length ≤ 9223372036854775807) :
  Calls Tryz.prog 6 #[.agg f.cells, .slice A l.length c] w fun e w' => e = .returned (.bool true) ∧ Below w.heap.size w w' := by
 cases h : lrg f.t f.b with
 | true => exact pre_OfficeHarms hf hE l A c hR hll (.inl h)
 | false =>
  cases h' : lng l with
  | true => exact pre_OfficeHarms hf hE l A c hR hll (.inr (.inl ⟨h, h'⟩))
  | false =>
   by_cases hz : f.e = 0
   ·exact main_OfficeHarms hf hE l A c hR hll h h' hz
   ·exact pre_OfficeHarms hf hE l A c hR hll (.inr (.inr ⟨h, h', hz⟩))
end Go.Proofs.YtiapkffihpgdcaaGreatDoor
namespace Go.Proofs.YtiapkffihpgdcaaGreatDoor
open Go.ChangeShapes Go.WideShapes Go.ChangeAt Go.RowKit Go.Deep Go.Joins
theorem officeHarms_env {W : World} (hL : laidMetH Tryz.prog Rows.officeHarmsRow.laid W) (hs : W.ShapedOpen Tryz.prog) : EnvA W := by
 obtain ⟨h1, h2⟩ := plain_met (Lp := plainL) (by kernel_rfl) (by kernel_rfl) hL
 exact env_of h1 (by simp [plainL]) (by simp [plainL]) h2 hs
theorem officeHarms_lifted (os : Os) (started : os.Started) (H : Type) (enc : TypeId × Value → H) :
  ReturnsInHanded {} Tryz.checked os 6 .any (fun w args => (Rows.officeHarmsSpec.pre enc Tryz.prog Tryz.f6 [] false w args ∧ laidMetH Tryz.prog Rows.officeHarmsRow.laid w) ∧ sizedMet enc Tryz.prog Tryz.f6 (OpenSpec.ofChange Rows.officeHarmsSpec) false w args)
   (Rows.officeHarmsSpec.post enc Tryz.prog Tryz.f6 false true false false) := by
 refine handed_shaped (C := Tryz.checked) (X := fun w _ => laidMetH Tryz.prog Rows.officeHarmsRow.laid w) (fun _ _ _ hh h => h.of_heap hh) own_ started (by kernel_rfl) Tryz.func6
  (ChangeSpec.witness_shaped (enc := enc) (C := Tryz.checked) (os := os) (X := fun w _ => laidMetH Tryz.prog Rows.officeHarmsRow.laid w) false (witW os plainL) #[.agg #[.int .i64 0, .slice none 0 0, .slice none 0 0, .int .i64 0, .int .i64 0, .int .i64 0, .int .i64 0, .slice none 0 0, .slice none 0 0], .slice none 0 0] 8 (by unfold witW; rw [World.layVars_os]; rfl)
   (World.shaped_of_ZipB (by kernel_rfl) (by kernel_rfl)) (by kernel_rfl) (by kernel_rfl) (by kernel_rfl)
   (laidMetH_of_parts (by rw [show (Rows.officeHarmsRow.laid.filter fun x => x.2.handleName?.isNone) = plainL by kernel_rfl]; exact witW_met _ (by kernel_rfl) (by kernel_rfl)) (by kernel_rfl))) ?_
 intro W base args ds gs before hval0 hW hS hL
 have hval : ∀ (j : Nat) t v, Tryz.f6.params[j]? = some t → args[j]? = some v → Value.okWide Tryz.prog W .any base t v := hval0
 have hW' := hW
 obtain ⟨p, q, hA0, hV, rfl, hfz, hnd⟩ := hW
 have hA : DataW.TrodAll enc Tryz.prog W 0 (fun _ => true) true Tryz.f6.params.toList args.toList ds p := hA0
 rw [Tryz.params6] at hA hval
 obtain ⟨v0, v1, d0, d1, p0, p1, rfl, rfl, rfl, h0, h1⟩ := trodAll_two hA
 obtain ⟨f, rfl, hf⟩ := open_firm (hval 0 _ v0 rfl rfl) h0
 obtain ⟨l, A, c, rfl, hrs, hll, hlk⟩ := open_orders (hval 1 _ v1 rfl rfl) h1
 refine (officeHarms_any hf (officeHarms_env hL hS) l A c hrs hll).mono fun e W' ⟨he, hb⟩ => ?_
 subst he
 exact ⟨_, rfl, law_post hW' rfl (by kernel_rfl) rfl (by rw [Tryz.params6]; intro t ht; simp at ht; rcases ht with rfl | rfl <;> exact ⟨by kernel_rfl, of_decide_eq_true (by kernel_rfl)⟩) hb⟩
set_option maxHeartbeats 4000000 in
theorem officeHarms_closed : joinedFacts Tryz.prog 6 Tryz.f6 Rows.officeHarmsSpec Rows.officeHarmsRow = true := by
 unfold joinedFacts
 simp only [Bool.and_eq_true]
 repeat' apply And.intro
 all_goals (as_aux_lemma => kernel_rfl)
set_option maxHeartbeats 4000000 in
theorem officeHarms_wrap : Tryz.f6.isWrapper Tryz.prog Rows.officeHarmsRow.wrapper Rows.officeHarmsRow.mainSum := by
 unfold Func.isWrapper; first | (rw [if_pos (by decide +kernel)]; kernel_rfl) | (rw [if_neg (by decide +kernel)]; exact ⟨rfl, rfl⟩)
theorem officeHarms_named : Tryz.prog.funcNamed Rows.officeHarmsRow.func = some 6 := by kernel_rfl
theorem officeHarms_inst : Tryz.f6.isInstance Tryz.prog Rows.officeHarmsRow.origin Rows.officeHarmsRow.targs := of_decide_eq_true (by kernel_rfl)
set_option maxHeartbeats 4000000 in
theorem officeHarms_row : Rows.OfficeHarmsSaid :=
 OpenClaim.holds_of_wide 6 Tryz.f6 rfl rfl rfl rfl rfl rfl rfl ⟨rfl, rfl, rfl, rfl, rfl⟩ rfl rfl rfl rfl rfl officeHarms_named Tryz.func6 officeHarms_closed
  officeHarms_inst officeHarms_wrap
  (fun os started H enc _ => officeHarms_lifted os started H enc)
theorem officeHarms_wfT : Rows.officeHarmsRow.wfByText (OpenSpec.ofChange Rows.officeHarmsSpec) = true := by kernel_rfl
theorem office_main : Tryz.pinned.checked.prog.mainIs = some (true, "5a9a52965f4185065c0d39a39ec58f829537e604a07fc4f1dbce9d7d2d17f592".toList) := by kernel_rfl
theorem office_looks : true = Tryz.pinned.checked.prog.looks [] := by kernel_rfl
theorem officeHarms_goes : false = Rows.officeHarmsRow.goesBy Tryz.pinned.checked.prog := by kernel_rfl
theorem officeHarms_stand : ([32, 33].all fun u => !Tryz.prog.wantsStandIn u) = true := by kernel_rfl
set_option maxHeartbeats 4000000 in
theorem officeHarms_holds : Rows.OfficeHarmsCardSaid :=
 Claim7.holds_tied_plain_at .later [] [.data, .data, .data, .handle, .pinned] true (true, "5a9a52965f4185065c0d39a39ec58f829537e604a07fc4f1dbce9d7d2d17f592") true
  officeHarms_row (fun _ h => by cases h) officeHarms_wfT (fun _ h => by cases h) officeHarms_row_tie rfl ⟨rfl, rfl⟩ office_main rfl
  (fun f fn hf hfn => by
   obtain rfl : f = 6 := Option.some.inj (officeHarms_named.symm.trans hf) |>.symm
   obtain rfl : fn = Tryz.f6 := (Option.some.inj (Tryz.func6.symm.trans hfn)).symm
   exact ⟨office_looks, fun j t ht => by
    rw [Tryz.params6] at ht
    have hm : t ∈ [32, 33] := by simpa using Array.mem_of_getElem? ht
    exact (show Tryz.prog.wantsStandIn t = false by simpa using List.all_eq_true.1 officeHarms_stand t hm)⟩)
  officeHarms_goes
end Go.Proofs.YtiapkffihpgdcaaGreatDoor
