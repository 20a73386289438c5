/-
  TopHarm: for every firm and every list of orders of bulk at most 1048576 the law returns true, panics nowhere and leaves its arguments as they were: no child has a meal that it must avoid. On the tied card. Condition: the bulk of what is handed over is at most 1048576 (the second form); no other beyond the card.
-/
import Derived.Test.YtiapkffihpgdcaaGreatDoorQA1
import Derived.Test.YtiapkffihpgdcaaGreatDoorQA2
import Derived.Test.YtiapkffihpgdcaaGreatDoorQA3
import Derived.Test.YtiapkffihpgdcaaGreatDoorQA4
import Derived.Test.YtiapkffihpgdcaaGreatDoorQA5
import Derived.Test.YtiapkffihpgdcaaGreatDoorQA6
import Derived.Test.YtiapkffihpgdcaaGreatDoorQA7
import Derived.Test.YtiapkffihpgdcaaGreatDoorQA8
import Derived.Test.YtiapkffihpgdcaaGreatDoorQA9
import Derived.Test.YtiapkffihpgdcaaGreatDoorQA10
import Derived.Test.YtiapkffihpgdcaaGreatDoorQA11
import Derived.Test.YtiapkffihpgdcaaGreatDoorQA12
import Derived.Test.YtiapkffihpgdcaaGreatDoorQA13
import Derived.Test.YtiapkffihpgdcaaGreatDoorQA14
import Derived.Test.YtiapkffihpgdcaaGreatDoorQA15
import Derived.Test.YtiapkffihpgdcaaGreatDoorQA16
import Derived.Test.YtiapkffihpgdcaaGreatDoorQA17
import Derived.Test.YtiapkffihpgdcaaGreatDoorQA18
import Derived.Test.YtiapkffihpgdcaaGreatDoorQA19
import Derived.Test.YtiapkffihpgdcaaGreatDoorQA20
import Derived.Test.YtiapkffihpgdcaaGreatDoorQA21
import Derived.Test.YtiapkffihpgdcaaGreatDoorQA22
import Derived.Test.YtiapkffihpgdcaaGreatDoorQA23
import Derived.Test.YtiapkffihpgdcaaGreatDoorQA24
import Derived.Test.YtiapkffihpgdcaaGreatDoorQA25
import Derived.Test.YtiapkffihpgdcaaGreatDoorQA26
import Derived.Test.YtiapkffihpgdcaaGreatDoorQA27
import Derived.Test.YtiapkffihpgdcaaGreatDoorQA28
import Derived.Test.YtiapkffihpgdcaaGreatDoorQA29
import Derived.Test.YtiapkffihpgdcaaGreatDoorQA30
import Derived.Test.YtiapkffihpgdcaaGreatDoorQA31
import Derived.IntWalk
import Derived.ScopeJumps
import Derived.WalkMore
import Derived.StillTailTactics
import Derived.Lib.QuietBelow
import Derived.BigRegion
import Derived.Deep.DeepHandedRow
import Derived.Test.YtiapkffihpgdcaaGreatDoorTie
import Derived.Test.YtiapkffihpgdcaaGreatDoorCards
import Derived.SevenTiedAt
import Derived.ChangeMaps5
set_option linter.unusedVariables false
set_option linter.unusedSimpArgs false
set_option maxRecDepth 100000
namespace Go.Proofs.YtiapkffihpgdcaaGreatDoor
open Go.RowKit
structure Fi.Big (f : Fi) : Prop where
 rest : f.t.rest.length ≤ 1000000000
 clo : f.t.clo.length ≤ 1000000000
 bk : BkLen f.b
theorem Fi.Big.len {f : Fi} (hz : f.e = 0) : f.Len := by
 obtain ⟨h1, h2, h3⟩ := newE_ok hz
 exact ⟨by have := isSet_len h1.rest (by omega); omega, by have := h1.clo60; omega, h3.len⟩
/-- An office that was made behind a later world was made behind the earlier one. -/
theorem KN.onto {w0 w1 w : World} {N : Nat} {Z : Nat → Prop} {g : Nat} {s : Of} (hk : KN w1 N Z g s w) (hb : Below w0.heap.size w0 w1) : KN w0 N Z g s w := by
 obtain ⟨F, h, hP, hE, hy, hF, hZ⟩ := hk
 exact ⟨F, h, hP, hE, hb.trans (hy.mono hb.size), fun k hk => Nat.le_trans hb.size (hF k hk), hZ⟩
/-- The firm is one that the laws over all begin with. -/
structure Fi.St (f : Fi) : Prop where
 len : f.t.len ≤ 120
 items : f.b.items.length ≤ 60
 rules : f.b.rules.length ≤ 60
 clo : f.t.clo.length ≤ 100
 e : f.e = 0
section
variable {f : Fi} {w : World} (hf : f.In w) (hB : f.Big) (hE : EnvA w)
include hf hB hE
theorem bnew_any : Calls Tryz.prog 20 #[.agg #[.int .i64 f.t.len, .slice f.A1 f.t.rest.length f.c1, .slice f.A2 f.t.clo.length f.c2], .agg #[.int .i64 f.c.n, .int .i64 f.c.f, .int .i64 f.c.k], .agg #[.int .i64 f.b.props, .slice f.B1 f.b.items.length f.d1, .slice f.B2 f.b.rules.length f.d2]] w
  fun e w' => (f.e ≠ 0 ∧ e = .returned (.tuple #[.pointer none, .int .i64 f.e]) ∧ Below w.heap.size w w') ∨ (f.e = 0 ∧ ∃ g, e = .returned (.tuple #[.pointer (some ⟨g, 0, none⟩), .int .i64 0]) ∧ KN w 0 (fun _ => False) g f.s0 w') := by
 refine (new_any f.t f.c f.b hB.rest hB.clo hB.bk f.A1 f.A2 f.c1 f.c2 _ f.B1 f.B2 f.d1 f.d2 f.hp f.hq f.hr w hf.rest hf.clo hf.bk hE.z.size).mono ?_
 rintro e w' (⟨h, he, hb⟩ | ⟨h, g, hh, he, hP, hb⟩)
 ·exact .inl ⟨h, he, hb⟩
 ·exact .inr ⟨h, g, he, _, hh, hP, hE.below hb, hb, fun k hk => hk.1, fun _ hz => hz.elim⟩
set_option maxHeartbeats 3200000 in
theorem started_any :
  Calls Tryz.prog 22 #[.agg f.cells] w fun e w' => (¬ f.St ∧ e = .returned (.tuple #[.pointer none, .bool false]) ∧ Below w.heap.size w w') ∨ (f.St ∧ ∃ g, e = .returned (.tuple #[.pointer (some ⟨g, 0, none⟩), .bool true]) ∧ KN w 0 (fun _ => False) g f.s0 w') := by
 unfold Fi.cells
 obtain ⟨w2, hw2⟩ : ∃ w2, w.alloc (.cells #[.int .i64 f.t.len, .slice f.A1 f.t.rest.length f.c1, .slice f.A2 f.t.clo.length f.c2, .int .i64 f.c.n, .int .i64 f.c.f, .int .i64 f.c.k, .int .i64 f.b.props, .slice f.B1 f.b.items.length f.d1, .slice f.B2 f.b.rules.length f.d2] 32) = w2 := ⟨_, rfl⟩
 have hy : Below w.heap.size w w2 := by rw [← hw2]; exact (Below.refl _ w).alloc (Nat.le_refl _) _
 have b0 : Box w2 w.heap.size #[.int .i64 f.t.len, .slice f.A1 f.t.rest.length f.c1, .slice f.A2 f.t.clo.length f.c2, .int .i64 f.c.n, .int .i64 f.c.f, .int .i64 f.c.k, .int .i64 f.b.props, .slice f.B1 f.b.items.length f.d1, .slice f.B2 f.b.rules.length f.d2] := by rw [← hw2]; exact Box.new w _ _
 have x0 := b0.cell 0; have x1 := b0.cell 1; have x2 := b0.cell 2; have x3 := b0.cell 3; have x4 := b0.cell 4; have x5 := b0.cell 5; have x6 := b0.cell 6; have x7 := b0.cell 7; have x8 := b0.cell 8; simp only [List.getElem?_toArray, List.getElem?_cons_zero, List.getElem?_cons_succ] at x0 x1 x2 x3 x4 x5 x6 x7 x8
 have HN := Lib.hid (fun (w' : World) (hb : Below w.heap.size w w') => bnew_any (hf.below hb) hB (hE.below hb))
 obtain ⟨E, hEE⟩ : ∃ E, E = f.e := ⟨_, rfl⟩
 rw [← hEE] at HN
 have HS := Lib.hid (fun (h : f.St) => hEE.trans h.e)
 have HS2 := Lib.hid (fun (h1 : decide ((120 : Int) < f.t.len) = false) (h2 : decide ((60 : Int) < (f.b.items.length : Int)) = false) (h3 : decide ((60 : Int) < (f.b.rules.length : Int)) = false) (h4 : decide ((100 : Int) < (f.t.clo.length : Int)) = false) (hz : E = 0) => by
  rw [decide_eq_false_iff_not] at h1 h2 h3 h4
  exact (⟨by omega, by omega, by omega, by omega, hEE.symm.trans hz⟩ : f.St))
 clear hEE hB hE hf
 cases h1 : decide ((120 : Int) < f.t.len) with
 | true =>
  go_enter Tryz.func22, Tryz.ntmps22
  go_wp2_with fail
  go_ret2
  exact .inl ⟨fun h => by have := h.len; rw [decide_eq_true_eq] at h1; omega, rfl, hy⟩
 | false =>
  cases h2 : decide ((60 : Int) < (f.b.items.length : Int)) with
  | true =>
   go_enter Tryz.func22, Tryz.ntmps22
   go_wp2_with fail
   go_ret2
   exact .inl ⟨fun h => by have := h.items; rw [decide_eq_true_eq] at h2; omega, rfl, hy⟩
  | false =>
   cases h3 : decide ((60 : Int) < (f.b.rules.length : Int)) with
   | true =>
    go_enter Tryz.func22, Tryz.ntmps22
    go_wp2_with fail
    go_ret2
    exact .inl ⟨fun h => by have := h.rules; rw [decide_eq_true_eq] at h3; omega, rfl, hy⟩
   | false =>
    cases h4 : decide ((100 : Int) < (f.t.clo.length : Int)) with
    | true =>
     go_enter Tryz.func22, Tryz.ntmps22
     go_wp2_with fail
     go_ret2
     exact .inl ⟨fun h => by have := h.clo; rw [decide_eq_true_eq] at h4; omega, rfl, hy⟩
    | false =>
     by_cases hz : E = 0
     ·go_enter Tryz.func22, Tryz.ntmps22
      go_wp2_with (go_at_call 20; (with_reducible refine (HN.out _ hy).mono ?_); rintro e w3 (⟨h, _⟩ | ⟨_, g, rfl, hk⟩); exact absurd hz h)
      go_ret2
      exact .inr ⟨HS2.out h1 h2 h3 h4 hz, g, rfl, hk.onto hy⟩
     ·have hz' : (E == 0) = false := by simpa using hz
      go_enter Tryz.func22, Tryz.ntmps22
      go_wp2_with (go_at_call 20; (with_reducible refine (HN.out _ hy).mono ?_); rintro e w3 (⟨_, rfl, hb3⟩ | ⟨h, _⟩); rotate_left; exact absurd h hz)
      go_ret2
      exact .inl ⟨fun h => hz (HS.out h), rfl, hy.trans (hb3.mono hy.size)⟩
end
end Go.Proofs.YtiapkffihpgdcaaGreatDoor
namespace Go.Proofs.YtiapkffihpgdcaaGreatDoor
theorem harm_kids {o : Of} {s : Wd} (h : doE o s = 14) : 0 < o.kids.length := by
 have hk : ∀ n, ¬ hasK o.kids n = false → 0 < o.kids.length := fun n hn => by
  have hn : hasK o.kids n = true := by simpa using hn
  obtain ⟨x, hx, _⟩ := (hasK_iff _ _).1 hn
  exact List.length_pos_of_mem hx
 unfold doE at h
 split at h
 ·omega
 ·split at h
  ·omega
  ·rename_i r _ _
   unfold exE at h
   split at h
   ·(repeat' split at h) <;> omega
   split at h
   ·unfold serE at h
    split at h
    ·omega
    split at h
    ·omega
    split at h
    ·omega
    split at h
    ·rename_i ha
     obtain ⟨i, hi, _⟩ := (anyTo_iff _ _).1 ha
     omega
    ·omega
   split at h
   ·unfold metE at h
    (repeat' split at h) <;> omega
   split at h
   ·unfold chgE at h
    split at h
    ·omega
    ·rename_i hn; exact hk _ hn
   split at h
   ·unfold chgE at h
    split at h
    ·omega
    ·rename_i hn; exact hk _ hn
   split at h
   ·unfold freE at h
    split at h
    ·omega
    ·rename_i hn; exact hk _ hn
   split at h
   ·unfold cokE at h
    (repeat' split at h) <;> omega
   ·unfold eteE at h
    (repeat' split at h) <;> omega
end Go.Proofs.YtiapkffihpgdcaaGreatDoor
namespace Go.Proofs.YtiapkffihpgdcaaGreatDoor
open Go.RowKit
theorem KN.harmless {w0 w : World} {N : Nat} {Z : Nat → Prop} {g : Nat} {s : Of} (hk : KN w0 N Z g s w) {f : Fi} (hf : f.In w) (hl : f.Len) (e : s.tm = f.t ∧ s.cy = f.c ∧ s.bk = f.b) :
  Calls Tryz.prog 27 #[.pointer (some ⟨g, 0, none⟩), .agg f.cells] w fun e w' => e = .returned (.bool true) ∧ Below w.heap.size w w' := by
 obtain ⟨F, h, hP, _⟩ := hk
 exact harmless_any hP hf hl e.1 e.2.1 e.2.2
section
variable {w0 w : World} {N : Nat} {Z : Nat → Prop} {g : Nat} {s : Of}
theorem KN.now (hk : KN w0 N Z g s w) : Calls Tryz.prog 21 #[.pointer (some ⟨g, 0, none⟩)] w fun e w' => e = .returned (.int .i64 s.now) ∧ Below w.heap.size w w' := by
 obtain ⟨F, h, hP, _⟩ := hk
 exact oNow_any hP
theorem KN.book (hk : KN w0 N Z g s w) : Calls Tryz.prog 23 #[.pointer (some ⟨g, 0, none⟩)] w fun e w' => e = .returned (St (bok s)) ∧ Below w.heap.size w w' := by
 obtain ⟨F, h, hP, _⟩ := hk
 exact oBook_any hP
theorem KN.facts (hk : KN w0 N Z g s w) : Calls Tryz.prog 24 #[.pointer (some ⟨g, 0, none⟩)] w fun e w' => ∃ A c, e = .returned (.slice A s.facts.length c) ∧ s.facts.length ≤ c ∧ RF w' w'.heap.size A s.facts ∧ Below w.heap.size w w' := by
 obtain ⟨F, h, hP, _⟩ := hk
 refine (oFactsC_any hP).mono ?_
 rintro e w' ⟨A, c, he, hc, hr, hb⟩
 exact ⟨A, c, he, hc, RF.of_readsF hr, hb⟩
theorem KN.eaters (hk : KN w0 N Z g s w) : Calls Tryz.prog 26 #[.pointer (some ⟨g, 0, none⟩)] w fun e w' => ∃ A c hk, e = .returned (.slice A s.kids.length c) ∧ RKd (fun _ => True) w' A s.kids hk ∧ Below w.heap.size w w' := by
 obtain ⟨F, h, hP, _⟩ := hk
 refine (oEaters_any hP).mono ?_
 rintro e w' ⟨A, c, hk, he, hr, hb⟩
 exact ⟨A, c, hk, he, hr.mono fun _ _ => trivial, hb⟩
end
set_option maxHeartbeats 3200000 in
theorem topHarm_no {f : Fi} {w : World} (hf : f.In w) (hB : f.Big) (hE : EnvA w) (l : List Wd) (A : Option Addr) (c : Nat) (hR : RS w A l) (hll : l.length ≤ 9223372036854775807) (hlw : ∀ k, k < l.length → (l.getD k []).length ≤ 1000000000) (hst : ¬ f.St) :
  Calls Tryz.prog 3 #[.agg f.cells, .slice A l.length c] w fun e w' => e = .returned (.bool true) ∧ Below w.heap.size w w' := by
 have HS := Lib.hid (fun (w' : World) (hb : Below w.heap.size w w') => started_any (hf.below hb) hB (hE.below hb))
 unfold Fi.cells
 obtain ⟨w2, hw2⟩ : ∃ w2, w.alloc (.cells #[.int .i64 f.t.len, .slice f.A1 f.t.rest.length f.c1, .slice f.A2 f.t.clo.length f.c2, .int .i64 f.c.n, .int .i64 f.c.f, .int .i64 f.c.k, .int .i64 f.b.props, .slice f.B1 f.b.items.length f.d1, .slice f.B2 f.b.rules.length f.d2] 32) = w2 := ⟨_, rfl⟩
 have hy : Below w.heap.size w w2 := by rw [← hw2]; exact (Below.refl _ w).alloc (Nat.le_refl _) _
 have b0 : Box w2 w.heap.size #[.int .i64 f.t.len, .slice f.A1 f.t.rest.length f.c1, .slice f.A2 f.t.clo.length f.c2, .int .i64 f.c.n, .int .i64 f.c.f, .int .i64 f.c.k, .int .i64 f.b.props, .slice f.B1 f.b.items.length f.d1, .slice f.B2 f.b.rules.length f.d2] := by rw [← hw2]; exact Box.new w _ _
 unfold Fi.cells at HS
 have hE2 := hE.below hy
 go_enter Tryz.func3, Tryz.ntmps3
 go_wp2_with (first
   | (go_at_call 19; (with_reducible refine (example_any _).mono ?_); rintro e w3 ⟨a, b, rfl, ba, bb, hb3⟩; have hE3 := hE2.below hb3)
   | (go_at_call 20; (with_reducible refine (x_made (w0 := w2) (hE3.below ((Below.refl _ _).alloc (Nat.le_refl _) _)) (hb3.alloc hb3.size _) (ba.alloc _) (bb.alloc _)).mono ?_); rintro e w4 ⟨gx, rfl, hk4⟩; have hn4 := hk4.now; rw [show xs0.now = 0 from rfl] at hn4)
   | (go_at_call 21; (with_reducible refine hn4.mono ?_); rintro e w5 ⟨rfl, hb5⟩; have hk5 := hk4.below hb5; have hy5 := hy.trans (hk5.at_.mono hy.size); have b5 := b0.keep hk5.at_ b0.lt; have y0 := b5.cell 0; have y1 := b5.cell 1; have y2 := b5.cell 2; have y3 := b5.cell 3; have y4 := b5.cell 4; have y5 := b5.cell 5; have y6 := b5.cell 6; have y7 := b5.cell 7; have y8 := b5.cell 8; simp only [List.getElem?_toArray, List.getElem?_cons_zero, List.getElem?_cons_succ] at y0 y1 y2 y3 y4 y5 y6 y7 y8)
   | (go_at_call 22; (with_reducible refine (HS.out _ hy5).mono ?_); rintro e w6 (⟨_, rfl, hb6⟩ | ⟨h, _⟩); rotate_left; exact absurd h hst))
 go_ret
 exact ⟨rfl, hy5.trans (hb6.mono hy5.size)⟩
set_option maxHeartbeats 3200000 in
theorem topHarm_yes {f : Fi} {w : World} (hf : f.In w) (hB : f.Big) (hE : EnvA w) (l : List Wd) (A : Option Addr) (c : Nat) (hR : RS w A l) (hll : l.length ≤ 9223372036854775807) (hlw : ∀ k, k < l.length → (l.getD k []).length ≤ 1000000000) (hst : f.St) :
  Calls Tryz.prog 3 #[.agg f.cells, .slice A l.length c] w fun e w' => e = .returned (.bool true) ∧ Below w.heap.size w w' := by
 have HS := Lib.hid (fun (w' : World) (hb : Below w.heap.size w w') => started_any (hf.below hb) hB (hE.below hb))
 unfold Fi.cells
 obtain ⟨w2, hw2⟩ : ∃ w2, w.alloc (.cells #[.int .i64 f.t.len, .slice f.A1 f.t.rest.length f.c1, .slice f.A2 f.t.clo.length f.c2, .int .i64 f.c.n, .int .i64 f.c.f, .int .i64 f.c.k, .int .i64 f.b.props, .slice f.B1 f.b.items.length f.d1, .slice f.B2 f.b.rules.length f.d2] 32) = w2 := ⟨_, rfl⟩
 have hy : Below w.heap.size w w2 := by rw [← hw2]; exact (Below.refl _ w).alloc (Nat.le_refl _) _
 have b0 : Box w2 w.heap.size #[.int .i64 f.t.len, .slice f.A1 f.t.rest.length f.c1, .slice f.A2 f.t.clo.length f.c2, .int .i64 f.c.n, .int .i64 f.c.f, .int .i64 f.c.k, .int .i64 f.b.props, .slice f.B1 f.b.items.length f.d1, .slice f.B2 f.b.rules.length f.d2] := by rw [← hw2]; exact Box.new w _ _
 unfold Fi.cells at HS
 have hE2 := hE.below hy
 have hlen := Fi.Big.len hst.e
 have HLW := Lib.hid hlw
 obtain ⟨m, hm⟩ : ∃ m, m = min l.length 30 := ⟨_, rfl⟩
 have hm1 : m ≤ l.length ∧ m ≤ 30 := by omega
 have hm2 : m = l.length ∨ (m = 30 ∧ 30 < l.length) := by omega
 have HM := Lib.hid hm2
 clear hlw hm hm2
 go_enter Tryz.func3, Tryz.ntmps3
 go_wp2_with (first
   | (go_at_call 19; (with_reducible refine (example_any _).mono ?_); rintro e w3 ⟨a, b, rfl, ba, bb, hb3⟩; have hE3 := hE2.below hb3)
   | (go_at_call 20; (with_reducible refine (x_made (w0 := w2) (hE3.below ((Below.refl _ _).alloc (Nat.le_refl _) _)) (hb3.alloc hb3.size _) (ba.alloc _) (bb.alloc _)).mono ?_); rintro e w4 ⟨gx, rfl, hk4⟩; have hn4 := hk4.now; rw [show xs0.now = 0 from rfl] at hn4)
   | (go_at_call 21; (with_reducible refine hn4.mono ?_); rintro e w5 ⟨rfl, hb5⟩; have hk5 := hk4.below hb5; have hy5 := hy.trans (hk5.at_.mono hy.size); have b5 := b0.keep hk5.at_ b0.lt; have y0 := b5.cell 0; have y1 := b5.cell 1; have y2 := b5.cell 2; have y3 := b5.cell 3; have y4 := b5.cell 4; have y5 := b5.cell 5; have y6 := b5.cell 6; have y7 := b5.cell 7; have y8 := b5.cell 8; simp only [List.getElem?_toArray, List.getElem?_cons_zero, List.getElem?_cons_succ] at y0 y1 y2 y3 y4 y5 y6 y7 y8)
   | (go_at_call 22; (with_reducible refine (HS.out _ hy5).mono ?_); rintro e w6 (⟨h, _⟩ | ⟨_, g, rfl, hk6⟩); exact absurd hst h))
 clear hw2 y0 y1 y2 y3 y4 y5 y6 y7 y8 hk4 hk5 hn4 ba bb HS
 go_loopw [10] (fun v wr => ∃ k : Nat, k ≤ m ∧ v = .int .i64 k ∧ KN w5 k (fun _ => False) g (runTo f.s0 l k) wr) (fun v _ => m - (intOf v).toNat)
 case atStart => exact ⟨0, by omega, rfl, by rw [runTo_zero]; exact hk6⟩
 case round =>
  clear hk6
  obtain ⟨k, hk, rfl, hkn⟩ := hrel
  by_cases hlt : k < m
  ·obtain ⟨ad, rfl, hab, c0⟩ := (hR.below hy5).at_ (k := k) (by omega)
   have htl := HLW.out k (by omega)
   have hrt := runTo_succ f.s0 l (k := k) (by omega)
   rw [nil_getD (by omega)] at htl hrt
   obtain ⟨tx, htx⟩ : ∃ tx, tx = l[k]'(by omega) := ⟨_, rfl⟩
   rw [← htx] at c0 htl hrt
   obtain ⟨sk, hsk⟩ : ∃ sk, sk = runTo f.s0 l k := ⟨_, rfl⟩
   rw [← hsk] at hkn hrt
   have HRT := Lib.hid hrt
   have HSK := Lib.hid hsk
   clear htx hsk hrt
   have q0 := (hkn.at_.cell (by exact hab)).trans c0
   have hab2 : (ad.add k).block < wr.heap.size := Nat.lt_of_lt_of_le hab hkn.at_.size
   have HBk := Lib.hid hkn.book
   have HFc := Lib.hid (fun (w' : World) (hb : Below wr.heap.size wr w') => (hkn.below hb).facts)
   have HD := Lib.hid (fun (w' : World) (hb : Below wr.heap.size wr w') => (hkn.below hb).do_ (by omega) tx (by omega))
   by_cases hz : doE sk tx = 0
   ·rw [hz] at HD
    clear hz
    go_wp2_with (first
     | (go_at_call 23; (with_reducible refine HBk.out.mono ?_); rintro e w7 ⟨rfl, hb7⟩)
     | (go_at_call 24; (with_reducible refine (HFc.out _ hb7).mono ?_); rintro e w8 ⟨FA, Fc, rfl, _, _, hb8⟩; have c8 := hb7.trans (hb8.mono hb7.size); have q8 := (c8.cell (by exact hab2)).trans q0)
     | (go_at_call 25; (with_reducible refine (HD.out _ c8).mono ?_); rintro e w9 ⟨rfl, hk9, _⟩; rw [← HRT.out] at hk9))
    go_roundw
    case rel => exact ⟨k + 1, by omega, by go_num, hk9⟩
    case measure => simp [intOf]; omega
   ·have hds := doS_bad hz
    have hkd : doE sk tx = 14 → 0 < sk.kids.length := harm_kids
    obtain ⟨E, hEE⟩ : ∃ E, E = doE sk tx := ⟨_, rfl⟩
    rw [← hEE] at HD hz hkd
    rw [hds] at HD
    have HRS := Lib.hid (HRT.out.trans hds)
    have hne : (E != 0) = true := by simpa using hz
    obtain ⟨BK, hBK⟩ : ∃ BK, BK = bok sk := ⟨_, rfl⟩
    rw [← hBK] at HBk
    have HBK := Lib.hid hBK
    have n1 : ((sk.facts.length : Int) != (sk.facts.length : Int)) = false := by simp
    clear hds hEE hz hBK
    by_cases h14 : E = 14
    ·have hpos := hkd h14
     have h14' : (E == 14) = true := by simp [h14]
     have n2 : ((sk.kids.length : Int) == 0) = false := by rw [beq_eq_false_iff_ne]; omega
     clear hkd h14
     go_wp2_with (first
      | (go_at_call 23; (with_reducible refine HBk.out.mono ?_); rintro e w7 ⟨rfl, hb7⟩)
      | (go_at_call 24; (with_reducible refine (HFc.out _ hb7).mono ?_); rintro e w8 ⟨FA, Fc, rfl, _, _, hb8⟩; have c8 := hb7.trans (hb8.mono hb7.size); have q8 := (c8.cell (by exact hab2)).trans q0)
      | (go_at_call 25; (with_reducible refine (HD.out _ c8).mono ?_); rintro e w9 ⟨rfl, hk9, _⟩; have HB9 := Lib.hid hk9.book; rw [← HBK.out] at HB9)
      | (go_at_call 23; (with_reducible refine HB9.out.mono ?_); rintro e wa ⟨rfl, hba⟩; have hka := hk9.below hba; have HFa := Lib.hid hka.facts)
      | (go_at_call 24; (with_reducible refine HFa.out.mono ?_); rintro e wb ⟨FB, Fd, rfl, _, _, hbb⟩; have hkb := hka.below hbb; have HEb := Lib.hid hkb.eaters)
      | (go_at_call 26; (with_reducible refine HEb.out.mono ?_); rintro e wc ⟨KA, Kc, ek, rfl, _, hbc⟩; have hkc := hkb.below hbc; rw [← HRS.out] at hkc))
     go_roundw
     case rel => exact ⟨k + 1, by omega, by go_num, hkc⟩
     case measure => simp [intOf]; omega
    ·have h14' : (E == 14) = false := by simpa using h14
     clear hkd h14
     go_wp2_with (first
      | (go_at_call 23; (with_reducible refine HBk.out.mono ?_); rintro e w7 ⟨rfl, hb7⟩)
      | (go_at_call 24; (with_reducible refine (HFc.out _ hb7).mono ?_); rintro e w8 ⟨FA, Fc, rfl, _, _, hb8⟩; have c8 := hb7.trans (hb8.mono hb7.size); have q8 := (c8.cell (by exact hab2)).trans q0)
      | (go_at_call 25; (with_reducible refine (HD.out _ c8).mono ?_); rintro e w9 ⟨rfl, hk9, _⟩; have HB9 := Lib.hid hk9.book; rw [← HBK.out] at HB9)
      | (go_at_call 23; (with_reducible refine HB9.out.mono ?_); rintro e wa ⟨rfl, hba⟩; have hka := hk9.below hba; have HFa := Lib.hid hka.facts)
      | (go_at_call 24; (with_reducible refine HFa.out.mono ?_); rintro e wb ⟨FB, Fd, rfl, _, _, hbb⟩; have hkb := hka.below hbb; rw [← HRS.out] at hkb))
     go_roundw
     case rel => exact ⟨k + 1, by omega, by go_num, hkb⟩
     case measure => simp [intOf]; omega
  ·obtain rfl : k = m := by omega
   have hyo := hy5.trans (hkn.at_.mono hy5.size)
   have b6 := b5.keep hkn.at_ b5.lt
   have u0 := b6.cell 0; have u1 := b6.cell 1; have u2 := b6.cell 2; have u3 := b6.cell 3; have u4 := b6.cell 4; have u5 := b6.cell 5; have u6 := b6.cell 6; have u7 := b6.cell 7; have u8 := b6.cell 8; simp only [List.getElem?_toArray, List.getElem?_cons_zero, List.getElem?_cons_succ] at u0 u1 u2 u3 u4 u5 u6 u7 u8
   have HH := Lib.hid (hkn.harmless (hf.below hyo) hlen (runTo_same f.s0 l k))
   unfold Fi.cells at HH
   have htx : k < l.length ∨ ¬ k < l.length := Decidable.em _
   rcases htx with hc | hc
   all_goals
    (try (have h30 : 30 ≤ k := by have := HM.out; omega))
    go_wp2_with (go_at_call 27; (with_reducible refine HH.out.mono ?_); rintro e w7 ⟨rfl, hb7⟩; have hy7 := hyo.trans (hb7.mono hyo.size))
    go_ret
    exact ⟨rfl, hy7⟩
theorem topHarm_any {f : Fi} {w : World} (hf : f.In w) (hB : f.Big) (hE : EnvA w) (l : List Wd) (A : Option Addr) (c : Nat) (hR : RS w A l) (hll : l.length ≤ 9223372036854775807) (hlw : ∀ k, k < l.length → (l.getD k []).length ≤ 1000000000) :
  Calls Tryz.prog 3 #[.agg f.cells, .slice A l.length c] w fun e w' => e = .returned (.bool true) ∧ Below w.heap.size w w' := by
 by_cases hst : f.St
 ·exact topHarm_yes hf hB hE l A c hR hll hlw hst
 ·exact topHarm_no hf hB hE l A c hR hll hlw hst
end Go.Proofs.YtiapkffihpgdcaaGreatDoor
namespace Go.Proofs.YtiapkffihpgdcaaGreatDoor
open Go.ChangeShapes Go.WideShapes Go.ChangeAt Go.RowKit Go.Deep Go.Joins
section
variable {H : Type} {enc : TypeId × Value → H} {W : World}
theorem bulk_one (d : DataW H) : 1 ≤ Rows.uptoBulk d := by
 cases d with
 | lit l => cases l <;> simp [Rows.uptoBulk]
 | nil => simp [Rows.uptoBulk]
 | ptr d => simp [Rows.uptoBulk]
 | slice elems spare => simp [Rows.uptoBulk]
 | agg parts => simp [Rows.uptoBulk]
 | iface t d => simp [Rows.uptoBulk]
 | map entries => simp [Rows.uptoBulk]
 | held h => simp [Rows.uptoBulk]
theorem bulk_part {d : DataW H} {l : List (DataW H)} (h : d ∈ l) : Rows.uptoBulk d ≤ Rows.uptoBulkAll l := by
 induction l with
 | nil => cases h
 | cons x r ih =>
  simp only [Rows.uptoBulkAll]
  cases List.mem_cons.1 h with
  | inl e => subst e; omega
  | inr e => have := ih e; omega
theorem bulk_length (l : List (DataW H)) : l.length ≤ Rows.uptoBulkAll l := by
 induction l with
 | nil => simp [Rows.uptoBulkAll]
 | cons x r ih => have := bulk_one x; simp only [Rows.uptoBulkAll, List.length_cons]; omega
theorem bulk_agg {d : DataW H} {l : List (DataW H)} (h : d ∈ l) : Rows.uptoBulk d ≤ Rows.uptoBulk (.agg l) := by
 have := bulk_part h
 simp only [Rows.uptoBulk]; omega
theorem bulk_elem {d : DataW H} {l r : List (DataW H)} (h : d ∈ l) : Rows.uptoBulk d ≤ Rows.uptoBulk (.slice l r) := by
 have := bulk_part h
 simp only [Rows.uptoBulk]; omega
theorem bulk_slice {t e : TypeId} {fuel : Nat} {A : Option Addr} {n c : Nat} {x : DataW H × List MemPlace} (ht : Tryz.prog.underlying t = some (.slice e)) (h : DataW.trod enc Tryz.prog W 0 (fun _ => true) true fuel t [.slice A n c] = some x) : n ≤ Rows.uptoBulk x.1 := by
 rcases open_slice ht h with ⟨hcs, -⟩ | ⟨a, len, cap, m, k, D, Pl, hcs, -, -, -, -, hx, -⟩
 ·simp only [List.cons.injEq, Value.slice.injEq, and_true] at hcs
  omega
 ·simp only [List.cons.injEq, Value.slice.injEq, and_true] at hcs
  obtain ⟨-, rfl, -⟩ := hcs
  subst hx
  have := bulk_length ((List.range n).map D)
  rw [List.length_map, List.length_range] at this
  simp only [Rows.uptoBulk]; omega
theorem bulk_two {t e : TypeId} {fs : Array Field} {fuel : Nat} {A : Option Addr} {n c : Nat} {x : DataW H × List MemPlace} (ht : Tryz.prog.underlying t = some (.slice e)) (he : Tryz.prog.underlying e = some (.struct fs))
  (hone : oneCellFields Tryz.prog fs = true) (hC : Tryz.prog.cellsOf e = fs.size) (hs : fs.size = 2) (h : DataW.trod enc Tryz.prog W 0 (fun _ => true) true fuel t [.slice A n c] = some x) {f g : Nat → Value} (hR : R2 (fun _ => True) W A n f g) :
  ∀ i, i < n → ∀ (j : Nat) (q : Field), fs[j]? = some q → ∃ (k : Nat) (y : DataW H × List MemPlace), Rows.uptoBulk y.1 ≤ Rows.uptoBulk x.1 ∧ DataW.trod enc Tryz.prog W 0 (fun _ => true) true k q.type [if j = 0 then f i else g i] = some y := by
 intro i hi j q hq
 rcases open_slice_fields ht he hone hC h with ⟨hcs, -⟩ | ⟨a, len, cap, m, D, Pl, hcs, -, hl, -, hm, hx, hD⟩
 ·simp only [List.cons.injEq, Value.slice.injEq, and_true] at hcs
  omega
 ·simp only [List.cons.injEq, Value.slice.injEq, and_true] at hcs
  obtain ⟨rfl, rfl, -⟩ := hcs
  simp only [if_true] at hm
  obtain ⟨ys, k, e1, -, -, hf⟩ := hD i (by omega)
  obtain ⟨v, y, c0, hy, ht0⟩ := hf j q hq
  have hj : j < 2 := by have := (Array.getElem?_eq_some_iff.1 hq).1; omega
  obtain ⟨ad, ea, -, -, d0, d1⟩ := hR.at_ hi
  obtain rfl := Option.some.inj ea
  rw [hs] at c0
  have hv : v = if j = 0 then f i else g i := by
   by_cases e : j = 0
   ·subst e
    rw [if_pos rfl]
    have := c0.symm.trans d0
    exact Option.some.inj this
   ·obtain rfl : j = 1 := by omega
    rw [if_neg (by decide)]
    have hs1 := addr_succ a (i * 2) 0
    rw [show i * 2 + (0 + 1) = i * 2 + 1 from rfl] at hs1
    rw [hs1] at c0
    exact Option.some.inj (c0.symm.trans d1)
  subst hv
  refine ⟨k, y, ?_, ht0⟩
  have m1 : y.1 ∈ ys.map (·.1) := List.mem_map.2 ⟨y, List.mem_of_getElem? hy, rfl⟩
  have b1 := bulk_agg m1
  rw [← e1] at b1
  have m2 : D i ∈ (List.range n).map D := List.mem_map.2 ⟨i, List.mem_range.2 hi, rfl⟩
  have b2 := bulk_elem (r := (List.range (m - n)).map fun j => D (n + j)) m2
  rw [hx]
  exact Nat.le_trans b1 b2
theorem bulk_items {fuel : Nat} {A : Option Addr} {l : List It} {c : Nat} {x : DataW H × List MemPlace} (h : DataW.trod enc Tryz.prog W 0 (fun _ => true) true fuel 27 [.slice A l.length c] = some x) {hp hq : Nat → SlH} (hR : RIt (fun _ => True) W A l hp hq) :
  ∀ k, k < l.length → (gIt l k).parts.length ≤ Rows.uptoBulk x.1 ∧ (gIt l k).has.length ≤ Rows.uptoBulk x.1 := by
 intro k hk
 have hC : Tryz.prog.cellsOf 120 = 2 := by kernel_rfl
 have hh := bulk_two Tryz.underlying27 Tryz.underlying120 (by kernel_rfl) hC rfl h hR.row k hk
 obtain ⟨k0, y0, b0, t0⟩ := hh 0 _ rfl
 obtain ⟨k1, y1, b1, t1⟩ := hh 1 _ rfl
 have c0 := bulk_slice Tryz.underlying22 t0
 have c1 := bulk_slice Tryz.underlying22 t1
 exact ⟨Nat.le_trans c0 b0, Nat.le_trans c1 b1⟩
theorem bulk_rules {fuel : Nat} {A : Option Addr} {l : List Rl} {c : Nat} {x : DataW H × List MemPlace} (h : DataW.trod enc Tryz.prog W 0 (fun _ => true) true fuel 28 [.slice A l.length c] = some x) {hp : Nat → SlH} (hR : RRl (fun _ => True) W A l hp) :
  ∀ k, k < l.length → (gRl l k).iff.length ≤ Rows.uptoBulk x.1 := by
 intro k hk
 have hC : Tryz.prog.cellsOf 166 = 2 := by kernel_rfl
 have hh := bulk_two Tryz.underlying28 Tryz.underlying166 (by kernel_rfl) hC rfl h hR.row k hk
 obtain ⟨k0, y0, b0, t0⟩ := hh 0 _ rfl
 have c0 := bulk_slice Tryz.underlying22 t0
 exact Nat.le_trans c0 b0
theorem bulk_orders {l : List Wd} {A : Option Addr} {c : Nat} {d : DataW H} {p : List MemPlace} (h : DataW.Trod enc Tryz.prog W 0 (fun _ => true) true 33 (.slice A l.length c) d p) (hR : RS W A l) :
  ∀ k, k < l.length → (l.getD k []).length ≤ Rows.uptoBulk d := by
 intro k hk
 obtain ⟨fuel, hf⟩ := h
 rcases open_strs Tryz.underlying33 Tryz.underlying9 (by kernel_rfl) hf with ⟨hcs, -⟩ | ⟨a, len, cap, m, Sx, hcs, -, hl, -, hm, hx, hi⟩
 ·have hcs' : Value.slice A l.length c = .slice none 0 0 := by simpa [Value.cells] using hcs
  simp only [Value.slice.injEq] at hcs'
  omega
 ·have hcs' : Value.slice A l.length c = .slice (some a) len cap := by simpa [Value.cells] using hcs
  simp only [Value.slice.injEq] at hcs'
  obtain ⟨rfl, rfl, -⟩ := hcs'
  simp only [if_true] at hm
  obtain ⟨ad, ea, -, c0⟩ := hR.at_ hk
  obtain rfl := Option.some.inj ea
  have h1 := (hi k (by omega)).1
  have h2 := Option.some.inj (h1.symm.trans c0)
  have h3 : (Sx k).data.toList = l[k] := by
   simp only [St, Value.string.injEq] at h2
   rw [h2]
  have m1 : (DataW.lit (H := H) (.string (Sx k).data.toList)) ∈ (List.range l.length).map fun i => DataW.lit (H := H) (.string (Sx i).data.toList) := List.mem_map.2 ⟨k, List.mem_range.2 hk, rfl⟩
  have b1 := bulk_elem (r := (List.range (m - l.length)).map fun j => DataW.lit (H := H) (.string (Sx (l.length + j)).data.toList)) m1
  have e1 : d = .slice ((List.range l.length).map fun i => .lit (.string (Sx i).data.toList)) ((List.range (m - l.length)).map fun j => .lit (.string (Sx (l.length + j)).data.toList)) := by
   have := congrArg Prod.fst hx; exact this
  rw [e1]
  refine Nat.le_trans ?_ b1
  rw [h3, nil_getD hk]
  simp only [Rows.uptoBulk]
  omega
theorem bulk_firm {f : Fi} {d : DataW H} {p : List MemPlace} (h : DataW.Trod enc Tryz.prog W 0 (fun _ => true) true 32 (.agg f.cells) d p) (hI : f.In W) (hd : Rows.uptoBulk d ≤ 1000000000) : f.Big := by
 have h1 : Tryz.prog.cellsOf 24 = 3 := by kernel_rfl
 have h2 : Tryz.prog.cellsOf 26 = 3 := by kernel_rfl
 have h3 : Tryz.prog.cellsOf 30 = 3 := by kernel_rfl
 have hi : Tryz.prog.cellsOf 3 = 1 := by kernel_rfl
 have hs : Tryz.prog.cellsOf 22 = 1 := by kernel_rfl
 have hit : Tryz.prog.cellsOf 27 = 1 := by kernel_rfl
 have hrl : Tryz.prog.cellsOf 28 = 1 := by kernel_rfl
 obtain ⟨fuel, hf0⟩ := h
 obtain ⟨xs, n, -, hx, -, hxl, hf⟩ := DataW.trod_struct Tryz.underlying32 hf0
 match xs, hxl with
 | [y0, y1, y2], _ =>
  have f0 : DataW.trod enc Tryz.prog W 0 (fun _ => true) true n 24 [.int .i64 f.t.len, .slice f.A1 f.t.rest.length f.c1, .slice f.A2 f.t.clo.length f.c2] = some y0 := by have := hf 0 _ rfl; simpa [h1, h2, h3, Value.cells, Fi.cells] using this
  have f2 : DataW.trod enc Tryz.prog W 0 (fun _ => true) true n 30 [.int .i64 f.b.props, .slice f.B1 f.b.items.length f.d1, .slice f.B2 f.b.rules.length f.d2] = some y2 := by have := hf 2 _ rfl; simpa [h1, h2, h3, Value.cells, Fi.cells] using this
  have e1 : d = .agg ([y0, y1, y2].map (·.1)) := congrArg Prod.fst hx
  have b0 : Rows.uptoBulk y0.1 ≤ Rows.uptoBulk d := by rw [e1]; exact bulk_agg (by simp)
  have b2 : Rows.uptoBulk y2.1 ≤ Rows.uptoBulk d := by rw [e1]; exact bulk_agg (by simp)
  obtain ⟨xs, n2, -, hx2, -, hxl2, hf2⟩ := DataW.trod_struct Tryz.underlying24 f0
  obtain ⟨zs, n3, -, hx3, -, hxl3, hf3⟩ := DataW.trod_struct Tryz.underlying30 f2
  match xs, hxl2, zs, hxl3 with
  | [u0, u1, u2], _, [v0, v1, v2], _ =>
   have g1 : DataW.trod enc Tryz.prog W 0 (fun _ => true) true n2 22 [.slice f.A1 f.t.rest.length f.c1] = some u1 := by have := hf2 1 _ rfl; simpa [hi, hs] using this
   have g2 : DataW.trod enc Tryz.prog W 0 (fun _ => true) true n2 22 [.slice f.A2 f.t.clo.length f.c2] = some u2 := by have := hf2 2 _ rfl; simpa [hi, hs] using this
   have k1 : DataW.trod enc Tryz.prog W 0 (fun _ => true) true n3 27 [.slice f.B1 f.b.items.length f.d1] = some v1 := by have := hf3 1 _ rfl; simpa [hi, hit, hrl] using this
   have k2 : DataW.trod enc Tryz.prog W 0 (fun _ => true) true n3 28 [.slice f.B2 f.b.rules.length f.d2] = some v2 := by have := hf3 2 _ rfl; simpa [hi, hit, hrl] using this
   have e2 : y0.1 = .agg ([u0, u1, u2].map (·.1)) := congrArg Prod.fst hx2
   have e3 : y2.1 = .agg ([v0, v1, v2].map (·.1)) := congrArg Prod.fst hx3
   have c1 : Rows.uptoBulk u1.1 ≤ Rows.uptoBulk y0.1 := by rw [e2]; exact bulk_agg (by simp)
   have c2 : Rows.uptoBulk u2.1 ≤ Rows.uptoBulk y0.1 := by rw [e2]; exact bulk_agg (by simp)
   have c3 : Rows.uptoBulk v1.1 ≤ Rows.uptoBulk y2.1 := by rw [e3]; exact bulk_agg (by simp)
   have c4 : Rows.uptoBulk v2.1 ≤ Rows.uptoBulk y2.1 := by rw [e3]; exact bulk_agg (by simp)
   have r1 := bulk_slice Tryz.underlying22 g1
   have r2 := bulk_slice Tryz.underlying22 g2
   have r3 := bulk_slice Tryz.underlying27 k1
   have r4 := bulk_slice Tryz.underlying28 k2
   have r5 := bulk_items k1 hI.bk.it
   have r6 := bulk_rules k2 hI.bk.rl
   exact ⟨by omega, by omega, ⟨by omega, by omega, fun k hk => by have := (r5 k hk).1; omega, fun k hk => by have := (r5 k hk).2; omega, fun k hk => by have := r6 k hk; omega⟩⟩
theorem bulk_of {l : List (DataW H)} (hk : Rows.uptoSmall H l = true) : Rows.uptoBulkAll l ≤ 1048576 := of_decide_eq_true hk
theorem bulk_in {l : List (DataW H)} (hk : Rows.uptoSmall H l = true) {d : DataW H} (h : d ∈ l) : Rows.uptoBulk d ≤ 1048576 := Nat.le_trans (bulk_part h) (bulk_of hk)
theorem witness_cond {C : Checked} {os : Os} {f : FuncId} {fn : Func} {s : OpenSpec} {conds : List PathCond} {apart : Bool} {laid : List (String × DataW Unit)} (w0 : World) (args : Array Value) (hos : w0.os = os)
  (hsh : (w0.forCall (fun _ _ => 0) ⟨#[], args, []⟩).Shaped C.prog)
  (hok : Input.okWideB C.prog (w0.forCall (fun _ _ => 0) ⟨#[], args, []⟩) f ⟨#[], args, []⟩ = true)
  (hrow : s.preRow enc C.prog fn conds apart laid (w0.forCall (fun _ _ => 0) ⟨#[], args, []⟩).memory args) :
  ∃ (w : World) (tape : Tape) (i : Input), w.os = os ∧ (w.forCall tape i).Shaped C.prog ∧ i.vars = [] ∧ Input.okWide C.prog (w.forCall tape i) .any w.heap.size f i ∧
   s.preRow enc C.prog fn conds apart laid (w.forCall tape i).memory i.args ∧ ({} : Assume).holds C.prog (lone (Frame.enter C.prog f i.args .normal) [] (w.forCall tape i)) :=
 ⟨w0, fun _ _ => 0, ⟨#[], args, []⟩, hos, hsh, (Input.okWide_of_okWideB (base := 0) hok).1, (Input.okWide_of_okWideB hok).2, hrow, by
  simp only [Assume.holds]
  exact ⟨by simp, by simp, fun _ => Modest.zero, by simp, by simp⟩⟩
end
theorem topHarm_env {W : World} (hL : laidMetH Tryz.prog Rows.topHarmUptoRow.laid W) (hs : W.ShapedOpen Tryz.prog) : EnvA W := by
 obtain ⟨h1, h2⟩ := plain_met (Lp := plainL) (by kernel_rfl) (by kernel_rfl) hL
 exact env_of h1 (by simp [plainL]) (by simp [plainL]) h2 hs
theorem topHarm_reads (os : Os) {H : Type} (enc : TypeId × Value → H) : DataW.whole enc Tryz.prog ((witW os plainL).forCall (fun _ _ => 0) ⟨#[], #[.agg #[.int .i64 0, .slice none 0 0, .slice none 0 0, .int .i64 0, .int .i64 0, .int .i64 0, .int .i64 0, .slice none 0 0, .slice none 0 0], .slice none 0 0], []⟩).memory Tryz.f3.params.toList Rows.topHarmSpec.vars false #[.agg #[.int .i64 0, .slice none 0 0, .slice none 0 0, .int .i64 0, .int .i64 0, .int .i64 0, .int .i64 0, .slice none 0 0, .slice none 0 0], .slice none 0 0].toList 8 = some ([.agg [.agg [.lit (.int .i64 0), .nil, .nil], .agg [.lit (.int .i64 0), .lit (.int .i64 0), .lit (.int .i64 0)], .agg [.lit (.int .i64 0), .nil, .nil]], .nil], [], []) := by kernel_rfl
theorem topHarm_lifted (os : Os) (started : os.Started) (H : Type) (enc : TypeId × Value → H) (F : Stop.Interp) :
  ReturnsInHanded {} Tryz.checked os 3 .any ((Rows.OpenSpec.upto Rows.topHarmSpec).preRow enc Tryz.prog Tryz.f3 Rows.topHarmUptoRow.domain false Rows.topHarmUptoRow.laid) (((Rows.OpenSpec.upto Rows.topHarmSpec).at F).post enc Tryz.prog Tryz.f3 false true false false) := by
 refine returnsInHanded_of_row (C := Tryz.checked) (s := Rows.OpenSpec.upto Rows.topHarmSpec) own_ started (by kernel_rfl) Tryz.func3
  (witness_cond (enc := enc) (C := Tryz.checked) (witW os plainL) #[.agg #[.int .i64 0, .slice none 0 0, .slice none 0 0, .int .i64 0, .int .i64 0, .int .i64 0, .int .i64 0, .slice none 0 0, .slice none 0 0], .slice none 0 0] (by unfold witW; rw [World.layVars_os]; rfl)
   (World.shaped_of_ZipB (by kernel_rfl) (by kernel_rfl)) (by kernel_rfl)
   (OpenSpec.preRow_of_cond 8 (topHarm_reads os enc) (by kernel_rfl) (fun k hk => by cases hk; kernel_rfl) (by kernel_rfl)
    (laidMetH_of_parts (by rw [show (Rows.topHarmUptoRow.laid.filter fun x => x.2.handleName?.isNone) = plainL by kernel_rfl]; exact witW_met _ (by kernel_rfl) (by kernel_rfl)) (by kernel_rfl)))) ?_
 intro W base args ds gs before hval0 hW _ hcond _ hL hS _
 have hval : ∀ (j : Nat) t v, Tryz.f3.params[j]? = some t → args[j]? = some v → Value.okWide Tryz.prog W .any base t v := hval0
 have hW' := hW
 obtain ⟨p, q, hA0, hV, rfl, hfz, hnd⟩ := hW
 have hA : DataW.TrodAll enc Tryz.prog W 0 (fun _ => true) true Tryz.f3.params.toList args.toList ds p := hA0
 rw [Tryz.params3] at hA hval
 obtain ⟨v0, v1, d0, d1, p0, p1, rfl, rfl, rfl, h0, h1⟩ := trodAll_two hA
 have hsm : Rows.uptoSmall H (_ ++ gs) = true := hcond _ rfl
 obtain ⟨f, rfl, hf⟩ := open_firm (hval 0 _ v0 rfl rfl) h0
 have hB := bulk_firm h0 hf (by have := bulk_in hsm (d := d0) (by simp); omega)
 obtain ⟨l, A, c, rfl, hrs, hll, -⟩ := open_orders (hval 1 _ v1 rfl rfl) h1
 have hlk : ∀ k, k < l.length → (l.getD k []).length ≤ 1000000000 := fun k hk => by have := bulk_orders h1 hrs k hk; have := bulk_in hsm (d := d1) (by simp); omega
 refine (topHarm_any hf hB (topHarm_env hL hS) l A c hrs hll hlk).mono fun e W' ⟨he, hb⟩ => ?_
 subst he
 exact ⟨_, rfl, law_post (s := Rows.topHarmSpec) hW' rfl (by kernel_rfl) rfl (by rw [Tryz.params3]; intro t ht; simp at ht; rcases ht with rfl | rfl <;> exact ⟨by kernel_rfl, of_decide_eq_true (by kernel_rfl)⟩) hb⟩
set_option maxHeartbeats 4000000 in
theorem topHarm_closed : joinedFacts Tryz.prog 3 Tryz.f3 Rows.topHarmSpec Rows.topHarmUptoRow = true := by
 unfold joinedFacts
 simp only [Bool.and_eq_true]
 repeat' apply And.intro
 all_goals (as_aux_lemma => kernel_rfl)
set_option maxHeartbeats 4000000 in
theorem topHarm_wrap : Tryz.f3.isWrapper Tryz.prog Rows.topHarmUptoRow.wrapper Rows.topHarmUptoRow.mainSum := by
 unfold Func.isWrapper; first | (rw [if_pos (by decide +kernel)]; kernel_rfl) | (rw [if_neg (by decide +kernel)]; exact ⟨rfl, rfl⟩)
theorem topHarm_named : Tryz.prog.funcNamed Rows.topHarmUptoRow.func = some 3 := by kernel_rfl
theorem topHarm_inst : Tryz.f3.isInstance Tryz.prog Rows.topHarmUptoRow.origin Rows.topHarmUptoRow.targs := of_decide_eq_true (by kernel_rfl)
set_option maxHeartbeats 4000000 in
theorem topHarm_row : Rows.TopHarmUptoSaid :=
 OpenClaim.holds_of_cond 3 Tryz.f3 rfl rfl rfl rfl rfl rfl rfl ⟨rfl, rfl, rfl, rfl, rfl⟩ rfl rfl rfl rfl rfl topHarm_named Tryz.func3 topHarm_closed
  topHarm_inst topHarm_wrap
  (fun os started H enc _ F => by rw [OpenClaim.pre_eq_preRow]; exact topHarm_lifted os started H enc F)
theorem topHarm_wfT : Rows.topHarmUptoRow.wfByText (Rows.OpenSpec.upto Rows.topHarmSpec) = true := by kernel_rfl
theorem office_main : Tryz.pinned.checked.prog.mainIs = some (true, "5a9a52965f4185065c0d39a39ec58f829537e604a07fc4f1dbce9d7d2d17f592".toList) := by kernel_rfl
theorem office_looks : true = Tryz.pinned.checked.prog.looks [] := by kernel_rfl
theorem topHarm_goes : false = Rows.topHarmUptoRow.goesBy Tryz.pinned.checked.prog := by kernel_rfl
theorem topHarm_stand : ([32, 33].all fun u => !Tryz.prog.wantsStandIn u) = true := by kernel_rfl
set_option maxHeartbeats 4000000 in
theorem topHarm_holds : Rows.TopHarmUptoCardSaid :=
 Claim7.holds_tied_plain_at .later [] [.data, .data, .data, .handle, .pinned] true (true, "5a9a52965f4185065c0d39a39ec58f829537e604a07fc4f1dbce9d7d2d17f592") true
  topHarm_row (fun _ h => by cases h) topHarm_wfT (fun _ h => by cases h) topHarmUpto_row_tie rfl ⟨rfl, rfl⟩ office_main rfl
  (fun f fn hf hfn => by
   obtain rfl : f = 3 := Option.some.inj (topHarm_named.symm.trans hf) |>.symm
   obtain rfl : fn = Tryz.f3 := (Option.some.inj (Tryz.func3.symm.trans hfn)).symm
   exact ⟨office_looks, fun j t ht => by
    rw [Tryz.params3] at ht
    have hm : t ∈ [32, 33] := by simpa using Array.mem_of_getElem? ht
    exact (show Tryz.prog.wantsStandIn t = false by simpa using List.all_eq_true.1 topHarm_stand t hm)⟩)
  topHarm_goes
end Go.Proofs.YtiapkffihpgdcaaGreatDoor
