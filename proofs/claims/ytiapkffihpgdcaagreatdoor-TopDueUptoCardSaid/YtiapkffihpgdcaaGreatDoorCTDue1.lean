/-
  TopDue: for every firm and every list of orders of bulk at most 1048576 the law returns true, panics nowhere and leaves its arguments as they were: what a child owes is what its orders cost on school days. On the tied card. Condition: the bulk of what is handed over is at most 1048576 (the second form); no other beyond the card.
-/
import Derived.Test.YtiapkffihpgdcaaGreatDoorQA1
import Derived.Test.YtiapkffihpgdcaaGreatDoorQA2
import Derived.Test.YtiapkffihpgdcaaGreatDoorQA3
import Derived.Test.YtiapkffihpgdcaaGreatDoorQA4
import Derived.Test.YtiapkffihpgdcaaGreatDoorQA5
import Derived.Test.YtiapkffihpgdcaaGreatDoorQA6
import Derived.Test.YtiapkffihpgdcaaGreatDoorQA7
import Derived.Test.YtiapkffihpgdcaaGreatDoorQA8
import Derived.Test.YtiapkffihpgdcaaGreatDoorQA9
import Derived.Test.YtiapkffihpgdcaaGreatDoorQA10
import Derived.Test.YtiapkffihpgdcaaGreatDoorQA11
import Derived.Test.YtiapkffihpgdcaaGreatDoorQA12
import Derived.Test.YtiapkffihpgdcaaGreatDoorQA13
import Derived.Test.YtiapkffihpgdcaaGreatDoorQA14
import Derived.Test.YtiapkffihpgdcaaGreatDoorQA15
import Derived.Test.YtiapkffihpgdcaaGreatDoorQA16
import Derived.Test.YtiapkffihpgdcaaGreatDoorQA17
import Derived.Test.YtiapkffihpgdcaaGreatDoorQA18
import Derived.Test.YtiapkffihpgdcaaGreatDoorQA19
import Derived.Test.YtiapkffihpgdcaaGreatDoorQA20
import Derived.Test.YtiapkffihpgdcaaGreatDoorQA21
import Derived.Test.YtiapkffihpgdcaaGreatDoorQA22
import Derived.Test.YtiapkffihpgdcaaGreatDoorQA23
import Derived.Test.YtiapkffihpgdcaaGreatDoorQA24
import Derived.Test.YtiapkffihpgdcaaGreatDoorQA25
import Derived.Test.YtiapkffihpgdcaaGreatDoorQA26
import Derived.Test.YtiapkffihpgdcaaGreatDoorQA27
import Derived.Test.YtiapkffihpgdcaaGreatDoorQA28
import Derived.Test.YtiapkffihpgdcaaGreatDoorQA29
import Derived.Test.YtiapkffihpgdcaaGreatDoorQA30
import Derived.Test.YtiapkffihpgdcaaGreatDoorQA31
import Derived.IntWalk
import Derived.ScopeJumps
import Derived.WalkMore
import Derived.StillTailTactics
import Derived.Lib.QuietBelow
import Derived.BigRegion
import Derived.Deep.DeepHandedRow
import Derived.Test.YtiapkffihpgdcaaGreatDoorTie
import Derived.Test.YtiapkffihpgdcaaGreatDoorCards
import Derived.SevenTiedAt
import Derived.ChangeMaps5
set_option linter.unusedVariables false
set_option linter.unusedSimpArgs false
set_option maxRecDepth 100000
namespace Go.Proofs.YtiapkffihpgdcaaGreatDoor
def daysB (f t : Int) : Bool := decide (0 ≤ f ∧ f ≤ t ∧ t ≤ 1000)
def billE (l : List Fact) (r : List Sp) (p : List Int) (cut c f t : Int) : Int := if bEO l r p cut ≠ 0 then bEO l r p cut else if inB c 0 99 && daysB f t then 0 else 1
def billTo (l : List Fact) (r : List Sp) (p : List Int) (cut c f : Int) : Nat → Int
 | 0 => 0
 | k + 1 => billTo l r p cut c f k + payI l r p cut c (f + k)
def billR (l : List Fact) (r : List Sp) (p : List Int) (cut c f t : Int) : Int := if billE l r p cut c f t = 0 then billTo l r p cut c f (t - f).toNat else 0
theorem billTo_bd {l : List Fact} (hV : Vld l) {r : List Sp} {p : List Int} {cut : Int} (h : bG p cut = true) (c f : Int) (k : Nat) : 0 ≤ billTo l r p cut c f k ∧ billTo l r p cut c f k ≤ k * 10000 := by
 induction k with
 | zero => simp [billTo]
 | succ k ih => have := payI_bd hV (r := r) h c (f + k); simp only [billTo]; omega
theorem billE_split (l : List Fact) (r : List Sp) (p : List Int) (cut c f t : Int) (bb : Int) (b : bEO l r p cut = bb) : billE l r p cut c f t = if bb ≠ 0 then bb else if inB c 0 99 && daysB f t then 0 else 1 := by subst b; rfl
end Go.Proofs.YtiapkffihpgdcaaGreatDoor
namespace Go.Proofs.YtiapkffihpgdcaaGreatDoor
open Go.RowKit
theorem cellsF_length (l : List Fact) : (cellsF l).length = l.length * 5 := by
 induction l with
 | nil => rfl
 | cons f l ih => rw [cellsF_cons, List.length_append, ih]; simp [Fact.vals]; omega
theorem RF.lit {w w' : World} {n : Nat} (l : List Fact) (cs : Array Value) (hcs : cs = (cellsF l).toArray) (hb : Below n (w.alloc (.cells cs 53)) w') (hn : w.heap.size < n) : RF w' (w.heap.size + 1) (some ⟨w.heap.size, 0, none⟩) l := by
 obtain ⟨h1, _, h3, _⟩ := blk_facts hb hn
 refine ⟨h3, by rw [cellsF_length], fun _ => ⟨_, rfl, by simp, fun j u hu => ?_⟩⟩
 have hadd : (⟨w.heap.size, 0, none⟩ : Addr).add j = ⟨w.heap.size, j, none⟩ := by unfold Addr.add; split <;> simp_all
 rw [hadd, h1, hcs]
 simpa using hu
set_option maxHeartbeats 1600000 in
theorem billX_any (l : List Fact) (r : List Sp) (p : List Int) (cut c f t : Int) (hl : l.length ≤ 1000000000) (hrl : r.length ≤ 1000000000) (hpl : p.length ≤ 1000000000) (A1 A2 A3 : Option Addr) (c1 c2 c3 B : Nat) (hc1 : l.length ≤ c1) (w : World) (h1 : RF w B A1 l) (h2 : RSO w A2 r) (h3 : RN w A3 p) :
  Calls Tryz.prog 28 #[.slice A1 l.length c1, .slice A2 r.length c2, .slice A3 p.length c3, .int .i64 cut, .int .i64 c, .int .i64 f, .int .i64 t] w fun e w' => e = .returned (.tuple #[.int .i64 (billR l r p cut c f t), .int .i64 (billE l r p cut c f t)]) ∧ Below w.heap.size w w' := by
 obtain ⟨bb, hbb⟩ : ∃ bb, bEO l r p cut = bb := ⟨_, rfl⟩
 obtain ⟨E, hE⟩ : ∃ E, E = billE l r p cut c f t := ⟨_, rfl⟩
 have hE2 := hE.trans (billE_split l r p cut c f t bb hbb)
 obtain ⟨R, hR⟩ : ∃ R, R = billR l r p cut c f t := ⟨_, rfl⟩
 have hR2 : R = if E = 0 then billTo l r p cut c f (t - f).toNat else 0 := by rw [hR, hE]; rfl
 rw [← hE, ← hR]
 have HE := Lib.hid hE2
 have HR := Lib.hid hR2
 have HBB := Lib.hid hbb
 clear hE hE2 hR hR2 hbb
 go_enter Tryz.func28, Tryz.ntmps28
 go_wp2_with fail
 refine (billed_any l r p cut hl hrl hpl A1 A2 A3 c1 c2 c3 B _ h1 h2 h3).mono ?_
 rintro e w1 ⟨rfl, hb1⟩
 rw [HBB.out]
 by_cases h0 : bb = 0
 ·obtain ⟨v1, v2, v3⟩ := bE_okO (HBB.out.trans h0)
  have hV := Vld.of v1
  have hr60 := (vrt_ok v2).1
  have hb0 : (bb != 0) = false := by simp [h0]
  have hEE : E = if inB c 0 99 && daysB f t then 0 else 1 := by rw [HE.out, if_neg (by simp [h0])]
  have HEE := Lib.hid hEE
  clear h0 hEE v1 v2
  cases hi : inB c 0 99 with
  | false =>
   have hEv : E = 1 := by rw [HEE.out, hi]; rfl
   have hRv : R = 0 := by rw [HR.out, hEv]; rfl
   have H1 := Lib.hid hEv
   have H2 := Lib.hid hRv
   clear hEv hRv
   go_wp2_with (go_at_call 88; refine (isChild_any _ _).mono ?_; rintro e w' ⟨rfl, hw'⟩; subst hw')
   go_ret2
   exact ⟨ret2 (by rw [H2.out]; rfl) (by rw [H1.out]; rfl), hb1⟩
  | true =>
   by_cases g1 : f < 0
   ·have hEv : E = 1 := by rw [HEE.out, hi, (show daysB f t = false from decide_eq_false (by omega))]; rfl
    have hRv : R = 0 := by rw [HR.out, hEv]; rfl
    have H1 := Lib.hid hEv
    have H2 := Lib.hid hRv
    clear hEv hRv
    go_wp2_with (go_at_call 88; refine (isChild_any _ _).mono ?_; rintro e w' ⟨rfl, hw'⟩; subst hw')
    go_ret2
    exact ⟨ret2 (by rw [H2.out]; rfl) (by rw [H1.out]; rfl), hb1⟩
   ·by_cases g2 : t < f
    ·have hEv : E = 1 := by rw [HEE.out, hi, (show daysB f t = false from decide_eq_false (by omega))]; rfl
     have hRv : R = 0 := by rw [HR.out, hEv]; rfl
     have H1 := Lib.hid hEv
     have H2 := Lib.hid hRv
     clear hEv hRv
     go_wp2_with (go_at_call 88; refine (isChild_any _ _).mono ?_; rintro e w' ⟨rfl, hw'⟩; subst hw')
     go_ret2
     exact ⟨ret2 (by rw [H2.out]; rfl) (by rw [H1.out]; rfl), hb1⟩
    ·by_cases g3 : 1000 < t
     ·have hEv : E = 1 := by rw [HEE.out, hi, (show daysB f t = false from decide_eq_false (by omega))]; rfl
      have hRv : R = 0 := by rw [HR.out, hEv]; rfl
      have H1 := Lib.hid hEv
      have H2 := Lib.hid hRv
      clear hEv hRv
      go_wp2_with (go_at_call 88; refine (isChild_any _ _).mono ?_; rintro e w' ⟨rfl, hw'⟩; subst hw')
      go_ret2
      exact ⟨ret2 (by rw [H2.out]; rfl) (by rw [H1.out]; rfl), hb1⟩
     ·have hEv : E = 0 := by rw [HEE.out, hi, (show daysB f t = true from decide_eq_true (by omega))]; rfl
      have hRv : R = billTo l r p cut c f (t - f).toNat := by rw [HR.out, if_pos hEv]
      have H1 := Lib.hid hEv
      have H2 := Lib.hid hRv
      clear hEv hRv
      go_wp2_with (go_at_call 88; refine (isChild_any _ _).mono ?_; rintro e w' ⟨rfl, hw'⟩; subst hw')
      go_loopw [17, 18] (fun s x wr => ∃ k : Nat, f + k ≤ t ∧ x = .int .i64 (f + k) ∧ s = .int .i64 (billTo l r p cut c f k) ∧ Below w.heap.size w wr) (fun _ x _ => (t - intOf x).toNat)
      case atStart => exact ⟨0, by omega, by go_num, rfl, hb1⟩
      case round =>
       obtain ⟨k, hk, rfl, rfl, hbl⟩ := hrel
       by_cases hlt : f + k < t
       ·have hbt := billTo_bd hV (r := r) v3 c f k
        have hpb := payI_bd hV (r := r) v3 c (f + k)
        have hnx : billTo l r p cut c f (k + 1) = billTo l r p cut c f k + payI l r p cut c (f + k) := rfl
        have HNX := Lib.hid hnx; clear hnx
        go_wp2_with fail
        refine (pay_any l r p cut c (f + k) hV v3 hr60 (by omega) (by omega) A1 A2 A3 c1 c2 c3 B hc1 _ (h1.below hbl) (h2.below hbl) (h3.below hbl)).mono ?_
        rintro e w2 ⟨rfl, hb2⟩
        go_wp2
        go_roundw
        case rel => exact ⟨k + 1, by omega, by go_num, by rw [HNX.out], hbl.trans (hb2.mono hbl.size)⟩
        case measure => simp [intOf]; omega
       ·have hkt : (t - f).toNat = k := by omega
        have HKT := Lib.hid hkt; clear hkt
        go_wp2
        go_ret2
        exact ⟨ret2 (by rw [H2.out, HKT.out]; rfl) (by rw [H1.out]; rfl), hbl⟩
 ·have hb0 : (bb != 0) = true := by simp [h0]
  have hEv : E = bb := by rw [HE.out, if_pos h0]
  have hRv : R = 0 := by rw [HR.out, if_neg (by rw [hEv]; exact h0)]
  have H1 := Lib.hid hEv
  have H2 := Lib.hid hRv
  clear hEv hRv h0
  go_wp2
  go_ret2
  exact ⟨ret2 (by rw [H2.out]; rfl) (by rw [H1.out]; rfl), hb1⟩
structure Fi.Big (f : Fi) : Prop where
 rest : f.t.rest.length ≤ 1000000000
 clo : f.t.clo.length ≤ 1000000000
 bk : BkLen f.b
theorem Fi.Big.len {f : Fi} (hz : f.e = 0) : f.Len := by
 obtain ⟨h1, h2, h3⟩ := newE_ok hz
 exact ⟨by have := isSet_len h1.rest (by omega); omega, by have := h1.clo60; omega, h3.len⟩
/-- An office that was made behind a later world was made behind the earlier one. -/
theorem KN.onto {w0 w1 w : World} {N : Nat} {Z : Nat → Prop} {g : Nat} {s : Of} (hk : KN w1 N Z g s w) (hb : Below w0.heap.size w0 w1) : KN w0 N Z g s w := by
 obtain ⟨F, h, hP, hE, hy, hF, hZ⟩ := hk
 exact ⟨F, h, hP, hE, hb.trans (hy.mono hb.size), fun k hk => Nat.le_trans hb.size (hF k hk), hZ⟩
/-- The firm is one that the laws over all begin with. -/
structure Fi.St (f : Fi) : Prop where
 len : f.t.len ≤ 120
 items : f.b.items.length ≤ 60
 rules : f.b.rules.length ≤ 60
 clo : f.t.clo.length ≤ 100
 e : f.e = 0
section
variable {f : Fi} {w : World} (hf : f.In w) (hB : f.Big) (hE : EnvA w)
include hf hB hE
theorem bnew_any : Calls Tryz.prog 20 #[.agg #[.int .i64 f.t.len, .slice f.A1 f.t.rest.length f.c1, .slice f.A2 f.t.clo.length f.c2], .agg #[.int .i64 f.c.n, .int .i64 f.c.f, .int .i64 f.c.k], .agg #[.int .i64 f.b.props, .slice f.B1 f.b.items.length f.d1, .slice f.B2 f.b.rules.length f.d2]] w
  fun e w' => (f.e ≠ 0 ∧ e = .returned (.tuple #[.pointer none, .int .i64 f.e]) ∧ Below w.heap.size w w') ∨ (f.e = 0 ∧ ∃ g, e = .returned (.tuple #[.pointer (some ⟨g, 0, none⟩), .int .i64 0]) ∧ KN w 0 (fun _ => False) g f.s0 w') := by
 refine (new_any f.t f.c f.b hB.rest hB.clo hB.bk f.A1 f.A2 f.c1 f.c2 _ f.B1 f.B2 f.d1 f.d2 f.hp f.hq f.hr w hf.rest hf.clo hf.bk hE.z.size).mono ?_
 rintro e w' (⟨h, he, hb⟩ | ⟨h, g, hh, he, hP, hb⟩)
 ·exact .inl ⟨h, he, hb⟩
 ·exact .inr ⟨h, g, he, _, hh, hP, hE.below hb, hb, fun k hk => hk.1, fun _ hz => hz.elim⟩
set_option maxHeartbeats 3200000 in
theorem started_any :
  Calls Tryz.prog 22 #[.agg f.cells] w fun e w' => (¬ f.St ∧ e = .returned (.tuple #[.pointer none, .bool false]) ∧ Below w.heap.size w w') ∨ (f.St ∧ ∃ g, e = .returned (.tuple #[.pointer (some ⟨g, 0, none⟩), .bool true]) ∧ KN w 0 (fun _ => False) g f.s0 w') := by
 unfold Fi.cells
 obtain ⟨w2, hw2⟩ : ∃ w2, w.alloc (.cells #[.int .i64 f.t.len, .slice f.A1 f.t.rest.length f.c1, .slice f.A2 f.t.clo.length f.c2, .int .i64 f.c.n, .int .i64 f.c.f, .int .i64 f.c.k, .int .i64 f.b.props, .slice f.B1 f.b.items.length f.d1, .slice f.B2 f.b.rules.length f.d2] 32) = w2 := ⟨_, rfl⟩
 have hy : Below w.heap.size w w2 := by rw [← hw2]; exact (Below.refl _ w).alloc (Nat.le_refl _) _
 have b0 : Box w2 w.heap.size #[.int .i64 f.t.len, .slice f.A1 f.t.rest.length f.c1, .slice f.A2 f.t.clo.length f.c2, .int .i64 f.c.n, .int .i64 f.c.f, .int .i64 f.c.k, .int .i64 f.b.props, .slice f.B1 f.b.items.length f.d1, .slice f.B2 f.b.rules.length f.d2] := by rw [← hw2]; exact Box.new w _ _
 have x0 := b0.cell 0; have x1 := b0.cell 1; have x2 := b0.cell 2; have x3 := b0.cell 3; have x4 := b0.cell 4; have x5 := b0.cell 5; have x6 := b0.cell 6; have x7 := b0.cell 7; have x8 := b0.cell 8; simp only [List.getElem?_toArray, List.getElem?_cons_zero, List.getElem?_cons_succ] at x0 x1 x2 x3 x4 x5 x6 x7 x8
 have HN := Lib.hid (fun (w' : World) (hb : Below w.heap.size w w') => bnew_any (hf.below hb) hB (hE.below hb))
 obtain ⟨E, hEE⟩ : ∃ E, E = f.e := ⟨_, rfl⟩
 rw [← hEE] at HN
 have HS := Lib.hid (fun (h : f.St) => hEE.trans h.e)
 have HS2 := Lib.hid (fun (h1 : decide ((120 : Int) < f.t.len) = false) (h2 : decide ((60 : Int) < (f.b.items.length : Int)) = false) (h3 : decide ((60 : Int) < (f.b.rules.length : Int)) = false) (h4 : decide ((100 : Int) < (f.t.clo.length : Int)) = false) (hz : E = 0) => by
  rw [decide_eq_false_iff_not] at h1 h2 h3 h4
  exact (⟨by omega, by omega, by omega, by omega, hEE.symm.trans hz⟩ : f.St))
 clear hEE hB hE hf
 cases h1 : decide ((120 : Int) < f.t.len) with
 | true =>
  go_enter Tryz.func22, Tryz.ntmps22
  go_wp2_with fail
  go_ret2
  exact .inl ⟨fun h => by have := h.len; rw [decide_eq_true_eq] at h1; omega, rfl, hy⟩
 | false =>
  cases h2 : decide ((60 : Int) < (f.b.items.length : Int)) with
  | true =>
   go_enter Tryz.func22, Tryz.ntmps22
   go_wp2_with fail
   go_ret2
   exact .inl ⟨fun h => by have := h.items; rw [decide_eq_true_eq] at h2; omega, rfl, hy⟩
  | false =>
   cases h3 : decide ((60 : Int) < (f.b.rules.length : Int)) with
   | true =>
    go_enter Tryz.func22, Tryz.ntmps22
    go_wp2_with fail
    go_ret2
    exact .inl ⟨fun h => by have := h.rules; rw [decide_eq_true_eq] at h3; omega, rfl, hy⟩
   | false =>
    cases h4 : decide ((100 : Int) < (f.t.clo.length : Int)) with
    | true =>
     go_enter Tryz.func22, Tryz.ntmps22
     go_wp2_with fail
     go_ret2
     exact .inl ⟨fun h => by have := h.clo; rw [decide_eq_true_eq] at h4; omega, rfl, hy⟩
    | false =>
     by_cases hz : E = 0
     ·go_enter Tryz.func22, Tryz.ntmps22
      go_wp2_with (go_at_call 20; (with_reducible refine (HN.out _ hy).mono ?_); rintro e w3 (⟨h, _⟩ | ⟨_, g, rfl, hk⟩); exact absurd hz h)
      go_ret2
      exact .inr ⟨HS2.out h1 h2 h3 h4 hz, g, rfl, hk.onto hy⟩
     ·have hz' : (E == 0) = false := by simpa using hz
      go_enter Tryz.func22, Tryz.ntmps22
      go_wp2_with (go_at_call 20; (with_reducible refine (HN.out _ hy).mono ?_); rintro e w3 (⟨_, rfl, hb3⟩ | ⟨h, _⟩); rotate_left; exact absurd h hz)
      go_ret2
      exact .inl ⟨fun h => hz (HS.out h), rfl, hy.trans (hb3.mono hy.size)⟩
end
end Go.Proofs.YtiapkffihpgdcaaGreatDoor
namespace Go.Proofs.YtiapkffihpgdcaaGreatDoor
theorem knw01 {l : List Fact} (hfm : ∀ i, i < l.length → (gf l i).me = 0 ∨ (gf l i).me = 1) (t c d : Int) : knw l t c d = 0 ∨ knw l t c d = 1 := by
 unfold knw fMe
 split
 ·exact .inl rfl
 ·have := rsnTo_bd l t c d l.length
  have e : rsn l t c d = rsnTo l t c d l.length := rfl
  exact hfm _ (by omega)
theorem price01 (m : Int) : (m = 0 → priceI prices m = 0) ∧ (m = 1 → priceI prices m = 100) := by
 constructor
 ·rintro rfl; rfl
 ·rintro rfl; rfl
/-- At some time the child had the meal 1 on the day. -/
def hadTo (l : List Fact) (c d : Int) : Nat → Bool := anyTo fun i => (gf (histTo l c d l.length) i).me == 1
def hadB (l : List Fact) (c d : Int) : Bool := hadTo l c d (histTo l c d l.length).length
/-- On how many of the first school days it had. -/
def evTo (t : Tm) (l : List Fact) (c : Int) : Nat → Nat
 | 0 => 0
 | k + 1 => evTo t l c k + if opB t k && hadB l c k then 1 else 0
theorem evTo_le (t : Tm) (l : List Fact) (c : Int) (k : Nat) : evTo t l c k ≤ k := by
 induction k with
 | zero => simp [evTo]
 | succ k ih => simp only [evTo]; split <;> omega
theorem hist_any {l : List Fact} {c d : Int} {i : Nat} (hc : covB (gf l i) c d = true) (hm : (gf l i).me = 1) : ∀ n, i < n → ∃ j, j < (histTo l c d n).length ∧ (gf (histTo l c d n) j).me = 1
 | 0, h => absurd h (Nat.not_lt_zero _)
 | n + 1, h => by
  by_cases e : i = n
  ·subst e
   rw [histTo_yes l c d i hc]
   exact ⟨(histTo l c d i).length, by simp, by rw [gf_new]; exact hm⟩
  ·obtain ⟨j, hj, he⟩ := hist_any hc hm n (by omega)
   cases hq : covB (gf l n) c d with
   | true =>
    rw [histTo_yes l c d n hq]
    exact ⟨j, by simp; omega, by rw [gf_old _ _ hj]; exact he⟩
   | false =>
    rw [histTo_no l c d n hq]
    exact ⟨j, hj, he⟩
theorem rsn_one {l : List Fact} {t c d : Int} : ∀ k, fMe l (rsnTo l t c d k) = 1 → ∃ i, i < k ∧ covB (gf l i) c d = true ∧ (gf l i).me = 1
 | 0, h => by simp [rsnTo, fMe] at h
 | k + 1, h => by
  simp only [rsnTo] at h
  split at h
  ·rename_i hh
   unfold hit at hh
   rw [Bool.and_eq_true] at hh
   unfold fMe at h
   rw [if_neg (by omega), Int.toNat_natCast] at h
   exact ⟨k, by omega, hh.2, h⟩
  ·obtain ⟨i, hi, h1, h2⟩ := rsn_one k h
   exact ⟨i, by omega, h1, h2⟩
theorem knw_had {l : List Fact} {t c d : Int} (h : knw l t c d = 1) : hadB l c d = true := by
 obtain ⟨i, hi, h1, h2⟩ := rsn_one l.length h
 obtain ⟨j, hj, he⟩ := hist_any h1 h2 l.length hi
 unfold hadB hadTo
 exact anyTo_yes (k := j) (by rw [he]; rfl) hj
theorem pay_had {l : List Fact} (hfm : ∀ i, i < l.length → (gf l i).me = 0 ∨ (gf l i).me = 1) (r : List Sp) (c d : Int) : payI l r prices 1440 c d = 0 ∨ (payI l r prices 1440 c d = 100 ∧ hadB l c d = true) := by
 unfold payI
 split
 ·exact .inl rfl
 ·rcases knw01 hfm (d * 1440 - 1440) c d with e1 | e1
  ·rw [(price01 _).1 e1]
   rcases knw01 hfm 1440000 c d with e2 | e2
   ·rw [(price01 _).1 e2]; exact .inl rfl
   ·rw [(price01 _).2 e2]; exact .inr ⟨rfl, knw_had e2⟩
  ·have hh := knw_had e1
   rw [(price01 _).2 e1]
   rcases knw01 hfm 1440000 c d with e2 | e2
   ·rw [(price01 _).1 e2]; exact .inr ⟨rfl, hh⟩
   ·rw [(price01 _).2 e2]; exact .inr ⟨rfl, hh⟩
theorem due_ever {S : Of} (hS : OfOk S) (c : Int) : ∀ n, n ≤ S.days → ∃ q : Nat, dueTo S c n = 100 * (q : Int) ∧ q ≤ evTo S.tm S.facts c n
 | 0, _ => ⟨0, rfl, Nat.le_refl _⟩
 | n + 1, h => by
  obtain ⟨q, hq, hle⟩ := due_ever hS c n (by omega)
  simp only [dueTo, evTo, hq]
  cases ho : S.opn n with
  | false => exact ⟨q, by simp, by omega⟩
  | true =>
   have hop : opB S.tm n = true := by
    unfold Of.opn at ho
    rw [decide_eq_true_eq] at ho
    have := ho.2.2
    rw [Int.toNat_natCast] at this
    exact (mnAt_nonneg hS.cy n).1 this
   rw [hop]
   rcases pay_had hS.fm S.rights c n with e | ⟨e, hh⟩
   ·rw [e]; exact ⟨q, by simp, by omega⟩
   ·rw [e, hh]; exact ⟨q + 1, by simp; omega, by simp; omega⟩
/-- What a child owes, as the law asks. -/
theorem due_law {S : Of} (hS : OfOk S) {i : Nat} (hi : i < S.kids.length) : dueE S (gk S.kids i).num = 0 ∧ ∃ q : Nat, dueR S (gk S.kids i).num = 100 * (q : Int) ∧ q ≤ evTo S.tm S.facts (gk S.kids i).num S.days := by
 have hk : hasK S.kids (gk S.kids i).num = true := (hasK_iff _ _).2 ⟨_, gk_mem hi, rfl⟩
 unfold dueE dueR
 rw [if_pos hk, if_pos hk]
 exact ⟨rfl, due_ever hS _ _ (Nat.le_refl _)⟩
end Go.Proofs.YtiapkffihpgdcaaGreatDoor
namespace Go.Proofs.YtiapkffihpgdcaaGreatDoor
open Go.RowKit
section
variable {w0 w : World} {N : Nat} {Z : Nat → Prop} {g : Nat} {s : Of}
theorem KN.facts (hk : KN w0 N Z g s w) : Calls Tryz.prog 24 #[.pointer (some ⟨g, 0, none⟩)] w fun e w' => ∃ A c, e = .returned (.slice A s.facts.length c) ∧ s.facts.length ≤ c ∧ RF w' w'.heap.size A s.facts ∧ Below w.heap.size w w' := by
 obtain ⟨F, h, hP, _⟩ := hk
 refine (oFactsC_any hP).mono ?_
 rintro e w' ⟨A, c, he, hc, hr, hb⟩
 exact ⟨A, c, he, hc, RF.of_readsF hr, hb⟩
theorem KN.eaters (hk : KN w0 N Z g s w) : Calls Tryz.prog 26 #[.pointer (some ⟨g, 0, none⟩)] w fun e w' => ∃ A c hk, e = .returned (.slice A s.kids.length c) ∧ RKd (fun _ => True) w' A s.kids hk ∧ Below w.heap.size w w' := by
 obtain ⟨F, h, hP, _⟩ := hk
 refine (oEaters_any hP).mono ?_
 rintro e w' ⟨A, c, hk, he, hr, hb⟩
 exact ⟨A, c, hk, he, hr.mono fun _ _ => trivial, hb⟩
theorem KN.ok (hk : KN w0 N Z g s w) : OfOk s := by
 obtain ⟨F, h, hP, _⟩ := hk
 exact hP.ok
end
set_option maxHeartbeats 3200000 in
theorem ever_any {f : Fi} {w : World} (hf : f.In w) (hl : f.Len) (hT : TmOk f.t) (l : List Fact) (hv : vld l = 0) (hll : l.length ≤ 60) (ch : Int) (h0 : 0 ≤ ch) (h9 : ch ≤ 99) (A0 : Option Addr) (c0 B : Nat) (hR : RF w B A0 l) :
  Calls Tryz.prog 30 #[.agg f.cells, .slice A0 l.length c0, .int .i64 ch] w fun e w' => e = .returned (.int .i64 (evTo f.t l ch f.t.len.toNat)) ∧ Below w.heap.size w w' := by
 unfold Fi.cells
 obtain ⟨w2, hw2⟩ : ∃ w2, w.alloc (.cells #[.int .i64 f.t.len, .slice f.A1 f.t.rest.length f.c1, .slice f.A2 f.t.clo.length f.c2, .int .i64 f.c.n, .int .i64 f.c.f, .int .i64 f.c.k, .int .i64 f.b.props, .slice f.B1 f.b.items.length f.d1, .slice f.B2 f.b.rules.length f.d2] 32) = w2 := ⟨_, rfl⟩
 have hy : Below w.heap.size w w2 := by rw [← hw2]; exact (Below.refl _ w).alloc (Nat.le_refl _) _
 have b0 : Box w2 w.heap.size #[.int .i64 f.t.len, .slice f.A1 f.t.rest.length f.c1, .slice f.A2 f.t.clo.length f.c2, .int .i64 f.c.n, .int .i64 f.c.f, .int .i64 f.c.k, .int .i64 f.b.props, .slice f.B1 f.b.items.length f.d1, .slice f.B2 f.b.rules.length f.d2] := by rw [← hw2]; exact Box.new w _ _
 obtain ⟨dn, hdn⟩ : ∃ dn : Nat, f.t.len = dn := ⟨f.t.len.toNat, by have := hT.len1; omega⟩
 have hdl : dn ≤ 1000 := by have := hT.len2; omega
 have hdt : f.t.len.toNat = dn := by omega
 rw [hdt]
 have HDN := Lib.hid hdn
 have hR2 := hR.below hy
 have hev := evTo_le f.t l ch
 clear hR hdn hdt
 go_enter Tryz.func30, Tryz.ntmps30
 go_wp2_with fail
 clear hw2
 go_loopw [7, 8] (fun n d wr => ∃ k : Nat, k ≤ dn ∧ n = .int .i64 (evTo f.t l ch k) ∧ d = .int .i64 k ∧ Below w2.heap.size w2 wr) (fun _ d _ => dn - (intOf d).toNat)
 case atStart => exact ⟨0, by omega, rfl, rfl, Below.refl _ _⟩
 case round =>
  obtain ⟨k, hk, rfl, rfl, hb⟩ := hrel
  have br := b0.below hb
  have t0 := br.cell 0; have t1 := br.cell 1; have t2 := br.cell 2
  simp only [List.getElem?_toArray, List.getElem?_cons_zero, List.getElem?_cons_succ] at t0 t1 t2
  have hwr := hy.trans (hb.mono hy.size)
  by_cases hlt : k < dn
  ·have hTT : decide ((k : Int) < f.t.len) = true := by rw [decide_eq_true_eq, HDN.out]; omega
   have hio := isOpen_any (k : Int) f.t f.A1 f.A2 f.c1 f.c2 wr ((hf.below hwr).rest) ((hf.below hwr).clo) (by have := hl.rest; omega) (by have := hl.clo; omega)
   have hq0 : qE f.t k = 0 := by
    unfold qE
    rw [if_neg (by rw [hT.to]; decide), if_pos (inB_true.2 ⟨by omega, by rw [HDN.out]; omega⟩)]
   have hop : isOpR f.t k = opB f.t k := by unfold isOpR; rw [hq0]; rfl
   rw [hq0, hop] at hio
   have hsn : evTo f.t l ch (k + 1) = evTo f.t l ch k + if opB f.t k && hadB l ch k then 1 else 0 := rfl
   obtain ⟨O, hO⟩ : ∃ O, O = opB f.t k := ⟨_, rfl⟩
   rw [← hO] at hio hsn
   obtain ⟨E, hE⟩ : ∃ E, E = evTo f.t l ch k := ⟨_, rfl⟩
   have hEk : E ≤ 1000 := by have := hev k; omega
   rw [← hE] at hsn ⊢
   have HI := Lib.hid hio
   clear hio hq0 hop hO hE hev
   cases O with
   | false =>
    have HSN := Lib.hid (show evTo f.t l ch (k + 1) = E by rw [hsn]; simp)
    clear hsn
    go_wp2_with (go_at_call 92; (with_reducible refine HI.out.mono ?_); rintro e w5 ⟨rfl, b5⟩)
    go_roundw
    case rel => exact ⟨k + 1, by omega, by rw [HSN.out], by go_num, hb.trans (b5.mono hb.size)⟩
    case measure => simp [intOf]; omega
   | true =>
    have HSN := Lib.hid (show evTo f.t l ch (k + 1) = E + if hadB l ch k then 1 else 0 by rw [hsn]; simp)
    clear hsn
    have HH := Lib.hid (fun (w' : World) (hb' : Below w2.heap.size w2 w') => historyX_any l ch (k : Int) (by omega) A0 c0 B w' (hR2.below hb'))
    have hask : askE l ch (k : Int) = 0 := askE_of hv h0 h9 (by omega) (by omega)
    have hhr : histR l ch (k : Int) = histTo l ch (k : Int) l.length := by unfold histR; rw [if_pos hask]
    rw [hask, hhr] at HH
    obtain ⟨L, hL⟩ : ∃ L, L = histTo l ch (k : Int) l.length := ⟨_, rfl⟩
    have hLl : L.length ≤ 60 := by have := histTo_le l ch (k : Int) l.length; rw [hL]; omega
    have hhad : ∀ i, hadTo l ch k (i + 1) = (hadTo l ch k i || (gf L i).me == 1) := fun i => by rw [hL]; rfl
    have hhb : hadB l ch k = hadTo l ch k L.length := by rw [hL]; rfl
    rw [← hL] at HH
    rw [hhb] at HSN
    have HHAD := Lib.hid hhad
    clear hask hhr hL hhad hhb
    go_wp2_with (first
     | (go_at_call 92; (with_reducible refine HI.out.mono ?_); rintro e w5 ⟨rfl, b5⟩; have c5 := hb.trans (b5.mono hb.size))
     | (go_at_call 93; (with_reducible refine (HH.out _ c5).mono ?_); rintro e w6 ⟨HA, Hc, rfl, ownH, b6⟩))
    have c6 := c5.trans (b6.mono c5.size)
    have rH : RF w6 w6.heap.size HA L := ownH.reads
    clear HI HH ownH t0 t1 t2
    obtain ⟨wo, rfl⟩ : ∃ wo : World, wo = wr := ⟨_, rfl⟩
    go_loopw [13, 14] (fun h i wr => ∃ j : Nat, j ≤ L.length ∧ h = .bool (hadTo l ch k j) ∧ i = .int .i64 j ∧ Below w6.heap.size w6 wr) (fun _ i _ => L.length - (intOf i).toNat)
    case atStart => exact ⟨0, by omega, rfl, rfl, Below.refl _ _⟩
    case round =>
     obtain ⟨j, hj, rfl, rfl, hb2⟩ := hrel
     obtain ⟨HB, hHB⟩ : ∃ HB, HB = hadTo l ch k j := ⟨_, rfl⟩
     rw [← hHB]
     by_cases hjl : j < L.length
     ·obtain ⟨ad, rfl, hab, y0, y1, y2, y3, y4⟩ := (rH.below hb2).at_ hjl
      have hsj := HHAD.out j
      rw [← hHB] at hsj
      obtain ⟨M, hM⟩ : ∃ M, M = (gf L j).me := ⟨_, rfl⟩
      rw [← hM] at y4 hsj
      clear hHB hM y0 y1 y2 y3
      cases HB with
      | true =>
       have HSJ := Lib.hid (show hadTo l ch k (j + 1) = true by rw [hsj]; rfl)
       clear hsj
       go_wp2_with fail
       go_roundw
       case rel => exact ⟨j + 1, by omega, by rw [HSJ.out], by go_num, hb2⟩
       case measure => simp [intOf]; omega
      | false =>
       have HSJ := Lib.hid (show hadTo l ch k (j + 1) = (M == 1) by rw [hsj]; rfl)
       clear hsj
       go_wp2_with fail
       go_roundw
       case rel => exact ⟨j + 1, by omega, by rw [HSJ.out], by go_num, hb2⟩
       case measure => simp [intOf]; omega
     ·obtain rfl : j = L.length := by omega
      rw [← hHB] at HSN
      clear hHB
      have cz := c6.trans (hb2.mono c6.size)
      cases HB with
      | true =>
       have HS2 := Lib.hid (show evTo f.t l ch (k + 1) = E + 1 by rw [HSN.out]; rfl)
       go_wp2_with fail
       go_roundw
       case rel => exact ⟨k + 1, by omega, by rw [HS2.out]; go_num, by go_num, cz⟩
       case measure => simp [intOf]; omega
      | false =>
       have HS2 := Lib.hid (show evTo f.t l ch (k + 1) = E by rw [HSN.out]; rfl)
       go_wp2_with fail
       go_roundw
       case rel => exact ⟨k + 1, by omega, by rw [HS2.out], by go_num, cz⟩
       case measure => simp [intOf]; omega
  ·obtain rfl : k = dn := by omega
   have hTT : decide ((k : Int) < f.t.len) = false := by rw [decide_eq_false_iff_not, HDN.out]; omega
   go_wp2_with fail
   go_ret
   exact ⟨rfl, hwr⟩
theorem KN.dueB {w0 w : World} {N : Nat} {Z : Nat → Prop} {g : Nat} {s : Of} (hk : KN w0 N Z g s w) (c : Int) :
  Calls Tryz.prog 29 #[.pointer (some ⟨g, 0, none⟩), .int .i64 c] w fun e w' => e = .returned (.tuple #[.int .i64 (dueR s c), .int .i64 (dueE s c)]) ∧ Below w.heap.size w w' := by
 obtain ⟨F, h, hP, _⟩ := hk
 exact Due_any hP c
def exBl : List Fact := [⟨0, 1, 0, 2, 1⟩]
theorem bill_ex (w : World) {wb : World} (hwb : (w.alloc (.cells #[.int .i64 0, .int .i64 1, .int .i64 0, .int .i64 2, .int .i64 1] 53)).alloc (.cells #[.int .i64 100, .int .i64 0, .int .i64 0, .int .i64 0, .int .i64 0, .int .i64 0, .int .i64 0, .int .i64 0, .int .i64 0] 3) = wb) :
  Calls Tryz.prog 28 #[.slice (some ⟨w.heap.size, 0, none⟩) 1 1, .slice none 0 0, .slice (some ⟨w.heap.size + 1, 0, none⟩) 9 9, .int .i64 0, .int .i64 1, .int .i64 0, .int .i64 5] wb fun e w' => e = .returned (.tuple #[.int .i64 200, .int .i64 0]) ∧ Below wb.heap.size wb w' := by
 have hb : Below (w.heap.size + 1) (w.alloc (.cells #[.int .i64 0, .int .i64 1, .int .i64 0, .int .i64 2, .int .i64 1] 53)) wb := by rw [← hwb]; exact (Below.refl _ _).alloc (by simp) _
 have h1 : RF wb (w.heap.size + 1) (some ⟨w.heap.size, 0, none⟩) exBl := RF.lit exBl _ rfl hb (by omega)
 have b1 : Box wb (w.heap.size + 1) (ints prices).toArray := by rw [← hwb]; exact (Box.new (w.alloc (.cells #[.int .i64 0, .int .i64 1, .int .i64 0, .int .i64 2, .int .i64 1] 53)) _ _).at' (by simp)
 have h := billX_any exBl [] prices 0 1 0 5 (by decide) (by decide) (by decide) (some ⟨w.heap.size, 0, none⟩) none (some ⟨w.heap.size + 1, 0, none⟩) 1 0 9 _ (by decide) wb h1 ⟨rfl, fun h => absurd h (Nat.not_lt_zero _)⟩ (RN.of_box b1)
 rw [show billR exBl [] prices 0 1 0 5 = 200 by decide +kernel, show billE exBl [] prices 0 1 0 5 = 0 by decide +kernel] at h
 exact h
set_option maxHeartbeats 3200000 in
theorem topDue_no {f : Fi} {w : World} (hf : f.In w) (hB : f.Big) (hE : EnvA w) (l : List Wd) (A : Option Addr) (c : Nat) (hR : RS w A l) (hll : l.length ≤ 9223372036854775807) (hlw : ∀ k, k < l.length → (l.getD k []).length ≤ 1000000000) (hst : ¬ f.St) :
  Calls Tryz.prog 4 #[.agg f.cells, .slice A l.length c] w fun e w' => e = .returned (.bool true) ∧ Below w.heap.size w w' := by
 have HS := Lib.hid (fun (w' : World) (hb : Below w.heap.size w w') => started_any (hf.below hb) hB (hE.below hb))
 unfold Fi.cells
 obtain ⟨w2, hw2⟩ : ∃ w2, w.alloc (.cells #[.int .i64 f.t.len, .slice f.A1 f.t.rest.length f.c1, .slice f.A2 f.t.clo.length f.c2, .int .i64 f.c.n, .int .i64 f.c.f, .int .i64 f.c.k, .int .i64 f.b.props, .slice f.B1 f.b.items.length f.d1, .slice f.B2 f.b.rules.length f.d2] 32) = w2 := ⟨_, rfl⟩
 have hy : Below w.heap.size w w2 := by rw [← hw2]; exact (Below.refl _ w).alloc (Nat.le_refl _) _
 have b0 : Box w2 w.heap.size #[.int .i64 f.t.len, .slice f.A1 f.t.rest.length f.c1, .slice f.A2 f.t.clo.length f.c2, .int .i64 f.c.n, .int .i64 f.c.f, .int .i64 f.c.k, .int .i64 f.b.props, .slice f.B1 f.b.items.length f.d1, .slice f.B2 f.b.rules.length f.d2] := by rw [← hw2]; exact Box.new w _ _
 unfold Fi.cells at HS
 go_enter Tryz.func4, Tryz.ntmps4
 go_wp2_with fail
 clear hw2
 obtain ⟨wb, hwb⟩ : ∃ wb, (w2.alloc (.cells #[.int .i64 0, .int .i64 1, .int .i64 0, .int .i64 2, .int .i64 1] 53)).alloc (.cells #[.int .i64 100, .int .i64 0, .int .i64 0, .int .i64 0, .int .i64 0, .int .i64 0, .int .i64 0, .int .i64 0, .int .i64 0] 3) = wb := ⟨_, rfl⟩
 have hyb : Below w2.heap.size w2 wb := by rw [← hwb]; exact ((Below.refl _ w2).alloc (Nat.le_refl _) _).alloc (by simp) _
 have HBI := bill_ex w2 hwb
 rw [hwb]
 clear hwb
 refine HBI.mono ?_
 rintro e w3 ⟨rfl, hb3⟩
 clear HBI
 have hy3 := hyb.trans (hb3.mono hyb.size)
 have hy5 := hy.trans (hy3.mono hy.size)
 have b5 := b0.below hy3
 have y0 := b5.cell 0; have y1 := b5.cell 1; have y2 := b5.cell 2; have y3 := b5.cell 3; have y4 := b5.cell 4; have y5 := b5.cell 5; have y6 := b5.cell 6; have y7 := b5.cell 7; have y8 := b5.cell 8; simp only [List.getElem?_toArray, List.getElem?_cons_zero, List.getElem?_cons_succ] at y0 y1 y2 y3 y4 y5 y6 y7 y8
 go_wp2_with (go_at_call 22; (with_reducible refine (HS.out _ hy5).mono ?_); rintro e w6 (⟨_, rfl, hb6⟩ | ⟨h, _⟩); rotate_left; exact absurd h hst)
 go_ret
 exact ⟨rfl, hy5.trans (hb6.mono hy5.size)⟩
set_option maxHeartbeats 6400000 in
theorem topDue_yes {f : Fi} {w : World} (hf : f.In w) (hB : f.Big) (hE : EnvA w) (l : List Wd) (A : Option Addr) (c : Nat) (hR : RS w A l) (hll : l.length ≤ 9223372036854775807) (hlw : ∀ k, k < l.length → (l.getD k []).length ≤ 1000000000) (hst : f.St) :
  Calls Tryz.prog 4 #[.agg f.cells, .slice A l.length c] w fun e w' => e = .returned (.bool true) ∧ Below w.heap.size w w' := by
 have HS := Lib.hid (fun (w' : World) (hb : Below w.heap.size w w') => started_any (hf.below hb) hB (hE.below hb))
 unfold Fi.cells
 obtain ⟨w2, hw2⟩ : ∃ w2, w.alloc (.cells #[.int .i64 f.t.len, .slice f.A1 f.t.rest.length f.c1, .slice f.A2 f.t.clo.length f.c2, .int .i64 f.c.n, .int .i64 f.c.f, .int .i64 f.c.k, .int .i64 f.b.props, .slice f.B1 f.b.items.length f.d1, .slice f.B2 f.b.rules.length f.d2] 32) = w2 := ⟨_, rfl⟩
 have hy : Below w.heap.size w w2 := by rw [← hw2]; exact (Below.refl _ w).alloc (Nat.le_refl _) _
 have b0 : Box w2 w.heap.size #[.int .i64 f.t.len, .slice f.A1 f.t.rest.length f.c1, .slice f.A2 f.t.clo.length f.c2, .int .i64 f.c.n, .int .i64 f.c.f, .int .i64 f.c.k, .int .i64 f.b.props, .slice f.B1 f.b.items.length f.d1, .slice f.B2 f.b.rules.length f.d2] := by rw [← hw2]; exact Box.new w _ _
 unfold Fi.cells at HS
 have hlen := Fi.Big.len hst.e
 have HLW := Lib.hid hlw
 obtain ⟨m, hm⟩ : ∃ m, m = min l.length 30 := ⟨_, rfl⟩
 have hm1 : m ≤ l.length ∧ m ≤ 30 := by omega
 have hm2 : m = l.length ∨ (m = 30 ∧ 30 < l.length) := by omega
 have HM := Lib.hid hm2
 clear hlw hm hm2
 go_enter Tryz.func4, Tryz.ntmps4
 go_wp2_with fail
 clear hw2
 obtain ⟨wb, hwb⟩ : ∃ wb, (w2.alloc (.cells #[.int .i64 0, .int .i64 1, .int .i64 0, .int .i64 2, .int .i64 1] 53)).alloc (.cells #[.int .i64 100, .int .i64 0, .int .i64 0, .int .i64 0, .int .i64 0, .int .i64 0, .int .i64 0, .int .i64 0, .int .i64 0] 3) = wb := ⟨_, rfl⟩
 have hyb : Below w2.heap.size w2 wb := by rw [← hwb]; exact ((Below.refl _ w2).alloc (Nat.le_refl _) _).alloc (by simp) _
 have HBI := bill_ex w2 hwb
 rw [hwb]
 clear hwb
 refine HBI.mono ?_
 rintro e w3 ⟨rfl, hb3⟩
 clear HBI
 have hy3 := hyb.trans (hb3.mono hyb.size)
 have hy5 := hy.trans (hy3.mono hy.size)
 have b5 := b0.below hy3
 have y0 := b5.cell 0; have y1 := b5.cell 1; have y2 := b5.cell 2; have y3 := b5.cell 3; have y4 := b5.cell 4; have y5 := b5.cell 5; have y6 := b5.cell 6; have y7 := b5.cell 7; have y8 := b5.cell 8; simp only [List.getElem?_toArray, List.getElem?_cons_zero, List.getElem?_cons_succ] at y0 y1 y2 y3 y4 y5 y6 y7 y8
 go_wp2_with (go_at_call 22; (with_reducible refine (HS.out _ hy5).mono ?_); rintro e w6 (⟨h, _⟩ | ⟨_, g, rfl, hk6⟩); exact absurd hst h)
 clear y0 y1 y2 y3 y4 y5 y6 y7 y8 HS
 obtain ⟨w5, hw5⟩ : ∃ w5, w5 = w3 := ⟨_, rfl⟩
 rw [← hw5] at hk6 hy5 b5 hy3 hb3
 clear hw5 hb3
 go_loopw [9] (fun v wr => ∃ k : Nat, k ≤ m ∧ v = .int .i64 k ∧ KN w5 k (fun _ => False) g (runTo f.s0 l k) wr) (fun v _ => m - (intOf v).toNat)
 case atStart => exact ⟨0, by omega, rfl, by rw [runTo_zero]; exact hk6⟩
 case round =>
  clear hk6
  obtain ⟨k, hk, rfl, hkn⟩ := hrel
  by_cases hlt : k < m
  ·obtain ⟨ad, rfl, hab, c0⟩ := (hR.below hy5).at_ (k := k) (by omega)
   have htl := HLW.out k (by omega)
   have hrt := runTo_succ f.s0 l (k := k) (by omega)
   rw [nil_getD (by omega)] at htl hrt
   obtain ⟨tx, htx⟩ : ∃ tx, tx = l[k]'(by omega) := ⟨_, rfl⟩
   rw [← htx] at c0 htl hrt
   obtain ⟨sk, hsk⟩ : ∃ sk, sk = runTo f.s0 l k := ⟨_, rfl⟩
   rw [← hsk] at hkn hrt
   have HRT := Lib.hid hrt
   have HSK := Lib.hid hsk
   clear htx hsk hrt
   have q0 := (hkn.at_.cell (by exact hab)).trans c0
   have HD := Lib.hid (hkn.do_ (by omega) tx (by omega))
   go_wp2_with (go_at_call 25; (with_reducible refine HD.out.mono ?_); rintro e w9 ⟨rfl, hk9, _⟩)
   rw [← HRT.out] at hk9
   go_roundw
   case rel => exact ⟨k + 1, by omega, by go_num, hk9⟩
   case measure => simp [intOf]; omega
  ·obtain rfl : k = m := by omega
   obtain ⟨hs1, hs2, hs3⟩ := runTo_same f.s0 l k
   obtain ⟨S, hS⟩ : ∃ S, S = runTo f.s0 l k := ⟨_, rfl⟩
   rw [← hS] at hkn hs1 hs2 hs3
   have hok := hkn.ok
   have hT : TmOk f.t := by have := hok.tm; rw [hs1] at this; exact this
   have HK := Lib.hid hkn.eaters
   have HF := Lib.hid (fun (w' : World) (hb : Below wr.heap.size wr w') => (hkn.below hb).facts)
   have hkn2 := hkn
   have hyo := hy5.trans (hkn.at_.mono hy5.size)
   have bo := b5.keep hkn.at_ b5.lt
   obtain ⟨wo, hwo⟩ : ∃ wo, wo = wr := ⟨_, rfl⟩
   have hkl := hok.kl
   have hfl := hok.fl
   have HKN := Lib.hid hkn
   have HS1 := Lib.hid hs1
   clear hS hs1 hs2 hs3 hwo hkn hkn2
   have htx : k < l.length ∨ ¬ k < l.length := Decidable.em _
   rcases htx with hc | hc
   all_goals
    (try (have h30 : 30 ≤ k := by have := HM.out; omega))
    go_wp2_with (first
     | (go_at_call 26; (with_reducible refine HK.out.mono ?_); rintro e w7 ⟨KA, Kc, ek, rfl, rK, hb7⟩)
     | (go_at_call 24; (with_reducible refine (HF.out _ hb7).mono ?_); rintro e w8 ⟨FA, Fc, rfl, hfc, rF, hb8⟩))
    have hb78 := hb7.trans (hb8.mono hb7.size)
    have hk8 := HKN.out.below hb78
    have hy8 := hyo.trans (hb78.mono hyo.size)
    have b8 := bo.below hb78
    have rK8 := rK.below hb8
    clear HK HF rK hb7 hb8
    obtain ⟨wq, rfl⟩ : ∃ wq : World, wq = wr := ⟨_, rfl⟩
    go_loopw [12] (fun v wr => ∃ i : Nat, i ≤ S.kids.length ∧ v = .int .i64 i ∧ Below w8.heap.size w8 wr) (fun v _ => S.kids.length - (intOf v).toNat)
    case atStart => exact ⟨0, by omega, rfl, Below.refl _ _⟩
    case round =>
     obtain ⟨i, hi, rfl, hb⟩ := hrel
     by_cases hil : i < S.kids.length
     ·obtain ⟨d1, q, d2, d3⟩ := due_law hok hil
      have hkn9 := hok.kn _ (gk_mem hil)
      obtain ⟨ka, rfl, hkb, v0, v1⟩ := (rK8.below hb).at_ hil
      have hdays : S.days = f.t.len.toNat := by unfold Of.days; rw [HS1.out]; rfl
      have hst2 : S.tm = f.t := HS1.out
      rw [hdays, hst2] at d3
      have hdu := (hk8.below hb).dueB (gk S.kids i).num
      rw [d1, d2] at hdu
      have hev := fun (w' : World) (hb' : Below wr.heap.size wr w') => ever_any (hf.below ((hy8.trans (hb.mono hy8.size)).trans (hb'.mono (Nat.le_trans hy8.size hb.size)))) hlen hT S.facts hok.fv (by omega) (gk S.kids i).num hkn9.1 hkn9.2 FA Fc _ ((rF.below hb).below hb')
      have hel := evTo_le f.t S.facts (gk S.kids i).num f.t.len.toNat
      have htl := hT.len2
      obtain ⟨nm, hnm⟩ : ∃ nm, nm = (gk S.kids i).num := ⟨_, rfl⟩
      rw [← hnm] at v0 hdu hev d3 hel
      obtain ⟨EV, hEV⟩ : ∃ EV, EV = evTo f.t S.facts nm f.t.len.toNat := ⟨_, rfl⟩
      rw [← hEV] at hev d3 hel
      have hEV9 : EV ≤ 1000 := by omega
      obtain ⟨DU, hDU⟩ : ∃ DU : Int, DU = 100 * (q : Int) := ⟨_, rfl⟩
      rw [← hDU] at hdu
      have g1 : decide (DU < 0) = false := by rw [decide_eq_false_iff_not]; omega
      have g2 : DU.tmod 100 = 0 := by rw [hDU]; exact Int.mul_tmod_right _ _
      have g3 : RowKit.wrap64 (100 * (EV : Int)) = 100 * (EV : Int) := IntWalk.wrap64_in _ (by omega)
      have g4 : IntKind.i64.wrap (100 * (EV : Int)) = 100 * (EV : Int) := IntWalk.i64_in _ (by omega)
      have g5 : decide (100 * (EV : Int) < DU) = false := by rw [decide_eq_false_iff_not]; omega
      have g6 : IntKind.i64.wrap 0 = 0 := rfl
      have HDU := Lib.hid hdu
      have HEV := Lib.hid hev
      unfold Fi.cells at HEV
      have V0 := Lib.hid v0
      clear hdu hev hnm hEV hDU d1 d2 d3 hkn9 v1 hdays hst2 hel htl
      go_wp2_with (go_at_call 29; (with_reducible refine HDU.out.mono ?_); rintro e w9 ⟨rfl, hb9⟩)
      have hbz := hb.trans (hb9.mono hb.size)
      have b9 := b8.below hbz
      have j0 := (hb9.cell (by exact hkb)).trans V0.out
      have p0 := b9.cell 0; have p1 := b9.cell 1; have p2 := b9.cell 2; have p3 := b9.cell 3; have p4 := b9.cell 4; have p5 := b9.cell 5; have p6 := b9.cell 6; have p7 := b9.cell 7; have p8 := b9.cell 8; simp only [List.getElem?_toArray, List.getElem?_cons_zero, List.getElem?_cons_succ] at p0 p1 p2 p3 p4 p5 p6 p7 p8
      clear v0
      go_region_held3 (fun w' => w'.cell? ⟨w.heap.size, 0, none⟩ = some (.int .i64 f.t.len) ∧ w'.cell? ⟨w.heap.size, 1, none⟩ = some (.slice f.A1 f.t.rest.length f.c1) ∧ w'.cell? ⟨w.heap.size, 2, none⟩ = some (.slice f.A2 f.t.clo.length f.c2) ∧ w'.cell? ⟨w.heap.size, 3, none⟩ = some (.int .i64 f.c.n) ∧ w'.cell? ⟨w.heap.size, 4, none⟩ = some (.int .i64 f.c.f) ∧ w'.cell? ⟨w.heap.size, 5, none⟩ = some (.int .i64 f.c.k) ∧ w'.cell? ⟨w.heap.size, 6, none⟩ = some (.int .i64 f.b.props) ∧ w'.cell? ⟨w.heap.size, 7, none⟩ = some (.slice f.B1 f.b.items.length f.d1) ∧ w'.cell? ⟨w.heap.size, 8, none⟩ = some (.slice f.B2 f.b.rules.length f.d2) ∧ w'.cell? (ka.add (i * 2)) = some (.int .i64 nm))
       (first | exact ⟨p0, p1, p2, p3, p4, p5, p6, p7, p8, j0⟩ | exact ⟨r0, r1, r2, r3, r4, r5, r6, r7, r8, j1⟩)
       (first
        | (go_at_call 30; (with_reducible refine (HEV.out _ (hb9.drew)).mono ?_); rintro e wa ⟨rfl, hba⟩; have hba2 := (Below.refl w9.heap.size w9).drew.trans hba; have b10 := b9.below hba2; have j1 := (hba2.cell (by exact Nat.lt_of_lt_of_le hkb hb9.size)).trans j0; have r0 := b10.cell 0; have r1 := b10.cell 1; have r2 := b10.cell 2; have r3 := b10.cell 3; have r4 := b10.cell 4; have r5 := b10.cell 5; have r6 := b10.cell 6; have r7 := b10.cell 7; have r8 := b10.cell 8; simp only [List.getElem?_toArray, List.getElem?_cons_zero, List.getElem?_cons_succ] at r0 r1 r2 r3 r4 r5 r6 r7 r8))
      have hbe := hbz.trans (hba2.mono hbz.size)
      go_wp2_with fail
      go_roundw
      case rel => exact ⟨i + 1, by omega, by go_num, hbe⟩
      case measure => simp [intOf]; omega
     ·obtain rfl : i = S.kids.length := by omega
      go_wp2_with fail
      go_ret
      exact ⟨rfl, hy8.trans (hb.mono hy8.size)⟩
theorem topDue_any {f : Fi} {w : World} (hf : f.In w) (hB : f.Big) (hE : EnvA w) (l : List Wd) (A : Option Addr) (c : Nat) (hR : RS w A l) (hll : l.length ≤ 9223372036854775807) (hlw : ∀ k, k < l.length → (l.getD k []).length ≤ 1000000000) :
  Calls Tryz.prog 4 #[.agg f.cells, .slice A l.length c] w fun e w' => e = .returned (.bool true) ∧ Below w.heap.size w w' := by
 by_cases hst : f.St
 ·exact topDue_yes hf hB hE l A c hR hll hlw hst
 ·exact topDue_no hf hB hE l A c hR hll hlw hst
end Go.Proofs.YtiapkffihpgdcaaGreatDoor
namespace Go.Proofs.YtiapkffihpgdcaaGreatDoor
open Go.ChangeShapes Go.WideShapes Go.ChangeAt Go.RowKit Go.Deep Go.Joins
section
variable {H : Type} {enc : TypeId × Value → H} {W : World}
theorem bulk_one (d : DataW H) : 1 ≤ Rows.uptoBulk d := by
 cases d with
 | lit l => cases l <;> simp [Rows.uptoBulk]
 | nil => simp [Rows.uptoBulk]
 | ptr d => simp [Rows.uptoBulk]
 | slice elems spare => simp [Rows.uptoBulk]
 | agg parts => simp [Rows.uptoBulk]
 | iface t d => simp [Rows.uptoBulk]
 | map entries => simp [Rows.uptoBulk]
 | held h => simp [Rows.uptoBulk]
theorem bulk_part {d : DataW H} {l : List (DataW H)} (h : d ∈ l) : Rows.uptoBulk d ≤ Rows.uptoBulkAll l := by
 induction l with
 | nil => cases h
 | cons x r ih =>
  simp only [Rows.uptoBulkAll]
  cases List.mem_cons.1 h with
  | inl e => subst e; omega
  | inr e => have := ih e; omega
theorem bulk_length (l : List (DataW H)) : l.length ≤ Rows.uptoBulkAll l := by
 induction l with
 | nil => simp [Rows.uptoBulkAll]
 | cons x r ih => have := bulk_one x; simp only [Rows.uptoBulkAll, List.length_cons]; omega
theorem bulk_agg {d : DataW H} {l : List (DataW H)} (h : d ∈ l) : Rows.uptoBulk d ≤ Rows.uptoBulk (.agg l) := by
 have := bulk_part h
 simp only [Rows.uptoBulk]; omega
theorem bulk_elem {d : DataW H} {l r : List (DataW H)} (h : d ∈ l) : Rows.uptoBulk d ≤ Rows.uptoBulk (.slice l r) := by
 have := bulk_part h
 simp only [Rows.uptoBulk]; omega
theorem bulk_slice {t e : TypeId} {fuel : Nat} {A : Option Addr} {n c : Nat} {x : DataW H × List MemPlace} (ht : Tryz.prog.underlying t = some (.slice e)) (h : DataW.trod enc Tryz.prog W 0 (fun _ => true) true fuel t [.slice A n c] = some x) : n ≤ Rows.uptoBulk x.1 := by
 rcases open_slice ht h with ⟨hcs, -⟩ | ⟨a, len, cap, m, k, D, Pl, hcs, -, -, -, -, hx, -⟩
 ·simp only [List.cons.injEq, Value.slice.injEq, and_true] at hcs
  omega
 ·simp only [List.cons.injEq, Value.slice.injEq, and_true] at hcs
  obtain ⟨-, rfl, -⟩ := hcs
  subst hx
  have := bulk_length ((List.range n).map D)
  rw [List.length_map, List.length_range] at this
  simp only [Rows.uptoBulk]; omega
theorem bulk_two {t e : TypeId} {fs : Array Field} {fuel : Nat} {A : Option Addr} {n c : Nat} {x : DataW H × List MemPlace} (ht : Tryz.prog.underlying t = some (.slice e)) (he : Tryz.prog.underlying e = some (.struct fs))
  (hone : oneCellFields Tryz.prog fs = true) (hC : Tryz.prog.cellsOf e = fs.size) (hs : fs.size = 2) (h : DataW.trod enc Tryz.prog W 0 (fun _ => true) true fuel t [.slice A n c] = some x) {f g : Nat → Value} (hR : R2 (fun _ => True) W A n f g) :
  ∀ i, i < n → ∀ (j : Nat) (q : Field), fs[j]? = some q → ∃ (k : Nat) (y : DataW H × List MemPlace), Rows.uptoBulk y.1 ≤ Rows.uptoBulk x.1 ∧ DataW.trod enc Tryz.prog W 0 (fun _ => true) true k q.type [if j = 0 then f i else g i] = some y := by
 intro i hi j q hq
 rcases open_slice_fields ht he hone hC h with ⟨hcs, -⟩ | ⟨a, len, cap, m, D, Pl, hcs, -, hl, -, hm, hx, hD⟩
 ·simp only [List.cons.injEq, Value.slice.injEq, and_true] at hcs
  omega
 ·simp only [List.cons.injEq, Value.slice.injEq, and_true] at hcs
  obtain ⟨rfl, rfl, -⟩ := hcs
  simp only [if_true] at hm
  obtain ⟨ys, k, e1, -, -, hf⟩ := hD i (by omega)
  obtain ⟨v, y, c0, hy, ht0⟩ := hf j q hq
  have hj : j < 2 := by have := (Array.getElem?_eq_some_iff.1 hq).1; omega
  obtain ⟨ad, ea, -, -, d0, d1⟩ := hR.at_ hi
  obtain rfl := Option.some.inj ea
  rw [hs] at c0
  have hv : v = if j = 0 then f i else g i := by
   by_cases e : j = 0
   ·subst e
    rw [if_pos rfl]
    have := c0.symm.trans d0
    exact Option.some.inj this
   ·obtain rfl : j = 1 := by omega
    rw [if_neg (by decide)]
    have hs1 := addr_succ a (i * 2) 0
    rw [show i * 2 + (0 + 1) = i * 2 + 1 from rfl] at hs1
    rw [hs1] at c0
    exact Option.some.inj (c0.symm.trans d1)
  subst hv
  refine ⟨k, y, ?_, ht0⟩
  have m1 : y.1 ∈ ys.map (·.1) := List.mem_map.2 ⟨y, List.mem_of_getElem? hy, rfl⟩
  have b1 := bulk_agg m1
  rw [← e1] at b1
  have m2 : D i ∈ (List.range n).map D := List.mem_map.2 ⟨i, List.mem_range.2 hi, rfl⟩
  have b2 := bulk_elem (r := (List.range (m - n)).map fun j => D (n + j)) m2
  rw [hx]
  exact Nat.le_trans b1 b2
theorem bulk_items {fuel : Nat} {A : Option Addr} {l : List It} {c : Nat} {x : DataW H × List MemPlace} (h : DataW.trod enc Tryz.prog W 0 (fun _ => true) true fuel 27 [.slice A l.length c] = some x) {hp hq : Nat → SlH} (hR : RIt (fun _ => True) W A l hp hq) :
  ∀ k, k < l.length → (gIt l k).parts.length ≤ Rows.uptoBulk x.1 ∧ (gIt l k).has.length ≤ Rows.uptoBulk x.1 := by
 intro k hk
 have hC : Tryz.prog.cellsOf 120 = 2 := by kernel_rfl
 have hh := bulk_two Tryz.underlying27 Tryz.underlying120 (by kernel_rfl) hC rfl h hR.row k hk
 obtain ⟨k0, y0, b0, t0⟩ := hh 0 _ rfl
 obtain ⟨k1, y1, b1, t1⟩ := hh 1 _ rfl
 have c0 := bulk_slice Tryz.underlying22 t0
 have c1 := bulk_slice Tryz.underlying22 t1
 exact ⟨Nat.le_trans c0 b0, Nat.le_trans c1 b1⟩
theorem bulk_rules {fuel : Nat} {A : Option Addr} {l : List Rl} {c : Nat} {x : DataW H × List MemPlace} (h : DataW.trod enc Tryz.prog W 0 (fun _ => true) true fuel 28 [.slice A l.length c] = some x) {hp : Nat → SlH} (hR : RRl (fun _ => True) W A l hp) :
  ∀ k, k < l.length → (gRl l k).iff.length ≤ Rows.uptoBulk x.1 := by
 intro k hk
 have hC : Tryz.prog.cellsOf 166 = 2 := by kernel_rfl
 have hh := bulk_two Tryz.underlying28 Tryz.underlying166 (by kernel_rfl) hC rfl h hR.row k hk
 obtain ⟨k0, y0, b0, t0⟩ := hh 0 _ rfl
 have c0 := bulk_slice Tryz.underlying22 t0
 exact Nat.le_trans c0 b0
theorem bulk_orders {l : List Wd} {A : Option Addr} {c : Nat} {d : DataW H} {p : List MemPlace} (h : DataW.Trod enc Tryz.prog W 0 (fun _ => true) true 33 (.slice A l.length c) d p) (hR : RS W A l) :
  ∀ k, k < l.length → (l.getD k []).length ≤ Rows.uptoBulk d := by
 intro k hk
 obtain ⟨fuel, hf⟩ := h
 rcases open_strs Tryz.underlying33 Tryz.underlying9 (by kernel_rfl) hf with ⟨hcs, -⟩ | ⟨a, len, cap, m, Sx, hcs, -, hl, -, hm, hx, hi⟩
 ·have hcs' : Value.slice A l.length c = .slice none 0 0 := by simpa [Value.cells] using hcs
  simp only [Value.slice.injEq] at hcs'
  omega
 ·have hcs' : Value.slice A l.length c = .slice (some a) len cap := by simpa [Value.cells] using hcs
  simp only [Value.slice.injEq] at hcs'
  obtain ⟨rfl, rfl, -⟩ := hcs'
  simp only [if_true] at hm
  obtain ⟨ad, ea, -, c0⟩ := hR.at_ hk
  obtain rfl := Option.some.inj ea
  have h1 := (hi k (by omega)).1
  have h2 := Option.some.inj (h1.symm.trans c0)
  have h3 : (Sx k).data.toList = l[k] := by
   simp only [St, Value.string.injEq] at h2
   rw [h2]
  have m1 : (DataW.lit (H := H) (.string (Sx k).data.toList)) ∈ (List.range l.length).map fun i => DataW.lit (H := H) (.string (Sx i).data.toList) := List.mem_map.2 ⟨k, List.mem_range.2 hk, rfl⟩
  have b1 := bulk_elem (r := (List.range (m - l.length)).map fun j => DataW.lit (H := H) (.string (Sx (l.length + j)).data.toList)) m1
  have e1 : d = .slice ((List.range l.length).map fun i => .lit (.string (Sx i).data.toList)) ((List.range (m - l.length)).map fun j => .lit (.string (Sx (l.length + j)).data.toList)) := by
   have := congrArg Prod.fst hx; exact this
  rw [e1]
  refine Nat.le_trans ?_ b1
  rw [h3, nil_getD hk]
  simp only [Rows.uptoBulk]
  omega
theorem bulk_firm {f : Fi} {d : DataW H} {p : List MemPlace} (h : DataW.Trod enc Tryz.prog W 0 (fun _ => true) true 32 (.agg f.cells) d p) (hI : f.In W) (hd : Rows.uptoBulk d ≤ 1000000000) : f.Big := by
 have h1 : Tryz.prog.cellsOf 24 = 3 := by kernel_rfl
 have h2 : Tryz.prog.cellsOf 26 = 3 := by kernel_rfl
 have h3 : Tryz.prog.cellsOf 30 = 3 := by kernel_rfl
 have hi : Tryz.prog.cellsOf 3 = 1 := by kernel_rfl
 have hs : Tryz.prog.cellsOf 22 = 1 := by kernel_rfl
 have hit : Tryz.prog.cellsOf 27 = 1 := by kernel_rfl
 have hrl : Tryz.prog.cellsOf 28 = 1 := by kernel_rfl
 obtain ⟨fuel, hf0⟩ := h
 obtain ⟨xs, n, -, hx, -, hxl, hf⟩ := DataW.trod_struct Tryz.underlying32 hf0
 match xs, hxl with
 | [y0, y1, y2], _ =>
  have f0 : DataW.trod enc Tryz.prog W 0 (fun _ => true) true n 24 [.int .i64 f.t.len, .slice f.A1 f.t.rest.length f.c1, .slice f.A2 f.t.clo.length f.c2] = some y0 := by have := hf 0 _ rfl; simpa [h1, h2, h3, Value.cells, Fi.cells] using this
  have f2 : DataW.trod enc Tryz.prog W 0 (fun _ => true) true n 30 [.int .i64 f.b.props, .slice f.B1 f.b.items.length f.d1, .slice f.B2 f.b.rules.length f.d2] = some y2 := by have := hf 2 _ rfl; simpa [h1, h2, h3, Value.cells, Fi.cells] using this
  have e1 : d = .agg ([y0, y1, y2].map (·.1)) := congrArg Prod.fst hx
  have b0 : Rows.uptoBulk y0.1 ≤ Rows.uptoBulk d := by rw [e1]; exact bulk_agg (by simp)
  have b2 : Rows.uptoBulk y2.1 ≤ Rows.uptoBulk d := by rw [e1]; exact bulk_agg (by simp)
  obtain ⟨xs, n2, -, hx2, -, hxl2, hf2⟩ := DataW.trod_struct Tryz.underlying24 f0
  obtain ⟨zs, n3, -, hx3, -, hxl3, hf3⟩ := DataW.trod_struct Tryz.underlying30 f2
  match xs, hxl2, zs, hxl3 with
  | [u0, u1, u2], _, [v0, v1, v2], _ =>
   have g1 : DataW.trod enc Tryz.prog W 0 (fun _ => true) true n2 22 [.slice f.A1 f.t.rest.length f.c1] = some u1 := by have := hf2 1 _ rfl; simpa [hi, hs] using this
   have g2 : DataW.trod enc Tryz.prog W 0 (fun _ => true) true n2 22 [.slice f.A2 f.t.clo.length f.c2] = some u2 := by have := hf2 2 _ rfl; simpa [hi, hs] using this
   have k1 : DataW.trod enc Tryz.prog W 0 (fun _ => true) true n3 27 [.slice f.B1 f.b.items.length f.d1] = some v1 := by have := hf3 1 _ rfl; simpa [hi, hit, hrl] using this
   have k2 : DataW.trod enc Tryz.prog W 0 (fun _ => true) true n3 28 [.slice f.B2 f.b.rules.length f.d2] = some v2 := by have := hf3 2 _ rfl; simpa [hi, hit, hrl] using this
   have e2 : y0.1 = .agg ([u0, u1, u2].map (·.1)) := congrArg Prod.fst hx2
   have e3 : y2.1 = .agg ([v0, v1, v2].map (·.1)) := congrArg Prod.fst hx3
   have c1 : Rows.uptoBulk u1.1 ≤ Rows.uptoBulk y0.1 := by rw [e2]; exact bulk_agg (by simp)
   have c2 : Rows.uptoBulk u2.1 ≤ Rows.uptoBulk y0.1 := by rw [e2]; exact bulk_agg (by simp)
   have c3 : Rows.uptoBulk v1.1 ≤ Rows.uptoBulk y2.1 := by rw [e3]; exact bulk_agg (by simp)
   have c4 : Rows.uptoBulk v2.1 ≤ Rows.uptoBulk y2.1 := by rw [e3]; exact bulk_agg (by simp)
   have r1 := bulk_slice Tryz.underlying22 g1
   have r2 := bulk_slice Tryz.underlying22 g2
   have r3 := bulk_slice Tryz.underlying27 k1
   have r4 := bulk_slice Tryz.underlying28 k2
   have r5 := bulk_items k1 hI.bk.it
   have r6 := bulk_rules k2 hI.bk.rl
   exact ⟨by omega, by omega, ⟨by omega, by omega, fun k hk => by have := (r5 k hk).1; omega, fun k hk => by have := (r5 k hk).2; omega, fun k hk => by have := r6 k hk; omega⟩⟩
theorem bulk_of {l : List (DataW H)} (hk : Rows.uptoSmall H l = true) : Rows.uptoBulkAll l ≤ 1048576 := of_decide_eq_true hk
theorem bulk_in {l : List (DataW H)} (hk : Rows.uptoSmall H l = true) {d : DataW H} (h : d ∈ l) : Rows.uptoBulk d ≤ 1048576 := Nat.le_trans (bulk_part h) (bulk_of hk)
theorem witness_cond {C : Checked} {os : Os} {f : FuncId} {fn : Func} {s : OpenSpec} {conds : List PathCond} {apart : Bool} {laid : List (String × DataW Unit)} (w0 : World) (args : Array Value) (hos : w0.os = os)
  (hsh : (w0.forCall (fun _ _ => 0) ⟨#[], args, []⟩).Shaped C.prog)
  (hok : Input.okWideB C.prog (w0.forCall (fun _ _ => 0) ⟨#[], args, []⟩) f ⟨#[], args, []⟩ = true)
  (hrow : s.preRow enc C.prog fn conds apart laid (w0.forCall (fun _ _ => 0) ⟨#[], args, []⟩).memory args) :
  ∃ (w : World) (tape : Tape) (i : Input), w.os = os ∧ (w.forCall tape i).Shaped C.prog ∧ i.vars = [] ∧ Input.okWide C.prog (w.forCall tape i) .any w.heap.size f i ∧
   s.preRow enc C.prog fn conds apart laid (w.forCall tape i).memory i.args ∧ ({} : Assume).holds C.prog (lone (Frame.enter C.prog f i.args .normal) [] (w.forCall tape i)) :=
 ⟨w0, fun _ _ => 0, ⟨#[], args, []⟩, hos, hsh, (Input.okWide_of_okWideB (base := 0) hok).1, (Input.okWide_of_okWideB hok).2, hrow, by
  simp only [Assume.holds]
  exact ⟨by simp, by simp, fun _ => Modest.zero, by simp, by simp⟩⟩
end
theorem topDue_env {W : World} (hL : laidMetH Tryz.prog Rows.topDueUptoRow.laid W) (hs : W.ShapedOpen Tryz.prog) : EnvA W := by
 obtain ⟨h1, h2⟩ := plain_met (Lp := plainL) (by kernel_rfl) (by kernel_rfl) hL
 exact env_of h1 (by simp [plainL]) (by simp [plainL]) h2 hs
theorem topDue_reads (os : Os) {H : Type} (enc : TypeId × Value → H) : DataW.whole enc Tryz.prog ((witW os plainL).forCall (fun _ _ => 0) ⟨#[], #[.agg #[.int .i64 0, .slice none 0 0, .slice none 0 0, .int .i64 0, .int .i64 0, .int .i64 0, .int .i64 0, .slice none 0 0, .slice none 0 0], .slice none 0 0], []⟩).memory Tryz.f4.params.toList Rows.topDueSpec.vars false #[.agg #[.int .i64 0, .slice none 0 0, .slice none 0 0, .int .i64 0, .int .i64 0, .int .i64 0, .int .i64 0, .slice none 0 0, .slice none 0 0], .slice none 0 0].toList 8 = some ([.agg [.agg [.lit (.int .i64 0), .nil, .nil], .agg [.lit (.int .i64 0), .lit (.int .i64 0), .lit (.int .i64 0)], .agg [.lit (.int .i64 0), .nil, .nil]], .nil], [], []) := by kernel_rfl
theorem topDue_lifted (os : Os) (started : os.Started) (H : Type) (enc : TypeId × Value → H) (F : Stop.Interp) :
  ReturnsInHanded {} Tryz.checked os 4 .any ((Rows.OpenSpec.upto Rows.topDueSpec).preRow enc Tryz.prog Tryz.f4 Rows.topDueUptoRow.domain false Rows.topDueUptoRow.laid) (((Rows.OpenSpec.upto Rows.topDueSpec).at F).post enc Tryz.prog Tryz.f4 false true false false) := by
 refine returnsInHanded_of_row (C := Tryz.checked) (s := Rows.OpenSpec.upto Rows.topDueSpec) own_ started (by kernel_rfl) Tryz.func4
  (witness_cond (enc := enc) (C := Tryz.checked) (witW os plainL) #[.agg #[.int .i64 0, .slice none 0 0, .slice none 0 0, .int .i64 0, .int .i64 0, .int .i64 0, .int .i64 0, .slice none 0 0, .slice none 0 0], .slice none 0 0] (by unfold witW; rw [World.layVars_os]; rfl)
   (World.shaped_of_ZipB (by kernel_rfl) (by kernel_rfl)) (by kernel_rfl)
   (OpenSpec.preRow_of_cond 8 (topDue_reads os enc) (by kernel_rfl) (fun k hk => by cases hk; kernel_rfl) (by kernel_rfl)
    (laidMetH_of_parts (by rw [show (Rows.topDueUptoRow.laid.filter fun x => x.2.handleName?.isNone) = plainL by kernel_rfl]; exact witW_met _ (by kernel_rfl) (by kernel_rfl)) (by kernel_rfl)))) ?_
 intro W base args ds gs before hval0 hW _ hcond _ hL hS _
 have hval : ∀ (j : Nat) t v, Tryz.f4.params[j]? = some t → args[j]? = some v → Value.okWide Tryz.prog W .any base t v := hval0
 have hW' := hW
 obtain ⟨p, q, hA0, hV, rfl, hfz, hnd⟩ := hW
 have hA : DataW.TrodAll enc Tryz.prog W 0 (fun _ => true) true Tryz.f4.params.toList args.toList ds p := hA0
 rw [Tryz.params4] at hA hval
 obtain ⟨v0, v1, d0, d1, p0, p1, rfl, rfl, rfl, h0, h1⟩ := trodAll_two hA
 have hsm : Rows.uptoSmall H (_ ++ gs) = true := hcond _ rfl
 obtain ⟨f, rfl, hf⟩ := open_firm (hval 0 _ v0 rfl rfl) h0
 have hB := bulk_firm h0 hf (by have := bulk_in hsm (d := d0) (by simp); omega)
 obtain ⟨l, A, c, rfl, hrs, hll, -⟩ := open_orders (hval 1 _ v1 rfl rfl) h1
 have hlk : ∀ k, k < l.length → (l.getD k []).length ≤ 1000000000 := fun k hk => by have := bulk_orders h1 hrs k hk; have := bulk_in hsm (d := d1) (by simp); omega
 refine (topDue_any hf hB (topDue_env hL hS) l A c hrs hll hlk).mono fun e W' ⟨he, hb⟩ => ?_
 subst he
 exact ⟨_, rfl, law_post (s := Rows.topDueSpec) hW' rfl (by kernel_rfl) rfl (by rw [Tryz.params4]; intro t ht; simp at ht; rcases ht with rfl | rfl <;> exact ⟨by kernel_rfl, of_decide_eq_true (by kernel_rfl)⟩) hb⟩
set_option maxHeartbeats 4000000 in
theorem topDue_closed : joinedFacts Tryz.prog 4 Tryz.f4 Rows.topDueSpec Rows.topDueUptoRow = true := by
 unfold joinedFacts
 simp only [Bool.and_eq_true]
 repeat' apply And.intro
 all_goals (as_aux_lemma => kernel_rfl)
set_option maxHeartbeats 4000000 in
theorem topDue_wrap : Tryz.f4.isWrapper Tryz.prog Rows.topDueUptoRow.wrapper Rows.topDueUptoRow.mainSum := by
 unfold Func.isWrapper; first | (rw [if_pos (by decide +kernel)]; kernel_rfl) | (rw [if_neg (by decide +kernel)]; exact ⟨rfl, rfl⟩)
theorem topDue_named : Tryz.prog.funcNamed Rows.topDueUptoRow.func = some 4 := by kernel_rfl
theorem topDue_inst : Tryz.f4.isInstance Tryz.prog Rows.topDueUptoRow.origin Rows.topDueUptoRow.targs := of_decide_eq_true (by kernel_rfl)
set_option maxHeartbeats 4000000 in
theorem topDue_row : Rows.TopDueUptoSaid :=
 OpenClaim.holds_of_cond 4 Tryz.f4 rfl rfl rfl rfl rfl rfl rfl ⟨rfl, rfl, rfl, rfl, rfl⟩ rfl rfl rfl rfl rfl topDue_named Tryz.func4 topDue_closed
  topDue_inst topDue_wrap
  (fun os started H enc _ F => by rw [OpenClaim.pre_eq_preRow]; exact topDue_lifted os started H enc F)
theorem topDue_wfT : Rows.topDueUptoRow.wfByText (Rows.OpenSpec.upto Rows.topDueSpec) = true := by kernel_rfl
theorem office_main : Tryz.pinned.checked.prog.mainIs = some (true, "5a9a52965f4185065c0d39a39ec58f829537e604a07fc4f1dbce9d7d2d17f592".toList) := by kernel_rfl
theorem office_looks : true = Tryz.pinned.checked.prog.looks [] := by kernel_rfl
theorem topDue_goes : false = Rows.topDueUptoRow.goesBy Tryz.pinned.checked.prog := by kernel_rfl
theorem topDue_stand : ([32, 33].all fun u => !Tryz.prog.wantsStandIn u) = true := by kernel_rfl
set_option maxHeartbeats 4000000 in
theorem topDue_holds : Rows.TopDueUptoCardSaid :=
 Claim7.holds_tied_plain_at .later [] [.data, .data, .data, .handle, .pinned] true (true, "5a9a52965f4185065c0d39a39ec58f829537e604a07fc4f1dbce9d7d2d17f592") true
  topDue_row (fun _ h => by cases h) topDue_wfT (fun _ h => by cases h) topDueUpto_row_tie rfl ⟨rfl, rfl⟩ office_main rfl
  (fun f fn hf hfn => by
   obtain rfl : f = 4 := Option.some.inj (topDue_named.symm.trans hf) |>.symm
   obtain rfl : fn = Tryz.f4 := (Option.some.inj (Tryz.func4.symm.trans hfn)).symm
   exact ⟨office_looks, fun j t ht => by
    rw [Tryz.params4] at ht
    have hm : t ∈ [32, 33] := by simpa using Array.mem_of_getElem? ht
    exact (show Tryz.prog.wantsStandIn t = false by simpa using List.all_eq_true.1 topDue_stand t hm)⟩)
  topDue_goes
end Go.Proofs.YtiapkffihpgdcaaGreatDoor
