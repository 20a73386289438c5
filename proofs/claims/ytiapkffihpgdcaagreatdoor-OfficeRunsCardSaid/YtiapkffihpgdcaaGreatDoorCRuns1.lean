/-
  OfficeRuns: for every firm and every list of orders the law returns true, panics nowhere and leaves its arguments as they were: a run answers every order as an office does, and gives its book. On the tied card. No condition beyond the card.
-/
import Derived.Test.YtiapkffihpgdcaaGreatDoorQA1
import Derived.Test.YtiapkffihpgdcaaGreatDoorQA2
import Derived.Test.YtiapkffihpgdcaaGreatDoorQA3
import Derived.Test.YtiapkffihpgdcaaGreatDoorQA4
import Derived.Test.YtiapkffihpgdcaaGreatDoorQA5
import Derived.Test.YtiapkffihpgdcaaGreatDoorQA6
import Derived.Test.YtiapkffihpgdcaaGreatDoorQA7
import Derived.Test.YtiapkffihpgdcaaGreatDoorQA8
import Derived.Test.YtiapkffihpgdcaaGreatDoorQA9
import Derived.Test.YtiapkffihpgdcaaGreatDoorQA10
import Derived.Test.YtiapkffihpgdcaaGreatDoorQA11
import Derived.Test.YtiapkffihpgdcaaGreatDoorQA12
import Derived.Test.YtiapkffihpgdcaaGreatDoorQA13
import Derived.Test.YtiapkffihpgdcaaGreatDoorQA14
import Derived.Test.YtiapkffihpgdcaaGreatDoorQA15
import Derived.Test.YtiapkffihpgdcaaGreatDoorQA16
import Derived.Test.YtiapkffihpgdcaaGreatDoorQA17
import Derived.Test.YtiapkffihpgdcaaGreatDoorQA18
import Derived.Test.YtiapkffihpgdcaaGreatDoorQA19
import Derived.Test.YtiapkffihpgdcaaGreatDoorQA20
import Derived.Test.YtiapkffihpgdcaaGreatDoorQA21
import Derived.Test.YtiapkffihpgdcaaGreatDoorQA22
import Derived.Test.YtiapkffihpgdcaaGreatDoorQA23
import Derived.Test.YtiapkffihpgdcaaGreatDoorQA24
import Derived.Test.YtiapkffihpgdcaaGreatDoorQA25
import Derived.Test.YtiapkffihpgdcaaGreatDoorQA26
import Derived.Test.YtiapkffihpgdcaaGreatDoorQA27
import Derived.Test.YtiapkffihpgdcaaGreatDoorQA28
import Derived.Test.YtiapkffihpgdcaaGreatDoorQA29
import Derived.Test.YtiapkffihpgdcaaGreatDoorQA30
import Derived.Test.YtiapkffihpgdcaaGreatDoorQA31
import Derived.Test.YtiapkffihpgdcaaGreatDoorQA32
import Derived.IntWalk
import Derived.ScopeJumps
import Derived.WalkMore
import Derived.StillTailTactics
import Derived.Lib.QuietBelow
import Derived.BigRegion
import Derived.Test.YtiapkffihpgdcaaGreatDoorTie
import Derived.Test.YtiapkffihpgdcaaGreatDoorCards
import Derived.SevenTiedAt
import Derived.ChangeMaps5
set_option linter.unusedVariables false
set_option linter.unusedSimpArgs false
set_option maxRecDepth 100000
namespace Go.Proofs.YtiapkffihpgdcaaGreatDoor
open Go.RowKit
theorem info_errno : (Tryz.prog.info? 36).map (fun i => (i.zero, i.size, i.bytes)) = some (some (.int .i64 0), 1, 8) := by kernel_rfl
/-- What the first k orders are answered. -/
def erl (o : Of) (ls : List Wd) : Nat → List Int
 | 0 => []
 | k + 1 => erl o ls k ++ [doE (runTo o ls k) (ls.getD k [])]
theorem erl_len (o : Of) (ls : List Wd) (k : Nat) : (erl o ls k).length = k := by
 induction k with
 | zero => rfl
 | succ k ih => simp [erl, ih]
theorem erl_at (o : Of) (ls : List Wd) {i k : Nat} (h : i < k) : gi (erl o ls k) i = doE (runTo o ls i) (ls.getD i []) := by
 induction k with
 | zero => omega
 | succ k ih =>
  have hl := erl_len o ls k
  by_cases e : i = k
  ·subst e
   simp [erl, gi, hl]
  ·rw [← ih (by omega)]
   have : i < (erl o ls k).length := by omega
   simp [erl, gi, List.getElem?_append_left this]
/-- A row of errors of one's own. -/
abbrev OwnE (w : World) (base : Nat) (A : Option Addr) (c : Nat) (l : List Int) : Prop := w.ownsRow base 36 1 (.slice A l.length c) l.length (ints l)
section
variable {w0 w w' : World} {N : Nat} {Z : Nat → Prop} {g : Nat} {s : Of}
/-- A row that is not the office's own grows. -/
theorem KN.app (hk : KN w0 N Z g s w) (h7 : 7 ≤ w0.heap.size) {o : Obj} {q q' : Option Nat} (hg : (w.alloc o).grownBy w' q) (hq : ∀ k, q = some k → Z k ∧ w0.heap.size ≤ k) (hn : q' = q ∨ q' = some (w.alloc o).heap.size) (hlt : ∀ k, q' = some k → k < w'.heap.size) :
  KN w0 N (fun k => q' = some k) g s w' := by
 obtain ⟨F, h, hP, hE, hy, hF, hZ⟩ := hk
 have hb : Below w.heap.size w (w.alloc o) := (Below.refl _ w).alloc (Nat.le_refl _) _
 have hP1 := hP.below hb
 have ho : Off (fun k => q = some k) (w.alloc o) w' := Off.of_grown hg fun k e => e
 have hs1 : w.heap.size ≤ (w.alloc o).heap.size := hb.size
 have hq' : ∀ k, q = some k → ¬ F k := fun k e => (hZ k (hq k e).1).2
 refine ⟨F, h, hP1.kept (Keeps.of_off ho fun k hk _ e => hq' k e hk), (hE.below hb).off ho (fun k e => Nat.le_trans h7 (hq k e).2), (hy.trans (hb.mono hy.size)).trans (ho.to_below (fun k e => (hq k e).2) (by have := hy.size; omega)), hF, fun k e => ⟨hlt k e, ?_⟩⟩
 rcases hn with hn | hn
 ·exact hq' k (hn ▸ e)
 ·intro hk
  have h1 := (hP1.lo k hk).2
  rw [hn] at e
  cases e
  omega
end
section
variable {f : Fi} {w : World} (hf : f.In w) (hl : f.Len) (hE : EnvA w)
include hf hl hE
set_option maxHeartbeats 3200000 in
theorem orun_bad (hz : f.e ≠ 0) (l : List Wd) (A : Option Addr) (c : Nat) :
  Calls Tryz.prog 51 #[.agg #[.int .i64 f.t.len, .slice f.A1 f.t.rest.length f.c1, .slice f.A2 f.t.clo.length f.c2], .agg #[.int .i64 f.c.n, .int .i64 f.c.f, .int .i64 f.c.k], .agg #[.int .i64 f.b.props, .slice f.B1 f.b.items.length f.d1, .slice f.B2 f.b.rules.length f.d2], .slice A l.length c] w fun e w' => e = .returned (.tuple #[.slice none 0 0, .string ⟨#[]⟩, .int .i64 f.e]) ∧ Below w.heap.size w w' := by
 obtain ⟨w2, hw2⟩ : ∃ w2, (((w.alloc (.cells #[.int .i64 f.t.len, .slice f.A1 f.t.rest.length f.c1, .slice f.A2 f.t.clo.length f.c2] 24)).alloc (.cells #[.int .i64 f.c.n, .int .i64 f.c.f, .int .i64 f.c.k] 26)).alloc (.cells #[.int .i64 f.b.props, .slice f.B1 f.b.items.length f.d1, .slice f.B2 f.b.rules.length f.d2] 30)) = w2 := ⟨_, rfl⟩
 have hy : Below w.heap.size w w2 := by rw [← hw2]; exact (((Below.refl _ w).alloc (Nat.le_refl _) _).alloc (by simp) _).alloc (by simp; omega) _
 have b0 : Box w2 w.heap.size #[.int .i64 f.t.len, .slice f.A1 f.t.rest.length f.c1, .slice f.A2 f.t.clo.length f.c2] := by rw [← hw2]; exact ((Box.new w _ _).alloc _).alloc _
 have b1 : Box w2 (w.heap.size + 1) #[.int .i64 f.c.n, .int .i64 f.c.f, .int .i64 f.c.k] := by rw [← hw2]; exact ((Box.new (w.alloc (.cells #[.int .i64 f.t.len, .slice f.A1 f.t.rest.length f.c1, .slice f.A2 f.t.clo.length f.c2] 24)) _ _).at' (by simp)).alloc _
 have b2 : Box w2 (w.heap.size + 1 + 1) #[.int .i64 f.b.props, .slice f.B1 f.b.items.length f.d1, .slice f.B2 f.b.rules.length f.d2] := by rw [← hw2]; exact (Box.new ((w.alloc (.cells #[.int .i64 f.t.len, .slice f.A1 f.t.rest.length f.c1, .slice f.A2 f.t.clo.length f.c2] 24)).alloc (.cells #[.int .i64 f.c.n, .int .i64 f.c.f, .int .i64 f.c.k] 26)) _ _).at' (by simp)
 have x0 := b0.cell 0; have x1 := b0.cell 1; have x2 := b0.cell 2; have y0 := b1.cell 0; have y1 := b1.cell 1; have y2 := b1.cell 2; have z0 := b2.cell 0; have z1 := b2.cell 1; have z2 := b2.cell 2
 simp only [List.getElem?_toArray, List.getElem?_cons_zero, List.getElem?_cons_succ] at x0 x1 x2 y0 y1 y2 z0 z1 z2
 have HN := Lib.hid (fun (w' : World) (hb : Below w.heap.size w w') => pnew_bad (hf.below hb) hl (hE.below hb).z.size hz)
 obtain ⟨E, hEE⟩ : ∃ E, E = f.e := ⟨_, rfl⟩
 have hne : (E != 0) = true := by rw [hEE]; simpa using hz
 rw [← hEE] at HN ⊢
 clear hz hEE
 go_enter Tryz.func51, Tryz.ntmps51
 go_wp2_with (go_at_call 20; (with_reducible refine (HN.out _ hy).mono ?_); rintro e w3 ⟨rfl, hb3⟩)
 go_ret3
 exact ⟨rfl, hy.trans (hb3.mono hy.size)⟩
set_option maxHeartbeats 3200000 in
theorem orun_large (hz : f.e = 0) (l : List Wd) (A : Option Addr) (c : Nat) (hll : 200 < l.length) :
  Calls Tryz.prog 51 #[.agg #[.int .i64 f.t.len, .slice f.A1 f.t.rest.length f.c1, .slice f.A2 f.t.clo.length f.c2], .agg #[.int .i64 f.c.n, .int .i64 f.c.f, .int .i64 f.c.k], .agg #[.int .i64 f.b.props, .slice f.B1 f.b.items.length f.d1, .slice f.B2 f.b.rules.length f.d2], .slice A l.length c] w fun e w' => e = .returned (.tuple #[.slice none 0 0, .string ⟨#[]⟩, .int .i64 4]) ∧ Below w.heap.size w w' := by
 obtain ⟨w2, hw2⟩ : ∃ w2, (((w.alloc (.cells #[.int .i64 f.t.len, .slice f.A1 f.t.rest.length f.c1, .slice f.A2 f.t.clo.length f.c2] 24)).alloc (.cells #[.int .i64 f.c.n, .int .i64 f.c.f, .int .i64 f.c.k] 26)).alloc (.cells #[.int .i64 f.b.props, .slice f.B1 f.b.items.length f.d1, .slice f.B2 f.b.rules.length f.d2] 30)) = w2 := ⟨_, rfl⟩
 have hy : Below w.heap.size w w2 := by rw [← hw2]; exact (((Below.refl _ w).alloc (Nat.le_refl _) _).alloc (by simp) _).alloc (by simp; omega) _
 have b0 : Box w2 w.heap.size #[.int .i64 f.t.len, .slice f.A1 f.t.rest.length f.c1, .slice f.A2 f.t.clo.length f.c2] := by rw [← hw2]; exact ((Box.new w _ _).alloc _).alloc _
 have b1 : Box w2 (w.heap.size + 1) #[.int .i64 f.c.n, .int .i64 f.c.f, .int .i64 f.c.k] := by rw [← hw2]; exact ((Box.new (w.alloc (.cells #[.int .i64 f.t.len, .slice f.A1 f.t.rest.length f.c1, .slice f.A2 f.t.clo.length f.c2] 24)) _ _).at' (by simp)).alloc _
 have b2 : Box w2 (w.heap.size + 1 + 1) #[.int .i64 f.b.props, .slice f.B1 f.b.items.length f.d1, .slice f.B2 f.b.rules.length f.d2] := by rw [← hw2]; exact (Box.new ((w.alloc (.cells #[.int .i64 f.t.len, .slice f.A1 f.t.rest.length f.c1, .slice f.A2 f.t.clo.length f.c2] 24)).alloc (.cells #[.int .i64 f.c.n, .int .i64 f.c.f, .int .i64 f.c.k] 26)) _ _).at' (by simp)
 have x0 := b0.cell 0; have x1 := b0.cell 1; have x2 := b0.cell 2; have y0 := b1.cell 0; have y1 := b1.cell 1; have y2 := b1.cell 2; have z0 := b2.cell 0; have z1 := b2.cell 1; have z2 := b2.cell 2
 simp only [List.getElem?_toArray, List.getElem?_cons_zero, List.getElem?_cons_succ] at x0 x1 x2 y0 y1 y2 z0 z1 z2
 have HN := Lib.hid (fun (w' : World) (hb : Below w.heap.size w w') => pnew_ok (hf.below hb) hl (hE.below hb).z.size hz)
 have hT : decide ((200 : Int) < (l.length : Int)) = true := by rw [decide_eq_true_eq]; omega
 clear hz
 go_enter Tryz.func51, Tryz.ntmps51
 go_wp2_with (go_at_call 20; (with_reducible refine (HN.out _ hy).mono ?_); rintro e w3 ⟨g, h, rfl, hP, hb3⟩)
 go_ret3
 exact ⟨rfl, hy.trans (hb3.mono hy.size)⟩
set_option maxHeartbeats 3200000 in
theorem orun_ok (hz : f.e = 0) (l : List Wd) (A : Option Addr) (c : Nat) (hR : RS w A l) (hll : l.length ≤ 200) (hlw : ∀ k, k < l.length → (l.getD k []).length ≤ 400) :
    Calls Tryz.prog 51 #[.agg #[.int .i64 f.t.len, .slice f.A1 f.t.rest.length f.c1, .slice f.A2 f.t.clo.length f.c2], .agg #[.int .i64 f.c.n, .int .i64 f.c.f, .int .i64 f.c.k], .agg #[.int .i64 f.b.props, .slice f.B1 f.b.items.length f.d1, .slice f.B2 f.b.rules.length f.d2], .slice A l.length c] w fun e w' => ∃ EA Ec, e = .returned (.tuple #[.slice EA l.length Ec, St (bok (runTo f.s0 l l.length)), .int .i64 0]) ∧ RN w' EA (erl f.s0 l l.length) ∧ Below w.heap.size w w' := by
  obtain ⟨w2, hw2⟩ : ∃ w2, (((w.alloc (.cells #[.int .i64 f.t.len, .slice f.A1 f.t.rest.length f.c1, .slice f.A2 f.t.clo.length f.c2] 24)).alloc (.cells #[.int .i64 f.c.n, .int .i64 f.c.f, .int .i64 f.c.k] 26)).alloc (.cells #[.int .i64 f.b.props, .slice f.B1 f.b.items.length f.d1, .slice f.B2 f.b.rules.length f.d2] 30)) = w2 := ⟨_, rfl⟩
  have hy : Below w.heap.size w w2 := by rw [← hw2]; exact (((Below.refl _ w).alloc (Nat.le_refl _) _).alloc (by simp) _).alloc (by simp; omega) _
  have b0 : Box w2 w.heap.size #[.int .i64 f.t.len, .slice f.A1 f.t.rest.length f.c1, .slice f.A2 f.t.clo.length f.c2] := by rw [← hw2]; exact ((Box.new w _ _).alloc _).alloc _
  have b1 : Box w2 (w.heap.size + 1) #[.int .i64 f.c.n, .int .i64 f.c.f, .int .i64 f.c.k] := by rw [← hw2]; exact ((Box.new (w.alloc (.cells #[.int .i64 f.t.len, .slice f.A1 f.t.rest.length f.c1, .slice f.A2 f.t.clo.length f.c2] 24)) _ _).at' (by simp)).alloc _
  have b2 : Box w2 (w.heap.size + 1 + 1) #[.int .i64 f.b.props, .slice f.B1 f.b.items.length f.d1, .slice f.B2 f.b.rules.length f.d2] := by rw [← hw2]; exact (Box.new ((w.alloc (.cells #[.int .i64 f.t.len, .slice f.A1 f.t.rest.length f.c1, .slice f.A2 f.t.clo.length f.c2] 24)).alloc (.cells #[.int .i64 f.c.n, .int .i64 f.c.f, .int .i64 f.c.k] 26)) _ _).at' (by simp)
  have x0 := b0.cell 0; have x1 := b0.cell 1; have x2 := b0.cell 2; have y0 := b1.cell 0; have y1 := b1.cell 1; have y2 := b1.cell 2; have z0 := b2.cell 0; have z1 := b2.cell 1; have z2 := b2.cell 2
  simp only [List.getElem?_toArray, List.getElem?_cons_zero, List.getElem?_cons_succ] at x0 x1 x2 y0 y1 y2 z0 z1 z2
  have HLW := Lib.hid hlw
  have HN := Lib.hid (fun (w' : World) (hb : Below w.heap.size w w') => pnew_ok (hf.below hb) hl (hE.below hb).z.size hz)
  have hT : decide ((200 : Int) < (l.length : Int)) = false := by rw [decide_eq_false_iff_not]; omega
  have hE2 := hE.below hy
  have h7 : 7 ≤ w2.heap.size := hE2.z.size
  have hR2 := hR.below hy
  clear hz hlw
  go_enter Tryz.func51, Tryz.ntmps51
  go_wp2_with (go_at_call 20; (with_reducible refine (HN.out _ hy).mono ?_); rintro e w3 ⟨g, h, rfl, hP, hb3⟩)
  have hk3 : KN w2 0 (fun _ => False) g f.s0 w3 := ⟨_, h, hP, hE2.below hb3, hb3, fun k hk => hk.1, fun _ hz => hz.elim⟩
  clear hw2 x0 x1 x2 y0 y1 y2 z0 z1 z2 b0 b1 b2 HN hP
  go_loopw [13, 31] (fun es v wr => ∃ (k : Nat) (EA : Option Addr) (Ec : Nat), k ≤ l.length ∧ v = .int .i64 k ∧ es = .slice EA k Ec ∧ KN w2 k (fun b => blkOf (EA, Ec) = some b) g (runTo f.s0 l k) wr ∧ OwnE wr w2.heap.size EA Ec (erl f.s0 l k)) (fun _ v _ => l.length - (intOf v).toNat)
  case atStart => exact ⟨0, none, 0, by omega, rfl, rfl, by rw [runTo_zero]; obtain ⟨F, h', a1, a2, a3, a4, _⟩ := hk3; exact ⟨F, h', a1, a2, a3, a4, fun k hz => by simp [blkOf] at hz⟩, World.ownsRow_nil _ _ _ _⟩
  case round =>
    clear hk3
    obtain ⟨k, EA, Ec, hk, rfl, rfl, hkn, own⟩ := hrel
    have hyr := hkn.at_
    by_cases hlt : k < l.length
    · obtain ⟨ad, rfl, hab, c0⟩ := (hR2.below hyr).at_ (k := k) (by omega)
      have htl := HLW.out k (by omega)
      have hrt := runTo_succ f.s0 l (k := k) (by omega)
      have hel : erl f.s0 l (k + 1) = erl f.s0 l k ++ [doE (runTo f.s0 l k) (l.getD k [])] := rfl
      rw [nil_getD (by omega)] at htl hrt hel
      obtain ⟨tx, htx⟩ : ∃ tx, tx = l[k]'(by omega) := ⟨_, rfl⟩
      rw [← htx] at c0 htl hrt hel
      obtain ⟨sk, hsk⟩ : ∃ sk, sk = runTo f.s0 l k := ⟨_, rfl⟩
      rw [← hsk] at hkn hrt hel
      have HRT := Lib.hid hrt
      have HEL := Lib.hid hel
      have hlen := erl_len f.s0 l k
      obtain ⟨es, hes⟩ : ∃ es, es = erl f.s0 l k := ⟨_, rfl⟩
      rw [← hes] at own hlen hel
      have HES := Lib.hid hes
      have hob : ∀ b, blkOf (EA, Ec) = some b → w2.heap.size ≤ b := fun b hb => (World.ownsRow.lt own b ((own_blk (EA, Ec) _).trans hb)).1
      have HD := Lib.hid (hkn.doZ (by omega) tx (by omega))
      obtain ⟨D, hD⟩ : ∃ D, D = doE sk tx := ⟨_, rfl⟩
      rw [← hD] at HD
      have HDE := Lib.hid hD
      clear htx hsk hrt hel hes hD
      go_wp2_with (first
        | (go_at_call 25; (with_reducible refine HD.out.mono ?_); rintro e w6 ⟨rfl, hk6, hkp⟩
           have own6 := own_kept own hkp fun b e => ((own_blk (EA, Ec) _).symm.trans e)
           rw [hlen] at own6)
        | (at_builtin; refine wpList_app3 rfl _ _ rfl Tryz.underlying86 info_errno rfl (by omega) rfl own6 (news := [.int .i64 D]) rfl rfl (by simp [Value.oneCell']) (by omega) (by omega) (by have := hk6.at_.size; omega) ?_; intro A' c' w7 own7 hg7 hn7))
      have hk7 := hk6.app h7 hg7 (fun b e => ⟨e, hob b e⟩) hn7 (fun b e => (World.ownsRow.lt own7 b ((own_blk (A', c') _).trans e)).2)
      rw [← HRT.out] at hk7
      have own8 : OwnE w7 w2.heap.size A' c' (erl f.s0 l (k + 1)) := by
        have e1 : (erl f.s0 l (k + 1)).length = k + 1 := erl_len _ _ _
        have e2 : ints (erl f.s0 l (k + 1)) = ints es ++ [.int .i64 D] := by rw [HEL.out, ← HES.out, ← HDE.out]; simp [ints]
        unfold OwnE
        rw [e1, e2]; exact own7
      go_wp2_with fail
      go_roundw
      case rel => exact ⟨k + 1, A', c', by omega, by go_num, rfl, hk7, own8⟩
      case measure => simp [intOf]; omega
    · obtain rfl : k = l.length := by omega
      have HB := Lib.hid (show Calls Tryz.prog 23 #[.pointer (some ⟨g, 0, none⟩)] wr fun e w' => e = .returned (St (bok (runTo f.s0 l l.length))) ∧ Below wr.heap.size wr w' by obtain ⟨F, h', hP, _⟩ := hkn; exact oBook_any hP)
      have rE : RN wr EA (erl f.s0 l l.length) := by have := Reads.of_own own; exact this
      go_wp2_with (go_at_call 23; (with_reducible refine HB.out.mono ?_); rintro e w6 ⟨rfl, hb6⟩)
      go_ret3
      exact ⟨EA, Ec, rfl, rE.below hb6, hy.trans ((hyr.trans (hb6.mono hyr.size)).mono hy.size)⟩
end
set_option maxHeartbeats 3200000 in
theorem runs_pre {f : Fi} {w : World} (hf : f.In w) (hE : EnvA w) (l : List Wd) (A : Option Addr) (c : Nat) (hR : RS w A l) (hll : l.length ≤ 9223372036854775807) (h : lrg f.t f.b = true ∨ (lrg f.t f.b = false ∧ lng l = true)) :
  Calls Tryz.prog 10 #[.agg f.cells, .slice A l.length c] w fun e w' => e = .returned (.bool true) ∧ Below w.heap.size w w' := by
 unfold Fi.cells
 obtain ⟨w2, hw2⟩ : ∃ w2, w.alloc (.cells #[.int .i64 f.t.len, .slice f.A1 f.t.rest.length f.c1, .slice f.A2 f.t.clo.length f.c2, .int .i64 f.c.n, .int .i64 f.c.f, .int .i64 f.c.k, .int .i64 f.b.props, .slice f.B1 f.b.items.length f.d1, .slice f.B2 f.b.rules.length f.d2] 32) = w2 := ⟨_, rfl⟩
 have hy : Below w.heap.size w w2 := by rw [← hw2]; exact (Below.refl _ w).alloc (Nat.le_refl _) _
 have b0 : Box w2 w.heap.size #[.int .i64 f.t.len, .slice f.A1 f.t.rest.length f.c1, .slice f.A2 f.t.clo.length f.c2, .int .i64 f.c.n, .int .i64 f.c.f, .int .i64 f.c.k, .int .i64 f.b.props, .slice f.B1 f.b.items.length f.d1, .slice f.B2 f.b.rules.length f.d2] := by rw [← hw2]; exact Box.new w _ _
 have HL := Lib.hid (large_any f.t f.c f.b (fun _ => True) f.A1 f.A2 f.B1 f.B2 f.c1 f.c2 f.d1 f.d2 f.hp f.hq f.hr w2 (hf.below hy).bk)
 have HO := Lib.hid (fun (w' : World) (hb : Below w2.heap.size w2 w') => olong_any l A c w' hll ((hR.below hy).below hb))
 have x0 := b0.cell 0; have x1 := b0.cell 1; have x2 := b0.cell 2; have x3 := b0.cell 3; have x4 := b0.cell 4; have x5 := b0.cell 5; have x6 := b0.cell 6; have x7 := b0.cell 7; have x8 := b0.cell 8; simp only [List.getElem?_toArray, List.getElem?_cons_zero, List.getElem?_cons_succ] at x0 x1 x2 x3 x4 x5 x6 x7 x8
 rcases h with h | ⟨h, h'⟩
 ·rw [h] at HL
  go_enter Tryz.func10, Tryz.ntmps10
  go_wp2_with (first | (go_at_call 34; (with_reducible refine HL.out.mono ?_); rintro e w3 ⟨rfl, hb3⟩; have b3 := b0.below hb3; have hy3 := hy.trans (hb3.mono hy.size); have y0 := b3.cell 0; have y1 := b3.cell 1; have y2 := b3.cell 2; have y3 := b3.cell 3; have y4 := b3.cell 4; have y5 := b3.cell 5; have y6 := b3.cell 6; have y7 := b3.cell 7; have y8 := b3.cell 8; simp only [List.getElem?_toArray, List.getElem?_cons_zero, List.getElem?_cons_succ] at y0 y1 y2 y3 y4 y5 y6 y7 y8) | (go_at_call 31; (with_reducible refine (oknown_any (hE.below hy3)).mono ?_); rintro e wk ⟨rfl, hbk⟩))
  go_ret
  exact ⟨rfl, hy3.trans (hbk.mono hy3.size)⟩
 ·rw [h] at HL
  rw [h'] at HO
  go_enter Tryz.func10, Tryz.ntmps10
  go_wp2_with (first | (go_at_call 34; (with_reducible refine HL.out.mono ?_); rintro e w3 ⟨rfl, hb3⟩; have b3 := b0.below hb3; have hy3 := hy.trans (hb3.mono hy.size); have y0 := b3.cell 0; have y1 := b3.cell 1; have y2 := b3.cell 2; have y3 := b3.cell 3; have y4 := b3.cell 4; have y5 := b3.cell 5; have y6 := b3.cell 6; have y7 := b3.cell 7; have y8 := b3.cell 8; simp only [List.getElem?_toArray, List.getElem?_cons_zero, List.getElem?_cons_succ] at y0 y1 y2 y3 y4 y5 y6 y7 y8) | (go_at_call 35; (with_reducible refine (HO.out _ hb3).mono ?_); rintro e w4 ⟨rfl, hb4⟩; have b4 := b3.below hb4; have hy4 := hy3.trans (hb4.mono hy3.size); have z0 := b4.cell 0; have z1 := b4.cell 1; have z2 := b4.cell 2; have z3 := b4.cell 3; have z4 := b4.cell 4; have z5 := b4.cell 5; have z6 := b4.cell 6; have z7 := b4.cell 7; have z8 := b4.cell 8; simp only [List.getElem?_toArray, List.getElem?_cons_zero, List.getElem?_cons_succ] at z0 z1 z2 z3 z4 z5 z6 z7 z8) | (go_at_call 31; (with_reducible refine (oknown_any (hE.below hy4)).mono ?_); rintro e wk ⟨rfl, hbk⟩))
  go_ret
  exact ⟨rfl, hy4.trans (hbk.mono hy4.size)⟩
set_option maxHeartbeats 3200000 in
theorem runs_bad {f : Fi} {w : World} (hf : f.In w) (hE : EnvA w) (l : List Wd) (A : Option Addr) (c : Nat) (hR : RS w A l) (hll : l.length ≤ 9223372036854775807) (h : lrg f.t f.b = false) (h' : lng l = false) (hz : f.e ≠ 0) :
  Calls Tryz.prog 10 #[.agg f.cells, .slice A l.length c] w fun e w' => e = .returned (.bool true) ∧ Below w.heap.size w w' := by
 unfold Fi.cells
 obtain ⟨w2, hw2⟩ : ∃ w2, w.alloc (.cells #[.int .i64 f.t.len, .slice f.A1 f.t.rest.length f.c1, .slice f.A2 f.t.clo.length f.c2, .int .i64 f.c.n, .int .i64 f.c.f, .int .i64 f.c.k, .int .i64 f.b.props, .slice f.B1 f.b.items.length f.d1, .slice f.B2 f.b.rules.length f.d2] 32) = w2 := ⟨_, rfl⟩
 have hy : Below w.heap.size w w2 := by rw [← hw2]; exact (Below.refl _ w).alloc (Nat.le_refl _) _
 have b0 : Box w2 w.heap.size #[.int .i64 f.t.len, .slice f.A1 f.t.rest.length f.c1, .slice f.A2 f.t.clo.length f.c2, .int .i64 f.c.n, .int .i64 f.c.f, .int .i64 f.c.k, .int .i64 f.b.props, .slice f.B1 f.b.items.length f.d1, .slice f.B2 f.b.rules.length f.d2] := by rw [← hw2]; exact Box.new w _ _
 have HL := Lib.hid (large_any f.t f.c f.b (fun _ => True) f.A1 f.A2 f.B1 f.B2 f.c1 f.c2 f.d1 f.d2 f.hp f.hq f.hr w2 (hf.below hy).bk)
 have HO := Lib.hid (fun (w' : World) (hb : Below w2.heap.size w2 w') => olong_any l A c w' hll ((hR.below hy).below hb))
 have x0 := b0.cell 0; have x1 := b0.cell 1; have x2 := b0.cell 2; have x3 := b0.cell 3; have x4 := b0.cell 4; have x5 := b0.cell 5; have x6 := b0.cell 6; have x7 := b0.cell 7; have x8 := b0.cell 8; simp only [List.getElem?_toArray, List.getElem?_cons_zero, List.getElem?_cons_succ] at x0 x1 x2 x3 x4 x5 x6 x7 x8
 rw [h] at HL
 rw [h'] at HO
 have hlen := lrg_len h
 have HU := Lib.hid (fun (w' : World) (hb : Below w.heap.size w w') => orun_bad (hf.below hb) hlen (hE.below hb) hz l A c)
 have HXN := Lib.hid (fun (w' : World) (hb : Below w.heap.size w w') => xnew_bad (hf.below hb) hlen hz)
 obtain ⟨E, hEE⟩ : ∃ E, E = f.e := ⟨_, rfl⟩
 have hne : (E != 0) = true := by rw [hEE]; simpa using hz
 have hne2 : (E == E) = true := by simp
 rw [← hEE] at HU HXN
 clear hz h h' hEE
 go_enter Tryz.func10, Tryz.ntmps10
 go_wp2_with (first
  | (go_at_call 34; (with_reducible refine HL.out.mono ?_); rintro e w3 ⟨rfl, hb3⟩; have b3 := b0.below hb3; have hy3 := hy.trans (hb3.mono hy.size); have y0 := b3.cell 0; have y1 := b3.cell 1; have y2 := b3.cell 2; have y3 := b3.cell 3; have y4 := b3.cell 4; have y5 := b3.cell 5; have y6 := b3.cell 6; have y7 := b3.cell 7; have y8 := b3.cell 8; simp only [List.getElem?_toArray, List.getElem?_cons_zero, List.getElem?_cons_succ] at y0 y1 y2 y3 y4 y5 y6 y7 y8)
  | (go_at_call 35; (with_reducible refine (HO.out _ hb3).mono ?_); rintro e w4 ⟨rfl, hb4⟩; have b4 := b3.below hb4; have hy4 := hy3.trans (hb4.mono hy3.size); have z0 := b4.cell 0; have z1 := b4.cell 1; have z2 := b4.cell 2; have z3 := b4.cell 3; have z4 := b4.cell 4; have z5 := b4.cell 5; have z6 := b4.cell 6; have z7 := b4.cell 7; have z8 := b4.cell 8; simp only [List.getElem?_toArray, List.getElem?_cons_zero, List.getElem?_cons_succ] at z0 z1 z2 z3 z4 z5 z6 z7 z8)
  | (go_at_call 51; (with_reducible refine (HU.out _ hy4).mono ?_); rintro e w5 ⟨rfl, hb5⟩; have b5 := b4.below hb5; have hy5 := hy4.trans (hb5.mono hy4.size); have v0 := b5.cell 0; have v1 := b5.cell 1; have v2 := b5.cell 2; have v3 := b5.cell 3; have v4 := b5.cell 4; have v5 := b5.cell 5; have v6 := b5.cell 6; have v7 := b5.cell 7; have v8 := b5.cell 8; simp only [List.getElem?_toArray, List.getElem?_cons_zero, List.getElem?_cons_succ] at v0 v1 v2 v3 v4 v5 v6 v7 v8)
  | (go_at_call 52; (with_reducible refine (HXN.out _ hy5).mono ?_); rintro e w6 ⟨rfl, hb6⟩; have b6 := b5.below hb6; have hy6 := hy5.trans (hb6.mono hy5.size); have p0 := b6.cell 0; have p1 := b6.cell 1; have p2 := b6.cell 2; have p3 := b6.cell 3; have p4 := b6.cell 4; have p5 := b6.cell 5; have p6 := b6.cell 6; have p7 := b6.cell 7; have p8 := b6.cell 8; simp only [List.getElem?_toArray, List.getElem?_cons_zero, List.getElem?_cons_succ] at p0 p1 p2 p3 p4 p5 p6 p7 p8)
  | (go_at_call 31; (with_reducible refine (oknown_any (hE.below hy6)).mono ?_); rintro e wk ⟨rfl, hbk⟩))
 go_ret
 exact ⟨rfl, hy6.trans (hbk.mono hy6.size)⟩
set_option maxHeartbeats 3200000 in
theorem runs_large {f : Fi} {w : World} (hf : f.In w) (hE : EnvA w) (l : List Wd) (A : Option Addr) (c : Nat) (hR : RS w A l) (hll : l.length ≤ 9223372036854775807) (h : lrg f.t f.b = false) (h' : lng l = false) (hz : f.e = 0) (h2 : 200 < l.length) :
  Calls Tryz.prog 10 #[.agg f.cells, .slice A l.length c] w fun e w' => e = .returned (.bool true) ∧ Below w.heap.size w w' := by
 unfold Fi.cells
 obtain ⟨w2, hw2⟩ : ∃ w2, w.alloc (.cells #[.int .i64 f.t.len, .slice f.A1 f.t.rest.length f.c1, .slice f.A2 f.t.clo.length f.c2, .int .i64 f.c.n, .int .i64 f.c.f, .int .i64 f.c.k, .int .i64 f.b.props, .slice f.B1 f.b.items.length f.d1, .slice f.B2 f.b.rules.length f.d2] 32) = w2 := ⟨_, rfl⟩
 have hy : Below w.heap.size w w2 := by rw [← hw2]; exact (Below.refl _ w).alloc (Nat.le_refl _) _
 have b0 : Box w2 w.heap.size #[.int .i64 f.t.len, .slice f.A1 f.t.rest.length f.c1, .slice f.A2 f.t.clo.length f.c2, .int .i64 f.c.n, .int .i64 f.c.f, .int .i64 f.c.k, .int .i64 f.b.props, .slice f.B1 f.b.items.length f.d1, .slice f.B2 f.b.rules.length f.d2] := by rw [← hw2]; exact Box.new w _ _
 have HL := Lib.hid (large_any f.t f.c f.b (fun _ => True) f.A1 f.A2 f.B1 f.B2 f.c1 f.c2 f.d1 f.d2 f.hp f.hq f.hr w2 (hf.below hy).bk)
 have HO := Lib.hid (fun (w' : World) (hb : Below w2.heap.size w2 w') => olong_any l A c w' hll ((hR.below hy).below hb))
 have x0 := b0.cell 0; have x1 := b0.cell 1; have x2 := b0.cell 2; have x3 := b0.cell 3; have x4 := b0.cell 4; have x5 := b0.cell 5; have x6 := b0.cell 6; have x7 := b0.cell 7; have x8 := b0.cell 8; simp only [List.getElem?_toArray, List.getElem?_cons_zero, List.getElem?_cons_succ] at x0 x1 x2 x3 x4 x5 x6 x7 x8
 rw [h] at HL
 rw [h'] at HO
 have hlen := lrg_len h
 have hT : decide ((200 : Int) < (l.length : Int)) = true := by rw [decide_eq_true_eq]; omega
 have HU := Lib.hid (fun (w' : World) (hb : Below w.heap.size w w') => orun_large (hf.below hb) hlen (hE.below hb) hz l A c h2)
 have HXN := Lib.hid (fun (w' : World) (hb : Below w.heap.size w w') => xnew_ok (hf.below hb) hlen (hE.below hb).z.size hz)
 clear hz h h'
 go_enter Tryz.func10, Tryz.ntmps10
 go_wp2_with (first
  | (go_at_call 34; (with_reducible refine HL.out.mono ?_); rintro e w3 ⟨rfl, hb3⟩; have b3 := b0.below hb3; have hy3 := hy.trans (hb3.mono hy.size); have y0 := b3.cell 0; have y1 := b3.cell 1; have y2 := b3.cell 2; have y3 := b3.cell 3; have y4 := b3.cell 4; have y5 := b3.cell 5; have y6 := b3.cell 6; have y7 := b3.cell 7; have y8 := b3.cell 8; simp only [List.getElem?_toArray, List.getElem?_cons_zero, List.getElem?_cons_succ] at y0 y1 y2 y3 y4 y5 y6 y7 y8)
  | (go_at_call 35; (with_reducible refine (HO.out _ hb3).mono ?_); rintro e w4 ⟨rfl, hb4⟩; have b4 := b3.below hb4; have hy4 := hy3.trans (hb4.mono hy3.size); have z0 := b4.cell 0; have z1 := b4.cell 1; have z2 := b4.cell 2; have z3 := b4.cell 3; have z4 := b4.cell 4; have z5 := b4.cell 5; have z6 := b4.cell 6; have z7 := b4.cell 7; have z8 := b4.cell 8; simp only [List.getElem?_toArray, List.getElem?_cons_zero, List.getElem?_cons_succ] at z0 z1 z2 z3 z4 z5 z6 z7 z8)
  | (go_at_call 51; (with_reducible refine (HU.out _ hy4).mono ?_); rintro e w5 ⟨rfl, hb5⟩; have b5 := b4.below hb5; have hy5 := hy4.trans (hb5.mono hy4.size); have v0 := b5.cell 0; have v1 := b5.cell 1; have v2 := b5.cell 2; have v3 := b5.cell 3; have v4 := b5.cell 4; have v5 := b5.cell 5; have v6 := b5.cell 6; have v7 := b5.cell 7; have v8 := b5.cell 8; simp only [List.getElem?_toArray, List.getElem?_cons_zero, List.getElem?_cons_succ] at v0 v1 v2 v3 v4 v5 v6 v7 v8)
  | (go_at_call 52; (with_reducible refine (HXN.out _ hy5).mono ?_); rintro e w6 ⟨gx, hx, rfl, _, hb6⟩; have b6 := b5.below hb6; have hy6 := hy5.trans (hb6.mono hy5.size); have p0 := b6.cell 0; have p1 := b6.cell 1; have p2 := b6.cell 2; have p3 := b6.cell 3; have p4 := b6.cell 4; have p5 := b6.cell 5; have p6 := b6.cell 6; have p7 := b6.cell 7; have p8 := b6.cell 8; simp only [List.getElem?_toArray, List.getElem?_cons_zero, List.getElem?_cons_succ] at p0 p1 p2 p3 p4 p5 p6 p7 p8)
  | (go_at_call 31; (with_reducible refine (oknown_any (hE.below hy6)).mono ?_); rintro e wk ⟨rfl, hbk⟩))
 go_ret
 exact ⟨rfl, hy6.trans (hbk.mono hy6.size)⟩
set_option maxHeartbeats 3200000 in
theorem runs_ok {f : Fi} {w : World} (hf : f.In w) (hE : EnvA w) (l : List Wd) (A : Option Addr) (c : Nat) (hR : RS w A l) (hll : l.length ≤ 9223372036854775807) (h : lrg f.t f.b = false) (h' : lng l = false) (hz : f.e = 0) (h2 : l.length ≤ 200) :
  Calls Tryz.prog 10 #[.agg f.cells, .slice A l.length c] w fun e w' => e = .returned (.bool true) ∧ Below w.heap.size w w' := by
 unfold Fi.cells
 obtain ⟨w2, hw2⟩ : ∃ w2, w.alloc (.cells #[.int .i64 f.t.len, .slice f.A1 f.t.rest.length f.c1, .slice f.A2 f.t.clo.length f.c2, .int .i64 f.c.n, .int .i64 f.c.f, .int .i64 f.c.k, .int .i64 f.b.props, .slice f.B1 f.b.items.length f.d1, .slice f.B2 f.b.rules.length f.d2] 32) = w2 := ⟨_, rfl⟩
 have hy : Below w.heap.size w w2 := by rw [← hw2]; exact (Below.refl _ w).alloc (Nat.le_refl _) _
 have b0 : Box w2 w.heap.size #[.int .i64 f.t.len, .slice f.A1 f.t.rest.length f.c1, .slice f.A2 f.t.clo.length f.c2, .int .i64 f.c.n, .int .i64 f.c.f, .int .i64 f.c.k, .int .i64 f.b.props, .slice f.B1 f.b.items.length f.d1, .slice f.B2 f.b.rules.length f.d2] := by rw [← hw2]; exact Box.new w _ _
 have HL := Lib.hid (large_any f.t f.c f.b (fun _ => True) f.A1 f.A2 f.B1 f.B2 f.c1 f.c2 f.d1 f.d2 f.hp f.hq f.hr w2 (hf.below hy).bk)
 have HO := Lib.hid (fun (w' : World) (hb : Below w2.heap.size w2 w') => olong_any l A c w' hll ((hR.below hy).below hb))
 have x0 := b0.cell 0; have x1 := b0.cell 1; have x2 := b0.cell 2; have x3 := b0.cell 3; have x4 := b0.cell 4; have x5 := b0.cell 5; have x6 := b0.cell 6; have x7 := b0.cell 7; have x8 := b0.cell 8; simp only [List.getElem?_toArray, List.getElem?_cons_zero, List.getElem?_cons_succ] at x0 x1 x2 x3 x4 x5 x6 x7 x8
 rw [h] at HL
 rw [h'] at HO
 have hlen := lrg_len h
 obtain ⟨_, hlw⟩ := lng_no h'
 have HLW := Lib.hid hlw
 have hT : decide ((200 : Int) < (l.length : Int)) = false := by rw [decide_eq_false_iff_not]; omega
 have HU := Lib.hid (fun (w' : World) (hb : Below w.heap.size w w') => orun_ok (hf.below hb) hlen (hE.below hb) hz l A c (hR.below hb) h2 hlw)
 have HXN := Lib.hid (fun (w' : World) (hb : Below w.heap.size w w') => xnew_ok (hf.below hb) hlen (hE.below hb).z.size hz)
 have HPN := Lib.hid (fun (w' : World) (hb : Below w.heap.size w w') => pnew_ok (hf.below hb) hlen (hE.below hb).z.size hz)
 have n1 : ((l.length : Int) != (l.length : Int)) = false := by simp
 have hsb : OfOk f.s0 := OfOk.new hz
 clear hz h h' hlw
 go_enter Tryz.func10, Tryz.ntmps10
 go_wp2_with (first
  | (go_at_call 34; (with_reducible refine HL.out.mono ?_); rintro e w3 ⟨rfl, hb3⟩; have b3 := b0.below hb3; have hy3 := hy.trans (hb3.mono hy.size); have y0 := b3.cell 0; have y1 := b3.cell 1; have y2 := b3.cell 2; have y3 := b3.cell 3; have y4 := b3.cell 4; have y5 := b3.cell 5; have y6 := b3.cell 6; have y7 := b3.cell 7; have y8 := b3.cell 8; simp only [List.getElem?_toArray, List.getElem?_cons_zero, List.getElem?_cons_succ] at y0 y1 y2 y3 y4 y5 y6 y7 y8)
  | (go_at_call 35; (with_reducible refine (HO.out _ hb3).mono ?_); rintro e w4 ⟨rfl, hb4⟩; have b4 := b3.below hb4; have hy4 := hy3.trans (hb4.mono hy3.size); have z0 := b4.cell 0; have z1 := b4.cell 1; have z2 := b4.cell 2; have z3 := b4.cell 3; have z4 := b4.cell 4; have z5 := b4.cell 5; have z6 := b4.cell 6; have z7 := b4.cell 7; have z8 := b4.cell 8; simp only [List.getElem?_toArray, List.getElem?_cons_zero, List.getElem?_cons_succ] at z0 z1 z2 z3 z4 z5 z6 z7 z8)
  | (go_at_call 51; (with_reducible refine (HU.out _ hy4).mono ?_); rintro e w5 ⟨EA, Ec, rfl, rE, hb5⟩; have b5 := b4.below hb5; have hy5 := hy4.trans (hb5.mono hy4.size); have v0 := b5.cell 0; have v1 := b5.cell 1; have v2 := b5.cell 2; have v3 := b5.cell 3; have v4 := b5.cell 4; have v5 := b5.cell 5; have v6 := b5.cell 6; have v7 := b5.cell 7; have v8 := b5.cell 8; simp only [List.getElem?_toArray, List.getElem?_cons_zero, List.getElem?_cons_succ] at v0 v1 v2 v3 v4 v5 v6 v7 v8)
  | (go_at_call 52; (with_reducible refine (HXN.out _ hy5).mono ?_); rintro e w6 ⟨gx, hx, rfl, _, hb6⟩; have b6 := b5.below hb6; have hy6 := hy5.trans (hb6.mono hy5.size); have p0 := b6.cell 0; have p1 := b6.cell 1; have p2 := b6.cell 2; have p3 := b6.cell 3; have p4 := b6.cell 4; have p5 := b6.cell 5; have p6 := b6.cell 6; have p7 := b6.cell 7; have p8 := b6.cell 8; simp only [List.getElem?_toArray, List.getElem?_cons_zero, List.getElem?_cons_succ] at p0 p1 p2 p3 p4 p5 p6 p7 p8)
  | (go_at_call 20; (with_reducible refine (HPN.out _ hy6).mono ?_); rintro e w7 ⟨g, hh, rfl, hP, hb7⟩))
 have hk7 : KN w6 0 (fun _ => False) g f.s0 w7 := ⟨_, hh, hP, hE.below (hy6.trans (hb7.mono hy6.size)), hb7, fun k hk => hk.1, fun _ hz => hz.elim⟩
 have rE6 := rE.below hb6
 have hR6 := hR.below hy6
 clear x0 x1 x2 x3 x4 x5 x6 x7 x8 y0 y1 y2 y3 y4 y5 y6 y7 y8 z0 z1 z2 z3 z4 z5 z6 z7 z8 v0 v1 v2 v3 v4 v5 v6 v7 v8 p0 p1 p2 p3 p4 p5 p6 p7 p8 hw2 HL HO HU HXN HPN hP
 go_loopw [12] (fun v wr => ∃ k : Nat, k ≤ l.length ∧ v = .int .i64 k ∧ KN w6 k (fun _ => False) g (runTo f.s0 l k) wr) (fun v _ => l.length - (intOf v).toNat)
 case atStart => exact ⟨0, by omega, rfl, by rw [runTo_zero]; exact hk7⟩
 case round =>
  clear hk7
  obtain ⟨k, hk, rfl, hkn⟩ := hrel
  have hyr := hkn.at_
  by_cases hlt : k < l.length
  ·obtain ⟨ea, rfl, heb, e0⟩ := (rE6.below hyr).at_ (k := k) (by rw [erl_len]; exact hlt)
   rw [erl_at f.s0 l hlt, nil_getD hlt] at e0
   have hE6 : (ea.add k).block < w6.heap.size := by obtain ⟨a1, a2, a3, _⟩ := rE6.at_ (k := k) (by rw [erl_len]; exact hlt); cases a2; exact a3
   obtain ⟨ad, rfl, hab, c0⟩ := (hR6.below hyr).at_ (k := k) (by omega)
   have hA6 : (ad.add k).block < w6.heap.size := by obtain ⟨a1, a2, a3, _⟩ := hR6.at_ (k := k) (by omega); cases a2; exact a3
   have htl := HLW.out k (by omega)
   have hrt := runTo_succ f.s0 l (k := k) (by omega)
   rw [nil_getD (by omega)] at htl hrt
   obtain ⟨tx, htx⟩ : ∃ tx, tx = l[k]'(by omega) := ⟨_, rfl⟩
   rw [← htx] at c0 htl hrt e0
   obtain ⟨sk, hsk⟩ : ∃ sk, sk = runTo f.s0 l k := ⟨_, rfl⟩
   rw [← hsk] at hkn hrt e0
   have HRT := Lib.hid hrt
   obtain ⟨D, hD⟩ : ∃ D, D = doE sk tx := ⟨_, rfl⟩
   have HD := Lib.hid ((hkn.below (Below.refl wr.heap.size wr).drew).do_ (by omega) tx (by omega))
   rw [← hD] at HD e0
   have n2 : (D != D) = false := by simp
   have C0 := Lib.hid c0
   have E0 := Lib.hid e0
   have hos : w6.heap.size ≤ wr.heap.size := hyr.size
   clear htx hsk hrt hD
   go_wp2_with fail
   go_region_held3 (fun w' => w'.cell? (ad.add k) = some (St tx) ∧ w'.cell? (ea.add k) = some (.int .i64 D))
    (first | exact ⟨c0, e0⟩ | exact ⟨q1, q2⟩ | go_keep)
    ((go_at_call 25; (with_reducible refine HD.out.mono ?_); rintro e wA ⟨rfl, hkA, _⟩; have q1 := ((hkA.at_.cell (by exact hA6)).trans (hyr.cell (by exact hA6)).symm).trans C0.out; have q2 := ((hkA.at_.cell (by exact hE6)).trans (hyr.cell (by exact hE6)).symm).trans E0.out))
   all_goals
    rw [← HRT.out] at hkA
    go_wp2_with fail
    go_roundw
    case rel => exact ⟨k + 1, by omega, by go_num, hkA⟩
    case measure => simp [intOf]; omega
  ·obtain rfl : k = l.length := by omega
   have hyo := hy6.trans (hyr.mono hy6.size)
   have HB := Lib.hid (show Calls Tryz.prog 23 #[.pointer (some ⟨g, 0, none⟩)] wr fun e w' => e = .returned (St (bok (runTo f.s0 l l.length))) ∧ Below wr.heap.size wr w' by obtain ⟨F, h', hP, _⟩ := hkn; exact oBook_any hP)
   obtain ⟨BB, hBB⟩ : ∃ BB, BB = bok (runTo f.s0 l l.length) := ⟨_, rfl⟩
   rw [← hBB] at HB
   rw [← hBB]
   go_wp2_with (first
    | (go_at_call 23; (with_reducible refine HB.out.mono ?_); rintro e w8 ⟨rfl, hb8⟩; have hy8 := hyo.trans (hb8.mono hyo.size))
    | (go_at_call 31; (with_reducible refine (oknown_any (hE.below hy8)).mono ?_); rintro e wk ⟨rfl, hbk⟩))
   go_ret
   exact ⟨rfl, hy8.trans (hbk.mono hy8.size)⟩
theorem officeRuns_any {f : Fi} {w : World} (hf : f.In w) (hE : EnvA w) (l : List Wd) (A : Option Addr) (c : Nat) (hR : RS w A l) (hll : l.length ≤ 9223372036854775807) :
  Calls Tryz.prog 10 #[.agg f.cells, .slice A l.length c] w fun e w' => e = .returned (.bool true) ∧ Below w.heap.size w w' := by
 cases h : lrg f.t f.b with
 | true => exact runs_pre hf hE l A c hR hll (.inl h)
 | false =>
  cases h' : lng l with
  | true => exact runs_pre hf hE l A c hR hll (.inr ⟨h, h'⟩)
  | false =>
   by_cases hz : f.e = 0
   ·by_cases h2 : l.length ≤ 200
    ·exact runs_ok hf hE l A c hR hll h h' hz h2
    ·exact runs_large hf hE l A c hR hll h h' hz (by omega)
   ·exact runs_bad hf hE l A c hR hll h h' hz
end Go.Proofs.YtiapkffihpgdcaaGreatDoor
namespace Go.Proofs.YtiapkffihpgdcaaGreatDoor
open Go.ChangeShapes Go.WideShapes Go.ChangeAt Go.RowKit Go.Deep Go.Joins
theorem officeRuns_env {W : World} (hL : laidMetH Tryz.prog Rows.officeRunsRow.laid W) (hs : W.ShapedOpen Tryz.prog) : EnvA W := by
 obtain ⟨h1, h2⟩ := plain_met (Lp := plainL) (by kernel_rfl) (by kernel_rfl) hL
 exact env_of h1 (by simp [plainL]) (by simp [plainL]) h2 hs
theorem officeRuns_lifted (os : Os) (started : os.Started) (H : Type) (enc : TypeId × Value → H) :
  ReturnsInHanded {} Tryz.checked os 10 .any (fun w args => (Rows.officeRunsSpec.pre enc Tryz.prog Tryz.f10 [] false w args ∧ laidMetH Tryz.prog Rows.officeRunsRow.laid w) ∧ sizedMet enc Tryz.prog Tryz.f10 (OpenSpec.ofChange Rows.officeRunsSpec) false w args)
   (Rows.officeRunsSpec.post enc Tryz.prog Tryz.f10 false true false false) := by
 refine handed_shaped (C := Tryz.checked) (X := fun w _ => laidMetH Tryz.prog Rows.officeRunsRow.laid w) (fun _ _ _ hh h => h.of_heap hh) own_ started (by kernel_rfl) Tryz.func10
  (ChangeSpec.witness_shaped (enc := enc) (C := Tryz.checked) (os := os) (X := fun w _ => laidMetH Tryz.prog Rows.officeRunsRow.laid w) false (witW os plainL) #[.agg #[.int .i64 0, .slice none 0 0, .slice none 0 0, .int .i64 0, .int .i64 0, .int .i64 0, .int .i64 0, .slice none 0 0, .slice none 0 0], .slice none 0 0] 8 (by unfold witW; rw [World.layVars_os]; rfl)
   (World.shaped_of_ZipB (by kernel_rfl) (by kernel_rfl)) (by kernel_rfl) (by kernel_rfl) (by kernel_rfl)
   (laidMetH_of_parts (by rw [show (Rows.officeRunsRow.laid.filter fun x => x.2.handleName?.isNone) = plainL by kernel_rfl]; exact witW_met _ (by kernel_rfl) (by kernel_rfl)) (by kernel_rfl))) ?_
 intro W base args ds gs before hval0 hW hS hL
 have hval : ∀ (j : Nat) t v, Tryz.f10.params[j]? = some t → args[j]? = some v → Value.okWide Tryz.prog W .any base t v := hval0
 have hW' := hW
 obtain ⟨p, q, hA0, hV, rfl, hfz, hnd⟩ := hW
 have hA : DataW.TrodAll enc Tryz.prog W 0 (fun _ => true) true Tryz.f10.params.toList args.toList ds p := hA0
 rw [Tryz.params10] at hA hval
 obtain ⟨v0, v1, d0, d1, p0, p1, rfl, rfl, rfl, h0, h1⟩ := trodAll_two hA
 obtain ⟨f, rfl, hf⟩ := open_firm (hval 0 _ v0 rfl rfl) h0
 obtain ⟨l, A, c, rfl, hrs, hll, hlk⟩ := open_orders (hval 1 _ v1 rfl rfl) h1
 refine (officeRuns_any hf (officeRuns_env hL hS) l A c hrs hll).mono fun e W' ⟨he, hb⟩ => ?_
 subst he
 exact ⟨_, rfl, law_post hW' rfl (by kernel_rfl) rfl (by rw [Tryz.params10]; intro t ht; simp at ht; rcases ht with rfl | rfl <;> exact ⟨by kernel_rfl, of_decide_eq_true (by kernel_rfl)⟩) hb⟩
set_option maxHeartbeats 4000000 in
theorem officeRuns_closed : joinedFacts Tryz.prog 10 Tryz.f10 Rows.officeRunsSpec Rows.officeRunsRow = true := by
 unfold joinedFacts
 simp only [Bool.and_eq_true]
 repeat' apply And.intro
 all_goals (as_aux_lemma => kernel_rfl)
set_option maxHeartbeats 4000000 in
theorem officeRuns_wrap : Tryz.f10.isWrapper Tryz.prog Rows.officeRunsRow.wrapper Rows.officeRunsRow.mainSum := by
 unfold Func.isWrapper; first | (rw [if_pos (by decide +kernel)]; kernel_rfl) | (rw [if_neg (by decide +kernel)]; exact ⟨rfl, rfl⟩)
theorem officeRuns_named : Tryz.prog.funcNamed Rows.officeRunsRow.func = some 10 := by kernel_rfl
theorem officeRuns_inst : Tryz.f10.isInstance Tryz.prog Rows.officeRunsRow.origin Rows.officeRunsRow.targs := of_decide_eq_true (by kernel_rfl)
set_option maxHeartbeats 4000000 in
theorem officeRuns_row : Rows.OfficeRunsSaid :=
 OpenClaim.holds_of_wide 10 Tryz.f10 rfl rfl rfl rfl rfl rfl rfl ⟨rfl, rfl, rfl, rfl, rfl⟩ rfl rfl rfl rfl rfl officeRuns_named Tryz.func10 officeRuns_closed
  officeRuns_inst officeRuns_wrap
  (fun os started H enc _ => officeRuns_lifted os started H enc)
theorem officeRuns_wfT : Rows.officeRunsRow.wfByText (OpenSpec.ofChange Rows.officeRunsSpec) = true := by kernel_rfl
theorem office_main : Tryz.pinned.checked.prog.mainIs = some (true, "5a9a52965f4185065c0d39a39ec58f829537e604a07fc4f1dbce9d7d2d17f592".toList) := by kernel_rfl
theorem office_looks : true = Tryz.pinned.checked.prog.looks [] := by kernel_rfl
theorem officeRuns_goes : false = Rows.officeRunsRow.goesBy Tryz.pinned.checked.prog := by kernel_rfl
theorem officeRuns_stand : ([32, 33].all fun u => !Tryz.prog.wantsStandIn u) = true := by kernel_rfl
set_option maxHeartbeats 4000000 in
theorem officeRuns_holds : Rows.OfficeRunsCardSaid :=
 Claim7.holds_tied_plain_at .later [] [.data, .data, .data, .handle, .pinned] true (true, "5a9a52965f4185065c0d39a39ec58f829537e604a07fc4f1dbce9d7d2d17f592") true
  officeRuns_row (fun _ h => by cases h) officeRuns_wfT (fun _ h => by cases h) officeRuns_row_tie rfl ⟨rfl, rfl⟩ office_main rfl
  (fun f fn hf hfn => by
   obtain rfl : f = 10 := Option.some.inj (officeRuns_named.symm.trans hf) |>.symm
   obtain rfl : fn = Tryz.f10 := (Option.some.inj (Tryz.func10.symm.trans hfn)).symm
   exact ⟨office_looks, fun j t ht => by
    rw [Tryz.params10] at ht
    have hm : t ∈ [32, 33] := by simpa using Array.mem_of_getElem? ht
    exact (show Tryz.prog.wantsStandIn t = false by simpa using List.all_eq_true.1 officeRuns_stand t hm)⟩)
  officeRuns_goes
end Go.Proofs.YtiapkffihpgdcaaGreatDoor
