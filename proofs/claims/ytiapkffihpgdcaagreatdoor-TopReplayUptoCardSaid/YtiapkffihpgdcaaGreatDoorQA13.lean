import Derived.Test.YtiapkffihpgdcaaGreatDoorQA9
import Derived.Test.YtiapkffihpgdcaaGreatDoorQA10
import Derived.Test.YtiapkffihpgdcaaGreatDoorQA11
import Derived.Test.YtiapkffihpgdcaaGreatDoorQA12
import Derived.Maps.OwnSet
import Derived.Maps.Views
import Derived.Lib.QuietBelow
set_option linter.unusedVariables false
set_option linter.unusedSimpArgs false
set_option maxRecDepth 100000
namespace Go.Proofs.YtiapkffihpgdcaaGreatDoor
open Go.RowKit
/-- The blocks of F are as they were. -/
structure Keeps (F : Nat → Prop) (w w' : World) : Prop where
 size : w.heap.size ≤ w'.heap.size
 block : ∀ k, F k → k < w.heap.size → w'.heap[k]? = w.heap[k]?
theorem Keeps.of_below {F : Nat → Prop} {w w' : World} (h : Below w.heap.size w w') : Keeps F w w' := ⟨h.size, fun k _ hk => h.block k hk⟩
theorem Keeps.of_off {F M : Nat → Prop} {w w' : World} (h : Off M w w') (hd : ∀ k, F k → k < w.heap.size → ¬ M k) : Keeps F w w' := ⟨h.size, fun k hk hs => h.block k hs (hd k hk hs)⟩
theorem Keeps.mono {F F' : Nat → Prop} {w w' : World} (h : Keeps F w w') (hF : ∀ k, F' k → F k) : Keeps F' w w' := ⟨h.size, fun k hk hs => h.block k (hF k hk) hs⟩
section
variable {F F' : Nat → Prop} {w w' : World} {size n : Nat} {A A1 A2 : Option Addr} {xs : List Value}
theorem ReadsF.kept (h : ReadsF F w size A n xs) (hk : Keeps F w w') : ReadsF F w' size A n xs :=
 ⟨⟨h.1.1, fun hn => by
  obtain ⟨ad, e, hb, hc⟩ := h.1.2 hn
  exact ⟨ad, e, Nat.lt_of_lt_of_le hb hk.size, fun j u hu => (World.cell?_of_block (w := w) (by rw [block_of_add]; exact hk.block _ (h.2 ad e hn) hb)).trans (hc j u hu)⟩⟩, h.2⟩
theorem R2.kept {f g : Nat → Value} (h : R2 F w A n f g) (hk : Keeps F w w') : R2 F w' A n f g := ReadsF.kept h hk
theorem RNF.kept {l : List Int} (h : RNF F w A l) (hk : Keeps F w w') : RNF F w' A l := ReadsF.kept h hk
theorem RIt.kept {l : List It} {hp hq : Nat → SlH} (h : RIt F w A l hp hq) (hk : Keeps F w w') : RIt F w' A l hp hq := ⟨h.row.kept hk, fun k h' => (h.parts k h').kept hk, fun k h' => (h.has k h').kept hk⟩
theorem RRl.kept {l : List Rl} {hp : Nat → SlH} (h : RRl F w A l hp) (hk : Keeps F w w') : RRl F w' A l hp := ⟨h.row.kept hk, fun k h' => (h.iff k h').kept hk⟩
theorem RBk.kept {b : Bk} {hp hq hr : Nat → SlH} (h : RBk F w A1 A2 b hp hq hr) (hk : Keeps F w w') : RBk F w' A1 A2 b hp hq hr := ⟨h.it.kept hk, h.rl.kept hk⟩
theorem Box.kept {g : Nat} {cs : Array Value} (h : Box w g cs) (hk : Keeps F w w') (hg : F g) : Box w' g cs :=
 ⟨Nat.lt_of_lt_of_le h.lt hk.size, fun j => (World.cell?_of_block (w := w) (a := ⟨g, j, none⟩) (hk.block g hg h.lt)).trans (h.cell j), fun j => (World.frozen?_of_block (w := w) (a := ⟨g, j, none⟩) (hk.block g hg h.lt)).trans (h.free j)⟩
theorem own_kept {base e : Nat} {v : Value} (h : w.ownsRow base e size v n xs) (hk : Keeps F w w') (hF : ∀ k, v.ownBlock = some k → F k) : w'.ownsRow base e size v n xs := by
 refine ⟨h.1, ?_⟩
 rcases h.2 with hn | ⟨g, cap, cur, rfl, hbg, hh, rest⟩
 ·exact .inl hn
 ·exact .inr ⟨g, cap, cur, rfl, hbg, (hk.block g (hF g rfl) (Array.getElem?_eq_some_iff.1 hh).1).trans hh, rest⟩
end
/-- The map at block b, of at most N entries, tells f. -/
def MP (w : World) (N b : Nat) (f : Int → Option Int) : Prop :=
 ∃ (n : Nat) (D : DataW Unit), n ≤ N ∧ w.ownsMap Tryz.prog 3 (plainElem (H := Unit) Tryz.prog 3) b n D ∧ ∀ d : Int, (Lit.int .i64 d).wf = true → Maps.has D (.int .i64 d) = (f d).isSome ∧ D.atKey (.int .i64 d) (.lit (.int .i64 0)) = .lit (.int .i64 ((f d).getD 0))
theorem MP.lt {w : World} {N b : Nat} {f : Int → Option Int} (h : MP w N b f) : b < w.heap.size := by
 obtain ⟨n, D, _, ho, _⟩ := h
 exact ho.lt
theorem MP.kept {F : Nat → Prop} {w w' : World} {N b : Nat} {f : Int → Option Int} (h : MP w N b f) (hk : Keeps F w w') (hF : F b) : MP w' N b f := by
 have hlt := h.lt
 obtain ⟨n, D, hn, ⟨es, clock, hb, r⟩, hd⟩ := h
 exact ⟨n, D, hn, ⟨es, clock, (hk.block b hF hlt).trans hb, r⟩, hd⟩
theorem MP.more {w : World} {N N' b : Nat} {f : Int → Option Int} (h : MP w N b f) (hN : N ≤ N') : MP w N' b f := by
 obtain ⟨n, D, hn, r⟩ := h
 exact ⟨n, D, by omega, r⟩
/-- Where an office's lists lie. -/
structure Hd where
 tr : SlH
 tc : SlH
 bi : SlH
 br : SlH
 hp : Nat → SlH
 hq : Nat → SlH
 hr : Nat → SlH
 mn : SlH
 ds : SlH
 kd : SlH
 hk : Nat → SlH
 fa : SlH
 ri : SlH
 ck : Nat
 et : Nat
 od : SlH
def slN (h : SlH) (n : Nat) : Value := .slice h.1 n h.2
def cellsO (L : Int) (s : Of) (h : Hd) : Array Value := #[.int .i32 L, .int .u32 0, .int .i64 s.tm.len, slN h.tr s.tm.rest.length, slN h.tc s.tm.clo.length, .int .i64 s.cy.n, .int .i64 s.cy.f, .int .i64 s.cy.k,
 .int .i64 s.bk.props, slN h.bi s.bk.items.length, slN h.br s.bk.rules.length, slN h.mn (mnL s.tm s.cy).length, .int .i64 s.now, slN h.ds s.dishes.length, slN h.kd s.kids.length, slN h.fa s.facts.length, slN h.ri s.rights.length,
 .map (some h.ck), .map (some h.et), slN h.od s.orders.length]
def blkOf (h : SlH) : Option Nat := h.1.map (·.block)
theorem own_blk (h : SlH) (n : Nat) : (slN h n).ownBlock = blkOf h := by
 unfold slN blkOf
 cases h.1 <;> rfl
/-- The blocks that nothing writes to. -/
def Im (F : Nat → Prop) (g : Nat) (h : Hd) (k : Nat) : Prop := F k ∧ k ≠ g ∧ k ≠ h.ck ∧ k ≠ h.et ∧ blkOf h.ds ≠ some k ∧ blkOf h.kd ≠ some k ∧ blkOf h.od ≠ some k
/-- The program's office s, at block g, in blocks of F; L: the lock; N: how many entries its maps have at most. -/
structure PO (L : Int) (N : Nat) (w : World) (F : Nat → Prop) (g : Nat) (h : Hd) (s : Of) : Prop where
 box : Box w g (cellsO L s h)
 lo : ∀ k, F k → 7 ≤ k ∧ k < w.heap.size
 gF : F g
 rest : RNF (Im F g h) w h.tr.1 s.tm.rest
 clo : RNF (Im F g h) w h.tc.1 s.tm.clo
 bk : RBk (Im F g h) w h.bi.1 h.br.1 s.bk h.hp h.hq h.hr
 mn : RNF (Im F g h) w h.mn.1 (mnL s.tm s.cy)
 fa : ReadsF (Im F g h) w 5 h.fa.1 s.facts.length (cellsF s.facts)
 ri : ReadsF (Im F g h) w 3 h.ri.1 s.rights.length (cellsS s.rights)
 av : ∀ k, k < s.kids.length → RNF (Im F g h) w (h.hk k).1 (gk s.kids k).avoid
 ds : w.ownsRow 0 81 2 (slN h.ds s.dishes.length) s.dishes.length (cells2 s.dishes.length (fun k => St (gd s.dishes k).name) (fun k => .int .i64 (gd s.dishes k).item))
 kd : w.ownsRow 0 56 2 (slN h.kd s.kids.length) s.kids.length (cells2 s.kids.length (fun k => .int .i64 (gk s.kids k).num) (fun k => slN (h.hk k) (gk s.kids k).avoid.length))
 od : w.ownsRow 0 9 1 (slN h.od s.orders.length) s.orders.length (strs s.orders)
 ck : MP w N h.ck s.cooked
 et : MP w N h.et s.eaten
 ckF : F h.ck ∧ h.ck ≠ g
 etF : F h.et ∧ h.et ≠ g ∧ h.et ≠ h.ck
 dsF : ∀ k, blkOf h.ds = some k → F k ∧ k ≠ g ∧ k ≠ h.ck ∧ k ≠ h.et
 kdF : ∀ k, blkOf h.kd = some k → F k ∧ k ≠ g ∧ k ≠ h.ck ∧ k ≠ h.et
 odF : ∀ k, blkOf h.od = some k → F k ∧ k ≠ g ∧ k ≠ h.ck ∧ k ≠ h.et
 fc : s.facts.length ≤ h.fa.2
 ok : OfOk s
section
variable {L : Int} {N : Nat} {w w' : World} {F F' : Nat → Prop} {g : Nat} {h : Hd} {s : Of}
theorem PO.kept (hP : PO L N w F g h s) (hk : Keeps F w w') : PO L N w' F g h s := by
 have hi : Keeps (Im F g h) w w' := hk.mono fun k hk => hk.1
 exact ⟨hP.box.kept hk hP.gF, fun k hk' => ⟨(hP.lo k hk').1, Nat.lt_of_lt_of_le (hP.lo k hk').2 hk.size⟩, hP.gF, hP.rest.kept hi, hP.clo.kept hi, hP.bk.kept hi, hP.mn.kept hi, hP.fa.kept hi, hP.ri.kept hi, fun k hk' => (hP.av k hk').kept hi,
  own_kept hP.ds hk fun k e => (hP.dsF k (by rw [own_blk] at e; exact e)).1, own_kept hP.kd hk fun k e => (hP.kdF k (by rw [own_blk] at e; exact e)).1, own_kept hP.od hk fun k e => (hP.odF k (by rw [own_blk] at e; exact e)).1,
  hP.ck.kept hk hP.ckF.1, hP.et.kept hk hP.etF.1, hP.ckF, hP.etF, hP.dsF, hP.kdF, hP.odF, hP.fc, hP.ok⟩
theorem PO.below (hP : PO L N w F g h s) (hb : Below w.heap.size w w') : PO L N w' F g h s := hP.kept (.of_below hb)
theorem PO.off {M : Nat → Prop} (hP : PO L N w F g h s) (ho : Off M w w') (hd : ∀ k, F k → ¬ M k) : PO L N w' F g h s := hP.kept (.of_off ho fun k hk _ => hd k hk)
theorem PO.more (hP : PO L N w F g h s) {N' : Nat} (hN : N ≤ N') : PO L N' w F g h s := { hP with ck := hP.ck.more hN, et := hP.et.more hN }
theorem Im.mono (hF : ∀ k, F k → F' k) {k : Nat} (hi : Im F g h k) : Im F' g h k := ⟨hF k hi.1, hi.2⟩
theorem PO.wide (hP : PO L N w F g h s) (hF : ∀ k, F k → F' k) (hl : ∀ k, F' k → 7 ≤ k ∧ k < w.heap.size) : PO L N w F' g h s := by
 have hi : ∀ k, Im F g h k → Im F' g h k := fun k => Im.mono hF
 exact ⟨hP.box, hl, hF _ hP.gF, hP.rest.mono hi, hP.clo.mono hi, hP.bk.mono hi, hP.mn.mono hi, hP.fa.mono hi, hP.ri.mono hi, fun k hk' => (hP.av k hk').mono hi, hP.ds, hP.kd, hP.od, hP.ck, hP.et,
  ⟨hF _ hP.ckF.1, hP.ckF.2⟩, ⟨hF _ hP.etF.1, hP.etF.2⟩, fun k e => ⟨hF _ (hP.dsF k e).1, (hP.dsF k e).2⟩, fun k e => ⟨hF _ (hP.kdF k e).1, (hP.kdF k e).2⟩, fun k e => ⟨hF _ (hP.odF k e).1, (hP.odF k e).2⟩, hP.fc, hP.ok⟩
theorem PO.cLen (hP : PO L N w F g h s) : w.cell? ⟨g, 2, none⟩ = some (.int .i64 s.tm.len) := hP.box.cell 2
theorem PO.cRest (hP : PO L N w F g h s) : w.cell? ⟨g, 3, none⟩ = some (.slice h.tr.1 s.tm.rest.length h.tr.2) := hP.box.cell 3
theorem PO.cClo (hP : PO L N w F g h s) : w.cell? ⟨g, 4, none⟩ = some (.slice h.tc.1 s.tm.clo.length h.tc.2) := hP.box.cell 4
theorem PO.cN (hP : PO L N w F g h s) : w.cell? ⟨g, 5, none⟩ = some (.int .i64 s.cy.n) := hP.box.cell 5
theorem PO.cF (hP : PO L N w F g h s) : w.cell? ⟨g, 6, none⟩ = some (.int .i64 s.cy.f) := hP.box.cell 6
theorem PO.cK (hP : PO L N w F g h s) : w.cell? ⟨g, 7, none⟩ = some (.int .i64 s.cy.k) := hP.box.cell 7
theorem PO.cProps (hP : PO L N w F g h s) : w.cell? ⟨g, 8, none⟩ = some (.int .i64 s.bk.props) := hP.box.cell 8
theorem PO.cItems (hP : PO L N w F g h s) : w.cell? ⟨g, 9, none⟩ = some (.slice h.bi.1 s.bk.items.length h.bi.2) := hP.box.cell 9
theorem PO.cRules (hP : PO L N w F g h s) : w.cell? ⟨g, 10, none⟩ = some (.slice h.br.1 s.bk.rules.length h.br.2) := hP.box.cell 10
theorem PO.cMn (hP : PO L N w F g h s) : w.cell? ⟨g, 11, none⟩ = some (.slice h.mn.1 (mnL s.tm s.cy).length h.mn.2) := hP.box.cell 11
theorem PO.cNow (hP : PO L N w F g h s) : w.cell? ⟨g, 12, none⟩ = some (.int .i64 s.now) := hP.box.cell 12
theorem PO.cDs (hP : PO L N w F g h s) : w.cell? ⟨g, 13, none⟩ = some (.slice h.ds.1 s.dishes.length h.ds.2) := hP.box.cell 13
theorem PO.cKd (hP : PO L N w F g h s) : w.cell? ⟨g, 14, none⟩ = some (.slice h.kd.1 s.kids.length h.kd.2) := hP.box.cell 14
theorem PO.cFa (hP : PO L N w F g h s) : w.cell? ⟨g, 15, none⟩ = some (.slice h.fa.1 s.facts.length h.fa.2) := hP.box.cell 15
theorem PO.cRi (hP : PO L N w F g h s) : w.cell? ⟨g, 16, none⟩ = some (.slice h.ri.1 s.rights.length h.ri.2) := hP.box.cell 16
theorem PO.cCk (hP : PO L N w F g h s) : w.cell? ⟨g, 17, none⟩ = some (.map (some h.ck)) := hP.box.cell 17
theorem PO.cEt (hP : PO L N w F g h s) : w.cell? ⟨g, 18, none⟩ = some (.map (some h.et)) := hP.box.cell 18
theorem PO.cOd (hP : PO L N w F g h s) : w.cell? ⟨g, 19, none⟩ = some (.slice h.od.1 s.orders.length h.od.2) := hP.box.cell 19
theorem PO.cLk (hP : PO L N w F g h s) : w.cell? ⟨g, 0, none⟩ = some (.int .i32 L) := hP.box.cell 0
theorem PO.rf (hP : PO L N w F g h s) : RF w w.heap.size h.fa.1 s.facts := ⟨Nat.le_refl _, hP.fa.1⟩
theorem PO.kids (hP : PO L N w F g h s) : R2 (fun _ => True) w h.kd.1 s.kids.length (fun k => .int .i64 (gk s.kids k).num) (fun k => slN (h.hk k) (gk s.kids k).avoid.length) := ⟨Reads.of_own hP.kd, fun _ _ _ => trivial⟩
theorem PO.dish (hP : PO L N w F g h s) : RDh (fun _ => True) w h.ds.1 s.dishes := ⟨Reads.of_own hP.ds, fun _ _ _ => trivial⟩
theorem PO.gl (hP : PO L N w F g h s) : g < w.heap.size := hP.box.lt
/-- Cells of the office that turn, one by one. -/
theorem Box.set {cs : Array Value} (hb : Box w g cs) (j : Nat) (v : Value) (hj : j < cs.size) : Box (w.setCell ⟨g, j, none⟩ v) g (cs.setIfInBounds j v) := by
 refine ⟨by simpa [World.setCell] using hb.lt, fun i => ?_, fun i => ?_⟩
 ·by_cases e : i = j
  ·subst e
   rw [World.cell?_setCell_same' _ _ _ (by rw [hb.cell]; simp [hj])]
   simp [hj]
  ·rw [World.cell?_setCell_other _ _ _ _ (by intro h; injection h with _ h2; exact e h2.symm), hb.cell, Array.getElem?_setIfInBounds]
   rw [if_neg (fun h => e h.symm)]
 ·simpa using hb.free i
end
theorem Box.far {w : World} {g : Nat} {cs : Array Value} {p : Addr} (h : Box w g cs) (hp : g ≠ p.block) (v : Value) : Box (w.setCell p v) g cs := by
 refine ⟨by have := h.lt; simpa [World.setCell] using this, fun j => ?_, fun j => by rw [World.frozen?_setCell]; exact h.free j⟩
 rw [World.cell?_setCell_other _ _ _ _ (fun e => hp (by rw [e]))]
 exact h.cell j
theorem Box.keep {w w' : World} {g n : Nat} {cs : Array Value} (h : Box w g cs) (hb : Below n w w') (hg : g < n) : Box w' g cs :=
 ⟨Nat.lt_of_lt_of_le h.lt hb.size, fun j => (hb.cell (p := ⟨g, j, none⟩) hg).trans (h.cell j), fun j => (hb.frozen (p := ⟨g, j, none⟩) hg).trans (h.free j)⟩
/-- F, and what is new. -/
def grown (F : Nat → Prop) (w w' : World) (k : Nat) : Prop := F k ∨ (w.heap.size ≤ k ∧ k < w'.heap.size)
end Go.Proofs.YtiapkffihpgdcaaGreatDoor
namespace Go.Proofs.YtiapkffihpgdcaaGreatDoor
theorem wds_byte : ∀ (s : List UInt8) (b : UInt8), b ∈ s → b = 32 ∨ ∃ w ∈ wds s, b ∈ w
 | [], b, h => by simp at h
 | a :: r, b, h => by
  have ih := wds_byte r
  unfold wds
  by_cases ha : a = 32
  ·rw [if_pos ha]
   rcases List.mem_cons.1 h with rfl | h
   ·exact .inl ha
   ·rcases ih b h with h | ⟨w, hw, hb⟩
    ·exact .inl h
    ·exact .inr ⟨w, by simp [hw], hb⟩
  ·rw [if_neg ha]
   rcases List.mem_cons.1 h with rfl | h
   ·right
    split
    ·exact ⟨[b], by simp, by simp⟩
    ·rename_i w' ws' e; exact ⟨b :: w', by simp, by simp⟩
   ·rcases ih b h with h | ⟨w, hw, hb⟩
    ·exact .inl h
    ·right
     split
     ·rename_i e; rw [e] at hw; simp at hw
     ·rename_i w' ws' e
      rw [e] at hw
      rcases List.mem_cons.1 hw with rfl | hw
      ·exact ⟨a :: w, by simp, by simp [hb]⟩
      ·exact ⟨w, by simp [hw], hb⟩
def noNl (w : List UInt8) : Prop := (10 : UInt8) ∉ w
theorem gb_mem {w : Wd} {b : UInt8} (h : b ∈ w) : ∃ i, i < w.length ∧ gb w i = b := by
 obtain ⟨i, hi, e⟩ := List.mem_iff_getElem.1 h
 exact ⟨i, hi, by unfold gb; rw [List.getD_eq_getElem?_getD, List.getElem?_eq_getElem hi]; exact e⟩
theorem noNl_num {w : Wd} (h : numOk w = true) : noNl w := fun hb => by
 obtain ⟨i, hi, e⟩ := gb_mem hb
 unfold numOk at h
 rw [Bool.and_eq_true, Bool.and_eq_true] at h
 have := (digTo_iff _ _).1 h.2.1 i hi
 rw [e] at this
 revert this; decide
theorem noNl_let {w : Wd} (h : letB w = true) : noNl w := fun hb => by
 obtain ⟨i, hi, e⟩ := gb_mem hb
 unfold letB at h
 rw [Bool.and_eq_true] at h
 have := (letTo_iff _ _).1 h.1 i hi
 rw [e] at this
 revert this; decide
theorem noNl_fm {w : Wd} {f : Fm} (h : fmOf w = some f) : noNl w ∧ w ≠ [] := by
 unfold fmOf at h
 by_cases h0 : w = wAt
 ·rw [h0]; unfold noNl; decide
 rw [if_neg h0] at h
 by_cases h1 : w = wDish
 ·rw [h1]; unfold noNl; decide
 rw [if_neg h1] at h
 by_cases h2 : w = wChild
 ·rw [h2]; unfold noNl; decide
 rw [if_neg h2] at h
 by_cases h3 : w = wOrder
 ·rw [h3]; unfold noNl; decide
 rw [if_neg h3] at h
 by_cases h4 : w = wCancel
 ·rw [h4]; unfold noNl; decide
 rw [if_neg h4] at h
 by_cases h5 : w = wFree
 ·rw [h5]; unfold noNl; decide
 rw [if_neg h5] at h
 by_cases h6 : w = wCook
 ·rw [h6]; unfold noNl; decide
 rw [if_neg h6] at h
 by_cases h7 : w = wEat
 ·rw [h7]; unfold noNl; decide
 rw [if_neg h7] at h
 cases h
theorem getD_mem {ws : List Wd} {w : Wd} (h : w ∈ ws) : ∃ i, i < ws.length ∧ ws.getD i [] = w := by
 obtain ⟨i, hi, e⟩ := List.mem_iff_getElem.1 h
 exact ⟨i, hi, by rw [List.getD_eq_getElem?_getD, List.getElem?_eq_getElem hi]; exact e⟩
theorem noNl_nums {ws : List Wd} (h : numsTo ws ws.length = true) : ∀ w ∈ ws, noNl w := fun w hw => by
 obtain ⟨i, hi, rfl⟩ := getD_mem hw
 exact noNl_num ((numsTo_iff _ _).1 h i hi)
theorem hd_tail {ws : List Wd} (h : ws ≠ []) : ws = hd ws :: ws.tail := by cases ws with | nil => exact absurd rfl h | cons a r => rfl
theorem prs_words {s : Wd} {r : Rq} (h : prs s = some r) : ∀ w ∈ wds s, noNl w := by
 have hne := wds_ne s
 unfold prs at h
 cases hf : fmOf (hd (wds s)) with
 | none => rw [hf] at h; cases h
 | some f =>
  rw [hf] at h
  simp only at h
  have h0 := (noNl_fm hf).1
  by_cases h60 : 60 < s.length
  ·rw [if_pos h60] at h; cases h
  rw [if_neg h60] at h
  rw [hd_tail hne]
  intro w hw
  rcases List.mem_cons.1 hw with rfl | hw
  ·exact h0
  cases hn : f.name with
  | false => rw [hn] at h; simp only [Bool.false_eq_true, if_false] at h; exact noNl_nums (rqN_some h).2.2 w hw
  | true =>
   rw [hn] at h
   simp only [if_true] at h
   by_cases he : (wds s).tail = []
   ·rw [he] at hw; simp at hw
   ·rw [if_neg he] at h
    cases hl : letB (hd (wds s).tail) with
    | false => rw [hl] at h; cases h
    | true =>
     rw [hl] at h
     simp only [if_true] at h
     rw [hd_tail he] at hw
     rcases List.mem_cons.1 hw with rfl | hw
     ·exact noNl_let hl
     ·exact noNl_nums (rqN_some h).2.2 w hw
theorem prs_line {s : Wd} {r : Rq} (h : prs s = some r) : noNl s ∧ s ≠ [] ∧ s.length ≤ 60 := by
 refine ⟨fun hb => ?_, ?_, (prs_ok h).2⟩
 ·rcases wds_byte s 10 hb with h1 | ⟨w, hw, hb⟩
  ·revert h1; decide
  ·exact prs_words h w hw hb
 ·rintro rfl
  have e : prs [] = none := by decide
  rw [e] at h; cases h
def lnOf (t : List UInt8) : List UInt8 := t.takeWhile fun b => b != 10
def goodL (t : List UInt8) : Bool := decide ((lnOf t).length < t.length ∧ lnOf t ≠ [] ∧ (lnOf t).length ≤ 60)
def nxt (t : List UInt8) : List UInt8 := t.drop ((lnOf t).length + 1)
def rdL : Nat → List UInt8 → List Wd × List UInt8
 | 0, t => ([], t)
 | n + 1, t => if goodL t then (lnOf t :: (rdL n (nxt t)).1, (rdL n (nxt t)).2) else ([], t)
def rd (t : List UInt8) : List Wd × List UInt8 := rdL 200 t
theorem rdL_len (n : Nat) : ∀ t, (rdL n t).1.length ≤ n := by
 induction n with
 | zero => intro t; simp [rdL]
 | succ n ih =>
  intro t
  simp only [rdL]
  split
  ·have := ih (nxt t); simp; omega
  ·simp
theorem lnOf_app {l r : List UInt8} (h : noNl l) : lnOf (l ++ 10 :: r) = l := by
 unfold lnOf
 induction l with
 | nil => simp
 | cons a l ih =>
  have h1 : a ≠ 10 := fun e => h (by simp [e])
  have h2 : noNl l := fun e => h (by simp [e])
  rw [List.cons_append, List.takeWhile_cons]
  have : (a != 10) = true := by simpa using h1
  rw [this]
  simp only [if_true]
  rw [ih h2]
def bokL (l : List Wd) : List UInt8 := l.flatMap fun w => w ++ [10]
theorem bokL_cons (w : Wd) (l : List Wd) : bokL (w :: l) = w ++ 10 :: bokL l := by simp [bokL]
theorem bokL_app (l m : List Wd) : bokL (l ++ m) = bokL l ++ bokL m := by simp [bokL]
theorem bokTo_take (l : List Wd) : ∀ k, k ≤ l.length → bokTo l k = bokL (l.take k)
 | 0, _ => by simp [bokTo, bokL]
 | k + 1, hk => by
  have h : k < l.length := by omega
  simp only [bokTo]
  rw [bokTo_take l k (by omega), List.take_succ_eq_append_getElem h, bokL_app]
  congr 1
  simp [bokL, h]
theorem bok_eq (o : Of) : bok o = bokL o.orders := by unfold bok; rw [bokTo_take _ _ (Nat.le_refl _), List.take_length]
theorem rdL_bok : ∀ (l : List Wd) (n : Nat), (∀ w ∈ l, noNl w ∧ w ≠ [] ∧ w.length ≤ 60) → l.length ≤ n → rdL n (bokL l) = (l, [])
 | [], 0, _, _ => rfl
 | [], n + 1, _, _ => by
  have : goodL (bokL []) = false := by decide
  simp only [rdL]
  rw [this]; rfl
 | w :: l, 0, _, h => by simp at h
 | w :: l, n + 1, hw, h => by
  obtain ⟨h1, h2, h3⟩ := hw w (by simp)
  rw [bokL_cons]
  have e := lnOf_app (r := bokL l) h1
  have hg : goodL (w ++ 10 :: bokL l) = true := by
   unfold goodL
   rw [e, decide_eq_true_eq]
   exact ⟨by simp, h2, h3⟩
  have hn : nxt (w ++ 10 :: bokL l) = bokL l := by
   unfold nxt
   rw [e, List.drop_append]
   simp
  simp only [rdL]
  rw [hg, hn, e, rdL_bok l n (fun x hx => hw x (by simp [hx])) (by simp at h; omega)]
  rfl
theorem OfOk.lines {o : Of} (h : OfOk o) : ∀ w ∈ o.orders, noNl w ∧ w ≠ [] ∧ w.length ≤ 60 := fun w hw => by
 obtain ⟨r, hr⟩ := h.os w hw
 exact prs_line hr
theorem rd_bok {o : Of} (h : OfOk o) : rd (bok o) = (o.orders, []) := by
 rw [bok_eq]
 exact rdL_bok _ _ h.lines h.ol
def runS (o : Of) (ls : List Wd) : Of := ls.foldl doS o
def runTo (o : Of) (ls : List Wd) (k : Nat) : Of := runS o (ls.take k)
/-- The first k orders are all done. -/
def okTo (o : Of) (ls : List Wd) : Nat → Bool
 | 0 => true
 | k + 1 => okTo o ls k && doE (runTo o ls k) (ls.getD k []) == 0
theorem runS_snoc (o : Of) (ls : List Wd) (s : Wd) : runS o (ls ++ [s]) = doS (runS o ls) s := by simp [runS]
theorem runTo_succ (o : Of) (ls : List Wd) {k : Nat} (hk : k < ls.length) : runTo o ls (k + 1) = doS (runTo o ls k) (ls.getD k []) := by
 unfold runTo
 rw [List.take_succ_eq_append_getElem hk, runS_snoc]
 simp [hk]
theorem runTo_zero (o : Of) (ls : List Wd) : runTo o ls 0 = o := by simp [runTo, runS]
theorem runTo_all (o : Of) (ls : List Wd) : runTo o ls ls.length = runS o ls := by unfold runTo; rw [List.take_length]
theorem okTo_iff (o : Of) (ls : List Wd) (k : Nat) : okTo o ls k = true ↔ ∀ i, i < k → doE (runTo o ls i) (ls.getD i []) = 0 := by
 induction k with
 | zero => simp [okTo]
 | succ k ih =>
  simp only [okTo, Bool.and_eq_true, ih, beq_iff_eq]
  constructor
  ·rintro ⟨h1, h2⟩ i hi
   by_cases e : i = k
   ·subst e; exact h2
   ·exact h1 i (by omega)
  ·intro h; exact ⟨fun i hi => h i (by omega), h k (by omega)⟩
theorem doS_same (o : Of) (s : Wd) : (doS o s).tm = o.tm ∧ (doS o s).cy = o.cy ∧ (doS o s).bk = o.bk := by
 unfold doS
 split
 ·split
  ·exact ⟨rfl, rfl, rfl⟩
  ·rename_i r _
   simp only
   unfold exS
   repeat' (first | exact ⟨rfl, rfl, rfl⟩ | split)
 ·exact ⟨rfl, rfl, rfl⟩
/-- The office is what its own orders make of a new one. -/
structure Hist (o : Of) : Prop where
 ok : okTo (new0 o.tm o.cy o.bk) o.orders o.orders.length = true
 run : runS (new0 o.tm o.cy o.bk) o.orders = o
theorem Hist.new (t : Tm) (c : Cy) (b : Bk) : Hist (new0 t c b) := ⟨rfl, rfl⟩
theorem doS_orders {o : Of} {s : Wd} (h : doE o s = 0) : (doS o s).orders = o.orders ++ [s] := by
 obtain ⟨r, hp, _, _⟩ := doE_zero h
 rw [doS_good h hp]
theorem Hist.step {o : Of} (h : Hist o) (s : Wd) : Hist (doS o s) := by
 by_cases he : doE o s = 0
 ·obtain ⟨e1, e2, e3⟩ := doS_same o s
  have eo := doS_orders he
  have hr : runTo (new0 o.tm o.cy o.bk) (o.orders ++ [s]) o.orders.length = o := by
   unfold runTo
   rw [List.take_left']
   ·exact h.run
   ·rfl
  refine ⟨?_, ?_⟩
  ·rw [e1, e2, e3, eo, List.length_append, List.length_singleton]
   rw [okTo_iff]
   intro i hi
   by_cases e : i = o.orders.length
   ·subst e
    rw [hr]
    simpa using he
   ·have hi' : i < o.orders.length := by omega
    have := (okTo_iff _ _ _).1 h.ok i hi'
    unfold runTo at this ⊢
    rw [List.take_append_of_le_length (by omega)]
    rw [List.getD_eq_getElem?_getD, List.getElem?_append_left hi', ← List.getD_eq_getElem?_getD]
    exact this
  ·rw [e1, e2, e3, eo, runS_snoc, h.run]
 ·rw [doS_bad he]; exact h
theorem cnt_filter (p : Nat → Bool) (n : Nat) : cnt p n = ((List.range n).filter p).length := by
 induction n with
 | zero => rfl
 | succ n ih =>
  rw [List.range_succ, List.filter_append, List.length_append, ← ih]
  simp only [cnt]
  cases h : p n <;> simp [h]
theorem sumN_filter (p : Nat → Bool) (n : Nat) : sumN (fun c => one (p c)) n = ((List.range n).filter p).length := by
 induction n with
 | zero => rfl
 | succ n ih =>
  rw [List.range_succ, List.filter_append, List.length_append, ← ih]
  simp only [sumN]
  cases h : p n <;> simp [h, one]
theorem kids_lt {l : List Kd} (hs : l.Pairwise fun a b => a.num < b.num) {i j : Nat} (hij : i < j) (hj : j < l.length) : (gk l i).num < (gk l j).num := by
 have := List.pairwise_iff_getElem.1 hs i j (by omega) hj hij
 unfold gk
 rw [List.getD_eq_getElem?_getD, List.getElem?_eq_getElem (by omega), List.getD_eq_getElem?_getD, List.getElem?_eq_getElem hj]
 exact this
theorem kids_inj {l : List Kd} (hs : l.Pairwise fun a b => a.num < b.num) {i j : Nat} (hi : i < l.length) (hj : j < l.length) (e : (gk l i).num = (gk l j).num) : i = j := by
 rcases Nat.lt_trichotomy i j with h | h | h
 ·have := kids_lt hs h hj; omega
 ·exact h
 ·have := kids_lt hs h hi; omega
/-- As many children eat as the table tells. -/
theorem por_children {o : Of} (h : OfOk o) {d : Nat} (hd : d < o.days) : porTo o d o.kids.length = (chTo o.facts o.now 1 d 100).length := by
 have hd' := days_le h.tm
 rw [chTo_len]
 unfold porTo
 rw [cnt_filter]
 show _ = sumN (fun c => one ((fun c => hasM o.facts o.now 1 c d) c)) 100
 rw [sumN_filter]
 have e1 : ((List.range o.kids.length).filter fun i => eatB o (gk o.kids i).num d).length = (((List.range o.kids.length).filter fun i => eatB o (gk o.kids i).num d).map fun i => (gk o.kids i).num.toNat).length := by simp
 rw [e1]
 apply List.Perm.length_eq
 apply (List.perm_ext_iff_of_nodup ?_ ?_).2
 ·intro c
  rw [List.mem_map, List.mem_filter, List.mem_range]
  constructor
  ·rintro ⟨i, hi, rfl⟩
   rw [List.mem_filter, List.mem_range] at hi
   have hk := h.kn _ (gk_mem hi.1)
   have := (eatB_iff h.fv hk.1 hk.2 (by omega) (by omega)).1 hi.2
   refine ⟨by omega, ?_⟩
   unfold hasM
   rw [Int.toNat_of_nonneg hk.1, this]; rfl
  ·rintro ⟨hc, hm⟩
   have hm' : knw o.facts o.now c d = 1 := by unfold hasM at hm; simpa using hm
   have hK : hasK o.kids c = true := by
    cases hb : hasK o.kids c with
    | true => rfl
    | false =>
     exfalso
     rw [knw_none fun i hi e => by have := h.fk i hi; rw [e, hb] at this; cases this] at hm'
     cases hm'
   obtain ⟨x, hx, e⟩ := (hasK_iff _ _).1 hK
   obtain ⟨k, hk, rfl⟩ := gk_of_mem hx
   refine ⟨k, ?_, by rw [e]; simp⟩
   rw [List.mem_filter, List.mem_range]
   have hkk := h.kn _ (gk_mem hk)
   exact ⟨hk, (eatB_iff h.fv hkk.1 hkk.2 (by omega) (by omega)).2 (by rw [e]; exact hm')⟩
 ·rw [List.Nodup, List.pairwise_map]
  have hn : ((List.range o.kids.length).filter fun i => eatB o (gk o.kids i).num d).Pairwise fun a b => a < b := List.pairwise_lt_range.sublist (List.filter_sublist)
  refine List.Pairwise.imp_of_mem ?_ hn
  intro a b ha hb hab e
  rw [List.mem_filter, List.mem_range] at ha hb
  have k1 := h.kn _ (gk_mem ha.1)
  have k2 := h.kn _ (gk_mem hb.1)
  have := kids_inj h.ks ha.1 hb.1 (by omega)
  omega
 ·exact List.Nodup.sublist List.filter_sublist List.nodup_range
/-- No child has what it must avoid. -/
theorem harm_none {o : Of} (h : OfOk o) {x : Kd} (hx : x ∈ o.kids) {d : Nat} (hd : d < o.days) (hm : 0 ≤ o.menu d ∧ o.menu d < o.dishes.length) (he : knw o.facts o.now x.num d = 1) (p : Int)
  (hp : p ∈ labR o.bk (gd o.dishes (o.menu d).toNat).item) : hasB x.avoid p = false := by
 have hk := h.kn x hx
 have hd' := days_le h.tm
 cases hb : hasB x.avoid p with
 | false => rfl
 | true =>
  exfalso
  have hh : dayHarm o x.avoid d = true := by
   unfold dayHarm
   rw [Bool.and_eq_true, decide_eq_true_eq]
   refine ⟨hm, ?_⟩
   unfold harmB
   rw [anyTo_iff]
   obtain ⟨i, hi, e⟩ := (hasB_iff _ _).1 hb
   exact ⟨i, hi, by rw [e]; exact (hasB_mem _ _).2 hp⟩
  have := h.safe x hx d hd hh
  rw [(eatB_iff h.fv hk.1 hk.2 (by omega) (by omega)).2 he] at this
  cases this
theorem kids_100 {o : Of} (h : OfOk o) : o.kids.length ≤ 100 := by
 by_cases e : o.kids.length = 0
 ·omega
 have key : ∀ k, k < o.kids.length → (k : Int) ≤ (gk o.kids k).num := by
  intro k
  induction k with
  | zero => intro hk; have := (h.kn _ (gk_mem hk)).1; simpa using this
  | succ k ih => intro hk; have := ih (by omega); have := kids_lt h.ks (show k < k + 1 by omega) hk; omega
 have a := key (o.kids.length - 1) (by omega)
 have b := (h.kn _ (gk_mem (show o.kids.length - 1 < o.kids.length by omega))).2
 omega
end Go.Proofs.YtiapkffihpgdcaaGreatDoor
namespace Go.Proofs.YtiapkffihpgdcaaGreatDoor
open Go.RowKit Go.Sort
/-- The place of a child; -1 if there is none. -/
def kix (l : List Kd) (n : Int) : Int := match l.findIdx? (fun x => x.num == n) with
 | some i => i
 | none => -1
theorem kix_none {l : List Kd} {n : Int} (h : hasK l n = false) : kix l n = -1 := by
 unfold hasK kidTo at h
 rw [anyTo_false] at h
 unfold kix
 rw [List.findIdx?_eq_none_iff.2 fun x hx => ?_]
 obtain ⟨i, hi, rfl⟩ := List.mem_iff_getElem.1 hx
 have := h i hi
 simpa [gk, hi] using this
theorem kix_first {l : List Kd} {n : Int} {k : Nat} (hk : k < l.length) (h : (gk l k).num = n) (hb : kidTo l n k = false) : kix l n = k := by
 unfold kidTo at hb
 rw [anyTo_false] at hb
 unfold kix
 have e : l.findIdx? (fun x => x.num == n) = some k := by
  rw [List.findIdx?_eq_some_iff_getElem]
  refine ⟨hk, ?_, fun j hj => ?_⟩
  ·simpa [gk, hk] using h
  ·have := hb j hj
   simp [gk, show j < l.length by omega] at this
   simpa using this
 rw [e]
theorem kix_some {l : List Kd} {n : Int} (h : hasK l n = true) : ∃ k : Nat, k < l.length ∧ kix l n = k ∧ (gk l k).num = n ∧ gk l k = kidOf l n := by
 unfold hasK kidTo at h
 rw [anyTo_iff] at h
 obtain ⟨i, hi, hn⟩ := h
 obtain ⟨k, hk⟩ : ∃ k, (l.findIdx? fun x => x.num == n) = some k := by
  cases hf : l.findIdx? fun x => x.num == n with
  | some k => exact ⟨k, rfl⟩
  | none =>
   have := List.findIdx?_eq_none_iff.1 hf l[i] (List.getElem_mem hi)
   simp [gk, hi] at hn
   simp [hn] at this
 obtain ⟨h1, h2, h3⟩ := List.findIdx?_eq_some_iff_getElem.1 hk
 refine ⟨k, h1, by unfold kix; rw [hk], by simpa [gk, h1] using h2, ?_⟩
 have e : l.find? (fun x => x.num == n) = some l[k] := by
  rw [List.find?_eq_some_iff_getElem]
  exact ⟨h2, k, h1, rfl, fun j hj => by simpa using h3 j hj⟩
 unfold kidOf
 rw [e]
 simp [gk, h1]
theorem kidTo_next {l : List Kd} {n : Int} {k : Nat} (h : kidTo l n k = false) (h' : (gk l k).num ≠ n) : kidTo l n (k + 1) = false := by
 unfold kidTo at h ⊢
 rw [anyTo_false] at h ⊢
 intro i hi
 by_cases e : i = k
 ·subst e; simpa using h'
 ·exact h i (by omega)
set_option maxHeartbeats 800000 in
theorem indexKid_any (l : List Kd) (hk : Nat → SlH) (n : Int) (hl : l.length ≤ 1000000000) (A : Option Addr) (c b : Nat) (w : World) (hR : R2 (fun _ => True) w A l.length (fun k => .int .i64 (gk l k).num) (fun k => slN (hk k) (gk l k).avoid.length)) (hb : w.cell? ⟨b, 0, none⟩ = some (.int .i64 n)) (hbs : b < w.heap.size) :
  Calls Tryz.prog 245 #[.slice A l.length c, .func (.func 246) #[] #[.pointer (some ⟨b, 0, none⟩)]] w fun e w' => e = .returned (.int .i64 (kix l n)) ∧ Below w.heap.size w w' := by
 obtain ⟨S, hS⟩ : ∃ S, S = kix l n := ⟨_, rfl⟩
 rw [← hS]
 have HS := Lib.hid hS; clear hS
 go_enter Tryz.func245, Tryz.ntmps245
 go_wp2
 go_loopw [8] (fun x wr => ∃ k : Nat, k ≤ l.length ∧ x = .int .i64 k ∧ Hid (kidTo l n k = false) ∧ Below w.heap.size w wr) (fun x _ => l.length - (intOf x).toNat)
 case atStart => exact ⟨0, by omega, rfl, rfl, Below.refl _ _⟩
 case round =>
  obtain ⟨k, hkl, rfl, HK, hbl⟩ := hrel
  have hbr := (hbl.cell (p := ⟨b, 0, none⟩) hbs).trans hb
  have hsz := hbl.size
  by_cases hlt : k < l.length
  ·obtain ⟨ad, rfl, hab, _, d0, d1⟩ := (hR.below hbl).at_ hlt
   unfold slN at d1
   obtain ⟨w5, hw5⟩ : ∃ w5, wr.alloc (.cells #[.int .i64 (gk l k).num, .slice (hk k).1 (gk l k).avoid.length (hk k).2] 56) = w5 := ⟨_, rfl⟩
   have hb5 : Below wr.heap.size wr w5 := by rw [← hw5]; exact (Below.refl _ wr).alloc (Nat.le_refl _) _
   have b5 : Box w5 wr.heap.size #[.int .i64 (gk l k).num, .slice (hk k).1 (gk l k).avoid.length (hk k).2] := by rw [← hw5]; exact (Box.new wr _ _)
   have u0 := b5.cell 0
   simp only [List.getElem?_toArray, List.getElem?_cons_zero, List.getElem?_cons_succ] at u0
   have hbr5 := (hb5.cell (p := ⟨b, 0, none⟩) (by show b < wr.heap.size; omega)).trans hbr
   have hbl5 := hbl.trans (hb5.mono hsz)
   by_cases hn : (gk l k).num = n
   ·have HV := Lib.hid (HS.out.trans (kix_first hlt hn HK.out))
    have hn' : ((gk l k).num == n) = true := by simp [hn]
    clear HS HK hn
    go_wp2
    go_ret
    exact ⟨ret_int HV.out.symm, hbl5⟩
   ·have HN := Lib.hid (kidTo_next HK.out hn)
    have hn' : ((gk l k).num == n) = false := by simp [hn]
    clear HS HK hn
    go_wp2
    go_roundw
    case rel => exact ⟨k + 1, by omega, by go_num, HN, hbl5⟩
    case measure => simp [intOf]; omega
  ·obtain rfl : k = l.length := by omega
   have HV := Lib.hid (HS.out.trans (kix_none HK.out))
   clear HS HK
   go_wp2
   go_ret
   exact ⟨ret_int HV.out.symm, hbl⟩
section
variable {L : Int} {N : Nat} {w : World} {F : Nat → Prop} {g : Nat} {h : Hd} {s : Of}
theorem OfOk.kl (hs : OfOk s) : s.kids.length ≤ 100 := kids_100 hs
set_option maxHeartbeats 400000 in
theorem child_any (hP : PO L N w F g h s) (n : Int) :
  Calls Tryz.prog 173 #[.pointer (some ⟨g, 0, none⟩), .int .i64 n] w fun e w' => e = .returned (.int .i64 (kix s.kids n)) ∧ Below w.heap.size w w' := by
 obtain ⟨w2, hw2⟩ : ∃ w2, w.alloc (.cells #[.int .i64 n] 3) = w2 := ⟨_, rfl⟩
 have hy : Below w.heap.size w w2 := by rw [← hw2]; exact (Below.refl _ w).alloc (Nat.le_refl _) _
 have b0 : Box w2 w.heap.size #[.int .i64 n] := by rw [← hw2]; exact Box.new w _ _
 have hP2 := hP.below hy
 have q := hP2.cKd
 have hl := hP.ok.kl
 go_enter Tryz.func173, Tryz.ntmps173
 go_wp2_with (go_at_call 245; (with_reducible refine (indexKid_any s.kids h.hk n (by omega) _ _ _ _ hP2.kids (b0.cell 0) b0.lt).mono ?_); rintro e w3 ⟨rfl, hb3⟩)
 go_ret
 exact ⟨rfl, hy.trans (hb3.mono hy.size)⟩
theorem Of.opn_mn (s : Of) (d : Int) : s.opn d = decide (0 ≤ d ∧ d < ((mnL s.tm s.cy).length : Int) ∧ 0 ≤ gi (mnL s.tm s.cy) d.toNat) := by
 unfold Of.opn Of.days Of.menu
 rw [decide_eq_decide, mnL_length]
 constructor
 ·rintro ⟨h1, h2, h3⟩; exact ⟨h1, h2, by rw [mnL_at _ _ _ (by omega)]; exact h3⟩
 ·rintro ⟨h1, h2, h3⟩; refine ⟨h1, h2, ?_⟩; rw [mnL_at _ _ _ (by omega)] at h3; exact h3
set_option maxHeartbeats 400000 in
theorem opn_any (hP : PO L N w F g h s) (d : Int) :
  Calls Tryz.prog 174 #[.pointer (some ⟨g, 0, none⟩), .int .i64 d] w fun e w' => e = .returned (.bool (s.opn d)) ∧ w' = w := by
 rw [Of.opn_mn]
 have q := hP.cMn
 have hm := hP.mn.rn
 obtain ⟨M, hM⟩ : ∃ M, M = mnL s.tm s.cy := ⟨_, rfl⟩
 rw [← hM] at q hm ⊢
 clear hM
 by_cases h0 : 0 ≤ d
 ·obtain ⟨n, rfl⟩ : ∃ n : Nat, d = n := ⟨d.toNat, by omega⟩
  by_cases h1 : n < M.length
  ·obtain ⟨ad, e, hab, c0⟩ := hm.at_ h1
   rw [e] at q
   by_cases h2 : 0 ≤ gi M n
   all_goals
    go_enter Tryz.func174, Tryz.ntmps174
    go_wp2
    go_ret
    exact ⟨ret_bool (by first | (rw [decide_eq_decide]; simp; omega) | (symm; rw [decide_eq_true_eq]; exact ⟨by omega, by omega, by simpa using h2⟩) | (symm; rw [decide_eq_false_iff_not]; simp; omega)), rfl⟩
  ·go_enter Tryz.func174, Tryz.ntmps174
   go_wp2
   go_ret
   exact ⟨ret_bool (by symm; rw [decide_eq_false_iff_not]; omega), rfl⟩
 ·go_enter Tryz.func174, Tryz.ntmps174
  go_wp2
  go_ret
  exact ⟨ret_bool (by first | (symm; rw [decide_eq_false_iff_not]; omega) | (simp; omega)), rfl⟩
end
theorem BkOk.len {b : Bk} (hb : BkOk b) : BkLen b := by
 have h1 := hb.i20; have h2 := hb.r16; have h3 := hb.p0; have h4 := hb.p10
 exact ⟨by omega, by omega, fun k hk => by have := hb.six k hk; omega, fun k hk => by have := isSet_len (hb.has k hk) (by omega); omega, fun k hk => by have := isSet_len (hb.iff k hk) (by omega); omega⟩
section
variable {L : Int} {N : Nat} {w : World} {F : Nat → Prop} {g : Nat} {h : Hd} {s : Of}
theorem OfOk.fl (hs : OfOk s) : s.facts.length ≤ 60 := (Vld.of hs.fv).len
set_option maxHeartbeats 800000 in
theorem eats_any (hP : PO L N w F g h s) (c d : Int) :
  Calls Tryz.prog 187 #[.pointer (some ⟨g, 0, none⟩), .int .i64 c, .int .i64 d] w fun e w' => e = .returned (.bool (eatB s c d)) ∧ Below w.heap.size w w' := by
 have k0 := cell_regrown hP.cFa; have k1 := cell_regrown hP.cNow
 have hl := hP.ok.fl
 have cA : ∀ d' os, Calls Tryz.prog 58 #[.slice h.fa.1 s.facts.length h.fa.2, .int .i64 s.now, .int .i64 c, .int .i64 d] (grow (redrawn w d') os) fun e w'' => e = .returned (.tuple #[.int .i64 (knownR s.facts s.now c d), .int .i64 (askE s.facts c d)]) ∧ ∃ p : Regrown, w'' = grow (redrawn w p.d) p.os := fun d' os =>
  Calls.regrown_of (knownX_any s.facts s.now c d (by omega) _ _ _ hP.fc _ (hP.rf.below (below_regrown w d' os)))
 have hk0 : askE s.facts c d ≠ 0 → knownR s.facts s.now c d = 0 := fun hn => by unfold knownR; rw [if_neg hn]
 unfold eatB
 by_cases hq : askE s.facts c d = 0
 ·have hq' : (askE s.facts c d == 0) = true := by simp [hq]
  rw [hq] at cA
  clear hk0 hq hq'
  go_enter Tryz.func187, Tryz.ntmps187
  go_wp2_with fail
  refine wp_region_quiet_below (by kernel_rfl) (by kernel_rfl) ?_
  repeat (go_big_quiet_step (first | with_reducible exact cA _ _))
  refine wpQuiet_nil ?_
  intro _ hw'
  obtain ⟨⟨dq, osq⟩, hw''⟩ := hw'
  subst hw''
  go_wp2_with fail
  go_ret
  exact ⟨rfl, below_regrown w dq osq⟩
 ·have hq' : (askE s.facts c d == 0) = false := by simp [hq]
  rw [hk0 hq] at cA ⊢
  clear hk0
  go_enter Tryz.func187, Tryz.ntmps187
  go_wp2_with fail
  refine wp_region_quiet_below (by kernel_rfl) (by kernel_rfl) ?_
  repeat (go_big_quiet_step (first | with_reducible exact cA _ _))
  refine wpQuiet_nil ?_
  intro _ hw'
  obtain ⟨⟨dq, osq⟩, hw''⟩ := hw'
  subst hw''
  go_wp2_with fail
  go_ret
  exact ⟨rfl, below_regrown w dq osq⟩
end
set_option maxHeartbeats 800000 in
theorem indexIn_any (l lab : List Int) (hl : l.length ≤ 1000000000) (hlab : lab.length ≤ 1000000000) (A A' : Option Addr) (c c' b : Nat) (w : World) (hR : RN w A l) (hLb : RN w A' lab) (hb : w.cell? ⟨b, 0, none⟩ = some (.slice A' lab.length c')) (hbs : b < w.heap.size) :
  Calls Tryz.prog 242 #[.slice A l.length c, .func (.func 269) #[] #[.pointer (some ⟨b, 0, none⟩)]] w fun e w' => ∃ r : Int, e = .returned (.int .i64 r) ∧ decide (0 ≤ r) = anyTo (fun i => hasB lab (gi l i)) l.length ∧ Below w.heap.size w w' := by
 go_enter Tryz.func242, Tryz.ntmps242
 go_wp2
 go_loopw [8] (fun x wr => ∃ k : Nat, k ≤ l.length ∧ x = .int .i64 k ∧ Hid (anyTo (fun i => hasB lab (gi l i)) k = false) ∧ Below w.heap.size w wr) (fun x _ => l.length - (intOf x).toNat)
 case atStart => exact ⟨0, by omega, rfl, rfl, Below.refl _ _⟩
 case round =>
  obtain ⟨k, hkl, rfl, HK, hbl⟩ := hrel
  have hbr := (hbl.cell (p := ⟨b, 0, none⟩) hbs).trans hb
  have hLr := hLb.below hbl
  have hsz := hbl.size
  by_cases hlt : k < l.length
  ·obtain ⟨ad, rfl, hab, c0⟩ := (hR.below hbl).at_ hlt
   cases hq : hasB lab (gi l k) with
   | true =>
    have HV : Hid (anyTo (fun i => hasB lab (gi l i)) l.length = true) := by show _ = _; exact anyTo_yes (k := k) hq hlt
    clear HK
    go_wp2_with (first | (go_at_call 265; (with_reducible refine (contains_any lab (gi l k) hlab A' c' _ hLr).mono ?_); rintro e w' ⟨rfl, rfl⟩; rw [hq]) | go_in)
    go_ret
    exact ⟨_, rfl, by rw [HV.out]; simp, hbl⟩
   | false =>
    have HN : Hid (anyTo (fun i => hasB lab (gi l i)) (k + 1) = false) := by show _ = _; simp only [anyTo]; rw [HK.out, hq]; rfl
    clear HK
    go_wp2_with (first | (go_at_call 265; (with_reducible refine (contains_any lab (gi l k) hlab A' c' _ hLr).mono ?_); rintro e w' ⟨rfl, rfl⟩; rw [hq]) | go_in)
    go_roundw
    case rel => exact ⟨k + 1, by omega, by go_num, HN, hbl⟩
    case measure => simp [intOf]; omega
  ·obtain rfl : k = l.length := by omega
   go_wp2
   go_ret
   exact ⟨_, rfl, by rw [HK.out]; rfl, hbl⟩
set_option maxHeartbeats 800000 in
theorem containsIn_any (l lab : List Int) (hl : l.length ≤ 1000000000) (hlab : lab.length ≤ 1000000000) (A A' : Option Addr) (c c' b : Nat) (w : World) (hR : RN w A l) (hLb : RN w A' lab) (hb : w.cell? ⟨b, 0, none⟩ = some (.slice A' lab.length c')) (hbs : b < w.heap.size) :
  Calls Tryz.prog 169 #[.slice A l.length c, .func (.func 269) #[] #[.pointer (some ⟨b, 0, none⟩)]] w fun e w' => e = .returned (.bool (anyTo (fun i => hasB lab (gi l i)) l.length)) ∧ Below w.heap.size w w' := by
 go_enter Tryz.func169, Tryz.ntmps169
 go_wp2_with (go_at_call 242; (with_reducible refine (indexIn_any l lab hl hlab A A' c c' b _ hR hLb hb hbs).mono ?_); rintro e w2 ⟨r, rfl, hr, hb2⟩)
 go_ret
 exact ⟨rfl, hb2⟩
section
variable {L : Int} {N : Nat} {w : World} {F : Nat → Prop} {g : Nat} {h : Hd} {s : Of}
set_option maxHeartbeats 1600000 in
theorem harms_any (hP : PO L N w F g h s) (hE : EnvZ w) (num : Int) (av : List Int) (hav : av.length ≤ 1000000000) (A : Option Addr) (c : Nat) (hR : RN w A av) (item : Int) :
  Calls Tryz.prog 211 #[.pointer (some ⟨g, 0, none⟩), .agg #[.int .i64 num, .slice A av.length c], .int .i64 item] w fun e w' => e = .returned (.bool (harmB s.bk item av)) ∧ Below w.heap.size w w' := by
 obtain ⟨w2, hw2⟩ : ∃ w2, w.alloc (.cells #[.int .i64 num, .slice A av.length c] 56) = w2 := ⟨_, rfl⟩
 have hy : Below w.heap.size w w2 := by rw [← hw2]; exact (Below.refl _ w).alloc (Nat.le_refl _) _
 have b0 : Box w2 w.heap.size #[.int .i64 num, .slice A av.length c] := by rw [← hw2]; exact Box.new w _ _
 have hP2 := hP.below hy
 have hE2 := hE.below hy
 have q8 := hP2.cProps; have q9 := hP2.cItems; have q10 := hP2.cRules
 have hL := hP.ok.bk.len
 have hR2 := hR.below hy
 have x1 := b0.cell 1
 simp only [List.getElem?_toArray, List.getElem?_cons_zero, List.getElem?_cons_succ] at x1
 by_cases hq : nmE s.bk item = 0
 ·have hq' : (nmE s.bk item == 0) = true := by simp [hq]
  have hll : (labR s.bk item).length ≤ 20 := by unfold labR; rw [if_pos hq]; exact bitsL_len _
  have HQ := Lib.hid hq; clear hq hq'
  go_enter Tryz.func211, Tryz.ntmps211
  go_wp2_with (first
   | (go_at_call 48; (with_reducible refine (Label_any s.bk hL item _ _ _ _ _ _ _ _ _ hE2 hP2.bk).mono ?_); rintro e w3 ⟨A3, c3, rfl, own3, hb3⟩; rw [HQ.out]; obtain ⟨w4, hw4⟩ : ∃ w4, w3.alloc (.cells #[.slice A3 (labR s.bk item).length c3] 22) = w4 := ⟨_, rfl⟩; have hb4 : Below w3.heap.size w3 w4 := (by rw [← hw4]; exact (Below.refl _ _).alloc (Nat.le_refl _) _); have b4 : Box w4 w3.heap.size #[.slice A3 (labR s.bk item).length c3] := (by rw [← hw4]; exact Box.new _ _ _); have hk4 := hb3.trans (hb4.mono hb3.size); have z1 := (b0.below hk4).cell 1; simp only [List.getElem?_toArray, List.getElem?_cons_zero, List.getElem?_cons_succ] at z1; have hR4 := hR2.below hk4; have hL4 := (RN.of_own own3).below hb4)
   | (go_at_call 169; (with_reducible refine (containsIn_any av (labR s.bk item) hav (by omega) _ _ _ _ _ _ hR4 hL4 (b4.cell 0) b4.lt).mono ?_); rintro e w5 ⟨rfl, hb5⟩))
  go_ret
  exact ⟨rfl, hy.trans ((hk4.trans (hb5.mono hk4.size)).mono hy.size)⟩
 ·have hq' : (nmE s.bk item == 0) = false := by simp [hq]
  have hv : harmB s.bk item av = false := by
   unfold harmB
   rw [anyTo_false]
   intro i _
   have : labR s.bk item = [] := by unfold labR; rw [if_neg hq]
   rw [this]; rfl
  rw [hv]
  clear hv
  go_enter Tryz.func211, Tryz.ntmps211
  go_wp2_with (go_at_call 48; (with_reducible refine (Label_any s.bk hL item _ _ _ _ _ _ _ _ _ hE2 hP2.bk).mono ?_); rintro e w3 ⟨A3, c3, rfl, own3, hb3⟩)
  go_ret
  exact ⟨rfl, hy.trans ((hb3.alloc hb3.size _).mono hy.size)⟩
end
end Go.Proofs.YtiapkffihpgdcaaGreatDoor
