import Derived.Test.YtiapkffihpgdcaaGreatDoorQA11
import Derived.Test.YtiapkffihpgdcaaGreatDoorQA13
import Derived.Test.YtiapkffihpgdcaaGreatDoorQA15
import Derived.Test.YtiapkffihpgdcaaGreatDoorQA16
import Derived.Test.YtiapkffihpgdcaaGreatDoorQA20
import Derived.Test.YtiapkffihpgdcaaGreatDoorQA25
import Derived.Lib.QuietBelow
import Derived.BigRegion
set_option linter.unusedVariables false
set_option linter.unusedSimpArgs false
set_option maxRecDepth 100000
namespace Go.Proofs.YtiapkffihpgdcaaGreatDoor
open Go.RowKit Go.Sort Go.MuLone
theorem own2_set2 {w : World} {base e n c b : Nat} {f g : Nat → Value} (h : w.ownsRow base e 2 (.slice (some ⟨b, 0, none⟩) n c) n (cells2 n f g)) {k : Nat} (hk : k < n) (v : Value) :
  (w.setCell ⟨b, k * 2 + 1, none⟩ v).ownsRow base e 2 (.slice (some ⟨b, 0, none⟩) n c) n (cells2 n f (fun i => if i = k then v else g i)) := by
 have e := (World.ownsRow.stored h (k * 2 + 1) v).1
 rw [cells2_set2 k hk] at e
 exact e
theorem OfOk.avl {s : Of} (hs : OfOk s) {k : Nat} (hk : k < s.kids.length) : (gk s.kids k).avoid.length ≤ 10 := by
 have h1 := hs.bk.p0
 have h2 := hs.bk.p10
 have := isSet_len (hs.ka _ (gk_mem hk)) h1
 omega
/-- The children's copy, with lists of its own up to k. -/
structure EatI (w : World) (B : Nat) (s : Of) (h0 : Nat → SlH) (A : Option Addr) (c k : Nat) (hk : Nat → SlH) (wr : World) : Prop where
 own : wr.ownsRow w.heap.size 56 2 (.slice A s.kids.length c) s.kids.length (cells2 s.kids.length (fun i => .int .i64 (gk s.kids i).num) (fun i => slN (hk i) (gk s.kids i).avoid.length))
 new : ∀ i, i < k → RNF (fun x => B ≤ x) wr (hk i).1 (gk s.kids i).avoid
 old : ∀ i, k ≤ i → hk i = h0 i
 low : ∀ x, (Value.slice A s.kids.length c).ownBlock = some x → x < B
 below : Below w.heap.size w wr
 base : w.heap.size ≤ B
 size : B ≤ wr.heap.size
section
variable {w wr : World} {B : Nat} {s : Of} {h0 hk : Nat → SlH} {A : Option Addr} {c k : Nat}
theorem EatI.keep (h : EatI w B s h0 A c k hk wr) {w' : World} (hb : Below wr.heap.size wr w') : EatI w B s h0 A c k hk w' :=
 ⟨own_below h.own hb fun x hx => (World.ownsRow.lt h.own x hx).2, fun i hi => (h.new i hi).below hb, h.old, h.low, h.below.trans (hb.mono h.below.size), h.base, Nat.le_trans h.size hb.size⟩
theorem EatI.step {b : Nat} (h : EatI w B s h0 (some ⟨b, 0, none⟩) c k hk wr) (hl : k < s.kids.length) {P : SlH} (hP : RNF (fun x => B ≤ x) wr P.1 (gk s.kids k).avoid) :
  EatI w B s h0 (some ⟨b, 0, none⟩) c (k + 1) (fun i => if i = k then P else hk i) (wr.setCell ⟨b, k * 2 + 1, none⟩ (slN P (gk s.kids k).avoid.length)) := by
 have hbB : b < B := h.low b rfl
 have hwb : w.heap.size ≤ b := (World.ownsRow.lt h.own b rfl).1
 have hs : ∀ {l : List Int} {A : Option Addr}, RNF (fun x => B ≤ x) wr A l → RNF (fun x => B ≤ x) (wr.setCell ⟨b, k * 2 + 1, none⟩ (slN P (gk s.kids k).avoid.length)) A l := fun hl => hl.setCell (by show ¬ B ≤ b; omega) _
 refine ⟨?_, fun i hi => ?_, fun i hi => ?_, h.low, h.below.setCell (p := ⟨b, k * 2 + 1, none⟩) hwb _, h.base, by rw [set_size]; exact h.size⟩
 ·have e := own2_set2 h.own hl (slN P (gk s.kids k).avoid.length)
  rw [cells2_congr (f' := fun i => .int .i64 (gk s.kids i).num) (g' := fun i => slN ((fun i => if i = k then P else hk i) i) (gk s.kids i).avoid.length) (fun _ _ => rfl) (fun i _ => by
   by_cases e : i = k
   ·subst e; simp
   ·simp [e])] at e
  exact e
 ·by_cases e : i = k
  ·subst e
   simp only [if_true]
   exact hs hP
  ·simp only [if_neg e]
   exact hs (h.new i (by omega))
 ·have e : i ≠ k := by omega
  simp only [if_neg e]
  exact h.old i (by omega)
end
section
variable {L : Int} {N : Nat} {w : World} {F : Nat → Prop} {g : Nat} {h : Hd} {s : Of}
set_option maxHeartbeats 1600000 in
theorem eaters_any (hP : PO L N w F g h s) :
  Calls Tryz.prog 84 #[.pointer (some ⟨g, 0, none⟩)] w fun e w' => ∃ A c hk, e = .returned (.slice A s.kids.length c) ∧ RKd (fun k => w.heap.size ≤ k) w' A s.kids hk ∧ Below w.heap.size w w' := by
 have q := hP.cKd
 have hkl := hP.ok.kl
 have HC := Lib.hid (clone_child s.kids.length _ (by omega) (cells2_one (fun _ _ => rfl) (fun _ _ => rfl)) h.kd.1 h.kd.2 w (Reads.of_own hP.kd))
 go_enter Tryz.func84, Tryz.ntmps84
 go_wp2_with (go_at_call 168; (with_reducible refine HC.out.mono ?_); rintro e w2 ⟨A', c', rfl, own2, hb2⟩)
 have HI0 : EatI w w2.heap.size s h.hk A' c' 0 h.hk w2 := ⟨own2, fun i hi => absurd hi (Nat.not_lt_zero _), fun _ _ => rfl, fun x hx => (World.ownsRow.lt own2 x hx).2, hb2, hb2.size, Nat.le_refl _⟩
 clear own2
 go_loopw [12] (fun x wr => ∃ (k : Nat) (hk : Nat → SlH), k ≤ s.kids.length ∧ x = .int .i64 k ∧ EatI w w2.heap.size s h.hk A' c' k hk wr) (fun x _ => s.kids.length - (intOf x).toNat)
 case atStart => exact ⟨0, h.hk, by omega, rfl, HI0⟩
 case round =>
  clear HI0
  obtain ⟨k, hk, hkk, rfl, HI⟩ := hrel
  by_cases hlt : k < s.kids.length
  ·obtain ⟨b, rfl, hbb, hbs, d0, d1, f0, f1, _, _⟩ := own2_at HI.own hlt
   have e1 := HI.old k (Nat.le_refl _)
   rw [e1] at d1
   unfold slN at d1
   have r1 : RN wr (h.hk k).1 (gk s.kids k).avoid := ((hP.below HI.below).av k hlt).rn
   have lp := hP.ok.avl hlt
   have HD := Lib.hid (clone_any (gk s.kids k).avoid (by omega) (h.hk k).1 (h.hk k).2 _ r1)
   clear e1 r1
   go_wp2_with (go_at_call 154; (with_reducible refine HD.out.mono ?_); rintro e wA ⟨AA, cA, rfl, ownA, hbA⟩; have hsA : wr.heap.size ≤ wA.heap.size := hbA.size; have z3 := (hbA.frozen (p := ⟨b, k * 2 + 1, none⟩) (by exact hbs)).trans f1; have z5 := (hbA.cell (p := ⟨b, k * 2 + 1, none⟩) (by exact hbs)).trans d1)
   have HS := (HI.keep hbA).step hlt (P := (AA, cA)) ((RNF.of_own' ownA).mono fun x hx => Nat.le_trans HI.size hx)
   go_roundw
   case rel => exact ⟨k + 1, _, by omega, by go_num, HS⟩
   case measure => simp [intOf]; omega
  ·obtain rfl : k = s.kids.length := by omega
   go_wp2_with fail
   go_ret
   exact ⟨A', c', hk, rfl, ⟨ReadsF.of_own HI.own fun x hx => (World.ownsRow.lt HI.own x hx).1, fun i hi => (HI.new i hi).mono fun x hx => Nat.le_trans HI.base hx⟩, HI.below⟩
set_option maxHeartbeats 800000 in
theorem cEaters_any (hP : PO L N w F g h s) {b1 : Nat} (x1 : w.cell? ⟨b1, 0, none⟩ = some (.pointer (some ⟨g, 0, none⟩))) :
  Calls Tryz.prog 83 #[.pointer (some ⟨b1, 0, none⟩)] w fun e w' => ∃ A c hk, e = .returned (.tuple #[.slice A s.kids.length c, .int .i64 0]) ∧ RKd (fun k => w.heap.size ≤ k) w' A s.kids hk ∧ Below w.heap.size w w' := by
 have HC := Lib.hid (eaters_any hP)
 go_enter Tryz.func83, Tryz.ntmps83
 go_wp2_with (go_at_call 84; (with_reducible refine HC.out.mono ?_); rintro e w2 ⟨A', c', hk, rfl, hr, hb2⟩)
 go_ret2
 exact ⟨A', c', hk, rfl, hr, hb2⟩
theorem lbn_no {n : Wd} (hd : dishB s.dishes n = false) : lbnE s n = 5 ∧ lbnR s n = [] := by unfold lbnE lbnR; rw [hd]; exact ⟨rfl, rfl⟩
theorem lbn_yes {n : Wd} (hd : dishB s.dishes n = true) : lbnE s n = nmE s.bk (dshOf s.dishes n).item ∧ lbnR s n = labR s.bk (dshOf s.dishes n).item := by unfold lbnE lbnR; rw [hd]; exact ⟨rfl, rfl⟩
set_option maxHeartbeats 1600000 in
theorem cLabel_any (hP : PO L N w F g h s) (hE : EnvZ w) (n : Wd) {b1 b2 : Nat} (x1 : w.cell? ⟨b1, 0, none⟩ = some (.pointer (some ⟨g, 0, none⟩))) (x2 : w.cell? ⟨b2, 0, none⟩ = some (St n)) (l1 : b1 < w.heap.size) (l2 : b2 < w.heap.size) :
  Calls Tryz.prog 103 #[.pointer (some ⟨b1, 0, none⟩), .pointer (some ⟨b2, 0, none⟩)] w fun e w' => ∃ A c, e = .returned (.tuple #[.slice A (lbnR s n).length c, .int .i64 (lbnE s n)]) ∧ RNF (fun k => w.heap.size ≤ k) w' A (lbnR s n) ∧ Below w.heap.size w w' := by
 have q := hP.cDs
 have hdl := hP.ok.dl'
 have HC := Lib.hid (indexDish_label s.dishes n (by omega) h.ds.1 h.ds.2 b2 w hP.dish x2 l2)
 cases hd : dishB s.dishes n with
 | false =>
  obtain ⟨e1, e2⟩ := lbn_no (s := s) hd
  obtain ⟨j1, j2⟩ := dix_no hd
  rw [e1, e2]
  obtain ⟨X, hX⟩ : ∃ X, X = dix s.dishes n := ⟨_, rfl⟩
  rw [← hX] at HC j1 j2
  clear e1 e2 hd hX
  go_enter Tryz.func103, Tryz.ntmps103
  go_wp2_with (go_at_call 104; (with_reducible refine HC.out.mono ?_); rintro e w2 ⟨rfl, hb2⟩)
  go_ret2
  exact ⟨none, 0, rfl, RNF.nil _ _ _, hb2⟩
 | true =>
  obtain ⟨e1, e2⟩ := lbn_yes (s := s) hd
  obtain ⟨k, hk, hix, _, hgd⟩ := dix_some hd
  rw [e1, e2, ← hgd]
  rw [hix] at HC
  have hk0 : decide ((k : Int) < 0) = false := by rw [decide_eq_false_iff_not]; omega
  have hL := hP.ok.bk.len
  clear e1 e2 hd hix hgd
  go_enter Tryz.func103, Tryz.ntmps103
  go_wp2_with (go_at_call 104; (with_reducible refine HC.out.mono ?_); rintro e w2 ⟨rfl, hb2⟩; have hP2 := hP.below hb2; have hP3 := hP2.below (Below.refl _ w2).drew; have hE3 := (hE.below hb2).below (Below.refl _ w2).drew; have y1 := (hb2.cell (p := ⟨b1, 0, none⟩) l1).trans x1; have q8 := hP2.cProps; have q9 := hP2.cItems; have q10 := hP2.cRules; have q13 := hP2.cDs; obtain ⟨ad, hA, hab, t0, t1⟩ := hP2.dish.at_ hk; rw [hA] at q13)
  go_region_with (go_at_call 48; (with_reducible refine (Label_any s.bk hL (gd s.dishes k).item _ _ _ _ _ _ _ _ _ hE3 hP3.bk).mono ?_); rintro e w3 ⟨A', c', rfl, own3, hb3⟩)
  all_goals
   go_wp2_with fail
   go_ret2
   exact ⟨A', c', rfl, (RNF.of_own' own3).mono fun x hx => Nat.le_trans hb2.size hx, hb2.trans (((Below.refl w2.heap.size w2).drew.trans hb3).mono hb2.size)⟩
end
/-- Children that a locked question hands back. -/
theorem RetL.kids {g : Nat} {w : World} {l : List Kd} {Z : Value} {e : Ending} {w' : World}
  (h : RetL 0 Z g w (fun v x => ∃ A c hk, v = .slice A l.length c ∧ RKd (fun k => w.heap.size ≤ k) x A l hk) e w') (hg : g < w.heap.size) :
  ∃ A c hk, e = .returned (.tuple #[.slice A l.length c, .int .i64 0]) ∧ RKd (fun k => w.heap.size ≤ k) w' A l hk ∧ Below w.heap.size w w' := by
 obtain ⟨v, w2, he, ⟨A, c, hk, rfl, hr⟩, hw, _, hb⟩ := h
 rw [if_pos rfl] at he
 subst hw
 have hK : Keeps (fun k => w.heap.size ≤ k) w2 (w2.setCell ⟨g, 0, none⟩ (.int .i32 0)) := ⟨by rw [set_size]; exact Nat.le_refl _, fun k hk _ => set_other _ _ _ _ (by omega)⟩
 exact ⟨A, c, hk, he, ⟨hr.row.kept hK, fun i hi => (hr.avoid i hi).kept hK⟩, hb⟩
/-- Numbers that a locked question hands back; none if it refuses. -/
theorem RetL.nums {E : Int} {g : Nat} {w : World} {l : List Int} {e : Ending} {w' : World}
  (h : RetL E (.slice none 0 0) g w (fun v x => ∃ A c, v = .slice A l.length c ∧ RNF (fun k => w.heap.size ≤ k) x A l) e w') (hg : g < w.heap.size) (hE : E ≠ 0 → l = []) :
  ∃ A c, e = .returned (.tuple #[.slice A l.length c, .int .i64 E]) ∧ RNF (fun k => w.heap.size ≤ k) w' A l ∧ Below w.heap.size w w' := by
 obtain ⟨v, w2, he, ⟨A, c, rfl, hr⟩, hw, _, hb⟩ := h
 subst hw
 by_cases h0 : E = 0
 ·rw [if_pos h0] at he
  exact ⟨A, c, he, hr.kept ⟨by rw [set_size]; exact Nat.le_refl _, fun k hk _ => set_other _ _ _ _ (by omega)⟩, hb⟩
 ·rw [if_neg h0] at he
  rw [hE h0]
  exact ⟨none, 0, he, RNF.nil _ _ _, hb⟩
section
variable {N : Nat} {w : World} {F : Nat → Prop} {g : Nat} {h : Hd} {s : Of}
set_option maxHeartbeats 800000 in
theorem oEaters_any (hP : PO 0 N w F g h s) :
  Calls Tryz.prog 26 #[.pointer (some ⟨g, 0, none⟩)] w fun e w' => ∃ A c hk, e = .returned (.slice A s.kids.length c) ∧ RKd (fun k => w.heap.size ≤ k) w' A s.kids hk ∧ Below w.heap.size w w' := by
 obtain ⟨w2, hw2⟩ : ∃ w2, w.alloc (.cells #[.pointer (some ⟨g, 0, none⟩)] 35) = w2 := ⟨_, rfl⟩
 have hb2 : Below w.heap.size w w2 := by rw [← hw2]; exact (Below.refl _ w).alloc (Nat.le_refl _) _
 have b1 : Box w2 w.heap.size #[.pointer (some ⟨g, 0, none⟩)] := by rw [← hw2]; exact Box.new w _ _
 have x1 := b1.cell 0
 simp only [List.getElem?_toArray, List.getElem?_cons_zero, List.getElem?_cons_succ] at x1
 have hP2 := hP.below hb2
 have hgl := hP.gl
 have hg2 := hP2.gl
 have hl1 := b1.lt
 have hK : ∀ args w, (callFunc 83 args).run Tryz.prog w = .ok (.enter 83 args) w := enters_of Tryz.func83 (by kernel_rfl) rfl
 have hcl := lockedKd_any hP2 (K := 83) (caps := #[.pointer (some ⟨w.heap.size, 0, none⟩)]) (E := 0) (Q := fun v x => ∃ A c hk, v = .slice A s.kids.length c ∧ RKd (fun k => w2.heap.size ≤ k) x A s.kids hk) hK
  ((cEaters_any (hP2.lock rfl) ((b1.setg (by omega)).cell 0)).mono fun e w' ⟨A, c, hk, he, hr, hb⟩ => ⟨_, he, ⟨A, c, hk, rfl, by rw [set_size] at hr; exact hr⟩, by rw [set_size] at hb; exact hb⟩)
 have HC := Lib.hid (hcl.mono fun e w' hh => hh.kids hg2)
 clear hcl hK
 go_enter Tryz.func26, Tryz.ntmps26
 go_wp2_with (go_at_call 82; (with_reducible refine HC.out.mono ?_); rintro e w3 ⟨A, c, hk, rfl, hr, hb3⟩)
 go_ret
 exact ⟨A, c, hk, rfl, hr.mono fun k hk => Nat.le_trans hb2.size hk, hb2.trans (hb3.mono hb2.size)⟩
set_option maxHeartbeats 800000 in
theorem oLabel_any (hP : PO 0 N w F g h s) (hE : EnvZ w) (n : Wd) :
  Calls Tryz.prog 41 #[.pointer (some ⟨g, 0, none⟩), St n] w fun e w' => ∃ A c, e = .returned (.tuple #[.slice A (lbnR s n).length c, .int .i64 (lbnE s n)]) ∧ RNF (fun k => w.heap.size ≤ k) w' A (lbnR s n) ∧ Below w.heap.size w w' := by
 obtain ⟨w2, hw2⟩ : ∃ w2, (w.alloc (.cells #[.pointer (some ⟨g, 0, none⟩)] 35)).alloc (.cells #[St n] 9) = w2 := ⟨_, rfl⟩
 have hb2 : Below w.heap.size w w2 := by rw [← hw2]; exact ((Below.refl _ w).alloc (Nat.le_refl _) _).alloc (by simp) _
 have b1 : Box w2 w.heap.size #[.pointer (some ⟨g, 0, none⟩)] := by rw [← hw2]; exact (Box.new w _ _).alloc _
 have b2 : Box w2 (w.heap.size + 1) #[St n] := by rw [← hw2]; exact (Box.new (w.alloc _) _ _).at' (by simp)
 have hl2 := b2.lt
 have x1 := b1.cell 0
 simp only [List.getElem?_toArray, List.getElem?_cons_zero, List.getElem?_cons_succ] at x1
 have hP2 := hP.below hb2
 have hgl := hP.gl
 have hg2 := hP2.gl
 have hl1 := b1.lt
 have hK : ∀ args w, (callFunc 103 args).run Tryz.prog w = .ok (.enter 103 args) w := enters_of Tryz.func103 (by kernel_rfl) rfl
 have hR : lbnE s n ≠ 0 → lbnR s n = [] := fun hn => by
  cases hd : dishB s.dishes n with
  | false => exact (lbn_no hd).2
  | true =>
   obtain ⟨e1, e2⟩ := lbn_yes (s := s) hd
   rw [e1] at hn
   rw [e2]
   unfold labR
   rw [if_neg hn]
 have hcl := lockedIs_any hP2 (K := 103) (caps := #[.pointer (some ⟨w.heap.size, 0, none⟩), .pointer (some ⟨w.heap.size + 1, 0, none⟩)]) (E := lbnE s n) (Q := fun v x => ∃ A c, v = .slice A (lbnR s n).length c ∧ RNF (fun k => w2.heap.size ≤ k) x A (lbnR s n)) hK
  ((cLabel_any (hP2.lock rfl) ((hE.below hb2).lock (hP2.lo _ hP2.gF).1 rfl) n ((b1.setg (by omega)).cell 0) ((b2.setg (by omega)).cell 0) (by rw [set_size]; exact hl1) (by rw [set_size]; exact hl2)).mono fun e w' ⟨A, c, he, hr, hb⟩ => ⟨_, he, ⟨A, c, rfl, by rw [set_size] at hr; exact hr⟩, by rw [set_size] at hb; exact hb⟩)
 have HC := Lib.hid (hcl.mono fun e w' hh => hh.nums hg2 hR)
 clear hcl hK
 go_enter Tryz.func41, Tryz.ntmps41
 go_wp2_with (go_at_call 102; (with_reducible refine HC.out.mono ?_); rintro e w3 ⟨A, c, rfl, hr, hb3⟩)
 go_ret2
 exact ⟨A, c, rfl, hr.mono fun k hk => Nat.le_trans hb2.size hk, hb2.trans (hb3.mono hb2.size)⟩
end
end Go.Proofs.YtiapkffihpgdcaaGreatDoor
namespace Go.Proofs.YtiapkffihpgdcaaGreatDoor
open Go.RowKit Go.Sort
/-- The rules that were copied so far: the row, and each rule's own list. -/
structure CpR (w : World) (b : Bk) (A : Option Addr) (c : Nat) (hr : Nat → SlH) (k : Nat) (wr : World) : Prop where
 own : wr.ownsRow w.heap.size 166 2 (.slice A k c) k (cells2 k (fun i => slV (hr i) (gRl b.rules i).iff) (fun i => .int .i64 (gRl b.rules i).thn))
 lst : ∀ i, i < k → OwnN wr w.heap.size (hr i).1 (hr i).2 (gRl b.rules i).iff
 below : Below w.heap.size w wr
section
variable {w wr w' : World} {b : Bk} {A : Option Addr} {c k : Nat} {hr : Nat → SlH}
theorem CpR.keep (h : CpR w b A c hr k wr) (hb : Below wr.heap.size wr w') : CpR w b A c hr k w' :=
 ⟨own_below h.own hb fun x hx => (World.ownsRow.lt h.own x hx).2, fun i hi => own_below (h.lst i hi) hb fun x hx => (World.ownsRow.lt (h.lst i hi) x hx).2, h.below.trans (hb.mono h.below.size)⟩
theorem CpR.app (h : CpR w b A c hr k wr) (P : SlH) {A' : Option Addr} {c' : Nat}
  (own' : w'.ownsRow w.heap.size 166 2 (.slice A' (k + 1) c') (k + 1) (cells2 k (fun i => slV (hr i) (gRl b.rules i).iff) (fun i => .int .i64 (gRl b.rules i).thn) ++ [slV P (gRl b.rules k).iff, .int .i64 (gRl b.rules k).thn]))
  (hb : Below w.heap.size wr w')
  (hk : ∀ (b2 e2 s2 n2 : Nat) (v2 : Value) (xs2 : List Value), wr.ownsRow b2 e2 s2 v2 n2 xs2 → e2 ≠ 166 → w'.ownsRow b2 e2 s2 v2 n2 xs2)
  (hx : OwnN wr w.heap.size P.1 P.2 (gRl b.rules k).iff) : CpR w b A' c' (fun i => if i = k then P else hr i) (k + 1) w' := by
 refine ⟨?_, fun i hi => ?_, h.below.trans hb⟩
 ·rw [cells2_succ]
  have e : cells2 k (fun i => slV (if i = k then P else hr i) (gRl b.rules i).iff) (fun i => .int .i64 (gRl b.rules i).thn) = cells2 k (fun i => slV (hr i) (gRl b.rules i).iff) (fun i => .int .i64 (gRl b.rules i).thn) :=
   cells2_congr (fun i hi => by rw [if_neg (by omega)]) (fun _ _ => rfl)
  rw [e, if_pos rfl]
  exact own'
 ·by_cases e : i = k
  ·subst e
   rw [if_pos rfl]
   exact hk _ _ _ _ _ _ hx (by decide)
  ·rw [if_neg e]
   exact hk _ _ _ _ _ _ (h.lst i (by omega)) (by decide)
end
set_option maxHeartbeats 3200000 in
theorem rcopyRules_any (b : Bk) (hrl : b.rules.length ≤ 1000) (hS : ∀ k, k < b.rules.length → (gRl b.rules k).iff.length ≤ 1000000) (F : Nat → Prop) (A2 : Option Addr) (c2 : Nat) (hr : Nat → SlH) (w : World) (hR : RRl F w A2 b.rules hr) :
  Calls Tryz.prog 198 #[.slice A2 b.rules.length c2] w fun e w' => ∃ A' c' hr', e = .returned (.slice A' b.rules.length c') ∧ CpR w b A' c' hr' b.rules.length w' := by
 have HI0 : CpR w b none 0 hr 0 w := ⟨World.ownsRow_nil _ _ _ _, fun i hi => by omega, Below.refl _ _⟩
 go_enter Tryz.func198, Tryz.ntmps198
 go_wp2_with fail
 go_loopw [3, 4] (fun o x wr => ∃ (k : Nat) (A : Option Addr) (c : Nat) (hr' : Nat → SlH), k ≤ b.rules.length ∧ x = .int .i64 k ∧ o = .slice A k c ∧ CpR w b A c hr' k wr) (fun _ x _ => b.rules.length - (intOf x).toNat)
 case atStart => exact ⟨0, none, 0, hr, by omega, rfl, rfl, HI0⟩
 case round =>
  clear HI0
  obtain ⟨k, A, c, hr', hk, rfl, rfl, HI⟩ := hrel
  by_cases hlt : k < b.rules.length
  ·obtain ⟨ad, rfl, hab, _, d0, d1⟩ := hR.row.at_ hlt
   unfold slV at d0
   have hrk := hR.below HI.below
   have hci := copyInts_any (gRl b.rules k).iff (hr k).1 (hr k).2 wr.drew (show RN wr.drew (hr k).1 (gRl b.rules k).iff from (hrk.iff k hlt).rn) (hS k hlt)
   have HCI := Lib.hid hci
   have hsz := HI.below.size
   obtain ⟨LL, hLL⟩ : ∃ LL, LL = (gRl b.rules k).iff := ⟨_, rfl⟩
   have HLL := Lib.hid hLL
   rw [← hLL] at d0 HCI
   obtain ⟨TH, hTH⟩ : ∃ TH, TH = (gRl b.rules k).thn := ⟨_, rfl⟩
   have HTH := Lib.hid hTH
   rw [← hTH] at d1
   clear hrk hci hLL hTH
   have D0 := Lib.hid d0; have D1 := Lib.hid d1
   replace d0 := (HI.below.cell (by exact hab)).trans d0
   replace d1 := (HI.below.cell (by exact hab)).trans d1
   go_wp2_with fail
   go_region_held3 (fun w' => w'.cell? (ad.add (k * 2)) = some (.slice (hr k).1 LL.length (hr k).2) ∧ w'.cell? ⟨(ad.add (k * 2)).block, (ad.add (k * 2)).off + 1, none⟩ = some (.int .i64 TH))
    (first | go_keep | exact ⟨k0, k1⟩ | exact ⟨m0, m1⟩)
    (first
     | (go_at_call 197; (with_reducible refine HCI.out.mono ?_); rintro e wA ⟨AA, cA, rfl, ownA, hbA⟩; have hBA : Below wr.heap.size wr wA := (Below.refl wr.heap.size wr).drew.trans hbA; have HI4 := HI.keep hBA; have ownA0 : OwnN wA w.heap.size AA cA LL := (own_base ownA HI.below.size); have own4 := HI4.own; have hs4 := HI4.below.size; have k0 := (HI4.below.cell (by exact hab)).trans D0.out; have k1 := (HI4.below.cell (by exact hab)).trans D1.out)
     | (refine step_app2 (by rfl) _ _ (by rfl) Tryz.underlying28 info_rule' rfl (by omega) (by rfl) (World.ownsRow.alloc own4 _) (news := [.slice AA LL.length cA, .int .i64 TH]) ⟨wA.heap.size, 0, none⟩ (by rfl) (by rfl) (World.news_of_block (cs := #[.slice AA LL.length cA, .int .i64 TH]) (t := 166) (fr := (0, 0)) (heap_alloc_new wA _)) (by simp [Value.oneCell']) (by omega) (by omega) (by have := hs4; simp; omega) ?_; intro A7 c7 w7 own7 hb7 hk7; have hbz := HI4.below.trans ((((Below.refl wA.heap.size wA).alloc (Nat.le_refl _) (.cells #[.slice AA LL.length cA, .int .i64 TH] 166)).mono hs4).trans (hb7 w.heap.size (Nat.le_refl _))); have m0 := (hbz.cell (by exact hab)).trans D0.out; have m1 := (hbz.cell (by exact hab)).trans D1.out))
   all_goals
    rw [HLL.out] at ownA0 own7
    rw [HTH.out] at own7
    have HI7 := HI4.app (AA, cA) own7 ((((Below.refl wA.heap.size wA).alloc (Nat.le_refl _) _).mono hs4).trans (hb7 w.heap.size (Nat.le_refl _))) (fun b2 e2 s2 n2 v2 xs2 ho he => hk7 _ _ _ _ _ _ (World.ownsRow.alloc ho _) he) ownA0
    go_wp2_with fail
    go_roundw
    case rel => exact ⟨k + 1, A7, c7, _, by omega, by go_num, rfl, HI7⟩
    case measure => simp [intOf]; omega
  ·obtain rfl : k = b.rules.length := by omega
   go_wp2_with fail
   go_ret
   exact ⟨A, c, hr', rfl, HI⟩
end Go.Proofs.YtiapkffihpgdcaaGreatDoor
namespace Go.Proofs.YtiapkffihpgdcaaGreatDoor
open Go.RowKit
theorem keepsB_below {w w' : World} {B : Nat} (h : Below B w w') : Keeps (fun b => b < B) w w' := ⟨h.size, fun k hk _ => h.block k hk⟩
theorem Keeps.on {F : Nat → Prop} {a b c : World} (h1 : Keeps F a b) (h2 : Keeps F b c) : Keeps F a c := ⟨Nat.le_trans h1.size h2.size, fun k hk hs => (h2.block k hk (Nat.lt_of_lt_of_le hs h1.size)).trans (h1.block k hk hs)⟩
end Go.Proofs.YtiapkffihpgdcaaGreatDoor
