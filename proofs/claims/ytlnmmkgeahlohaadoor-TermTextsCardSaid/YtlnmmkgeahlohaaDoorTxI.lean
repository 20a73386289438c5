/-
  Words for the program's Parse: the split text; three lists of the call's own, one behind a cell, two behind a term's.
-/
import Derived.Test.YtlnmmkgeahlohaaDoorTxH
import Derived.OneCell
namespace Go.Proofs.YtlnmmkgeahlohaaDoor
set_option linter.unusedVariables false
set_option linter.unusedSimpArgs false
open Go.RowKit

/-! ### the text, split -/
theorem sp_zero (l : List UInt8) : Lib.splitK [32] 0 0 l = [l] := rfl
theorem ix_ne {b : UInt8} (h : b ≠ 32) (r : List UInt8) : Lib.index (b :: r) [32] = if Lib.index r [32] == -1 then -1 else Lib.index r [32] + 1 := by
  rw [Lib.index, show ([32] : List UInt8).isPrefixOf (b :: r) = false by simp [List.isPrefixOf, Ne.symm h]]; simp
theorem ix_eq (r : List UInt8) : Lib.index (32 :: r) [32] = 0 := by rw [Lib.index]; simp [List.isPrefixOf]
theorem sp_blank (k : Nat) (r : List UInt8) : Lib.splitK [32] 0 (k + 1) (32 :: r) = [] :: Lib.splitK [32] 0 k r := by
  rw [Lib.splitK, ix_eq]; simp
theorem sp_ne {b : UInt8} (h : b ≠ 32) (r : List UInt8) : ∀ k, Lib.splitK [32] 0 k (b :: r) = match Lib.splitK [32] 0 k r with
    | [] => [[b]]
    | w :: ws => (b :: w) :: ws
  | 0 => rfl
  | k + 1 => by
    rw [Lib.splitK, ix_ne h, Lib.splitK]
    by_cases hm : Lib.index r [32] = -1
    · simp [hm]
    · have hge := Lib.index_ge r [32]
      obtain ⟨j, hj⟩ : ∃ j : Nat, Lib.index r [32] = j := ⟨(Lib.index r [32]).toNat, by omega⟩
      rw [hj]
      have e1 : ((j : Int) == -1) = false := by simp
      have e2 : ((j : Int) + 1 == -1) = false := by simp; omega
      have e3 : ((j : Int) + 1).toNat = j + 1 := by omega
      simp only [e1, e2, e3, Bool.false_eq_true, if_false, Int.toNat_natCast, List.length_cons, List.length_nil, Nat.add_zero]
      rw [show j + 1 + (0 + 1) = (j + (0 + 1)) + 1 by omega]
      rfl
theorem sp_wds : ∀ l : List UInt8, Lib.splitK [32] 0 (Lib.count l [32]) l = wds l
  | [] => by rw [show Lib.count [] [32] = 0 from Lib.count_miss (by simp [Lib.index])]; rfl
  | b :: r => by
    by_cases h : b = 32
    · subst h
      rw [Lib.count_cons_eq, Nat.add_comm, sp_blank, sp_wds r]
      simp [wds]
    · rw [Lib.count_cons_ne b 32 r h, sp_ne h, sp_wds r]
      rw [wds, if_neg h]
      cases wds r <;> rfl
theorem sp_all (s : List UInt8) : (Lib.splitB ⟨[32].toArray⟩ 0 (Lib.countB ⟨s.toArray⟩ ⟨[32].toArray⟩) ⟨s.toArray⟩).map Value.string = strs (wds s) := by
  have h := Lib.splitB_data ⟨[32].toArray⟩ 0 (Lib.countB ⟨s.toArray⟩ ⟨[32].toArray⟩) ⟨s.toArray⟩
  have h2 := sp_wds s
  have h3 : (Lib.splitB ⟨[32].toArray⟩ 0 (Lib.countB ⟨s.toArray⟩ ⟨[32].toArray⟩) ⟨s.toArray⟩).map (·.data.toList) = wds s := by
    rw [h]; exact h2
  unfold strs
  rw [← h3, List.map_map]
  apply List.map_congr_left
  intro x _
  simp [Function.comp]
theorem sp_len (s : List UInt8) : Lib.countB ⟨s.toArray⟩ ⟨[32].toArray⟩ + 1 = (wds s).length := by
  have h := congrArg List.length (sp_all s)
  rw [List.length_map, Lib.splitB_all _ (by decide) 0 _ _ rfl] at h
  simpa [strs] using h
theorem split_any (s : List UInt8) (hs : s.length ≤ 100000) (w : World) (hE : Env w) :
    Calls Tryd.prog 19 #[St s, St [32]] w fun e w' => e = .returned (.slice (some ⟨w.heap.size, 0, none⟩) (wds s).length (wds s).length) ∧ w' = w.alloc (.cells (strs (wds s)).toArray 9) := by
  obtain ⟨m, hm⟩ := hE.ml
  refine (Tryd.strings_Split ⟨s.toArray⟩ ⟨[32].toArray⟩ m w (by rw [st_size]; omega) hm (by decide)).mono ?_
  rintro e w' ⟨rfl, rfl⟩
  rw [sp_len, sp_all]
  exact ⟨rfl, rfl⟩

/-! ### the program's reading, word by word -/
def pk (ws : List Wd) (k : Nat) : Option PS := pL p0 (ws.take k).tail
theorem pk_one (ws : List Wd) : pk ws 1 = some p0 := by
  cases ws <;> rfl
theorem take_ne {ws : List Wd} {k : Nat} (h1 : 1 ≤ k) (hk : k ≤ ws.length) : ws.take k ≠ [] := by
  intro h
  have := congrArg List.length h
  rw [List.length_take, List.length_nil] at this
  omega
theorem pk_step (ws : List Wd) {k : Nat} (h1 : 1 ≤ k) (hk : k < ws.length) {p : PS} (hp : pk ws k = some p) : pk ws (k + 1) = pstep p ws[k] := by
  have e : (ws.take (k + 1)).tail = (ws.take k).tail ++ [ws[k]] := by
    rw [List.take_succ_eq_append_getElem hk, List.tail_append_of_ne_nil]
    exact take_ne h1 (by omega)
  unfold pk at hp ⊢
  rw [e, pL_app, hp]
  simp only [pL]
  cases pstep p ws[k] <;> rfl
theorem pk_bad (ws : List Wd) {k : Nat} (h1 : 1 ≤ k) (hk : k < ws.length) {p : PS} (hp : pk ws k = some p) (hb : pstep p ws[k] = none) : pL p0 ws.tail = none := by
  have e : ws.tail = (ws.take k).tail ++ ws[k] :: ws.drop (k + 1) := by
    have h2 : ws = ws.take k ++ ws[k] :: ws.drop (k + 1) := by rw [← List.drop_eq_getElem_cons hk, List.take_append_drop]
    have h3 := congrArg List.tail h2
    rw [List.tail_append_of_ne_nil (take_ne h1 (by omega))] at h3
    exact h3
  unfold pk at hp
  rw [e, pL_app, hp]
  simp only [pL, hb]
theorem pk_fin (ws : List Wd) : pk ws ws.length = pL p0 ws.tail := by unfold pk; rw [List.take_length]

/-! ### memory -/
theorem BoxOf {w w' : World} {g : Nat} {cs : Array Value} {row : Option Nat} (h : Box w g cs) (hg : w.grownBy w' row) (hne : some g ≠ row) : Box w' g cs :=
  ⟨Nat.lt_of_lt_of_le h.lt hg.size, fun j => (hg.cell_far ⟨g, j, none⟩ h.lt hne).trans (h.cell j), fun j => (hg.frozen_far ⟨g, j, none⟩ h.lt hne).trans (h.free j)⟩
/-- A list of the call's own whose block is none of the boxes'. -/
def OwnB (w : World) (b : Nat) (A : Option Addr) (c : Nat) (l : List Int) : Prop :=
  w.ownsRow 0 3 1 (.slice A l.length c) l.length (ints l) ∧ ∀ k, (Value.slice A l.length c).ownBlock = some k → k = b + 2 ∨ b + 5 ≤ k
structure PC (w : World) (b : Nat) (cs : Array Value) (A1 : Option Addr) (c1 : Nat) (r : List Int) (A2 : Option Addr) (c2 : Nat) (q : List Int) (A3 : Option Addr) (c3 : Nat) (o : List Int) : Prop where
  size : b + 5 ≤ w.heap.size
  res : Box w b zT
  box : Box w (b + 1) #[.int .i64 0, .slice A1 r.length c1, .slice A2 q.length c2]
  one : Box w (b + 3) #[.slice A3 o.length c3]
  wd : Box w (b + 4) cs
  o1 : OwnB w b A1 c1 r
  o2 : OwnB w b A2 c2 q
  o3 : OwnB w b A3 c3 o
  a12 : apart (.slice A1 r.length c1) (.slice A2 q.length c2)
  a13 : apart (.slice A1 r.length c1) (.slice A3 o.length c3)
  a23 : apart (.slice A2 q.length c2) (.slice A3 o.length c3)
section
variable {w w' wX w7 : World} {b : Nat} {cs : Array Value} {A1 A2 A3 A : Option Addr} {c1 c2 c3 c : Nat} {r q o : List Int}
theorem OwnB.below (h : OwnB w b A c r) (hb : Below w.heap.size w w') : OwnB w' b A c r := ⟨own_below h.1 hb fun k hk => (h.1.lt k hk).2, h.2⟩
theorem OwnB.nil (w : World) (b : Nat) : OwnB w b none 0 [] := ⟨World.ownsRow_nil _ _ _ _, fun k hk => by simp [Value.ownBlock] at hk⟩
theorem PC.below (h : PC w b cs A1 c1 r A2 c2 q A3 c3 o) (hb : Below w.heap.size w w') : PC w' b cs A1 c1 r A2 c2 q A3 c3 o :=
  ⟨Nat.le_trans h.size hb.size, h.res.below hb, h.box.below hb, h.one.below hb, h.wd.below hb, h.o1.below hb, h.o2.below hb, h.o3.below hb, h.a12, h.a13, h.a23⟩
/-- What an append of the list at A to the place x has left. -/
structure Grew (wX w7 : World) (A : Option Addr) (c n : Nat) (A' : Option Addr) (c' : Nat) : Prop where
  grown : wX.grownBy w7 (Value.slice A n c).ownBlock
  at_ : ∀ k, (Value.slice A' (n + 1) c').ownBlock = some k → (Value.slice A n c).ownBlock = some k ∨ k = wX.heap.size
theorem Grew.own {n : Nat} {A' : Option Addr} {c' : Nat} {l : List Int} (g : Grew wX w7 A c n A' c') (hX : OwnB wX b A1 c1 l) (ha : apart (.slice A1 l.length c1) (.slice A n c)) : OwnB w7 b A1 c1 l ∧ apart (.slice A1 l.length c1) (.slice A' (n + 1) c') := by
  refine ⟨⟨hX.1.kept g.grown ha.ne, hX.2⟩, fun k k1 k2 => ?_⟩
  rcases g.at_ k k2 with h | h
  · exact ha k k1 h
  · have := (hX.1.lt k k1).2
    omega
theorem OwnB.ne (h : OwnB w b A c r) {k : Nat} (hk : k = b ∨ k = b + 1 ∨ k = b + 3 ∨ k = b + 4) : some k ≠ (Value.slice A r.length c).ownBlock := fun e => by
  have := h.2 k e.symm; omega
theorem OwnB.set (h : OwnB w b A c r) {a : Addr} (hk : a.block = b ∨ a.block = b + 1 ∨ a.block = b + 3 ∨ a.block = b + 4) (v : Value) : OwnB (w.setCell a v) b A c r := ⟨ownsRow_setCell_other h.1 (fun e => by have := h.2 _ e; omega) v, h.2⟩
theorem OwnB.push {A' : Option Addr} {c' : Nat} {x : Int} (h : OwnB wX b A c r) (hs : b + 5 ≤ wX.heap.size) (g : Grew wX w7 A c r.length A' c') (own7 : w7.ownsRow 0 3 1 (.slice A' (r.length + 1) c') (r.length + 1) (ints r ++ [.int .i64 x])) : OwnB w7 b A' c' (r ++ [x]) := by
  have hl : (r ++ [x]).length = r.length + 1 := by simp
  unfold OwnB
  rw [hl, ints_snoc]
  refine ⟨own7, fun k hk => ?_⟩
  rcases g.at_ k hk with h' | h'
  · exact h.2 k h'
  · omega
theorem lenOf (r : List Int) (x : Int) : (r ++ [x]).length = r.length + 1 := by simp
theorem setSize (w : World) (a : Addr) (v : Value) : (w.setCell a v).heap.size = w.heap.size := by simp [World.setCell]
theorem PC.push1 {A' : Option Addr} {c' : Nat} {x : Int} (h : PC wX b cs A1 c1 r A2 c2 q A3 c3 o) (g : Grew wX w7 A1 c1 r.length A' c') (own7 : w7.ownsRow 0 3 1 (.slice A' (r.length + 1) c') (r.length + 1) (ints r ++ [.int .i64 x])) :
    PC (w7.setCell ⟨b + 1, 1, none⟩ (.slice A' (r.length + 1) c')) b cs A' c' (r ++ [x]) A2 c2 q A3 c3 o := by
  obtain ⟨k2, e2⟩ := g.own h.o2 h.a12.symm
  obtain ⟨k3, e3⟩ := g.own h.o3 h.a13.symm
  have k1 := h.o1.push h.size g own7
  have hs : b + 5 ≤ w7.heap.size := Nat.le_trans h.size g.grown.size
  refine ⟨by rw [setSize]; exact hs, BoxFar (BoxOf h.res g.grown (h.o1.ne (.inl rfl))) (by simp) _, ?_, BoxFar (BoxOf h.one g.grown (h.o1.ne (.inr (.inr (.inl rfl))))) (by simp) _, BoxFar (BoxOf h.wd g.grown (h.o1.ne (.inr (.inr (.inr rfl))))) (by simp) _, k1.set (.inr (.inl rfl)) _, k2.set (.inr (.inl rfl)) _, k3.set (.inr (.inl rfl)) _, ?_, ?_, h.a23⟩
  · rw [lenOf]; exact BoxSet (BoxOf h.box g.grown (h.o1.ne (.inr (.inl rfl)))) 1 (by simp) _
  · rw [lenOf]; exact e2.symm
  · rw [lenOf]; exact e3.symm
theorem PC.push2 {A' : Option Addr} {c' : Nat} {x : Int} (h : PC wX b cs A1 c1 r A2 c2 q A3 c3 o) (g : Grew wX w7 A2 c2 q.length A' c') (own7 : w7.ownsRow 0 3 1 (.slice A' (q.length + 1) c') (q.length + 1) (ints q ++ [.int .i64 x])) :
    PC (w7.setCell ⟨b + 1, 2, none⟩ (.slice A' (q.length + 1) c')) b cs A1 c1 r A' c' (q ++ [x]) A3 c3 o := by
  obtain ⟨k1, e1⟩ := g.own h.o1 h.a12
  obtain ⟨k3, e3⟩ := g.own h.o3 h.a23.symm
  have k2 := h.o2.push h.size g own7
  have hs : b + 5 ≤ w7.heap.size := Nat.le_trans h.size g.grown.size
  refine ⟨by rw [setSize]; exact hs, BoxFar (BoxOf h.res g.grown (h.o2.ne (.inl rfl))) (by simp) _, ?_, BoxFar (BoxOf h.one g.grown (h.o2.ne (.inr (.inr (.inl rfl))))) (by simp) _, BoxFar (BoxOf h.wd g.grown (h.o2.ne (.inr (.inr (.inr rfl))))) (by simp) _, k1.set (.inr (.inl rfl)) _, k2.set (.inr (.inl rfl)) _, k3.set (.inr (.inl rfl)) _, ?_, h.a13, ?_⟩
  · rw [lenOf]; exact BoxSet (BoxOf h.box g.grown (h.o2.ne (.inr (.inl rfl)))) 2 (by simp) _
  · rw [lenOf]; exact e1
  · rw [lenOf]; exact e3.symm
theorem PC.push3 {A' : Option Addr} {c' : Nat} {x : Int} (h : PC wX b cs A1 c1 r A2 c2 q A3 c3 o) (g : Grew wX w7 A3 c3 o.length A' c') (own7 : w7.ownsRow 0 3 1 (.slice A' (o.length + 1) c') (o.length + 1) (ints o ++ [.int .i64 x])) :
    PC (w7.setCell ⟨b + 3, 0, none⟩ (.slice A' (o.length + 1) c')) b cs A1 c1 r A2 c2 q A' c' (o ++ [x]) := by
  obtain ⟨k1, e1⟩ := g.own h.o1 h.a13
  obtain ⟨k2, e2⟩ := g.own h.o2 h.a23
  have k3 := h.o3.push h.size g own7
  have hs : b + 5 ≤ w7.heap.size := Nat.le_trans h.size g.grown.size
  refine ⟨by rw [setSize]; exact hs, BoxFar (BoxOf h.res g.grown (h.o3.ne (.inl rfl))) (by simp) _, BoxFar (BoxOf h.box g.grown (h.o3.ne (.inr (.inl rfl)))) (by simp) _, ?_, BoxFar (BoxOf h.wd g.grown (h.o3.ne (.inr (.inr (.inr rfl))))) (by simp) _, k1.set (.inr (.inr (.inl rfl))) _, k2.set (.inr (.inr (.inl rfl))) _, k3.set (.inr (.inr (.inl rfl))) _, h.a12, ?_, ?_⟩
  · rw [lenOf]; exact BoxSet (BoxOf h.one g.grown (h.o3.ne (.inr (.inr (.inl rfl))))) 0 (by simp) _
  · rw [lenOf]; exact e1
  · rw [lenOf]; exact e2
end
end Go.Proofs.YtlnmmkgeahlohaaDoor
