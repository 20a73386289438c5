/-
  Words for memory: two lists of the call's own behind a term's cell; an append in a region, and what it leaves alone.
-/
import Derived.Test.YtlnmmkgeahlohaaDoorTxD
import Derived.Test.YtlnmmkgeahlohaaDoorAa
import Derived.Deep.RegionLaw
import Derived.Deep.AppendLies
namespace Go.Proofs.YtlnmmkgeahlohaaDoor
set_option linter.unusedVariables false
set_option linter.unusedSimpArgs false
open Go.RowKit

def apart (v v' : Value) : Prop := ∀ k, v.ownBlock = some k → v'.ownBlock = some k → False
theorem apart.symm {v v' : Value} (h : apart v v') : apart v' v := fun k a b => h k b a
theorem apart.ne {v v' : Value} (h : apart v v') : v.ownBlock = none ∨ v.ownBlock ≠ v'.ownBlock := by
  cases e : v.ownBlock with
  | none => exact .inl rfl
  | some k => exact .inr fun e' => h k e e'.symm
theorem apart_nil (v : Value) (c : Nat) : apart (.slice none 0 c) v := fun k a _ => by simp [Value.ownBlock] at a
section
variable {P : Program} {W : World} {ops : Array Oper} {o : Oper} {a : Act} {K : Act → World → Prop} {Q : Exit → Act → World → Prop} {E : Prop} {rest : List Oper}
  {t e : TypeId} {z : Value} {size bytes base n c : Nat} {A : Option Addr} {xs news : List Value}
/-- What an append of one element says of the call's other slices. -/
def Kept (W : World) (w' : World) (v v' : Value) : Prop := ∀ (b2 e2 s2 n2 : Nat) (v2 : Value) (xs2 : List Value), W.ownsRow b2 e2 s2 v2 n2 xs2 → apart v2 v → w'.ownsRow b2 e2 s2 v2 n2 xs2 ∧ apart v2 v'
theorem step_app4 (hgd : o.guard = none) (s x : Operand)
    (ho : o.op = .call { callee := .builtin .append, args := #[s, x], argTypes := #[t, t] }) (ht : P.underlying t = some (.slice e))
    (hinfo : (P.info? e).map (fun i => (i.zero, i.size, i.bytes)) = some (some z, size, bytes)) (hzs : z.cells.size = size) (hsz : 0 < size)
    (hs : a.eval s = .slice A n c) (hown : W.ownsRow base e size (.slice A n c) n xs)
    (ad : Addr) (hx : a.eval x = .slice (some ad) 1 1) (hl : news.length = size) (hnews : ∀ j u, news[j]? = some u → W.cell? (ad.add j) = some u) (h1 : ∀ u ∈ news, u.oneCell' = true)
    (hn : n + 1 ≤ 1000000000) (hbytes : bytes ≤ 1000) (hbase : base ≤ W.heap.size)
    (h : ∀ A' c' w', w'.ownsRow base e size (.slice A' (n + 1) c') (n + 1) (xs ++ news) → (∀ B, B ≤ base → Below B W w') → Kept W w' (.slice A n c) (.slice A' (n + 1) c') → K (a.put o.dst (.slice A' (n + 1) c')) w') :
    if Region.wanted o (yielded ops a.tmps) = true then Oper.wp P o a W K Q else E := by
  obtain ⟨i, hi, hz0, hz1, hz2⟩ := info_parts hinfo
  have hb : (n + 1) * bytes ≤ 140737488355328 := by
    have : (n + 1) * bytes ≤ 1000000000 * 1000 := Nat.mul_le_mul hn hbytes
    omega
  refine step_append_lies W hgd s x t ho base e i z size bytes ht hi hz0 hz1 hz2 hzs hsz _ n xs hs hown ad 1 1 news hx (by omega) hnews h1 (by omega) (by unfold maxLen; omega) hb hbase _ rfl ?_
  intro g cap w' hown' hg hat hlt
  refine h _ _ w' hown' (fun B hB => ?_) (fun b2 e2 s2 n2 v2 xs2 h2 hne => ⟨h2.kept hg hne.ne, ?_⟩)
  · exact (Below.refl B W).grown hg (by omega) (fun k hk => by have := hown.lt k hk; omega)
  · intro k k1 k2
    simp only [Value.ownBlock, Option.some.injEq] at k2
    subst k2
    rcases hat with hat | hat
    · exact hne _ k1 hat
    · have := (h2.lt _ k1).2
      omega
theorem wpList_app4 (hgd : o.guard = none) (s x : Operand)
    (ho : o.op = .call { callee := .builtin .append, args := #[s, x], argTypes := #[t, t] }) (ht : P.underlying t = some (.slice e))
    (hinfo : (P.info? e).map (fun i => (i.zero, i.size, i.bytes)) = some (some z, size, bytes)) (hzs : z.cells.size = size) (hsz : 0 < size)
    (hs : a.eval s = .slice A n c) (hown : W.ownsRow base e size (.slice A n c) n xs)
    (ad : Addr) (hx : a.eval x = .slice (some ad) 1 1) (hl : news.length = size) (hnews : ∀ j u, news[j]? = some u → W.cell? (ad.add j) = some u) (h1 : ∀ u ∈ news, u.oneCell' = true)
    (hn : n + 1 ≤ 1000000000) (hbytes : bytes ≤ 1000) (hbase : base ≤ W.heap.size)
    (h : ∀ A' c' w', w'.ownsRow base e size (.slice A' (n + 1) c') (n + 1) (xs ++ news) → (∀ B, B ≤ base → Below B W w') → Kept W w' (.slice A n c) (.slice A' (n + 1) c') → wpList P ops Q rest (a.put o.dst (.slice A' (n + 1) c')) w') :
    wpList P ops Q (o :: rest) a W := by
  obtain ⟨i, hi, hz0, hz1, hz2⟩ := info_parts hinfo
  have hb : (n + 1) * bytes ≤ 140737488355328 := by
    have : (n + 1) * bytes ≤ 1000000000 * 1000 := Nat.mul_le_mul hn hbytes
    omega
  refine wpList_append_lies W hgd s x t ho base e i z size bytes ht hi hz0 hz1 hz2 hzs hsz _ n xs hs hown ad 1 1 news hx (by omega) hnews h1 (by omega) (by unfold maxLen; omega) hb hbase _ rfl ?_
  intro g cap w' hown' hg hat hlt
  refine h _ _ w' hown' (fun B hB => ?_) (fun b2 e2 s2 n2 v2 xs2 h2 hne => ⟨h2.kept hg hne.ne, ?_⟩)
  · exact (Below.refl B W).grown hg (by omega) (fun k hk => by have := hown.lt k hk; omega)
  · intro k k1 k2
    simp only [Value.ownBlock, Option.some.injEq] at k2
    subst k2
    rcases hat with hat | hat
    · exact hne _ k1 hat
    · have := (h2.lt _ k1).2
      omega
end
theorem BoxUp {w w' : World} {g B : Nat} {cs : Array Value} (h : Box w g cs) (hb : Below B w w') (hB : g < B) : Box w' g cs :=
  ⟨Nat.lt_of_lt_of_le h.lt hb.size, fun j => (hb.cell (p := ⟨g, j, none⟩) hB).trans (h.cell j), fun j => (hb.frozen (p := ⟨g, j, none⟩) hB).trans (h.free j)⟩
theorem BoxSet {w : World} {g : Nat} {cs : Array Value} (h : Box w g cs) (i : Nat) (hi : i < cs.size) (v : Value) : Box (w.setCell ⟨g, i, none⟩ v) g (cs.setIfInBounds i v) := by
  refine ⟨by have := h.lt; simpa [World.setCell] using this, fun j => ?_, fun j => by rw [World.frozen?_setCell]; exact h.free j⟩
  by_cases e : j = i
  · subst e
    rw [World.cell?_setCell_same' _ _ _ (by rw [h.cell j]; simp [hi])]
    simp [hi]
  · rw [World.cell?_setCell_other _ _ _ _ (by simp <;> omega), h.cell j, Array.getElem?_setIfInBounds_ne (by omega)]
theorem BoxFar {w : World} {g : Nat} {cs : Array Value} {p : Addr} (h : Box w g cs) (hp : g ≠ p.block) (v : Value) : Box (w.setCell p v) g cs := by
  refine ⟨by have := h.lt; simpa [World.setCell] using this, fun j => ?_, fun j => by rw [World.frozen?_setCell]; exact h.free j⟩
  rw [World.cell?_setCell_other _ _ _ _ (fun e => hp (by rw [e]))]
  exact h.cell j
theorem BoxThree {w : World} {g : Nat} {a b c : Value} (h : Box w g #[a, b, c]) (x y z : Value) :
    (((w.setCell ⟨g, 0, none⟩ x).setCell ⟨g, 1, none⟩ y).setCell ⟨g, 2, none⟩ z).cell? ⟨g, 0, none⟩ = some x ∧ (((w.setCell ⟨g, 0, none⟩ x).setCell ⟨g, 1, none⟩ y).setCell ⟨g, 2, none⟩ z).cell? ⟨g, 1, none⟩ = some y ∧ (((w.setCell ⟨g, 0, none⟩ x).setCell ⟨g, 1, none⟩ y).setCell ⟨g, 2, none⟩ z).cell? ⟨g, 2, none⟩ = some z := by
  have := ((BoxSet (BoxSet (BoxSet h 0 (by simp) x) 1 (by simp) y) 2 (by simp) z).cell)
  exact ⟨this 0, this 1, this 2⟩

/-- A term's cell at the block b, and behind the place B the two lists of the call's own that it points to. -/
structure PB (wr : World) (B b : Nat) (n : Int) (A1 : Option Addr) (c1 : Nat) (r : List Int) (A2 : Option Addr) (c2 : Nat) (q : List Int) : Prop where
  lt : b < B
  box : Box wr b #[.int .i64 n, .slice A1 r.length c1, .slice A2 q.length c2]
  o1 : wr.ownsRow B 3 1 (.slice A1 r.length c1) r.length (ints r)
  o2 : wr.ownsRow B 3 1 (.slice A2 q.length c2) q.length (ints q)
  ap : apart (.slice A1 r.length c1) (.slice A2 q.length c2)
section
variable {wr wX w7 : World} {B b : Nat} {n : Int} {A1 A2 A3 : Option Addr} {c1 c2 c3 : Nat} {r q : List Int}
theorem ints_snoc (r : List Int) (x : Int) : ints (r ++ [x]) = ints r ++ [.int .i64 x] := by simp [ints]
theorem PB.below (h : PB wr B b n A1 c1 r A2 c2 q) (hb : Below wr.heap.size wr wX) : PB wX B b n A1 c1 r A2 c2 q :=
  ⟨h.lt, h.box.below hb, own_below h.o1 hb fun k hk => (h.o1.lt k hk).2, own_below h.o2 hb fun k hk => (h.o2.lt k hk).2, h.ap⟩
theorem PB.setN (h : PB wr B b n A1 c1 r A2 c2 q) (m : Int) : PB (wr.setCell ⟨b, 0, none⟩ (.int .i64 m)) B b m A1 c1 r A2 c2 q :=
  ⟨h.lt, BoxSet h.box 0 (by simp) _, ownsRow_setCell_below h.o1 h.lt _, ownsRow_setCell_below h.o2 h.lt _, h.ap⟩
theorem PB.push1 (h : PB wr B b n A1 c1 r A2 c2 q) (x : Int) (hX : Below wr.heap.size wr wX) (own7 : w7.ownsRow B 3 1 (.slice A3 (r.length + 1) c3) (r.length + 1) (ints r ++ [.int .i64 x])) (hb7 : Below B wX w7)
    (hk : Kept wX w7 (.slice A1 r.length c1) (.slice A3 (r.length + 1) c3)) : PB (w7.setCell ⟨b, 1, none⟩ (.slice A3 (r.length + 1) c3)) B b n A3 c3 (r ++ [x]) A2 c2 q := by
  have g := h.below hX
  obtain ⟨k1, k2⟩ := hk _ _ _ _ _ _ g.o2 h.ap.symm
  have hl : (r ++ [x]).length = r.length + 1 := by simp
  refine ⟨h.lt, ?_, ?_, ownsRow_setCell_below k1 h.lt _, ?_⟩
  · rw [hl]; exact BoxSet (BoxUp g.box hb7 h.lt) 1 (by simp) _
  · rw [hl, ints_snoc]; exact ownsRow_setCell_below own7 h.lt _
  · rw [hl]; exact k2.symm
theorem PB.push2 (h : PB wr B b n A1 c1 r A2 c2 q) (x : Int) (hX : Below wr.heap.size wr wX) (own7 : w7.ownsRow B 3 1 (.slice A3 (q.length + 1) c3) (q.length + 1) (ints q ++ [.int .i64 x])) (hb7 : Below B wX w7)
    (hk : Kept wX w7 (.slice A2 q.length c2) (.slice A3 (q.length + 1) c3)) : PB (w7.setCell ⟨b, 2, none⟩ (.slice A3 (q.length + 1) c3)) B b n A1 c1 r A3 c3 (q ++ [x]) := by
  have g := h.below hX
  obtain ⟨k1, k2⟩ := hk _ _ _ _ _ _ g.o1 h.ap
  have hl : (q ++ [x]).length = q.length + 1 := by simp
  refine ⟨h.lt, ?_, ownsRow_setCell_below k1 h.lt _, ?_, ?_⟩
  · rw [hl]; exact BoxSet (BoxUp g.box hb7 h.lt) 2 (by simp) _
  · rw [hl, ints_snoc]; exact ownsRow_setCell_below own7 h.lt _
  · rw [hl]; exact k2
end

/-! ### the document's reading, word by word -/
def rk (ws : List Wd) (k : Nat) : RPS := rL r0 1 (ws.tail.take (k - 1))
theorem rk_one (ws : List Wd) : rk ws 1 = r0 := by simp [rk, rL]
theorem rk_step (ws : List Wd) {k : Nat} (h1 : 1 ≤ k) (hk : k < ws.length) : rk ws (k + 1) = rstep (rk ws k) k ws[k] := by
  unfold rk
  have hl : k - 1 < ws.tail.length := by simp; omega
  have e : ws.tail.take (k + 1 - 1) = ws.tail.take (k - 1) ++ [ws[k]] := by
    rw [show k + 1 - 1 = (k - 1) + 1 by omega, List.take_succ_eq_append_getElem hl]
    congr 2
    rw [List.getElem_tail]
    congr 1
    omega
  rw [e, rL_app, List.length_take, Nat.min_eq_left (by omega)]
  show rstep _ _ _ = _
  congr 1
  omega
theorem rk_fin (ws : List Wd) (h : 1 ≤ ws.length) : rk ws ws.length = rL r0 1 ws.tail := by
  unfold rk
  rw [List.take_of_length_le (by simp)]
end Go.Proofs.YtlnmmkgeahlohaaDoor
