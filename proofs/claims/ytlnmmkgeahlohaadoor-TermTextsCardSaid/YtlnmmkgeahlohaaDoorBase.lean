/-
  Base: what all the texts of this seat import; words for memory (from the guide's pages of words to copy); slices of numbers.
-/
import Derived.Test.YtlnmmkgeahlohaaDoorRows
import Derived.Test.YtlnmmkgeahlohaaDoorPlain
import Derived.WalkKit
import Derived.WalkSpells
import Derived.WalkLawsBesides
import Derived.Handy
import Derived.Deep.QuietTactic
import Derived.BigQuiet
import Derived.Lib.Hide
import Derived.Below
import Derived.Laws.OwnMore
import Derived.Deep.AppendLies
import Derived.Deep.Draws
import Derived.Deep.DeepMust
import Derived.Deep.DeepFit
import Derived.Deep.LoopGhost
import Derived.Deep.DeepCutAuto
namespace Go.Proofs.YtlnmmkgeahlohaaDoor
set_option linter.unusedVariables false
set_option linter.unusedSimpArgs false
open Go.RowKit

theorem block_of_add (a : Addr) (n : Nat) : (a.add n).block = a.block := by unfold Addr.add; split <;> rfl
theorem add_of_add (a : Addr) (i j : Nat) : (a.add i).add j = a.add (i + j) := by
  unfold Addr.add
  by_cases hi : i = 0 <;> by_cases hj : j = 0 <;> simp [hi, hj, Nat.add_assoc]

/-- The slice value with the address A and n elements of 'size' cells each holds the cells xs, below block B. -/
def Reads (w : World) (B size : Nat) (A : Option Addr) (n : Nat) (xs : List Value) : Prop :=
  xs.length = n * size ∧ (0 < n → ∃ ad, A = some ad ∧ ad.block < B ∧ ∀ j u, xs[j]? = some u → w.cell? (ad.add j) = some u)

section
variable {w w' : World} {B B' size n : Nat} {A : Option Addr} {xs : List Value}
theorem Reads.keep (h : Reads w B size A n xs) (hk : ∀ p : Addr, p.block < B → w'.cell? p = w.cell? p) : Reads w' B size A n xs :=
  ⟨h.1, fun hn => by
    obtain ⟨ad, e, hb, hc⟩ := h.2 hn
    exact ⟨ad, e, hb, fun j u hu => (hk _ (by rw [block_of_add]; exact hb)).trans (hc j u hu)⟩⟩
theorem Reads.more (h : Reads w B size A n xs) (hB : B ≤ B') : Reads w B' size A n xs :=
  ⟨h.1, fun hn => by
    obtain ⟨ad, e, hb, hc⟩ := h.2 hn
    exact ⟨ad, e, by omega, hc⟩⟩
theorem Reads.below (h : Reads w B size A n xs) (hb : Below B w w') : Reads w' B size A n xs := h.keep fun _ hp => hb.cell hp
theorem Reads.below' (h : Reads w B size A n xs) (hb : Below B' w w') (hB : B ≤ B') : Reads w' B size A n xs := h.below (hb.mono hB)
end

theorem addr_succ (a : Addr) (n j : Nat) : a.add (n + (j + 1)) = ⟨(a.add n).block, (a.add n).off + (j + 1), none⟩ := by
  unfold Addr.add
  by_cases h : n = 0
  · subst h; simp
  · simp [h, Nat.add_assoc]
/-- A new block, behind whatever leaves it alone. -/
theorem blk_facts {w wr : World} {cs : Array Value} {t : TypeId} {n : Nat} (hb : Below n (w.alloc (.cells cs t)) wr) (hn : w.heap.size < n) :
    (∀ j, wr.cell? ⟨w.heap.size, j, none⟩ = cs[j]?) ∧ (∀ j, wr.frozen? ⟨w.heap.size, j, none⟩ = false) ∧ w.heap.size < wr.heap.size ∧ Below w.heap.size w wr := by
  refine ⟨fun j => ?_, fun j => ?_, by have := hb.size; simp at this; omega, ((Below.refl _ _).alloc (Nat.le_refl _) _).trans (hb.mono (by omega))⟩
  · rw [hb.cell (p := ⟨w.heap.size, j, none⟩) hn]; simp [World.cell?_alloc_at]
  · rw [hb.frozen (p := ⟨w.heap.size, j, none⟩) hn]; simp [go_sem]
theorem ret_val {a b : Value} (h : a = b) : Ending.returned a = .returned b := by rw [h]
theorem ret_bool {a b : Bool} (h : a = b) : Ending.returned (.bool a) = .returned (.bool b) := by rw [h]
theorem ret_int {k : IntKind} {a b : Int} (h : a = b) : Ending.returned (.int k a) = .returned (.int k b) := by rw [h]
theorem decide_iff {p q : Prop} [Decidable p] [Decidable q] (h : p ↔ q) : decide p = decide q := decide_eq_decide.2 h

theorem own_below {w w' : World} {base e size n : Nat} {v : Value} {xs : List Value} {B : Nat} (h : w.ownsRow base e size v n xs) (hb : Below B w w') (hB : ∀ k, v.ownBlock = some k → k < B) : w'.ownsRow base e size v n xs := by
  refine ⟨h.1, ?_⟩
  rcases h.2 with hn | ⟨g, cap, cur, rfl, hbg, hh, rest⟩
  · exact .inl hn
  · exact .inr ⟨g, cap, cur, rfl, hbg, (hb.block g (hB g rfl)).trans hh, rest⟩
theorem own_base {w : World} {base base' e size n : Nat} {v : Value} {xs : List Value} (h : w.ownsRow base e size v n xs) (hB : base' ≤ base) : w.ownsRow base' e size v n xs := by
  refine ⟨h.1, ?_⟩
  rcases h.2 with hn | ⟨g, cap, cur, rfl, hbg, hh, rest⟩
  · exact .inl hn
  · exact .inr ⟨g, cap, cur, rfl, by omega, hh, rest⟩
/-- What is owned is a slice value written out. -/
theorem own_shape {w : World} {base e size n : Nat} {v : Value} {xs : List Value} (h : w.ownsRow base e size v n xs) : ∃ A c, v = .slice A n c := by
  rcases h.2 with ⟨h1, h2⟩ | ⟨g, cap, cur, h1, _⟩
  · exact ⟨none, 0, by rw [h1, h2]⟩
  · exact ⟨_, _, h1⟩
theorem Reads.of_own {w : World} {base e size n : Nat} {A : Option Addr} {c : Nat} {xs : List Value} (h : w.ownsRow base e size (.slice A n c) n xs) : Reads w w.heap.size size A n xs := by
  refine ⟨h.1, fun hn => ?_⟩
  rcases h.2 with ⟨h1, h2⟩ | ⟨g, cap, cur, h1, _, hg, _⟩
  · omega
  · injection h1 with h1 _ _
    subst h1
    exact ⟨_, rfl, (Array.getElem?_eq_some_iff.1 hg).1, h.cells (g := g) rfl⟩

/-- 'out = append(out, x)', x one element that has just been laid in a new block: the new value is a slice written out; what lay below B has not turned. -/
theorem wpList_app1 {P : Program} {w : World} {ops : Array Oper} {rest : List Oper} {o : Oper} {a : Act} {Q : Exit → Act → World → Prop} (hgd : o.guard = none) (s x : Operand) {t e : TypeId}
    (ho : o.op = .call { callee := .builtin .append, args := #[s, x], argTypes := #[t, t] }) {z : Value} {size bytes : Nat} (ht : P.underlying t = some (.slice e))
    (hinfo : (P.info? e).map (fun i => (i.zero, i.size, i.bytes)) = some (some z, size, bytes)) (hzs : z.cells.size = size) (hsz : 0 < size)
    {base : Nat} {A : Option Addr} {n c : Nat} {xs : List Value} (hs : a.eval s = .slice A n c) (hown : w.ownsRow base e size (.slice A n c) n xs)
    {news : List Value} (hx : a.eval x = .slice (some ⟨w.heap.size, 0, none⟩) 1 1) (hl : news.length = size) (h1 : ∀ u ∈ news, u.oneCell' = true)
    (hn : n + 1 ≤ 1000000000) (hbytes : bytes ≤ 1000) (hbase : base ≤ w.heap.size)
    (h : ∀ A' c' w', w'.ownsRow base e size (.slice A' (n + 1) c') (n + 1) (xs ++ news) → (∀ B, B ≤ base → Below B w w') → wpList P ops Q rest (a.put o.dst (.slice A' (n + 1) c')) w') :
    wpList P ops Q (o :: rest) a (w.alloc (.cells news.toArray e)) := by
  obtain ⟨i, hi, hz0, hz1, hz2⟩ := info_parts hinfo
  have hlt : ∀ j u, news[j]? = some u → (w.alloc (.cells news.toArray e)).cell? ((⟨w.heap.size, 0, none⟩ : Addr).add j) = some u := by
    intro j u hu
    have hadd : (⟨w.heap.size, 0, none⟩ : Addr).add j = ⟨w.heap.size, j, none⟩ := by unfold Addr.add; split <;> simp_all
    rw [hadd, World.cell?_alloc_at _ _ _ _ rfl]
    simpa using hu
  have hb : (n + 1) * bytes ≤ 140737488355328 := by
    have : (n + 1) * bytes ≤ 1000000000 * 1000 := Nat.mul_le_mul hn hbytes
    omega
  refine wpList_append_own _ hgd s x t ho base e i z size bytes ht hi hz0 hz1 hz2 hzs hsz _ n xs hs (hown.alloc _) _ 1 1 news hx (by omega) hlt h1 (by unfold maxLen; omega) hb (by simp; omega) ?_
  intro v' w' hown' hg _
  obtain ⟨A', c', hv⟩ := own_shape hown'
  rw [hv] at hown' ⊢
  refine h A' c' w' hown' fun B hB => ?_
  exact ((Below.refl B w).alloc (by omega) _).grown hg (by simp; omega) (fun k hk => by have := hown.lt k hk; omega)


theorem info_int : (Tryd.prog.info? 3).map (fun i => (i.zero, i.size, i.bytes)) = some (some (.int .i64 0), 1, 8) := by kernel_rfl
def ints (l : List Int) : List Value := l.map (Value.int .i64)
theorem madeInts (n : Nat) : (madeCells (Value.int .i64 0).cells (n * 1)).toList = ints (List.replicate n 0) := by
  rw [Nat.mul_one]
  show (madeCells #[Value.int .i64 0] n).toList = _
  rw [toList_madeCells_one, ints, List.map_replicate]
/-- A slice of the call's own of so many integers. -/
def OwnI (w : World) (base g n : Nat) (xs : List Int) : Prop := xs.length = n ∧ w.ownsRow base 3 1 (.slice (some ⟨g, 0, none⟩) n n) n (ints xs)
section
variable {w w' : World} {base g n : Nat} {xs : List Int}
theorem OwnI.cell (h : OwnI w base g n xs) (k : Nat) (hk : k < n) : w.cell? ⟨g, k, none⟩ = some (.int .i64 (gi xs k)) := by
  have e := World.ownsRow.cellAt h.2 k (by omega)
  have hl := h.1
  rw [e]
  simp [ints, gi, show k < xs.length by omega]
theorem OwnI.frozen (h : OwnI w base g n xs) (k : Nat) : w.frozen? ⟨g, k, none⟩ = false := World.ownsRow.frozenAt h.2 k
theorem OwnI.lt (h : OwnI w base g n xs) : base ≤ g ∧ g < w.heap.size := World.ownsRow.lt h.2 g rfl
theorem OwnI.kept (h : OwnI w base g n xs) {B : Nat} (hb : Below B w w') (hB : g < B) : OwnI w' base g n xs :=
  ⟨h.1, own_below h.2 hb fun k hk => by simp [Value.ownBlock] at hk; omega⟩
theorem OwnI.stored (h : OwnI w base g n xs) (k : Nat) (v : Int) : OwnI (w.setCell ⟨g, k, none⟩ (.int .i64 v)) base g n (xs.set k v) := by
  have e := (World.ownsRow.stored h.2 k (.int .i64 v)).1
  refine ⟨by rw [List.length_set]; exact h.1, ?_⟩
  have : ints (xs.set k v) = (ints xs).set k (.int .i64 v) := by simp [ints]
  rw [this]
  exact e
end

/-- The slice (A, c) of the call's own holds the numbers l. -/
def OwnN (w : World) (base : Nat) (A : Option Addr) (c : Nat) (l : List Int) : Prop := w.ownsRow base 3 1 (.slice A l.length c) l.length (ints l)
theorem OwnN.kept {w w' : World} {base c : Nat} {A : Option Addr} {l : List Int} (h : OwnN w base A c l) (hb : Below w.heap.size w w') : OwnN w' base A c l := own_below h hb fun k hk => (World.ownsRow.lt h k hk).2
theorem OwnN.snoc {w : World} {base c n : Nat} {A : Option Addr} {l l' : List Int} {x : Int} (h : w.ownsRow base 3 1 (.slice A (n + 1) c) (n + 1) (ints l ++ [.int .i64 x])) (hn : n = l.length) (hl : l' = l ++ [x]) : OwnN w base A c l' := by
  subst hn
  have e1 : (l ++ [x]).length = l.length + 1 := by simp
  have e2 : ints (l ++ [x]) = ints l ++ [.int .i64 x] := by simp [ints]
  rw [hl]
  unfold OwnN
  rw [e1, e2]
  exact h

/-- The slice (A, n = l.length) reads as the numbers l. -/
def RN (w : World) (A : Option Addr) (l : List Int) : Prop := Reads w w.heap.size 1 A l.length (ints l)
section
variable {w w' : World} {base c : Nat} {A : Option Addr} {l : List Int}
theorem RN.below (h : RN w A l) (hb : Below w.heap.size w w') : RN w' A l := (Reads.below' h hb (Nat.le_refl _)).more hb.size
theorem RN.of_own (h : OwnN w base A c l) : RN w A l := Reads.of_own h
theorem RN.at_ (h : RN w A l) {k : Nat} (hk : k < l.length) : ∃ ad, A = some ad ∧ (ad.add k).block < w.heap.size ∧ w.cell? (ad.add k) = some (.int .i64 (gi l k)) := by
  obtain ⟨ad, e, hb, hc⟩ := h.2 (by omega)
  exact ⟨ad, e, by rw [block_of_add]; exact hb, hc k _ (by simp [ints, gi, hk])⟩
end
def eqIn (l m : List Int) (k : Nat) : Prop := ∀ i, i < k → gi l i = gi m i
theorem eqIn_all {l m : List Int} (hlen : l.length = m.length) (h : eqIn l m l.length) : l = m := by
  apply List.ext_getElem hlen
  intro i h1 h2
  have := h i h1
  simpa [gi, h1, h2] using this

theorem ret2 {a b a' b' : Value} (h1 : a = a') (h2 : b = b') : Ending.returned (.tuple #[a, b]) = .returned (.tuple #[a', b']) := by rw [h1, h2]
theorem ret3 {a b c a' b' c' : Value} (h1 : a = a') (h2 : b = b') (h3 : c = c') : Ending.returned (.tuple #[a, b, c]) = .returned (.tuple #[a', b', c']) := by rw [h1, h2, h3]

theorem box3 {w w1 : World} {a b c : Value} {t : TypeId} {n : Nat} (hb : Below n (w.alloc (.cells #[a, b, c] t)) w1) (hn : n = w.heap.size + 1) :
    w1.cell? ⟨w.heap.size, 0, none⟩ = some a ∧ w1.cell? ⟨w.heap.size, 1, none⟩ = some b ∧ w1.cell? ⟨w.heap.size, 2, none⟩ = some c ∧ w.heap.size < w1.heap.size ∧ Below w.heap.size w w1 := by
  obtain ⟨h1, _, h3, h4⟩ := blk_facts hb (by omega)
  exact ⟨by rw [h1]; rfl, by rw [h1]; rfl, by rw [h1]; rfl, h3, h4⟩

theorem two_blk {w wr : World} {cs1 cs2 : Array Value} {t1 t2 : TypeId} {n : Nat} (hb : Below n ((w.alloc (.cells cs1 t1)).alloc (.cells cs2 t2)) wr) (hn : w.heap.size + 1 < n) :
    (∀ j, wr.cell? ⟨w.heap.size, j, none⟩ = cs1[j]?) ∧ (∀ j, wr.cell? ⟨w.heap.size + 1, j, none⟩ = cs2[j]?) ∧ w.heap.size + 1 < wr.heap.size ∧ Below w.heap.size w wr := by
  refine ⟨fun j => ?_, fun j => ?_, by have := hb.size; simp at this; omega, (((Below.refl _ _).alloc (Nat.le_refl _) _).alloc (by simp) _).trans (hb.mono (by omega))⟩
  · rw [hb.cell (p := ⟨w.heap.size, j, none⟩) (by show w.heap.size < n; omega), World.cell?_alloc_lt _ _ _ (by simp)]; simp [World.cell?_alloc_at]
  · rw [hb.cell (p := ⟨w.heap.size + 1, j, none⟩) hn, World.cell?_alloc_at _ _ _ _ (by simp)]


end Go.Proofs.YtlnmmkgeahlohaaDoor
