/-
  Base: what all the texts of this seat import; words for memory (from the guide's pages of words to copy); facts as five cells.
-/
import Derived.Test.YtoopmancobfjeaaRows
import Derived.Test.YtoopmancobfjeaaPlain
import Derived.WalkKit
import Derived.WalkSpells
import Derived.WalkLawsBesides
import Derived.Handy
import Derived.Deep.QuietTactic
import Derived.BigQuiet
import Derived.Lib.Hide
import Derived.Below
import Derived.Laws.OwnMore
import Derived.Deep.AppendLies
import Derived.Deep.Draws
import Derived.Deep.DeepMust
import Derived.Deep.DeepFit
import Derived.Deep.LoopGhost
import Derived.Deep.DeepCutAuto
namespace Go.Proofs.Ytoopmancobfjeaa
set_option linter.unusedVariables false
set_option linter.unusedSimpArgs false
open Go.RowKit

theorem block_of_add (a : Addr) (n : Nat) : (a.add n).block = a.block := by unfold Addr.add; split <;> rfl
theorem add_of_add (a : Addr) (i j : Nat) : (a.add i).add j = a.add (i + j) := by
  unfold Addr.add
  by_cases hi : i = 0 <;> by_cases hj : j = 0 <;> simp [hi, hj, Nat.add_assoc]

/-- The slice value with the address A and n elements of 'size' cells each holds the cells xs, below block B. -/
def Reads (w : World) (B size : Nat) (A : Option Addr) (n : Nat) (xs : List Value) : Prop :=
  xs.length = n * size ∧ (0 < n → ∃ ad, A = some ad ∧ ad.block < B ∧ ∀ j u, xs[j]? = some u → w.cell? (ad.add j) = some u)

section
variable {w w' : World} {B B' size n : Nat} {A : Option Addr} {xs : List Value}
theorem Reads.keep (h : Reads w B size A n xs) (hk : ∀ p : Addr, p.block < B → w'.cell? p = w.cell? p) : Reads w' B size A n xs :=
  ⟨h.1, fun hn => by
    obtain ⟨ad, e, hb, hc⟩ := h.2 hn
    exact ⟨ad, e, hb, fun j u hu => (hk _ (by rw [block_of_add]; exact hb)).trans (hc j u hu)⟩⟩
theorem Reads.more (h : Reads w B size A n xs) (hB : B ≤ B') : Reads w B' size A n xs :=
  ⟨h.1, fun hn => by
    obtain ⟨ad, e, hb, hc⟩ := h.2 hn
    exact ⟨ad, e, by omega, hc⟩⟩
theorem Reads.below (h : Reads w B size A n xs) (hb : Below B w w') : Reads w' B size A n xs := h.keep fun _ hp => hb.cell hp
theorem Reads.below' (h : Reads w B size A n xs) (hb : Below B' w w') (hB : B ≤ B') : Reads w' B size A n xs := h.below (hb.mono hB)
end

def Fact.vals (f : Fact) : List Value := [.int .i64 f.at_, .int .i64 f.ch, .int .i64 f.fr, .int .i64 f.un, .int .i64 f.me]
def cellsF (l : List Fact) : List Value := l.flatMap Fact.vals

theorem cellsF_cons (f : Fact) (l : List Fact) : cellsF (f :: l) = f.vals ++ cellsF l := by simp [cellsF]
theorem cellsF_length (l : List Fact) : (cellsF l).length = l.length * 5 := by
  induction l with
  | nil => rfl
  | cons f l ih => rw [cellsF_cons, List.length_append, ih]; simp [Fact.vals]; omega
theorem cellsF_at (l : List Fact) (k j : Nat) (hk : k < l.length) (hj : j < 5) : (cellsF l)[k * 5 + j]? = (gf l k).vals[j]? := by
  induction l generalizing k with
  | nil => simp at hk
  | cons f l ih =>
    rw [cellsF_cons]
    cases k with
    | zero => rw [List.getElem?_append_left (by simp [Fact.vals]; omega)]; simp [gf]
    | succ k =>
      rw [List.getElem?_append_right (by simp [Fact.vals]; omega)]
      have : (k + 1) * 5 + j - f.vals.length = k * 5 + j := by simp [Fact.vals]; omega
      rw [this, ih k (by simpa using hk)]
      simp [gf]

/-- The slice (A, n = l.length) reads as the table l, below B. -/
def RF (w : World) (B : Nat) (A : Option Addr) (l : List Fact) : Prop := B ≤ w.heap.size ∧ Reads w B 5 A l.length (cellsF l)
theorem RF.below {w w' : World} {B : Nat} {A : Option Addr} {l : List Fact} (h : RF w B A l) (hb : Below w.heap.size w w') : RF w' B A l := ⟨Nat.le_trans h.1 hb.size, Reads.below' h.2 hb h.1⟩
theorem cellsF_take (l : List Fact) (n : Nat) (j : Nat) (u : Value) (h : (cellsF (l.take n))[j]? = some u) : (cellsF l)[j]? = some u := by
  have e : cellsF l = cellsF (l.take n) ++ cellsF (l.drop n) := by simp only [cellsF]; rw [← List.flatMap_append, List.take_append_drop]
  rw [e, List.getElem?_append_left (List.getElem?_eq_some_iff.1 h).1]
  exact h
theorem RF.take {w : World} {B : Nat} {A A' : Option Addr} {l : List Fact} (h : RF w B A l) {n : Nat} (hn : n ≤ l.length) (hA : 0 < n → A' = A) : RF w B A' (l.take n) := by
  refine ⟨h.1, by rw [cellsF_length], fun hp => ?_⟩
  rw [List.length_take] at hp
  obtain ⟨ad, e, hb, hc⟩ := h.2.2 (by omega)
  exact ⟨ad, by rw [hA (by omega), e], hb, fun j u hu => hc j u (cellsF_take l n j u hu)⟩
theorem addr_succ (a : Addr) (n j : Nat) : a.add (n + (j + 1)) = ⟨(a.add n).block, (a.add n).off + (j + 1), none⟩ := by
  unfold Addr.add
  by_cases h : n = 0
  · subst h; simp
  · simp [h, Nat.add_assoc]
/-- Five cells, as the walk spells them. -/
def FCells' (w : World) (p : Addr) (a b c d e : Value) : Prop :=
  w.cell? p = some a ∧ w.cell? ⟨p.block, p.off + 1, none⟩ = some b ∧ w.cell? ⟨p.block, p.off + 2, none⟩ = some c ∧ w.cell? ⟨p.block, p.off + 3, none⟩ = some d ∧ w.cell? ⟨p.block, p.off + 4, none⟩ = some e
/-- The five cells of the fact k, as the walk spells them. -/
def FCells (w : World) (p : Addr) (f : Fact) : Prop :=
  w.cell? p = some (.int .i64 f.at_) ∧ w.cell? ⟨p.block, p.off + 1, none⟩ = some (.int .i64 f.ch) ∧ w.cell? ⟨p.block, p.off + 2, none⟩ = some (.int .i64 f.fr) ∧
    w.cell? ⟨p.block, p.off + 3, none⟩ = some (.int .i64 f.un) ∧ w.cell? ⟨p.block, p.off + 4, none⟩ = some (.int .i64 f.me)
theorem RF.at_ {w : World} {B : Nat} {A : Option Addr} {l : List Fact} (h : RF w B A l) {k : Nat} (hk : k < l.length) :
    ∃ ad, A = some ad ∧ (ad.add (k * 5)).block < w.heap.size ∧ FCells w (ad.add (k * 5)) (gf l k) := by
  obtain ⟨ad, e, hb, hc⟩ := h.2.2 (by omega)
  have hs := fun j => addr_succ ad (k * 5) j
  exact ⟨ad, e, by rw [block_of_add]; have := h.1; omega, hc (k * 5 + 0) _ (cellsF_at l k 0 hk (by omega)), (hs 0) ▸ hc _ _ (cellsF_at l k 1 hk (by omega)), (hs 1) ▸ hc _ _ (cellsF_at l k 2 hk (by omega)), (hs 2) ▸ hc _ _ (cellsF_at l k 3 hk (by omega)), (hs 3) ▸ hc _ _ (cellsF_at l k 4 hk (by omega))⟩
theorem FCells.below {w w' : World} {p : Addr} {f : Fact} (h : FCells w p f) {B : Nat} (hb : Below B w w') (hp : p.block < B) : FCells w' p f := by
  obtain ⟨h0, h1, h2, h3, h4⟩ := h
  exact ⟨(hb.cell hp).trans h0, (hb.cell (by exact hp)).trans h1, (hb.cell (by exact hp)).trans h2, (hb.cell (by exact hp)).trans h3, (hb.cell (by exact hp)).trans h4⟩

/-- Behind a call, at a new block of five cells. -/
theorem box5 {w w1 : World} {a b c d e : Value} {t : TypeId} {n : Nat} (hb : Below n (w.alloc (.cells #[a, b, c, d, e] t)) w1) (hn : n = w.heap.size + 1) :
    FCells' w1 ⟨w.heap.size, 0, none⟩ a b c d e ∧ w.heap.size < w1.heap.size ∧ Below w.heap.size w w1 := by
  subst hn
  have h1 : ∀ j, w1.cell? ⟨w.heap.size, j, none⟩ = (w.alloc (.cells #[a, b, c, d, e] t)).cell? ⟨w.heap.size, j, none⟩ := fun j => hb.cell (by simp)
  refine ⟨⟨by rw [h1]; simp [World.cell?_alloc_at], by rw [h1]; simp [World.cell?_alloc_at], by rw [h1]; simp [World.cell?_alloc_at], by rw [h1]; simp [World.cell?_alloc_at], by rw [h1]; simp [World.cell?_alloc_at]⟩, by have := hb.size; simp at this; omega, ?_⟩
  exact ((Below.refl _ _).alloc (Nat.le_refl _) _).trans (hb.mono (by omega))

/-- A new block, behind whatever leaves it alone. -/
theorem blk_facts {w wr : World} {cs : Array Value} {t : TypeId} {n : Nat} (hb : Below n (w.alloc (.cells cs t)) wr) (hn : w.heap.size < n) :
    (∀ j, wr.cell? ⟨w.heap.size, j, none⟩ = cs[j]?) ∧ (∀ j, wr.frozen? ⟨w.heap.size, j, none⟩ = false) ∧ w.heap.size < wr.heap.size ∧ Below w.heap.size w wr := by
  refine ⟨fun j => ?_, fun j => ?_, by have := hb.size; simp at this; omega, ((Below.refl _ _).alloc (Nat.le_refl _) _).trans (hb.mono (by omega))⟩
  · rw [hb.cell (p := ⟨w.heap.size, j, none⟩) hn]; simp [World.cell?_alloc_at]
  · rw [hb.frozen (p := ⟨w.heap.size, j, none⟩) hn]; simp [go_sem]
theorem ret_val {a b : Value} (h : a = b) : Ending.returned a = .returned b := by rw [h]
theorem ret_bool {a b : Bool} (h : a = b) : Ending.returned (.bool a) = .returned (.bool b) := by rw [h]
theorem ret_int {k : IntKind} {a b : Int} (h : a = b) : Ending.returned (.int k a) = .returned (.int k b) := by rw [h]
theorem decide_iff {p q : Prop} [Decidable p] [Decidable q] (h : p ↔ q) : decide p = decide q := decide_eq_decide.2 h

theorem own_below {w w' : World} {base e size n : Nat} {v : Value} {xs : List Value} {B : Nat} (h : w.ownsRow base e size v n xs) (hb : Below B w w') (hB : ∀ k, v.ownBlock = some k → k < B) : w'.ownsRow base e size v n xs := by
  refine ⟨h.1, ?_⟩
  rcases h.2 with hn | ⟨g, cap, cur, rfl, hbg, hh, rest⟩
  · exact .inl hn
  · exact .inr ⟨g, cap, cur, rfl, hbg, (hb.block g (hB g rfl)).trans hh, rest⟩
theorem own_base {w : World} {base base' e size n : Nat} {v : Value} {xs : List Value} (h : w.ownsRow base e size v n xs) (hB : base' ≤ base) : w.ownsRow base' e size v n xs := by
  refine ⟨h.1, ?_⟩
  rcases h.2 with hn | ⟨g, cap, cur, rfl, hbg, hh, rest⟩
  · exact .inl hn
  · exact .inr ⟨g, cap, cur, rfl, by omega, hh, rest⟩
/-- What is owned is a slice value written out. -/
theorem own_shape {w : World} {base e size n : Nat} {v : Value} {xs : List Value} (h : w.ownsRow base e size v n xs) : ∃ A c, v = .slice A n c := by
  rcases h.2 with ⟨h1, h2⟩ | ⟨g, cap, cur, h1, _⟩
  · exact ⟨none, 0, by rw [h1, h2]⟩
  · exact ⟨_, _, h1⟩
theorem Reads.of_own {w : World} {base e size n : Nat} {A : Option Addr} {c : Nat} {xs : List Value} (h : w.ownsRow base e size (.slice A n c) n xs) : Reads w w.heap.size size A n xs := by
  refine ⟨h.1, fun hn => ?_⟩
  rcases h.2 with ⟨h1, h2⟩ | ⟨g, cap, cur, h1, _, hg, _⟩
  · omega
  · injection h1 with h1 _ _
    subst h1
    exact ⟨_, rfl, (Array.getElem?_eq_some_iff.1 hg).1, h.cells (g := g) rfl⟩

/-- 'out = append(out, x)', x one element that has just been laid in a new block: the new value is a slice written out; what lay below B has not turned. -/
theorem wpList_app1 {P : Program} {w : World} {ops : Array Oper} {rest : List Oper} {o : Oper} {a : Act} {Q : Exit → Act → World → Prop} (hgd : o.guard = none) (s x : Operand) {t e : TypeId}
    (ho : o.op = .call { callee := .builtin .append, args := #[s, x], argTypes := #[t, t] }) {z : Value} {size bytes : Nat} (ht : P.underlying t = some (.slice e))
    (hinfo : (P.info? e).map (fun i => (i.zero, i.size, i.bytes)) = some (some z, size, bytes)) (hzs : z.cells.size = size) (hsz : 0 < size)
    {base : Nat} {A : Option Addr} {n c : Nat} {xs : List Value} (hs : a.eval s = .slice A n c) (hown : w.ownsRow base e size (.slice A n c) n xs)
    {news : List Value} (hx : a.eval x = .slice (some ⟨w.heap.size, 0, none⟩) 1 1) (hl : news.length = size) (h1 : ∀ u ∈ news, u.oneCell' = true)
    (hn : n + 1 ≤ 1000000000) (hbytes : bytes ≤ 1000) (hbase : base ≤ w.heap.size)
    (h : ∀ A' c' w', w'.ownsRow base e size (.slice A' (n + 1) c') (n + 1) (xs ++ news) → (∀ B, B ≤ base → Below B w w') → wpList P ops Q rest (a.put o.dst (.slice A' (n + 1) c')) w') :
    wpList P ops Q (o :: rest) a (w.alloc (.cells news.toArray e)) := by
  obtain ⟨i, hi, hz0, hz1, hz2⟩ := info_parts hinfo
  have hlt : ∀ j u, news[j]? = some u → (w.alloc (.cells news.toArray e)).cell? ((⟨w.heap.size, 0, none⟩ : Addr).add j) = some u := by
    intro j u hu
    have hadd : (⟨w.heap.size, 0, none⟩ : Addr).add j = ⟨w.heap.size, j, none⟩ := by unfold Addr.add; split <;> simp_all
    rw [hadd, World.cell?_alloc_at _ _ _ _ rfl]
    simpa using hu
  have hb : (n + 1) * bytes ≤ 140737488355328 := by
    have : (n + 1) * bytes ≤ 1000000000 * 1000 := Nat.mul_le_mul hn hbytes
    omega
  refine wpList_append_own _ hgd s x t ho base e i z size bytes ht hi hz0 hz1 hz2 hzs hsz _ n xs hs (hown.alloc _) _ 1 1 news hx (by omega) hlt h1 (by unfold maxLen; omega) hb (by simp; omega) ?_
  intro v' w' hown' hg _
  obtain ⟨A', c', hv⟩ := own_shape hown'
  rw [hv] at hown' ⊢
  refine h A' c' w' hown' fun B hB => ?_
  exact ((Below.refl B w).alloc (by omega) _).grown hg (by simp; omega) (fun k hk => by have := hown.lt k hk; omega)

end Go.Proofs.Ytoopmancobfjeaa
