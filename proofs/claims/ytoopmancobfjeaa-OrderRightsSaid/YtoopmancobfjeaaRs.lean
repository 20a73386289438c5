/-
  Walks: slices.DeleteFunc at rights of the call's own.
-/
import Derived.Test.YtoopmancobfjeaaRr
import Derived.Laws.IdiomCopy
import Derived.Laws.CopyOwn
namespace Go.Proofs.Ytoopmancobfjeaa
set_option linter.unusedVariables false
set_option linter.unusedSimpArgs false
open Go.RowKit

theorem cells_setCells (b : Nat) : ∀ (vs : List Value) (o : Nat) (w : World) (cur : List Value) (t : TypeId), w.heap[b]? = some (.cells cur.toArray t (0, 0)) → o + vs.length ≤ cur.length →
    (w.setCells b o vs).heap[b]? = some (.cells (splice cur o vs).toArray t (0, 0))
  | [], o, w, cur, t, hg, h => by simpa [World.setCells, splice] using hg
  | v :: vs, o, w, cur, t, hg, h => by
    simp only [List.length_cons] at h
    have e := heap_setCell_same w b o cur.toArray t v hg
    have e2 : (cur.toArray.setIfInBounds o v) = (cur.set o v).toArray := by simp
    rw [e2] at e
    have ih := cells_setCells b vs (o + 1) (w.setCell ⟨b, o, none⟩ v) (cur.set o v) t e (by rw [List.length_set]; omega)
    simp only [World.setCells]
    rw [ih]
    have e3 := list_seg_step cur o v vs (by omega)
    simp only [splice, List.length_cons]
    rw [← List.append_assoc, e3, List.append_assoc]
theorem below_setCells {B b : Nat} (hB : B ≤ b) {w0 : World} : ∀ (vs : List Value) (o : Nat) (w : World), Below B w0 w → Below B w0 (w.setCells b o vs)
  | [], _, _, h => h
  | v :: vs, o, w, h => below_setCells hB vs (o + 1) _ (h.setCell (p := ⟨b, o, none⟩) hB v)
theorem OwnR.row {w : World} {base c : Nat} {A : Option Addr} {l : List Sp} (h : OwnR w base A c l) (hl : 0 < l.length) :
    ∃ g, ∃ cur : List Value, A = some ⟨g, 0, none⟩ ∧ base ≤ g ∧ w.heap[g]? = some (.cells cur.toArray 105 (0, 0)) ∧ cur.length = c * 3 ∧ l.length ≤ c ∧ c ≤ maxLen ∧ cur.take (l.length * 3) = cellsS l := by
  rcases h.2 with ⟨h1, h2⟩ | ⟨g, cap, cur, h1, hbg, hg, h3, h4, h5, h6⟩
  · omega
  · injection h1 with h1 _ hc
    subst h1
    subst hc
    exact ⟨g, cur.toList, rfl, hbg, by simpa using hg, by simpa using h5, h3, h4, by simpa using h6⟩
theorem OwnR.of_row {w : World} {base c g : Nat} {cur : List Value} {l : List Sp} (hb : base ≤ g) (hg : w.heap[g]? = some (.cells cur.toArray 105 (0, 0))) (hc : cur.length = c * 3) (hn : l.length ≤ c) (hm : c ≤ maxLen) (ht : cur.take (l.length * 3) = cellsS l) : OwnR w base (some ⟨g, 0, none⟩) c l :=
  ⟨cellsS_length l, .inr ⟨g, c, cur.toArray, rfl, hb, hg, hn, hm, by simpa using hc, by simpa using ht⟩⟩
theorem cellsS_put (l : List Sp) (k : Nat) (v : Sp) (hk : k < l.length) : cellsS (l.set k v) = (((cellsS l).set (k * 3) (.int .i64 v.fr)).set (k * 3 + 1) (.int .i64 v.un)).set (k * 3 + 2) (.int .i64 v.me) := by
  induction l generalizing k with
  | nil => simp at hk
  | cons f l ih =>
    cases k with
    | zero => simp [cellsS, Sp.vals]
    | succ k =>
      have e : (f :: l).set (k + 1) v = f :: l.set k v := by simp
      rw [e, cellsS_cons, cellsS_cons, ih k (by simpa using hk), List.set_append_right _ _ (by simp [Sp.vals]; omega), List.set_append_right _ _ (by simp [Sp.vals]; omega), List.set_append_right _ _ (by simp [Sp.vals]; omega)]
      rw [show (k + 1) * 3 - f.vals.length = k * 3 by simp [Sp.vals]; omega, show (k + 1) * 3 + 1 - f.vals.length = k * 3 + 1 by simp [Sp.vals]; omega, show (k + 1) * 3 + 2 - f.vals.length = k * 3 + 2 by simp [Sp.vals]; omega]
theorem OwnR.put {w : World} {base c gb : Nat} {l : List Sp} (h : OwnR w base (some ⟨gb, 0, none⟩) c l) (k : Nat) (hk : k < l.length) (v : Sp) :
    OwnR (((w.setCell ⟨gb, k * 3, none⟩ (.int .i64 v.fr)).setCell ⟨gb, k * 3 + 1, none⟩ (.int .i64 v.un)).setCell ⟨gb, k * 3 + 2, none⟩ (.int .i64 v.me)) base (some ⟨gb, 0, none⟩) c (l.set k v) := by
  unfold OwnR
  rw [List.length_set, cellsS_put l k v hk]
  exact (World.ownsRow.stored (World.ownsRow.stored (World.ownsRow.stored h _ _).1 _ _).1 _ _).1

theorem notch_any (a f u c : Int) (b1 : Nat) (w : World) (h1 : w.cell? ⟨b1, 0, none⟩ = some (.int .i64 c)) (hb1 : b1 < w.heap.size) :
    Calls Try.prog 87 #[.agg #[.int .i64 a, .int .i64 f, .int .i64 u], .pointer (some ⟨b1, 0, none⟩)] w fun e w' => e = .returned (.bool (a != c)) ∧ Below w.heap.size w w' := by
  have e1 : ¬ b1 = w.heap.size := by omega
  go_enter Try.func87, Try.ntmps87
  go_wp2
  go_ret
  exact ⟨rfl, by go_grown⟩

def sameTo (r : List Sp) (c : Int) (k : Nat) : Prop := ∀ i, i < k → (gs r i).fr = c
set_option maxRecDepth 100000 in
set_option maxHeartbeats 800000 in
theorem index_notch (r : List Sp) (c : Int) (A : Option Addr) (cp b1 : Nat) (w : World) (hR : RS w A r) (hl : r.length ≤ 1000000000) (h1 : w.cell? ⟨b1, 0, none⟩ = some (.int .i64 c)) (hb1 : b1 < w.heap.size) :
    Calls Try.prog 100 #[.slice A r.length cp, .func (.func 87) #[] #[.pointer (some ⟨b1, 0, none⟩)]] w fun e w' =>
      ((sameTo r c r.length ∧ e = .returned (.int .i64 (-1))) ∨ ∃ k : Nat, k < r.length ∧ sameTo r c k ∧ (gs r k).fr ≠ c ∧ e = .returned (.int .i64 k)) ∧ Below w.heap.size w w' := by
  go_enter Try.func100, Try.ntmps100
  go_wp2
  go_loopw [8] (fun x wr => ∃ k : Nat, k ≤ r.length ∧ x = .int .i64 k ∧ Hid (sameTo r c k) ∧ Below w.heap.size w wr) (fun x _ => r.length - (intOf x).toNat)
  case atStart => exact ⟨0, by omega, rfl, fun i hi => by omega, Below.refl _ _⟩
  case round =>
    obtain ⟨k, hk, rfl, HK, hbl⟩ := hrel
    by_cases hlt : k < r.length
    · obtain ⟨ad, rfl, hab, c0, c1, c2⟩ := (hR.below hbl).at_ hlt
      have g1 := (hbl.cell (p := ⟨b1, 0, none⟩) hb1).trans h1
      have hbs := hbl.size
      go_wp2_with fail
      refine (notch_any _ _ _ c b1 _ g1 (by omega)).mono ?_
      rintro e w2 ⟨rfl, hb2'⟩
      have hbl2 := hbl.trans (hb2'.mono hbl.size)
      clear g1 c0 c1 c2 hb2'
      cases hq : ((gs r k).fr != c) with
      | true =>
        have hne : (gs r k).fr ≠ c := by simpa using hq
        have HNE := Lib.hid hne
        clear hq hne
        go_wp2
        go_ret
        exact ⟨.inr ⟨k, hlt, HK.out, HNE.out, rfl⟩, hbl2⟩
      | false =>
        have hnx : sameTo r c (k + 1) := fun i hi => by
          by_cases e : i = k
          · subst e; simpa using hq
          · exact HK.out i (by omega)
        have HNX := Lib.hid hnx
        clear hnx hq
        go_wp2
        go_roundw
        case rel => exact ⟨k + 1, by omega, by go_num, HNX, hbl2⟩
        case measure => simp [intOf]; omega
    · have hkk : r.length = k := by omega
      have hs : sameTo r c r.length := by rw [hkk]; exact HK.out
      have HS := Lib.hid hs
      clear hs
      go_wp2
      go_ret
      exact ⟨.inl ⟨HS.out, rfl⟩, hbl⟩

/-- the rights of a child -/
def keepR (l : List Sp) (c : Int) : List Sp := l.filter fun x => x.fr == c
theorem keepR_same {l : List Sp} {c : Int} (h : sameTo l c l.length) : keepR l c = l := by
  refine List.filter_eq_self.2 fun x hx => ?_
  obtain ⟨i, hi, rfl⟩ := List.mem_iff_getElem.1 hx
  rw [gs_getElem l i hi, h i hi]; simp
theorem take_gs {l : List Sp} {k : Nat} (h : k < l.length) : l.take (k + 1) = l.take k ++ [gs l k] := by
  rw [List.take_add_one]; simp [gs, h]
theorem keepR_take {l : List Sp} {c : Int} {k : Nat} (hk : k ≤ l.length) (h : sameTo l c k) : keepR (l.take k) c = l.take k := by
  refine List.filter_eq_self.2 fun x hx => ?_
  obtain ⟨i, hi, rfl⟩ := List.mem_iff_getElem.1 hx
  have hi' : i < k := by rw [List.length_take] at hi; omega
  rw [List.getElem_take, gs_getElem l i (by omega), h i hi']; simp
/-- the row m when the first j have been looked at and i are kept -/
structure Del (l m : List Sp) (c : Int) (i j : Nat) : Prop where
  len : m.length = l.length
  ij : i < j
  jn : j ≤ l.length
  kept : m.take i = keepR (l.take j) c
  il : (keepR (l.take j) c).length = i
  rest : ∀ k, j ≤ k → gs m k = gs l k
theorem Del.yes {l m : List Sp} {c : Int} {i j : Nat} (h : Del l m c i j) (hj : j < l.length) (he : (gs l j).fr = c) : Del l (m.set i (gs l j)) c (i + 1) (j + 1) := by
  have hi := h.ij
  have hlen := h.len
  have hk : keepR (l.take (j + 1)) c = keepR (l.take j) c ++ [gs l j] := by rw [take_gs hj, keepR, List.filter_append]; simp [keepR, he]
  refine ⟨by rw [List.length_set]; exact h.len, by omega, by omega, ?_, by rw [hk, List.length_append, h.il]; rfl, fun k hkj => ?_⟩
  · rw [hk, ← h.kept, List.take_add_one]
    congr 1
    · rw [List.take_set_of_le (Nat.le_refl _)]
    · simp [show i < m.length by omega]
  · rw [← h.rest k (by omega)]
    have hne : ¬ i = k := by omega
    simp [gs, List.getElem?_set, hne]
theorem Del.no {l m : List Sp} {c : Int} {i j : Nat} (h : Del l m c i j) (hj : j < l.length) (he : (gs l j).fr ≠ c) : Del l m c i (j + 1) := by
  have hi := h.ij
  have hk : keepR (l.take (j + 1)) c = keepR (l.take j) c := by rw [take_gs hj, keepR, List.filter_append]; simp [keepR, he]
  exact ⟨h.len, by omega, by omega, by rw [hk]; exact h.kept, by rw [hk]; exact h.il, fun k hkj => h.rest k (by omega)⟩
theorem Del.start {l : List Sp} {c : Int} {k : Nat} (hk : k < l.length) (h : sameTo l c k) (hne : (gs l k).fr ≠ c) : Del l l c k (k + 1) := by
  have e : keepR (l.take (k + 1)) c = l.take k := by
    rw [take_gs hk, keepR, List.filter_append]
    have := keepR_take (l := l) (c := c) (by omega) h
    unfold keepR at this
    rw [this]; simp [hne]
  exact ⟨rfl, by omega, by omega, e.symm, by rw [e, List.length_take]; omega, fun _ _ => rfl⟩
end Go.Proofs.Ytoopmancobfjeaa
