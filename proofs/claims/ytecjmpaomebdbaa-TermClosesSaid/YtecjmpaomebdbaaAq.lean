/-
  slices.Delete of one number (the library's contract is the shelf's, laid at this program by its tool) and slices.Insert of one number, at a slice of the call's own.
-/
import Derived.Test.YtecjmpaomebdbaaAp
import Derived.Shelf.Slices.Cells
import Derived.Laws.CopyOwn
import Derived.Lib.AppendZeros
namespace Go.Proofs.Ytecjmpaomebdbaa
set_option linter.unusedVariables false
set_option linter.unusedSimpArgs false
open Go.RowKit Go.Shelf

def dl23_ren : Go.Shelf.Ren := ⟨fun | 23 => 66 | n => n, fun | 22 => 22 | 3 => 3 | 4 => 4 | 0 => 0 | n => n, fun | n => n⟩
theorem dl23 : Go.Proofs.Lays2.n23 Try.prog dl23_ren := {
  mixed := by kernel_rfl
  f23 := Try.func66.trans (congrArg some (by kernel_rfl))
  t0 := Try.underlying0
  a0 := Try.isAgg0
  z0 := Try.sizeOf0
  v0 := Try.zeroValue0
  t3 := Try.underlying3
  a3 := Try.isAgg3
  z3 := Try.sizeOf3
  v3 := Try.zeroValue3
  t4 := Try.underlying4
  a4 := Try.isAgg4
  z4 := Try.sizeOf4
  v4 := Try.zeroValue4
  t22 := Try.underlying22
  a22 := Try.isAgg22
  z22 := Try.sizeOf22
  v22 := Try.zeroValue22
  i3 := by kernel_rfl }

theorem cells_setCells (b : Nat) : ∀ (vs : List Value) (o : Nat) (w : World) (cur : List Value) (t : TypeId), w.heap[b]? = some (.cells cur.toArray t (0, 0)) → o + vs.length ≤ cur.length →
    (w.setCells b o vs).heap[b]? = some (.cells (splice cur o vs).toArray t (0, 0))
  | [], o, w, cur, t, hg, h => by simpa [World.setCells, splice] using hg
  | v :: vs, o, w, cur, t, hg, h => by
    simp only [List.length_cons] at h
    have e := heap_setCell_same w b o cur.toArray t v hg
    have e2 : (cur.toArray.setIfInBounds o v) = (cur.set o v).toArray := by simp
    rw [e2] at e
    have ih := cells_setCells b vs (o + 1) (w.setCell ⟨b, o, none⟩ v) (cur.set o v) t e (by rw [List.length_set]; omega)
    simp only [World.setCells]
    rw [ih]
    have e3 := list_seg_step cur o v vs (by omega)
    simp only [splice, List.length_cons]
    rw [← List.append_assoc, e3, List.append_assoc]
theorem below_setCells {B b : Nat} (hB : B ≤ b) {w0 : World} : ∀ (vs : List Value) (o : Nat) (w : World), Below B w0 w → Below B w0 (w.setCells b o vs)
  | [], _, _, h => h
  | v :: vs, o, w, h => below_setCells hB vs (o + 1) _ (h.setCell (p := ⟨b, o, none⟩) hB v)
theorem OwnN.row {w : World} {base c : Nat} {A : Option Addr} {l : List Int} (h : OwnN w base A c l) (hl : 0 < l.length) :
    ∃ g, ∃ cur : List Value, A = some ⟨g, 0, none⟩ ∧ base ≤ g ∧ w.heap[g]? = some (.cells cur.toArray 3 (0, 0)) ∧ cur.length = c ∧ l.length ≤ c ∧ c ≤ maxLen ∧ cur.take l.length = ints l := by
  rcases h.2 with ⟨h1, h2⟩ | ⟨g, cap, cur, h1, hbg, hg, h3, h4, h5, h6⟩
  · omega
  · injection h1 with h1 _ hc
    subst h1
    subst hc
    exact ⟨g, cur.toList, rfl, hbg, by simpa using hg, by simpa using h5, h3, h4, by simpa using h6⟩
theorem OwnN.of_row {w : World} {base c g : Nat} {cur : List Value} {l : List Int} (hb : base ≤ g) (hg : w.heap[g]? = some (.cells cur.toArray 3 (0, 0))) (hc : cur.length = c) (hn : l.length ≤ c) (hm : c ≤ maxLen) (ht : cur.take l.length = ints l) : OwnN w base (some ⟨g, 0, none⟩) c l :=
  ⟨by simp [ints], .inr ⟨g, c, cur.toArray, rfl, hb, hg, hn, hm, by simpa using hc, by simpa using ht⟩⟩

/-- the numbers without the one at a place; with one more there -/
def without (l : List Int) (i : Nat) : List Int := l.take i ++ l.drop (i + 1)
def withIn (l : List Int) (i : Nat) (x : Int) : List Int := l.take i ++ x :: l.drop i
theorem without_len {l : List Int} {i : Nat} (h : i < l.length) : (without l i).length = l.length - 1 := by simp [without]; omega
theorem withIn_len {l : List Int} {i : Nat} (h : i ≤ l.length) (x : Int) : (withIn l i x).length = l.length + 1 := by simp [withIn]; omega

theorem delete_any (l : List Int) (i : Nat) (hi : i < l.length) (hl : l.length ≤ 1000000) (A : Option Addr) (c base : Nat) (w : World) (own : OwnN w base A c l) (hbs : base ≤ w.heap.size) :
    Calls Try.prog 66 #[.slice A l.length c, .int .i64 i, .int .i64 ((i + 1 : Nat) : Int)] w fun e w' => e = .returned (.slice A (l.length - 1) c) ∧ OwnN w' base A c (without l i) ∧ Below base w w' := by
  obtain ⟨g, cur, rfl, hbg, hg, hc, hlc, hm, ht⟩ := own.row (by omega)
  have hL := own
  unfold OwnN at hL
  have hcell : ∀ j, j < l.length → w.cell? ⟨g, 0 + j, none⟩ = some (.int .i64 (l.getD j 0)) := by
    intro j hj
    rw [Nat.zero_add, World.ownsRow.cellAt hL j (by omega)]
    simp [ints, hj]
  have hfr : ∀ j, j < l.length → w.frozen? ⟨g, 0 + j, none⟩ = false := fun j _ => World.ownsRow.frozenAt hL _
  have h := Any.slices_Delete_int_cells dl23 g 0 l.length c i (i + 1) l w (Nat.le_refl _) hlc (by unfold maxLen at hm; omega) (by omega) (by omega) hcell hfr
  refine Calls.mono h ?_
  rintro e w' ⟨rfl, q, rfl⟩
  have hb1 : Below base w (w.drewN q) := (below_drewN (Below.refl _ _) _)
  refine ⟨by rw [show l.length - (i + 1 - i) = l.length - 1 by omega], ?_, below_setCells hbg _ _ _ hb1⟩
  have hv : (((l.take l.length).take i ++ (l.take l.length).drop (i + 1) ++ List.replicate (i + 1 - i) 0).map (Value.int .i64)) = ints (without l i) ++ [.int .i64 0] := by
    rw [List.take_length, show i + 1 - i = 1 by omega]; simp [without, ints]
  rw [hv]
  have hwl := without_len hi
  have hil : (ints (without l i)).length = l.length - 1 := by simp [ints, hwl]
  have hcur := cells_setCells g (ints (without l i) ++ [.int .i64 0]) 0 (w.drewN q) cur 3 hg (by simp [hil]; omega)
  refine OwnN.of_row hbg hcur (by rw [length_splice _ _ _ (by simp [hil]; omega)]; exact hc) (by omega) hm ?_
  simp only [splice, List.take_zero, List.nil_append, List.append_assoc]
  rw [hwl, List.take_append_of_le_length (by omega), List.take_of_length_le (by omega)]
theorem delete_any' (l : List Int) (i : Nat) (hi : i < l.length) (hl : l.length ≤ 1000000) (A : Option Addr) (c base : Nat) (w : World) (own : OwnN w base A c l) (hbs : base ≤ w.heap.size) :
    Calls Try.prog 66 #[.slice A l.length c, .int .i64 i, .int .i64 (IntKind.i64.wrap ((i : Int) + 1))] w fun e w' => e = .returned (.slice A (l.length - 1) c) ∧ OwnN w' base A c (without l i) ∧ Below base w w' := by
  have h := delete_any l i hi hl A c base w own hbs
  rw [Int.natCast_succ] at h
  rwa [wrap_small _ (by omega) (by omega)]
end Go.Proofs.Ytecjmpaomebdbaa
