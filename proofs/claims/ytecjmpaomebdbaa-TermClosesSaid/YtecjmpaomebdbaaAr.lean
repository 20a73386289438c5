/-
  slices.Insert of one number, at a slice of the call's own.
-/
import Derived.Test.YtecjmpaomebdbaaAq
import Derived.Shelf.Spec.SlicesInsertGrow
namespace Go.Proofs.Ytecjmpaomebdbaa
set_option linter.unusedVariables false
set_option linter.unusedSimpArgs false
open Go.RowKit Go.Shelf

def dl21_ren : Go.Shelf.Ren := ⟨fun | 21 => 65 | 27 => 80 | 28 => 81 | 35 => 84 | 39 => 86 | n => n, fun | 22 => 22 | 3 => 3 | 4 => 4 | 0 => 0 | n => n, fun | n => n⟩
theorem dl21 : Go.Proofs.Lays2.n21 Try.prog dl21_ren := {
  mixed := by kernel_rfl
  f21 := Try.func65.trans (congrArg some (by kernel_rfl))
  f27 := Try.func80.trans (congrArg some (by kernel_rfl))
  f28 := Try.func81.trans (congrArg some (by kernel_rfl))
  f35 := Try.func84.trans (congrArg some (by kernel_rfl))
  f39 := Try.func86.trans (congrArg some (by kernel_rfl))
  t0 := Try.underlying0
  a0 := Try.isAgg0
  z0 := Try.sizeOf0
  v0 := Try.zeroValue0
  t3 := Try.underlying3
  a3 := Try.isAgg3
  z3 := Try.sizeOf3
  v3 := Try.zeroValue3
  t4 := Try.underlying4
  a4 := Try.isAgg4
  z4 := Try.sizeOf4
  v4 := Try.zeroValue4
  t22 := Try.underlying22
  a22 := Try.isAgg22
  z22 := Try.sizeOf22
  v22 := Try.zeroValue22
  i3 := by kernel_rfl }

theorem insert_end (l : List Int) (x : Int) (hl : l.length ≤ 1000000) (A : Option Addr) (c base h : Nat) (w : World) (own : OwnN w base A c l) (hx : w.cell? ⟨h, 0, none⟩ = some (.int .i64 x)) (hbase : base ≤ w.heap.size) :
    Calls Try.prog 65 #[.slice A l.length c, .int .i64 l.length, .slice (some ⟨h, 0, none⟩) 1 1] w fun e w' => ∃ A' c', e = .returned (.slice A' (l.length + 1) c') ∧ OwnN w' base A' c' (l ++ [x]) ∧ Below base w w' := by
  obtain ⟨i0, hi0, hz0, hz1, hz2⟩ := info_parts info_int
  have hr : Reads w (h + 1) 1 (some ⟨h, 0, none⟩) 1 [.int .i64 x] := ⟨rfl, fun _ => ⟨⟨h, 0, none⟩, rfl, by show h < h + 1; omega, fun j u hu => by
    cases j with
    | zero => simp at hu; subst hu; exact hx
    | succ j => simp at hu⟩⟩
  go_enter Try.func65, Try.ntmps65
  go_wp2_with (at_builtin; refine wpList_append_any _ rfl _ _ 22 rfl base 3 i0 _ 1 8 Try.underlying22 hi0 hz0 hz1 hz2 rfl (by omega) _ l.length (ints l) rfl own _ (some ⟨h, 0, none⟩) 1 1 [.int .i64 x] rfl hr (by simp [Value.oneCell']) (by unfold maxLen; omega) (by omega) hbase ?_; intro v' w2 own2 hg2 hat2)
  all_goals
    obtain ⟨A', c', rfl⟩ := own_shape own2
    have hb2 : Below base w w2 := (Below.refl base w).grown hg2 hbase (fun k hk => (World.ownsRow.lt own k hk).1)
    clear hg2 hat2
    go_ret
    exact ⟨A', c', rfl, OwnN.snoc own2 rfl rfl, hb2⟩


theorem splice_a (cs D : List Value) (i : Nat) (v : Value) (h : i + 1 + D.length ≤ cs.length) : splice (splice cs (i + 1) D) i [v] = cs.take i ++ (v :: (D ++ cs.drop (i + 1 + D.length))) := by
  have h1 : (cs.take (i + 1)).length = i + 1 := by rw [List.length_take]; omega
  simp only [splice, List.length_cons, List.length_nil, Nat.zero_add]
  rw [List.take_append_of_le_length (by omega), List.take_take, Nat.min_eq_left (by omega), List.drop_append_of_le_length (by omega), List.drop_of_length_le (by omega)]
  simp
theorem splice_b (cs D : List Value) (i : Nat) (v : Value) (h : i + 1 + D.length ≤ cs.length) : splice (splice cs i [v]) (i + 1) D = cs.take i ++ (v :: (D ++ cs.drop (i + 1 + D.length))) := by
  have h1 : (cs.take i).length = i := by rw [List.length_take]; omega
  have e : cs.take i ++ ([v] ++ cs.drop (i + [v].length)) = (cs.take i ++ [v]) ++ cs.drop (i + 1) := by simp
  have h2 : (cs.take i ++ [v]).length = i + 1 := by simp [h1]
  simp only [splice]
  rw [e, List.take_append_of_le_length (by omega), List.take_of_length_le (by omega), List.drop_append, List.drop_of_length_le (by omega), h2, List.drop_drop]
  simp
theorem ins_take {l : List Int} {i : Nat} (x : Int) (hi : i < l.length) (R : List Value) : ((ints l).take i ++ (Value.int .i64 x :: ((ints l).drop i ++ R))).take (l.length + 1) = ints (withIn l i x) := by
  have e : (ints l).take i ++ (Value.int .i64 x :: ((ints l).drop i ++ R)) = ints (withIn l i x) ++ R := by simp [ints, withIn]
  have h1 : (ints (withIn l i x)).length = l.length + 1 := by rw [ints, List.length_map, withIn_len (by omega)]
  rw [e, List.take_append_of_le_length (by omega), List.take_of_length_le (by omega)]

theorem insert_any (l : List Int) (x : Int) (i : Nat) (hi : i ≤ l.length) (hl : l.length ≤ 1000000) (A : Option Addr) (c base h : Nat) (w : World) (own : OwnN w base A c l) (hx : w.heap[h]? = some (.cells #[.int .i64 x] 3 (0, 0))) (hne : ∀ a, A = some a → h ≠ a.block) (hbase : base ≤ w.heap.size) :
    Calls Try.prog 65 #[.slice A l.length c, .int .i64 i, .slice (some ⟨h, 0, none⟩) 1 1] w fun e w' => ∃ A' c', e = .returned (.slice A' (l.length + 1) c') ∧ OwnN w' base A' c' (withIn l i x) ∧ Below base w w' := by
  have hx0 : w.cell? ⟨h, 0, none⟩ = some (.int .i64 x) := by rw [cell_of_row w h 0 _ _ _ hx]; rfl
  by_cases he : i = l.length
  · subst he
    have := insert_end l x hl A c base h w own hx0 hbase
    simpa [withIn] using this
  · obtain ⟨g, cur, rfl, hbg, hg, hc, hlc, hm, ht⟩ := own.row (by omega)
    have hL := own
    unfold OwnN at hL
    have hil : (ints l).length = l.length := by simp [ints]
    have hcs : ∀ j v, (ints l)[j]? = some v → w.cell? ⟨g, 0 + j, none⟩ = some v := by
      intro j v hv
      rw [Nat.zero_add, World.ownsRow.cellAt hL j (by have := (List.getElem?_eq_some_iff.1 hv).1; omega)]
      exact hv
    have hvs : ∀ j v, [Value.int .i64 x][j]? = some v → w.cell? ⟨h, 0 + j, none⟩ = some v := by
      intro j v hv
      cases j with
      | zero => simp at hv; subst hv; exact hx0
      | succ j => simp at hv
    have h1v : ∀ v ∈ [Value.int .i64 x], v.oneCell' = true := by simp [Value.oneCell']
    have hdl : ((ints l).drop i).length = l.length - i := by simp [ints]
    by_cases hroom : l.length + 1 ≤ c
    · have hh := Any2.slices_Insert_int_shift dl21 g 0 l.length c i h 0 1 1 (ints l) [.int .i64 x] w (by omega) (by omega) hroom (by unfold maxLen at hm; omega) (hne _ rfl) hil rfl hcs
        (fun j hj => by rw [Nat.zero_add, cell_of_row w g j _ _ _ hg]; simp; omega) (fun j _ => World.ownsRow.frozenAt hL _) hvs (ints_one l) h1v
        3 3 1 c (by simp [World.shape?, hx]) (by simp [World.shape?, hg, hc]) (by omega) (frozen_of_row w h 0 _ _ hx) (frozen_of_row w h 1 _ _ hx)
      refine Calls.mono hh ?_
      rintro e w' ⟨rfl, rfl⟩
      rw [show 0 + (i + 1) = i + 1 by omega, show 0 + i = i by omega]
      have q1 := cells_setCells g ((ints l).drop i) (i + 1) w.drew cur 3 hg (by omega)
      have q2 := cells_setCells g [.int .i64 x] i _ _ 3 q1 (by rw [length_splice _ _ _ (by omega)]; simp; omega)
      rw [splice_a cur _ i _ (by omega)] at q2
      refine ⟨_, c, rfl, OwnN.of_row hbg q2 (by simp [hdl]; omega) (by rw [withIn_len (by omega)]; omega) hm ?_, below_setCells hbg _ _ _ (below_setCells hbg _ _ _ (Below.refl _ _).drew)⟩
      have e : cur.take i = (ints l).take i := by rw [← ht, List.take_take, Nat.min_eq_left (by omega)]
      rw [withIn_len (by omega), e]
      exact ins_take x (by omega) _
    · have hh := Any2.slices_Insert_int_grow dl21 g 0 l.length c i h 0 1 1 (ints l) [.int .i64 x] w (by omega) (by omega) hlc (by omega) (by omega) hil rfl hcs hvs (ints_one l) h1v
      refine Calls.mono hh ?_
      rintro e w' ⟨rfl, rfl⟩
      have hge := grownCap_ge w (l.length + 1) c 3
      have hcm := grownCap_le_maxLen w (l.length + 1) c 3 (by unfold maxLen; omega)
      have hgd : grownCap w (l.length + 1) c (dl21_ren.t 3) = grownCap w (l.length + 1) c 3 := rfl
      generalize hC : grownCap w (l.length + 1) c (dl21_ren.t 3) = C at *
      rw [← hgd] at hge hcm
      obtain ⟨Z, hZ⟩ : ∃ Z : List Value, (((ints l).take i).toArray ++ Builtin.zeroCells (Value.int .i64 0).cells (l.length + 1 - i) ++ Builtin.zeroCells (Value.int .i64 0).cells (C - (l.length + 1))) = Z.toArray ∧ Z.take i = (ints l).take i ∧ Z.length = C := by
        refine ⟨(ints l).take i ++ ((Builtin.zeroCells (Value.int .i64 0).cells (l.length + 1 - i)).toList ++ (Builtin.zeroCells (Value.int .i64 0).cells (C - (l.length + 1))).toList), by apply Array.ext'; simp, ?_, ?_⟩
        · have h1 : ((ints l).take i).length = i := by rw [List.length_take]; omega
          rw [List.take_append_of_le_length (by omega), List.take_of_length_le (by omega)]
        · simp [size_zeroCells, Value.cells, ints]; omega
      rw [hZ.1]
      have g0 : (w.alloc (.cells Z.toArray (dl21_ren.t 3))).drew.heap[w.heap.size]? = some (.cells Z.toArray 3 (0, 0)) := heap_alloc_new _ _
      have q1 := cells_setCells w.heap.size [.int .i64 x] i _ _ 3 g0 (by simp; omega)
      have q2 := cells_setCells w.heap.size ((ints l).drop i) (i + 1) (World.drew ((w.alloc (.cells Z.toArray (dl21_ren.t 3))).drew.setCells w.heap.size i [.int .i64 x])) (splice Z i [.int .i64 x]) 3 q1 (by rw [length_splice _ _ _ (by simp; omega)]; omega)
      rw [splice_b Z _ i _ (by omega)] at q2
      refine ⟨_, C, rfl, OwnN.of_row hbase q2 (by simp [hdl]; omega) (by rw [withIn_len (by omega)]; omega) hcm ?_, below_setCells hbase _ _ _ (below_setCells hbase _ _ _ ((Below.refl _ _).alloc hbase _).drew).drew⟩
      rw [withIn_len (by omega), hZ.2.1]
      exact ins_take x (by omega) _
end Go.Proofs.Ytecjmpaomebdbaa
