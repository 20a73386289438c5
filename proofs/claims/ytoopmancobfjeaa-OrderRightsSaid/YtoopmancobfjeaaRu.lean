/-
  slices.SortFunc at rights of the call's own (the library's contract is the shelf's, laid at this program by its tool).
-/
import Derived.Test.YtoopmancobfjeaaRt
import Derived.Shelf.SlSortCmp.WholeK
namespace Go.Proofs.Ytoopmancobfjeaa
set_option linter.unusedVariables false
set_option linter.unusedSimpArgs false
open Go.RowKit Go.Shelf Go.Sort Go.Lib Go.Proofs

def srt_ren : Go.Shelf.Ren := ⟨fun | 6 => 88 | 15 => 102 | 14 => 101 | 28 => 113 | 29 => 114 | 20 => 105 | 21 => 106 | 22 => 107 | 23 => 108 | 24 => 109 | 25 => 110 | 26 => 111 | 27 => 112 | 46 => 115 | 47 => 116 | 48 => 117 | 49 => 118 | 50 => 119 | 57 => 120 | n => n, fun | 22 => 64 | 24 => 105 | 25 => 110 | 3 => 3 | 39 => 121 | 0 => 0 | 53 => 131 | 55 => 133 | 4 => 4 | 46 => 125 | 45 => 124 | 50 => 111 | 5 => 5 | 9 => 9 | 66 => 134 | 70 => 138 | 76 => 140 | 77 => 141 | n => n, fun | n => n⟩
theorem srt : Go.Proofs.SlLaysF0.n6 Try.prog srt_ren := {
  mixed := by kernel_rfl
  f6 := ⟨Try.f88.name, by decide, Try.func88.trans (congrArg some (by kernel_rfl))⟩
  f14 := ⟨Try.f101.name, by decide, Try.func101.trans (congrArg some (by kernel_rfl))⟩
  f15 := Try.func102.trans (congrArg some (by kernel_rfl))
  f20 := ⟨Try.f105.name, by decide, Try.func105.trans (congrArg some (by kernel_rfl))⟩
  f21 := ⟨Try.f106.name, by decide, Try.func106.trans (congrArg some (by kernel_rfl))⟩
  f22 := ⟨Try.f107.name, by decide, Try.func107.trans (congrArg some (by kernel_rfl))⟩
  f23 := ⟨Try.f108.name, by decide, Try.func108.trans (congrArg some (by kernel_rfl))⟩
  f24 := ⟨Try.f109.name, by decide, Try.func109.trans (congrArg some (by kernel_rfl))⟩
  f25 := ⟨Try.f110.name, by decide, Try.func110.trans (congrArg some (by kernel_rfl))⟩
  f26 := ⟨Try.f111.name, by decide, Try.func111.trans (congrArg some (by kernel_rfl))⟩
  f27 := ⟨Try.f112.name, by decide, Try.func112.trans (congrArg some (by kernel_rfl))⟩
  f28 := Try.func113.trans (congrArg some (by kernel_rfl))
  f29 := Try.func114.trans (congrArg some (by kernel_rfl))
  f46 := ⟨Try.f115.name, by decide, Try.func115.trans (congrArg some (by kernel_rfl))⟩
  f47 := Try.func116.trans (congrArg some (by kernel_rfl))
  f48 := Try.func117.trans (congrArg some (by kernel_rfl))
  f49 := ⟨Try.f118.name, by decide, Try.func118.trans (congrArg some (by kernel_rfl))⟩
  f50 := ⟨Try.f119.name, by decide, Try.func119.trans (congrArg some (by kernel_rfl))⟩
  f57 := ⟨Try.f120.name, by decide, Try.func120.trans (congrArg some (by kernel_rfl))⟩
  t0 := Try.underlying0
  a0 := Try.isAgg0
  z0 := Try.sizeOf0
  v0 := Try.zeroValue0
  t3 := Try.underlying3
  a3 := Try.isAgg3
  z3 := Try.sizeOf3
  v3 := Try.zeroValue3
  t4 := Try.underlying4
  a4 := Try.isAgg4
  z4 := Try.sizeOf4
  v4 := Try.zeroValue4
  t5 := Try.underlying5
  a5 := Try.isAgg5
  z5 := Try.sizeOf5
  v5 := Try.zeroValue5
  t9 := Try.underlying9
  a9 := Try.isAgg9
  z9 := Try.sizeOf9
  v9 := Try.zeroValue9
  t22 := Try.underlying64
  a22 := Try.isAgg64
  z22 := Try.sizeOf64
  v22 := Try.zeroValue64
  t25 := Try.underlying110
  a25 := Try.isAgg110
  z25 := Try.sizeOf110
  v25 := Try.zeroValue110
  t39 := Try.underlying121
  a39 := Try.isAgg121
  z39 := Try.sizeOf121
  v39 := Try.zeroValue121
  t45 := Try.underlying124
  a45 := Try.isAgg124
  z45 := Try.sizeOf124
  v45 := Try.zeroValue124
  t46 := Try.underlying125
  a46 := Try.isAgg125
  z46 := Try.sizeOf125
  v46 := Try.zeroValue125
  t50 := Try.underlying111
  a50 := Try.isAgg111
  z50 := Try.sizeOf111
  v50 := Try.zeroValue111
  t53 := Try.underlying131
  a53 := Try.isAgg131
  z53 := Try.sizeOf131
  v53 := Try.zeroValue131
  t55 := Try.underlying133
  a55 := Try.isAgg133
  z55 := Try.sizeOf133
  v55 := Try.zeroValue133
  t66 := Try.underlying134
  a66 := Try.isAgg134
  z66 := Try.sizeOf134
  v66 := Try.zeroValue134
  t70 := Try.underlying138
  a70 := Try.isAgg138
  z70 := Try.sizeOf138
  v70 := Try.zeroValue138
  t76 := Try.underlying140
  a76 := Try.isAgg140
  z76 := Try.sizeOf140
  v76 := Try.zeroValue140
  t77 := Try.underlying141
  a77 := Try.isAgg141
  z77 := Try.sizeOf141
  v77 := Try.zeroValue141 }

instance instInhSp : Inhabited Sp := ⟨⟨0, 0, 0⟩⟩
theorem flat_cells (l : List Sp) : flatK Sp.vals 3 l.toArray = (cellsS l).toArray := by
  apply Array.ext_getElem?
  intro t
  by_cases h : t < l.length * 3
  · have h1 : (cellsS l)[t]? = (gs l (t / 3)).vals[t % 3]? := by
      have := cellsS_at l (t / 3) (t % 3) (by omega) (Nat.mod_lt _ (by omega))
      rw [show t / 3 * 3 + t % 3 = t by omega] at this
      exact this
    have h2 : t < (flatK Sp.vals 3 l.toArray).size := by rw [size_flatK]; simpa using h
    have h3 := get_flatK Sp.vals 3 l.toArray t (by simpa using h)
    rw [Array.getElem?_eq_getElem h2, ← getElem!_pos (flatK Sp.vals 3 l.toArray) t h2, h3]
    simp only [List.getElem?_toArray]
    rw [h1]
    have h4 : l.toArray[t / 3]! = gs l (t / 3) := by
      rw [getElem!_pos l.toArray (t / 3) (by simp; omega)]
      simp [gs, show t / 3 < l.length by omega]
    have h5 : t % 3 < (gs l (t / 3)).vals.length := by simp [Sp.vals]; omega
    rw [h4, List.getElem?_eq_getElem h5, getElem!_pos (gs l (t / 3)).vals (t % 3) h5]
  · rw [Array.getElem?_eq_none (by rw [size_flatK]; simp; omega), Array.getElem?_eq_none (by simp [cellsS_length]; omega)]
theorem heap_sortedV {w : World} {g n : Nat} {os : Array Obj} {cur : Array Value} {e : TypeId} {fr : Nat × Nat} (d : Array Value) (hb : w.heap[g]? = some (.cells cur e fr)) :
    (grow (putRow id (Sort.ahead w n) g 0 d) os).heap[g]? = some (.cells (putCells id 0 d cur) e fr) := by
  have hg : g < w.heap.size := (Array.getElem?_eq_some_iff.1 hb).1
  rw [heap_grow_old _ _ (by simpa using hg)]
  simp [putRow, mapBlock, Sort.ahead, Array.getElem?_modify, hb, onCells]
theorem grownBy_sortedV {w : World} {g n : Nat} {os : Array Obj} (d : Array Value) : w.grownBy (grow (putRow id (Sort.ahead w n) g 0 d) os) (some g) := by
  refine ⟨rfl, rfl, rfl, by simp, fun k hk hne => ?_⟩
  rw [heap_grow_old _ _ (by simpa using hk)]
  have : g ≠ k := fun e => hne (by rw [e])
  simp [putRow, mapBlock, Sort.ahead, Array.getElem?_modify, this]
theorem take_putCellsV (cur : Array Value) (ts : List Value) (h : ts.length ≤ cur.size) : (putCells id 0 ts.toArray cur).toList.take ts.length = ts := by
  apply List.ext_getElem?
  intro j
  by_cases hj : j < ts.length
  · rw [List.getElem?_take_of_lt hj, Array.getElem?_toList]
    simp [putCells, hj, show j < cur.size by omega]
  · rw [List.getElem?_take_eq_none (by omega), List.getElem?_eq_none (by omega)]

def cfR (x y : Sp) : Int := Lib.compareInt x.un y.un
theorem ltR (x y : Sp) : ltOf cfR x y = decide (x.un < y.un) := by
  unfold ltOf cfR Lib.compareInt
  by_cases h1 : x.un < y.un
  · simp [h1]
  · by_cases h2 : y.un < x.un <;> simp [h1, h2]
theorem swoR : SWO (ltOf cfR) where
  irrefl x := by rw [ltR]; simp
  trans x y z h1 h2 := by rw [ltR] at *; simp at *; omega
  ntrans x y z h1 h2 := by rw [ltR] at *; simp at *; omega

set_option maxRecDepth 100000 in
set_option maxHeartbeats 1000000 in
theorem comp_any (x y : Sp) (W : World) : Calls Try.prog 89 #[.agg #[.int .i64 x.fr, .int .i64 x.un, .int .i64 x.me], .agg #[.int .i64 y.fr, .int .i64 y.un, .int .i64 y.me]] W fun e w' => e = .returned (.int .i64 (cfR x y)) ∧ ∃ q os', w' = grow (W.drewN q) os' := by
  obtain ⟨r, hr⟩ : ∃ r, r = cfR x y := ⟨_, rfl⟩
  rw [← hr]
  rcases Int.lt_trichotomy x.un y.un with h | h | h
  · have e : r = -1 := by rw [hr, cfR, Lib.compareInt]; simp [h]
    have E := Lib.hid e
    clear e hr
    go_enter Try.func89, Try.ntmps89
    go_wp2
    go_ret
    exact ⟨by rw [E.out] <;> rfl, 0, _, by rw [alloc_eq_grow, alloc_eq_grow, grow_grow]; rfl⟩
  · have e : r = 0 := by rw [hr, cfR, Lib.compareInt]; simp [h]
    have E := Lib.hid e
    have h1 : ¬ x.un < y.un := by omega
    have h2 : ¬ y.un < x.un := by omega
    clear e hr h
    go_enter Try.func89, Try.ntmps89
    go_wp2
    go_ret
    exact ⟨by rw [E.out] <;> rfl, 0, _, by rw [alloc_eq_grow, alloc_eq_grow, grow_grow]; rfl⟩
  · have e : r = 1 := by rw [hr, cfR, Lib.compareInt]; simp [h, show ¬ x.un < y.un by omega]
    have E := Lib.hid e
    have h1 : ¬ x.un < y.un := by omega
    clear e hr
    go_enter Try.func89, Try.ntmps89
    go_wp2
    go_ret
    exact ⟨by rw [E.out] <;> rfl, 0, _, by rw [alloc_eq_grow, alloc_eq_grow, grow_grow]; rfl⟩

theorem sortR_some (l : List Sp) (hl : l.length ≤ 1000000) (h0 : 0 < l.length) (A : Option Addr) (cp base : Nat) (w : World) (own : OwnR w base A cp l) (hbase : base ≤ w.heap.size) :
    Calls Try.prog 88 #[.slice A l.length cp, .func (.func 89) #[] #[]] w fun e w' =>
      e = .returned (.tuple #[]) ∧ ∃ m : List Sp, m.Perm l ∧ (∀ i j, i < j → j < m.length → (gs m i).un ≤ (gs m j).un) ∧ OwnR w' base A cp m ∧ Below base w w' := by
  obtain ⟨g, cur, rfl, hbg, hg, hc, hlc, hm, ht⟩ := own.row h0
  have hL := own
  unfold OwnR at hL
  have hgs := (World.ownsRow.lt hL g rfl).2
  have hH : HoldsK Sp.vals 3 w g 0 l.toArray := by
    unfold HoldsK
    rw [flat_cells]
    intro j hj
    have hj' : j < (cellsS l).length := by simpa using hj
    rw [Nat.zero_add]
    refine ⟨?_, World.ownsRow.frozenAt hL _⟩
    rw [World.ownsRow.cellAt hL j (by rw [cellsS_length] at hj'; exact hj'), getElem!_pos (cellsS l).toArray j hj]
    simp [hj']
  have eg : ∀ args w, (callFunc 89 args).run Try.prog w = .ok (.enter 89 args) w := enters_of Try.func89 (by kernel_rfl) rfl
  have hcon := AnyQ.slices_SortFunc srt 3 Try.isAgg105 Try.sizeOf105 Sp.vals (fun _ => rfl) (fun x v hv => by simp only [Sp.vals, List.mem_cons, List.not_mem_nil, or_false] at hv; rcases hv with rfl | rfl | rfl <;> rfl) cfR swoR 89 #[] g 0 cp l.toArray w eg (fun _ _ _ _ x y => comp_any x y _) hH hgs (by simp; omega)
  have e1 : l.toArray.size = l.length := by simp
  rw [e1] at hcon
  refine Calls.mono hcon ?_
  rintro e w' ⟨rfl, d', n, os, ⟨hs1, -, hp⟩, hs, rfl⟩
  obtain ⟨m, rfl⟩ : ∃ m : List Sp, d' = m.toArray := ⟨d'.toList, by simp⟩
  have hml : m.length = l.length := by simpa using hs1
  have hpm : m.Perm l := by
    have h1 : (m.toArray.extract 0 l.length).toList = m := by rw [← hml]; simp
    have h2 : (l.toArray.extract 0 l.length).toList = l := by simp
    rw [h1, h2] at hp
    exact hp
  refine ⟨rfl, m, hpm, fun i j hij hj => ?_, ?_, ?_⟩
  · have h3 := hs i j (by omega) hij (by omega)
    rw [ltR, getElem!_pos m.toArray j (by simp; omega), getElem!_pos m.toArray i (by simp; omega)] at h3
    simp only [List.getElem_toArray, decide_eq_false_iff_not] at h3
    rw [gs_getElem _ _ (by omega), gs_getElem _ _ (by omega)] at h3
    omega
  · unfold sortWorldK putRowK
    rw [flat_cells]
    have h4 := heap_sortedV (n := n) (os := os) (cellsS m).toArray hg
    have h5 : (putCells id 0 (cellsS m).toArray cur.toArray) = (putCells id 0 (cellsS m).toArray cur.toArray).toList.toArray := by simp
    rw [h5] at h4
    refine OwnR.of_row hbg h4 (by simp [putCells]; omega) (by omega) hm ?_
    have h6 := take_putCellsV cur.toArray (cellsS m) (by rw [cellsS_length]; simp; omega)
    rw [cellsS_length] at h6
    exact h6
  · unfold sortWorldK putRowK
    exact (Below.refl base w).grown (grownBy_sortedV _) hbase (fun k hk => by cases hk; exact hbg)
end Go.Proofs.Ytoopmancobfjeaa
