/-
  Walks: days and spans.
-/
import Derived.Test.YtoopmancobfjeaaB
namespace Go.Proofs.Ytoopmancobfjeaa
set_option linter.unusedVariables false
set_option linter.unusedSimpArgs false
open Go.RowKit

theorem info_int : (Try.prog.info? 3).map (fun i => (i.zero, i.size, i.bytes)) = some (some (.int .i64 0), 1, 8) := by kernel_rfl
theorem info_span : (Try.prog.info? 81).map (fun i => (i.zero, i.size, i.bytes)) = some (some (.agg #[.int .i64 0, .int .i64 0, .int .i64 0]), 3, 24) := by kernel_rfl

def ints (l : List Int) : List Value := l.map (Value.int .i64)
theorem madeInts (n : Nat) : (madeCells (Value.int .i64 0).cells (n * 1)).toList = ints (List.replicate n 0) := by
  rw [Nat.mul_one]
  show (madeCells #[Value.int .i64 0] n).toList = _
  rw [toList_madeCells_one, ints, List.map_replicate]
/-- A slice of the call's own of so many integers. -/
def OwnI (w : World) (base g n : Nat) (xs : List Int) : Prop := xs.length = n ∧ w.ownsRow base 3 1 (.slice (some ⟨g, 0, none⟩) n n) n (ints xs)
section
variable {w w' : World} {base g n : Nat} {xs : List Int}
theorem OwnI.cell (h : OwnI w base g n xs) (k : Nat) (hk : k < n) : w.cell? ⟨g, k, none⟩ = some (.int .i64 (gi xs k)) := by
  have e := World.ownsRow.cellAt h.2 k (by omega)
  have hl := h.1
  rw [e]
  simp [ints, gi, show k < xs.length by omega]
theorem OwnI.frozen (h : OwnI w base g n xs) (k : Nat) : w.frozen? ⟨g, k, none⟩ = false := World.ownsRow.frozenAt h.2 k
theorem OwnI.lt (h : OwnI w base g n xs) : base ≤ g ∧ g < w.heap.size := World.ownsRow.lt h.2 g rfl
theorem OwnI.kept (h : OwnI w base g n xs) {B : Nat} (hb : Below B w w') (hB : g < B) : OwnI w' base g n xs :=
  ⟨h.1, own_below h.2 hb fun k hk => by simp [Value.ownBlock] at hk; omega⟩
theorem OwnI.stored (h : OwnI w base g n xs) (k : Nat) (v : Int) : OwnI (w.setCell ⟨g, k, none⟩ (.int .i64 v)) base g n (xs.set k v) := by
  have e := (World.ownsRow.stored h.2 k (.int .i64 v)).1
  refine ⟨by rw [List.length_set]; exact h.1, ?_⟩
  have : ints (xs.set k v) = (ints xs).set k (.int .i64 v) := by simp [ints]
  rw [this]
  exact e
end

set_option maxHeartbeats 1600000 in
theorem days_any (l : List Fact) (t child : Int) (hV : Vld l) (A : Option Addr) (c B : Nat) (hc : l.length ≤ c) (w : World) (hR : RF w B A l) :
    Calls Try.prog 62 #[.slice A l.length c, .int .i64 t, .int .i64 child] w fun e w' =>
      ∃ g, e = .returned (.slice (some ⟨g, 0, none⟩) 1000 1000) ∧ OwnI w' w.heap.size g 1000 (dayL l t child) ∧ Below w.heap.size w w' := by
  have hlen := hV.len
  obtain ⟨i0, hi, hz0, hz1, hz2⟩ := info_parts info_int
  go_enter Try.func62, Try.ntmps62
  go_wp2_with (at_make; refine wpList_make_full _ rfl _ _ 53 rfl w.heap.size 3 i0 _ 1 Try.underlying53 hi hz0 hz1 .i64 .i64 _ _ 1000 rfl rfl (by omega) (by omega) (by omega) (by unfold maxLen; omega) (by omega) ?_; intro w1 hown1 hg1)
  have hb1 : Below w.heap.size w w1 := (Below.refl _ _).grown hg1 (Nat.le_refl _) (by simp)
  have own1 : OwnI w1 w.heap.size w.heap.size 1000 (dayTo l t child 0) := by
    rw [dayTo_zero]; exact ⟨List.length_replicate, by rw [← madeInts]; exact hown1⟩
  clear hown1 hg1
  refine (until_any l t hV A c B hc _ (hR.below hb1)).mono ?_
  rintro e w2 ⟨n, hcut, rfl, hb2⟩
  have own2 := own1.kept hb2 own1.lt.2
  have hb3 := hb1.trans (hb2.mono hb1.size)
  clear own1 hb1 hb2
  have hn := hcut.1
  go_wp2
  go_loopw [16] (fun x wr => ∃ k : Nat, k ≤ n ∧ x = .int .i64 k ∧ OwnI wr w.heap.size w.heap.size 1000 (dayTo l t child k) ∧ Below w.heap.size w wr) (fun x _ => n - (intOf x).toNat)
  case atStart => exact ⟨0, by omega, rfl, own2, hb3⟩
  case round =>
    clear own2 hb3
    obtain ⟨k, hk, rfl, own, hbl⟩ := hrel
    obtain ⟨wo, rfl⟩ : ∃ wo : World, wo = wr := ⟨_, rfl⟩
    by_cases hlt : k < n
    · obtain ⟨ad, rfl, hab, c0, c1, c2, c3, c4⟩ := (hR.below hbl).at_ (k := k) (by omega)
      have hgz := own.lt.2
      by_cases hch : (gf l k).ch = child
      · have hch' : ((gf l k).ch == child) = true := by simp [hch]
        have HCH := Lib.hid hch; clear hch
        obtain ⟨q1, q2, q3, q4, q5, q6, q7, q8, q9⟩ := (right_iff _).1 (hV.right k (by omega))
        clear q1 q2 q3 q4 q8 q9
        have qt := hcut.2.1 k hlt
        go_wp2
        go_loopw [10] (fun y wi => ∃ x : Nat, y = .int .i64 x ∧ (gf l k).fr ≤ x ∧ x ≤ (gf l k).un ∧ OwnI wi w.heap.size w.heap.size 1000 (dayIn l t child k x) ∧ Below w.heap.size w wi ∧
          wi.cell? ⟨wo.heap.size, 3, none⟩ = some (.int .i64 (gf l k).un) ∧ wi.cell? ⟨wo.heap.size, 4, none⟩ = some (.int .i64 (gf l k).me)) (fun y _ => 1000 - (intOf y).toNat)
        case atStart =>
          refine ⟨(gf l k).fr.toNat, by rw [Int.toNat_of_nonneg q5], by omega, by omega, ?_, hbl.alloc hbl.size _, by simp [World.cell?_alloc_at], by simp [World.cell?_alloc_at]⟩
          rw [Int.toNat_of_nonneg q5, dayIn_start]
          exact own.kept ((Below.refl _ _).alloc (Nat.le_refl _) _) hgz
        case round =>
          clear own hbl c0 c1 c2 c3 c4 hab
          obtain ⟨x, rfl, hx1, hx2, own, hbl, d3, d4⟩ := hrel
          by_cases hxu : (x : Int) < (gf l k).un
          · have e1 := own.cell x (by omega)
            have e2 := own.frozen x
            have hne : ¬ wo.heap.size = w.heap.size := by omega
            go_wp2
            go_roundw
            case rel =>
              refine ⟨x + 1, by go_num, by omega, by omega, ?_, hbl.setCell (Nat.le_refl _) _, ?_, ?_⟩
              · have := own.stored x (gf l k).me
                rw [dayIn_next l t child k x qt HCH.out hx1 hxu (by omega)] at this
                exact this
              · rw [World.cell?_setCell_other _ _ _ _ (by simp)]; exact d3
              · rw [World.cell?_setCell_other _ _ _ _ (by simp)]; exact d4
            case measure => simp [intOf]; omega
          · go_wp2
            go_roundw
            case rel => exact ⟨k + 1, by omega, by go_num, by rw [← dayIn_end l t child k x (by omega)]; exact own, hbl⟩
            case measure => simp [intOf]; omega
      · have hch' : ((gf l k).ch == child) = false := by simp [hch]
        have hother := dayTo_other l t child k hch
        have HO := Lib.hid hother; clear hother hch
        go_wp2
        go_roundw
        case rel => exact ⟨k + 1, by omega, by go_num, by rw [HO.out]; exact own.kept ((Below.refl _ _).alloc (Nat.le_refl _) _) hgz, hbl.alloc hbl.size _⟩
        case measure => simp [intOf]; omega
    · go_wp2
      go_ret
      exact ⟨w.heap.size, rfl, by rw [← dayTo_cut hcut, show n = k by omega]; exact own, hbl⟩

end Go.Proofs.Ytoopmancobfjeaa
