/-
  Walks: slices.DeleteFunc at rights of the call's own: only a child's rights are kept.
-/
import Derived.Test.YtoopmancobfjeaaRs
namespace Go.Proofs.Ytoopmancobfjeaa
set_option linter.unusedVariables false
set_option linter.unusedSimpArgs false
open Go.RowKit

theorem cellsS_take (m : List Sp) (i : Nat) (h : i ≤ m.length) : cellsS (m.take i) = (cellsS m).take (i * 3) := by
  have h1 : (cellsS (m.take i)).length = i * 3 := by rw [cellsS_length, List.length_take]; congr 1; omega
  have e : cellsS m = cellsS (m.take i) ++ cellsS (m.drop i) := by rw [← cellsS_append, List.take_append_drop]
  rw [e, List.take_append_of_le_length (by omega), ← h1, List.take_length]
theorem run_clear_right (w : World) (ty : TypeId) (g o n c : Nat) (hn : 0 < n) (hc : ∀ j, j < n * 3 → (w.cell? ⟨g, o + j, none⟩).isSome = true) (hf : ∀ j, w.frozen? ⟨g, o + j, none⟩ = false) :
    ∃ Z : List Value, Z.length = n * 3 ∧ (Builtin.clear_ #[64] ty #[.slice (some ⟨g, o, none⟩) n c]).run Try.prog w = .ok (.tuple #[]) (w.setCells g o Z) := by
  have ht := Try.underlying64
  have hv := Try.zeroValue105
  obtain ⟨Z, hZ⟩ : ∃ Z, Z = (Builtin.zeroCells #[Value.int .i64 0, .int .i64 0, .int .i64 0] n).toList := ⟨_, rfl⟩
  have hl : Z.length = n * 3 := by rw [hZ, Array.length_toList, size_zeroCells]; rfl
  have h1 : ∀ v ∈ Z, v.oneCell' = true := by
    intro v hv
    rw [hZ] at hv
    simp [Builtin.zeroCells] at hv
    obtain ⟨i, _, rfl⟩ := hv
    have h3 : i % 3 < 3 := Nat.mod_lt _ (by omega)
    rcases hh : i % 3 with _ | _ | _ | k
    · rfl
    · rfl
    · rfl
    · omega
  refine ⟨Z, hl, ?_⟩
  have hst := run_storeCells_cells (P := Try.prog) g o Z 0 w (by intro j hj; rw [Nat.add_zero]; exact hc j (by omega)) (by intro j _; rw [Nat.add_zero]; exact hf j) h1
  simp only [Nat.add_zero] at hst
  obtain ⟨m, rfl⟩ : ∃ m, n = m + 1 := ⟨n - 1, by omega⟩
  rw [hZ] at hst ⊢
  simp [Builtin.clear_, run_underlying ht, hv, hst, Value.cells]

set_option maxRecDepth 100000 in
set_option maxHeartbeats 2000000 in
theorem delR_any (l : List Sp) (c : Int) (hl : l.length ≤ 1000000) (A : Option Addr) (cp base b1 : Nat) (w : World) (own : OwnR w base A cp l) (h1 : w.cell? ⟨b1, 0, none⟩ = some (.int .i64 c)) (hb1 : b1 < base) (hbase : base ≤ w.heap.size) :
    Calls Try.prog 85 #[.slice A l.length cp, .func (.func 87) #[] #[.pointer (some ⟨b1, 0, none⟩)]] w fun e w' =>
      e = .returned (.slice A (keepR l c).length cp) ∧ OwnR w' base A cp (keepR l c) ∧ Below base w w' := by
  go_enter Try.func85, Try.ntmps85
  go_wp2_with fail
  refine (index_notch l c A cp b1 _ own.reads (by omega) h1 (by omega)).mono ?_
  rintro e w2 ⟨hcase, hb2⟩
  have own2 := own.kept hb2
  have hb2' := hb2.mono hbase
  rcases hcase with ⟨hs, rfl⟩ | ⟨k0, hk0, hs, hne, rfl⟩
  · have hk := keepR_same hs
    have HK := Lib.hid hk
    clear hk hs
    go_wp2
    go_ret
    exact ⟨by rw [HK.out] <;> rfl, by rw [HK.out]; exact own2, hb2'⟩
  · obtain ⟨g, cur, rfl, hbg, -, -, hlc, hm, -⟩ := own.row (by omega)
    have hd0 := Del.start hk0 hs hne
    have HD0 := Lib.hid hd0
    clear hd0 hs hne own hb2
    have hkm : ((k0 : Int) == -1) = false := by simp <;> omega
    go_wp2
    go_loopw [5, 6] (fun x y wr => ∃ (i j : Nat) (m : List Sp), x = .int .i64 i ∧ y = .int .i64 j ∧ Hid (Del l m c i j) ∧ OwnR wr base (some ⟨g, 0, none⟩) cp m ∧ Below base w wr) (fun _ y _ => l.length - (intOf y).toNat)
    case atStart => exact ⟨k0, k0 + 1, l, rfl, by go_num, HD0, own2, hb2'⟩
    case round =>
      clear own2 hb2' HD0
      obtain ⟨i, j, m, rfl, rfl, HD, own, hbl⟩ := hrel
      have hij := HD.out.ij
      have hjn := HD.out.jn
      have hml := HD.out.len
      have hbs := hbl.size
      by_cases hlt : j < l.length
      · obtain ⟨gb, hgb, -, hg2, hcs, hfz⟩ := own.last (by omega)
        cases hgb
        obtain ⟨d0, d1, d2⟩ := hcs j (by omega)
        rw [HD.out.rest j (Nat.le_refl _)] at d0 d1 d2
        have g1 := (hbl.cell (p := ⟨b1, 0, none⟩) hb1).trans h1
        have hba := (Below.refl wr.heap.size wr).alloc (Nat.le_refl _) (.cells #[.int .i64 (gs l j).fr, .int .i64 (gs l j).un, .int .i64 (gs l j).me] 105)
        have g2 := (hba.cell (p := ⟨b1, 0, none⟩) (show b1 < wr.heap.size by omega)).trans g1
        clear hcs hfz
        go_wp2_with fail
        refine (notch_any _ _ _ c b1 _ g2 (by simp; omega)).mono ?_
        rintro e w3 ⟨rfl, hb3⟩
        obtain ⟨v0, v1, v2, hv3, hb4⟩ := box3 (n := wr.heap.size + 1) (hb3.mono (by simp)) rfl
        have own3 := own.kept hb4
        have hbl3 := hbl.trans (hb4.mono (by omega))
        obtain ⟨gb, hgb, hg1, hg2', hcs, hfz⟩ := own3.last (by omega)
        cases hgb
        clear own hbl d0 d1 d2 g1 g2 hba hb3 hb4
        cases hq : ((gs l j).fr != c) with
        | true =>
          have hn := HD.out.no hlt (by simpa using hq)
          have HN := Lib.hid hn
          clear hn hq hcs hfz
          go_wp2
          go_roundw
          case rel => exact ⟨i, j + 1, m, rfl, by go_num, HN, own3, hbl3⟩
          case measure => simp [intOf]; omega
        | false =>
          have hy := HD.out.yes hlt (by simpa using hq)
          have HY := Lib.hid hy
          obtain ⟨d0, d1, d2⟩ := hcs i (by omega)
          have own4 := own3.put i (by omega) (gs l j)
          have hbl4 := ((hbl3.setCell (p := ⟨g, i * 3, none⟩) hg1 (.int .i64 (gs l j).fr)).setCell (p := ⟨g, i * 3 + 1, none⟩) hg1 (.int .i64 (gs l j).un)).setCell (p := ⟨g, i * 3 + 2, none⟩) hg1 (.int .i64 (gs l j).me)
          clear hy hq hcs own3 hbl3
          go_wp2
          go_roundw
          case rel => exact ⟨i + 1, j + 1, m.set i (gs l j), by go_num, by go_num, HY, own4, hbl4⟩
          case measure => simp [intOf]; omega
      · have hjl : j = l.length := by omega
        obtain ⟨g', cur', hgg, hbg', hg', hc', hlc', hm', ht'⟩ := own.row (by omega)
        cases hgg
        have hci : ¬ cp = i := by omega
        have hic : i ≤ cp := by omega
        have hkeep : keepR l c = m.take i := by rw [HD.out.kept, hjl, List.take_length]
        have hkl : (keepR l c).length = i := by have := HD.out.il; rw [hjl, List.take_length] at this; exact this
        have hL := own
        unfold OwnR at hL
        obtain ⟨Z, hZ, hclr⟩ := run_clear_right wr 0 g (i * 3) (l.length - i) (cp - i) (by omega)
          (fun t ht => by rw [World.ownsRow.cellAt hL _ (by omega)]; simp [cellsS_length]; omega)
          (fun t => World.ownsRow.frozenAt hL _)
        have hq := cells_setCells g Z (i * 3) wr cur' _ hg' (by omega)
        have hbz := below_setCells hbg' Z (i * 3) wr hbl
        have hown : OwnR (wr.setCells g (i * 3) Z) base (some ⟨g, 0, none⟩) cp (keepR l c) := by
          refine OwnR.of_row hbg' hq (by rw [length_splice _ _ _ (by omega)]; exact hc') (by omega) hm' ?_
          rw [hkl, hkeep, cellsS_take _ _ (by omega), ← ht', List.take_take, Nat.min_eq_left (by omega)]
          unfold splice
          rw [List.take_append_of_le_length (by rw [List.length_take]; omega), List.take_take, Nat.min_self]
        have HKL := Lib.hid hkl
        clear hkl hkeep hq hL own hg' ht' hc'
        go_wp2
        go_ret
        exact ⟨by rw [HKL.out] <;> rfl, hown, hbz⟩
end Go.Proofs.Ytoopmancobfjeaa
