/-
  Walks: term.Reopen.
-/
import Derived.Test.YtecjmpaomebdbaaAs
namespace Go.Proofs.Ytecjmpaomebdbaa
set_option linter.unusedVariables false
set_option linter.unusedSimpArgs false
open Go.RowKit

set_option maxRecDepth 100000 in
set_option maxHeartbeats 4000000 in
theorem reopen_any (t : Tm) (d : Int) (A1 A2 : Option Addr) (c1 c2 : Nat) (w : World) (h1 : RN w A1 t.rest) (h2 : RN w A2 t.clo) (hl1 : t.rest.length ≤ 1000000) (hl2 : t.clo.length ≤ 1000000) :
    Calls Try.prog 29 #[.agg #[.int .i64 t.len, .slice A1 t.rest.length c1, .slice A2 t.clo.length c2], .int .i64 d] w (RetT w (reT t d) (reE t d)) := by
  obtain ⟨E, hE⟩ : ∃ E, E = reE t d := ⟨_, rfl⟩
  obtain ⟨T, hT⟩ : ∃ T, T = reT t d := ⟨_, rfl⟩
  rw [← hE, ← hT]
  have HE := Lib.hid hE
  have HT := Lib.hid hT
  clear hE hT
  obtain ⟨w2, hw2⟩ : ∃ w2, ((w.alloc (.cells #[.int .i64 t.len, .slice A1 t.rest.length c1, .slice A2 t.clo.length c2] 24)).alloc (.cells #[.int .i64 0, .slice none 0 0, .slice none 0 0] 24)) = w2 := ⟨_, rfl⟩
  have hy : Below w.heap.size w w2 := by rw [← hw2]; exact ((Below.refl _ w).alloc (Nat.le_refl _) _).alloc (by simp) _
  have b0 : Box w2 w.heap.size #[.int .i64 t.len, .slice A1 t.rest.length c1, .slice A2 t.clo.length c2] := by rw [← hw2]; exact (Box.new w _ _).alloc _
  have b1 : Box w2 (w.heap.size + 1) #[.int .i64 0, .slice none 0 0, .slice none 0 0] := by rw [← hw2]; exact (Box.new (w.alloc (.cells #[.int .i64 t.len, .slice A1 t.rest.length c1, .slice A2 t.clo.length c2] 24)) _ _).at' (by simp)
  have hsz : w2.heap.size = w.heap.size + 2 := by rw [← hw2]; simp
  have r1 := h1.below hy
  have r2 := h2.below hy
  have x0 := b0.cell 0; have x1 := b0.cell 1; have x2 := b0.cell 2
  simp only [List.getElem?_toArray, List.getElem?_cons_zero, List.getElem?_cons_succ] at x0 x1 x2
  go_enter Try.func29, Try.ntmps29
  go_wp2_with fail
  refine (asked_any d t A1 A2 c1 c2 _ r1 r2 (by omega) (by omega)).mono ?_
  rintro e w3 ⟨rfl, hb3⟩
  have hy3 := hy.trans (hb3.mono hy.size)
  have e0 := b0.below hb3
  have e1 := b1.below hb3
  have s1 := r1.below hb3
  have s2 := r2.below hb3
  have hs3 := hb3.size
  clear x0 x1 x2 b0 b1 r1 r2 h1 h2 hw2 hy hb3
  have y2 := e0.cell 2
  have f0 := e1.free 0; have f1 := e1.free 1; have f2 := e1.free 2
  have z0 := e1.cell 0; have z1 := e1.cell 1; have z2 := e1.cell 2
  simp only [List.getElem?_toArray, List.getElem?_cons_zero, List.getElem?_cons_succ] at y2 z0 z1 z2
  by_cases hq : qE t d = 0
  · have hq1 : (qE t d != 0) = false := by simp [hq]
    obtain ⟨hk, hd0, hd1⟩ := qE_ok hq
    go_wp2_with fail
    refine (search_any t.clo d t.len hk.clo (by omega) A2 c2 _ s2).mono ?_
    rintro e w4 ⟨n, hcut, rfl, hb4⟩
    have hy4 := hy3.trans (hb4.mono hy3.size)
    have g0 := e0.below hb4
    have g1 := e1.below hb4
    have u1 := s1.below hb4
    have u2 := s2.below hb4
    have hs4 := hb4.size
    clear y2 f0 f1 f2 z0 z1 z2 s1 s2 e0 e1 hb4 hy3
    have y0 := g0.cell 0; have y1 := g0.cell 1; have y2 := g0.cell 2
    have f0 := g1.free 0; have f1 := g1.free 1; have f2 := g1.free 2
    have z0 := g1.cell 0; have z1 := g1.cell 1; have z2 := g1.cell 2
    simp only [List.getElem?_toArray, List.getElem?_cons_zero, List.getElem?_cons_succ] at y0 y1 y2 z0 z1 z2
    cases hh : hasB t.clo d with
    | false =>
      have hE1 : E = 12 := by rw [HE.out, reE, if_neg (by simp [hq]), hh]; rfl
      have hT1 : T = ⟨0, [], []⟩ := by rw [HT.out, reT_no (by rw [← HE.out, hE1]; simp)]
      have HH := Lib.hid hh
      clear hh
      go_wp2
      have q := three_set g1 (.int .i64 0) (.slice none 0 0) (.slice none 0 0)
      obtain ⟨q0, q1, q2⟩ := q
      refine bodyPost_ret (v := .tuple #[.agg #[.int .i64 0, .slice none 0 0, .slice none 0 0], .int .i64 12]) (by simp [results, Try.results29, go_sem, q0, q1, q2]) rfl ?_
      exact ⟨none, 0, none, 0, w.heap.size, by rw [hT1, hE1]; rfl, by rw [hT1]; exact World.ownsRow_nil _ _ _ _, by rw [hT1]; exact World.ownsRow_nil _ _ _ _, Nat.le_refl _, fun k hk => by simp [Value.ownBlock] at hk, ((hy4.setCell (p := ⟨w.heap.size + 1, 0, none⟩) (by show w.heap.size ≤ w.heap.size + 1; omega) _).setCell (p := ⟨w.heap.size + 1, 1, none⟩) (by show w.heap.size ≤ w.heap.size + 1; omega) _).setCell (p := ⟨w.heap.size + 1, 2, none⟩) (by show w.heap.size ≤ w.heap.size + 1; omega) _⟩
    | true =>
      obtain ⟨hn, hcs⟩ := cut_sub hk.clo hcut hh
      have hE1 : E = 0 := by rw [HE.out, reE, if_neg (by simp [hq]), hh]; rfl
      have hT1 : T = ⟨t.len, t.rest, without t.clo n⟩ := by rw [HT.out, reT_yes (by rw [← HE.out, hE1]), ← hcs]; rfl
      have HH := Lib.hid hh
      clear hh hcs
      go_wp2_with fail
      have HLEN := Lib.hid (without_len hn)
      have d40 : w4.drew.cell? ⟨w.heap.size, 0, none⟩ = some (.int .i64 t.len) := y0
      have d41 : w4.drew.cell? ⟨w.heap.size, 1, none⟩ = some (.slice A1 t.rest.length c1) := y1
      have d42 : w4.drew.cell? ⟨w.heap.size, 2, none⟩ = some (.slice A2 t.clo.length c2) := y2
      have d4f0 : w4.drew.frozen? ⟨w.heap.size + 1, 0, none⟩ = false := f0
      have d4f1 : w4.drew.frozen? ⟨w.heap.size + 1, 1, none⟩ = false := f1
      have d4f2 : w4.drew.frozen? ⟨w.heap.size + 1, 2, none⟩ = false := f2
      have a40 : ∀ o, (w4.drew.alloc o).cell? ⟨w.heap.size, 0, none⟩ = some (.int .i64 t.len) := fun o => (cell_alo (p := ⟨w.heap.size, 0, none⟩) (show w.heap.size < w4.heap.size by omega)).trans d40
      have a41 : ∀ o, (w4.drew.alloc o).cell? ⟨w.heap.size, 1, none⟩ = some (.slice A1 t.rest.length c1) := fun o => (cell_alo (p := ⟨w.heap.size, 1, none⟩) (show w.heap.size < w4.heap.size by omega)).trans d41
      have a42 : ∀ o, (w4.drew.alloc o).cell? ⟨w.heap.size, 2, none⟩ = some (.slice A2 t.clo.length c2) := fun o => (cell_alo (p := ⟨w.heap.size, 2, none⟩) (show w.heap.size < w4.heap.size by omega)).trans d42
      have a4f0 : ∀ c u, (w4.drew.alloc (.cells c u)).frozen? ⟨w.heap.size + 1, 0, none⟩ = false := fun c u => (fro_cells _ _ _ _).trans d4f0
      have a4f1 : ∀ c u, (w4.drew.alloc (.cells c u)).frozen? ⟨w.heap.size + 1, 1, none⟩ = false := fun c u => (fro_cells _ _ _ _).trans d4f1
      have a4f2 : ∀ c u, (w4.drew.alloc (.cells c u)).frozen? ⟨w.heap.size + 1, 2, none⟩ = false := fun c u => (fro_cells _ _ _ _).trans d4f2
      go_cut [5] (fun s wx => s = .int .i64 0 ∧ ∃ A c A' c' m, wx.cell? ⟨w.heap.size + 1, 0, none⟩ = some (.int .i64 t.len) ∧ wx.cell? ⟨w.heap.size + 1, 1, none⟩ = some (.slice A t.rest.length c) ∧ wx.cell? ⟨w.heap.size + 1, 2, none⟩ = some (.slice A' (t.clo.length - 1) c') ∧ OwnN wx w4.heap.size A c t.rest ∧ OwnN wx m A' c' (without t.clo n) ∧ w4.heap.size ≤ m ∧ (∀ k, (Value.slice A t.rest.length c).ownBlock = some k → k < m) ∧ Below w.heap.size w wx)
      case first =>
        go_region_held3 (fun w' => w'.cell? ⟨w.heap.size, 0, none⟩ = some (.int .i64 t.len) ∧ w'.cell? ⟨w.heap.size, 1, none⟩ = some (.slice A1 t.rest.length c1) ∧ w'.cell? ⟨w.heap.size, 2, none⟩ = some (.slice A2 t.clo.length c2) ∧ w'.frozen? ⟨w.heap.size + 1, 0, none⟩ = false ∧ w'.frozen? ⟨w.heap.size + 1, 1, none⟩ = false ∧ w'.frozen? ⟨w.heap.size + 1, 2, none⟩ = false)
          (first | (refine ⟨by (first | (with_reducible first | exact kC0 | exact kB0 | exact kA0 | exact d40 | exact aB0 _ | exact aA0 _ | exact a40 _) | (go_keep; done) | (simp [*, fro_cells, World.cell?_alloc_some, World.cell?_setCell_far]; done)), by (first | (with_reducible first | exact kC1 | exact kB1 | exact kA1 | exact d41 | exact aB1 _ | exact aA1 _ | exact a41 _) | (go_keep; done) | (simp [*, fro_cells, World.cell?_alloc_some, World.cell?_setCell_far]; done)), by (first | (with_reducible first | exact kC2 | exact kB2 | exact kA2 | exact d42 | exact aB2 _ | exact aA2 _ | exact a42 _) | (go_keep; done) | (simp [*, fro_cells, World.cell?_alloc_some, World.cell?_setCell_far]; done)), by (first | (with_reducible first | exact kCf0 | exact kBf0 | exact kAf0 | exact d4f0 | exact aBf0 _ _ | exact aAf0 _ _ | exact a4f0 _ _) | (go_keep; done) | (simp [*, fro_cells, World.cell?_alloc_some, World.cell?_setCell_far]; done)), by (first | (with_reducible first | exact kCf1 | exact kBf1 | exact kAf1 | exact d4f1 | exact aBf1 _ _ | exact aAf1 _ _ | exact a4f1 _ _) | (go_keep; done) | (simp [*, fro_cells, World.cell?_alloc_some, World.cell?_setCell_far]; done)), by (first | (with_reducible first | exact kCf2 | exact kBf2 | exact kAf2 | exact d4f2 | exact aBf2 _ _ | exact aAf2 _ _ | exact a4f2 _ _) | (go_keep; done) | (simp [*, fro_cells, World.cell?_alloc_some, World.cell?_setCell_far]; done))⟩) | go_keep)
          (first
            | (go_at_call 64; (with_reducible refine (clone_any t.rest (by omega) A1 c1 _ ?_).mono ?_); (repeat (first | exact u1 | refine RN.drew ?_ | refine RN.alloc ?_ _)); rintro e wA ⟨AA, cA, rfl, ownA, hbA⟩; have hA4 : Below w4.heap.size w4 wA := Below.trans (by repeat (first | exact Below.refl _ _ | refine Below.drew ?_ | refine Below.alloc ?_ (by simp) _)) (hbA.mono (by simp)); have hsA : w4.heap.size ≤ wA.heap.size := hA4.size; have kA0 : wA.cell? ⟨w.heap.size, 0, none⟩ = some (.int .i64 t.len) := (hA4.cell (p := ⟨w.heap.size, 0, none⟩) (show w.heap.size < w4.heap.size by omega)).trans y0; have kA1 : wA.cell? ⟨w.heap.size, 1, none⟩ = some (.slice A1 t.rest.length c1) := (hA4.cell (p := ⟨w.heap.size, 1, none⟩) (show w.heap.size < w4.heap.size by omega)).trans y1; have kA2 : wA.cell? ⟨w.heap.size, 2, none⟩ = some (.slice A2 t.clo.length c2) := (hA4.cell (p := ⟨w.heap.size, 2, none⟩) (show w.heap.size < w4.heap.size by omega)).trans y2; have kAf0 : wA.frozen? ⟨w.heap.size + 1, 0, none⟩ = false := (hA4.frozen (p := ⟨w.heap.size + 1, 0, none⟩) (show w.heap.size + 1 < w4.heap.size by omega)).trans f0; have kAf1 : wA.frozen? ⟨w.heap.size + 1, 1, none⟩ = false := (hA4.frozen (p := ⟨w.heap.size + 1, 1, none⟩) (show w.heap.size + 1 < w4.heap.size by omega)).trans f1; have kAf2 : wA.frozen? ⟨w.heap.size + 1, 2, none⟩ = false := (hA4.frozen (p := ⟨w.heap.size + 1, 2, none⟩) (show w.heap.size + 1 < w4.heap.size by omega)).trans f2; have aA0 : ∀ o, (wA.alloc o).cell? ⟨w.heap.size, 0, none⟩ = some (.int .i64 t.len) := fun o => (cell_alo (p := ⟨w.heap.size, 0, none⟩) (show w.heap.size < wA.heap.size by omega)).trans kA0; have aA1 : ∀ o, (wA.alloc o).cell? ⟨w.heap.size, 1, none⟩ = some (.slice A1 t.rest.length c1) := fun o => (cell_alo (p := ⟨w.heap.size, 1, none⟩) (show w.heap.size < wA.heap.size by omega)).trans kA1; have aA2 : ∀ o, (wA.alloc o).cell? ⟨w.heap.size, 2, none⟩ = some (.slice A2 t.clo.length c2) := fun o => (cell_alo (p := ⟨w.heap.size, 2, none⟩) (show w.heap.size < wA.heap.size by omega)).trans kA2; have aAf0 : ∀ c u, (wA.alloc (.cells c u)).frozen? ⟨w.heap.size + 1, 0, none⟩ = false := fun c u => (fro_cells _ _ _ _).trans kAf0; have aAf1 : ∀ c u, (wA.alloc (.cells c u)).frozen? ⟨w.heap.size + 1, 1, none⟩ = false := fun c u => (fro_cells _ _ _ _).trans kAf1; have aAf2 : ∀ c u, (wA.alloc (.cells c u)).frozen? ⟨w.heap.size + 1, 2, none⟩ = false := fun c u => (fro_cells _ _ _ _).trans kAf2)
            | (go_at_call 64; (with_reducible refine (clone_any t.clo (by omega) A2 c2 _ ?_).mono ?_); (repeat (first | exact RN.below u2 hA4 | refine RN.drew ?_ | refine RN.alloc ?_ _)); rintro e wB ⟨AB, cB, rfl, ownB, hbB⟩; have hBA : Below wA.heap.size wA wB := Below.trans (by repeat (first | exact Below.refl _ _ | refine Below.drew ?_ | refine Below.alloc ?_ (by simp) _)) (hbB.mono (by simp)); have hB4 : Below w4.heap.size w4 wB := hA4.trans (hBA.mono hsA); have hsB : wA.heap.size ≤ wB.heap.size := hBA.size; have ownB' : OwnN wB wA.heap.size AB cB t.clo := own_base ownB (by first | exact Nat.le_refl _ | simp); have kB0 : wB.cell? ⟨w.heap.size, 0, none⟩ = some (.int .i64 t.len) := (hB4.cell (p := ⟨w.heap.size, 0, none⟩) (show w.heap.size < w4.heap.size by omega)).trans y0; have kB1 : wB.cell? ⟨w.heap.size, 1, none⟩ = some (.slice A1 t.rest.length c1) := (hB4.cell (p := ⟨w.heap.size, 1, none⟩) (show w.heap.size < w4.heap.size by omega)).trans y1; have kB2 : wB.cell? ⟨w.heap.size, 2, none⟩ = some (.slice A2 t.clo.length c2) := (hB4.cell (p := ⟨w.heap.size, 2, none⟩) (show w.heap.size < w4.heap.size by omega)).trans y2; have kBf0 : wB.frozen? ⟨w.heap.size + 1, 0, none⟩ = false := (hB4.frozen (p := ⟨w.heap.size + 1, 0, none⟩) (show w.heap.size + 1 < w4.heap.size by omega)).trans f0; have kBf1 : wB.frozen? ⟨w.heap.size + 1, 1, none⟩ = false := (hB4.frozen (p := ⟨w.heap.size + 1, 1, none⟩) (show w.heap.size + 1 < w4.heap.size by omega)).trans f1; have kBf2 : wB.frozen? ⟨w.heap.size + 1, 2, none⟩ = false := (hB4.frozen (p := ⟨w.heap.size + 1, 2, none⟩) (show w.heap.size + 1 < w4.heap.size by omega)).trans f2; have aB0 : ∀ o, (wB.alloc o).cell? ⟨w.heap.size, 0, none⟩ = some (.int .i64 t.len) := fun o => (cell_alo (p := ⟨w.heap.size, 0, none⟩) (show w.heap.size < wB.heap.size by omega)).trans kB0; have aB1 : ∀ o, (wB.alloc o).cell? ⟨w.heap.size, 1, none⟩ = some (.slice A1 t.rest.length c1) := fun o => (cell_alo (p := ⟨w.heap.size, 1, none⟩) (show w.heap.size < wB.heap.size by omega)).trans kB1; have aB2 : ∀ o, (wB.alloc o).cell? ⟨w.heap.size, 2, none⟩ = some (.slice A2 t.clo.length c2) := fun o => (cell_alo (p := ⟨w.heap.size, 2, none⟩) (show w.heap.size < wB.heap.size by omega)).trans kB2; have aBf0 : ∀ c u, (wB.alloc (.cells c u)).frozen? ⟨w.heap.size + 1, 0, none⟩ = false := fun c u => (fro_cells _ _ _ _).trans kBf0; have aBf1 : ∀ c u, (wB.alloc (.cells c u)).frozen? ⟨w.heap.size + 1, 1, none⟩ = false := fun c u => (fro_cells _ _ _ _).trans kBf1; have aBf2 : ∀ c u, (wB.alloc (.cells c u)).frozen? ⟨w.heap.size + 1, 2, none⟩ = false := fun c u => (fro_cells _ _ _ _).trans kBf2)
            | (go_at_call 66; (with_reducible refine (delete_any' t.clo n hn hl2 AB cB wA.heap.size _ ownB' hsB).mono ?_); rintro e wC ⟨rfl, ownC, hbC⟩; have hCA : Below wA.heap.size wA wC := hBA.trans hbC; have hC4 : Below w4.heap.size w4 wC := hA4.trans (hCA.mono hsA); have kC0 : wC.cell? ⟨w.heap.size, 0, none⟩ = some (.int .i64 t.len) := (hC4.cell (p := ⟨w.heap.size, 0, none⟩) (show w.heap.size < w4.heap.size by omega)).trans y0; have kC1 : wC.cell? ⟨w.heap.size, 1, none⟩ = some (.slice A1 t.rest.length c1) := (hC4.cell (p := ⟨w.heap.size, 1, none⟩) (show w.heap.size < w4.heap.size by omega)).trans y1; have kC2 : wC.cell? ⟨w.heap.size, 2, none⟩ = some (.slice A2 t.clo.length c2) := (hC4.cell (p := ⟨w.heap.size, 2, none⟩) (show w.heap.size < w4.heap.size by omega)).trans y2; have kCf0 : wC.frozen? ⟨w.heap.size + 1, 0, none⟩ = false := (hC4.frozen (p := ⟨w.heap.size + 1, 0, none⟩) (show w.heap.size + 1 < w4.heap.size by omega)).trans f0; have kCf1 : wC.frozen? ⟨w.heap.size + 1, 1, none⟩ = false := (hC4.frozen (p := ⟨w.heap.size + 1, 1, none⟩) (show w.heap.size + 1 < w4.heap.size by omega)).trans f1; have kCf2 : wC.frozen? ⟨w.heap.size + 1, 2, none⟩ = false := (hC4.frozen (p := ⟨w.heap.size + 1, 2, none⟩) (show w.heap.size + 1 < w4.heap.size by omega)).trans f2; have z0C : wC.cell? ⟨w.heap.size + 1, 0, none⟩ = some (.int .i64 0) := (hC4.cell (p := ⟨w.heap.size + 1, 0, none⟩) (show w.heap.size + 1 < w4.heap.size by omega)).trans z0; have z1C : wC.cell? ⟨w.heap.size + 1, 1, none⟩ = some (.slice none 0 0) := (hC4.cell (p := ⟨w.heap.size + 1, 1, none⟩) (show w.heap.size + 1 < w4.heap.size by omega)).trans z1; have z2C : wC.cell? ⟨w.heap.size + 1, 2, none⟩ = some (.slice none 0 0) := (hC4.cell (p := ⟨w.heap.size + 1, 2, none⟩) (show w.heap.size + 1 < w4.heap.size by omega)).trans z2))
        all_goals
          go_wp2_with fail
          go_meet
          have hboxC : Box wC (w.heap.size + 1) #[.int .i64 0, .slice none 0 0, .slice none 0 0] := (g1.below hC4)
          have hz : Below w.heap.size w wC := hy4.trans (hC4.mono (by omega))
          have hz3 := ((hz.setCell (p := ⟨w.heap.size + 1, 0, none⟩) (by show w.heap.size ≤ w.heap.size + 1; omega) (.int .i64 t.len)).setCell (p := ⟨w.heap.size + 1, 1, none⟩) (by show w.heap.size ≤ w.heap.size + 1; omega) (.slice AA t.rest.length cA)).setCell (p := ⟨w.heap.size + 1, 2, none⟩) (by show w.heap.size ≤ w.heap.size + 1; omega) (.slice AB (t.clo.length - 1) cB)
          obtain ⟨m0, m1, m2⟩ := three_set hboxC (.int .i64 t.len) (.slice AA t.rest.length cA) (.slice AB (t.clo.length - 1) cB)
          have ownAC : OwnN wC w4.heap.size AA cA t.rest := own_base (own_below ownA hCA (fun k hk => (World.ownsRow.lt ownA k hk).2)) (by first | exact Nat.le_refl _ | simp)
          refine ⟨rfl, AA, cA, AB, cB, wA.heap.size, m0, m1, m2, ?_, ?_, hsA, fun k hk => (World.ownsRow.lt ownA k hk).2, hz3⟩
          · exact ownsRow_setCell_below (ownsRow_setCell_below (ownsRow_setCell_below ownAC (show w.heap.size + 1 < w4.heap.size by omega) _) (show w.heap.size + 1 < w4.heap.size by omega) _) (show w.heap.size + 1 < w4.heap.size by omega) _
          · exact ownsRow_setCell_below (ownsRow_setCell_below (ownsRow_setCell_below ownC (show w.heap.size + 1 < wA.heap.size by omega) _) (show w.heap.size + 1 < wA.heap.size by omega) _) (show w.heap.size + 1 < wA.heap.size by omega) _
      case rest =>
        obtain ⟨rfl, A, c, A', c', m, q0, q1, q2, own1, own2, hm, hlt, hb⟩ := hcut
        go_wp2_with fail
        refine bodyPost_ret (v := .tuple #[.agg #[.int .i64 t.len, .slice A t.rest.length c, .slice A' (t.clo.length - 1) c'], .int .i64 0]) (by simp [results, Try.results29, go_sem, q0, q1, q2]) rfl ?_
        have hlen : (without t.clo n).length = t.clo.length - 1 := HLEN.out
        refine ⟨A, c, A', c', m, by rw [hT1, hE1]; show _ = Ending.returned (.tuple #[.agg #[.int .i64 t.len, .slice A t.rest.length c, .slice A' (without t.clo n).length c'], .int .i64 0]); rw [hlen], ?_, ?_, by omega, ?_, hb⟩
        · rw [hT1]; exact own_base own1 (by omega)
        · rw [hT1]; exact own2
        · rw [hT1]; exact hlt
  · have hq1 : (qE t d != 0) = true := by simp [hq]
    have hE1 : E = qE t d := by rw [HE.out, reE, if_pos hq]
    have hT1 : T = ⟨0, [], []⟩ := by rw [HT.out, reT_no (by rw [reE, if_pos hq]; exact hq)]
    go_wp2
    have q := three_set e1 (.int .i64 0) (.slice none 0 0) (.slice none 0 0)
    obtain ⟨q0, q1, q2⟩ := q
    refine bodyPost_ret (v := .tuple #[.agg #[.int .i64 0, .slice none 0 0, .slice none 0 0], .int .i64 (qE t d)]) (by simp [results, Try.results29, go_sem, q0, q1, q2]) rfl ?_
    exact ⟨none, 0, none, 0, w.heap.size, by rw [hT1, hE1]; rfl, by rw [hT1]; exact World.ownsRow_nil _ _ _ _, by rw [hT1]; exact World.ownsRow_nil _ _ _ _, Nat.le_refl _, fun k hk => by simp [Value.ownBlock] at hk, ((hy3.setCell (p := ⟨w.heap.size + 1, 0, none⟩) (by show w.heap.size ≤ w.heap.size + 1; omega) _).setCell (p := ⟨w.heap.size + 1, 1, none⟩) (by show w.heap.size ≤ w.heap.size + 1; omega) _).setCell (p := ⟨w.heap.size + 1, 2, none⟩) (by show w.heap.size ≤ w.heap.size + 1; omega) _⟩
end Go.Proofs.Ytecjmpaomebdbaa
