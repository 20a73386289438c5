/-
  Walks: the school day with a number, and the next one: the code's, at whatever term.
-/
import Derived.Test.YtecjmpaomebdbaaY
namespace Go.Proofs.Ytecjmpaomebdbaa
set_option linter.unusedVariables false
set_option linter.unusedSimpArgs false
open Go.RowKit

set_option maxRecDepth 100000 in
set_option maxHeartbeats 1000000 in
theorem nth_any (t : Tm) (n : Int) (A1 A2 : Option Addr) (c1 c2 : Nat) (w : World) (h1 : RN w A1 t.rest) (h2 : RN w A2 t.clo) (hl1 : t.rest.length ≤ 1000000000) (hl2 : t.clo.length ≤ 1000000000) (hn : -9223372036854775808 ≤ n ∧ n ≤ 9223372036854775807) :
    Calls Try.prog 27 #[.agg #[.int .i64 t.len, .slice A1 t.rest.length c1, .slice A2 t.clo.length c2], .int .i64 n] w fun r w' => r = .returned (.tuple #[.int .i64 (nthN t n), .int .i64 (nthE t n)]) ∧ Below w.heap.size w w' := by
  by_cases h0 : tE t = 0
  · refine (nth_ok t n A1 A2 c1 c2 w h1 h2 h0 hn).mono ?_
    rintro r w' ⟨⟨N, E, rfl, hN⟩, hb⟩
    obtain ⟨rfl, rfl⟩ := nth_is h0 hN
    exact ⟨rfl, hb⟩
  rw [nthN, nthE, if_pos h0, if_neg h0]
  have h0' : (tE t != 0) = true := by simp [h0]
  have hy : Below w.heap.size w ((((w.alloc (.cells #[.int .i64 t.len, .slice A1 t.rest.length c1, .slice A2 t.clo.length c2] 24)).alloc (.cells #[.int .i64 n] 3)).alloc (.cells #[.int .i64 0] 3)).alloc (.cells #[.int .i64 0] 29)) := ((((Below.refl _ w).alloc (Nat.le_refl _) _).alloc (by simp) _).alloc (by simp; omega) _).alloc (by simp; omega) _
  have b0 : Box ((((w.alloc (.cells #[.int .i64 t.len, .slice A1 t.rest.length c1, .slice A2 t.clo.length c2] 24)).alloc (.cells #[.int .i64 n] 3)).alloc (.cells #[.int .i64 0] 3)).alloc (.cells #[.int .i64 0] 29)) w.heap.size #[.int .i64 t.len, .slice A1 t.rest.length c1, .slice A2 t.clo.length c2] := (((Box.new w _ _).alloc _).alloc _).alloc _
  have b2 : Box ((((w.alloc (.cells #[.int .i64 t.len, .slice A1 t.rest.length c1, .slice A2 t.clo.length c2] 24)).alloc (.cells #[.int .i64 n] 3)).alloc (.cells #[.int .i64 0] 3)).alloc (.cells #[.int .i64 0] 29)) (w.heap.size + 1 + 1) #[.int .i64 0] := ((Box.new ((w.alloc (.cells #[.int .i64 t.len, .slice A1 t.rest.length c1, .slice A2 t.clo.length c2] 24)).alloc (.cells #[.int .i64 n] 3)) 3 #[.int .i64 0]).alloc _).at' (by simp)
  have b3 : Box ((((w.alloc (.cells #[.int .i64 t.len, .slice A1 t.rest.length c1, .slice A2 t.clo.length c2] 24)).alloc (.cells #[.int .i64 n] 3)).alloc (.cells #[.int .i64 0] 3)).alloc (.cells #[.int .i64 0] 29)) (w.heap.size + 1 + 1 + 1) #[.int .i64 0] := (Box.new (((w.alloc (.cells #[.int .i64 t.len, .slice A1 t.rest.length c1, .slice A2 t.clo.length c2] 24)).alloc (.cells #[.int .i64 n] 3)).alloc (.cells #[.int .i64 0] 3)) 29 #[.int .i64 0]).at' (by simp)
  have g1 := h1.below hy
  have g2 := h2.below hy
  clear h0
  go_enter Try.func27, Try.ntmps27
  go_wp2_with fail
  refine (tvalidate_any t A1 A2 c1 c2 _ g1 g2 hl1 hl2).mono ?_
  rintro r w1 ⟨rfl, hb1⟩
  replace b0 := b0.below hb1; replace b2 := b2.below hb1; replace b3 := b3.below hb1; replace hy := hy.trans (hb1.mono hy.size)
  clear hb1 g1 g2
  have hy2 := ((hy.setCell (p := ⟨w.heap.size + 1 + 1, 0, none⟩) (by show w.heap.size ≤ w.heap.size + 1 + 1; omega) (.int .i64 0)).setCell (p := ⟨w.heap.size + 1 + 1 + 1, 0, none⟩) (by show w.heap.size ≤ w.heap.size + 1 + 1 + 1; omega) (.int .i64 (tE t)))
  have k2 := Cl.of b2; have k3 := Cl.of b3
  have hc2 := ((k2.set (.int .i64 0)).other (g' := w.heap.size + 1 + 1 + 1) (by omega) (.int .i64 (tE t))).cell
  have hc3 := ((k3.other (g' := w.heap.size + 1 + 1) (by omega) (.int .i64 0)).set (.int .i64 (tE t))).cell
  have m2 := k2.cell; have m3 := k3.cell; have ff2 := k2.free; have ff3 := k3.free
  have xx0 := b0.cell; have nn0 := b0.lt
  go_wp2_with fail
  clear xx0 nn0
  refine bodyPost_ret (v := .tuple #[.int .i64 0, .int .i64 (tE t)]) (by simp [results, Try.results27, go_sem, hc2, hc3]) rfl ?_
  exact ⟨rfl, hy2⟩

set_option maxRecDepth 100000 in
set_option maxHeartbeats 1000000 in
theorem next_any (t : Tm) (n : Int) (A1 A2 : Option Addr) (c1 c2 : Nat) (w : World) (h1 : RN w A1 t.rest) (h2 : RN w A2 t.clo) (hl1 : t.rest.length ≤ 1000000000) (hl2 : t.clo.length ≤ 1000000000) :
    Calls Try.prog 49 #[.agg #[.int .i64 t.len, .slice A1 t.rest.length c1, .slice A2 t.clo.length c2], .int .i64 n] w fun r w' => r = .returned (.tuple #[.int .i64 (nextN t n), .int .i64 (nextE t n)]) ∧ Below w.heap.size w w' := by
  by_cases h0 : qE t n = 0
  · refine (next_ok t n A1 A2 c1 c2 w h1 h2 h0).mono ?_
    rintro r w' ⟨⟨N, E, rfl, hN⟩, hb⟩
    obtain ⟨rfl, rfl⟩ := next_is h0 hN
    exact ⟨rfl, hb⟩
  rw [nextN, nextE, if_pos h0, if_neg h0]
  have h0' : (qE t n != 0) = true := by simp [h0]
  have hy : Below w.heap.size w (((w.alloc (.cells #[.int .i64 t.len, .slice A1 t.rest.length c1, .slice A2 t.clo.length c2] 24)).alloc (.cells #[.int .i64 0] 3)).alloc (.cells #[.int .i64 0] 29)) := (((Below.refl _ w).alloc (Nat.le_refl _) _).alloc (by simp) _).alloc (by simp; omega) _
  have b0 : Box (((w.alloc (.cells #[.int .i64 t.len, .slice A1 t.rest.length c1, .slice A2 t.clo.length c2] 24)).alloc (.cells #[.int .i64 0] 3)).alloc (.cells #[.int .i64 0] 29)) w.heap.size #[.int .i64 t.len, .slice A1 t.rest.length c1, .slice A2 t.clo.length c2] := ((Box.new w _ _).alloc _).alloc _
  have b2 : Box (((w.alloc (.cells #[.int .i64 t.len, .slice A1 t.rest.length c1, .slice A2 t.clo.length c2] 24)).alloc (.cells #[.int .i64 0] 3)).alloc (.cells #[.int .i64 0] 29)) (w.heap.size + 1) #[.int .i64 0] := ((Box.new (w.alloc (.cells #[.int .i64 t.len, .slice A1 t.rest.length c1, .slice A2 t.clo.length c2] 24)) 3 #[.int .i64 0]).alloc _).at' (by simp)
  have b3 : Box (((w.alloc (.cells #[.int .i64 t.len, .slice A1 t.rest.length c1, .slice A2 t.clo.length c2] 24)).alloc (.cells #[.int .i64 0] 3)).alloc (.cells #[.int .i64 0] 29)) (w.heap.size + 1 + 1) #[.int .i64 0] := (Box.new ((w.alloc (.cells #[.int .i64 t.len, .slice A1 t.rest.length c1, .slice A2 t.clo.length c2] 24)).alloc (.cells #[.int .i64 0] 3)) 29 #[.int .i64 0]).at' (by simp)
  have g1 := h1.below hy
  have g2 := h2.below hy
  clear h0
  go_enter Try.func49, Try.ntmps49
  go_wp2_with fail
  refine (asked_any n t A1 A2 c1 c2 _ g1 g2 hl1 hl2).mono ?_
  rintro r w1 ⟨rfl, hb1⟩
  replace b0 := b0.below hb1; replace b2 := b2.below hb1; replace b3 := b3.below hb1; replace hy := hy.trans (hb1.mono hy.size)
  clear hb1 g1 g2
  have hy2 := ((hy.setCell (p := ⟨w.heap.size + 1, 0, none⟩) (by show w.heap.size ≤ w.heap.size + 1; omega) (.int .i64 0)).setCell (p := ⟨w.heap.size + 1 + 1, 0, none⟩) (by show w.heap.size ≤ w.heap.size + 1 + 1; omega) (.int .i64 (qE t n)))
  have k2 := Cl.of b2; have k3 := Cl.of b3
  have hc2 := ((k2.set (.int .i64 0)).other (g' := w.heap.size + 1 + 1) (by omega) (.int .i64 (qE t n))).cell
  have hc3 := ((k3.other (g' := w.heap.size + 1) (by omega) (.int .i64 0)).set (.int .i64 (qE t n))).cell
  have m2 := k2.cell; have m3 := k3.cell; have ff2 := k2.free; have ff3 := k3.free
  have xx0 := b0.cell; have nn0 := b0.lt
  go_wp2_with fail
  clear xx0 nn0
  refine bodyPost_ret (v := .tuple #[.int .i64 0, .int .i64 (qE t n)]) (by simp [results, Try.results49, go_sem, hc2, hc3]) rfl ?_
  exact ⟨rfl, hy2⟩
end Go.Proofs.Ytecjmpaomebdbaa
