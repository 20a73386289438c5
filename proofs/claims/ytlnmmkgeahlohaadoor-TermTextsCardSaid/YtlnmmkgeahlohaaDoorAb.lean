/-
  Walks: whether two terms are the same.
-/
import Derived.Test.YtlnmmkgeahlohaaDoorAa
namespace Go.Proofs.YtlnmmkgeahlohaaDoor
set_option linter.unusedVariables false
set_option linter.unusedSimpArgs false
open Go.RowKit

def sameB (s t : Tm) : Bool := s.len == t.len && (decide (s.rest = t.rest) && decide (s.clo = t.clo))
theorem sameB_refl (t : Tm) : sameB t t = true := by simp [sameB]

set_option maxRecDepth 100000 in
set_option maxHeartbeats 1000000 in
theorem same_any (s t : Tm) (B1 B2 A1 A2 : Option Addr) (e1 e2 c1 c2 : Nat) (w : World) (g1 : RN w B1 s.rest) (g2 : RN w B2 s.clo) (h1 : RN w A1 t.rest) (h2 : RN w A2 t.clo)
    (k1 : s.rest.length ≤ 1000000) (k2 : s.clo.length ≤ 1000000) (l1 : t.rest.length ≤ 1000000) (l2 : t.clo.length ≤ 1000000) :
    Calls Tryd.prog 10 #[.agg #[.int .i64 s.len, .slice B1 s.rest.length e1, .slice B2 s.clo.length e2], .agg #[.int .i64 t.len, .slice A1 t.rest.length c1, .slice A2 t.clo.length c2]] w fun e w' => e = .returned (.bool (sameB s t)) ∧ Below w.heap.size w w' := by
  obtain ⟨S, hS⟩ : ∃ S, S = sameB s t := ⟨_, rfl⟩
  rw [← hS]
  have HS := Lib.hid hS
  clear hS
  have hy : Below w.heap.size w ((w.alloc (.cells #[.int .i64 s.len, .slice B1 s.rest.length e1, .slice B2 s.clo.length e2] 24)).alloc (.cells #[.int .i64 t.len, .slice A1 t.rest.length c1, .slice A2 t.clo.length c2] 24)) := ((Below.refl _ w).alloc (Nat.le_refl _) _).alloc (by simp) _
  have b0 : Box ((w.alloc (.cells #[.int .i64 s.len, .slice B1 s.rest.length e1, .slice B2 s.clo.length e2] 24)).alloc (.cells #[.int .i64 t.len, .slice A1 t.rest.length c1, .slice A2 t.clo.length c2] 24)) w.heap.size #[.int .i64 s.len, .slice B1 s.rest.length e1, .slice B2 s.clo.length e2] := (Box.new w _ _).alloc _
  have b1 : Box ((w.alloc (.cells #[.int .i64 s.len, .slice B1 s.rest.length e1, .slice B2 s.clo.length e2] 24)).alloc (.cells #[.int .i64 t.len, .slice A1 t.rest.length c1, .slice A2 t.clo.length c2] 24)) (w.heap.size + 1) #[.int .i64 t.len, .slice A1 t.rest.length c1, .slice A2 t.clo.length c2] := (Box.new (w.alloc (.cells #[.int .i64 s.len, .slice B1 s.rest.length e1, .slice B2 s.clo.length e2] 24)) _ _).at' (by simp)
  replace g1 := g1.below hy; replace g2 := g2.below hy; replace h1 := h1.below hy; replace h2 := h2.below hy
  cases hq : (s.len == t.len) with
  | false =>
    have hv : S = false := by rw [HS.out, sameB, hq]; rfl
    have HV := Lib.hid hv
    clear hv
    go_enter Tryd.func10, Tryd.ntmps10
    go_wp2
    go_ret
    exact ⟨ret_bool (by rw [HV.out]), hy⟩
  | true =>
    cases hr : decide (s.rest = t.rest) with
    | false =>
      have hv : S = false := by rw [HS.out, sameB, hq, hr]; rfl
      have HV := Lib.hid hv
      clear hv
      go_enter Tryd.func10, Tryd.ntmps10
      go_wp2_with fail
      refine (sameInts_any s.rest t.rest _ _ _ _ _ g1 h1 (by omega) (by omega)).mono ?_
      rintro e w3 ⟨rfl, hb3⟩
      rw [hr]
      replace b0 := b0.below hb3; replace b1 := b1.below hb3; replace g1 := g1.below hb3; replace g2 := g2.below hb3; replace h1 := h1.below hb3; replace h2 := h2.below hb3; replace hy := hy.trans (hb3.mono hy.size)
      clear hb3
      have xx0 := b0.cell; have nn0 := b0.lt; have xx1 := b1.cell; have nn1 := b1.lt
      go_wp2_with fail
      go_ret
      exact ⟨ret_bool (by rw [HV.out]), hy⟩
    | true =>
      have hv : S = decide (s.clo = t.clo) := by rw [HS.out, sameB, hq, hr]; rfl
      have HV := Lib.hid hv
      clear hv
      go_enter Tryd.func10, Tryd.ntmps10
      go_wp2_with fail
      refine (sameInts_any s.rest t.rest _ _ _ _ _ g1 h1 (by omega) (by omega)).mono ?_
      rintro e w3 ⟨rfl, hb3⟩
      rw [hr]
      replace b0 := b0.below hb3; replace b1 := b1.below hb3; replace g1 := g1.below hb3; replace g2 := g2.below hb3; replace h1 := h1.below hb3; replace h2 := h2.below hb3; replace hy := hy.trans (hb3.mono hy.size)
      clear hb3
      have xx0 := b0.cell; have nn0 := b0.lt; have xx1 := b1.cell; have nn1 := b1.lt
      go_wp2_with fail
      clear xx0 nn0 xx1 nn1
      refine (sameInts_any s.clo t.clo _ _ _ _ _ g2 h2 (by omega) (by omega)).mono ?_
      rintro e w4 ⟨rfl, hb4⟩
      rw [← HV.out]
      go_wp2
      go_ret
      exact ⟨rfl, hy.trans (hb4.mono hy.size)⟩
end Go.Proofs.YtlnmmkgeahlohaaDoor
