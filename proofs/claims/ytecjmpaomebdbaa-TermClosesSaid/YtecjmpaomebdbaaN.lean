/-
  The walk of the law TermTogether.
-/
import Derived.Test.YtecjmpaomebdbaaM
namespace Go.Proofs.Ytecjmpaomebdbaa
set_option linter.unusedVariables false
set_option linter.unusedSimpArgs false
open Go.RowKit

def Three (w : World) (g : Nat) (c : Cy) : Prop := g < w.heap.size ∧ w.cell? ⟨g, 0, none⟩ = some (.int .i64 c.n) ∧ w.cell? ⟨g, 1, none⟩ = some (.int .i64 c.f) ∧ w.cell? ⟨g, 2, none⟩ = some (.int .i64 c.k)
theorem Three.of_box {w : World} {g : Nat} {c : Cy} (h : Box w g #[.int .i64 c.n, .int .i64 c.f, .int .i64 c.k]) : Three w g c := ⟨h.lt, by rw [h.cell]; rfl, by rw [h.cell]; rfl, by rw [h.cell]; rfl⟩
theorem Box.drew {w : World} {g : Nat} {cs : Array Value} (h : Box w g cs) : Box w.drew g cs := ⟨h.lt, h.cell, h.free⟩
theorem Three.below {w w' : World} {g : Nat} {c : Cy} (h : Three w g c) (hb : Below w.heap.size w w') : Three w' g c :=
  ⟨Nat.lt_of_lt_of_le h.1 hb.size, (hb.cell (p := ⟨g, 0, none⟩) h.1).trans h.2.1, (hb.cell (p := ⟨g, 1, none⟩) h.1).trans h.2.2.1, (hb.cell (p := ⟨g, 2, none⟩) h.1).trans h.2.2.2⟩

set_option maxRecDepth 100000 in
set_option maxHeartbeats 3200000 in
theorem termTogether_any (t : Tm) (A1 A2 : Option Addr) (c1 c2 : Nat) (a b : Cy) (x y : Int) (w : World) (h1 : RN w A1 t.rest) (h2 : RN w A2 t.clo) :
    Calls Try.prog 9 #[.agg #[.int .i64 t.len, .slice A1 t.rest.length c1, .slice A2 t.clo.length c2], .agg #[.int .i64 a.n, .int .i64 a.f, .int .i64 a.k, .int .i64 b.n, .int .i64 b.f, .int .i64 b.k], .agg #[.int .i64 x, .int .i64 y]] w fun e w' => e = .returned (.bool true) ∧ Below w.heap.size w w' := by
  have hy : Below w.heap.size w (((w.alloc (.cells #[.int .i64 t.len, .slice A1 t.rest.length c1, .slice A2 t.clo.length c2] 24)).alloc (.cells #[.int .i64 a.n, .int .i64 a.f, .int .i64 a.k, .int .i64 b.n, .int .i64 b.f, .int .i64 b.k] 59)).alloc (.cells #[.int .i64 x, .int .i64 y] 54)) := (((Below.refl _ _).alloc (Nat.le_refl _) _).alloc (by simp) _).alloc (by simp; omega) _
  have b0 : Box (((w.alloc (.cells #[.int .i64 t.len, .slice A1 t.rest.length c1, .slice A2 t.clo.length c2] 24)).alloc (.cells #[.int .i64 a.n, .int .i64 a.f, .int .i64 a.k, .int .i64 b.n, .int .i64 b.f, .int .i64 b.k] 59)).alloc (.cells #[.int .i64 x, .int .i64 y] 54)) w.heap.size #[.int .i64 t.len, .slice A1 t.rest.length c1, .slice A2 t.clo.length c2] := ((Box.new w _ _).alloc _).alloc _
  have b1 : Box (((w.alloc (.cells #[.int .i64 t.len, .slice A1 t.rest.length c1, .slice A2 t.clo.length c2] 24)).alloc (.cells #[.int .i64 a.n, .int .i64 a.f, .int .i64 a.k, .int .i64 b.n, .int .i64 b.f, .int .i64 b.k] 59)).alloc (.cells #[.int .i64 x, .int .i64 y] 54)) (w.heap.size + 1) #[.int .i64 a.n, .int .i64 a.f, .int .i64 a.k, .int .i64 b.n, .int .i64 b.f, .int .i64 b.k] := ((Box.new (w.alloc (.cells #[.int .i64 t.len, .slice A1 t.rest.length c1, .slice A2 t.clo.length c2] 24)) _ _).at' (by simp)).alloc _
  have b2 : Box (((w.alloc (.cells #[.int .i64 t.len, .slice A1 t.rest.length c1, .slice A2 t.clo.length c2] 24)).alloc (.cells #[.int .i64 a.n, .int .i64 a.f, .int .i64 a.k, .int .i64 b.n, .int .i64 b.f, .int .i64 b.k] 59)).alloc (.cells #[.int .i64 x, .int .i64 y] 54)) (w.heap.size + 2) #[.int .i64 x, .int .i64 y] := (Box.new ((w.alloc (.cells #[.int .i64 t.len, .slice A1 t.rest.length c1, .slice A2 t.clo.length c2] 24)).alloc (.cells #[.int .i64 a.n, .int .i64 a.f, .int .i64 a.k, .int .i64 b.n, .int .i64 b.f, .int .i64 b.k] 59)) _ _).at' (by simp)
  replace h1 := h1.below hy
  replace h2 := h2.below hy
  go_enter Try.func9, Try.ntmps9
  go_wp2_with fail
  obtain ⟨W, hW⟩ : ∃ W, W = (((w.alloc (.cells #[.int .i64 t.len, .slice A1 t.rest.length c1, .slice A2 t.clo.length c2] 24)).alloc (.cells #[.int .i64 a.n, .int .i64 a.f, .int .i64 a.k, .int .i64 b.n, .int .i64 b.f, .int .i64 b.k] 59)).alloc (.cells #[.int .i64 x, .int .i64 y] 54)) := ⟨_, rfl⟩
  rw [← hW] at b0 b1 b2 h1 h2 hy ⊢
  clear hW
  have hs := b2.lt
  have c0 : W.cell? ⟨w.heap.size + 1, 0, none⟩ = some (.int .i64 a.n) := by rw [b1.cell]; rfl
  have c1' : W.cell? ⟨w.heap.size + 1, 1, none⟩ = some (.int .i64 a.f) := by rw [b1.cell]; rfl
  have c2' : W.cell? ⟨w.heap.size + 1, 2, none⟩ = some (.int .i64 a.k) := by rw [b1.cell]; rfl
  have c3 : W.cell? ⟨w.heap.size + 1, 3, none⟩ = some (.int .i64 b.n) := by rw [b1.cell]; rfl
  have c4 : W.cell? ⟨w.heap.size + 1, 4, none⟩ = some (.int .i64 b.f) := by rw [b1.cell]; rfl
  have c5 : W.cell? ⟨w.heap.size + 1, 5, none⟩ = some (.int .i64 b.k) := by rw [b1.cell]; rfl
  have ne1 : ¬ w.heap.size + 1 = W.heap.size := by omega
  go_cut [7, 8] (fun s s' wx => ∃ g g', s = .pointer (some ⟨g, 0, none⟩) ∧ s' = .pointer (some ⟨g', 0, none⟩) ∧ Three wx g a ∧ Three wx g' b ∧ Below W.heap.size W wx)
  case first =>
    go_region_held3 (fun w' => w'.cell? ⟨w.heap.size + 1, 0, none⟩ = some (.int .i64 a.n) ∧ w'.cell? ⟨w.heap.size + 1, 1, none⟩ = some (.int .i64 a.f) ∧ w'.cell? ⟨w.heap.size + 1, 2, none⟩ = some (.int .i64 a.k) ∧ w'.cell? ⟨w.heap.size + 1, 3, none⟩ = some (.int .i64 b.n) ∧ w'.cell? ⟨w.heap.size + 1, 4, none⟩ = some (.int .i64 b.f) ∧ w'.cell? ⟨w.heap.size + 1, 5, none⟩ = some (.int .i64 b.k)) (go_keep) (fail)
    all_goals
      go_wp2_with fail
      go_meet
      first
        | exact ⟨W.heap.size, W.heap.size + 1, rfl, rfl, Three.of_box (((Box.new W _ _).alloc _).drew), Three.of_box (((Box.new (W.alloc _) _ _).at' (by simp)).drew), (((Below.refl _ _).alloc (Nat.le_refl _) _).alloc (by simp) _).drew⟩
        | exact ⟨W.heap.size + 1, W.heap.size, rfl, rfl, Three.of_box (((Box.new (W.alloc _) _ _).at' (by simp)).drew), Three.of_box (((Box.new W _ _).alloc _).drew), (((Below.refl _ _).alloc (Nat.le_refl _) _).alloc (by simp) _).drew⟩
  case rest =>
    obtain ⟨g, g', rfl, rfl, k1, k2, hbx⟩ := hcut
    replace b0 := b0.below hbx
    replace b2 := b2.below hbx
    replace h1 := h1.below hbx
    replace h2 := h2.below hbx
    replace hy := hy.trans (hbx.mono hy.size)
    clear c0 c1' c2' c3 c4 c5 ne1 hs b1 hbx
    have xx0 := b0.cell; have nn0 := b0.lt; have xx1 := b2.cell; have nn1 := b2.lt
    go_wp2_with fail
    clear xx0 nn0 xx1 nn1
    refine (long_any t A1 A2 c1 c2 _).mono ?_
    rintro e w1 ⟨rfl, hb1⟩
    replace b0 := b0.below hb1; replace b2 := b2.below hb1; replace h1 := h1.below hb1; replace h2 := h2.below hb1; replace k1 := k1.below hb1; replace k2 := k2.below hb1; replace hy := hy.trans (hb1.mono hy.size)
    clear hb1
    cases hlg : longB t with
    | true =>
      have xx0 := b0.cell; have nn0 := b0.lt; have xx1 := b2.cell; have nn1 := b2.lt
      go_wp2_with fail
      clear xx0 nn0 xx1 nn1
      refine (known_any _).mono ?_
      rintro e w2 ⟨rfl, hb2⟩
      go_wp2
      go_ret
      exact ⟨rfl, hy.trans (hb2.mono hy.size)⟩
    | false =>
      obtain ⟨l1, l2⟩ := longB_no hlg
      obtain ⟨p0, p1, p2, p3⟩ := id k1; obtain ⟨r0, r1, r2, r3⟩ := id k2
      have xx0 := b0.cell; have nn0 := b0.lt; have xx1 := b2.cell; have nn1 := b2.lt
      go_wp2_with fail
      clear xx0 nn0 xx1 nn1
      clear p0 p1 p2 p3 r0 r1 r2 r3
      refine (together_any a b x y t A1 A2 c1 c2 _ h1 h2 (by omega) (by omega)).mono ?_
      rintro e w2 ⟨rfl, hb2⟩
      replace b0 := b0.below hb2; replace b2 := b2.below hb2; replace h1 := h1.below hb2; replace h2 := h2.below hb2; replace k1 := k1.below hb2; replace k2 := k2.below hb2; replace hy := hy.trans (hb2.mono hy.size)
      clear hb2
      obtain ⟨p0, p1, p2, p3⟩ := id k1; obtain ⟨r0, r1, r2, r3⟩ := id k2
      have xx0 := b0.cell; have nn0 := b0.lt; have xx1 := b2.cell; have nn1 := b2.lt
      go_wp2_with fail
      clear xx0 nn0 xx1 nn1
      clear p0 p1 p2 p3 r0 r1 r2 r3
      refine (rtogether_any a b x y t A1 A2 c1 c2 _ h1 h2 (by omega) (by omega)).mono ?_
      rintro e w3 ⟨rfl, hb3⟩
      replace b0 := b0.below hb3; replace b2 := b2.below hb3; replace h1 := h1.below hb3; replace h2 := h2.below hb3; replace k1 := k1.below hb3; replace k2 := k2.below hb3; replace hy := hy.trans (hb3.mono hy.size)
      clear hb3
      cases togB t a b x y
      all_goals
        have xx0 := b0.cell; have nn0 := b0.lt; have xx1 := b2.cell; have nn1 := b2.lt
        go_wp2_with fail
        clear xx0 nn0 xx1 nn1
        refine (known_any _).mono ?_
        rintro e w4 ⟨rfl, hb4⟩
        go_wp2
        go_ret
        exact ⟨rfl, hy.trans (hb4.mono hy.size)⟩

end Go.Proofs.Ytecjmpaomebdbaa
