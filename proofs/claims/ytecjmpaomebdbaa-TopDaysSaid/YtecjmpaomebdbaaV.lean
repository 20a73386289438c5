/-
  Walks: the next school day (a range over the iterator that is left at once).
-/
import Derived.Test.YtecjmpaomebdbaaU
namespace Go.Proofs.Ytecjmpaomebdbaa
set_option linter.unusedVariables false
set_option linter.unusedSimpArgs false
open Go.RowKit Go.Shelf

attribute [local go_sem] Oper.semAt_some

/-- the first day of the list; or none -/
def NextOf (l : List Int) (N E : Int) : Prop := (0 < l.length ∧ N = gi l 0 ∧ E = 0) ∨ (l.length = 0 ∧ N = 0 ∧ E = 5)

set_option maxRecDepth 100000 in
set_option maxHeartbeats 1000000 in
theorem next_ok (t : Tm) (n : Int) (A1 A2 : Option Addr) (c1 c2 : Nat) (w : World) (h1 : RN w A1 t.rest) (h2 : RN w A2 t.clo) (h0 : qE t n = 0) :
    Calls Try.prog 49 #[.agg #[.int .i64 t.len, .slice A1 t.rest.length c1, .slice A2 t.clo.length c2], .int .i64 n] w fun r w' => (∃ N E : Int, r = .returned (.tuple #[.int .i64 N, .int .i64 E]) ∧ NextOf (dl t n (t.len - n).toNat) N E) ∧ Below w.heap.size w w' := by
  obtain ⟨hok, d0, d1⟩ := qE_ok h0
  have l1 := hok.len1
  have l2 := hok.len2
  have hy : Below w.heap.size w (((w.alloc (.cells #[.int .i64 t.len, .slice A1 t.rest.length c1, .slice A2 t.clo.length c2] 24)).alloc (.cells #[.int .i64 0] 3)).alloc (.cells #[.int .i64 0] 29)) := (((Below.refl _ w).alloc (Nat.le_refl _) _).alloc (by simp) _).alloc (by simp; omega) _
  have b0 : Box (((w.alloc (.cells #[.int .i64 t.len, .slice A1 t.rest.length c1, .slice A2 t.clo.length c2] 24)).alloc (.cells #[.int .i64 0] 3)).alloc (.cells #[.int .i64 0] 29)) w.heap.size #[.int .i64 t.len, .slice A1 t.rest.length c1, .slice A2 t.clo.length c2] := ((Box.new w _ _).alloc _).alloc _
  have b2 : Box (((w.alloc (.cells #[.int .i64 t.len, .slice A1 t.rest.length c1, .slice A2 t.clo.length c2] 24)).alloc (.cells #[.int .i64 0] 3)).alloc (.cells #[.int .i64 0] 29)) (w.heap.size + 1) #[.int .i64 0] := ((Box.new (w.alloc (.cells #[.int .i64 t.len, .slice A1 t.rest.length c1, .slice A2 t.clo.length c2] 24)) 3 #[.int .i64 0]).alloc _).at' (by simp)
  have b3 : Box (((w.alloc (.cells #[.int .i64 t.len, .slice A1 t.rest.length c1, .slice A2 t.clo.length c2] 24)).alloc (.cells #[.int .i64 0] 3)).alloc (.cells #[.int .i64 0] 29)) (w.heap.size + 1 + 1) #[.int .i64 0] := (Box.new ((w.alloc (.cells #[.int .i64 t.len, .slice A1 t.rest.length c1, .slice A2 t.clo.length c2] 24)).alloc (.cells #[.int .i64 0] 3)) 29 #[.int .i64 0]).at' (by simp)
  have g1 := h1.below hy
  have g2 := h2.below hy
  refine (callsIn_wide (n := 5)).1 ?_
  refine callsIn_of_wp_marks Try.func49 rfl trivial ?_ rfl
  simp only [Try.ntmps49, List.size_toArray, List.length_cons, List.length_nil, Nat.reduceAdd, Nat.reduceSub, Array.replicate_succ, Array.replicate_zero, List.push_toArray, List.append_toArray, List.nil_append, List.cons_append]
  gi_wp2_with fail
  refine ⟨trivial, ?_⟩
  refine (callsIn_wide.2 (asked_any n t A1 A2 c1 c2 _ g1 g2 (by have := hok.rest7; have := isSet_len hok.rest; omega) (by have := hok.clo60; omega))).mono ?_
  rintro r w1 ⟨rfl, hb1⟩
  replace b0 := b0.below hb1; replace b2 := b2.below hb1; replace b3 := b3.below hb1; replace hy := hy.trans (hb1.mono hy.size)
  clear hb1 g1 g2
  rw [h0]
  have xx0 := b0.cell; have nn0 := b0.lt
  gi_wp2_with fail
  clear xx0 nn0
  refine ⟨trivial, ?_⟩
  refine (callsIn_wide.2 (daysIt_any t n t.len A1 A2 c1 c2 w1)).mono ?_
  rintro r w3 ⟨rfl, hb3, hib⟩
  have hB4 := b3.lt
  replace b0 := b0.below hb3; replace b2 := b2.below hb3; replace b3 := b3.below hb3; replace hy := hy.trans (hb3.mono hy.size)
  gi_wp2_with fail
  have s2 := Cl.of b2; have s3 := Cl.of b3
  clear b0 b2 b3
  have hle1 : w.heap.size ≤ w1.heap.size := by omega
  refine wpIn_rangeFunc_ownF rfl (by omega) (gf := 77) rfl trivial (enters_of Try.func77 (by kernel_rfl) rfl)
    (days_stops 4 (by omega) t n t.len w1.heap.size A1 A2 c1 c2 w w3 h1 h2 hok (by omega) (by omega) (by omega) hy hib) KpD.trans (kpd_b hy.size hib.lt) (Below.refl _ _) (fun _ => rfl)
    (fun pre W => (Cl W (w.heap.size + 1) (.int .i64 0) ∧ Cl W (w.heap.size + 1 + 1) (.int .i64 0) ∧ pre = []) ∧ Below w.heap.size w W)
    (fun c pre W => (c = .ret ∧ ∃ x, pre = [x] ∧ Cl W (w.heap.size + 1) (.int .i64 x) ∧ Cl W (w.heap.size + 1 + 1) (.int .i64 0)) ∧ Below w.heap.size w W)
    (OwnFrom.and (Own.from (fun s A B row hs hg hr => ⟨hs.1.kept hg hr, hs.2.1.kept hg hr, hs.2.2⟩) _) (ownFrom_below (Nat.le_refl _) hy.size))
    (fun c => OwnFrom.and (Own.from (fun s A B row hs hg hr => ⟨hs.1, by obtain ⟨_, x, e1, k1, k2⟩ := hs; exact ⟨x, e1, k1.kept hg hr, k2.kept hg hr⟩⟩) _) (ownFrom_below (Nat.le_refl _) hy.size))
    ⟨⟨s2, s3, rfl⟩, hy⟩
    (fun x => { tmps := #[.agg #[.int .i64 t.len, .slice A1 t.rest.length c1, .slice A2 t.clo.length c2], .int .i64 n, .pointer (some ⟨w.heap.size, 0, none⟩), undef, .pointer (some ⟨w.heap.size + 1, 0, none⟩), .pointer (some ⟨w.heap.size + 1 + 1, 0, none⟩), .int .i64 0, .int .i64 x,
      .agg #[.int .i64 t.len, .slice A1 t.rest.length c1, .slice A2 t.clo.length c2], .int .i64 n, .int .i64 0, .int .i64 0, .bool false, undef, .agg #[.int .i64 t.len, .slice A1 t.rest.length c1, .slice A2 t.clo.length c2], .int .i64 n, .pointer (some ⟨w.heap.size, 0, none⟩), .int .i64 t.len,
      .func (.func 77) #[] #[.pointer (some ⟨w1.heap.size + 1, 0, none⟩), .pointer (some ⟨w1.heap.size + 2, 0, none⟩), .pointer (some ⟨w1.heap.size, 0, none⟩)], .int .i64 x, undef], defers := [] }) ?assign ?body ?done ?stop
  case assign =>
    intro l x W K hK
    gi_wp2
    exact hK
  case body =>
    rintro l pre x W ⟨⟨k2, k3, rfl⟩, hB⟩ hlen
    have m2 := k2.1; have m3 := k3.1; have ff2 := k2.2; have ff3 := k3.2
    gi_wp2
    exact ⟨(KeepsOthers.setCell _ _ _).trans (KeepsOthers.setCell _ _ _), ⟨rfl, x, rfl, (k2.set (.int .i64 x)).other (by omega) _, (k3.other (by omega) _).set (.int .i64 0)⟩, (hB.setCell (p := ⟨w.heap.size + 1, 0, none⟩) (by show w.heap.size ≤ w.heap.size + 1; omega) _).setCell (p := ⟨w.heap.size + 1 + 1, 0, none⟩) (by show w.heap.size ≤ w.heap.size + 1 + 1; omega) _⟩
  case done =>
    rintro D ys W hD hys ⟨⟨k2, k3, hnil⟩, hB⟩ hK
    subst hnil
    have m2 := k2.1; have m3 := k3.1; have ff2 := k2.2; have ff3 := k3.2
    gi_wp2
    have hK' := ((KeepsOthers.setCell W ⟨w.heap.size + 1, 0, none⟩ (.int .i64 0)).trans (KeepsOthers.setCell _ ⟨w.heap.size + 1 + 1, 0, none⟩ (.int .i64 5))).same D _ hK rfl
    have hc2 := (((k2.set (.int .i64 0)).other (g' := w.heap.size + 1 + 1) (by omega) (.int .i64 5)).kept (grownBy_putObj' _ D (.deferred none)) (fun r e => by cases e; exact ⟨_, hK', rfl⟩)).cell
    have hc3 := (((k3.other (g' := w.heap.size + 1) (by omega) (.int .i64 0)).set (.int .i64 5)).kept (grownBy_putObj' _ D (.deferred none)) (fun r e => by cases e; exact ⟨_, hK', rfl⟩)).cell
    refine ⟨by simp, .inl ⟨_, _, rfl, run_takeDeferred hK', ?_⟩⟩
    refine ⟨.tuple #[.int .i64 0, .int .i64 5], ?_, ⟨0, 5, rfl, .inr ⟨by rw [← hys]; rfl, rfl, rfl⟩⟩, ((hB.setCell (p := ⟨w.heap.size + 1, 0, none⟩) (by show w.heap.size ≤ w.heap.size + 1; omega) _).setCell (p := ⟨w.heap.size + 1 + 1, 0, none⟩) (by show w.heap.size ≤ w.heap.size + 1 + 1; omega) _).trans (belowK_b (w := w) (Nat.le_refl _) _ D _ _ (by have := hy.size; omega) hK' rfl rfl)⟩
    simp [results, Try.results49, go_sem, hc2, hc3]
  case stop =>
    rintro D c pre W hD hpre ⟨⟨rfl, x, hpx, k2, k3⟩, hB⟩ hK
    gi_wp2
    have hc2 := (k2.kept (grownBy_putObj' _ D (.deferred none)) (fun r e => by cases e; exact ⟨_, hK, rfl⟩)).cell
    have hc3 := (k3.kept (grownBy_putObj' _ D (.deferred none)) (fun r e => by cases e; exact ⟨_, hK, rfl⟩)).cell
    obtain ⟨k, hk, ho, hpk⟩ := hpre
    rw [hpx] at hpk
    obtain ⟨e1, e2⟩ := List.append_inj' (show [] ++ [x] = _ from hpk) rfl
    obtain ⟨u1, u2⟩ := dl_hit hk ho
    rw [← e1] at u1 u2
    have ex : x = n + (k : Int) := by simpa using e2
    refine ⟨by simp, .inl ⟨_, _, rfl, run_takeDeferred hK, ?_⟩⟩
    refine ⟨.tuple #[.int .i64 x, .int .i64 0], ?_, ⟨x, 0, rfl, .inl ⟨u1, by rw [ex]; exact u2.symm, rfl⟩⟩, hB.trans (belowK_b (w := w) (Nat.le_refl _) W D _ _ (by have := hy.size; omega) hK rfl rfl)⟩
    simp [results, Try.results49, go_sem, hc2, hc3]
end Go.Proofs.Ytecjmpaomebdbaa
