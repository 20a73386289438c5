/-
  Walks: the school day with a number, and the next one (the ranges over the iterator that are left early).
-/
import Derived.Test.YtecjmpaomebdbaaQ
import Derived.Test.YtecjmpaomebdbaaS
namespace Go.Proofs.Ytecjmpaomebdbaa
set_option linter.unusedVariables false
set_option linter.unusedSimpArgs false
open Go.RowKit Go.Shelf

attribute [local go_sem] Oper.semAt_some

/-- a cell that may be written -/
structure Cl (W : World) (g : Nat) (v : Value) : Prop where
  cell : W.cell? ⟨g, 0, none⟩ = some v
  free : W.frozen? ⟨g, 0, none⟩ = false
theorem Cl.of {W : World} {g : Nat} {v : Value} (h : Box W g #[v]) : Cl W g v := ⟨by rw [h.cell]; rfl, h.free 0⟩
theorem Cl.to {W : World} {g : Nat} {v u : Value} (h : Cl W g v) (e : v = u) : Cl W g u := e ▸ h
theorem Cl.kept {A B : World} {g : Nat} {v : Value} {row : Option Nat} (h : Cl A g v) (hg : A.grownBy B row) (hr : ∀ r, row = some r → ∃ o : Obj, A.heap[r]? = some o ∧ o.isCells = false) : Cl B g v :=
  ⟨cell_kept h.cell hg hr, (frozen_kept h.cell hg hr).trans h.free⟩
theorem Cl.set {W : World} {g : Nat} {v : Value} (h : Cl W g v) (u : Value) : Cl (W.setCell ⟨g, 0, none⟩ u) g u :=
  ⟨World.cell?_setCell_same' _ _ _ (by rw [h.cell]; rfl), by rw [World.frozen?_setCell]; exact h.free⟩
theorem Cl.other {W : World} {g g' : Nat} {v : Value} (h : Cl W g v) (hne : g ≠ g') (u : Value) : Cl (W.setCell ⟨g', 0, none⟩ u) g v :=
  ⟨by rw [World.cell?_setCell_other _ _ _ _ (by intro e; exact hne (congrArg Addr.block e).symm)]; exact h.cell, by rw [World.frozen?_setCell]; exact h.free⟩

theorem dl_app (t : Tm) (a : Int) (j : Nat) : ∀ k, dl t a (j + k) = dl t a j ++ dl t (a + j) k
  | 0 => by simp [dl]
  | k + 1 => by
    have ih := dl_app t a j k
    have he : a + ((j + k : Nat) : Int) = a + j + k := by omega
    rw [← Nat.add_assoc]
    simp only [dl]
    rw [ih, he, List.append_assoc]
theorem dl_hit {t : Tm} {a : Int} {k K : Nat} (hk : k < K) (ho : opB t (a + k) = true) : (dl t a k).length < (dl t a K).length ∧ gi (dl t a K) (dl t a k).length = a + k := by
  obtain ⟨j, rfl⟩ : ∃ j, K = k + 1 + j := ⟨K - (k + 1), by omega⟩
  rw [dl_app, dl_yes ho]
  constructor
  · simp
  · simp [gi]

/-- the day before which there are n days of the list; or none -/
def NthOf (l : List Int) (n N E : Int) : Prop := (∃ k : Nat, k < l.length ∧ n = k ∧ N = gi l k ∧ E = 0) ∨ ((n < 0 ∨ l.length ≤ n) ∧ N = 0 ∧ E = 5)

set_option maxRecDepth 100000 in
set_option maxHeartbeats 1000000 in
theorem nth_ok (t : Tm) (n : Int) (A1 A2 : Option Addr) (c1 c2 : Nat) (w : World) (h1 : RN w A1 t.rest) (h2 : RN w A2 t.clo) (h0 : tE t = 0) (hn : -9223372036854775808 ≤ n ∧ n ≤ 9223372036854775807) :
    Calls Try.prog 27 #[.agg #[.int .i64 t.len, .slice A1 t.rest.length c1, .slice A2 t.clo.length c2], .int .i64 n] w fun r w' => (∃ N E : Int, r = .returned (.tuple #[.int .i64 N, .int .i64 E]) ∧ NthOf (dl t 0 t.len.toNat) n N E) ∧ Below w.heap.size w w' := by
  have hok := TmOk.of h0
  have l1 := hok.len1
  have l2 := hok.len2
  have hy : Below w.heap.size w ((((w.alloc (.cells #[.int .i64 t.len, .slice A1 t.rest.length c1, .slice A2 t.clo.length c2] 24)).alloc (.cells #[.int .i64 n] 3)).alloc (.cells #[.int .i64 0] 3)).alloc (.cells #[.int .i64 0] 29)) := ((((Below.refl _ w).alloc (Nat.le_refl _) _).alloc (by simp) _).alloc (by simp; omega) _).alloc (by simp; omega) _
  have b0 : Box ((((w.alloc (.cells #[.int .i64 t.len, .slice A1 t.rest.length c1, .slice A2 t.clo.length c2] 24)).alloc (.cells #[.int .i64 n] 3)).alloc (.cells #[.int .i64 0] 3)).alloc (.cells #[.int .i64 0] 29)) w.heap.size #[.int .i64 t.len, .slice A1 t.rest.length c1, .slice A2 t.clo.length c2] := (((Box.new w _ _).alloc _).alloc _).alloc _
  have b1 : Box ((((w.alloc (.cells #[.int .i64 t.len, .slice A1 t.rest.length c1, .slice A2 t.clo.length c2] 24)).alloc (.cells #[.int .i64 n] 3)).alloc (.cells #[.int .i64 0] 3)).alloc (.cells #[.int .i64 0] 29)) (w.heap.size + 1) #[.int .i64 n] := (((Box.new (w.alloc (.cells #[.int .i64 t.len, .slice A1 t.rest.length c1, .slice A2 t.clo.length c2] 24)) 3 #[.int .i64 n]).alloc _).alloc _).at' (by simp)
  have b2 : Box ((((w.alloc (.cells #[.int .i64 t.len, .slice A1 t.rest.length c1, .slice A2 t.clo.length c2] 24)).alloc (.cells #[.int .i64 n] 3)).alloc (.cells #[.int .i64 0] 3)).alloc (.cells #[.int .i64 0] 29)) (w.heap.size + 1 + 1) #[.int .i64 0] := ((Box.new ((w.alloc (.cells #[.int .i64 t.len, .slice A1 t.rest.length c1, .slice A2 t.clo.length c2] 24)).alloc (.cells #[.int .i64 n] 3)) 3 #[.int .i64 0]).alloc _).at' (by simp)
  have b3 : Box ((((w.alloc (.cells #[.int .i64 t.len, .slice A1 t.rest.length c1, .slice A2 t.clo.length c2] 24)).alloc (.cells #[.int .i64 n] 3)).alloc (.cells #[.int .i64 0] 3)).alloc (.cells #[.int .i64 0] 29)) (w.heap.size + 1 + 1 + 1) #[.int .i64 0] := (Box.new (((w.alloc (.cells #[.int .i64 t.len, .slice A1 t.rest.length c1, .slice A2 t.clo.length c2] 24)).alloc (.cells #[.int .i64 n] 3)).alloc (.cells #[.int .i64 0] 3)) 29 #[.int .i64 0]).at' (by simp)
  have g1 := h1.below hy
  have g2 := h2.below hy
  refine (callsIn_wide (n := 5)).1 ?_
  refine callsIn_of_wp_marks Try.func27 rfl trivial ?_ rfl
  simp only [Try.ntmps27, List.size_toArray, List.length_cons, List.length_nil, Nat.reduceAdd, Nat.reduceSub, Array.replicate_succ, Array.replicate_zero, List.push_toArray, List.append_toArray, List.nil_append, List.cons_append]
  gi_wp2_with fail
  refine ⟨trivial, ?_⟩
  refine (callsIn_wide.2 (tvalidate_any t A1 A2 c1 c2 _ g1 g2 (by have := hok.rest7; have := isSet_len hok.rest; omega) (by have := hok.clo60; omega))).mono ?_
  rintro r w1 ⟨rfl, hb1⟩
  replace b0 := b0.below hb1; replace b1 := b1.below hb1; replace b2 := b2.below hb1; replace b3 := b3.below hb1; replace hy := hy.trans (hb1.mono hy.size)
  clear hb1 g1 g2
  rw [h0]
  have xx0 := b0.cell; have nn0 := b0.lt
  gi_wp2_with fail
  clear xx0 nn0
  refine ⟨trivial, ?_⟩
  refine (callsIn_wide.2 (daysIt_any t 0 t.len A1 A2 c1 c2 w1)).mono ?_
  rintro r w3 ⟨rfl, hb3, hib⟩
  have hB4 := b3.lt
  replace b0 := b0.below hb3; replace b1 := b1.below hb3; replace b2 := b2.below hb3; replace b3 := b3.below hb3; replace hy := hy.trans (hb3.mono hy.size)
  gi_wp2_with fail
  have s1 := Cl.of b1; have s2 := Cl.of b2; have s3 := Cl.of b3
  clear b0 b1 b2 b3
  have hle1 : w.heap.size ≤ w1.heap.size := by omega
  refine wpIn_rangeFunc_ownF rfl (by omega) (gf := 77) rfl trivial (enters_of Try.func77 (by kernel_rfl) rfl)
    (days_stops 4 (by omega) t 0 t.len w1.heap.size A1 A2 c1 c2 w w3 h1 h2 hok (by omega) (by omega) (by omega) hy hib) KpD.trans (kpd_b hy.size hib.lt) (Below.refl _ _) (fun _ => rfl)
    (fun pre W => (Cl W (w.heap.size + 1) (.int .i64 (RowKit.wrap64 (n - pre.length))) ∧ Cl W (w.heap.size + 1 + 1) (.int .i64 0) ∧ Cl W (w.heap.size + 1 + 1 + 1) (.int .i64 0) ∧ (n < 0 ∨ pre.length ≤ n)) ∧ Below w.heap.size w W)
    (fun c pre W => (c = .ret ∧ ∃ p x, pre = p ++ [x] ∧ n = (p.length : Nat) ∧ Cl W (w.heap.size + 1 + 1) (.int .i64 x) ∧ Cl W (w.heap.size + 1 + 1 + 1) (.int .i64 0)) ∧ Below w.heap.size w W)
    (OwnFrom.and (Own.from (fun s A B row hs hg hr => ⟨hs.1.kept hg hr, hs.2.1.kept hg hr, hs.2.2.1.kept hg hr, hs.2.2.2⟩) _) (ownFrom_below (Nat.le_refl _) hy.size))
    (fun c => OwnFrom.and (Own.from (fun s A B row hs hg hr => ⟨hs.1, by obtain ⟨_, p, x, e1, e2, k1, k2⟩ := hs; exact ⟨p, x, e1, e2, k1.kept hg hr, k2.kept hg hr⟩⟩) _) (ownFrom_below (Nat.le_refl _) hy.size))
    ⟨⟨s1.to (by congr 1; unfold RowKit.wrap64; simp; omega), s2, s3, by simp; omega⟩, hy⟩
    (fun x => { tmps := #[.agg #[.int .i64 t.len, .slice A1 t.rest.length c1, .slice A2 t.clo.length c2], .int .i64 n, .pointer (some ⟨w.heap.size, 0, none⟩), .pointer (some ⟨w.heap.size + 1, 0, none⟩), .pointer (some ⟨w.heap.size + 1 + 1, 0, none⟩), .pointer (some ⟨w.heap.size + 1 + 1 + 1, 0, none⟩), .int .i64 0, .int .i64 x,
      .agg #[.int .i64 t.len, .slice A1 t.rest.length c1, .slice A2 t.clo.length c2], .int .i64 0, .int .i64 0, .bool false, undef, .agg #[.int .i64 t.len, .slice A1 t.rest.length c1, .slice A2 t.clo.length c2], .pointer (some ⟨w.heap.size, 0, none⟩), .int .i64 t.len,
      .func (.func 77) #[] #[.pointer (some ⟨w1.heap.size + 1, 0, none⟩), .pointer (some ⟨w1.heap.size + 2, 0, none⟩), .pointer (some ⟨w1.heap.size, 0, none⟩)], .int .i64 x, undef, undef, undef, undef, undef], defers := [] }) ?assign ?body ?done ?stop
  case assign =>
    intro l x W K hK
    gi_wp2
    exact hK
  case body =>
    rintro l pre x W ⟨⟨k1, k2, k3, hp⟩, hB⟩ hlen
    obtain ⟨k1, f1⟩ := k1
    by_cases hq : n = (pre.length : Nat)
    · have hv : RowKit.wrap64 (n - pre.length) = 0 := by unfold RowKit.wrap64; omega
      rw [hv] at k1
      have m2 := k2.1; have m3 := k3.1; have ff2 := k2.2; have ff3 := k3.2
      gi_wp2
      exact ⟨(KeepsOthers.setCell _ _ _).trans (KeepsOthers.setCell _ _ _), ⟨rfl, pre, x, rfl, hq, (k2.set (.int .i64 x)).other (by omega) _, (k3.other (by omega) _).set (.int .i64 0)⟩, (hB.setCell (p := ⟨w.heap.size + 1 + 1, 0, none⟩) (by show w.heap.size ≤ w.heap.size + 1 + 1; omega) _).setCell (p := ⟨w.heap.size + 1 + 1 + 1, 0, none⟩) (by show w.heap.size ≤ w.heap.size + 1 + 1 + 1; omega) _⟩
    · obtain ⟨V, hV⟩ : ∃ V, V = RowKit.wrap64 (n - pre.length) := ⟨_, rfl⟩
      rw [← hV] at k1
      have hv : (V == 0) = false := by rw [beq_eq_false_iff_ne, hV]; unfold RowKit.wrap64; omega
      gi_wp2
      have hnx : RowKit.wrap64 (V - 1) = RowKit.wrap64 (n - ((pre ++ [x]).length : Nat)) := by rw [hV]; unfold RowKit.wrap64; simp; omega
      exact ⟨KeepsOthers.setCell _ _ _, KpD.set (by omega) (by omega) _ _, ⟨((Cl.mk k1 f1).set _).to (by rw [← hnx, hV]), k2.other (by omega) _, k3.other (by omega) _, by simp; omega⟩, hB.setCell (p := ⟨w.heap.size + 1, 0, none⟩) (by show w.heap.size ≤ w.heap.size + 1; omega) _⟩
  case done =>
    rintro D ys W hD rfl ⟨⟨k1, k2, k3, hp⟩, hB⟩ hK
    have m2 := k2.1; have m3 := k3.1; have ff2 := k2.2; have ff3 := k3.2
    gi_wp2
    have hK' := ((KeepsOthers.setCell W ⟨w.heap.size + 1 + 1, 0, none⟩ (.int .i64 0)).trans (KeepsOthers.setCell _ ⟨w.heap.size + 1 + 1 + 1, 0, none⟩ (.int .i64 5))).same D _ hK rfl
    have hc2 := (((k2.set (.int .i64 0)).other (g' := w.heap.size + 1 + 1 + 1) (by omega) (.int .i64 5)).kept (grownBy_putObj' _ D (.deferred none)) (fun r e => by cases e; exact ⟨_, hK', rfl⟩)).cell
    have hc3 := (((k3.other (g' := w.heap.size + 1 + 1) (by omega) (.int .i64 0)).set (.int .i64 5)).kept (grownBy_putObj' _ D (.deferred none)) (fun r e => by cases e; exact ⟨_, hK', rfl⟩)).cell
    refine ⟨by simp, .inl ⟨_, _, rfl, run_takeDeferred hK', ?_⟩⟩
    refine ⟨.tuple #[.int .i64 0, .int .i64 5], ?_, ⟨0, 5, rfl, .inr ⟨by simpa using hp, rfl, rfl⟩⟩, ((hB.setCell (p := ⟨w.heap.size + 1 + 1, 0, none⟩) (by show w.heap.size ≤ w.heap.size + 1 + 1; omega) _).setCell (p := ⟨w.heap.size + 1 + 1 + 1, 0, none⟩) (by show w.heap.size ≤ w.heap.size + 1 + 1 + 1; omega) _).trans (belowK_b (w := w) (Nat.le_refl _) _ D _ _ (by have := hy.size; omega) hK' rfl rfl)⟩
    simp [results, Try.results27, go_sem, hc2, hc3]
  case stop =>
    rintro D c pre W hD hpre ⟨⟨rfl, p, x, hpx, hn2, k2, k3⟩, hB⟩ hK
    gi_wp2
    have hc2 := (k2.kept (grownBy_putObj' _ D (.deferred none)) (fun r e => by cases e; exact ⟨_, hK, rfl⟩)).cell
    have hc3 := (k3.kept (grownBy_putObj' _ D (.deferred none)) (fun r e => by cases e; exact ⟨_, hK, rfl⟩)).cell
    obtain ⟨k, hk, ho, hpk⟩ := hpre
    rw [hpx] at hpk
    obtain ⟨e1, e2⟩ := List.append_inj' hpk rfl
    obtain ⟨u1, u2⟩ := dl_hit hk ho
    have ex : x = 0 + (k : Int) := by simpa using e2
    refine ⟨by simp, .inl ⟨_, _, rfl, run_takeDeferred hK, ?_⟩⟩
    refine ⟨.tuple #[.int .i64 x, .int .i64 0], ?_, ⟨x, 0, rfl, .inl ⟨p.length, by rw [e1]; simpa using u1, hn2, by rw [e1, ex]; simpa using u2.symm, rfl⟩⟩, hB.trans (belowK_b (w := w) (Nat.le_refl _) W D _ _ (by have := hy.size; omega) hK rfl rfl)⟩
    simp [results, Try.results27, go_sem, hc2, hc3]
end Go.Proofs.Ytecjmpaomebdbaa
