/-
  Walks: how many school days a stretch has (the ranges over the iterator).
-/
import Derived.Test.YtecjmpaomebdbaaR
namespace Go.Proofs.Ytecjmpaomebdbaa
set_option linter.unusedVariables false
set_option linter.unusedSimpArgs false
open Go.RowKit Go.Shelf

attribute [local go_sem] Oper.semAt_some

/-- the error of a stretch -/
def nE (t : Tm) (a e : Int) : Int := if tE t ≠ 0 then tE t else if a < 0 ∨ e < a ∨ t.len < e then 1 else 0
def cN (t : Tm) (a e : Int) : Int := if nE t a e = 0 then (dl t a (e - a).toNat).length else 0
theorem nE_ok {t : Tm} {a e : Int} (h : nE t a e = 0) : TmOk t ∧ 0 ≤ a ∧ a ≤ e ∧ e ≤ t.len := by
  unfold nE at h
  by_cases h1 : tE t = 0
  · rw [if_neg (by simp [h1])] at h
    split at h
    · omega
    · exact ⟨TmOk.of h1, by omega, by omega, by omega⟩
  · rw [if_pos h1] at h; exact absurd h h1

theorem cell_new (W : World) (v : Value) (t : TypeId) : (W.alloc (.cells #[v] t)).cell? ⟨W.heap.size, 0, none⟩ = some v ∧ (W.alloc (.cells #[v] t)).frozen? ⟨W.heap.size, 0, none⟩ = false := by
  obtain ⟨h1, h2, _, _⟩ := blk_facts (n := W.heap.size + 1) (Below.refl _ (W.alloc (.cells #[v] t))) (by omega)
  exact ⟨h1 0, h2 0⟩

theorem KpD.set {n₀ B c : Nat} (h1 : n₀ ≤ c) (h2 : c < B) (W : World) (v : Value) : KpD n₀ B W (W.setCell ⟨c, 0, none⟩ v) :=
  ⟨(Below.refl n₀ W).setCell (p := ⟨c, 0, none⟩) h1 v, fun b i u hb _ hc => by rw [World.cell?_setCell_other _ _ _ _ (by intro e; have := congrArg Addr.block e; simp at this; omega)]; exact hc⟩

set_option maxRecDepth 100000 in
set_option maxHeartbeats 1000000 in
theorem count_ok (t : Tm) (a e : Int) (A1 A2 : Option Addr) (c1 c2 : Nat) (w : World) (h1 : RN w A1 t.rest) (h2 : RN w A2 t.clo) (h0 : tE t = 0) (h0a : 0 ≤ a) (hae : a ≤ e) (he : e ≤ t.len) :
    Calls Try.prog 21 #[.agg #[.int .i64 t.len, .slice A1 t.rest.length c1, .slice A2 t.clo.length c2], .int .i64 a, .int .i64 e] w fun r w' => r = .returned (.tuple #[.int .i64 (dl t a (e - a).toNat).length, .int .i64 0]) ∧ Below w.heap.size w w' := by
  have hok := TmOk.of h0
  have l2 := hok.len2
  have hx0 : Below (w.heap.size + 1) (w.alloc (.cells #[.int .i64 t.len, .slice A1 t.rest.length c1, .slice A2 t.clo.length c2] 24)) (w.alloc (.cells #[.int .i64 t.len, .slice A1 t.rest.length c1, .slice A2 t.clo.length c2] 24)) := Below.refl _ _
  obtain ⟨_, _, _, hb0⟩ := blk_facts hx0 (by omega)
  refine (callsIn_wide (n := 5)).1 ?_
  refine callsIn_of_wp_marks Try.func21 rfl trivial ?_ rfl
  simp only [Try.ntmps21, List.size_toArray, List.length_cons, List.length_nil, Nat.reduceAdd, Nat.reduceSub, Array.replicate_succ, Array.replicate_zero, List.push_toArray, List.append_toArray, List.nil_append, List.cons_append]
  gi_wp2_with fail
  refine ⟨trivial, ?_⟩
  refine (callsIn_wide.2 (tvalidate_any t A1 A2 c1 c2 _ (h1.below hb0) (h2.below hb0) (by have := hok.rest7; have := isSet_len hok.rest; omega) (by have := hok.clo60; omega))).mono ?_
  rintro r w1 ⟨rfl, hb1⟩
  have hx1 := hx0.trans (hb1.mono (by simp))
  obtain ⟨bx, _, hlt, hb⟩ := blk_facts hx1 (by omega)
  rw [h0]
  gi_wp2_with fail
  have cc := cell_new w1 (.int .i64 0) 3
  have hk2 : Below w.heap.size w (w1.alloc (.cells #[.int .i64 0] 3)) := hb.alloc hb.size _
  have hsz2 : (w1.alloc (.cells #[.int .i64 0] 3)).heap.size = w1.heap.size + 1 := by simp
  obtain ⟨w2, hw2⟩ : ∃ w2, w1.alloc (.cells #[.int .i64 0] 3) = w2 := ⟨_, rfl⟩
  rw [hw2] at cc hk2 hsz2 ⊢
  refine ⟨trivial, ?_⟩
  refine (callsIn_wide.2 (daysIt_any t a e A1 A2 c1 c2 w2)).mono ?_
  rintro r w3 ⟨rfl, hb3, hib⟩
  rw [hsz2] at hib
  have hk3 : Below w.heap.size w w3 := hk2.trans (hb3.mono hk2.size)
  have c3 : w3.cell? ⟨w1.heap.size, 0, none⟩ = some (.int .i64 0) := (hb3.cell (p := ⟨w1.heap.size, 0, none⟩) (by show w1.heap.size < w2.heap.size; omega)).trans cc.1
  have f3 : w3.frozen? ⟨w1.heap.size, 0, none⟩ = false := (hb3.frozen (p := ⟨w1.heap.size, 0, none⟩) (by show w1.heap.size < w2.heap.size; omega)).trans cc.2
  have hs3 := hb3.size
  gi_wp2_with fail
  have hle1 : w.heap.size ≤ w1.heap.size := by omega
  refine wpIn_rangeFunc_ownF rfl (by omega) (gf := 77) rfl trivial (enters_of Try.func77 (by kernel_rfl) rfl)
    (days_stops 4 (by omega) t a e (w1.heap.size + 1) A1 A2 c1 c2 w w3 h1 h2 hok h0a hae (by omega) hk3 hib) KpD.trans (kpd_b hk3.size hib.lt) (Below.refl _ _) (fun _ => rfl)
    (fun pre W => (W.cell? ⟨w1.heap.size, 0, none⟩ = some (.int .i64 pre.length) ∧ W.frozen? ⟨w1.heap.size, 0, none⟩ = false) ∧ Below w.heap.size w W)
    (fun _ _ _ => False)
    (OwnFrom.and (Own.from (fun s A B row hs hg hr => ⟨cell_kept hs.1 hg hr, (frozen_kept hs.1 hg hr).trans hs.2⟩) _) (ownFrom_below (Nat.le_refl _) hk3.size))
    (fun _ _ _ _ _ hs _ _ => hs)
    ⟨⟨c3, f3⟩, hk3⟩
    (fun x => { tmps := #[.agg #[.int .i64 t.len, .slice A1 t.rest.length c1, .slice A2 t.clo.length c2], .int .i64 a, .int .i64 e, .pointer (some ⟨w.heap.size, 0, none⟩), undef, undef, .int .i64 0, .int .i64 0, .int .i64 0, .pointer (some ⟨w1.heap.size, 0, none⟩),
      .agg #[.int .i64 t.len, .slice A1 t.rest.length c1, .slice A2 t.clo.length c2], .int .i64 0, .int .i64 0, .bool false, undef, .int .i64 a, .bool (decide (a < 0)), .bool (decide (a < 0)), .int .i64 a, .int .i64 e, .bool (decide (e < a)), .bool (decide (a < 0) || decide (e < a)),
      .bool (decide (a < 0) || decide (e < a)), .int .i64 e, .pointer (some ⟨w.heap.size, 0, none⟩), .int .i64 t.len, .bool (decide (t.len < e)), .bool (decide (a < 0) || decide (e < a) || decide (t.len < e)),
      .agg #[.int .i64 t.len, .slice A1 t.rest.length c1, .slice A2 t.clo.length c2], .int .i64 a, .int .i64 e, .func (.func 77) #[] #[.pointer (some ⟨w1.heap.size + 1 + 1, 0, none⟩), .pointer (some ⟨w1.heap.size + 1 + 2, 0, none⟩), .pointer (some ⟨w1.heap.size + 1, 0, none⟩)], .int .i64 x, undef, undef, undef], defers := [] }) ?assign ?body ?done ?stop
  case assign =>
    intro l x W K hK
    gi_wp2
    exact hK
  case body =>
    rintro l pre x W ⟨⟨hc, hf⟩, hB⟩ hlen
    have hwr : IntKind.i64.wrap ((pre.length : Int) + 1) = pre.length + 1 := wrap_small _ (by omega) (by omega)
    gi_wp2
    exact ⟨KeepsOthers.setCell _ _ _, KpD.set (by omega) (by omega) _ _, ⟨by rw [World.cell?_setCell_same' _ _ _ (by rw [hc]; rfl)]; simp, by rw [World.frozen?_setCell]; exact hf⟩, hB.setCell (p := ⟨w1.heap.size, 0, none⟩) hle1 _⟩
  case done =>
    rintro D ys W hD rfl ⟨⟨hc, _⟩, hB⟩ hK
    gi_wp2
    refine ⟨by simp, .inl ⟨_, _, rfl, run_takeDeferred hK, ?_⟩⟩
    exact ⟨_, results_tmp2 rfl _ _ _, rfl, hB.trans (belowK_b (w := w) (Nat.le_refl _) W D _ _ (by omega) hK rfl rfl)⟩
  case stop =>
    rintro D c pre W _ _ h _
    exact h.elim
end Go.Proofs.Ytecjmpaomebdbaa
