/-
  Walks: the document's Reopen.
-/
import Derived.Test.YtecjmpaomebdbaaAu
import Derived.Deep.RegionLaw
namespace Go.Proofs.Ytecjmpaomebdbaa
set_option linter.unusedVariables false
set_option linter.unusedSimpArgs false
open Go.RowKit

theorem own_ne {w : World} {b1 e1 s1 n1 b2 e2 s2 n2 : Nat} {v1 v2 : Value} {xs1 xs2 : List Value} (h1 : w.ownsRow b1 e1 s1 v1 n1 xs1) (h2 : w.ownsRow b2 e2 s2 v2 n2 xs2) (hne : e1 ≠ e2) : v1.ownBlock = none ∨ v1.ownBlock ≠ v2.ownBlock := by
  rcases h1.2 with ⟨rfl, _⟩ | ⟨g, cap, cur, rfl, _, hh, _⟩
  · exact .inl rfl
  · right
    rcases h2.2 with ⟨rfl, _⟩ | ⟨g', cap', cur', rfl, _, hh', _⟩
    · simp [Value.ownBlock]
    · intro he
      have : g = g' := by simpa [Value.ownBlock] using he
      subst this
      rw [hh] at hh'
      injection hh' with hh'
      injection hh' with _ ht
      exact hne ht
/-- As wpList_app2, in a region that draws its order: the world is whatever it is. -/
theorem step_app2 {P : Program} {W : World} {ops : Array Oper} {o : Oper} {a : Act} {K : Act → World → Prop} {Q : Exit → Act → World → Prop} {E : Prop} (hgd : o.guard = none) (s x : Operand) {t e : TypeId}
    (ho : o.op = .call { callee := .builtin .append, args := #[s, x], argTypes := #[t, t] }) {z : Value} {size bytes : Nat} (ht : P.underlying t = some (.slice e))
    (hinfo : (P.info? e).map (fun i => (i.zero, i.size, i.bytes)) = some (some z, size, bytes)) (hzs : z.cells.size = size) (hsz : 0 < size)
    {base : Nat} {A : Option Addr} {n c : Nat} {xs : List Value} (hs : a.eval s = .slice A n c) (hown : W.ownsRow base e size (.slice A n c) n xs)
    {news : List Value} (ad : Addr) (hx : a.eval x = .slice (some ad) 1 1) (hl : news.length = size) (hnews : ∀ j u, news[j]? = some u → W.cell? (ad.add j) = some u) (h1 : ∀ u ∈ news, u.oneCell' = true)
    (hn : n + 1 ≤ 1000000000) (hbytes : bytes ≤ 1000) (hbase : base ≤ W.heap.size)
    (h : ∀ A' c' w', w'.ownsRow base e size (.slice A' (n + 1) c') (n + 1) (xs ++ news) → (∀ B, B ≤ base → Below B W w') →
      (∀ (b2 e2 s2 n2 : Nat) (v2 : Value) (xs2 : List Value), W.ownsRow b2 e2 s2 v2 n2 xs2 → e2 ≠ e → w'.ownsRow b2 e2 s2 v2 n2 xs2) → K (a.put o.dst (.slice A' (n + 1) c')) w') :
    if Region.wanted o (yielded ops a.tmps) = true then Oper.wp P o a W K Q else E := by
  have hw : Region.wanted o (yielded ops a.tmps) = true := by simp [Region.wanted, hgd]
  rw [if_pos hw]
  obtain ⟨i, hi, hz0, hz1, hz2⟩ := info_parts hinfo
  have hb : (n + 1) * bytes ≤ 140737488355328 := by
    have : (n + 1) * bytes ≤ 1000000000 * 1000 := Nat.mul_le_mul hn hbytes
    omega
  refine wp_append_own W s x t ho base e i z size bytes ht hi hz0 hz1 hz2 hzs hsz _ n xs hs hown ad 1 1 news hx (by omega) hnews h1 (by unfold maxLen; omega) hb hbase ?_
  intro v' w' hown' hg _
  obtain ⟨A', c', hv⟩ := own_shape hown'
  rw [hv] at hown' ⊢
  refine h A' c' w' hown' (fun B hB => ?_) (fun b2 e2 s2 n2 v2 xs2 h2 hne => ?_)
  · exact (Below.refl B W).grown hg (by omega) (fun k hk => by have := hown.lt k hk; omega)
  · exact h2.kept hg (own_ne h2 hown hne)

set_option maxRecDepth 100000 in
set_option maxHeartbeats 4000000 in
theorem rreopen_any (t : Tm) (d : Int) (A1 A2 : Option Addr) (c1 c2 : Nat) (w : World) (h1 : RN w A1 t.rest) (h2 : RN w A2 t.clo) (hl1 : t.rest.length ≤ 1000000) (hl2 : t.clo.length ≤ 1000000) :
    Calls Try.prog 52 #[.agg #[.int .i64 t.len, .slice A1 t.rest.length c1, .slice A2 t.clo.length c2], .int .i64 d] w (RetT w (reT t d) (reE t d)) := by
  obtain ⟨E, hE⟩ : ∃ E, E = reE t d := ⟨_, rfl⟩
  obtain ⟨T, hT⟩ : ∃ T, T = reT t d := ⟨_, rfl⟩
  rw [← hE, ← hT]
  have HE := Lib.hid hE
  have HT := Lib.hid hT
  clear hE hT
  obtain ⟨w2, hw2⟩ : ∃ w2, ((w.alloc (.cells #[.int .i64 t.len, .slice A1 t.rest.length c1, .slice A2 t.clo.length c2] 24)).alloc (.cells #[.int .i64 0, .slice none 0 0, .slice none 0 0] 24)) = w2 := ⟨_, rfl⟩
  have hy : Below w.heap.size w w2 := by rw [← hw2]; exact ((Below.refl _ w).alloc (Nat.le_refl _) _).alloc (by simp) _
  have b0 : Box w2 w.heap.size #[.int .i64 t.len, .slice A1 t.rest.length c1, .slice A2 t.clo.length c2] := by rw [← hw2]; exact (Box.new w _ _).alloc _
  have b1 : Box w2 (w.heap.size + 1) #[.int .i64 0, .slice none 0 0, .slice none 0 0] := by rw [← hw2]; exact (Box.new (w.alloc (.cells #[.int .i64 t.len, .slice A1 t.rest.length c1, .slice A2 t.clo.length c2] 24)) _ _).at' (by simp)
  have hsz : w2.heap.size = w.heap.size + 2 := by rw [← hw2]; simp
  have r1 := h1.below hy
  have r2 := h2.below hy
  have x0 := b0.cell 0; have x1 := b0.cell 1; have x2 := b0.cell 2
  simp only [List.getElem?_toArray, List.getElem?_cons_zero, List.getElem?_cons_succ] at x0 x1 x2
  go_enter Try.func52, Try.ntmps52
  go_wp2_with fail
  refine (risOpen_any d t A1 A2 c1 c2 _ r1 r2 (by omega) (by omega)).mono ?_
  rintro e w3 ⟨rfl, hb3⟩
  have hy3 := hy.trans (hb3.mono hy.size)
  have e0 := b0.below hb3
  have e1 := b1.below hb3
  have s1 := r1.below hb3
  have s2 := r2.below hb3
  have hs3 := hb3.size
  clear x0 x1 x2 b0 b1 r1 r2 h1 h2 hw2 hy hb3
  have y0 := e0.cell 0; have y1 := e0.cell 1; have y2 := e0.cell 2
  have f0 := e1.free 0; have f1 := e1.free 1; have f2 := e1.free 2
  have z0 := e1.cell 0; have z1 := e1.cell 1; have z2 := e1.cell 2
  simp only [List.getElem?_toArray, List.getElem?_cons_zero, List.getElem?_cons_succ] at y0 y1 y2 z0 z1 z2
  by_cases hq : qE t d = 0
  · have hq1 : (qE t d != 0) = false := by simp [hq]
    obtain ⟨hk, hd0, hd1⟩ := qE_ok hq
    go_wp2_with fail
    refine (has_any t.clo d (by omega) A2 c2 _ s2).mono ?_
    rintro e w4 ⟨rfl, rfl⟩
    cases hh : hasB t.clo d with
    | false =>
      have hE1 : E = 12 := by rw [HE.out, reE, if_neg (by simp [hq]), hh]; rfl
      have hT1 : T = ⟨0, [], []⟩ := by rw [HT.out, reT_no (by rw [← HE.out, hE1]; simp)]
      have HH := Lib.hid hh
      clear hh
      go_wp2
      have q := three_set e1 (.int .i64 0) (.slice none 0 0) (.slice none 0 0)
      obtain ⟨q0, q1, q2⟩ := q
      refine bodyPost_ret (v := .tuple #[.agg #[.int .i64 0, .slice none 0 0, .slice none 0 0], .int .i64 12]) (by simp [results, Try.results52, go_sem, q0, q1, q2]) rfl ?_
      exact ⟨none, 0, none, 0, w.heap.size, by rw [hT1, hE1]; rfl, by rw [hT1]; exact World.ownsRow_nil _ _ _ _, by rw [hT1]; exact World.ownsRow_nil _ _ _ _, Nat.le_refl _, fun k hk => by simp [Value.ownBlock] at hk, ((hy3.setCell (p := ⟨w.heap.size + 1, 0, none⟩) (by show w.heap.size ≤ w.heap.size + 1; omega) _).setCell (p := ⟨w.heap.size + 1, 1, none⟩) (by show w.heap.size ≤ w.heap.size + 1; omega) _).setCell (p := ⟨w.heap.size + 1, 2, none⟩) (by show w.heap.size ≤ w.heap.size + 1; omega) _⟩
    | true =>
      have hE1 : E = 0 := by rw [HE.out, reE, if_neg (by simp [hq]), hh]; rfl
      have hT1 : T = ⟨t.len, t.rest, subD t.clo d⟩ := by rw [HT.out, reT_yes (by rw [← HE.out, hE1])]
      have HH := Lib.hid hh
      have HT1 := Lib.hid hT1
      have HE1 := Lib.hid hE1
      clear hh hT1 hE1
      have h60 := hk.clo60
      go_wp2_with fail
      refine (copy_any t A1 A2 c1 c2 _ s1 s2 hl1 hl2).mono ?_
      rintro e w5 ⟨A, k5, A', k5', rfl, own1, -, hb5⟩
      have hy5 := hy3.trans (hb5.mono hy3.size)
      have g0 := e0.below hb5
      have g1 := e1.below hb5
      have u1 := s1.below hb5
      have u2 := s2.below hb5
      have hs5 := hb5.size
      clear y0 y1 y2 f0 f1 f2 z0 z1 z2 e0 e1 s1 s2 hy3 hb5
      have hx5 := (Below.refl w5.heap.size w5).alloc (Nat.le_refl _) (.cells #[.int .i64 t.len, .slice A t.rest.length k5, .slice none 0 0] 24)
      have bO : Box (w5.alloc (.cells #[.int .i64 t.len, .slice A t.rest.length k5, .slice none 0 0] 24)) w5.heap.size #[.int .i64 t.len, .slice A t.rest.length k5, .slice none 0 0] := Box.new _ _ _
      go_wp2
      go_loopw [9] (fun x wr => ∃ k : Nat, k ≤ t.clo.length ∧ x = .int .i64 k ∧ ∃ Ac cc, Box wr w5.heap.size #[.int .i64 t.len, .slice A t.rest.length k5, .slice Ac (subD (t.clo.take k) d).length cc] ∧ OwnN wr (w5.heap.size + 1) Ac cc (subD (t.clo.take k) d) ∧ Below w5.heap.size w5 wr) (fun x _ => t.clo.length - (intOf x).toNat)
      case atStart => exact ⟨0, by omega, rfl, none, 0, bO, World.ownsRow_nil _ _ _ _, hx5⟩
      case round =>
        clear bO hx5
        obtain ⟨k, hkn, rfl, Ac, cc, bO, own, hb⟩ := hrel
        have hfl : (subD (t.clo.take k) d).length ≤ k := Nat.le_trans (List.length_filter_le _ _) (by rw [List.length_take]; omega)
        by_cases hlt : k < t.clo.length
        · obtain ⟨ad, rfl, hab, e0'⟩ := u2.at_ hlt
          have e0 := (hb.cell (p := ad.add k) hab).trans e0'
          clear e0'
          by_cases hne : gi t.clo k = d
          · have hne1 : (gi t.clo k != d) = false := by simp [hne]
            have hF : subD (t.clo.take (k + 1)) d = subD (t.clo.take k) d := by rw [take_gi hlt, subD, List.filter_append, hne]; simp [subD]
            have HF := Lib.hid hF
            clear hF hne
            have v0 := g0.below hb; have v1 := g1.below hb
            have y0 := v0.cell 0; have y1 := v0.cell 1; have y2 := v0.cell 2
            have o0 := bO.cell 0; have o1 := bO.cell 1; have o2 := bO.cell 2; have p2 := bO.free 2
            simp only [List.getElem?_toArray, List.getElem?_cons_zero, List.getElem?_cons_succ] at y0 y1 y2 o0 o1 o2
            go_wp2
            go_roundw
            case rel => exact ⟨k + 1, by omega, by go_num, Ac, cc, by rw [HF.out]; exact bO, by rw [HF.out]; exact own, hb⟩
            case measure => simp [intOf]; omega
          · have hne1 : (gi t.clo k != d) = true := by simp [hne]
            have hF : subD (t.clo.take (k + 1)) d = subD (t.clo.take k) d ++ [gi t.clo k] := by rw [take_gi hlt, subD, List.filter_append]; simp [subD, hne]
            have HF := Lib.hid hF
            clear hF hne
            have hbs := hb.size
            have hbo := bO.lt
            have v0 := g0.below hb; have v1 := g1.below hb
            have y0 := v0.cell 0; have y1 := v0.cell 1; have y2 := v0.cell 2
            have o0 := bO.cell 0; have o1 := bO.cell 1; have o2 := bO.cell 2; have p2 := bO.free 2
            simp only [List.getElem?_toArray, List.getElem?_cons_zero, List.getElem?_cons_succ] at y0 y1 y2 o0 o1 o2
            go_wp2_with fail
            have hne0 := World.new_ne wr _ o2
            have hne2 := World.new_ne wr _ y2
            have hne3 := World.new_ne wr _ e0
            go_region_law (refine step_app2 (by rfl) _ _ (by rfl) Try.underlying22 info_int rfl (by omega) (by rfl) (World.ownsRow.alloc own _) (news := [.int .i64 (gi t.clo k)]) ⟨wr.heap.size, 0, none⟩ (by rfl) (by rfl) (World.news_of_block (cs := #[.int .i64 (gi t.clo k)]) (t := 3) (fr := (0, 0)) (heap_alloc_new _ _)) (by simp [Value.oneCell']) (by omega) (by omega) (by simp; omega) ?_; intro A3 c3 w7 own7 hb7 hk7; have hb7' := hb7 _ (Nat.le_refl _); have o7 : w7.cell? ⟨w5.heap.size, 2, none⟩ = some (.slice Ac (subD (t.clo.take k) d).length cc) := (hb7'.cell (p := ⟨w5.heap.size, 2, none⟩) (show w5.heap.size < w5.heap.size + 1 by omega)).trans ((cell_alo (p := ⟨w5.heap.size, 2, none⟩) hbo).trans o2); have p7 : w7.frozen? ⟨w5.heap.size, 2, none⟩ = false := (hb7'.frozen (p := ⟨w5.heap.size, 2, none⟩) (show w5.heap.size < w5.heap.size + 1 by omega)).trans ((fro_cells _ _ _ _).trans p2))
            all_goals
              have hbx : Below w5.heap.size wr w7 := Below.trans (by repeat (first | exact Below.refl _ _ | refine Below.drew ?_ | refine Below.alloc ?_ hbs _)) (hb7'.mono (by omega))
              have bO6 : Box w7 w5.heap.size #[.int .i64 t.len, .slice A t.rest.length k5, .slice Ac (subD (t.clo.take k) d).length cc] := bO.up (Below.trans (by repeat (first | exact Below.refl _ _ | refine Below.drew ?_ | refine Below.alloc ?_ (by omega) _)) hb7') (by omega)
              have bO7 := bO6.set2 (.slice A3 ((subD (t.clo.take k) d).length + 1) c3)
              have own8 : OwnN (w7.setCell ⟨w5.heap.size, 2, none⟩ (.slice A3 ((subD (t.clo.take k) d).length + 1) c3)) (w5.heap.size + 1) A3 c3 (subD (t.clo.take (k + 1)) d) := ownsRow_setCell_below (show World.ownsRow _ _ _ _ _ _ _ from OwnN.snoc own7 rfl HF.out) (by show w5.heap.size < w5.heap.size + 1; omega) _
              have hb8 := (hb.trans hbx).setCell (p := ⟨w5.heap.size, 2, none⟩) (Nat.le_refl _) (.slice A3 ((subD (t.clo.take k) d).length + 1) c3)
              have hl8 : (subD (t.clo.take (k + 1)) d).length = (subD (t.clo.take k) d).length + 1 := by rw [HF.out]; simp
              have bO8 : Box (w7.setCell ⟨w5.heap.size, 2, none⟩ (.slice A3 ((subD (t.clo.take k) d).length + 1) c3)) w5.heap.size #[.int .i64 t.len, .slice A t.rest.length k5, .slice A3 (subD (t.clo.take (k + 1)) d).length c3] := by rw [hl8]; exact bO7
              clear o7 p7 hk7 own7
              go_wp2
              go_roundw
              case rel => exact ⟨k + 1, by omega, by go_num, A3, c3, bO8, own8, hb8⟩
              case measure => simp [intOf]; omega
        · have hkk : t.clo.length = k := by omega
          subst hkk
          rw [List.take_length] at bO own
          have v0 := g0.below hb; have v1 := g1.below hb
          have y0 := v0.cell 0; have y1 := v0.cell 1; have y2 := v0.cell 2
          have o0 := bO.cell 0; have o1 := bO.cell 1; have o2 := bO.cell 2; have p2 := bO.free 2
          simp only [List.getElem?_toArray, List.getElem?_cons_zero, List.getElem?_cons_succ] at y0 y1 y2 o0 o1 o2
          have f0 := v1.free 0; have f1 := v1.free 1; have f2 := v1.free 2
          have z0 := v1.cell 0; have z1 := v1.cell 1; have z2 := v1.cell 2
          simp only [List.getElem?_toArray, List.getElem?_cons_zero, List.getElem?_cons_succ] at z0 z1 z2
          go_wp2
          obtain ⟨q0, q1, q2⟩ := three_set v1 (.int .i64 t.len) (.slice A t.rest.length k5) (.slice Ac (subD t.clo d).length cc)
          refine bodyPost_ret (v := .tuple #[.agg #[.int .i64 t.len, .slice A t.rest.length k5, .slice Ac (subD t.clo d).length cc], .int .i64 0]) (by simp [results, Try.results52, go_sem, q0, q1, q2]) rfl ?_
          have hbw : Below w.heap.size w wr := hy5.trans (hb.mono (by omega))
          refine ⟨A, k5, Ac, cc, w5.heap.size + 1, by rw [HT1.out, HE1.out], ?_, ?_, by omega, ?_, ((hbw.setCell (p := ⟨w.heap.size + 1, 0, none⟩) (by show w.heap.size ≤ w.heap.size + 1; omega) _).setCell (p := ⟨w.heap.size + 1, 1, none⟩) (by show w.heap.size ≤ w.heap.size + 1; omega) _).setCell (p := ⟨w.heap.size + 1, 2, none⟩) (by show w.heap.size ≤ w.heap.size + 1; omega) _⟩
          · rw [HT1.out]
            have o1 : OwnN wr w4.heap.size A k5 t.rest := own_below own1 hb (fun k hk => (World.ownsRow.lt own1 k hk).2)
            exact own_base (ownsRow_setCell_below (ownsRow_setCell_below (ownsRow_setCell_below o1 (show w.heap.size + 1 < w4.heap.size by omega) _) (show w.heap.size + 1 < w4.heap.size by omega) _) (show w.heap.size + 1 < w4.heap.size by omega) _) (by omega)
          · rw [HT1.out]
            exact ownsRow_setCell_below (ownsRow_setCell_below (ownsRow_setCell_below own (show w.heap.size + 1 < w5.heap.size + 1 by omega) _) (show w.heap.size + 1 < w5.heap.size + 1 by omega) _) (show w.heap.size + 1 < w5.heap.size + 1 by omega) _
          · rw [HT1.out]
            intro k hk
            have := (World.ownsRow.lt own1 k hk).2
            omega
  · have hq1 : (qE t d != 0) = true := by simp [hq]
    have hE1 : E = qE t d := by rw [HE.out, reE, if_pos hq]
    have hT1 : T = ⟨0, [], []⟩ := by rw [HT.out, reT_no (by rw [reE, if_pos hq]; exact hq)]
    go_wp2
    have q := three_set e1 (.int .i64 0) (.slice none 0 0) (.slice none 0 0)
    obtain ⟨q0, q1, q2⟩ := q
    refine bodyPost_ret (v := .tuple #[.agg #[.int .i64 0, .slice none 0 0, .slice none 0 0], .int .i64 (qE t d)]) (by simp [results, Try.results52, go_sem, q0, q1, q2]) rfl ?_
    exact ⟨none, 0, none, 0, w.heap.size, by rw [hT1, hE1]; rfl, by rw [hT1]; exact World.ownsRow_nil _ _ _ _, by rw [hT1]; exact World.ownsRow_nil _ _ _ _, Nat.le_refl _, fun k hk => by simp [Value.ownBlock] at hk, ((hy3.setCell (p := ⟨w.heap.size + 1, 0, none⟩) (by show w.heap.size ≤ w.heap.size + 1; omega) _).setCell (p := ⟨w.heap.size + 1, 1, none⟩) (by show w.heap.size ≤ w.heap.size + 1; omega) _).setCell (p := ⟨w.heap.size + 1, 2, none⟩) (by show w.heap.size ≤ w.heap.size + 1; omega) _⟩
end Go.Proofs.Ytecjmpaomebdbaa
