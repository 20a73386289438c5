/-
  Walks: the document's Close and Reopen.
-/
import Derived.Test.YtecjmpaomebdbaaAt
namespace Go.Proofs.Ytecjmpaomebdbaa
set_option linter.unusedVariables false
set_option linter.unusedSimpArgs false
open Go.RowKit

theorem Box.up {w w' : World} {g B : Nat} {cs : Array Value} (h : Box w g cs) (hb : Below B w w') (hB : g < B) : Box w' g cs :=
  ⟨Nat.lt_of_lt_of_le h.lt hb.size, fun j => (hb.cell (p := ⟨g, j, none⟩) hB).trans (h.cell j), fun j => (hb.frozen (p := ⟨g, j, none⟩) hB).trans (h.free j)⟩
theorem Box.set2 {w : World} {g : Nat} {a b c : Value} (h : Box w g #[a, b, c]) (v : Value) : Box (w.setCell ⟨g, 2, none⟩ v) g #[a, b, v] := by
  refine ⟨by have := h.lt; simpa [World.setCell] using this, fun j => ?_, fun j => by rw [World.frozen?_setCell]; exact h.free j⟩
  by_cases e : j = 2
  · subst e
    rw [World.cell?_setCell_same' _ _ _ (by rw [h.cell 2]; first | done | rfl)]
    first | done | rfl
  · rw [World.cell?_setCell_other _ _ _ _ (by simp <;> omega), h.cell j]
    rcases j with _ | _ | _ | j
    · rfl
    · rfl
    · exact absurd rfl e
    · rfl

set_option maxRecDepth 100000 in
set_option maxHeartbeats 4000000 in
theorem rclose_any (t : Tm) (d : Int) (A1 A2 : Option Addr) (c1 c2 : Nat) (w : World) (h1 : RN w A1 t.rest) (h2 : RN w A2 t.clo) (hl1 : t.rest.length ≤ 1000000) (hl2 : t.clo.length ≤ 1000000) :
    Calls Try.prog 51 #[.agg #[.int .i64 t.len, .slice A1 t.rest.length c1, .slice A2 t.clo.length c2], .int .i64 d] w (RetT w (clT t d) (clE t d)) := by
  obtain ⟨E, hE⟩ : ∃ E, E = clE t d := ⟨_, rfl⟩
  obtain ⟨T, hT⟩ : ∃ T, T = clT t d := ⟨_, rfl⟩
  rw [← hE, ← hT]
  have HE := Lib.hid hE
  have HT := Lib.hid hT
  clear hE hT
  obtain ⟨w2, hw2⟩ : ∃ w2, ((w.alloc (.cells #[.int .i64 t.len, .slice A1 t.rest.length c1, .slice A2 t.clo.length c2] 24)).alloc (.cells #[.int .i64 0, .slice none 0 0, .slice none 0 0] 24)) = w2 := ⟨_, rfl⟩
  have hy : Below w.heap.size w w2 := by rw [← hw2]; exact ((Below.refl _ w).alloc (Nat.le_refl _) _).alloc (by simp) _
  have b0 : Box w2 w.heap.size #[.int .i64 t.len, .slice A1 t.rest.length c1, .slice A2 t.clo.length c2] := by rw [← hw2]; exact (Box.new w _ _).alloc _
  have b1 : Box w2 (w.heap.size + 1) #[.int .i64 0, .slice none 0 0, .slice none 0 0] := by rw [← hw2]; exact (Box.new (w.alloc (.cells #[.int .i64 t.len, .slice A1 t.rest.length c1, .slice A2 t.clo.length c2] 24)) _ _).at' (by simp)
  have hsz : w2.heap.size = w.heap.size + 2 := by rw [← hw2]; simp
  have r1 := h1.below hy
  have r2 := h2.below hy
  have x0 := b0.cell 0; have x1 := b0.cell 1; have x2 := b0.cell 2
  simp only [List.getElem?_toArray, List.getElem?_cons_zero, List.getElem?_cons_succ] at x0 x1 x2
  go_enter Try.func51, Try.ntmps51
  go_wp2_with fail
  refine (risOpen_any d t A1 A2 c1 c2 _ r1 r2 (by omega) (by omega)).mono ?_
  rintro e w3 ⟨rfl, hb3⟩
  have hy3 := hy.trans (hb3.mono hy.size)
  have e0 := b0.below hb3
  have e1 := b1.below hb3
  have s1 := r1.below hb3
  have s2 := r2.below hb3
  have hs3 := hb3.size
  clear x0 x1 x2 b0 b1 r1 r2 h1 h2 hw2 hy hb3
  have y0 := e0.cell 0; have y1 := e0.cell 1; have y2 := e0.cell 2
  have f0 := e1.free 0; have f1 := e1.free 1; have f2 := e1.free 2
  have z0 := e1.cell 0; have z1 := e1.cell 1; have z2 := e1.cell 2
  simp only [List.getElem?_toArray, List.getElem?_cons_zero, List.getElem?_cons_succ] at y0 y1 y2 z0 z1 z2
  by_cases hq : qE t d = 0
  · have hq1 : (qE t d != 0) = false := by simp [hq]
    obtain ⟨hk, hd0, hd1⟩ := qE_ok hq
    go_wp2_with fail
    refine (has_any t.clo d (by omega) A2 c2 _ s2).mono ?_
    rintro e w4 ⟨rfl, rfl⟩
    cases hh : hasB t.clo d with
    | true =>
      have hE1 : E = 12 := by rw [HE.out, clE, if_neg (by simp [hq]), hh]; rfl
      have hT1 : T = ⟨0, [], []⟩ := by rw [HT.out, clT_no (by rw [← HE.out, hE1]; simp)]
      have HH := Lib.hid hh
      clear hh
      go_wp2
      have q := three_set e1 (.int .i64 0) (.slice none 0 0) (.slice none 0 0)
      obtain ⟨q0, q1, q2⟩ := q
      refine bodyPost_ret (v := .tuple #[.agg #[.int .i64 0, .slice none 0 0, .slice none 0 0], .int .i64 12]) (by simp [results, Try.results51, go_sem, q0, q1, q2]) rfl ?_
      exact ⟨none, 0, none, 0, w.heap.size, by rw [hT1, hE1]; rfl, by rw [hT1]; exact World.ownsRow_nil _ _ _ _, by rw [hT1]; exact World.ownsRow_nil _ _ _ _, Nat.le_refl _, fun k hk => by simp [Value.ownBlock] at hk, ((hy3.setCell (p := ⟨w.heap.size + 1, 0, none⟩) (by show w.heap.size ≤ w.heap.size + 1; omega) _).setCell (p := ⟨w.heap.size + 1, 1, none⟩) (by show w.heap.size ≤ w.heap.size + 1; omega) _).setCell (p := ⟨w.heap.size + 1, 2, none⟩) (by show w.heap.size ≤ w.heap.size + 1; omega) _⟩
    | false =>
      by_cases h60 : t.clo.length = 60
      · have h61 : ((t.clo.length : Int) == 60) = true := by simp; omega
        have hE1 : E = 4 := by rw [HE.out, clE, if_neg (by simp [hq]), hh, if_neg (by simp), if_pos h60]
        have hT1 : T = ⟨0, [], []⟩ := by rw [HT.out, clT_no (by rw [← HE.out, hE1]; simp)]
        have HH := Lib.hid hh
        have H60 := Lib.hid h60
        clear hh h60
        go_wp2
        have q := three_set e1 (.int .i64 0) (.slice none 0 0) (.slice none 0 0)
        obtain ⟨q0, q1, q2⟩ := q
        refine bodyPost_ret (v := .tuple #[.agg #[.int .i64 0, .slice none 0 0, .slice none 0 0], .int .i64 4]) (by simp [results, Try.results51, go_sem, q0, q1, q2]) rfl ?_
        exact ⟨none, 0, none, 0, w.heap.size, by rw [hT1, hE1]; rfl, by rw [hT1]; exact World.ownsRow_nil _ _ _ _, by rw [hT1]; exact World.ownsRow_nil _ _ _ _, Nat.le_refl _, fun k hk => by simp [Value.ownBlock] at hk, ((hy3.setCell (p := ⟨w.heap.size + 1, 0, none⟩) (by show w.heap.size ≤ w.heap.size + 1; omega) _).setCell (p := ⟨w.heap.size + 1, 1, none⟩) (by show w.heap.size ≤ w.heap.size + 1; omega) _).setCell (p := ⟨w.heap.size + 1, 2, none⟩) (by show w.heap.size ≤ w.heap.size + 1; omega) _⟩
      · have h61 : ((t.clo.length : Int) == 60) = false := by simp; omega
        have hE1 : E = 0 := by rw [HE.out, clE, if_neg (by simp [hq]), hh, if_neg (by simp), if_neg h60]
        have hT1 : T = ⟨t.len, t.rest, addD t.clo d t.len⟩ := by rw [HT.out, clT_yes (by rw [← HE.out, hE1])]
        have HH := Lib.hid hh
        have H60 := Lib.hid h60
        clear hh h60
        obtain ⟨n, hn⟩ : ∃ n : Nat, t.len = n := ⟨t.len.toNat, by omega⟩
        have hn1 := hk.len1
        have hn2 := hk.len2
        have hnb : n ≤ 1000 := by omega
        obtain ⟨P, hP⟩ : ∃ P : Int → Bool, ∀ x, P x = (x == d || hasB t.clo x) := ⟨fun x => x == d || hasB t.clo x, fun _ => rfl⟩
        have hadd : addD t.clo d t.len = fromB P n := by rw [addD, hn, show P = fun x => x == d || hasB t.clo x from funext hP]; rfl
        have HP := Lib.hid hP
        clear hP
        have HN := Lib.hid hn
        have HADD := Lib.hid hadd
        have HT1 := Lib.hid hT1
        have HE1 := Lib.hid hE1
        clear hn hadd hT1 hE1
        go_wp2_with fail
        refine (copy_any t A1 A2 c1 c2 _ s1 s2 hl1 hl2).mono ?_
        rintro e w5 ⟨A, k5, A', k5', rfl, own1, -, hb5⟩
        have hy5 := hy3.trans (hb5.mono hy3.size)
        have g0 := e0.below hb5
        have g1 := e1.below hb5
        have u1 := s1.below hb5
        have u2 := s2.below hb5
        have hs5 := hb5.size
        clear y0 y1 y2 f0 f1 f2 z0 z1 z2 e0 e1 s1 s2 hy3 hb5
        have hx5 := (Below.refl w5.heap.size w5).alloc (Nat.le_refl _) (.cells #[.int .i64 t.len, .slice A t.rest.length k5, .slice none 0 0] 24)
        have bO : Box (w5.alloc (.cells #[.int .i64 t.len, .slice A t.rest.length k5, .slice none 0 0] 24)) w5.heap.size #[.int .i64 t.len, .slice A t.rest.length k5, .slice none 0 0] := Box.new _ _ _
        go_wp2
        go_loopw [9] (fun x wr => ∃ k : Nat, k ≤ n ∧ x = .int .i64 k ∧ ∃ Ac cc, Box wr w5.heap.size #[.int .i64 t.len, .slice A t.rest.length k5, .slice Ac (fromB P k).length cc] ∧ OwnN wr (w5.heap.size + 1) Ac cc (fromB P k) ∧ Below w5.heap.size w5 wr) (fun x _ => n - (intOf x).toNat)
        case atStart => exact ⟨0, by omega, rfl, none, 0, bO, World.ownsRow_nil _ _ _ _, hx5⟩
        case round =>
          clear bO hx5
          obtain ⟨k, hkn, rfl, Ac, cc, bO, own, hb⟩ := hrel
          by_cases hlt : k < n
          · have hlt' : (k : Int) < t.len := by rw [HN.out]; omega
            cases hdk : ((k : Int) == d) with
            | true =>
              have hF : fromB P (k + 1) = fromB P k ++ [(k : Int)] := fromB_yes (by rw [HP.out, hdk]; rfl)
              have HF := Lib.hid hF
              clear hF
              have hfl := fromB_len P k
              have hbs := hb.size
              have hbo := bO.lt
              have v0 := g0.below hb; have v1 := g1.below hb
              have y0 := v0.cell 0; have y1 := v0.cell 1; have y2 := v0.cell 2
              have o0 := bO.cell 0; have o1 := bO.cell 1; have o2 := bO.cell 2; have p2 := bO.free 2
              simp only [List.getElem?_toArray, List.getElem?_cons_zero, List.getElem?_cons_succ] at y0 y1 y2 o0 o1 o2
              go_wp2_with (at_builtin; refine wpList_app1 rfl _ _ rfl Try.underlying22 info_int rfl (by omega) rfl own rfl rfl (by simp [Value.oneCell']) (by omega) (by omega) (by omega) ?_; intro A3 c3 w7 own7 hb7; have hb7' := hb7 _ (Nat.le_refl _); have bO6 := bO.up hb7' (by omega); have o7 := bO6.cell 2; have p7 := bO6.free 2; simp only [List.getElem?_toArray, List.getElem?_cons_zero, List.getElem?_cons_succ] at o7)
              have bO7 := bO6.set2 (.slice A3 ((fromB P k).length + 1) c3)
              have own8 : OwnN (w7.setCell ⟨w5.heap.size, 2, none⟩ (.slice A3 ((fromB P k).length + 1) c3)) (w5.heap.size + 1) A3 c3 (fromB P (k + 1)) := ownsRow_setCell_below (show World.ownsRow _ _ _ _ _ _ _ from OwnN.snoc own7 rfl HF.out) (by show w5.heap.size < w5.heap.size + 1; omega) _
              have hb8 := (hb.trans (hb7'.mono (by omega))).setCell (p := ⟨w5.heap.size, 2, none⟩) (Nat.le_refl _) (.slice A3 ((fromB P k).length + 1) c3)
              have hl8 : (fromB P (k + 1)).length = (fromB P k).length + 1 := by rw [HF.out]; simp
              have bO8 : Box (w7.setCell ⟨w5.heap.size, 2, none⟩ (.slice A3 ((fromB P k).length + 1) c3)) w5.heap.size #[.int .i64 t.len, .slice A t.rest.length k5, .slice A3 (fromB P (k + 1)).length c3] := by rw [hl8]; exact bO7
              go_wp2
              go_roundw
              case rel => exact ⟨k + 1, by omega, by go_num, A3, c3, bO8, own8, hb8⟩
              case measure => simp [intOf]; omega
            | false =>
              cases hhk : hasB t.clo k with
              | true =>
                have hF : fromB P (k + 1) = fromB P k ++ [(k : Int)] := fromB_yes (by rw [HP.out, hhk, Bool.or_true])
                have HF := Lib.hid hF
                clear hF
                have hfl := fromB_len P k
                have hbs := hb.size
                have hbo := bO.lt
                have v0 := g0.below hb; have v1 := g1.below hb
                have y0 := v0.cell 0; have y1 := v0.cell 1; have y2 := v0.cell 2
                have o0 := bO.cell 0; have o1 := bO.cell 1; have o2 := bO.cell 2; have p2 := bO.free 2
                simp only [List.getElem?_toArray, List.getElem?_cons_zero, List.getElem?_cons_succ] at y0 y1 y2 o0 o1 o2
                go_wp2_with (first | (go_at_call 76; refine (has_any t.clo k (by omega) A2 c2 _ (u2.below hb)).mono ?_; rintro e w6 ⟨rfl, rfl⟩; rw [hhk]) | (at_builtin; refine wpList_app1 rfl _ _ rfl Try.underlying22 info_int rfl (by omega) rfl own rfl rfl (by simp [Value.oneCell']) (by omega) (by omega) (by omega) ?_; intro A3 c3 w7 own7 hb7; have hb7' := hb7 _ (Nat.le_refl _); have bO6 := bO.up hb7' (by omega); have o7 := bO6.cell 2; have p7 := bO6.free 2; simp only [List.getElem?_toArray, List.getElem?_cons_zero, List.getElem?_cons_succ] at o7))
                have bO7 := bO6.set2 (.slice A3 ((fromB P k).length + 1) c3)
                have own8 : OwnN (w7.setCell ⟨w5.heap.size, 2, none⟩ (.slice A3 ((fromB P k).length + 1) c3)) (w5.heap.size + 1) A3 c3 (fromB P (k + 1)) := ownsRow_setCell_below (show World.ownsRow _ _ _ _ _ _ _ from OwnN.snoc own7 rfl HF.out) (by show w5.heap.size < w5.heap.size + 1; omega) _
                have hb8 := (hb.trans (hb7'.mono (by omega))).setCell (p := ⟨w5.heap.size, 2, none⟩) (Nat.le_refl _) (.slice A3 ((fromB P k).length + 1) c3)
                have hl8 : (fromB P (k + 1)).length = (fromB P k).length + 1 := by rw [HF.out]; simp
                have bO8 : Box (w7.setCell ⟨w5.heap.size, 2, none⟩ (.slice A3 ((fromB P k).length + 1) c3)) w5.heap.size #[.int .i64 t.len, .slice A t.rest.length k5, .slice A3 (fromB P (k + 1)).length c3] := by rw [hl8]; exact bO7
                go_wp2
                go_roundw
                case rel => exact ⟨k + 1, by omega, by go_num, A3, c3, bO8, own8, hb8⟩
                case measure => simp [intOf]; omega
              | false =>
                have hF : fromB P (k + 1) = fromB P k := fromB_no (by rw [HP.out, hdk, hhk]; rfl)
                have HF := Lib.hid hF
                clear hF
                have v0 := g0.below hb; have v1 := g1.below hb
                have y0 := v0.cell 0; have y1 := v0.cell 1; have y2 := v0.cell 2
                have o0 := bO.cell 0; have o1 := bO.cell 1; have o2 := bO.cell 2; have p2 := bO.free 2
                simp only [List.getElem?_toArray, List.getElem?_cons_zero, List.getElem?_cons_succ] at y0 y1 y2 o0 o1 o2
                go_wp2_with (go_at_call 76; refine (has_any t.clo k (by omega) A2 c2 _ (u2.below hb)).mono ?_; rintro e w6 ⟨rfl, rfl⟩; rw [hhk])
                go_roundw
                case rel => exact ⟨k + 1, by omega, by go_num, Ac, cc, by rw [HF.out]; exact bO, by rw [HF.out]; exact own, hb⟩
                case measure => simp [intOf]; omega
          · have hlt' : ¬ (k : Int) < t.len := by rw [HN.out]; omega
            have hkk : n = k := by omega
            subst hkk
            have v0 := g0.below hb; have v1 := g1.below hb
            have y0 := v0.cell 0; have y1 := v0.cell 1; have y2 := v0.cell 2
            have o0 := bO.cell 0; have o1 := bO.cell 1; have o2 := bO.cell 2; have p2 := bO.free 2
            simp only [List.getElem?_toArray, List.getElem?_cons_zero, List.getElem?_cons_succ] at y0 y1 y2 o0 o1 o2
            have f0 := v1.free 0; have f1 := v1.free 1; have f2 := v1.free 2
            have z0 := v1.cell 0; have z1 := v1.cell 1; have z2 := v1.cell 2
            simp only [List.getElem?_toArray, List.getElem?_cons_zero, List.getElem?_cons_succ] at z0 z1 z2
            go_wp2
            obtain ⟨q0, q1, q2⟩ := three_set v1 (.int .i64 t.len) (.slice A t.rest.length k5) (.slice Ac (fromB P n).length cc)
            refine bodyPost_ret (v := .tuple #[.agg #[.int .i64 t.len, .slice A t.rest.length k5, .slice Ac (fromB P n).length cc], .int .i64 0]) (by simp [results, Try.results51, go_sem, q0, q1, q2]) rfl ?_
            have hbw : Below w.heap.size w wr := hy5.trans (hb.mono (by omega))
            refine ⟨A, k5, Ac, cc, w5.heap.size + 1, by rw [HT1.out, HE1.out]; show _ = Ending.returned (.tuple #[.agg #[.int .i64 t.len, .slice A t.rest.length k5, .slice Ac (addD t.clo d t.len).length cc], .int .i64 0]); rw [HADD.out], ?_, ?_, by omega, ?_, ((hbw.setCell (p := ⟨w.heap.size + 1, 0, none⟩) (by show w.heap.size ≤ w.heap.size + 1; omega) _).setCell (p := ⟨w.heap.size + 1, 1, none⟩) (by show w.heap.size ≤ w.heap.size + 1; omega) _).setCell (p := ⟨w.heap.size + 1, 2, none⟩) (by show w.heap.size ≤ w.heap.size + 1; omega) _⟩
            · rw [HT1.out]
              have o1 : OwnN wr w4.heap.size A k5 t.rest := own_below own1 hb (fun k hk => (World.ownsRow.lt own1 k hk).2)
              exact own_base (ownsRow_setCell_below (ownsRow_setCell_below (ownsRow_setCell_below o1 (show w.heap.size + 1 < w4.heap.size by omega) _) (show w.heap.size + 1 < w4.heap.size by omega) _) (show w.heap.size + 1 < w4.heap.size by omega) _) (by omega)
            · rw [HT1.out]
              show OwnN _ _ _ _ (addD t.clo d t.len)
              rw [HADD.out]
              exact ownsRow_setCell_below (ownsRow_setCell_below (ownsRow_setCell_below own (show w.heap.size + 1 < w5.heap.size + 1 by omega) _) (show w.heap.size + 1 < w5.heap.size + 1 by omega) _) (show w.heap.size + 1 < w5.heap.size + 1 by omega) _
            · rw [HT1.out]
              intro k hk
              have := (World.ownsRow.lt own1 k hk).2
              omega
  · have hq1 : (qE t d != 0) = true := by simp [hq]
    have hE1 : E = qE t d := by rw [HE.out, clE, if_pos hq]
    have hT1 : T = ⟨0, [], []⟩ := by rw [HT.out, clT_no (by rw [clE, if_pos hq]; exact hq)]
    go_wp2
    have q := three_set e1 (.int .i64 0) (.slice none 0 0) (.slice none 0 0)
    obtain ⟨q0, q1, q2⟩ := q
    refine bodyPost_ret (v := .tuple #[.agg #[.int .i64 0, .slice none 0 0, .slice none 0 0], .int .i64 (qE t d)]) (by simp [results, Try.results51, go_sem, q0, q1, q2]) rfl ?_
    exact ⟨none, 0, none, 0, w.heap.size, by rw [hT1, hE1]; rfl, by rw [hT1]; exact World.ownsRow_nil _ _ _ _, by rw [hT1]; exact World.ownsRow_nil _ _ _ _, Nat.le_refl _, fun k hk => by simp [Value.ownBlock] at hk, ((hy3.setCell (p := ⟨w.heap.size + 1, 0, none⟩) (by show w.heap.size ≤ w.heap.size + 1; omega) _).setCell (p := ⟨w.heap.size + 1, 1, none⟩) (by show w.heap.size ≤ w.heap.size + 1; omega) _).setCell (p := ⟨w.heap.size + 1, 2, none⟩) (by show w.heap.size ≤ w.heap.size + 1; omega) _⟩
end Go.Proofs.Ytecjmpaomebdbaa
