/-
  Walks: the document's Parse.
-/
import Derived.Test.YtlnmmkgeahlohaaDoorTxB
import Derived.Test.YtlnmmkgeahlohaaDoorTxE
import Derived.Deep.DrawnRows
namespace Go.Proofs.YtlnmmkgeahlohaaDoor
set_option linter.unusedVariables false
set_option linter.unusedSimpArgs false
open Go.RowKit

attribute [local go_sem ↓] Go.wp_at_zero Go.wp_at_succ
def zT : Array Value := #[.int .i64 0, .slice none 0 0, .slice none 0 0]
/-- What a reading returns: a term, and a number. -/
def RetP (w : World) (T : Tm) (E : Int) (e : Ending) (w' : World) : Prop :=
  ∃ A c A' c', e = .returned (.tuple #[.agg #[.int .i64 T.len, .slice A T.rest.length c, .slice A' T.clo.length c'], .int .i64 E]) ∧ RN w' A T.rest ∧ RN w' A' T.clo ∧ Below w.heap.size w w'
theorem RN.nil (w : World) (A : Option Addr) : RN w A [] := ⟨rfl, fun h => by simp at h⟩
theorem RetP.bad {w w' : World} {T : Tm} {E E' : Int} {e : Ending} (he : e = .returned (.tuple #[.agg #[.int .i64 0, .slice none 0 0, .slice none 0 0], .int .i64 E'])) (hT : T = ⟨0, [], []⟩) (hE : E = E') (hb : Below w.heap.size w w') : RetP w T E e w' := by
  subst hT; subst hE
  exact ⟨none, 0, none, 0, he, RN.nil _ _, RN.nil _ _, hb⟩
theorem rstep_bd (p : RPS) (k : Nat) (x : Wd) : (rstep p k x).part ≤ p.part + 1 ∧ (rstep p k x).rest.length ≤ p.rest.length + 1 ∧ (rstep p k x).clo.length ≤ p.clo.length + 1 := by
  unfold rstep
  split
  · simp
  · split
    · simp
    · split <;> simp
theorem wds_mem : ∀ s : List UInt8, ∀ x ∈ wds s, x.length ≤ s.length
  | [], x, h => by simp [wds] at h; simp [h]
  | b :: r, x, h => by
    have ih := wds_mem r
    unfold wds at h
    split at h
    · rcases List.mem_cons.1 h with rfl | h
      · simp
      · have := ih x h; simp; omega
    · split at h
      · simp at h; subst h; simp
      · rename_i w' ws' e
        rcases List.mem_cons.1 h with rfl | h
        · have := ih w' (by rw [e]; simp); simp; omega
        · have := ih x (by rw [e]; simp [h]); simp; omega
theorem rstep_one (p : RPS) (x : Wd) : rstep p 1 x = ⟨p.part, numW x, p.rest, p.clo⟩ := by unfold rstep; rw [if_pos rfl]
theorem rstep_mark (p : RPS) {k : Nat} (hk : k ≠ 1) {x : Wd} (h : x = wRest ∨ x = wClosed) : rstep p k x = ⟨p.part + 1, p.len, p.rest, p.clo⟩ := by unfold rstep; rw [if_neg hk, if_pos h]
theorem rstep_rest {p : RPS} {k : Nat} (hk : k ≠ 1) {x : Wd} (h1 : x ≠ wRest) (h2 : x ≠ wClosed) (hp : p.part = 1) : rstep p k x = ⟨p.part, p.len, p.rest ++ [numW x], p.clo⟩ := by unfold rstep; rw [if_neg hk, if_neg (by rintro (h | h); exact h1 h; exact h2 h), if_pos hp]
theorem rstep_clo {p : RPS} {k : Nat} (hk : k ≠ 1) {x : Wd} (h1 : x ≠ wRest) (h2 : x ≠ wClosed) (hp : p.part ≠ 1) : rstep p k x = ⟨p.part, p.len, p.rest, p.clo ++ [numW x]⟩ := by unfold rstep; rw [if_neg hk, if_neg (by rintro (h | h); exact h1 h; exact h2 h), if_neg hp]
set_option maxRecDepth 100000 in
set_option maxHeartbeats 1000000 in
theorem rparse_any (s : List UInt8) (hs : s.length ≤ 100000) (w : World) : Calls Tryd.prog 9 #[St s] w (RetP w (rrT s) (rrE s)) := by
  obtain ⟨E, hE⟩ : ∃ E, E = rrE s := ⟨_, rfl⟩
  obtain ⟨T, hT⟩ : ∃ T, T = rrT s := ⟨_, rfl⟩
  rw [← hE, ← hT]
  have HE := Lib.hid hE
  have HT := Lib.hid hT
  clear hE hT
  by_cases h4 : 4000 < s.length
  · have hE1 : E = 4 := by rw [HE.out, rrE, if_pos h4]
    have hT1 : T = ⟨0, [], []⟩ := by rw [HT.out, rrT, if_neg (by rw [← HE.out, hE1]; decide)]
    have HE1 := Lib.hid hE1
    have HT1 := Lib.hid hT1
    clear hE1 hT1
    have b0 := Box.new w 24 zT
    have hy : Below w.heap.size w (w.alloc (.cells zT 24)) := (Below.refl _ w).alloc (Nat.le_refl _) _
    go_enter Tryd.func9, Tryd.ntmps9
    go_wp2
    have q0 := b0.cell 0; have q1 := b0.cell 1; have q2 := b0.cell 2
    unfold zT at q0 q1 q2 hy
    simp only [List.getElem?_toArray, List.getElem?_cons_zero, List.getElem?_cons_succ] at q0 q1 q2
    refine bodyPost_ret (v := .tuple #[.agg #[.int .i64 0, .slice none 0 0, .slice none 0 0], .int .i64 4]) (by simp [results, Tryd.results9, go_sem]) rfl ?_
    exact RetP.bad rfl HT1.out HE1.out hy
  obtain ⟨w2, hw2⟩ : ∃ w2, ((w.alloc (.cells zT 24)).alloc (.cells zT 24)) = w2 := ⟨_, rfl⟩
  have hy : Below w.heap.size w w2 := by rw [← hw2]; exact ((Below.refl _ w).alloc (Nat.le_refl _) _).alloc (by simp) _
  have b0 : Box w2 w.heap.size zT := by rw [← hw2]; exact (Box.new w _ _).alloc _
  have b1 : Box w2 (w.heap.size + 1) zT := by rw [← hw2]; exact (Box.new (w.alloc (.cells zT 24)) _ _).at' (by simp)
  have hsz : w2.heap.size = w.heap.size + 2 := by rw [← hw2]; simp
  unfold zT at b0 b1 hw2
  go_enter Tryd.func9, Tryd.ntmps9
  go_wp2_with fail
  refine (words_any s (by omega) _).mono ?_
  rintro e w3 ⟨A, c, rfl, ow, hb3⟩
  have hy3 := hy.trans (hb3.mono hy.size)
  have g0 := b0.below hb3
  have g1 := b1.below hb3
  have hs3 := hb3.size
  have hwl := wds_len s
  have hw0 : 1 ≤ (wds s).length := by have := wds_ne s; cases h : wds s with | nil => exact absurd h this | cons _ _ => simp
  have pb0 : PB w3 w3.heap.size (w.heap.size + 1) 0 none 0 [] none 0 [] := ⟨by omega, g1, World.ownsRow_nil _ _ _ _, World.ownsRow_nil _ _ _ _, apart_nil _ _⟩
  have hT0 : rT s = rk (wds s) (wds s).length := (rk_fin _ hw0).symm
  obtain ⟨ws, hws⟩ : ∃ ws, ws = wds s := ⟨_, rfl⟩
  rw [← hws] at ow hwl hw0 hT0 ⊢
  have HT0 := Lib.hid hT0
  have hAb : ∀ g, (Value.slice A ws.length c).ownBlock = some g → g < w3.heap.size := fun g hg => (ow.lt g hg).2
  have hwm : ∀ x ∈ ws, x.length ≤ s.length := by rw [hws]; exact wds_mem s
  clear hb3 b0 b1 hw2 hy hws hT0 g1
  go_wp2
  go_loopw [5, 7] (fun pt x wr => ∃ k : Nat, 1 ≤ k ∧ k ≤ ws.length ∧ x = .int .i64 k ∧ pt = .int .i64 (rk ws k).part ∧ (rk ws k).part ≤ k ∧ (rk ws k).rest.length ≤ k ∧ (rk ws k).clo.length ≤ k ∧ Box wr w.heap.size zT ∧ OwnS wr w2.heap.size A c ws ∧ Below w.heap.size w wr ∧ w3.heap.size ≤ wr.heap.size ∧ (∃ A1 c1 A2 c2, PB wr w3.heap.size (w.heap.size + 1) (rk ws k).len A1 c1 (rk ws k).rest A2 c2 (rk ws k).clo)) (fun _ x _ => ws.length - (intOf x).toNat)
  case atStart => 
    refine ⟨1, by omega, hw0, rfl, ?_⟩
    rw [rk_one]
    exact ⟨rfl, by simp [r0], by simp [r0], by simp [r0], g0, ow, hy3, Nat.le_refl _, none, 0, none, 0, pb0⟩
  case round =>
    clear pb0 g0 ow hy3
    obtain ⟨k, hk1, hk, rfl, rfl, m1, m2, m3, g0, ow, hy, hsz3, A1, c1, A2, c2, pb⟩ := hrel
    have hws := RS.of_own ow
    by_cases hlt : k < ws.length
    · have hst := rk_step ws hk1 hlt
      obtain ⟨ad, rfl, hab, e0⟩ := hws.at_ hlt
      obtain ⟨y, hy0⟩ : ∃ y, y = ws[k] := ⟨_, rfl⟩
      rw [← hy0] at hst e0
      have hyl : y.length ≤ 1000000 := by have := hwm y (by rw [hy0]; exact List.getElem_mem hlt); omega
      obtain ⟨p, hp⟩ : ∃ p, p = rk ws k := ⟨_, rfl⟩
      rw [← hp] at hst m1 m2 m3 pb ⊢
      obtain ⟨p', hp'⟩ : ∃ p', p' = rk ws (k + 1) := ⟨_, rfl⟩
      rw [← hp'] at hst
      have HP' := Lib.hid hp'
      have z0 : (0 : Int) ≤ (k : Int) := Int.natCast_nonneg _
      have z1 : (k : Int) < (ws.length : Int) := by omega
      clear hy0 hp hp' hws
      have y0 := pb.box.cell 0; have y1 := pb.box.cell 1; have y2 := pb.box.cell 2
      have f0 := pb.box.free 0; have f1 := pb.box.free 1; have f2 := pb.box.free 2
      simp only [List.getElem?_toArray, List.getElem?_cons_zero, List.getElem?_cons_succ] at y0 y1 y2
      by_cases k1 : k = 1
      · have k1' : ((k : Int) == 1) = true := by simp; omega
        rw [show rstep p k y = ⟨p.part, numW y, p.rest, p.clo⟩ from by rw [k1]; exact rstep_one p y] at hst
        have HST := Lib.hid hst
        have K1 := Lib.hid k1
        clear hst y1 y2 f1 f2 k1
        go_wp2_with fail
        refine (number_any y hyl _).mono ?_
        rintro e w4 ⟨rfl, rfl⟩
        go_wp2
        go_roundw
        case rel =>
          have pb' := pb.setN (numW y)
          have k1 := K1.out
          exact ⟨k + 1, by omega, by omega, by go_num, by rw [← HP'.out, HST.out], by rw [← HP'.out, HST.out]; show p.part ≤ _; omega, by rw [← HP'.out, HST.out]; show p.rest.length ≤ _; omega, by rw [← HP'.out, HST.out]; show p.clo.length ≤ _; omega, BoxFar g0 (by show w.heap.size ≠ w.heap.size + 1; omega) _, ownsRow_setCell_below ow (by show w.heap.size + 1 < w2.heap.size; omega) _, hy.setCell (by show w.heap.size ≤ w.heap.size + 1; omega) _, by simpa [World.setCell] using hsz3, A1, c1, A2, c2, by rw [← HP'.out, HST.out]; exact pb'⟩
        case measure => simp [intOf]; omega
      · have k1' : ((k : Int) == 1) = false := by simp; omega
        by_cases hr : y = wRest
        · have hr' : (y == [114, 101, 115, 116]) = true := by rw [hr]; rfl
          rw [rstep_mark p k1 (.inl hr)] at hst
          have HST := Lib.hid hst
          clear hst y1 y2 f1 f2 hr
          go_wp2_with fail
          go_roundw
          case rel => exact ⟨k + 1, by omega, by omega, by go_num, by rw [← HP'.out, HST.out]; go_num, by rw [← HP'.out, HST.out]; show p.part + 1 ≤ _; omega, by rw [← HP'.out, HST.out]; show p.rest.length ≤ _; omega, by rw [← HP'.out, HST.out]; show p.clo.length ≤ _; omega, g0, ow, hy, hsz3, A1, c1, A2, c2, by rw [← HP'.out, HST.out]; exact pb⟩
          case measure => simp [intOf]; omega
        have hr' : (y == [114, 101, 115, 116]) = false := by simpa [wRest] using hr
        by_cases hc : y = wClosed
        · have hc' : (y == [99, 108, 111, 115, 101, 100]) = true := by rw [hc]; rfl
          rw [rstep_mark p k1 (.inr hc)] at hst
          have HST := Lib.hid hst
          clear hst y1 y2 f1 f2 hc
          go_wp2_with fail
          go_roundw
          case rel => exact ⟨k + 1, by omega, by omega, by go_num, by rw [← HP'.out, HST.out]; go_num, by rw [← HP'.out, HST.out]; show p.part + 1 ≤ _; omega, by rw [← HP'.out, HST.out]; show p.rest.length ≤ _; omega, by rw [← HP'.out, HST.out]; show p.clo.length ≤ _; omega, g0, ow, hy, hsz3, A1, c1, A2, c2, by rw [← HP'.out, HST.out]; exact pb⟩
          case measure => simp [intOf]; omega
        have hc' : (y == [99, 108, 111, 115, 101, 100]) = false := by simpa [wClosed] using hc
        by_cases hp1 : p.part = 1
        · have hp1' : ((p.part : Int) == 1) = true := by simp; omega
          rw [rstep_rest k1 hr hc hp1] at hst
          have HST := Lib.hid hst
          clear hst y0 y2 f0 f2 hc hr
          have hx1 := number_any y hyl
          have own1 := pb.o1
          have hlb := pb.lt
          have hbw : Box wr (w.heap.size + 1) #[.int .i64 p.len, .slice A1 p.rest.length c1, .slice A2 p.clo.length c2] := pb.box
          have hrs := hy.size
          go_wp2_with fail
          have yA : ∀ o : Obj, (wr.alloc o).cell? ⟨w.heap.size + 1, 1, none⟩ = some (.slice A1 p.rest.length c1) := fun o => (((Below.refl wr.heap.size wr).alloc (Nat.le_refl _) o).cell (p := ⟨w.heap.size + 1, 1, none⟩) hbw.lt).trans y1
          go_region_law (first | (refine step_app4 (by rfl) _ _ (by rfl) Tryd.underlying22 info_int rfl (by omega) (by rfl) (World.ownsRow.alloc own1 _) (news := [.int .i64 (numW y)]) ⟨wr.heap.size, 0, none⟩ (by rfl) (by rfl) (World.news_of_block (cs := #[.int .i64 (numW y)]) (t := 3) (fr := (0, 0)) (heap_alloc_new _ _)) (by simp [Value.oneCell']) (by omega) (by omega) (by simp; omega) ?_; intro A3 c3 w7 own7 hb7 hk7; have hb7' := hb7 _ (Nat.le_refl _); have bx7 := BoxUp hbw (Below.trans (by repeat (first | exact Below.refl _ _ | refine Below.drew ?_ | refine Below.alloc ?_ hsz3 _)) hb7') hlb; have o7 := bx7.cell 1; have p7 := bx7.free 1; simp only [List.getElem?_toArray, List.getElem?_cons_zero, List.getElem?_cons_succ] at o7) | (go_simp; go_at_call 22; refine (hx1 _).mono ?_; rintro e w4 ⟨rfl, rfl⟩))
          all_goals
            have hBB : Below w3.heap.size wr w7 := Below.trans (by repeat (first | exact Below.refl _ _ | refine Below.drew ?_ | refine Below.alloc ?_ hsz3 _)) hb7'
            have pb8 := pb.push1 (numW y) (by repeat (first | exact Below.refl _ _ | refine Below.drew ?_ | refine Below.alloc ?_ (Nat.le_refl _) _)) own7 hb7' hk7
            have hs8 := hBB.size
            clear o7 p7 hk7 own7 bx7
            go_wp2
            go_roundw
            case rel => exact ⟨k + 1, by omega, by omega, by go_num, by rw [← HP'.out, HST.out]; show Value.int .i64 1 = .int .i64 ((p.part : Nat) : Int); rw [hp1]; rfl, by rw [← HP'.out, HST.out]; show p.part ≤ _; omega, by rw [← HP'.out, HST.out]; show (p.rest ++ [numW y]).length ≤ _; rw [List.length_append, List.length_singleton]; omega, by rw [← HP'.out, HST.out]; show p.clo.length ≤ _; omega, BoxFar (BoxUp g0 hBB (by omega)) (by show w.heap.size ≠ w.heap.size + 1; omega) _, ownsRow_setCell_below (own_below ow hBB hAb) (by show w.heap.size + 1 < w2.heap.size; omega) _, (hy.trans (hBB.mono (by omega))).setCell (by show w.heap.size ≤ w.heap.size + 1; omega) _, by simp [World.setCell]; omega, A3, c3, A2, c2, by rw [← HP'.out, HST.out]; exact pb8⟩
            case measure => simp [intOf]; omega
        · have hp1' : ((p.part : Int) == 1) = false := by simp; omega
          rw [rstep_clo k1 hr hc hp1] at hst
          have HST := Lib.hid hst
          clear hst y0 y1 f0 f1 hc hr hp1
          have hx1 := number_any y hyl
          have own1 := pb.o2
          have hlb := pb.lt
          have hbw : Box wr (w.heap.size + 1) #[.int .i64 p.len, .slice A1 p.rest.length c1, .slice A2 p.clo.length c2] := pb.box
          have hrs := hy.size
          go_wp2_with fail
          have yA : ∀ o : Obj, (wr.alloc o).cell? ⟨w.heap.size + 1, 2, none⟩ = some (.slice A2 p.clo.length c2) := fun o => (((Below.refl wr.heap.size wr).alloc (Nat.le_refl _) o).cell (p := ⟨w.heap.size + 1, 2, none⟩) hbw.lt).trans y2
          go_region_law (first | (refine step_app4 (by rfl) _ _ (by rfl) Tryd.underlying22 info_int rfl (by omega) (by rfl) (World.ownsRow.alloc own1 _) (news := [.int .i64 (numW y)]) ⟨wr.heap.size, 0, none⟩ (by rfl) (by rfl) (World.news_of_block (cs := #[.int .i64 (numW y)]) (t := 3) (fr := (0, 0)) (heap_alloc_new _ _)) (by simp [Value.oneCell']) (by omega) (by omega) (by simp; omega) ?_; intro A3 c3 w7 own7 hb7 hk7; have hb7' := hb7 _ (Nat.le_refl _); have bx7 := BoxUp hbw (Below.trans (by repeat (first | exact Below.refl _ _ | refine Below.drew ?_ | refine Below.alloc ?_ hsz3 _)) hb7') hlb; have o7 := bx7.cell 2; have p7 := bx7.free 2; simp only [List.getElem?_toArray, List.getElem?_cons_zero, List.getElem?_cons_succ] at o7) | (go_simp; go_at_call 22; refine (hx1 _).mono ?_; rintro e w4 ⟨rfl, rfl⟩))
          all_goals
            have hBB : Below w3.heap.size wr w7 := Below.trans (by repeat (first | exact Below.refl _ _ | refine Below.drew ?_ | refine Below.alloc ?_ hsz3 _)) hb7'
            have pb8 := pb.push2 (numW y) (by repeat (first | exact Below.refl _ _ | refine Below.drew ?_ | refine Below.alloc ?_ (Nat.le_refl _) _)) own7 hb7' hk7
            have hs8 := hBB.size
            clear o7 p7 hk7 own7 bx7
            go_wp2
            go_roundw
            case rel => exact ⟨k + 1, by omega, by omega, by go_num, by rw [← HP'.out, HST.out], by rw [← HP'.out, HST.out]; show p.part ≤ _; omega, by rw [← HP'.out, HST.out]; show p.rest.length ≤ _; omega, by rw [← HP'.out, HST.out]; show (p.clo ++ [numW y]).length ≤ _; rw [List.length_append, List.length_singleton]; omega, BoxFar (BoxUp g0 hBB (by omega)) (by show w.heap.size ≠ w.heap.size + 1; omega) _, ownsRow_setCell_below (own_below ow hBB hAb) (by show w.heap.size + 1 < w2.heap.size; omega) _, (hy.trans (hBB.mono (by omega))).setCell (by show w.heap.size ≤ w.heap.size + 1; omega) _, by simp [World.setCell]; omega, A1, c1, A3, c3, by rw [← HP'.out, HST.out]; exact pb8⟩
            case measure => simp [intOf]; omega
    · have hkl : k = ws.length := by omega
      subst hkl
      rw [← HT0.out] at pb m2 m3
      have y0 := pb.box.cell 0; have y1 := pb.box.cell 1; have y2 := pb.box.cell 2
      simp only [List.getElem?_toArray, List.getElem?_cons_zero, List.getElem?_cons_succ] at y0 y1 y2
      obtain ⟨t, ht⟩ : ∃ t, t = (rT s).tm := ⟨_, rfl⟩
      have e1 : (rT s).len = t.len := by rw [ht]; rfl
      have e2 : (rT s).rest = t.rest := by rw [ht]; rfl
      have e3 : (rT s).clo = t.clo := by rw [ht]; rfl
      rw [e1, e2, e3] at pb
      rw [e2] at m2
      rw [e3] at m3
      rw [e1] at y0
      rw [e2] at y1
      rw [e3] at y2
      have r1 : RN wr A1 t.rest := Reads.of_own pb.o1
      have r2 : RN wr A2 t.clo := Reads.of_own pb.o2
      have HTT := Lib.hid ht
      clear e1 e2 e3 ht HT0 hws
      go_wp2_with fail
      refine (rformat_any t A1 A2 c1 c2 _ r1 r2 (by omega) (by omega)).mono ?_
      rintro e w5 ⟨rfl, hb5⟩
      have g5 := g0.below hb5
      have b5 := pb.box.below hb5
      have pb5 := pb.below hb5
      have hy5 := hy.trans (hb5.mono hy.size)
      clear y0 y1 y2 r1 r2 g0 pb hb5 ow hy
      have y0 := b5.cell 0; have y1 := b5.cell 1; have y2 := b5.cell 2
      have f0 := g5.free 0; have f1 := g5.free 1; have f2 := g5.free 2
      unfold zT at g5
      have x0 := g5.cell 0; have x1 := g5.cell 1; have x2 := g5.cell 2
      simp only [List.getElem?_toArray, List.getElem?_cons_zero, List.getElem?_cons_succ] at y0 y1 y2 x0 x1 x2
      by_cases he : tE t = 0
      · have he' : (tE t != 0) = false := by simp [he]
        have hS : fmtS t = fmtT t := if_pos he
        by_cases hq : fmtT t = s
        · have hq' : (fmtS t == s) = true := by rw [hS, hq]; simp
          have hE1 : E = 0 := by rw [HE.out, rrE, if_neg h4, if_pos (by rw [← HTT.out]; exact ⟨he, hq⟩)]
          have hT1 : T = t := by rw [HT.out, rrT, if_pos (by rw [← HE.out, hE1]), ← HTT.out]
          have HE1 := Lib.hid hE1
          have HT1 := Lib.hid hT1
          clear hE1 hT1 hS hq he
          go_wp2_with fail
          obtain ⟨q0, q1, q2⟩ := BoxThree g5 (.int .i64 t.len) (.slice A1 t.rest.length c1) (.slice A2 t.clo.length c2)
          refine bodyPost_ret (v := .tuple #[.agg #[.int .i64 t.len, .slice A1 t.rest.length c1, .slice A2 t.clo.length c2], .int .i64 0]) (by simp [results, Tryd.results9, go_sem, q0, q1, q2]) rfl ?_
          have hlt3 : w.heap.size < w3.heap.size := by omega
          have O1 := ownsRow_setCell_below (a := ⟨w.heap.size, 2, none⟩) (ownsRow_setCell_below (a := ⟨w.heap.size, 1, none⟩) (ownsRow_setCell_below (a := ⟨w.heap.size, 0, none⟩) pb5.o1 hlt3 (.int .i64 t.len)) hlt3 (.slice A1 t.rest.length c1)) hlt3 (.slice A2 t.clo.length c2)
          have O2 := ownsRow_setCell_below (a := ⟨w.heap.size, 2, none⟩) (ownsRow_setCell_below (a := ⟨w.heap.size, 1, none⟩) (ownsRow_setCell_below (a := ⟨w.heap.size, 0, none⟩) pb5.o2 hlt3 (.int .i64 t.len)) hlt3 (.slice A1 t.rest.length c1)) hlt3 (.slice A2 t.clo.length c2)
          rw [HT1.out, HE1.out]
          exact ⟨A1, c1, A2, c2, rfl, Reads.of_own O1, Reads.of_own O2, ((hy5.setCell (p := ⟨w.heap.size, 0, none⟩) (Nat.le_refl _) _).setCell (p := ⟨w.heap.size, 1, none⟩) (Nat.le_refl _) _).setCell (p := ⟨w.heap.size, 2, none⟩) (Nat.le_refl _) _⟩
        · have hq' : (fmtS t == s) = false := by rw [hS]; simpa using hq
          have hE1 : E = 3 := by rw [HE.out, rrE, if_neg h4, if_neg (by rw [← HTT.out]; exact fun h => hq h.2)]
          have hT1 : T = ⟨0, [], []⟩ := by rw [HT.out, rrT, if_neg (by rw [← HE.out, hE1]; decide)]
          have HE1 := Lib.hid hE1
          have HT1 := Lib.hid hT1
          clear hE1 hT1 hS hq he y0 y1 y2
          go_wp2_with fail
          obtain ⟨q0, q1, q2⟩ := BoxThree g5 (.int .i64 0) (.slice none 0 0) (.slice none 0 0)
          refine bodyPost_ret (v := .tuple #[.agg #[.int .i64 0, .slice none 0 0, .slice none 0 0], .int .i64 3]) (by simp [results, Tryd.results9, go_sem, q0, q1, q2]) rfl ?_
          exact RetP.bad rfl HT1.out HE1.out (((hy5.setCell (p := ⟨w.heap.size, 0, none⟩) (Nat.le_refl _) _).setCell (p := ⟨w.heap.size, 1, none⟩) (Nat.le_refl _) _).setCell (p := ⟨w.heap.size, 2, none⟩) (Nat.le_refl _) _)
      · have he' : (tE t != 0) = true := by simp [he]
        have hE1 : E = 3 := by rw [HE.out, rrE, if_neg h4, if_neg (by rw [← HTT.out]; exact fun h => he h.1)]
        have hT1 : T = ⟨0, [], []⟩ := by rw [HT.out, rrT, if_neg (by rw [← HE.out, hE1]; decide)]
        have HE1 := Lib.hid hE1
        have HT1 := Lib.hid hT1
        clear hE1 hT1 he y0 y1 y2
        go_wp2_with fail
        obtain ⟨q0, q1, q2⟩ := BoxThree g5 (.int .i64 0) (.slice none 0 0) (.slice none 0 0)
        refine bodyPost_ret (v := .tuple #[.agg #[.int .i64 0, .slice none 0 0, .slice none 0 0], .int .i64 3]) (by simp [results, Tryd.results9, go_sem, q0, q1, q2]) rfl ?_
        exact RetP.bad rfl HT1.out HE1.out (((hy5.setCell (p := ⟨w.heap.size, 0, none⟩) (Nat.le_refl _) _).setCell (p := ⟨w.heap.size, 1, none⟩) (Nat.le_refl _) _).setCell (p := ⟨w.heap.size, 2, none⟩) (Nat.le_refl _) _)
end Go.Proofs.YtlnmmkgeahlohaaDoor
