/-
  Walks: the first day on which two menus meet.
-/
import Derived.Test.YtecjmpaomebdbaaJ
import Derived.Deep.RegionHeld3
namespace Go.Proofs.Ytecjmpaomebdbaa
set_option linter.unusedVariables false
set_option linter.unusedSimpArgs false
open Go.RowKit

/-! ### plain -/
def firstTo (p : Nat → Bool) : Nat → Option Nat
  | 0 => none
  | k + 1 => match firstTo p k with
    | some d => some d
    | none => if p k then some k else none
theorem firstTo_none (p : Nat → Bool) : ∀ k, (∀ i, i < k → p i = false) → firstTo p k = none
  | 0, _ => rfl
  | k + 1, h => by simp only [firstTo]; rw [firstTo_none p k fun i hi => h i (by omega)]; simp [h k (by omega)]
theorem firstTo_some (p : Nat → Bool) (d : Nat) (hd : p d = true) (hm : ∀ i, i < d → p i = false) : ∀ k, d < k → firstTo p k = some d
  | 0, h => by omega
  | k + 1, h => by
    simp only [firstTo]
    by_cases e : d = k
    · subst e; rw [firstTo_none p d hm]; simp [hd]
    · rw [firstTo_some p d hd hm k (by omega)]
theorem firstTo_spec (p : Nat → Bool) : ∀ k, (firstTo p k = none ∧ ∀ i, i < k → p i = false) ∨ ∃ d, firstTo p k = some d ∧ d < k ∧ p d = true ∧ ∀ i, i < d → p i = false
  | 0 => .inl ⟨rfl, fun i hi => by omega⟩
  | k + 1 => by
    rcases firstTo_spec p k with ⟨h1, h2⟩ | ⟨d, h1, h2, h3, h4⟩
    · cases hp : p k with
      | true => exact .inr ⟨k, by simp [firstTo, h1, hp], by omega, hp, h2⟩
      | false =>
        refine .inl ⟨by simp [firstTo, h1, hp], fun i hi => ?_⟩
        by_cases e : i = k
        · subst e; exact hp
        · exact h2 i (by omega)
    · exact .inr ⟨d, by simp [firstTo, h1], by omega, h3, h4⟩
def meetB (t : Tm) (a b : Cy) (x y : Int) (d : Nat) : Bool := (mnAt t a d == x) && (mnAt t b d == y)
def togE (t : Tm) (a b : Cy) (x y : Int) : Int := if bE t a ≠ 0 then bE t a else if cE b ≠ 0 then cE b else if inB x 0 (a.n - 1) && inB y 0 (b.n - 1) then 0 else 1
def togO (t : Tm) (a b : Cy) (x y : Int) : Option Nat := if togE t a b x y = 0 then firstTo (meetB t a b x y) t.len.toNat else none
def togR (t : Tm) (a b : Cy) (x y : Int) : Int := match togO t a b x y with | some d => d | none => 0
def togB (t : Tm) (a b : Cy) (x y : Int) : Bool := (togO t a b x y).isSome
theorem tog_no {t : Tm} {a b : Cy} {x y : Int} (h : ¬ togE t a b x y = 0) : togR t a b x y = 0 ∧ togB t a b x y = false := by unfold togR togB togO; rw [if_neg h]; exact ⟨rfl, rfl⟩
theorem tog_none {t : Tm} {a b : Cy} {x y : Int} (h : firstTo (meetB t a b x y) t.len.toNat = none) : togR t a b x y = 0 ∧ togB t a b x y = false := by
  unfold togR togB togO; rw [h]; split <;> simp_all
theorem tog_some {t : Tm} {a b : Cy} {x y : Int} {d : Nat} (hE : togE t a b x y = 0) (h : firstTo (meetB t a b x y) t.len.toNat = some d) : togR t a b x y = d ∧ togB t a b x y = true := by
  unfold togR togB togO; rw [if_pos hE, h]; exact ⟨rfl, rfl⟩

/-! ### memory -/
theorem three_blk {w wr : World} {cs1 cs2 cs3 : Array Value} {t1 t2 t3 : TypeId} {n : Nat} (hb : Below n (((w.alloc (.cells cs1 t1)).alloc (.cells cs2 t2)).alloc (.cells cs3 t3)) wr) (hn : w.heap.size + 2 < n) :
    (∀ j, wr.cell? ⟨w.heap.size, j, none⟩ = cs1[j]?) ∧ (∀ j, wr.cell? ⟨w.heap.size + 1, j, none⟩ = cs2[j]?) ∧ (∀ j, wr.cell? ⟨w.heap.size + 2, j, none⟩ = cs3[j]?) ∧ w.heap.size + 2 < wr.heap.size ∧ Below w.heap.size w wr := by
  refine ⟨fun j => ?_, fun j => ?_, fun j => ?_, by have := hb.size; simp at this; omega, ((((Below.refl _ _).alloc (Nat.le_refl _) _).alloc (by simp) _).alloc (by simp; omega) _).trans (hb.mono (by omega))⟩
  · rw [hb.cell (p := ⟨w.heap.size, j, none⟩) (by show w.heap.size < n; omega), World.cell?_alloc_lt _ _ _ (by simp; omega), World.cell?_alloc_lt _ _ _ (by simp)]; simp [World.cell?_alloc_at]
  · rw [hb.cell (p := ⟨w.heap.size + 1, j, none⟩) (by show w.heap.size + 1 < n; omega), World.cell?_alloc_lt _ _ _ (by simp), World.cell?_alloc_at _ _ _ _ (by simp)]
  · rw [hb.cell (p := ⟨w.heap.size + 2, j, none⟩) hn, World.cell?_alloc_at _ _ _ _ (by simp)]
theorem three_step {w w1 w2 : World} {cs cs' cs'' : Array Value} {t t' t'' : TypeId} (hx : Below (w.heap.size + 3) (((w.alloc (.cells cs t)).alloc (.cells cs' t')).alloc (.cells cs'' t'')) w1) (hb : Below w1.heap.size w1 w2) : Below (w.heap.size + 3) (((w.alloc (.cells cs t)).alloc (.cells cs' t')).alloc (.cells cs'' t'')) w2 :=
  hx.trans (hb.mono (by have := hx.size; simp at this; omega))

theorem menusR_any (t : Tm) (c : Cy) (A1 A2 : Option Addr) (c1 c2 : Nat) (w : World) (h1 : RN w A1 t.rest) (h2 : RN w A2 t.clo) (hok : TmOk t) (hcy : CyOk c) :
    Calls Try.prog 56 #[.agg #[.int .i64 t.len, .slice A1 t.rest.length c1, .slice A2 t.clo.length c2], .agg #[.int .i64 c.n, .int .i64 c.f, .int .i64 c.k]] w fun e w' => ∃ A c', e = .returned (.slice A (mnL t c).length c') ∧ RN w' A (mnL t c) ∧ Below w.heap.size w w' :=
  (menus_any t c A1 A2 c1 c2 w h1 h2 hok hcy).mono fun e w' ⟨g, n, he, own, hb⟩ => ⟨some ⟨g, 0, none⟩, n, by rw [own.1]; exact he, RN.of_own own.own, hb⟩
theorem rmenusR_any (t : Tm) (c : Cy) (A1 A2 : Option Addr) (c1 c2 : Nat) (w : World) (h1 : RN w A1 t.rest) (h2 : RN w A2 t.clo) (hok : TmOk t) (hcy : CyOk c) :
    Calls Try.prog 60 #[.agg #[.int .i64 t.len, .slice A1 t.rest.length c1, .slice A2 t.clo.length c2], .agg #[.int .i64 c.n, .int .i64 c.f, .int .i64 c.k]] w fun e w' => ∃ A c', e = .returned (.slice A (mnL t c).length c') ∧ RN w' A (mnL t c) ∧ Below w.heap.size w w' :=
  (rmenus_any t c A1 A2 c1 c2 w h1 h2 hok hcy).mono fun e w' ⟨A, n, c', he, hn, own, hb⟩ => ⟨A, c', by rw [← hn]; exact he, RN.of_own own, hb⟩

set_option maxRecDepth 100000 in
set_option maxHeartbeats 3200000 in
theorem together_any (a b : Cy) (x y : Int) (t : Tm) (A1 A2 : Option Addr) (c1 c2 : Nat) (w : World) (h1 : RN w A1 t.rest) (h2 : RN w A2 t.clo) (hl1 : t.rest.length ≤ 1000000000) (hl2 : t.clo.length ≤ 1000000000) :
    Calls Try.prog 39 #[.agg #[.int .i64 t.len, .slice A1 t.rest.length c1, .slice A2 t.clo.length c2], .agg #[.int .i64 a.n, .int .i64 a.f, .int .i64 a.k], .agg #[.int .i64 b.n, .int .i64 b.f, .int .i64 b.k], .int .i64 x, .int .i64 y] w fun e w' => e = .returned (.tuple #[.int .i64 (togR t a b x y), .bool (togB t a b x y), .int .i64 (togE t a b x y)]) ∧ Below w.heap.size w w' := by
  obtain ⟨E, hE⟩ : ∃ E, E = togE t a b x y := ⟨_, rfl⟩
  obtain ⟨R, hR⟩ : ∃ R, R = togR t a b x y := ⟨_, rfl⟩
  obtain ⟨B, hB⟩ : ∃ B, B = togB t a b x y := ⟨_, rfl⟩
  rw [← hE, ← hR, ← hB]
  have HE := Lib.hid hE
  have HR := Lib.hid hR
  have HB := Lib.hid hB
  clear hE hR hB
  have hx0 : Below (w.heap.size + 3) (((w.alloc (.cells #[.int .i64 t.len, .slice A1 t.rest.length c1, .slice A2 t.clo.length c2] 24)).alloc (.cells #[.int .i64 a.n, .int .i64 a.f, .int .i64 a.k] 26)).alloc (.cells #[.int .i64 b.n, .int .i64 b.f, .int .i64 b.k] 26)) (((w.alloc (.cells #[.int .i64 t.len, .slice A1 t.rest.length c1, .slice A2 t.clo.length c2] 24)).alloc (.cells #[.int .i64 a.n, .int .i64 a.f, .int .i64 a.k] 26)).alloc (.cells #[.int .i64 b.n, .int .i64 b.f, .int .i64 b.k] 26)) := Below.refl _ _
  obtain ⟨bx, bY, bZ, _, hb0⟩ := three_blk hx0 (by omega)
  clear bx bY bZ
  go_enter Try.func39, Try.ntmps39
  go_wp2_with fail
  refine (both_any a t A1 A2 c1 c2 _ (h1.below hb0) (h2.below hb0) hl1 hl2).mono ?_
  rintro e w1 ⟨rfl, hb1⟩
  have hx1 := hx0.trans (hb1.mono (by simp))
  clear hx0 hb0 hb1
  obtain ⟨bx, bY, bZ, _, hb⟩ := three_blk hx1 (by omega)
  by_cases h0 : bE t a = 0
  · have h0' : (bE t a != 0) = false := by simp [h0]
    obtain ⟨hok, hca⟩ := bE_ok h0
    have H0 := Lib.hid h0
    clear h0
    go_wp2_with fail
    refine (cvalidate_any b _).mono ?_
    rintro e w2 ⟨rfl, hb2⟩
    have hx2 := three_step hx1 hb2
    clear hx1 hb2 bx bY bZ hb
    obtain ⟨bx, bY, bZ, _, hb⟩ := three_blk hx2 (by omega)
    by_cases h00 : cE b = 0
    · have h00' : (cE b != 0) = false := by simp [h00]
      have hcb := CyOk.of h00
      have hEm : E = if inB x 0 (a.n - 1) && inB y 0 (b.n - 1) then 0 else 1 := by rw [HE.out, togE, if_neg (by simp [H0.out]), if_neg (by simp [h00])]
      have HEM := Lib.hid hEm
      have an1 := hca.n1
      have an2 := hca.n2
      have bn1 := hcb.n1
      have bn2 := hcb.n2
      clear h00 hEm
      by_cases e1 : x < 0
      · have hEv : E = 1 := by rw [HEM.out, inB_false.2 (show ¬ (0 ≤ x ∧ x ≤ a.n - 1) by omega)]; rfl
        obtain ⟨hRv, hBv⟩ := tog_no (t := t) (a := a) (b := b) (x := x) (y := y) (by rw [← HE.out, hEv]; first | decide | assumption)
        have H1 := Lib.hid hEv
        have H2 := Lib.hid (HR.out.trans hRv)
        have H3 := Lib.hid (HB.out.trans hBv)
        clear hEv hRv hBv
        go_wp2
        go_ret3
        exact ⟨ret3 (by rw [H2.out]; rfl) (by rw [H3.out]; rfl) (by rw [H1.out]; rfl), hb⟩
      by_cases e2 : a.n ≤ x
      · have hEv : E = 1 := by rw [HEM.out, inB_false.2 (show ¬ (0 ≤ x ∧ x ≤ a.n - 1) by omega)]; rfl
        obtain ⟨hRv, hBv⟩ := tog_no (t := t) (a := a) (b := b) (x := x) (y := y) (by rw [← HE.out, hEv]; first | decide | assumption)
        have H1 := Lib.hid hEv
        have H2 := Lib.hid (HR.out.trans hRv)
        have H3 := Lib.hid (HB.out.trans hBv)
        clear hEv hRv hBv
        go_wp2
        go_ret3
        exact ⟨ret3 (by rw [H2.out]; rfl) (by rw [H3.out]; rfl) (by rw [H1.out]; rfl), hb⟩
      by_cases e3 : y < 0
      · have hEv : E = 1 := by rw [HEM.out, inB_false.2 (show ¬ (0 ≤ y ∧ y ≤ b.n - 1) by omega), Bool.and_false]; rfl
        obtain ⟨hRv, hBv⟩ := tog_no (t := t) (a := a) (b := b) (x := x) (y := y) (by rw [← HE.out, hEv]; first | decide | assumption)
        have H1 := Lib.hid hEv
        have H2 := Lib.hid (HR.out.trans hRv)
        have H3 := Lib.hid (HB.out.trans hBv)
        clear hEv hRv hBv
        go_wp2
        go_ret3
        exact ⟨ret3 (by rw [H2.out]; rfl) (by rw [H3.out]; rfl) (by rw [H1.out]; rfl), hb⟩
      by_cases e4 : b.n ≤ y
      · have hEv : E = 1 := by rw [HEM.out, inB_false.2 (show ¬ (0 ≤ y ∧ y ≤ b.n - 1) by omega), Bool.and_false]; rfl
        obtain ⟨hRv, hBv⟩ := tog_no (t := t) (a := a) (b := b) (x := x) (y := y) (by rw [← HE.out, hEv]; first | decide | assumption)
        have H1 := Lib.hid hEv
        have H2 := Lib.hid (HR.out.trans hRv)
        have H3 := Lib.hid (HB.out.trans hBv)
        clear hEv hRv hBv
        go_wp2
        go_ret3
        exact ⟨ret3 (by rw [H2.out]; rfl) (by rw [H3.out]; rfl) (by rw [H1.out]; rfl), hb⟩
      have hi1 : inB x 0 (a.n - 1) = true := inB_true.2 (by omega)
      have hi2 : inB y 0 (b.n - 1) = true := inB_true.2 (by omega)
      have hEv : E = 0 := by rw [HEM.out, hi1, hi2]; rfl
      have H1 := Lib.hid hEv
      have H1b := Lib.hid (HE.out.symm.trans hEv)
      have hl := mnL_length t a
      have hl' := mnL_length t b
      have HL := Lib.hid hl
      have HL' := Lib.hid hl'
      have x0 : w2.cell? ⟨w.heap.size, 0, none⟩ = some (.int .i64 t.len) := by rw [bx]; rfl
      have x1 : w2.cell? ⟨w.heap.size, 1, none⟩ = some (.slice A1 t.rest.length c1) := by rw [bx]; rfl
      have x2 : w2.cell? ⟨w.heap.size, 2, none⟩ = some (.slice A2 t.clo.length c2) := by rw [bx]; rfl
      have y0 : w2.cell? ⟨w.heap.size + 1, 0, none⟩ = some (.int .i64 a.n) := by rw [bY]; rfl
      have y1 : w2.cell? ⟨w.heap.size + 1, 1, none⟩ = some (.int .i64 a.f) := by rw [bY]; rfl
      have y2 : w2.cell? ⟨w.heap.size + 1, 2, none⟩ = some (.int .i64 a.k) := by rw [bY]; rfl
      have z0 : w2.cell? ⟨w.heap.size + 2, 0, none⟩ = some (.int .i64 b.n) := by rw [bZ]; rfl
      have z1 : w2.cell? ⟨w.heap.size + 2, 1, none⟩ = some (.int .i64 b.f) := by rw [bZ]; rfl
      have z2 : w2.cell? ⟨w.heap.size + 2, 2, none⟩ = some (.int .i64 b.k) := by rw [bZ]; rfl
      have r1 := h1.below hb
      have r2 := h2.below hb
      have d1 : RN w2.drew A1 t.rest := r1
      have d2 : RN w2.drew A2 t.clo := r2
      have hsz : w.heap.size + 2 < w2.heap.size := by have := hx2.size; simp at this; omega
      clear hEv hl hl' bx bY bZ
      go_wp2_with fail
      go_cut [15, 16] (fun s s' wx => ∃ Aa ca Ab cb, s = .slice Aa (mnL t a).length ca ∧ s' = .slice Ab (mnL t b).length cb ∧ RN wx Aa (mnL t a) ∧ RN wx Ab (mnL t b) ∧ Below w2.heap.size w2 wx)
      case first =>
        go_region_held3 (fun w' => w'.cell? ⟨w.heap.size, 0, none⟩ = some (.int .i64 t.len) ∧ w'.cell? ⟨w.heap.size, 1, none⟩ = some (.slice A1 t.rest.length c1) ∧ w'.cell? ⟨w.heap.size, 2, none⟩ = some (.slice A2 t.clo.length c2) ∧ w'.cell? ⟨w.heap.size + 1, 0, none⟩ = some (.int .i64 a.n) ∧ w'.cell? ⟨w.heap.size + 1, 1, none⟩ = some (.int .i64 a.f) ∧ w'.cell? ⟨w.heap.size + 1, 2, none⟩ = some (.int .i64 a.k) ∧ w'.cell? ⟨w.heap.size + 2, 0, none⟩ = some (.int .i64 b.n) ∧ w'.cell? ⟨w.heap.size + 2, 1, none⟩ = some (.int .i64 b.f) ∧ w'.cell? ⟨w.heap.size + 2, 2, none⟩ = some (.int .i64 b.k))
          (first | go_keep | (go_split_ands; refine ⟨?_, ?_, ?_, ?_, ?_, ?_, ?_, ?_, ?_⟩ <;> (rw [hbB.cell (by first | omega | (simp; omega))]; go_keep)) | (go_split_ands; refine ⟨?_, ?_, ?_, ?_, ?_, ?_, ?_, ?_, ?_⟩ <;> (rw [hbA.cell (by first | omega | (simp; omega))]; go_keep)))
          (first | (go_at_call 56; (with_reducible refine (menusR_any t a A1 A2 c1 c2 _ ?_ ?_ hok hca).mono ?_); (first | exact r1 | exact d1.below hbB); (first | exact r2 | exact d2.below hbB); rintro e wA ⟨Aa, ca, rfl, ownA, hbA⟩; (first | (have hsA : wB.heap.size ≤ wA.heap.size := hbA.size) | (have hsA : w2.heap.size ≤ wA.heap.size := hbA.size))) | (go_at_call 56; (with_reducible refine (menusR_any t b A1 A2 c1 c2 _ ?_ ?_ hok hcb).mono ?_); (first | exact r1 | exact d1.below hbA); (first | exact r2 | exact d2.below hbA); rintro e wB ⟨Ab, cb, rfl, ownB, hbB⟩; (first | (have hsB : wA.heap.size ≤ wB.heap.size := hbB.size) | (have hsB : w2.heap.size ≤ wB.heap.size := hbB.size))))
        · go_wp2_with fail
          go_meet
          exact ⟨Aa, ca, Ab, cb, rfl, rfl, ownA.below hbB, ownB, ((Below.refl w2.heap.size w2).drew.trans hbA).trans (hbB.mono hsA)⟩
      case rest =>
        obtain ⟨Aa, ca, Ab, cb, rfl, rfl, ra, rb, hbx⟩ := hcut
        have hy := hb.trans (hbx.mono hb.size)
        have xx := (hbx.cell (p := ⟨w.heap.size, 0, none⟩) (by show w.heap.size < _; omega)).trans x0
        have ln1 := hok.len1
        have ln2 := hok.len2
        clear x0 x1 x2 y0 y1 y2 z0 z1 z2
        go_wp2
        go_loop [55] (fun z => ∃ k : Nat, k ≤ (mnL t a).length ∧ z = .int .i64 k ∧ Hid (∀ i, i < k → meetB t a b x y i = false)) (fun z => (mnL t a).length - (intOf z).toNat)
        case atStart => exact ⟨0, by omega, rfl, fun i hi => by omega⟩
        case round =>
          obtain ⟨k, hk, rfl, HK⟩ := hrel
          have q0 := HL.out
          have q1 := HL'.out
          by_cases hlt : k < (mnL t a).length
          · have hlt2 : k < (mnL t b).length := by omega
            have hkl : (k : Int) < t.len := by omega
            obtain ⟨ad, rfl, _, e0⟩ := ra.at_ hlt
            obtain ⟨ad', rfl, _, e1⟩ := rb.at_ hlt2
            rw [mnL_at t a k (by omega)] at e0
            rw [mnL_at t b k (by omega)] at e1
            clear q0 q1
            cases m1 : (mnAt t a k == x) with
            | false =>
              have hm : meetB t a b x y k = false := by unfold meetB; rw [m1]; rfl
              have HM := Lib.hid hm
              clear hm
              go_wp2
              go_round
              case rel =>
                exact ⟨k + 1, by omega, by go_num, fun i hi => by
                  by_cases e : i = k
                  · subst e; exact HM.out
                  · exact HK.out i (by omega)⟩
              case measure => simp [intOf]; omega
            | true =>
              cases m2 : (mnAt t b k == y) with
              | false =>
                have hm : meetB t a b x y k = false := by unfold meetB; rw [m1, m2]; rfl
                have HM := Lib.hid hm
                clear hm
                go_wp2
                go_round
                case rel =>
                  exact ⟨k + 1, by omega, by go_num, fun i hi => by
                    by_cases e : i = k
                    · subst e; exact HM.out
                    · exact HK.out i (by omega)⟩
                case measure => simp [intOf]; omega
              | true =>
                have hf := firstTo_some (meetB t a b x y) k (by unfold meetB; rw [m1, m2]; rfl) HK.out t.len.toNat (by have := HL.out; omega)
                obtain ⟨hRv, hBv⟩ := tog_some H1b.out hf
                have H2 := Lib.hid (HR.out.trans hRv)
                have H3 := Lib.hid (HB.out.trans hBv)
                clear hf hRv hBv
                go_wp2
                go_ret3
                exact ⟨ret3 (by rw [H2.out]; rfl) (by rw [H3.out]; rfl) (by rw [H1.out]; rfl), hy⟩
          · have hkl : t.len ≤ (k : Int) := by omega
            have hf := firstTo_none (meetB t a b x y) t.len.toNat (fun i hi => HK.out i (by omega))
            obtain ⟨hRv, hBv⟩ := tog_none hf
            have H2 := Lib.hid (HR.out.trans hRv)
            have H3 := Lib.hid (HB.out.trans hBv)
            clear hf hRv hBv q0 q1
            go_wp2
            go_ret3
            exact ⟨ret3 (by rw [H2.out]; rfl) (by rw [H3.out]; rfl) (by rw [H1.out]; rfl), hy⟩
    · have h00' : (cE b != 0) = true := by simp [h00]
      have hEv : E = cE b := by rw [HE.out, togE, if_neg (by simp [H0.out]), if_pos h00]
      obtain ⟨hRv, hBv⟩ := tog_no (t := t) (a := a) (b := b) (x := x) (y := y) (by rw [← HE.out, hEv]; exact h00)
      have H1 := Lib.hid hEv
      have H2 := Lib.hid (HR.out.trans hRv)
      have H3 := Lib.hid (HB.out.trans hBv)
      clear hEv hRv hBv h00
      go_wp2
      go_ret3
      exact ⟨ret3 (by rw [H2.out]; rfl) (by rw [H3.out]; rfl) (by rw [H1.out]; rfl), hb⟩
  · have h0' : (bE t a != 0) = true := by simp [h0]
    have hEv : E = bE t a := by rw [HE.out, togE, if_pos h0]
    obtain ⟨hRv, hBv⟩ := tog_no (t := t) (a := a) (b := b) (x := x) (y := y) (by rw [← HE.out, hEv]; exact h0)
    have H1 := Lib.hid hEv
    have H2 := Lib.hid (HR.out.trans hRv)
    have H3 := Lib.hid (HB.out.trans hBv)
    clear hEv hRv hBv h0
    go_wp2
    go_ret3
    exact ⟨ret3 (by rw [H2.out]; rfl) (by rw [H3.out]; rfl) (by rw [H1.out]; rfl), hb⟩

set_option maxRecDepth 100000 in
set_option maxHeartbeats 3200000 in
theorem rtogether_any (a b : Cy) (x y : Int) (t : Tm) (A1 A2 : Option Addr) (c1 c2 : Nat) (w : World) (h1 : RN w A1 t.rest) (h2 : RN w A2 t.clo) (hl1 : t.rest.length ≤ 1000000000) (hl2 : t.clo.length ≤ 1000000000) :
    Calls Try.prog 40 #[.agg #[.int .i64 t.len, .slice A1 t.rest.length c1, .slice A2 t.clo.length c2], .agg #[.int .i64 a.n, .int .i64 a.f, .int .i64 a.k], .agg #[.int .i64 b.n, .int .i64 b.f, .int .i64 b.k], .int .i64 x, .int .i64 y] w fun e w' => e = .returned (.tuple #[.int .i64 (togR t a b x y), .bool (togB t a b x y), .int .i64 (togE t a b x y)]) ∧ Below w.heap.size w w' := by
  obtain ⟨E, hE⟩ : ∃ E, E = togE t a b x y := ⟨_, rfl⟩
  obtain ⟨R, hR⟩ : ∃ R, R = togR t a b x y := ⟨_, rfl⟩
  obtain ⟨B, hB⟩ : ∃ B, B = togB t a b x y := ⟨_, rfl⟩
  rw [← hE, ← hR, ← hB]
  have HE := Lib.hid hE
  have HR := Lib.hid hR
  have HB := Lib.hid hB
  clear hE hR hB
  have hx0 : Below (w.heap.size + 3) (((w.alloc (.cells #[.int .i64 t.len, .slice A1 t.rest.length c1, .slice A2 t.clo.length c2] 24)).alloc (.cells #[.int .i64 a.n, .int .i64 a.f, .int .i64 a.k] 26)).alloc (.cells #[.int .i64 b.n, .int .i64 b.f, .int .i64 b.k] 26)) (((w.alloc (.cells #[.int .i64 t.len, .slice A1 t.rest.length c1, .slice A2 t.clo.length c2] 24)).alloc (.cells #[.int .i64 a.n, .int .i64 a.f, .int .i64 a.k] 26)).alloc (.cells #[.int .i64 b.n, .int .i64 b.f, .int .i64 b.k] 26)) := Below.refl _ _
  obtain ⟨bx, bY, bZ, _, hb0⟩ := three_blk hx0 (by omega)
  clear bx bY bZ
  go_enter Try.func40, Try.ntmps40
  go_wp2_with fail
  refine (rboth_any a t A1 A2 c1 c2 _ (h1.below hb0) (h2.below hb0) hl1 hl2).mono ?_
  rintro e w1 ⟨rfl, hb1⟩
  have hx1 := hx0.trans (hb1.mono (by simp))
  clear hx0 hb0 hb1
  obtain ⟨bx, bY, bZ, _, hb⟩ := three_blk hx1 (by omega)
  by_cases h0 : bE t a = 0
  · have h0' : (bE t a != 0) = false := by simp [h0]
    obtain ⟨hok, hca⟩ := bE_ok h0
    have H0 := Lib.hid h0
    clear h0
    go_wp2_with fail
    refine (rcvalidate_any b _).mono ?_
    rintro e w2 ⟨rfl, hb2⟩
    have hx2 := three_step hx1 hb2
    clear hx1 hb2 bx bY bZ hb
    obtain ⟨bx, bY, bZ, _, hb⟩ := three_blk hx2 (by omega)
    by_cases h00 : cE b = 0
    · have h00' : (cE b != 0) = false := by simp [h00]
      have hcb := CyOk.of h00
      have hEm : E = if inB x 0 (a.n - 1) && inB y 0 (b.n - 1) then 0 else 1 := by rw [HE.out, togE, if_neg (by simp [H0.out]), if_neg (by simp [h00])]
      have HEM := Lib.hid hEm
      have an1 := hca.n1
      have an2 := hca.n2
      have bn1 := hcb.n1
      have bn2 := hcb.n2
      clear h00 hEm
      cases hi1 : inB x 0 (a.n - 1) with
      | false =>
        have hEv : E = 1 := by rw [HEM.out, hi1]; rfl
        obtain ⟨hRv, hBv⟩ := tog_no (t := t) (a := a) (b := b) (x := x) (y := y) (by rw [← HE.out, hEv]; first | decide | assumption)
        have H1 := Lib.hid hEv
        have H2 := Lib.hid (HR.out.trans hRv)
        have H3 := Lib.hid (HB.out.trans hBv)
        clear hEv hRv hBv
        go_wp2_with (go_at_call 58; refine (within_any _ _ _ _).mono ?_; rintro e w' ⟨rfl, hw'⟩; subst hw')
        go_wp2
        go_ret3
        exact ⟨ret3 (by rw [H2.out]; rfl) (by rw [H3.out]; rfl) (by rw [H1.out]; rfl), hb⟩
      | true =>
      cases hi2 : inB y 0 (b.n - 1) with
      | false =>
        have hEv : E = 1 := by rw [HEM.out, hi1, hi2]; rfl
        obtain ⟨hRv, hBv⟩ := tog_no (t := t) (a := a) (b := b) (x := x) (y := y) (by rw [← HE.out, hEv]; first | decide | assumption)
        have H1 := Lib.hid hEv
        have H2 := Lib.hid (HR.out.trans hRv)
        have H3 := Lib.hid (HB.out.trans hBv)
        clear hEv hRv hBv
        go_wp2_with (go_at_call 58; refine (within_any _ _ _ _).mono ?_; rintro e w' ⟨rfl, hw'⟩; subst hw')
        go_wp2
        go_ret3
        exact ⟨ret3 (by rw [H2.out]; rfl) (by rw [H3.out]; rfl) (by rw [H1.out]; rfl), hb⟩
      | true =>
        have hEv : E = 0 := by rw [HEM.out, hi1, hi2]; rfl
        have H1 := Lib.hid hEv
        have H1b := Lib.hid (HE.out.symm.trans hEv)
        have hl := mnL_length t a
        have hl' := mnL_length t b
        have HL := Lib.hid hl
        have HL' := Lib.hid hl'
        have x0 : w2.cell? ⟨w.heap.size, 0, none⟩ = some (.int .i64 t.len) := by rw [bx]; rfl
        have x1 : w2.cell? ⟨w.heap.size, 1, none⟩ = some (.slice A1 t.rest.length c1) := by rw [bx]; rfl
        have x2 : w2.cell? ⟨w.heap.size, 2, none⟩ = some (.slice A2 t.clo.length c2) := by rw [bx]; rfl
        have y0 : w2.cell? ⟨w.heap.size + 1, 0, none⟩ = some (.int .i64 a.n) := by rw [bY]; rfl
        have y1 : w2.cell? ⟨w.heap.size + 1, 1, none⟩ = some (.int .i64 a.f) := by rw [bY]; rfl
        have y2 : w2.cell? ⟨w.heap.size + 1, 2, none⟩ = some (.int .i64 a.k) := by rw [bY]; rfl
        have z0 : w2.cell? ⟨w.heap.size + 2, 0, none⟩ = some (.int .i64 b.n) := by rw [bZ]; rfl
        have z1 : w2.cell? ⟨w.heap.size + 2, 1, none⟩ = some (.int .i64 b.f) := by rw [bZ]; rfl
        have z2 : w2.cell? ⟨w.heap.size + 2, 2, none⟩ = some (.int .i64 b.k) := by rw [bZ]; rfl
        have r1 := h1.below hb
        have r2 := h2.below hb
        have d1 : RN w2.drew A1 t.rest := r1
        have d2 : RN w2.drew A2 t.clo := r2
        have hsz : w.heap.size + 2 < w2.heap.size := by have := hx2.size; simp at this; omega
        clear hEv hl hl' bx bY bZ
        go_wp2_with (go_at_call 58; refine (within_any _ _ _ _).mono ?_; rintro e w' ⟨rfl, hw'⟩; have hw'' := hw'.symm; clear hw'; subst hw'')
        go_cut [15, 16] (fun s s' wx => ∃ Aa ca Ab cb, s = .slice Aa (mnL t a).length ca ∧ s' = .slice Ab (mnL t b).length cb ∧ RN wx Aa (mnL t a) ∧ RN wx Ab (mnL t b) ∧ Below w2.heap.size w2 wx)
        case first =>
          go_region_held3 (fun w' => w'.cell? ⟨w.heap.size, 0, none⟩ = some (.int .i64 t.len) ∧ w'.cell? ⟨w.heap.size, 1, none⟩ = some (.slice A1 t.rest.length c1) ∧ w'.cell? ⟨w.heap.size, 2, none⟩ = some (.slice A2 t.clo.length c2) ∧ w'.cell? ⟨w.heap.size + 1, 0, none⟩ = some (.int .i64 a.n) ∧ w'.cell? ⟨w.heap.size + 1, 1, none⟩ = some (.int .i64 a.f) ∧ w'.cell? ⟨w.heap.size + 1, 2, none⟩ = some (.int .i64 a.k) ∧ w'.cell? ⟨w.heap.size + 2, 0, none⟩ = some (.int .i64 b.n) ∧ w'.cell? ⟨w.heap.size + 2, 1, none⟩ = some (.int .i64 b.f) ∧ w'.cell? ⟨w.heap.size + 2, 2, none⟩ = some (.int .i64 b.k))
            (first | go_keep | (go_split_ands; refine ⟨?_, ?_, ?_, ?_, ?_, ?_, ?_, ?_, ?_⟩ <;> (rw [hbB.cell (by first | omega | (simp; omega))]; go_keep)) | (go_split_ands; refine ⟨?_, ?_, ?_, ?_, ?_, ?_, ?_, ?_, ?_⟩ <;> (rw [hbA.cell (by first | omega | (simp; omega))]; go_keep)))
            (first | (go_at_call 60; (with_reducible refine (rmenusR_any t a A1 A2 c1 c2 _ ?_ ?_ hok hca).mono ?_); (first | exact r1 | exact d1.below hbB); (first | exact r2 | exact d2.below hbB); rintro e wA ⟨Aa, ca, rfl, ownA, hbA⟩; (first | (have hsA : wB.heap.size ≤ wA.heap.size := hbA.size) | (have hsA : w2.heap.size ≤ wA.heap.size := hbA.size))) | (go_at_call 60; (with_reducible refine (rmenusR_any t b A1 A2 c1 c2 _ ?_ ?_ hok hcb).mono ?_); (first | exact r1 | exact d1.below hbA); (first | exact r2 | exact d2.below hbA); rintro e wB ⟨Ab, cb, rfl, ownB, hbB⟩; (first | (have hsB : wA.heap.size ≤ wB.heap.size := hbB.size) | (have hsB : w2.heap.size ≤ wB.heap.size := hbB.size))))
          · go_wp2_with fail
            go_meet
            exact ⟨Aa, ca, Ab, cb, rfl, rfl, ownA.below hbB, ownB, ((Below.refl w2.heap.size w2).drew.trans hbA).trans (hbB.mono hsA)⟩
        case rest =>
          obtain ⟨Aa, ca, Ab, cb, rfl, rfl, ra, rb, hbx⟩ := hcut
          have hy := hb.trans (hbx.mono hb.size)
          have xx := (hbx.cell (p := ⟨w.heap.size, 0, none⟩) (by show w.heap.size < _; omega)).trans x0
          have ln1 := hok.len1
          have ln2 := hok.len2
          clear x0 x1 x2 y0 y1 y2 z0 z1 z2
          go_wp2
          go_loop [17] (fun z => ∃ k : Nat, k ≤ (mnL t a).length ∧ z = .int .i64 k ∧ Hid (∀ i, i < k → meetB t a b x y i = false)) (fun z => (mnL t a).length - (intOf z).toNat)
          case atStart => exact ⟨0, by omega, rfl, fun i hi => by omega⟩
          case round =>
            obtain ⟨k, hk, rfl, HK⟩ := hrel
            have q0 := HL.out
            have q1 := HL'.out
            by_cases hlt : k < (mnL t a).length
            · have hlt2 : k < (mnL t b).length := by omega
              have hkl : (k : Int) < t.len := by omega
              obtain ⟨ad, rfl, _, e0⟩ := ra.at_ hlt
              obtain ⟨ad', rfl, _, e1⟩ := rb.at_ hlt2
              rw [mnL_at t a k (by omega)] at e0
              rw [mnL_at t b k (by omega)] at e1
              clear q0 q1
              cases m1 : (mnAt t a k == x) with
              | false =>
                have hm : meetB t a b x y k = false := by unfold meetB; rw [m1]; rfl
                have HM := Lib.hid hm
                clear hm
                go_wp2
                go_round
                case rel =>
                  exact ⟨k + 1, by omega, by go_num, fun i hi => by
                    by_cases e : i = k
                    · subst e; exact HM.out
                    · exact HK.out i (by omega)⟩
                case measure => simp [intOf]; omega
              | true =>
                cases m2 : (mnAt t b k == y) with
                | false =>
                  have hm : meetB t a b x y k = false := by unfold meetB; rw [m1, m2]; rfl
                  have HM := Lib.hid hm
                  clear hm
                  go_wp2
                  go_round
                  case rel =>
                    exact ⟨k + 1, by omega, by go_num, fun i hi => by
                      by_cases e : i = k
                      · subst e; exact HM.out
                      · exact HK.out i (by omega)⟩
                  case measure => simp [intOf]; omega
                | true =>
                  have hf := firstTo_some (meetB t a b x y) k (by unfold meetB; rw [m1, m2]; rfl) HK.out t.len.toNat (by have := HL.out; omega)
                  obtain ⟨hRv, hBv⟩ := tog_some H1b.out hf
                  have H2 := Lib.hid (HR.out.trans hRv)
                  have H3 := Lib.hid (HB.out.trans hBv)
                  clear hf hRv hBv
                  go_wp2
                  go_ret3
                  exact ⟨ret3 (by rw [H2.out]; rfl) (by rw [H3.out]; rfl) (by rw [H1.out]; rfl), hy⟩
            · have hkl : t.len ≤ (k : Int) := by omega
              have hf := firstTo_none (meetB t a b x y) t.len.toNat (fun i hi => HK.out i (by omega))
              obtain ⟨hRv, hBv⟩ := tog_none hf
              have H2 := Lib.hid (HR.out.trans hRv)
              have H3 := Lib.hid (HB.out.trans hBv)
              clear hf hRv hBv q0 q1
              go_wp2
              go_ret3
              exact ⟨ret3 (by rw [H2.out]; rfl) (by rw [H3.out]; rfl) (by rw [H1.out]; rfl), hy⟩
    · have h00' : (cE b != 0) = true := by simp [h00]
      have hEv : E = cE b := by rw [HE.out, togE, if_neg (by simp [H0.out]), if_pos h00]
      obtain ⟨hRv, hBv⟩ := tog_no (t := t) (a := a) (b := b) (x := x) (y := y) (by rw [← HE.out, hEv]; exact h00)
      have H1 := Lib.hid hEv
      have H2 := Lib.hid (HR.out.trans hRv)
      have H3 := Lib.hid (HB.out.trans hBv)
      clear hEv hRv hBv h00
      go_wp2
      go_ret3
      exact ⟨ret3 (by rw [H2.out]; rfl) (by rw [H3.out]; rfl) (by rw [H1.out]; rfl), hb⟩
  · have h0' : (bE t a != 0) = true := by simp [h0]
    have hEv : E = bE t a := by rw [HE.out, togE, if_pos h0]
    obtain ⟨hRv, hBv⟩ := tog_no (t := t) (a := a) (b := b) (x := x) (y := y) (by rw [← HE.out, hEv]; exact h0)
    have H1 := Lib.hid hEv
    have H2 := Lib.hid (HR.out.trans hRv)
    have H3 := Lib.hid (HB.out.trans hBv)
    clear hEv hRv hBv h0
    go_wp2
    go_ret3
    exact ⟨ret3 (by rw [H2.out]; rfl) (by rw [H3.out]; rfl) (by rw [H1.out]; rfl), hb⟩

end Go.Proofs.Ytecjmpaomebdbaa
