/-
  Walks: the days of a menu, how often each menu is served, how many are lost.
-/
import Derived.Test.YtecjmpaomebdbaaN
namespace Go.Proofs.Ytecjmpaomebdbaa
set_option linter.unusedVariables false
set_option linter.unusedSimpArgs false
open Go.RowKit

/-! ### plain -/
def daysTo (t : Tm) (c : Cy) (m : Int) : Nat → List Int
  | 0 => []
  | k + 1 => if mnAt t c k == m then daysTo t c m k ++ [(k : Int)] else daysTo t c m k
theorem daysTo_yes {t : Tm} {c : Cy} {m : Int} {k : Nat} (h : (mnAt t c k == m) = true) : daysTo t c m (k + 1) = daysTo t c m k ++ [(k : Int)] := by simp only [daysTo]; rw [if_pos h]
theorem daysTo_no {t : Tm} {c : Cy} {m : Int} {k : Nat} (h : (mnAt t c k == m) = false) : daysTo t c m (k + 1) = daysTo t c m k := by simp only [daysTo]; rw [if_neg (by rw [h]; simp)]
theorem daysTo_len (t : Tm) (c : Cy) (m : Int) (k : Nat) : (daysTo t c m k).length = cnt (fun d => mnAt t c d == m) k := by
  induction k with
  | zero => rfl
  | succ k ih =>
    cases h : (mnAt t c k == m) with
    | true => rw [daysTo_yes h, cnt_yes _ _ h, List.length_append, ih]; rfl
    | false => rw [daysTo_no h, cnt_no _ _ h, ih]
theorem daysTo_le (t : Tm) (c : Cy) (m : Int) (k : Nat) : (daysTo t c m k).length ≤ k := by rw [daysTo_len]; exact cnt_le _ _
def daysE (t : Tm) (c : Cy) (m : Int) : Int := if bE t c ≠ 0 then bE t c else if inB m 0 (c.n - 1) then 0 else 1
def daysR (t : Tm) (c : Cy) (m : Int) : List Int := if daysE t c m = 0 then daysTo t c m t.len.toNat else []
def svTo (t : Tm) (c : Cy) (n k : Nat) : List Int := (List.range n).map fun (m : Nat) => ((cnt (fun d => mnAt t c d == (m : Int)) k : Nat) : Int)
theorem svTo_zero (t : Tm) (c : Cy) (n : Nat) : svTo t c n 0 = List.replicate n 0 := by
  rw [List.eq_replicate_iff]
  refine ⟨by simp [svTo], fun b hb => ?_⟩
  obtain ⟨d, _, rfl⟩ := List.mem_map.1 hb
  simp [cnt]
theorem svTo_length (t : Tm) (c : Cy) (n k : Nat) : (svTo t c n k).length = n := by simp [svTo]
theorem svTo_at (t : Tm) (c : Cy) (n k m : Nat) (h : m < n) : gi (svTo t c n k) m = ((cnt (fun d => mnAt t c d == (m : Int)) k : Nat) : Int) := by simp [gi, svTo, h]
theorem svTo_skip {t : Tm} {c : Cy} {n k : Nat} (h : mnAt t c k < 0) : svTo t c n (k + 1) = svTo t c n k := by
  unfold svTo
  apply List.map_congr_left
  intro m _
  rw [cnt_no _ _ (by rw [beq_eq_false_iff_ne]; omega)]
theorem svTo_more {t : Tm} {c : Cy} {n k m : Nat} (hm : m < n) (h : mnAt t c k = m) : (svTo t c n k).set m (((cnt (fun d => mnAt t c d == (m : Int)) k : Nat) : Int) + 1) = svTo t c n (k + 1) := by
  apply List.ext_getElem
  · simp [svTo]
  · intro j h1 h2
    have hj : j < n := by simpa [svTo] using h2
    rw [List.getElem_set]
    by_cases e : m = j
    · subst e
      rw [if_pos rfl]
      simp only [svTo, List.getElem_map, List.getElem_range]
      rw [cnt_yes _ _ (by rw [h]; simp)]; simp
    · rw [if_neg e]
      simp only [svTo, List.getElem_map, List.getElem_range]
      rw [cnt_no (fun d => mnAt t c d == (j : Int)) k (by simp only [h]; rw [beq_eq_false_iff_ne]; omega)]
def servedR (t : Tm) (c : Cy) : List Int := if bE t c = 0 then svTo t c c.n.toNat t.len.toNat else []
def lostP (t : Tm) (c : Cy) (i : Nat) : Bool := (c.k == 1) && wkB t (gi t.clo i)
def lostR (t : Tm) (c : Cy) : Int := if bE t c = 0 then (cnt (lostP t c) t.clo.length : Nat) else 0
theorem lost_waits {t : Tm} {c : Cy} (h : (c.k == 1) = false) (k : Nat) : cnt (lostP t c) k = 0 := by
  induction k with
  | zero => rfl
  | succ k ih => rw [cnt_no _ _ (by unfold lostP; rw [h]; rfl), ih]
def RetIn (w0 : World) (L : List Int) (er : Int) (e : Ending) (w' : World) : Prop :=
  ∃ A c, e = .returned (.tuple #[.slice A L.length c, .int .i64 er]) ∧ OwnN w' w0.heap.size A c L ∧ Below w0.heap.size w0 w'
theorem made_zero {w : World} {base g n : Nat} (h : w.ownsRow base 3 1 (.slice (some ⟨g, 0, none⟩) n n) n (madeCells (Value.int .i64 0).cells (n * 1)).toList) : OwnI w base g n (List.replicate n 0) :=
  ⟨List.length_replicate, by rw [← madeInts]; exact h⟩

set_option maxRecDepth 100000 in
set_option maxHeartbeats 3200000 in
theorem days_any (m : Int) (c : Cy) (t : Tm) (A1 A2 : Option Addr) (c1 c2 : Nat) (w : World) (h1 : RN w A1 t.rest) (h2 : RN w A2 t.clo) (hl1 : t.rest.length ≤ 1000000000) (hl2 : t.clo.length ≤ 1000000000) :
    Calls Try.prog 25 #[.agg #[.int .i64 t.len, .slice A1 t.rest.length c1, .slice A2 t.clo.length c2], .agg #[.int .i64 c.n, .int .i64 c.f, .int .i64 c.k], .int .i64 m] w (RetIn w (daysR t c m) (daysE t c m)) := by
  obtain ⟨E, hE⟩ : ∃ E, E = daysE t c m := ⟨_, rfl⟩
  obtain ⟨R, hR⟩ : ∃ R, R = daysR t c m := ⟨_, rfl⟩
  rw [← hE, ← hR]
  have HE := Lib.hid hE
  have HR := Lib.hid hR
  clear hE hR
  have hy : Below w.heap.size w ((w.alloc (.cells #[.int .i64 t.len, .slice A1 t.rest.length c1, .slice A2 t.clo.length c2] 24)).alloc (.cells #[.int .i64 c.n, .int .i64 c.f, .int .i64 c.k] 26)) := ((Below.refl _ _).alloc (Nat.le_refl _) _).alloc (by simp) _
  have b0 : Box ((w.alloc (.cells #[.int .i64 t.len, .slice A1 t.rest.length c1, .slice A2 t.clo.length c2] 24)).alloc (.cells #[.int .i64 c.n, .int .i64 c.f, .int .i64 c.k] 26)) w.heap.size #[.int .i64 t.len, .slice A1 t.rest.length c1, .slice A2 t.clo.length c2] := (Box.new w _ _).alloc _
  have b1 : Box ((w.alloc (.cells #[.int .i64 t.len, .slice A1 t.rest.length c1, .slice A2 t.clo.length c2] 24)).alloc (.cells #[.int .i64 c.n, .int .i64 c.f, .int .i64 c.k] 26)) (w.heap.size + 1) #[.int .i64 c.n, .int .i64 c.f, .int .i64 c.k] := (Box.new (w.alloc (.cells #[.int .i64 t.len, .slice A1 t.rest.length c1, .slice A2 t.clo.length c2] 24)) _ _).at' (by simp)
  replace h1 := h1.below hy
  replace h2 := h2.below hy
  go_enter Try.func25, Try.ntmps25
  go_wp2_with fail
  refine (both_any c t A1 A2 c1 c2 _ h1 h2 hl1 hl2).mono ?_
  rintro e w1 ⟨rfl, hb1⟩
  replace b0 := b0.below hb1; replace b1 := b1.below hb1; replace h1 := h1.below hb1; replace h2 := h2.below hb1; replace hy := hy.trans (hb1.mono hy.size)
  clear hb1
  by_cases h0 : bE t c = 0
  · have h0' : (bE t c != 0) = false := by simp [h0]
    obtain ⟨hok, hcy⟩ := bE_ok h0
    have hEm : E = if inB m 0 (c.n - 1) then 0 else 1 := by rw [HE.out, daysE, if_neg (by simp [h0])]
    have HEM := Lib.hid hEm
    have n1 := hcy.n1
    have n2 := hcy.n2
    have ln1 := hok.len1
    have ln2 := hok.len2
    clear h0 hEm
    by_cases q : m < 0
    · skip
      have hEv : E = 1 := by rw [HEM.out, inB_false.2 (show ¬ (0 ≤ m ∧ m ≤ c.n - 1) by omega)]; rfl
      have hRv : R = [] := by rw [HR.out, daysR, if_neg (by rw [← HE.out, hEv]; decide)]
      have H1 := Lib.hid hEv
      have H2 := Lib.hid hRv
      clear hEv hRv
      have xx0 := b0.cell; have nn0 := b0.lt; have xx1 := b1.cell; have nn1 := b1.lt
      go_wp2_with fail
      clear xx0 nn0 xx1 nn1
      go_ret2
      exact ⟨none, 0, ret2 (by rw [H2.out]; rfl) (by rw [H1.out]; rfl), by rw [H2.out]; exact World.ownsRow_nil _ _ _ _, hy⟩
    have q0 := q
    clear q
    by_cases q : c.n ≤ m
    · skip
      have hEv : E = 1 := by rw [HEM.out, inB_false.2 (show ¬ (0 ≤ m ∧ m ≤ c.n - 1) by omega)]; rfl
      have hRv : R = [] := by rw [HR.out, daysR, if_neg (by rw [← HE.out, hEv]; decide)]
      have H1 := Lib.hid hEv
      have H2 := Lib.hid hRv
      clear hEv hRv
      have xx0 := b0.cell; have nn0 := b0.lt; have xx1 := b1.cell; have nn1 := b1.lt
      go_wp2_with fail
      clear xx0 nn0 xx1 nn1
      go_ret2
      exact ⟨none, 0, ret2 (by rw [H2.out]; rfl) (by rw [H1.out]; rfl), by rw [H2.out]; exact World.ownsRow_nil _ _ _ _, hy⟩
    have q1 := q
    clear q
    have hEv : E = 0 := by rw [HEM.out, inB_true.2 (show 0 ≤ m ∧ m ≤ c.n - 1 by omega)]; rfl
    have hRv : R = daysTo t c m t.len.toNat := by rw [HR.out, daysR, if_pos (by rw [← HE.out, hEv])]
    have H1 := Lib.hid hEv
    have H2 := Lib.hid hRv
    have hml := mnL_length t c
    have HML := Lib.hid hml
    clear hEv hRv hml
    have xx0 := b0.cell; have nn0 := b0.lt; have xx1 := b1.cell; have nn1 := b1.lt
    go_wp2_with fail
    clear xx0 nn0 xx1 nn1
    refine (menusR_any t c A1 A2 c1 c2 _ h1 h2 hok hcy).mono ?_
    rintro e w2 ⟨Am, cm, rfl, hrn, hb2⟩
    replace hy := hy.trans (hb2.mono hy.size)
    have hz := hy.size
    clear b0 b1 h1 h2 hb2
    go_wp2
    go_loopw [9, 30] (fun o x wr => ∃ k : Nat, k ≤ (mnL t c).length ∧ x = .int .i64 k ∧ ∃ A c', o = .slice A (daysTo t c m k).length c' ∧ OwnN wr w2.heap.size A c' (daysTo t c m k) ∧ Below w2.heap.size w2 wr) (fun _ x _ => (mnL t c).length - (intOf x).toNat)
    case atStart => exact ⟨0, by omega, rfl, none, 0, rfl, World.ownsRow_nil _ _ _ _, Below.refl _ _⟩
    case round =>
      obtain ⟨k, hk, rfl, A, c', rfl, own, hbl⟩ := hrel
      by_cases hlt : k < (mnL t c).length
      · have hq := HML.out
        obtain ⟨ad, rfl, hab, e0⟩ := (hrn.below hbl).at_ hlt
        rw [mnL_at t c k (by omega)] at e0
        have hll := daysTo_le t c m k
        have hkb : k < 1000 := by omega
        have hbs := hbl.size
        clear hq
        cases hq : (mnAt t c k == m) with
        | true =>
          have hs := daysTo_yes hq
          have HS := Lib.hid hs
          clear hs
          go_wp2_with (at_builtin; refine wpList_app1 rfl _ _ rfl Try.underlying22 info_int rfl (by omega) rfl own rfl rfl (by simp [Value.oneCell']) (by omega) (by omega) (by omega) ?_; intro A' c'' w3 own3 hb3)
          go_roundw
          case rel => exact ⟨k + 1, by omega, by go_num, A', c'', by rw [HS.out, List.length_append]; rfl, OwnN.snoc own3 rfl HS.out, hbl.trans (hb3 _ (Nat.le_refl _))⟩
          case measure => simp [intOf]; omega
        | false =>
          have hs := daysTo_no hq
          have HS := Lib.hid hs
          clear hs
          go_wp2
          go_roundw
          case rel => exact ⟨k + 1, by omega, by go_num, A, c', by rw [HS.out], by rw [HS.out]; exact own, hbl⟩
          case measure => simp [intOf]; omega
      · have hkl : k = t.len.toNat := by have := HML.out; omega
        have HKL := Lib.hid hkl
        clear hkl
        go_wp2
        go_ret2
        exact ⟨A, c', ret2 (by rw [H2.out, ← HKL.out]; rfl) (by rw [H1.out]; rfl), by rw [H2.out, ← HKL.out]; exact own_base own hz, hy.trans (hbl.mono hz)⟩
  · have h0' : (bE t c != 0) = true := by simp [h0]
    have hEv : E = bE t c := by rw [HE.out, daysE, if_pos h0]
    have hRv : R = [] := by rw [HR.out, daysR, if_neg (by rw [← HE.out, hEv]; exact h0)]
    have H1 := Lib.hid hEv
    have H2 := Lib.hid hRv
    clear hEv hRv h0
    go_wp2
    go_ret2
    exact ⟨none, 0, ret2 (by rw [H2.out]; rfl) (by rw [H1.out]; rfl), by rw [H2.out]; exact World.ownsRow_nil _ _ _ _, hy⟩

set_option maxRecDepth 100000 in
set_option maxHeartbeats 3200000 in
theorem rdays_any (m : Int) (c : Cy) (t : Tm) (A1 A2 : Option Addr) (c1 c2 : Nat) (w : World) (h1 : RN w A1 t.rest) (h2 : RN w A2 t.clo) (hl1 : t.rest.length ≤ 1000000000) (hl2 : t.clo.length ≤ 1000000000) :
    Calls Try.prog 43 #[.agg #[.int .i64 t.len, .slice A1 t.rest.length c1, .slice A2 t.clo.length c2], .agg #[.int .i64 c.n, .int .i64 c.f, .int .i64 c.k], .int .i64 m] w (RetIn w (daysR t c m) (daysE t c m)) := by
  obtain ⟨E, hE⟩ : ∃ E, E = daysE t c m := ⟨_, rfl⟩
  obtain ⟨R, hR⟩ : ∃ R, R = daysR t c m := ⟨_, rfl⟩
  rw [← hE, ← hR]
  have HE := Lib.hid hE
  have HR := Lib.hid hR
  clear hE hR
  have hy : Below w.heap.size w ((w.alloc (.cells #[.int .i64 t.len, .slice A1 t.rest.length c1, .slice A2 t.clo.length c2] 24)).alloc (.cells #[.int .i64 c.n, .int .i64 c.f, .int .i64 c.k] 26)) := ((Below.refl _ _).alloc (Nat.le_refl _) _).alloc (by simp) _
  have b0 : Box ((w.alloc (.cells #[.int .i64 t.len, .slice A1 t.rest.length c1, .slice A2 t.clo.length c2] 24)).alloc (.cells #[.int .i64 c.n, .int .i64 c.f, .int .i64 c.k] 26)) w.heap.size #[.int .i64 t.len, .slice A1 t.rest.length c1, .slice A2 t.clo.length c2] := (Box.new w _ _).alloc _
  have b1 : Box ((w.alloc (.cells #[.int .i64 t.len, .slice A1 t.rest.length c1, .slice A2 t.clo.length c2] 24)).alloc (.cells #[.int .i64 c.n, .int .i64 c.f, .int .i64 c.k] 26)) (w.heap.size + 1) #[.int .i64 c.n, .int .i64 c.f, .int .i64 c.k] := (Box.new (w.alloc (.cells #[.int .i64 t.len, .slice A1 t.rest.length c1, .slice A2 t.clo.length c2] 24)) _ _).at' (by simp)
  replace h1 := h1.below hy
  replace h2 := h2.below hy
  go_enter Try.func43, Try.ntmps43
  go_wp2_with fail
  refine (rboth_any c t A1 A2 c1 c2 _ h1 h2 hl1 hl2).mono ?_
  rintro e w1 ⟨rfl, hb1⟩
  replace b0 := b0.below hb1; replace b1 := b1.below hb1; replace h1 := h1.below hb1; replace h2 := h2.below hb1; replace hy := hy.trans (hb1.mono hy.size)
  clear hb1
  by_cases h0 : bE t c = 0
  · have h0' : (bE t c != 0) = false := by simp [h0]
    obtain ⟨hok, hcy⟩ := bE_ok h0
    have hEm : E = if inB m 0 (c.n - 1) then 0 else 1 := by rw [HE.out, daysE, if_neg (by simp [h0])]
    have HEM := Lib.hid hEm
    have n1 := hcy.n1
    have n2 := hcy.n2
    have ln1 := hok.len1
    have ln2 := hok.len2
    clear h0 hEm
    cases hi : inB m 0 (c.n - 1) with
    | false =>
      have hEv : E = 1 := by rw [HEM.out, hi]; rfl
      have hRv : R = [] := by rw [HR.out, daysR, if_neg (by rw [← HE.out, hEv]; decide)]
      have H1 := Lib.hid hEv
      have H2 := Lib.hid hRv
      clear hEv hRv
      have xx0 := b0.cell; have nn0 := b0.lt; have xx1 := b1.cell; have nn1 := b1.lt
      go_wp2_with (go_at_call 58; refine (within_any _ _ _ _).mono ?_; rintro e w' ⟨rfl, hw'⟩; subst hw')
      clear xx0 nn0 xx1 nn1
      go_ret2
      exact ⟨none, 0, ret2 (by rw [H2.out]; rfl) (by rw [H1.out]; rfl), by rw [H2.out]; exact World.ownsRow_nil _ _ _ _, hy⟩
    | true =>
      have hEv : E = 0 := by rw [HEM.out, hi]; rfl
      have hRv : R = daysTo t c m t.len.toNat := by rw [HR.out, daysR, if_pos (by rw [← HE.out, hEv])]
      have H1 := Lib.hid hEv
      have H2 := Lib.hid hRv
      have hml := mnL_length t c
      have HML := Lib.hid hml
      clear hEv hRv hml
      have xx0 := b0.cell; have nn0 := b0.lt; have xx1 := b1.cell; have nn1 := b1.lt
      go_wp2_with (go_at_call 58; refine (within_any _ _ _ _).mono ?_; rintro e w' ⟨rfl, hw'⟩; have hw'' := hw'.symm; clear hw'; subst hw'')
      clear xx0 nn0 xx1 nn1
      refine (rmenusR_any t c A1 A2 c1 c2 _ h1 h2 hok hcy).mono ?_
      rintro e w2 ⟨Am, cm, rfl, hrn, hb2⟩
      replace hy := hy.trans (hb2.mono hy.size)
      have hz := hy.size
      clear b0 b1 h1 h2 hb2
      go_wp2
      go_loopw [9, 11] (fun o x wr => ∃ k : Nat, k ≤ (mnL t c).length ∧ x = .int .i64 k ∧ ∃ A c', o = .slice A (daysTo t c m k).length c' ∧ OwnN wr w2.heap.size A c' (daysTo t c m k) ∧ Below w2.heap.size w2 wr) (fun _ x _ => (mnL t c).length - (intOf x).toNat)
      case atStart => exact ⟨0, by omega, rfl, none, 0, rfl, World.ownsRow_nil _ _ _ _, Below.refl _ _⟩
      case round =>
        obtain ⟨k, hk, rfl, A, c', rfl, own, hbl⟩ := hrel
        by_cases hlt : k < (mnL t c).length
        · have hq := HML.out
          obtain ⟨ad, rfl, hab, e0⟩ := (hrn.below hbl).at_ hlt
          rw [mnL_at t c k (by omega)] at e0
          have hll := daysTo_le t c m k
          have hkb : k < 1000 := by omega
          have hbs := hbl.size
          clear hq
          cases hq : (mnAt t c k == m) with
          | true =>
            have hs := daysTo_yes hq
            have HS := Lib.hid hs
            clear hs
            go_wp2_with (at_builtin; refine wpList_app1 rfl _ _ rfl Try.underlying22 info_int rfl (by omega) rfl own rfl rfl (by simp [Value.oneCell']) (by omega) (by omega) (by omega) ?_; intro A' c'' w3 own3 hb3)
            go_roundw
            case rel => exact ⟨k + 1, by omega, by go_num, A', c'', by rw [HS.out, List.length_append]; rfl, OwnN.snoc own3 rfl HS.out, hbl.trans (hb3 _ (Nat.le_refl _))⟩
            case measure => simp [intOf]; omega
          | false =>
            have hs := daysTo_no hq
            have HS := Lib.hid hs
            clear hs
            go_wp2
            go_roundw
            case rel => exact ⟨k + 1, by omega, by go_num, A, c', by rw [HS.out], by rw [HS.out]; exact own, hbl⟩
            case measure => simp [intOf]; omega
        · have hkl : k = t.len.toNat := by have := HML.out; omega
          have HKL := Lib.hid hkl
          clear hkl
          go_wp2
          go_ret2
          exact ⟨A, c', ret2 (by rw [H2.out, ← HKL.out]; rfl) (by rw [H1.out]; rfl), by rw [H2.out, ← HKL.out]; exact own_base own hz, hy.trans (hbl.mono hz)⟩
  · have h0' : (bE t c != 0) = true := by simp [h0]
    have hEv : E = bE t c := by rw [HE.out, daysE, if_pos h0]
    have hRv : R = [] := by rw [HR.out, daysR, if_neg (by rw [← HE.out, hEv]; exact h0)]
    have H1 := Lib.hid hEv
    have H2 := Lib.hid hRv
    clear hEv hRv h0
    go_wp2
    go_ret2
    exact ⟨none, 0, ret2 (by rw [H2.out]; rfl) (by rw [H1.out]; rfl), by rw [H2.out]; exact World.ownsRow_nil _ _ _ _, hy⟩


end Go.Proofs.Ytecjmpaomebdbaa
