/-
  Walks: how often each menu is served, how many are lost.
-/
import Derived.Test.YtecjmpaomebdbaaO
namespace Go.Proofs.Ytecjmpaomebdbaa
set_option linter.unusedVariables false
set_option linter.unusedSimpArgs false
open Go.RowKit

theorem menusB_any (t : Tm) (c : Cy) (A1 A2 : Option Addr) (c1 c2 : Nat) (w : World) (h1 : RN w A1 t.rest) (h2 : RN w A2 t.clo) (hok : TmOk t) (hcy : CyOk c) :
    Calls Try.prog 56 #[.agg #[.int .i64 t.len, .slice A1 t.rest.length c1, .slice A2 t.clo.length c2], .agg #[.int .i64 c.n, .int .i64 c.f, .int .i64 c.k]] w fun e w' => ∃ A c', e = .returned (.slice A (mnL t c).length c') ∧ RN w' A (mnL t c) ∧ (∀ ad, A = some ad → w.heap.size ≤ ad.block) ∧ Below w.heap.size w w' :=
  (menus_any t c A1 A2 c1 c2 w h1 h2 hok hcy).mono fun e w' ⟨g, n, he, own, hb⟩ => ⟨some ⟨g, 0, none⟩, n, by rw [own.1]; exact he, RN.of_own own.own, (fun ad e => by injection e with e; subst e; exact own.lt.1), hb⟩
theorem rmenusB_any (t : Tm) (c : Cy) (A1 A2 : Option Addr) (c1 c2 : Nat) (w : World) (h1 : RN w A1 t.rest) (h2 : RN w A2 t.clo) (hok : TmOk t) (hcy : CyOk c) :
    Calls Try.prog 60 #[.agg #[.int .i64 t.len, .slice A1 t.rest.length c1, .slice A2 t.clo.length c2], .agg #[.int .i64 c.n, .int .i64 c.f, .int .i64 c.k]] w fun e w' => ∃ A c', e = .returned (.slice A (mnL t c).length c') ∧ RN w' A (mnL t c) ∧ (∀ ad, A = some ad → w.heap.size ≤ ad.block) ∧ Below w.heap.size w w' :=
  (rmenus_any t c A1 A2 c1 c2 w h1 h2 hok hcy).mono fun e w' ⟨A, n, c', he, hn, own, hb⟩ => ⟨A, c', by rw [← hn]; exact he, RN.of_own own, (fun ad e => by
    subst e
    rcases own.2 with ⟨h, _⟩ | ⟨g, cap, cur, h, hbg, _⟩
    · injection h with h; cases h
    · injection h with h; injection h with h; subst h; exact hbg), hb⟩
theorem RN.far {w : World} {A : Option Addr} {l : List Int} (h : RN w A l) {p : Addr} (hp : ∀ ad, A = some ad → ad.block ≠ p.block) (v : Value) : RN (w.setCell p v) A l := by
  refine ⟨h.1, fun hn => ?_⟩
  obtain ⟨ad, e, hb, hc⟩ := h.2 hn
  refine ⟨ad, e, by simpa [World.setCell] using hb, fun j u hu => ?_⟩
  rw [World.cell?_setCell_other _ _ _ _ (fun e2 => hp ad e (by rw [← block_of_add ad j, ← e2]))]
  exact hc j u hu

set_option maxRecDepth 100000 in
set_option maxHeartbeats 3200000 in
theorem served_any (c : Cy) (t : Tm) (A1 A2 : Option Addr) (c1 c2 : Nat) (w : World) (h1 : RN w A1 t.rest) (h2 : RN w A2 t.clo) (hl1 : t.rest.length ≤ 1000000000) (hl2 : t.clo.length ≤ 1000000000) :
    Calls Try.prog 42 #[.agg #[.int .i64 t.len, .slice A1 t.rest.length c1, .slice A2 t.clo.length c2], .agg #[.int .i64 c.n, .int .i64 c.f, .int .i64 c.k]] w (RetIn w (servedR t c) (bE t c)) := by
  obtain ⟨R, hR⟩ : ∃ R, R = servedR t c := ⟨_, rfl⟩
  rw [← hR]
  have HR := Lib.hid hR
  clear hR
  obtain ⟨i0, hi0, hz0, hz1, hz2⟩ := info_parts info_int
  have hy : Below w.heap.size w ((w.alloc (.cells #[.int .i64 t.len, .slice A1 t.rest.length c1, .slice A2 t.clo.length c2] 24)).alloc (.cells #[.int .i64 c.n, .int .i64 c.f, .int .i64 c.k] 26)) := ((Below.refl _ _).alloc (Nat.le_refl _) _).alloc (by simp) _
  have b0 : Box ((w.alloc (.cells #[.int .i64 t.len, .slice A1 t.rest.length c1, .slice A2 t.clo.length c2] 24)).alloc (.cells #[.int .i64 c.n, .int .i64 c.f, .int .i64 c.k] 26)) w.heap.size #[.int .i64 t.len, .slice A1 t.rest.length c1, .slice A2 t.clo.length c2] := (Box.new w _ _).alloc _
  have b1 : Box ((w.alloc (.cells #[.int .i64 t.len, .slice A1 t.rest.length c1, .slice A2 t.clo.length c2] 24)).alloc (.cells #[.int .i64 c.n, .int .i64 c.f, .int .i64 c.k] 26)) (w.heap.size + 1) #[.int .i64 c.n, .int .i64 c.f, .int .i64 c.k] := (Box.new (w.alloc (.cells #[.int .i64 t.len, .slice A1 t.rest.length c1, .slice A2 t.clo.length c2] 24)) _ _).at' (by simp)
  replace h1 := h1.below hy
  replace h2 := h2.below hy
  go_enter Try.func42, Try.ntmps42
  go_wp2_with fail
  refine (both_any c t A1 A2 c1 c2 _ h1 h2 hl1 hl2).mono ?_
  rintro e w1 ⟨rfl, hb1⟩
  replace b0 := b0.below hb1; replace b1 := b1.below hb1; replace h1 := h1.below hb1; replace h2 := h2.below hb1; replace hy := hy.trans (hb1.mono hy.size)
  clear hb1
  by_cases h0 : bE t c = 0
  · have h0' : (bE t c != 0) = false := by simp [h0]
    obtain ⟨hok, hcy⟩ := bE_ok h0
    obtain ⟨M, hM⟩ : ∃ M : Nat, c.n = M := ⟨c.n.toNat, by have := hcy.n1; omega⟩
    have hRv : R = svTo t c M t.len.toNat := by rw [HR.out, servedR, if_pos h0, hM]; rfl
    have H0 := Lib.hid h0
    have H2 := Lib.hid hRv
    have HM := Lib.hid hM
    have n1 := hcy.n1
    have n2 := hcy.n2
    have mb : M ≤ 40 := by omega
    have ln1 := hok.len1
    have ln2 := hok.len2
    have hml := mnL_length t c
    have HML := Lib.hid hml
    clear h0 hRv hM hml
    have xx0 := b0.cell; have nn0 := b0.lt; have xx1 := b1.cell; have nn1 := b1.lt
    go_wp2_with (at_make; refine wpList_make_full _ rfl _ _ 22 rfl w1.heap.size 3 i0 _ 1 Try.underlying22 hi0 hz0 hz1 .i64 .i64 _ _ M rfl rfl HM.out HM.out (by rw [hz2]; omega) (by unfold maxLen; omega) (Nat.le_refl _) ?_; intro w2 hown hg; have hb2 : Below w1.heap.size w1 w2 := (Below.refl _ _).grown hg (Nat.le_refl _) (by simp); have own := made_zero hown; clear hown hg xx0 xx1 nn0 nn1; replace b0 := b0.below hb2; replace b1 := b1.below hb2; have xx0 := b0.cell; have xx1 := b1.cell; have nn0 := b0.lt; have nn1 := b1.lt)
    clear xx0 nn0 xx1 nn1
    replace h1 := h1.below hb2
    replace h2 := h2.below hb2
    have hy2 := hy.trans (hb2.mono hy.size)
    have hzz := own.lt.2
    refine (menusB_any t c A1 A2 c1 c2 _ h1 h2 hok hcy).mono ?_
    rintro e w3 ⟨Am, cm, rfl, hrn, hlo, hb3⟩
    replace hy2 := hy2.trans (hb3.mono hy2.size)
    replace own := own.kept hb3 hzz
    have hfar : ∀ ad, Am = some ad → ad.block ≠ w1.heap.size := fun ad e => by have := hlo ad e; omega
    have HFAR := Lib.hid hfar
    clear b0 b1 h1 h2 hb2 hb3 hlo hfar
    go_wp2
    go_loopw [23] (fun x wr => ∃ k : Nat, k ≤ (mnL t c).length ∧ x = .int .i64 k ∧ OwnI wr w1.heap.size w1.heap.size M (svTo t c M k) ∧ RN wr Am (mnL t c) ∧ Below w1.heap.size w3 wr) (fun x _ => (mnL t c).length - (intOf x).toNat)
    case atStart => exact ⟨0, by omega, rfl, own.cast (svTo_zero t c M).symm, hrn, Below.refl _ _⟩
    case round =>
      clear own hrn
      obtain ⟨k, hk, rfl, own, hrn, hbl⟩ := hrel
      by_cases hlt : k < (mnL t c).length
      · have hq := HML.out
        obtain ⟨ad, rfl, hab, e0⟩ := hrn.at_ hlt
        rw [mnL_at t c k (by omega)] at e0
        have hkb : k < 1000 := by omega
        have hmb := mnAt_bd (t := t) hcy k
        clear hq
        by_cases hneg : mnAt t c k < 0
        · have hs := svTo_skip (n := M) hneg
          have HS := Lib.hid hs
          clear hs
          go_wp2
          go_roundw
          case rel => exact ⟨k + 1, by omega, by go_num, own.cast HS.out.symm, hrn, hbl⟩
          case measure => simp [intOf]; omega
        · obtain ⟨mm, hmm⟩ := Int.eq_ofNat_of_zero_le (show 0 ≤ mnAt t c k by omega)
          have hmM : mm < M := by have := HM.out; omega
          have hcb := cnt_le (fun d => mnAt t c d == (mm : Int)) k
          have f1 := own.cell mm hmM
          have f2 := own.frozen mm
          rw [svTo_at t c M k mm hmM] at f1
          rw [hmm] at e0
          have own2 := (own.stored mm (((cnt (fun d => mnAt t c d == (mm : Int)) k : Nat) : Int) + 1)).cast (svTo_more hmM hmm)
          obtain ⟨C, hC⟩ : ∃ C, C = cnt (fun d => mnAt t c d == (mm : Int)) k := ⟨_, rfl⟩
          rw [← hC] at f1 hcb own2
          clear hmm hmb own hC hneg
          go_wp2
          go_roundw
          case rel => exact ⟨k + 1, by omega, by go_num, own2, hrn.far (fun ad e => HFAR.out ad e) _, hbl.setCell (Nat.le_refl _) _⟩
          case measure => simp [intOf]; omega
      · have hkl : k = t.len.toNat := by have := HML.out; omega
        have HKL := Lib.hid hkl
        have hol := svTo_length t c M t.len.toNat
        have HOL := Lib.hid hol
        clear hkl hol
        go_wp2
        go_ret2
        exact ⟨some ⟨w1.heap.size, 0, none⟩, M, ret2 (by rw [H2.out, HOL.out]; rfl) (by rw [H0.out]; rfl), by rw [H2.out, ← HKL.out]; exact (own.base hy.size).own, hy2.trans (hbl.mono hy.size)⟩
  · have h0' : (bE t c != 0) = true := by simp [h0]
    have hRv : R = [] := by rw [HR.out, servedR, if_neg h0]
    have H2 := Lib.hid hRv
    clear hRv h0
    go_wp2
    go_ret2
    exact ⟨none, 0, ret2 (by rw [H2.out]; rfl) rfl, by rw [H2.out]; exact World.ownsRow_nil _ _ _ _, hy⟩

set_option maxRecDepth 100000 in
set_option maxHeartbeats 3200000 in
theorem rserved_any (c : Cy) (t : Tm) (A1 A2 : Option Addr) (c1 c2 : Nat) (w : World) (h1 : RN w A1 t.rest) (h2 : RN w A2 t.clo) (hl1 : t.rest.length ≤ 1000000000) (hl2 : t.clo.length ≤ 1000000000) :
    Calls Try.prog 44 #[.agg #[.int .i64 t.len, .slice A1 t.rest.length c1, .slice A2 t.clo.length c2], .agg #[.int .i64 c.n, .int .i64 c.f, .int .i64 c.k]] w (RetIn w (servedR t c) (bE t c)) := by
  obtain ⟨R, hR⟩ : ∃ R, R = servedR t c := ⟨_, rfl⟩
  rw [← hR]
  have HR := Lib.hid hR
  clear hR
  obtain ⟨i0, hi0, hz0, hz1, hz2⟩ := info_parts info_int
  have hy : Below w.heap.size w ((w.alloc (.cells #[.int .i64 t.len, .slice A1 t.rest.length c1, .slice A2 t.clo.length c2] 24)).alloc (.cells #[.int .i64 c.n, .int .i64 c.f, .int .i64 c.k] 26)) := ((Below.refl _ _).alloc (Nat.le_refl _) _).alloc (by simp) _
  have b0 : Box ((w.alloc (.cells #[.int .i64 t.len, .slice A1 t.rest.length c1, .slice A2 t.clo.length c2] 24)).alloc (.cells #[.int .i64 c.n, .int .i64 c.f, .int .i64 c.k] 26)) w.heap.size #[.int .i64 t.len, .slice A1 t.rest.length c1, .slice A2 t.clo.length c2] := (Box.new w _ _).alloc _
  have b1 : Box ((w.alloc (.cells #[.int .i64 t.len, .slice A1 t.rest.length c1, .slice A2 t.clo.length c2] 24)).alloc (.cells #[.int .i64 c.n, .int .i64 c.f, .int .i64 c.k] 26)) (w.heap.size + 1) #[.int .i64 c.n, .int .i64 c.f, .int .i64 c.k] := (Box.new (w.alloc (.cells #[.int .i64 t.len, .slice A1 t.rest.length c1, .slice A2 t.clo.length c2] 24)) _ _).at' (by simp)
  replace h1 := h1.below hy
  replace h2 := h2.below hy
  go_enter Try.func44, Try.ntmps44
  go_wp2_with fail
  refine (rboth_any c t A1 A2 c1 c2 _ h1 h2 hl1 hl2).mono ?_
  rintro e w1 ⟨rfl, hb1⟩
  replace b0 := b0.below hb1; replace b1 := b1.below hb1; replace h1 := h1.below hb1; replace h2 := h2.below hb1; replace hy := hy.trans (hb1.mono hy.size)
  clear hb1
  by_cases h0 : bE t c = 0
  · have h0' : (bE t c != 0) = false := by simp [h0]
    obtain ⟨hok, hcy⟩ := bE_ok h0
    obtain ⟨M, hM⟩ : ∃ M : Nat, c.n = M := ⟨c.n.toNat, by have := hcy.n1; omega⟩
    have hRv : R = svTo t c M t.len.toNat := by rw [HR.out, servedR, if_pos h0, hM]; rfl
    have H0 := Lib.hid h0
    have H2 := Lib.hid hRv
    have HM := Lib.hid hM
    have n1 := hcy.n1
    have n2 := hcy.n2
    have mb : M ≤ 40 := by omega
    have ln1 := hok.len1
    have ln2 := hok.len2
    have hml := mnL_length t c
    have HML := Lib.hid hml
    clear h0 hRv hM hml
    have xx0 := b0.cell; have nn0 := b0.lt; have xx1 := b1.cell; have nn1 := b1.lt
    go_wp2_with (at_make; refine wpList_make_full _ rfl _ _ 22 rfl w1.heap.size 3 i0 _ 1 Try.underlying22 hi0 hz0 hz1 .i64 .i64 _ _ M rfl rfl HM.out HM.out (by rw [hz2]; omega) (by unfold maxLen; omega) (Nat.le_refl _) ?_; intro w2 hown hg; have hb2 : Below w1.heap.size w1 w2 := (Below.refl _ _).grown hg (Nat.le_refl _) (by simp); have own := made_zero hown; clear hown hg xx0 xx1 nn0 nn1; replace b0 := b0.below hb2; replace b1 := b1.below hb2; have xx0 := b0.cell; have xx1 := b1.cell; have nn0 := b0.lt; have nn1 := b1.lt)
    clear xx0 nn0 xx1 nn1
    replace h1 := h1.below hb2
    replace h2 := h2.below hb2
    have hy2 := hy.trans (hb2.mono hy.size)
    have hzz := own.lt.2
    refine (rmenusB_any t c A1 A2 c1 c2 _ h1 h2 hok hcy).mono ?_
    rintro e w3 ⟨Am, cm, rfl, hrn, hlo, hb3⟩
    replace hy2 := hy2.trans (hb3.mono hy2.size)
    replace own := own.kept hb3 hzz
    have hfar : ∀ ad, Am = some ad → ad.block ≠ w1.heap.size := fun ad e => by have := hlo ad e; omega
    have HFAR := Lib.hid hfar
    clear b0 b1 h1 h2 hb2 hb3 hlo hfar
    go_wp2
    go_loopw [9] (fun x wr => ∃ k : Nat, k ≤ (mnL t c).length ∧ x = .int .i64 k ∧ OwnI wr w1.heap.size w1.heap.size M (svTo t c M k) ∧ RN wr Am (mnL t c) ∧ Below w1.heap.size w3 wr) (fun x _ => (mnL t c).length - (intOf x).toNat)
    case atStart => exact ⟨0, by omega, rfl, own.cast (svTo_zero t c M).symm, hrn, Below.refl _ _⟩
    case round =>
      clear own hrn
      obtain ⟨k, hk, rfl, own, hrn, hbl⟩ := hrel
      by_cases hlt : k < (mnL t c).length
      · have hq := HML.out
        obtain ⟨ad, rfl, hab, e0⟩ := hrn.at_ hlt
        rw [mnL_at t c k (by omega)] at e0
        have hkb : k < 1000 := by omega
        have hmb := mnAt_bd (t := t) hcy k
        clear hq
        by_cases hneg : mnAt t c k < 0
        · have hs := svTo_skip (n := M) hneg
          have HS := Lib.hid hs
          clear hs
          go_wp2
          go_roundw
          case rel => exact ⟨k + 1, by omega, by go_num, own.cast HS.out.symm, hrn, hbl⟩
          case measure => simp [intOf]; omega
        · obtain ⟨mm, hmm⟩ := Int.eq_ofNat_of_zero_le (show 0 ≤ mnAt t c k by omega)
          have hmM : mm < M := by have := HM.out; omega
          have hcb := cnt_le (fun d => mnAt t c d == (mm : Int)) k
          have f1 := own.cell mm hmM
          have f2 := own.frozen mm
          rw [svTo_at t c M k mm hmM] at f1
          rw [hmm] at e0
          have own2 := (own.stored mm (((cnt (fun d => mnAt t c d == (mm : Int)) k : Nat) : Int) + 1)).cast (svTo_more hmM hmm)
          obtain ⟨C, hC⟩ : ∃ C, C = cnt (fun d => mnAt t c d == (mm : Int)) k := ⟨_, rfl⟩
          rw [← hC] at f1 hcb own2
          clear hmm hmb own hC hneg
          go_wp2
          go_roundw
          case rel => exact ⟨k + 1, by omega, by go_num, own2, hrn.far (fun ad e => HFAR.out ad e) _, hbl.setCell (Nat.le_refl _) _⟩
          case measure => simp [intOf]; omega
      · have hkl : k = t.len.toNat := by have := HML.out; omega
        have HKL := Lib.hid hkl
        have hol := svTo_length t c M t.len.toNat
        have HOL := Lib.hid hol
        clear hkl hol
        go_wp2
        go_ret2
        exact ⟨some ⟨w1.heap.size, 0, none⟩, M, ret2 (by rw [H2.out, HOL.out]; rfl) (by rw [H0.out]; rfl), by rw [H2.out, ← HKL.out]; exact (own.base hy.size).own, hy2.trans (hbl.mono hy.size)⟩
  · have h0' : (bE t c != 0) = true := by simp [h0]
    have hRv : R = [] := by rw [HR.out, servedR, if_neg h0]
    have H2 := Lib.hid hRv
    clear hRv h0
    go_wp2
    go_ret2
    exact ⟨none, 0, ret2 (by rw [H2.out]; rfl) rfl, by rw [H2.out]; exact World.ownsRow_nil _ _ _ _, hy⟩


end Go.Proofs.Ytecjmpaomebdbaa
