import Derived.Test.YtiapkffihpgdcaaGreatDoorQA1
import Derived.Test.YtiapkffihpgdcaaGreatDoorQA3
import Derived.Deep.RegionWith
import Derived.IntWalk
import Derived.ScopeJumps
import Derived.WalkMore
import Derived.Maps.AppendAt
import Derived.RegionTactic
import Derived.OwnWalk
import Derived.Lib.SliceRun
set_option linter.unusedVariables false
set_option linter.unusedSimpArgs false
set_option maxRecDepth 100000
namespace Go.Proofs.YtiapkffihpgdcaaGreatDoor
open Go.RowKit
/-- Block g holds just the cells cs, and can be written. -/
structure Box (w : World) (g : Nat) (cs : Array Value) : Prop where
 lt : g < w.heap.size
 cell : ∀ j, w.cell? ⟨g, j, none⟩ = cs[j]?
 free : ∀ j, w.frozen? ⟨g, j, none⟩ = false
theorem Box.below {w w' : World} {g : Nat} {cs : Array Value} (h : Box w g cs) (hb : Below w.heap.size w w') : Box w' g cs :=
 ⟨Nat.lt_of_lt_of_le h.lt hb.size, fun j => (hb.cell (p := ⟨g, j, none⟩) h.lt).trans (h.cell j), fun j => (hb.frozen (p := ⟨g, j, none⟩) h.lt).trans (h.free j)⟩
theorem Box.new (w : World) (t : TypeId) (cs : Array Value) : Box (w.alloc (.cells cs t)) w.heap.size cs :=
 ⟨by simp, fun j => by simp [World.cell?_alloc_at], fun j => by simp [go_sem]⟩
theorem Box.alloc {w : World} {g : Nat} {cs : Array Value} (h : Box w g cs) (o : Obj) : Box (w.alloc o) g cs := h.below ((Below.refl _ _).alloc (Nat.le_refl _) _)
theorem Box.at' {w : World} {g g' : Nat} {cs : Array Value} (h : Box w g cs) (e : g = g') : Box w g' cs := e ▸ h
theorem Box.drewN {w : World} {g : Nat} {cs : Array Value} (h : Box w g cs) (n : Nat) : Box (w.drewN n) g cs := ⟨h.lt, h.cell, h.free⟩
theorem Box.ne {w : World} {g : Nat} {cs : Array Value} (h : Box w g cs) : ¬ g = w.heap.size := Nat.ne_of_lt h.lt
def daysTo (t : Tm) (c : Cy) (m : Int) : Nat → List Int
 | 0 => []
 | k + 1 => if mnAt t c k == m then daysTo t c m k ++ [(k : Int)] else daysTo t c m k
theorem daysTo_yes {t : Tm} {c : Cy} {m : Int} {k : Nat} (h : (mnAt t c k == m) = true) : daysTo t c m (k + 1) = daysTo t c m k ++ [(k : Int)] := by simp only [daysTo]; rw [if_pos h]
theorem daysTo_no {t : Tm} {c : Cy} {m : Int} {k : Nat} (h : (mnAt t c k == m) = false) : daysTo t c m (k + 1) = daysTo t c m k := by simp only [daysTo]; rw [if_neg (by rw [h]; simp)]
theorem daysTo_len (t : Tm) (c : Cy) (m : Int) (k : Nat) : (daysTo t c m k).length = cnt (fun d => mnAt t c d == m) k := by
 induction k with
 | zero => rfl
 | succ k ih =>
  cases h : (mnAt t c k == m) with
  | true => rw [daysTo_yes h, cnt_yes _ _ h, List.length_append, ih]; rfl
  | false => rw [daysTo_no h, cnt_no _ _ h, ih]
theorem daysTo_le (t : Tm) (c : Cy) (m : Int) (k : Nat) : (daysTo t c m k).length ≤ k := by rw [daysTo_len]; exact cnt_le _ _
def daysE (t : Tm) (c : Cy) (m : Int) : Int := if bE t c ≠ 0 then bE t c else if inB m 0 (c.n - 1) then 0 else 1
def daysR (t : Tm) (c : Cy) (m : Int) : List Int := if daysE t c m = 0 then daysTo t c m t.len.toNat else []
def RetIn (w0 : World) (L : List Int) (er : Int) (e : Ending) (w' : World) : Prop :=
 ∃ A c, e = .returned (.tuple #[.slice A L.length c, .int .i64 er]) ∧ OwnN w' w0.heap.size A c L ∧ Below w0.heap.size w0 w'
set_option maxHeartbeats 3200000 in
theorem rdays_any (m : Int) (c : Cy) (t : Tm) (A1 A2 : Option Addr) (c1 c2 : Nat) (w : World) (h1 : RN w A1 t.rest) (h2 : RN w A2 t.clo) (hl1 : t.rest.length ≤ 1000000000) (hl2 : t.clo.length ≤ 1000000000) :
  Calls Tryz.prog 133 #[.agg #[.int .i64 t.len, .slice A1 t.rest.length c1, .slice A2 t.clo.length c2], .agg #[.int .i64 c.n, .int .i64 c.f, .int .i64 c.k], .int .i64 m] w (RetIn w (daysR t c m) (daysE t c m)) := by
 obtain ⟨E, hE⟩ : ∃ E, E = daysE t c m := ⟨_, rfl⟩
 obtain ⟨R, hR⟩ : ∃ R, R = daysR t c m := ⟨_, rfl⟩
 rw [← hE, ← hR]
 have HE := Lib.hid hE
 have HR := Lib.hid hR
 clear hE hR
 have hy : Below w.heap.size w ((w.alloc (.cells #[.int .i64 t.len, .slice A1 t.rest.length c1, .slice A2 t.clo.length c2] 24)).alloc (.cells #[.int .i64 c.n, .int .i64 c.f, .int .i64 c.k] 26)) := ((Below.refl _ _).alloc (Nat.le_refl _) _).alloc (by simp) _
 have b0 : Box ((w.alloc (.cells #[.int .i64 t.len, .slice A1 t.rest.length c1, .slice A2 t.clo.length c2] 24)).alloc (.cells #[.int .i64 c.n, .int .i64 c.f, .int .i64 c.k] 26)) w.heap.size #[.int .i64 t.len, .slice A1 t.rest.length c1, .slice A2 t.clo.length c2] := (Box.new w _ _).alloc _
 have b1 : Box ((w.alloc (.cells #[.int .i64 t.len, .slice A1 t.rest.length c1, .slice A2 t.clo.length c2] 24)).alloc (.cells #[.int .i64 c.n, .int .i64 c.f, .int .i64 c.k] 26)) (w.heap.size + 1) #[.int .i64 c.n, .int .i64 c.f, .int .i64 c.k] := (Box.new (w.alloc (.cells #[.int .i64 t.len, .slice A1 t.rest.length c1, .slice A2 t.clo.length c2] 24)) _ _).at' (by simp)
 replace h1 := h1.below hy
 replace h2 := h2.below hy
 go_enter Tryz.func133, Tryz.ntmps133
 go_wp2_with fail
 refine (rboth_any c t A1 A2 c1 c2 _ h1 h2 hl1 hl2).mono ?_
 rintro e w1 ⟨rfl, hb1⟩
 replace b0 := b0.below hb1; replace b1 := b1.below hb1; replace h1 := h1.below hb1; replace h2 := h2.below hb1; replace hy := hy.trans (hb1.mono hy.size)
 clear hb1
 by_cases h0 : bE t c = 0
 ·have h0' : (bE t c != 0) = false := by simp [h0]
  obtain ⟨hok, hcy⟩ := bE_ok h0
  have hEm : E = if inB m 0 (c.n - 1) then 0 else 1 := by rw [HE.out, daysE, if_neg (by simp [h0])]
  have HEM := Lib.hid hEm
  have n1 := hcy.n1
  have n2 := hcy.n2
  have ln1 := hok.len1
  have ln2 := hok.len2
  clear h0 hEm
  cases hi : inB m 0 (c.n - 1) with
  | false =>
   have hEv : E = 1 := by rw [HEM.out, hi]; rfl
   have hRv : R = [] := by rw [HR.out, daysR, if_neg (by rw [← HE.out, hEv]; decide)]
   have H1 := Lib.hid hEv
   have H2 := Lib.hid hRv
   clear hEv hRv
   have xx0 := b0.cell; have nn0 := b0.lt; have xx1 := b1.cell; have nn1 := b1.lt
   go_wp2_with (go_at_call 194; refine (within_any _ _ _ _).mono ?_; rintro e w' ⟨rfl, hw'⟩; subst hw')
   clear xx0 nn0 xx1 nn1
   go_ret2
   exact ⟨none, 0, ret2 (by rw [H2.out]; rfl) (by rw [H1.out]; rfl), by rw [H2.out]; exact World.ownsRow_nil _ _ _ _, hy⟩
  | true =>
   have hEv : E = 0 := by rw [HEM.out, hi]; rfl
   have hRv : R = daysTo t c m t.len.toNat := by rw [HR.out, daysR, if_pos (by rw [← HE.out, hEv])]
   have H1 := Lib.hid hEv
   have H2 := Lib.hid hRv
   have hml := mnL_length t c
   have HML := Lib.hid hml
   clear hEv hRv hml
   have xx0 := b0.cell; have nn0 := b0.lt; have xx1 := b1.cell; have nn1 := b1.lt
   go_wp2_with (go_at_call 194; refine (within_any _ _ _ _).mono ?_; rintro e w' ⟨rfl, hw'⟩; have hw'' := hw'.symm; clear hw'; subst hw'')
   clear xx0 nn0 xx1 nn1
   refine (rmenusR_any t c A1 A2 c1 c2 _ h1 h2 hok hcy).mono ?_
   rintro e w2 ⟨Am, cm, rfl, hrn, hb2⟩
   replace hy := hy.trans (hb2.mono hy.size)
   have hz := hy.size
   clear b0 b1 h1 h2 hb2
   go_wp2
   go_loopw [9, 11] (fun o x wr => ∃ k : Nat, k ≤ (mnL t c).length ∧ x = .int .i64 k ∧ ∃ A c', o = .slice A (daysTo t c m k).length c' ∧ OwnN wr w2.heap.size A c' (daysTo t c m k) ∧ Below w2.heap.size w2 wr) (fun _ x _ => (mnL t c).length - (intOf x).toNat)
   case atStart => exact ⟨0, by omega, rfl, none, 0, rfl, World.ownsRow_nil _ _ _ _, Below.refl _ _⟩
   case round =>
    obtain ⟨k, hk, rfl, A, c', rfl, own, hbl⟩ := hrel
    by_cases hlt : k < (mnL t c).length
    ·have hq := HML.out
     obtain ⟨ad, rfl, hab, e0⟩ := (hrn.below hbl).at_ hlt
     rw [mnL_at t c k (by omega)] at e0
     have hll := daysTo_le t c m k
     have hkb : k < 1000 := by omega
     have hbs := hbl.size
     clear hq
     cases hq : (mnAt t c k == m) with
     | true =>
      have hs := daysTo_yes hq
      have HS := Lib.hid hs
      clear hs
      go_wp2_with (at_builtin; refine wpList_app1 rfl _ _ rfl Tryz.underlying22 info_int rfl (by omega) rfl own rfl rfl (by simp [Value.oneCell']) (by omega) (by omega) (by omega) ?_; intro A' c'' w3 own3 hb3)
      go_roundw
      case rel => exact ⟨k + 1, by omega, by go_num, A', c'', by rw [HS.out, List.length_append]; rfl, OwnN.snoc own3 rfl HS.out, hbl.trans (hb3 _ (Nat.le_refl _))⟩
      case measure => simp [intOf]; omega
     | false =>
      have hs := daysTo_no hq
      have HS := Lib.hid hs
      clear hs
      go_wp2
      go_roundw
      case rel => exact ⟨k + 1, by omega, by go_num, A, c', by rw [HS.out], by rw [HS.out]; exact own, hbl⟩
      case measure => simp [intOf]; omega
    ·have hkl : k = t.len.toNat := by have := HML.out; omega
     have HKL := Lib.hid hkl
     clear hkl
     go_wp2
     go_ret2
     exact ⟨A, c', ret2 (by rw [H2.out, ← HKL.out]; rfl) (by rw [H1.out]; rfl), by rw [H2.out, ← HKL.out]; exact own_base own hz, hy.trans (hbl.mono hz)⟩
 ·have h0' : (bE t c != 0) = true := by simp [h0]
  have hEv : E = bE t c := by rw [HE.out, daysE, if_pos h0]
  have hRv : R = [] := by rw [HR.out, daysR, if_neg (by rw [← HE.out, hEv]; exact h0)]
  have H1 := Lib.hid hEv
  have H2 := Lib.hid hRv
  clear hEv hRv h0
  go_wp2
  go_ret2
  exact ⟨none, 0, ret2 (by rw [H2.out]; rfl) (by rw [H1.out]; rfl), by rw [H2.out]; exact World.ownsRow_nil _ _ _ _, hy⟩
set_option maxHeartbeats 800000 in
theorem sameInts_any (l m : List Int) (A A' : Option Addr) (c c' : Nat) (w : World) (hl : RN w A l) (hm : RN w A' m) (hb : l.length ≤ 1000000000) (hb' : m.length ≤ 1000000000) :
  Calls Tryz.prog 107 #[.slice A l.length c, .slice A' m.length c'] w fun e w' => e = .returned (.bool (decide (l = m))) ∧ Below w.heap.size w w' := by
 by_cases hlen : l.length = m.length
 ·have hlen' : ((l.length : Int) != (m.length : Int)) = false := by simp [hlen]
  have HL := Lib.hid hlen; clear hlen
  go_enter Tryz.func107, Tryz.ntmps107
  go_wp2
  go_loopw [5] (fun x wr => ∃ k : Nat, k ≤ l.length ∧ x = .int .i64 k ∧ eqIn l m k ∧ Below w.heap.size w wr) (fun x _ => l.length - (intOf x).toNat)
  case atStart => exact ⟨0, by omega, rfl, fun i hi => by omega, Below.refl _ _⟩
  case round =>
   obtain ⟨k, hk, rfl, he, hbl⟩ := hrel
   by_cases hlt : k < l.length
   ·have hlt' : k < m.length := by rw [← HL.out]; exact hlt
    obtain ⟨ad, rfl, hab, c0⟩ := (hl.below hbl).at_ hlt
    obtain ⟨ad', rfl, hab', d0⟩ := (hm.below hbl).at_ hlt'
    cases hq : (gi l k != gi m k) with
    | true =>
     have hne : gi l k ≠ gi m k := by simpa using hq
     have HNE := Lib.hid hne; clear hne
     go_wp2_with fail
     go_quiet (fail)
     go_wp2
     go_ret
     exact ⟨ret_bool (by symm; rw [decide_eq_false_iff_not]; intro e; exact HNE.out (by rw [e])), below_drewN hbl _⟩
    | false =>
     have heq : gi l k = gi m k := by simpa using hq
     have HEQ := Lib.hid heq; clear heq
     go_wp2_with fail
     go_quiet (fail)
     go_wp2
     go_roundw
     case rel => exact ⟨k + 1, by omega, by go_num, fun i hi => by
      by_cases e : i = k
      ·subst e; exact HEQ.out
      ·exact he i (by omega), below_drewN hbl _⟩
     case measure => simp [intOf]; omega
   ·obtain rfl : k = l.length := by omega
    go_wp2
    go_ret
    exact ⟨ret_bool (by symm; rw [decide_eq_true_eq]; exact eqIn_all HL.out he), hbl⟩
 ·have hlen' : ((l.length : Int) != (m.length : Int)) = true := by simp; omega
  have HL := Lib.hid hlen; clear hlen
  go_enter Tryz.func107, Tryz.ntmps107
  go_wp2
  go_ret
  exact ⟨ret_bool (by symm; rw [decide_eq_false_iff_not]; intro e; exact HL.out (by rw [e])), Below.refl _ _⟩
theorem take_gi {l : List Int} {k : Nat} (h : k < l.length) : l.take (k + 1) = l.take k ++ [gi l k] := by
 rw [List.take_add_one]; simp [gi, h]
set_option maxHeartbeats 1000000 in
theorem copyInts_any (l : List Int) (A : Option Addr) (c : Nat) (w : World) (hl : RN w A l) (hb : l.length ≤ 1000000) :
  Calls Tryz.prog 197 #[.slice A l.length c] w fun e w' => ∃ A' c', e = .returned (.slice A' l.length c') ∧ OwnN w' w.heap.size A' c' l ∧ Below w.heap.size w w' := by
 go_enter Tryz.func197, Tryz.ntmps197
 go_wp2
 go_loopw [3, 4] (fun o x wr => ∃ k : Nat, k ≤ l.length ∧ x = .int .i64 k ∧ ∃ A' c', o = .slice A' (l.take k).length c' ∧ OwnN wr w.heap.size A' c' (l.take k) ∧ Below w.heap.size w wr) (fun _ x _ => l.length - (intOf x).toNat)
 case atStart => exact ⟨0, by omega, rfl, none, 0, rfl, World.ownsRow_nil _ _ _ _, Below.refl _ _⟩
 case round =>
  obtain ⟨k, hk, rfl, A', c', rfl, own, hy⟩ := hrel
  have hll : (l.take k).length = k := by rw [List.length_take]; omega
  by_cases hlt : k < l.length
  ·obtain ⟨ad, rfl, hab, e0⟩ := (hl.below hy).at_ hlt
   have hs := take_gi hlt
   have HS := Lib.hid hs
   have hbs := hy.size
   clear hs
   go_wp2_with (at_builtin; refine wpList_app1 rfl _ _ rfl Tryz.underlying22 info_int rfl (by omega) rfl own rfl rfl (by simp [Value.oneCell']) (by omega) (by omega) (by omega) ?_; intro A'' c'' w3 own3 hb3)
   go_roundw
   case rel => exact ⟨k + 1, by omega, by go_num, A'', c'', by rw [HS.out, List.length_append, hll]; rfl, OwnN.snoc own3 rfl (by rw [HS.out]), hy.trans (hb3 _ (Nat.le_refl _))⟩
   case measure => simp [intOf]; omega
  ·have hkl : k = l.length := by omega
   subst hkl
   rw [List.take_length] at own ⊢
   go_wp2
   go_ret
   exact ⟨A', c', rfl, own, hy⟩
set_option maxHeartbeats 1000000 in
theorem copy_any (t : Tm) (A1 A2 : Option Addr) (c1 c2 : Nat) (w : World) (h1 : RN w A1 t.rest) (h2 : RN w A2 t.clo) (hl1 : t.rest.length ≤ 1000000) (hl2 : t.clo.length ≤ 1000000) :
  Calls Tryz.prog 131 #[.agg #[.int .i64 t.len, .slice A1 t.rest.length c1, .slice A2 t.clo.length c2]] w fun e w' => ∃ A c A' c', e = .returned (.agg #[.int .i64 t.len, .slice A t.rest.length c, .slice A' t.clo.length c']) ∧ OwnN w' w.heap.size A c t.rest ∧ OwnN w' w.heap.size A' c' t.clo ∧ Below w.heap.size w w' := by
 obtain ⟨w2, hw2⟩ : ∃ w2, ((w.alloc (.cells #[.int .i64 t.len, .slice A1 t.rest.length c1, .slice A2 t.clo.length c2] 24)).alloc (.cells #[.int .i64 0, .slice none 0 0, .slice none 0 0] 24)) = w2 := ⟨_, rfl⟩
 have hy : Below w.heap.size w w2 := by rw [← hw2]; exact ((Below.refl _ w).alloc (Nat.le_refl _) _).alloc (by simp) _
 have b0 : Box w2 w.heap.size #[.int .i64 t.len, .slice A1 t.rest.length c1, .slice A2 t.clo.length c2] := by rw [← hw2]; exact (Box.new w _ _).alloc _
 have b1 : Box w2 (w.heap.size + 1) #[.int .i64 0, .slice none 0 0, .slice none 0 0] := by rw [← hw2]; exact (Box.new (w.alloc (.cells #[.int .i64 t.len, .slice A1 t.rest.length c1, .slice A2 t.clo.length c2] 24)) _ _).at' (by simp)
 have r1 := h1.below hy
 have r2 := h2.below hy
 have d1 : RN w2.drew A1 t.rest := r1
 have d2 : RN w2.drew A2 t.clo := r2
 have x0 := b0.cell 0; have x1 := b0.cell 1; have x2 := b0.cell 2
 have f0 := b1.free 0; have f1 := b1.free 1; have f2 := b1.free 2
 have b0d := b0.drewN 1
 have b1d := b1.drewN 1
 simp only [List.getElem?_toArray, List.getElem?_cons_zero, List.getElem?_cons_succ] at x0 x1 x2
 have hsz : w.heap.size + 1 < w2.heap.size := b1.lt
 go_enter Tryz.func131, Tryz.ntmps131
 go_wp2_with fail
 go_cut [11] (fun s wx => ∃ A c A' c', wx.cell? ⟨w.heap.size + 1, 0, none⟩ = some (.int .i64 t.len) ∧ wx.cell? ⟨w.heap.size + 1, 1, none⟩ = some (.slice A t.rest.length c) ∧ wx.cell? ⟨w.heap.size + 1, 2, none⟩ = some (.slice A' t.clo.length c') ∧ OwnN wx w2.heap.size A c t.rest ∧ OwnN wx w2.heap.size A' c' t.clo ∧ Below w.heap.size w wx)
 case first =>
  go_region_held3 (fun w' => w'.cell? ⟨w.heap.size, 0, none⟩ = some (.int .i64 t.len) ∧ w'.cell? ⟨w.heap.size, 1, none⟩ = some (.slice A1 t.rest.length c1) ∧ w'.cell? ⟨w.heap.size, 2, none⟩ = some (.slice A2 t.clo.length c2) ∧ w'.frozen? ⟨w.heap.size + 1, 0, none⟩ = false ∧ w'.frozen? ⟨w.heap.size + 1, 1, none⟩ = false ∧ w'.frozen? ⟨w.heap.size + 1, 2, none⟩ = false)
   (first | go_keep | (go_split_ands; refine ⟨?_, ?_, ?_, ?_, ?_, ?_⟩ <;> ((first | rw [hbB.cell (by first | omega | (simp; omega))] | rw [hbB.frozen (by first | omega | (simp; omega))]); go_keep)) | (go_split_ands; refine ⟨?_, ?_, ?_, ?_, ?_, ?_⟩ <;> ((first | rw [hbA.cell (by first | omega | (simp; omega))] | rw [hbA.frozen (by first | omega | (simp; omega))]); go_keep)) | (go_split_ands; refine ⟨?_, ?_, ?_, ?_, ?_, ?_⟩ <;> simp [*, go_sem]))
   (first | (go_at_call 197; (with_reducible refine (copyInts_any t.rest A1 c1 _ d1 (by omega)).mono ?_); rintro e wA ⟨AA, cA, rfl, ownA, hbA⟩; have hsA : w2.heap.size ≤ wA.heap.size := hbA.size) | (go_at_call 197; (with_reducible refine (copyInts_any t.clo A2 c2 _ (d2.below hbA) (by omega)).mono ?_); rintro e wB ⟨AB, cB, rfl, ownB, hbB⟩; have hsB : wA.heap.size ≤ wB.heap.size := hbB.size; have z0B : wB.cell? ⟨w.heap.size + 1, 0, none⟩ = some (.int .i64 0) := (((b1d.below hbA).below hbB).cell 0).trans rfl; have z1B : wB.cell? ⟨w.heap.size + 1, 1, none⟩ = some (.slice none 0 0) := (((b1d.below hbA).below hbB).cell 1).trans rfl; have z2B : wB.cell? ⟨w.heap.size + 1, 2, none⟩ = some (.slice none 0 0) := (((b1d.below hbA).below hbB).cell 2).trans rfl))
  ·go_wp2_with fail
   go_meet
   have hz : Below w.heap.size w wB := hy.trans ((((Below.refl w2.heap.size w2).drew.trans hbA).trans (hbB.mono hsA)).mono hy.size)
   have hz3 := ((hz.setCell (p := ⟨w.heap.size + 1, 0, none⟩) (by show w.heap.size ≤ w.heap.size + 1; omega) (.int .i64 t.len)).setCell (p := ⟨w.heap.size + 1, 1, none⟩) (by show w.heap.size ≤ w.heap.size + 1; omega) (.slice AA t.rest.length cA)).setCell (p := ⟨w.heap.size + 1, 2, none⟩) (by show w.heap.size ≤ w.heap.size + 1; omega) (.slice AB t.clo.length cB)
   refine ⟨AA, cA, AB, cB, ?_, ?_, ?_, ?_, ?_, hz3⟩
   ·rw [World.cell?_setCell_other _ _ _ _ (by simp), World.cell?_setCell_other _ _ _ _ (by simp), World.cell?_setCell_same' _ _ _ (by rw [z0B]; rfl)]
   ·rw [World.cell?_setCell_other _ _ _ _ (by simp), World.cell?_setCell_same' _ _ _ (by rw [World.cell?_setCell_other _ _ _ _ (by simp), z1B]; rfl)]
   ·rw [World.cell?_setCell_same' _ _ _ (by rw [World.cell?_setCell_other _ _ _ _ (by simp), World.cell?_setCell_other _ _ _ _ (by simp), z2B]; rfl)]
   ·exact ownsRow_setCell_below (ownsRow_setCell_below (ownsRow_setCell_below (ownA.kept hbB) hsz _) hsz _) hsz _
   ·exact own_base (ownsRow_setCell_below (ownsRow_setCell_below (ownsRow_setCell_below ownB (show w.heap.size + 1 < wA.heap.size by omega) _) (show w.heap.size + 1 < wA.heap.size by omega) _) (show w.heap.size + 1 < wA.heap.size by omega) _) hsA
 case rest =>
  obtain ⟨A, c, A', c', q0, q1, q2, own1, own2, hb⟩ := hcut
  go_wp2_with fail
  refine bodyPost_ret (v := .agg #[.int .i64 t.len, .slice A t.rest.length c, .slice A' t.clo.length c']) (by simp [results, Tryz.results131, go_sem, q0, q1, q2]) rfl ?_
  exact ⟨A, c, A', c', rfl, own_base own1 (by omega), own_base own2 (by omega), hb⟩
section
variable {P : Program} (w : World)
theorem run_append_of_nil (base : Nat) (t ty e : TypeId) (i : TypeInfo) (size : Nat) (ht : P.underlying t = some (.slice e)) (hi : P.info? e = some i)
  (v : Value) (n : Nat) (xs : List Value) (hown : w.ownsRow base e size v n xs) (c : Nat) : (Builtin.append_ #[t, t] ty #[v, .slice none 0 c]).run P w = .ok v w := by
 rcases hown.2 with ⟨rfl, rfl⟩ | ⟨g, cap, cur, rfl, _, _, hnc, _⟩
 ·simp [Builtin.append_, run_underlying ht, sizeOf, typeInfo, hi, Builtin.lenOf, Builtin.firstCells]
 ·simp [Builtin.append_, run_underlying ht, sizeOf, typeInfo, hi, Builtin.lenOf, Builtin.firstCells, hnc, storeCells]
theorem run_append_any (base : Nat) (t ty e : TypeId) (i : TypeInfo) (z : Value) (size bytes : Nat) (ht : P.underlying t = some (.slice e)) (hi : P.info? e = some i) (hz : i.zero = some z)
  (hsize : i.size = size) (hby : i.bytes = bytes) (hzs : z.cells.size = size) (hsz : 0 < size)
  (v : Value) (n : Nat) (xs : List Value) (hown : w.ownsRow base e size v n xs)
  (B : Nat) (A : Option Addr) (m c : Nat) (news : List Value) (hr : Reads w B size A m news) (h1 : ∀ u ∈ news, u.oneCell' = true)
  (h63 : n + m ≤ maxLen) (hbytes : (n + m) * bytes ≤ 140737488355328) (hbase : base ≤ w.heap.size) :
  ∃ v' w', (Builtin.append_ #[t, t] ty #[v, .slice A m c]).run P w = .ok v' w' ∧ w'.ownsRow base e size v' (n + m) (xs ++ news) ∧ w.grownBy w' v.ownBlock ∧
   (v'.ownBlock = v.ownBlock ∨ v'.ownBlock = some w.heap.size) := by
 rcases A with _ | ad
 ·have hm : m = 0 := by
   rcases Nat.eq_zero_or_pos m with h0 | h0
   ·exact h0
   ·obtain ⟨ad, h, _⟩ := hr.2 h0
    cases h
  subst hm
  have hn : news = [] := List.eq_nil_of_length_eq_zero (by simpa using hr.1)
  subst hn
  exact ⟨v, w, run_append_of_nil w base t ty e i size ht hi v n xs hown c, by simpa using hown, World.grownBy.refl w _, .inl rfl⟩
 ·have hcells : ∀ j u, news[j]? = some u → w.cell? (ad.add j) = some u := by
   intro j u hu
   rcases Nat.eq_zero_or_pos m with h0 | h0
   ·subst h0
    have hn : news = [] := List.eq_nil_of_length_eq_zero (by simpa using hr.1)
    subst hn
    simp at hu
   ·obtain ⟨ad', h, _, hc⟩ := hr.2 h0
    injection h with h
    subst h
    exact hc j u hu
  obtain ⟨v', w', hrun, h2, h3, _, h5⟩ := run_append_own_at (P := P) w base t ty e i z size bytes ht hi hz hsize hby hzs hsz v n xs hown ad m c news hr.1 hcells h1 h63 hbytes hbase
  exact ⟨v', w', hrun, h2, h3, h5⟩
theorem wp_append_any {o : Oper} {a : Act} {K : Act → World → Prop} {Q : Exit → Act → World → Prop} (s x : Operand) (t : TypeId)
    (ho : o.op = .call { callee := .builtin .append, args := #[s, x], argTypes := #[t, t] })
    (base : Nat) (e : TypeId) (i : TypeInfo) (z : Value) (size bytes : Nat) (ht : P.underlying t = some (.slice e)) (hi : P.info? e = some i) (hz : i.zero = some z)
    (hsize : i.size = size) (hby : i.bytes = bytes) (hzs : z.cells.size = size) (hsz : 0 < size)
    (v : Value) (n : Nat) (xs : List Value) (hs : a.eval s = v) (hown : w.ownsRow base e size v n xs)
    (B : Nat) (A : Option Addr) (m c : Nat) (news : List Value) (hx : a.eval x = .slice A m c) (hr : Reads w B size A m news) (h1 : ∀ u ∈ news, u.oneCell' = true)
    (h63 : n + m ≤ maxLen) (hbytes : (n + m) * bytes ≤ 140737488355328) (hbase : base ≤ w.heap.size)
    (h : ∀ v' w', w'.ownsRow base e size v' (n + m) (xs ++ news) → w.grownBy w' v.ownBlock → (v'.ownBlock = v.ownBlock ∨ v'.ownBlock = some w.heap.size) → K (a.put o.dst v') w') : o.wp P a w K Q := by
  obtain ⟨v', w', hrun, h2, h3, h4⟩ := run_append_any (P := P) w base t o.type e i z size bytes ht hi hz hsize hby hzs hsz v n xs hown B A m c news hr h1 h63 hbytes hbase
  unfold Oper.wp execOp
  simp only [ho, resolve, invoke, builtin, Sem.run_bind, Sem.run_pure, Result.andThen_ok, List.map_toArray, List.map_cons, List.map_nil, hs, hx, hrun]
  exact h v' w' h2 h3 h4
theorem wpList_append_any {ops : Array Oper} {rest : List Oper} {o : Oper} {a : Act} {Q : Exit → Act → World → Prop} (hgd : o.guard = none) (s x : Operand) (t : TypeId)
    (ho : o.op = .call { callee := .builtin .append, args := #[s, x], argTypes := #[t, t] })
    (base : Nat) (e : TypeId) (i : TypeInfo) (z : Value) (size bytes : Nat) (ht : P.underlying t = some (.slice e)) (hi : P.info? e = some i) (hz : i.zero = some z)
    (hsize : i.size = size) (hby : i.bytes = bytes) (hzs : z.cells.size = size) (hsz : 0 < size)
    (v : Value) (n : Nat) (xs : List Value) (hs : a.eval s = v) (hown : w.ownsRow base e size v n xs)
    (B : Nat) (A : Option Addr) (m c : Nat) (news : List Value) (hx : a.eval x = .slice A m c) (hr : Reads w B size A m news) (h1 : ∀ u ∈ news, u.oneCell' = true)
    (h63 : n + m ≤ maxLen) (hbytes : (n + m) * bytes ≤ 140737488355328) (hbase : base ≤ w.heap.size)
    (h : ∀ v' w', w'.ownsRow base e size v' (n + m) (xs ++ news) → w.grownBy w' v.ownBlock → (v'.ownBlock = v.ownBlock ∨ v'.ownBlock = some w.heap.size) → wpList P ops Q rest (a.put o.dst v') w') : wpList P ops Q (o :: rest) a w :=
  wpList_plain hgd fun _ hK => wp_append_any w s x t ho base e i z size bytes ht hi hz hsize hby hzs hsz v n xs hs hown B A m c news hx hr h1 h63 hbytes hbase fun v' w' h2 h3 h4 => hK _ _ (h v' w' h2 h3 h4)
end
theorem ints_one (l : List Int) : ∀ u ∈ ints l, u.oneCell' = true := by
 intro u hu
 obtain ⟨f, _, rfl⟩ := List.mem_map.1 hu
 rfl
set_option maxHeartbeats 800000 in
theorem clone_any (l : List Int) (hl : l.length ≤ 1000000000) (A : Option Addr) (c : Nat) (w : World) (hR : RN w A l) :
  Calls Tryz.prog 154 #[.slice A l.length c] w fun e w' => ∃ A' c', e = .returned (.slice A' l.length c') ∧ OwnN w' w.heap.size A' c' l ∧ Below w.heap.size w w' := by
 have hnil := fun W a n c => Lib.run_eql_slice_nil (P := Tryz.prog) W 22 3 a n c 0 0 Tryz.underlying22
 cases A with
 | none =>
  have hl0 : l = [] := by
   apply List.eq_nil_of_length_eq_zero
   rcases Nat.eq_zero_or_pos l.length with h | h
   ·exact h
   ·obtain ⟨ad, h1, _⟩ := hR.2 h; cases h1
  subst hl0
  go_enter Tryz.func154, Tryz.ntmps154
  go_wp2
  go_ret
  exact ⟨none, 0, rfl, World.ownsRow_nil _ _ _ _, Below.refl _ _⟩
 | some a =>
  obtain ⟨i0, hi0, hz0, hz1, hz2⟩ := info_parts info_int
  go_enter Tryz.func154, Tryz.ntmps154
  have h0 : (w.alloc (.cells #[] 3)).ownsRow w.heap.size 3 1 (.slice (some ⟨w.heap.size, 0, none⟩) 0 0) 0 [] := World.ownsRow_lit w #[] 0 (Nat.le_refl _) (by unfold maxLen; omega) rfl
  have hb0 : Below w.heap.size w (w.alloc (.cells #[] 3)) := (Below.refl _ _).alloc (Nat.le_refl _) _
  go_wp2_with (at_builtin; refine wpList_append_any _ rfl _ _ 22 rfl w.heap.size 3 i0 _ 1 8 Tryz.underlying22 hi0 hz0 hz1 hz2 rfl (by omega) _ 0 [] rfl h0 _ (some a) l.length c (ints l) rfl (hR.below hb0) (ints_one l) (by unfold maxLen; omega) (by omega) hb0.size ?_; intro v' w2 own2 hg2 hat2)
  obtain ⟨A', c', rfl⟩ := own_shape own2
  go_wp2
  go_ret
  rw [Nat.zero_add, List.nil_append] at own2
  exact ⟨A', c', by rw [Nat.zero_add]; rfl, own2, hb0.grown hg2 hb0.size (fun k hk => by have e : (some w.heap.size : Option Nat) = some k := hk; cases e; exact Nat.le_refl _)⟩
end Go.Proofs.YtiapkffihpgdcaaGreatDoor
namespace Go.Proofs.YtiapkffihpgdcaaGreatDoor
/-- A fact of a table. -/
structure Fact where
 at_ : Int
 ch : Int
 fr : Int
 un : Int
 me : Int
instance : DecidableEq Fact := fun a b =>
 if h : a.at_ = b.at_ ∧ a.ch = b.ch ∧ a.fr = b.fr ∧ a.un = b.un ∧ a.me = b.me then isTrue (by cases a; cases b; simp_all) else isFalse (by rintro rfl; simp at h)
def gf (l : List Fact) (k : Nat) : Fact := l.getD k ⟨0, 0, 0, 0, 0⟩
theorem gf_getElem (l : List Fact) (k : Nat) (h : k < l.length) : l[k] = gf l k := by simp [gf, h]
def rightN (a c f t m : Int) : Bool := decide (0 ≤ a ∧ a ≤ 1440000 ∧ 0 ≤ c ∧ c ≤ 99 ∧ 0 ≤ f ∧ f < t ∧ t ≤ 1000 ∧ 0 ≤ m ∧ m ≤ 9)
def rightB (f : Fact) : Bool := rightN f.at_ f.ch f.fr f.un f.me
theorem right_iff (f : Fact) : rightB f = true ↔ 0 ≤ f.at_ ∧ f.at_ ≤ 1440000 ∧ 0 ≤ f.ch ∧ f.ch ≤ 99 ∧ 0 ≤ f.fr ∧ f.fr < f.un ∧ f.un ≤ 1000 ∧ 0 ≤ f.me ∧ f.me ≤ 9 := by simp [rightB, rightN]
/-- Validate, behind facts of which the last is written at prev. -/
def vG (prev : Int) : List Fact → Int
 | [] => 0
 | f :: r => if rightB f then (if f.at_ < prev then 7 else vG f.at_ r) else 1
def vld (l : List Fact) : Int := if 60 < l.length then 4 else vG (-1) l
def prv (l : List Fact) (k : Nat) : Int := if k = 0 then -1 else (gf l (k - 1)).at_
theorem prv_zero (l : List Fact) : prv l 0 = -1 := by simp [prv]
theorem prv_pos (l : List Fact) (k : Nat) (h : 0 < k) : prv l k = (gf l (k - 1)).at_ := by unfold prv; rw [if_neg (by omega)]
theorem right_at (f : Fact) (h : rightB f = true) : 0 ≤ f.at_ := by have := (right_iff f).1 h; omega
theorem vG_step (l : List Fact) (k : Nat) (hk : k < l.length) :
  vG (prv l k) (l.drop k) = if rightB (gf l k) then (if (gf l k).at_ < prv l k then 7 else vG (prv l (k + 1)) (l.drop (k + 1))) else 1 := by
 rw [List.drop_eq_getElem_cons hk, gf_getElem l k hk]
 simp only [vG]
 rw [prv_pos l (k + 1) (by omega)]
 rfl
theorem vld_wrong (l : List Fact) (k : Nat) (hk : k < l.length) (h60 : ¬ 60 < l.length) (hv : vG (-1) l = vG (prv l k) (l.drop k)) (hr : rightB (gf l k) = false) : vld l = 1 := by
 unfold vld; rw [if_neg h60, hv, vG_step l k hk, if_neg (by rw [hr]; simp)]
theorem vld_order (l : List Fact) (k : Nat) (hk : k < l.length) (h60 : ¬ 60 < l.length) (hv : vG (-1) l = vG (prv l k) (l.drop k)) (hr : rightB (gf l k) = true) (hkp : 0 < k) (hp : (gf l k).at_ < (gf l (k - 1)).at_) : vld l = 7 := by
 unfold vld; rw [if_neg h60, hv, vG_step l k hk, if_pos hr, prv_pos l k hkp, if_pos hp]
theorem vld_next (l : List Fact) (k : Nat) (hk : k < l.length) (hv : vG (-1) l = vG (prv l k) (l.drop k)) (hr : rightB (gf l k) = true) (hp : 0 < k → (gf l (k - 1)).at_ ≤ (gf l k).at_) : vG (-1) l = vG (prv l (k + 1)) (l.drop (k + 1)) := by
 rw [hv, vG_step l k hk, if_pos hr, if_neg]
 by_cases h0 : 0 < k
 ·rw [prv_pos l k h0]; have := hp h0; omega
 ·have : k = 0 := by omega
  subst this; have := right_at _ hr; rw [prv_zero]; omega
theorem vld_end (l : List Fact) (k : Nat) (hk : ¬ k < l.length) (h60 : ¬ 60 < l.length) (hv : vG (-1) l = vG (prv l k) (l.drop k)) : vld l = 0 := by
 unfold vld; rw [if_neg h60, hv, List.drop_eq_nil_of_le (by omega)]; rfl
/-- What validity gives. -/
structure Vld (l : List Fact) : Prop where
 len : l.length ≤ 60
 right : ∀ i, i < l.length → rightB (gf l i) = true
 sorted : ∀ i j, i ≤ j → j < l.length → (gf l i).at_ ≤ (gf l j).at_
theorem vG_right : ∀ (l : List Fact) (p : Int), vG p l = 0 → (∀ i, i < l.length → rightB (gf l i) = true) ∧ (∀ i, i < l.length → p ≤ (gf l i).at_) ∧ (∀ i j, i ≤ j → j < l.length → (gf l i).at_ ≤ (gf l j).at_)
 | [], _, _ => ⟨by simp, by simp, by simp⟩
 | f :: r, p, h => by
  simp only [vG] at h
  split at h
  ·rename_i hr
   split at h
   ·cases h
   ·rename_i hp
    obtain ⟨h1, h2, h3⟩ := vG_right r f.at_ h
    have g0 : gf (f :: r) 0 = f := rfl
    have gs : ∀ i, gf (f :: r) (i + 1) = gf r i := fun i => by simp [gf]
    refine ⟨fun i hi => ?_, fun i hi => ?_, fun i j hij hj => ?_⟩
    ·cases i with
     | zero => exact hr
     | succ i => rw [gs]; exact h1 i (by simpa using hi)
    ·cases i with
     | zero => rw [g0]; omega
     | succ i => rw [gs]; have := h2 i (by simpa using hi); omega
    ·cases i with
     | zero =>
      cases j with
      | zero => exact Int.le_refl _
      | succ j => rw [gs, g0]; exact h2 j (by simpa using hj)
     | succ i =>
      cases j with
      | zero => omega
      | succ j => rw [gs, gs]; exact h3 i j (by omega) (by simpa using hj)
  ·cases h
theorem Vld.of {l : List Fact} (h : vld l = 0) : Vld l := by
 unfold vld at h
 split at h
 ·cases h
 ·obtain ⟨h1, _, h3⟩ := vG_right l _ h
  exact ⟨by omega, h1, h3⟩
theorem vG_of : ∀ (l : List Fact) (p : Int), (∀ i, i < l.length → rightB (gf l i) = true) → (∀ i, i < l.length → p ≤ (gf l i).at_) → (∀ i j, i ≤ j → j < l.length → (gf l i).at_ ≤ (gf l j).at_) → vG p l = 0
 | [], _, _, _, _ => rfl
 | f :: r, p, h1, h2, h3 => by
  have g0 : gf (f :: r) 0 = f := rfl
  have gs : ∀ i, gf (f :: r) (i + 1) = gf r i := fun i => by simp [gf]
  simp only [vG]
  have hr : rightB f = true := by have := h1 0 (by simp); rwa [g0] at this
  have hp : ¬ f.at_ < p := by have := h2 0 (by simp); rw [g0] at this; omega
  rw [if_pos hr, if_neg hp]
  refine vG_of r _ (fun i hi => ?_) (fun i hi => ?_) (fun i j hij hj => ?_)
  ·rw [← gs]; exact h1 _ (by simpa using hi)
  ·have := h3 0 (i + 1) (by omega) (by simpa using hi); rw [gs, g0] at this; exact this
  ·rw [← gs, ← gs]; exact h3 _ _ (by omega) (by simpa using hj)
theorem Vld.to {l : List Fact} (h : Vld l) : vld l = 0 := by
 unfold vld
 rw [if_neg (by have := h.len; omega)]
 exact vG_of l _ h.right (fun i hi => by have := right_at _ (h.right i hi); omega) h.sorted
/-- What asked returns. -/
def askd (l : List Fact) (b : Bool) : Int := if vld l ≠ 0 then vld l else if b then 0 else 1
theorem askd_ok {l : List Fact} {b : Bool} (h : askd l b = 0) : vld l = 0 ∧ b = true := by
 unfold askd at h
 split at h
 ·rename_i hv; exact absurd h hv
 ·rename_i hv
  cases b
  ·cases h
  ·exact ⟨by simpa using hv, rfl⟩
/-- A fact tells about a minute, a child and a day. -/
def covN (ch fr un c d : Int) : Bool := decide (ch = c ∧ fr ≤ d ∧ d < un)
def covB (f : Fact) (c d : Int) : Bool := covN f.ch f.fr f.un c d
theorem covB_iff (f : Fact) (c d : Int) : covB f c d = true ↔ f.ch = c ∧ f.fr ≤ d ∧ d < f.un := by simp [covB, covN]
def hit (f : Fact) (t c d : Int) : Bool := decide (f.at_ ≤ t) && covB f c d
def rsnTo (l : List Fact) (t c d : Int) : Nat → Int
 | 0 => -1
 | k + 1 => if hit (gf l k) t c d then (k : Int) else rsnTo l t c d k
def rsn (l : List Fact) (t c d : Int) : Int := rsnTo l t c d l.length
def fAt (l : List Fact) (i : Int) : Int := if i < 0 then 0 else (gf l i.toNat).at_
def fCh (l : List Fact) (i : Int) : Int := if i < 0 then 0 else (gf l i.toNat).ch
def fFr (l : List Fact) (i : Int) : Int := if i < 0 then 0 else (gf l i.toNat).fr
def fUn (l : List Fact) (i : Int) : Int := if i < 0 then 0 else (gf l i.toNat).un
def fMe (l : List Fact) (i : Int) : Int := if i < 0 then 0 else (gf l i.toNat).me
def knw (l : List Fact) (t c d : Int) : Int := fMe l (rsn l t c d)
theorem rsnTo_bd (l : List Fact) (t c d : Int) (k : Nat) : -1 ≤ rsnTo l t c d k ∧ rsnTo l t c d k < k := by
 induction k with
 | zero => simp [rsnTo]
 | succ k ih => simp only [rsnTo]; split <;> omega
theorem rsnTo_hit (l : List Fact) (t c d : Int) (k : Nat) (h : hit (gf l k) t c d = true) : rsnTo l t c d (k + 1) = k := by simp only [rsnTo, h, if_true]
theorem rsnTo_miss (l : List Fact) (t c d : Int) (k : Nat) (h : hit (gf l k) t c d = false) : rsnTo l t c d (k + 1) = rsnTo l t c d k := by simp [rsnTo, h]
theorem rsnTo_of_none (l : List Fact) (t c d : Int) (n : Nat) : ∀ m, (∀ i, n ≤ i → i < n + m → hit (gf l i) t c d = false) → rsnTo l t c d (n + m) = rsnTo l t c d n
 | 0, _ => rfl
 | m + 1, h => by rw [← Nat.add_assoc, rsnTo_miss _ _ _ _ _ (h _ (by omega) (by omega)), rsnTo_of_none l t c d n m (fun i h1 h2 => h i h1 (by omega))]
/-- How many facts are written at a minute: the first ones, if the table is sorted. -/
def IsCut (l : List Fact) (t : Int) (n : Nat) : Prop := n ≤ l.length ∧ (∀ i, i < n → (gf l i).at_ ≤ t) ∧ (∀ i, n ≤ i → i < l.length → t < (gf l i).at_)
theorem rsn_cut {l : List Fact} {t : Int} {n : Nat} (h : IsCut l t n) (c d : Int) : rsn l t c d = rsnTo l t c d n := by
 obtain ⟨m, hm⟩ := Nat.le.dest h.1
 unfold rsn
 rw [← hm]
 refine rsnTo_of_none l t c d n m fun i h1 h2 => ?_
 have := h.2.2 i h1 (by omega)
 simp [hit]; omega
structure Sp where
 fr : Int
 un : Int
 me : Int
instance : DecidableEq Sp := fun a b =>
 if h : a.fr = b.fr ∧ a.un = b.un ∧ a.me = b.me then isTrue (by cases a; cases b; simp_all) else isFalse (by rintro rfl; simp at h)
def gs (l : List Sp) (k : Nat) : Sp := l.getD k ⟨0, 0, 0⟩
/-- A day more. -/
def spAdd (out : List Sp) (d m : Int) : List Sp :=
 if 0 < out.length ∧ (gs out (out.length - 1)).un = d ∧ (gs out (out.length - 1)).me = m then out.set (out.length - 1) ⟨(gs out (out.length - 1)).fr, (gs out (out.length - 1)).un + 1, (gs out (out.length - 1)).me⟩
 else out ++ [⟨d, d + 1, m⟩]
def spTo (m : Nat → Int) (p : Nat → Bool) : Nat → List Sp
 | 0 => []
 | k + 1 => if p k then spAdd (spTo m p k) k (m k) else spTo m p k
theorem spTo_skip (m : Nat → Int) (p : Nat → Bool) (k : Nat) (h : p k = false) : spTo m p (k + 1) = spTo m p k := by simp [spTo, h]
theorem spTo_more (m : Nat → Int) (p : Nat → Bool) (k : Nat) (h : p k = true) (h2 : 0 < (spTo m p k).length ∧ (gs (spTo m p k) ((spTo m p k).length - 1)).un = k ∧ (gs (spTo m p k) ((spTo m p k).length - 1)).me = m k) :
  spTo m p (k + 1) = (spTo m p k).set ((spTo m p k).length - 1) ⟨(gs (spTo m p k) ((spTo m p k).length - 1)).fr, (gs (spTo m p k) ((spTo m p k).length - 1)).un + 1, (gs (spTo m p k) ((spTo m p k).length - 1)).me⟩ := by
 simp only [spTo, h, if_true, spAdd]
 rw [if_pos h2]
theorem spTo_new (m : Nat → Int) (p : Nat → Bool) (k : Nat) (h : p k = true) (h2 : ¬ (0 < (spTo m p k).length ∧ (gs (spTo m p k) ((spTo m p k).length - 1)).un = k ∧ (gs (spTo m p k) ((spTo m p k).length - 1)).me = m k)) :
  spTo m p (k + 1) = spTo m p k ++ [⟨k, k + 1, m k⟩] := by
 simp only [spTo, h, if_true, spAdd]
 rw [if_neg h2]
theorem fMe_bd {l : List Fact} (h : Vld l) (i : Int) (hi : i < l.length) : 0 ≤ fMe l i ∧ fMe l i ≤ 9 := by
 unfold fMe
 split
 ·omega
 ·have := (right_iff _).1 (h.right i.toNat (by omega)); omega
theorem knw_bd {l : List Fact} (h : Vld l) (t c d : Int) : 0 ≤ knw l t c d ∧ knw l t c d ≤ 9 := by
 have := rsnTo_bd l t c d l.length
 exact fMe_bd h _ this.2
end Go.Proofs.YtiapkffihpgdcaaGreatDoor
