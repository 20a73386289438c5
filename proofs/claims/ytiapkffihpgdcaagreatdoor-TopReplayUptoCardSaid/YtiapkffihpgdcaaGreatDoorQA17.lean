import Derived.Test.YtiapkffihpgdcaaGreatDoorQA14
import Derived.Test.YtiapkffihpgdcaaGreatDoorQA15
import Derived.Test.YtiapkffihpgdcaaGreatDoorQA16
import Derived.StillTailTactics
import Derived.BigQuiet
import Derived.Deep.RegionHeld3
import Derived.Deep.RegionLaw
set_option linter.unusedVariables false
set_option linter.unusedSimpArgs false
set_option maxRecDepth 100000
namespace Go.Proofs.YtiapkffihpgdcaaGreatDoor
open Go.RowKit
/-- The place of a dish; -1 if there is none. -/
def dix (l : List Dh) (n : Wd) : Int := match l.findIdx? (fun x => decide (x.name = n)) with
 | some i => i
 | none => -1
theorem dix_none {l : List Dh} {n : Wd} (h : dishB l n = false) : dix l n = -1 := by
 unfold dishB at h
 rw [anyTo_false] at h
 unfold dix
 rw [List.findIdx?_eq_none_iff.2 fun x hx => ?_]
 obtain ⟨i, hi, rfl⟩ := List.mem_iff_getElem.1 hx
 have := h i hi
 simpa [gd, hi] using this
theorem dix_first {l : List Dh} {n : Wd} {k : Nat} (hk : k < l.length) (h : (gd l k).name = n) (hb : anyTo (fun i => decide ((gd l i).name = n)) k = false) : dix l n = k := by
 rw [anyTo_false] at hb
 unfold dix
 have e : l.findIdx? (fun x => decide (x.name = n)) = some k := by
  rw [List.findIdx?_eq_some_iff_getElem]
  refine ⟨hk, ?_, fun j hj => ?_⟩
  ·simpa [gd, hk] using h
  ·have := hb j hj
   simp [gd, show j < l.length by omega] at this
   simpa using this
 rw [e]
theorem dix_some {l : List Dh} {n : Wd} (h : dishB l n = true) : ∃ k : Nat, k < l.length ∧ dix l n = k ∧ (gd l k).name = n ∧ gd l k = dshOf l n := by
 unfold dishB at h
 rw [anyTo_iff] at h
 obtain ⟨i, hi, hn⟩ := h
 obtain ⟨k, hk⟩ : ∃ k, (l.findIdx? fun x => decide (x.name = n)) = some k := by
  cases hf : l.findIdx? fun x => decide (x.name = n) with
  | some k => exact ⟨k, rfl⟩
  | none =>
   have := List.findIdx?_eq_none_iff.1 hf l[i] (List.getElem_mem hi)
   simp [gd, hi] at hn
   simp [hn] at this
 obtain ⟨h1, h2, h3⟩ := List.findIdx?_eq_some_iff_getElem.1 hk
 refine ⟨k, h1, by unfold dix; rw [hk], by simpa [gd, h1] using h2, ?_⟩
 have e : l.find? (fun x => decide (x.name = n)) = some l[k] := by
  rw [List.find?_eq_some_iff_getElem]
  exact ⟨h2, k, h1, rfl, fun j hj => by simpa using h3 j hj⟩
 unfold dshOf
 rw [e]
 simp [gd, h1]
theorem dix_no {l : List Dh} {n : Wd} (hh : dishB l n = false) : decide (dix l n < 0) = true ∧ decide (0 ≤ dix l n) = false := by rw [dix_none hh]; exact ⟨rfl, rfl⟩
theorem dix_yes {l : List Dh} {n : Wd} (hh : dishB l n = true) : decide (dix l n < 0) = false ∧ decide (0 ≤ dix l n) = true := by
 obtain ⟨k, _, hk, _⟩ := dix_some hh
 rw [hk, decide_eq_false_iff_not, decide_eq_true_eq]; omega
set_option maxHeartbeats 800000 in
theorem indexDish_serve (l : List Dh) (n : Wd) (hl : l.length ≤ 1000000000) (A : Option Addr) (c b : Nat) (w : World) (hR : RDh (fun _ => True) w A l) (hb : w.cell? ⟨b, 0, none⟩ = some (St n)) (hbs : b < w.heap.size) :
  Calls Tryz.prog 104 #[.slice A l.length c, .func (.func 286) #[] #[.pointer (some ⟨b, 0, none⟩)]] w fun e w' => e = .returned (.int .i64 (dix l n)) ∧ Below w.heap.size w w' := by
 obtain ⟨S, hS⟩ : ∃ S, S = dix l n := ⟨_, rfl⟩
 rw [← hS]
 have HS := Lib.hid hS; clear hS
 go_enter Tryz.func104, Tryz.ntmps104
 go_wp2
 go_loopw [8] (fun x wr => ∃ k : Nat, k ≤ l.length ∧ x = .int .i64 k ∧ Hid (anyTo (fun i => decide ((gd l i).name = n)) k = false) ∧ Below w.heap.size w wr) (fun x _ => l.length - (intOf x).toNat)
 case atStart => exact ⟨0, by omega, rfl, rfl, Below.refl _ _⟩
 case round =>
  obtain ⟨k, hkl, rfl, HK, hbl⟩ := hrel
  have hbr := (hbl.cell (p := ⟨b, 0, none⟩) hbs).trans hb
  have hsz := hbl.size
  by_cases hlt : k < l.length
  ·obtain ⟨ad, rfl, hab, _, d0, d1⟩ := R2.at_ (R2.below hR hbl) hlt
   obtain ⟨nm, hnm⟩ : ∃ nm, nm = (gd l k).name := ⟨_, rfl⟩
   have HNM := Lib.hid hnm
   rw [← hnm] at d0
   clear hnm
   obtain ⟨w5, hw5⟩ : ∃ w5, wr.alloc (.cells #[St nm, .int .i64 (gd l k).item] 81) = w5 := ⟨_, rfl⟩
   have hb5 : Below wr.heap.size wr w5 := by rw [← hw5]; exact (Below.refl _ wr).alloc (Nat.le_refl _) _
   have b5 : Box w5 wr.heap.size #[St nm, .int .i64 (gd l k).item] := by rw [← hw5]; exact (Box.new wr _ _)
   have u0 := b5.cell 0
   simp only [List.getElem?_toArray, List.getElem?_cons_zero, List.getElem?_cons_succ] at u0
   have hbr5 := (hb5.cell (p := ⟨b, 0, none⟩) (by show b < wr.heap.size; omega)).trans hbr
   have hbl5 := hbl.trans (hb5.mono hsz)
   by_cases hn : nm = n
   ·have HV := Lib.hid (HS.out.trans (dix_first hlt (by rw [← HNM.out]; exact hn) HK.out))
    have hn' : (nm == n) = true := by simp [hn]
    clear HS HK hn
    go_wp2
    go_ret
    exact ⟨ret_int HV.out.symm, hbl5⟩
   ·have HN : Hid (anyTo (fun i => decide ((gd l i).name = n)) (k + 1) = false) := by
     show _ = _
     simp only [anyTo]
     rw [HK.out, ← HNM.out, decide_eq_false hn]; rfl
    have hn' : (nm == n) = false := by simp [hn]
    clear HS HK hn
    go_wp2
    go_roundw
    case rel => exact ⟨k + 1, by omega, by go_num, HN, hbl5⟩
    case measure => simp [intOf]; omega
  ·obtain rfl : k = l.length := by omega
   have HV := Lib.hid (HS.out.trans (dix_none HK.out))
   clear HS HK
   go_wp2
   go_ret
   exact ⟨ret_int HV.out.symm, hbl⟩
set_option maxHeartbeats 800000 in
theorem indexDish_label (l : List Dh) (n : Wd) (hl : l.length ≤ 1000000000) (A : Option Addr) (c b : Nat) (w : World) (hR : RDh (fun _ => True) w A l) (hb : w.cell? ⟨b, 0, none⟩ = some (St n)) (hbs : b < w.heap.size) :
  Calls Tryz.prog 104 #[.slice A l.length c, .func (.func 105) #[] #[.pointer (some ⟨b, 0, none⟩)]] w fun e w' => e = .returned (.int .i64 (dix l n)) ∧ Below w.heap.size w w' := by
 obtain ⟨S, hS⟩ : ∃ S, S = dix l n := ⟨_, rfl⟩
 rw [← hS]
 have HS := Lib.hid hS; clear hS
 go_enter Tryz.func104, Tryz.ntmps104
 go_wp2
 go_loopw [8] (fun x wr => ∃ k : Nat, k ≤ l.length ∧ x = .int .i64 k ∧ Hid (anyTo (fun i => decide ((gd l i).name = n)) k = false) ∧ Below w.heap.size w wr) (fun x _ => l.length - (intOf x).toNat)
 case atStart => exact ⟨0, by omega, rfl, rfl, Below.refl _ _⟩
 case round =>
  obtain ⟨k, hkl, rfl, HK, hbl⟩ := hrel
  have hbr := (hbl.cell (p := ⟨b, 0, none⟩) hbs).trans hb
  have hsz := hbl.size
  by_cases hlt : k < l.length
  ·obtain ⟨ad, rfl, hab, _, d0, d1⟩ := R2.at_ (R2.below hR hbl) hlt
   obtain ⟨nm, hnm⟩ : ∃ nm, nm = (gd l k).name := ⟨_, rfl⟩
   have HNM := Lib.hid hnm
   rw [← hnm] at d0
   clear hnm
   obtain ⟨w5, hw5⟩ : ∃ w5, wr.alloc (.cells #[St nm, .int .i64 (gd l k).item] 81) = w5 := ⟨_, rfl⟩
   have hb5 : Below wr.heap.size wr w5 := by rw [← hw5]; exact (Below.refl _ wr).alloc (Nat.le_refl _) _
   have b5 : Box w5 wr.heap.size #[St nm, .int .i64 (gd l k).item] := by rw [← hw5]; exact (Box.new wr _ _)
   have u0 := b5.cell 0
   simp only [List.getElem?_toArray, List.getElem?_cons_zero, List.getElem?_cons_succ] at u0
   have hbr5 := (hb5.cell (p := ⟨b, 0, none⟩) (by show b < wr.heap.size; omega)).trans hbr
   have hbl5 := hbl.trans (hb5.mono hsz)
   by_cases hn : nm = n
   ·have HV := Lib.hid (HS.out.trans (dix_first hlt (by rw [← HNM.out]; exact hn) HK.out))
    have hn' : (nm == n) = true := by simp [hn]
    clear HS HK hn
    go_wp2
    go_ret
    exact ⟨ret_int HV.out.symm, hbl5⟩
   ·have HN : Hid (anyTo (fun i => decide ((gd l i).name = n)) (k + 1) = false) := by
     show _ = _
     simp only [anyTo]
     rw [HK.out, ← HNM.out, decide_eq_false hn]; rfl
    have hn' : (nm == n) = false := by simp [hn]
    clear HS HK hn
    go_wp2
    go_roundw
    case rel => exact ⟨k + 1, by omega, by go_num, HN, hbl5⟩
    case measure => simp [intOf]; omega
  ·obtain rfl : k = l.length := by omega
   have HV := Lib.hid (HS.out.trans (dix_none HK.out))
   clear HS HK
   go_wp2
   go_ret
   exact ⟨ret_int HV.out.symm, hbl⟩
set_option maxHeartbeats 800000 in
theorem containsDish_any (l : List Dh) (n : Wd) (hl : l.length ≤ 1000000000) (A : Option Addr) (c b : Nat) (w : World) (hR : RDh (fun _ => True) w A l) (hb : w.cell? ⟨b, 0, none⟩ = some (St n)) (hbs : b < w.heap.size) :
  Calls Tryz.prog 285 #[.slice A l.length c, .func (.func 286) #[] #[.pointer (some ⟨b, 0, none⟩)]] w fun e w' => e = .returned (.bool (dishB l n)) ∧ Below w.heap.size w w' := by
 have hd : decide (0 ≤ dix l n) = dishB l n := by
  cases h : dishB l n with
  | true => exact (dix_yes h).2
  | false => exact (dix_no h).2
 have HD := Lib.hid hd
 clear hd
 go_enter Tryz.func285, Tryz.ntmps285
 go_wp2_with (go_at_call 104; (with_reducible refine (indexDish_serve l n hl A c b _ hR hb hbs).mono ?_); rintro e w2 ⟨rfl, hb2⟩)
 go_ret
 exact ⟨ret_bool HD.out, hb2⟩
end Go.Proofs.YtiapkffihpgdcaaGreatDoor
namespace Go.Proofs.YtiapkffihpgdcaaGreatDoor
open Go.RowKit Go.Sort
def chgQ (s : Of) (av : List Int) (f t : Int) (d : Nat) : Bool := decide (f ≤ d ∧ (d : Int) < t) && dayHarm s av d
theorem chgQ_start (s : Of) (av : List Int) (f t : Int) : anyTo (chgQ s av f t) (min f.toNat s.days) = false := by
 rw [anyTo_false]
 intro i hi
 unfold chgQ
 rw [decide_eq_false (by omega)]; rfl
theorem chgQ_step {s : Of} {av : List Int} {f t : Int} {k : Nat} (h : anyTo (chgQ s av f t) (min k s.days) = false) (hd : k < s.days) (hh : dayHarm s av k = false) : anyTo (chgQ s av f t) (min (k + 1) s.days) = false := by
 rw [anyTo_false] at h ⊢
 intro i hi
 by_cases e : i = k
 ·subst e; unfold chgQ; rw [hh, Bool.and_false]
 ·exact h i (by omega)
theorem chgQ_end {s : Of} {av : List Int} {f t : Int} {k : Nat} (h : anyTo (chgQ s av f t) (min k s.days) = false) (he : ¬ (k : Int) < min t s.days) : ordHarm s av f t = false := by
 unfold ordHarm
 rw [anyTo_false] at h ⊢
 intro i hi
 by_cases e : i < k
 ·exact h i (by omega)
 ·rw [decide_eq_false (by omega)]; rfl
theorem chgQ_hit {s : Of} {av : List Int} {f t : Int} {k : Nat} (hf : f ≤ k) (ht : (k : Int) < t) (hd : k < s.days) (hh : dayHarm s av k = true) : ordHarm s av f t = true := by
 unfold ordHarm
 rw [anyTo_iff]
 exact ⟨k, hd, by rw [hh, decide_eq_true (by omega)]; rfl⟩
theorem dayHarm_no {s : Of} {av : List Int} {k : Nat} (h : ¬ (0 ≤ s.menu k ∧ s.menu k < s.dishes.length)) : dayHarm s av k = false := by unfold dayHarm; rw [decide_eq_false h]; rfl
theorem dayHarm_yes {s : Of} {av : List Int} {k : Nat} (h : 0 ≤ s.menu k ∧ s.menu k < s.dishes.length) : dayHarm s av k = harmB s.bk (gd s.dishes (s.menu k).toNat).item av := by unfold dayHarm; rw [decide_eq_true h]; rfl
theorem RN.cellk {w : World} {ad : Addr} {l : List Int} (h : RN w (some ad) l) {k : Nat} (hk : k < l.length) (h0 : 0 < k) : w.cell? ⟨ad.block, ad.off + k, none⟩ = some (.int .i64 (gi l k)) := by
 obtain ⟨ad', e, _, hc⟩ := h.at_ hk
 cases e
 have : ad.add k = ⟨ad.block, ad.off + k, none⟩ := by unfold Addr.add; rw [if_neg (by omega)]
 rw [this] at hc; exact hc
section
variable {L : Int} {N : Nat} {w : World} {F : Nat → Prop} {g : Nat} {h : Hd} {s : Of}
theorem mnL_len (s : Of) : (mnL s.tm s.cy).length = s.days := mnL_length _ _
theorem mnL_gi (s : Of) {k : Nat} (hk : k < s.days) : gi (mnL s.tm s.cy) k = s.menu k := mnL_at _ _ _ hk
set_option maxHeartbeats 3200000 in
theorem order_any (hP : PO L N w F g h s) (hE : EnvZ w) (n : List Int) (hn : n.length = 3) (h1 : 0 ≤ gi n 1) (A : Option Addr) (c : Nat) (hR : RN w A n) :
  Calls Tryz.prog 238 #[.pointer (some ⟨g, 0, none⟩), .slice A n.length c, .int .i64 1] w (RetO L N w F g (chgE s n 1) (if chgE s n 1 = 0 then { s with facts := s.facts ++ [chgF s n 1] } else s)) := by
 obtain ⟨ad, rfl, hab0, e0⟩ := hR.at0 (by omega)
 have e1 := hR.cellk (k := 1) (by omega) (by omega)
 have e2 := hR.cellk (k := 2) (by omega) (by omega)
 rw [hn]
 cases hk : hasK s.kids (gi n 0) with
 | false =>
  have he : chgE s n 1 = 5 := by unfold chgE; rw [if_pos hk]
  rw [he, if_neg (by decide)]
  have hk' := kix_no hk
  rw [decide_eq_true_eq] at hk'
  clear he
  go_enter Tryz.func238, Tryz.ntmps238
  go_wp2_with (go_at_call 173; (with_reducible refine (child_any hP (gi n 0)).mono ?_); rintro e w2 ⟨rfl, hb2⟩)
  go_ret
  exact hP.quiet (Nat.le_refl _) hb2
 | true =>
  obtain ⟨i, hi, hix, hin, hio⟩ := kix_some hk
  have hE1 : chgE s n 1 = if ordHarm s (gk s.kids i).avoid (gi n 1) (gi n 2) = true then 14 else addE s.facts (chgF s n 1) := by
   unfold chgE
   rw [if_neg (by rw [hk]; decide), ← hio]
   by_cases ho : ordHarm s (gk s.kids i).avoid (gi n 1) (gi n 2) = true
   ·rw [if_pos ⟨rfl, ho⟩, if_pos ho]
   ·rw [if_neg (fun h => ho h.2), if_neg ho]
  have HE1 := Lib.hid hE1
  have HIX := Lib.hid hix
  have hkx := kix_yes hk
  rw [decide_eq_false_iff_not] at hkx
  clear hE1 hin hio hk hix
  obtain ⟨av, hav⟩ : ∃ av, av = (gk s.kids i).avoid := ⟨_, rfl⟩
  rw [← hav] at HE1
  have HAV := Lib.hid hav
  clear hav
  obtain ⟨E, hE⟩ : ∃ E, E = chgE s n 1 := ⟨_, rfl⟩
  rw [← hE] at HE1 ⊢
  obtain ⟨T, hT⟩ : ∃ T, T = if E = 0 then { s with facts := s.facts ++ [chgF s n 1] } else s := ⟨_, rfl⟩
  rw [← hT]
  have HT := Lib.hid hT
  have HEE := Lib.hid hE
  clear hT hE
  have hi0 : decide ((i : Int) < 0) = false := by rw [decide_eq_false_iff_not]; omega
  have hdl := days_le hP.ok.tm
  go_enter Tryz.func238, Tryz.ntmps238
  go_wp2_with (go_at_call 173; (with_reducible refine (child_any hP (gi n 0)).mono ?_); rintro e w1 ⟨rfl, hb1⟩; have HIXX := HIX.out; rw [HIXX]; clear HIXX; have y0 := (hb1.cell hab0).trans e0; have y1 := (hb1.cell (p := ⟨ad.block, ad.off + 1, none⟩) hab0).trans e1; have y2 := (hb1.cell (p := ⟨ad.block, ad.off + 2, none⟩) hab0).trans e2)
  go_loopw [8] (fun x wr => ∃ k : Nat, gi n 1 ≤ k ∧ x = .int .i64 k ∧ Hid (anyTo (chgQ s av (gi n 1) (gi n 2)) (min k s.days) = false) ∧ Below w1.heap.size w1 wr) (fun x _ => s.days - (intOf x).toNat)
  case atStart => exact ⟨(gi n 1).toNat, by omega, by rw [Int.toNat_of_nonneg h1], chgQ_start _ _ _ _, Below.refl _ _⟩
  case round =>
   obtain ⟨k, hk1, rfl, HK, hbl⟩ := hrel
   have hPr := hP.below (hb1.trans (hbl.mono hb1.size))
   have qM := hPr.cMn
   have hab1 : ad.block < w1.heap.size := Nat.lt_of_lt_of_le hab0 hb1.size
   have z2 := (hbl.cell (p := ⟨ad.block, ad.off + 2, none⟩) hab1).trans y2
   rw [mnL_len] at qM
   by_cases hlt : (k : Int) < min (gi n 2) (s.days : Int)
   ·have hlt' : decide ((k : Int) < min (gi n 2) (s.days : Int)) = true := by rw [decide_eq_true_eq]; exact hlt
    have hkd : k < s.days := by omega
    have hk2 : (k : Int) < gi n 2 := by omega
    go_wp2_with fail
    go_quiet (fail)
    have hbd : Below w.heap.size w (wr.drewN nq) := below_drewN (hb1.trans (hbl.mono hb1.size)) nq
    have hbw : Below w1.heap.size w1 (wr.drewN nq) := below_drewN hbl nq
    clear hPr qM z2 hbl hlt'
    generalize wr.drewN nq = wd at *
    have hPd := hP.below hbd
    have hEd := hE.below hbd
    have qM := hPd.cMn; have qD := hPd.cDs; have qK := hPd.cKd
    rw [mnL_len] at qM
    obtain ⟨adm, em, hmb, cm⟩ := hPd.mn.rn.at_ (k := k) (by rw [mnL_len]; exact hkd)
    rw [em] at qM
    rw [mnL_gi s hkd] at cm
    obtain ⟨m, hm⟩ : ∃ m, s.menu k = m := ⟨_, rfl⟩
    rw [hm] at cm
    have HM := Lib.hid hm
    clear hm em
    by_cases hm0 : 0 ≤ m
    ·obtain ⟨j, rfl⟩ : ∃ j : Nat, m = j := ⟨m.toNat, by omega⟩
     by_cases hj : j < s.dishes.length
     ·obtain ⟨adD, eD, hbD, dD0, dD1⟩ := hPd.dish.at_ hj
      obtain ⟨adK, eK, hbK, _, dK0, dK1⟩ := hPd.kids.at_ hi
      rw [eD] at qD
      rw [eK] at qK
      unfold slN at dK1
      have hvd := (hPd.av i hi).rn
      have hp0 := hP.ok.bk.p0
      have hp10 := hP.ok.bk.p10
      have hvl : (gk s.kids i).avoid.length ≤ 1000000000 := by have := isSet_len (hP.ok.ka _ (gk_mem hi)) (by omega); omega
      rw [← HAV.out] at dK1 hvd hvl
      have hdy : dayHarm s av k = harmB s.bk (gd s.dishes j).item av := by
       rw [dayHarm_yes (by rw [HM.out]; omega), HM.out]; rfl
      obtain ⟨it, hit⟩ : ∃ it, it = (gd s.dishes j).item := ⟨_, rfl⟩
      rw [← hit] at hdy dD1
      obtain ⟨nu, hnu⟩ : ∃ nu, nu = (gk s.kids i).num := ⟨_, rfl⟩
      rw [← hnu] at dK0
      obtain ⟨H, hH⟩ : ∃ H, H = harmB s.bk it av := ⟨_, rfl⟩
      rw [← hH] at hdy
      have cA : ∀ d' os, Calls Tryz.prog 211 #[.pointer (some ⟨g, 0, none⟩), .agg #[.int .i64 nu, .slice (h.hk i).1 av.length (h.hk i).2], .int .i64 it] (grow (redrawn wd d') os) fun e w'' => e = .returned (.bool H) ∧ ∃ p : Regrown, w'' = grow (redrawn wd p.d) p.os := fun d' os => by
       have hbg := below_regrown wd d' os
       rw [hH]
       exact Calls.regrown_of (harms_any (hPd.below hbg) (hEd.below hbg) nu av hvl _ _ (hvd.below hbg) it)
      have k0 := cell_regrown qD; have k1 := cell_regrown qK; have k2 := cell_regrown dD1; have k3 := cell_regrown dK0; have k4 := cell_regrown dK1
      have HDY := Lib.hid hdy
      clear eD eK hit hnu hH hdy dD0 hvl hvd hbD hbK
      have hm0' : decide (0 ≤ (j : Int)) = true := by rw [decide_eq_true_eq]; omega
      have hj' : decide ((j : Int) < (s.dishes.length : Int)) = true := by rw [decide_eq_true_eq]; omega
      cases H with
      | true =>
       have hE14 : E = 14 := by rw [HE1.out, if_pos (chgQ_hit hk1 hk2 hkd HDY.out)]
       have HE14 := Lib.hid hE14
       clear hE14
       go_wp2_with fail
       refine wp_region_quiet_below (by kernel_rfl) (by kernel_rfl) ?_
       repeat (go_big_quiet_step (first | with_reducible exact cA _ _))
       refine wpQuiet_nil ?_
       intro _ hw'
       obtain ⟨⟨dq, osq⟩, hw''⟩ := hw'
       subst hw''
       go_wp2_with fail
       go_ret
       rw [show T = s by rw [HT.out, HE14.out]; rfl, HE14.out]
       exact hP.quiet (Nat.le_refl _) (hbd.trans ((below_regrown wd dq osq).mono hbd.size))
      | false =>
       have hst := chgQ_step (f := gi n 1) (t := gi n 2) HK.out hkd HDY.out
       have HST := Lib.hid hst
       clear hst
       go_wp2_with fail
       refine wp_region_quiet_below (by kernel_rfl) (by kernel_rfl) ?_
       repeat (go_big_quiet_step (first | with_reducible exact cA _ _))
       refine wpQuiet_nil ?_
       intro _ hw'
       obtain ⟨⟨dq, osq⟩, hw''⟩ := hw'
       subst hw''
       go_wp2_with fail
       go_roundw
       case rel => exact ⟨k + 1, by omega, by go_num, HST, hbw.trans ((below_regrown wd dq osq).mono hbw.size)⟩
       case measure => simp [intOf]; omega
     ·have hst := chgQ_step (f := gi n 1) (t := gi n 2) HK.out hkd (dayHarm_no (by rw [HM.out]; omega))
      have HST := Lib.hid hst
      have hm0' : decide (0 ≤ (j : Int)) = true := by rw [decide_eq_true_eq]; omega
      have hj' : decide ((j : Int) < (s.dishes.length : Int)) = false := by rw [decide_eq_false_iff_not]; omega
      clear hst
      go_wp2_with fail
      go_quiet (fail)
      go_wp2_with fail
      go_roundw
      case rel => exact ⟨k + 1, by omega, by go_num, HST, below_drewN hbw _⟩
      case measure => simp [intOf]; omega
    ·have hst := chgQ_step (f := gi n 1) (t := gi n 2) HK.out hkd (dayHarm_no (by rw [HM.out]; omega))
     have HST := Lib.hid hst
     have hm0' : decide (0 ≤ m) = false := by rw [decide_eq_false_iff_not]; omega
     clear hst
     go_wp2_with fail
     go_quiet (fail)
     go_wp2_with fail
     go_roundw
     case rel => exact ⟨k + 1, by omega, by go_num, HST, below_drewN hbw _⟩
     case measure => simp [intOf]; omega
   ·have hlt' : decide ((k : Int) < min (gi n 2) (s.days : Int)) = false := by rw [decide_eq_false_iff_not]; exact hlt
    have hE2 : E = addE s.facts (chgF s n 1) := by rw [HE1.out, if_neg (by rw [chgQ_end HK.out hlt]; decide)]
    have HE2 := Lib.hid hE2
    clear hE2
    go_wp2_with fail
    go_quiet (fail)
    have hbd : Below w.heap.size w (wr.drewN nq) := below_drewN (hb1.trans (hbl.mono hb1.size)) nq
    clear hPr qM z2 hlt'
    generalize wr.drewN nq = wd at *
    have hPd := hP.below hbd
    have qF := hPd.cFa; have qN := hPd.cNow
    have hab2 : ad.block < w.heap.size := hab0
    have z0 := (hbd.cell hab2).trans e0
    have z1 := (hbd.cell (p := ⟨ad.block, ad.off + 1, none⟩) hab2).trans e1
    have z2 := (hbd.cell (p := ⟨ad.block, ad.off + 2, none⟩) hab2).trans e2
    go_wp2_with fail
    have hfl := hP.ok.fl
    have hgl := hPd.gl
    have hab3 : ad.block < wd.heap.size := Nat.lt_of_lt_of_le hab2 hbd.size
    have hRF := hPd.rf
    go_region_held3 (fun w' => w'.cell? ⟨g, 15, none⟩ = some (.slice h.fa.1 s.facts.length h.fa.2) ∧ w'.cell? ⟨g, 12, none⟩ = some (.int .i64 s.now) ∧ w'.cell? ad = some (.int .i64 (gi n 0)) ∧ w'.cell? ⟨ad.block, ad.off + 1, none⟩ = some (.int .i64 (gi n 1)) ∧ w'.cell? ⟨ad.block, ad.off + 2, none⟩ = some (.int .i64 (gi n 2)))
     (first | go_keep | exact ⟨k0, k1, k2, k3, k4⟩)
     (first | (go_at_call 290; refine (addX_any s.facts (chgF s n 1) (by omega) h.fa.1 h.fa.2 wd.heap.size _ ?_).mono ?_; (first | exact hRF | exact hRF.drew); rintro e w2 ⟨A', c', rfl, own2, hb2⟩; have hb2' : Below wd.heap.size wd w2 := ((Below.refl wd.heap.size wd).drew).trans hb2; have k0 := (hb2'.cell (p := ⟨g, 15, none⟩) hgl).trans qF; have k1 := (hb2'.cell (p := ⟨g, 12, none⟩) hgl).trans qN; have k2 := (hb2'.cell hab3).trans z0; have k3 := (hb2'.cell (p := ⟨ad.block, ad.off + 1, none⟩) hab3).trans z1; have k4 := (hb2'.cell (p := ⟨ad.block, ad.off + 2, none⟩) hab3).trans z2))
    have hb5 := hbd.trans (hb2'.mono hbd.size)
    have hP4 := hP.below' hb5
    have hgf := hP4.box.free 15
    obtain ⟨X, hX⟩ : ∃ X, X = addE s.facts (chgF s n 1) := ⟨_, rfl⟩
    rw [← hX]
    by_cases hv : X = 0
    ·have hv1 : (X == 0) = true := by simp [hv]
     have hEz : E = 0 := by rw [HE2.out, ← hX, hv]
     have hz := addE_zero (hX.symm.trans hv)
     have haR : addR s.facts (chgF s n 1) = s.facts ++ [chgF s n 1] := by unfold addR; rw [if_pos hz]
     rw [haR] at own2
     have hT2 : T = { s with facts := s.facts ++ [chgF s n 1] } := by rw [HT.out, if_pos hEz]
     have hR4 : ReadsF (Im (grown F w w2) g h) w2 5 A' (s.facts ++ [chgF s n 1]).length (cellsF (s.facts ++ [chgF s n 1])) := ReadsF.of_own' own2 (fun k h1 h2 => hP.new_im (Nat.le_trans hbd.size h1) h2)
     have hok := hP.ok.chg (n := n) (.inr rfl) (by rw [← HEE.out]; exact hEz)
     have hS := hP4.setFacts (c := c') hR4 own2.cap hok
     have HT2 := Lib.hid hT2
     have HEz := Lib.hid hEz
     have HaR := Lib.hid haR
     have HX := Lib.hid hX
     have HV := Lib.hid hv
     clear hT2 hR4 hEz haR hX hv hz
     go_wp2_with fail
     go_ret
     rw [HT2.out, HEz.out, HaR.out, HV.out]
     exact ⟨rfl, (Off.of_below hb5).setCell (.inl hP.gF) _, _, hS.re fun k => (grown_set _ _ k).symm⟩
    ·have hv1 : (X == 0) = false := by simp [hv]
     have hT2 : T = s := by rw [HT.out, if_neg (by rw [HE2.out, ← hX]; exact hv)]
     have hEX : E = X := by rw [HE2.out, hX]
     have HT2 := Lib.hid hT2
     have HEX := Lib.hid hEX
     clear hT2 hv hX hEX
     go_wp2_with fail
     go_ret
     rw [HT2.out, HEX.out]
     exact hP.quiet (Nat.le_refl _) hb5
end
end Go.Proofs.YtiapkffihpgdcaaGreatDoor
namespace Go.Proofs.YtiapkffihpgdcaaGreatDoor
open Go.RowKit
/-- As step_app2, but tells all that the append leaves. -/
theorem step_app3 {P : Program} {W : World} {ops : Array Oper} {o : Oper} {a : Act} {K : Act → World → Prop} {Q : Exit → Act → World → Prop} {E : Prop} (hgd : o.guard = none) (s x : Operand) {t e : TypeId}
    (ho : o.op = .call { callee := .builtin .append, args := #[s, x], argTypes := #[t, t] }) {z : Value} {size bytes : Nat} (ht : P.underlying t = some (.slice e))
    (hinfo : (P.info? e).map (fun i => (i.zero, i.size, i.bytes)) = some (some z, size, bytes)) (hzs : z.cells.size = size) (hsz : 0 < size)
    {base : Nat} {A : Option Addr} {n c : Nat} {xs : List Value} (hs : a.eval s = .slice A n c) (hown : W.ownsRow base e size (.slice A n c) n xs)
    {news : List Value} (ad : Addr) (hx : a.eval x = .slice (some ad) 1 1) (hl : news.length = size) (hnews : ∀ j u, news[j]? = some u → W.cell? (ad.add j) = some u) (h1 : ∀ u ∈ news, u.oneCell' = true)
    (hn : n + 1 ≤ 1000000000) (hbytes : bytes ≤ 1000) (hbase : base ≤ W.heap.size)
    (h : ∀ A' c' w', w'.ownsRow base e size (.slice A' (n + 1) c') (n + 1) (xs ++ news) → W.grownBy w' (blkOf (A, c)) → (blkOf (A', c') = blkOf (A, c) ∨ blkOf (A', c') = some W.heap.size) → K (a.put o.dst (.slice A' (n + 1) c')) w') :
    if Region.wanted o (yielded ops a.tmps) = true then Oper.wp P o a W K Q else E := by
  have hw : Region.wanted o (yielded ops a.tmps) = true := by simp [Region.wanted, hgd]
  rw [if_pos hw]
  obtain ⟨i, hi, hz0, hz1, hz2⟩ := info_parts hinfo
  have hb : (n + 1) * bytes ≤ 140737488355328 := by
    have : (n + 1) * bytes ≤ 1000000000 * 1000 := Nat.mul_le_mul hn hbytes
    omega
  have e1 : (Value.slice A n c).ownBlock = blkOf (A, c) := own_blk (A, c) n
  refine wp_append_any W s x t ho base e i z size bytes ht hi hz0 hz1 hz2 hzs hsz _ n xs hs hown (ad.block + 1) (some ad) 1 1 news hx ⟨by omega, fun _ => ⟨ad, rfl, by omega, hnews⟩⟩ h1 (by unfold maxLen; omega) hb hbase ?_
  intro v' w' hown' hg hx'
  obtain ⟨A', c', hv⟩ := own_shape hown'
  rw [hv] at hown' hx'
  rw [hv]
  rw [e1] at hg hx'
  have e2 : (Value.slice A' (n + 1) c').ownBlock = blkOf (A', c') := own_blk (A', c') (n + 1)
  rw [e2] at hx'
  exact h A' c' w' hown' hg hx'
theorem info_dish : (Tryz.prog.info? 81).map (fun i => (i.zero, i.size, i.bytes)) = some (some (.agg #[St [], .int .i64 0]), 2, 24) := by kernel_rfl
section
variable {L : Int} {N : Nat} {w : World} {F : Nat → Prop} {g : Nat} {h : Hd} {s : Of}
set_option maxHeartbeats 3200000 in
theorem serve_any (hP : PO L N w F g h s) (hE : EnvZ w) (name : Wd) (hn : letB name = true) (hn60 : name.length ≤ 1000000000) (item : Int) (h0 : 0 ≤ item) :
  Calls Tryz.prog 236 #[.pointer (some ⟨g, 0, none⟩), St name, .int .i64 item] w (RetO L N w F g (serE s name item) (if serE s name item = 0 then { s with dishes := s.dishes ++ [⟨name, item⟩] } else s)) := by
 have hne : 0 < name.length := by
  cases name with
  | nil => simp [letB] at hn
  | cons a r => simp
 obtain ⟨E, hEE⟩ : ∃ E, E = serE s name item := ⟨_, rfl⟩
 rw [← hEE]
 obtain ⟨T, hT⟩ : ∃ T, T = if E = 0 then { s with dishes := s.dishes ++ [⟨name, item⟩] } else s := ⟨_, rfl⟩
 rw [← hT]
 have HT := Lib.hid hT
 have HE := Lib.hid hEE
 clear hT hEE
 obtain ⟨w2, hw2⟩ : ∃ w2, w.alloc (.cells #[St name] 9) = w2 := ⟨_, rfl⟩
 have hy : Below w.heap.size w w2 := by rw [← hw2]; exact (Below.refl _ w).alloc (Nat.le_refl _) _
 have b0 : Box w2 w.heap.size #[St name] := by rw [← hw2]; exact Box.new w _ _
 have x0 := b0.cell 0
 simp only [List.getElem?_toArray, List.getElem?_cons_zero, List.getElem?_cons_succ] at x0
 have hP2 := hP.below hy
 have hE2 := hE.below hy
 have q13 := hP2.cDs; have q5 := hP2.cN; have q9 := hP2.cItems
 have hdl := hP.ok.dl
 have hcn := hP.ok.cy.n2
 have hbd : ∀ {c : Int} {w' : World}, E = c → c ≠ 0 → Below w2.heap.size w2 w' → RetO L N w F g E T (.returned (.int .i64 c)) w' := fun {c w'} h1 h2 hb => by
  have : T = s := by rw [HT.out, if_neg (by rw [h1]; exact h2)]
  rw [this, h1]
  exact hP.quiet (Nat.le_refl _) (hy.trans (hb.mono hy.size))
 have HBD : Hid (∀ {c : Int} {w' : World}, E = c → c ≠ 0 → Below w2.heap.size w2 w' → RetO L N w F g E T (.returned (.int .i64 c)) w') := hbd
 clear hbd
 by_cases hc : s.cy.n ≤ (s.dishes.length : Int)
 ·have hc' : decide (s.cy.n ≤ (s.dishes.length : Int)) = true := by rw [decide_eq_true_eq]; exact hc
  have HV := Lib.hid (show E = 12 by rw [HE.out, serE, if_pos hc])
  go_enter Tryz.func236, Tryz.ntmps236
  go_wp2
  go_ret
  exact HBD.out HV.out (by decide) (Below.refl _ _)
 ·have hc' : decide (s.cy.n ≤ (s.dishes.length : Int)) = false := by rw [decide_eq_false_iff_not]; exact hc
  have hsz : 0 < ByteArray.size ⟨name.toArray⟩ := by rw [st_size]; exact hne
  have hg0 := st_get name 0 hsz
  have hgb : gb name 0 = (⟨name.toArray⟩ : ByteArray)[0]'hsz := by rw [hg0]; simp [gb, hne]
  by_cases h8 : 8 < name.length
  ·have HV := Lib.hid (show E = 2 by rw [HE.out, serE, if_neg hc, if_pos (by unfold nameB; rw [decide_eq_false (by omega)]; rfl)])
   go_enter Tryz.func236, Tryz.ntmps236
   go_wp2
   go_ret
   exact HBD.out HV.out (by decide) (Below.refl _ _)
  by_cases h97 : ((⟨name.toArray⟩ : ByteArray)[0]'hsz).toNat < 97
  ·have HV := Lib.hid (show E = 2 by rw [HE.out, serE, if_neg hc, if_pos (by unfold nameB; rw [hgb, decide_eq_false (by omega)]; rfl)])
   clear hg0 hgb
   go_enter Tryz.func236, Tryz.ntmps236
   go_wp2
   go_ret
   exact HBD.out HV.out (by decide) (Below.refl _ _)
  cases hd : dishB s.dishes name with
  | true =>
   have HV := Lib.hid (show E = 2 by rw [HE.out, serE, if_neg hc, if_pos (by unfold nameB; rw [hd, Bool.not_true, Bool.and_false])])
   clear hg0 hgb
   go_enter Tryz.func236, Tryz.ntmps236
   go_wp2_with (go_at_call 285; (with_reducible refine (containsDish_any s.dishes name (by omega) _ _ _ _ hP2.dish x0 b0.lt).mono ?_); rintro e w3 ⟨rfl, hb3⟩; rw [hd])
   go_ret
   exact HBD.out HV.out (by decide) hb3
  | false =>
   have hnm : nameB s name = true := by unfold nameB; rw [hgb, hd, decide_eq_true (by omega)]; rfl
   have HNM := Lib.hid hnm
   clear hg0 hgb hnm
   by_cases hi : (s.bk.items.length : Int) ≤ item
   ·have hi' : decide ((s.bk.items.length : Int) ≤ item) = true := by rw [decide_eq_true_eq]; exact hi
    have HV := Lib.hid (show E = 5 by rw [HE.out, serE, if_neg hc, if_neg (by rw [HNM.out]; decide), if_pos hi])
    go_enter Tryz.func236, Tryz.ntmps236
    go_wp2_with (go_at_call 285; (with_reducible refine (containsDish_any s.dishes name (by omega) _ _ _ _ hP2.dish x0 b0.lt).mono ?_); rintro e w3 ⟨rfl, hb3⟩; rw [hd]; have hP3 := hP2.below hb3; have r9 := hP3.cItems)
    go_ret
    exact HBD.out HV.out (by decide) hb3
   ·have hi' : decide ((s.bk.items.length : Int) ≤ item) = false := by rw [decide_eq_false_iff_not]; exact hi
    have hev : E = if anyTo (hurtB s item) s.kids.length then 14 else 0 := by rw [HE.out, serE, if_neg hc, if_neg (by rw [HNM.out]; decide), if_neg hi]
    have HEV := Lib.hid hev
    clear hev
    obtain ⟨kA, hkA⟩ : ∃ kA, h.kd.1 = kA := ⟨_, rfl⟩
    have HKA := Lib.hid hkA
    obtain ⟨mA, hmA⟩ : ∃ mA, h.mn.1 = mA := ⟨_, rfl⟩
    have HMA := Lib.hid hmA
    clear hkA hmA
    have h8' : decide ((8 : Int) < (name.length : Int)) = false := by rw [decide_eq_false_iff_not]; omega
    have h97' : decide ((((⟨name.toArray⟩ : ByteArray)[0]'hsz).toNat : Int) < 97) = false := by rw [decide_eq_false_iff_not]; omega
    go_enter Tryz.func236, Tryz.ntmps236
    go_wp2_with (go_at_call 285; (with_reducible refine (containsDish_any s.dishes name (by omega) _ _ _ _ hP2.dish x0 b0.lt).mono ?_); rintro e w3 ⟨rfl, hb3⟩; rw [hd]; have hP3 := hP2.below hb3; have r9 := hP3.cItems; have r14 := hP3.cKd; have HKAX := HKA.out; rw [HKAX] at r14; clear HKAX)
    have hP3 := hP2.below hb3
    have hE3 := hE2.below hb3
    have hx3 := b0.below hb3
    have hy3 := hy.trans (hb3.mono hy.size)
    have hdays := days_le hP.ok.tm
    have hk100 := hP.ok.kl
    clear x0 q13 q5 q9 hP2 hE2 hw2 b0 r9 r14 hE
    go_loopw [56] (fun x wr => ∃ k : Nat, k ≤ s.kids.length ∧ x = .int .i64 k ∧ Hid (anyTo (hurtB s item) k = false) ∧ Below w3.heap.size w3 wr) (fun x _ => s.kids.length - (intOf x).toNat)
    case atStart => exact ⟨0, by omega, rfl, rfl, Below.refl _ _⟩
    case round =>
     obtain ⟨k, hkl, rfl, HK, hbl⟩ := hrel
     have hs3 := hbl.size
     have hPk := hP3.below hbl
     by_cases hlt : k < s.kids.length
     ·obtain ⟨adK, eK, hbK, _, dK0, dK1⟩ := hPk.kids.at_ hlt
      obtain rfl : kA = some adK := HKA.out.symm.trans eK
      clear eK
      unfold slN at dK1
      have hvd := (hPk.av k hlt).rn
      have hp0 := hP.ok.bk.p0
      have hp10 := hP.ok.bk.p10
      have hvl : (gk s.kids k).avoid.length ≤ 1000000000 := by have := isSet_len (hP.ok.ka _ (gk_mem hlt)) (by omega); omega
      have hub : hurtB s item k = (harmB s.bk item (gk s.kids k).avoid && anyTo (fun d => s.menu d == (s.dishes.length : Int) && eatB s (gk s.kids k).num d) s.days) := rfl
      obtain ⟨av, hav⟩ : ∃ av, av = (gk s.kids k).avoid := ⟨_, rfl⟩
      obtain ⟨nu, hnu⟩ : ∃ nu, nu = (gk s.kids k).num := ⟨_, rfl⟩
      rw [← hav] at dK1 hvd hvl hub
      rw [← hnu] at dK0 hub
      obtain ⟨H, hH⟩ : ∃ H, H = harmB s.bk item av := ⟨_, rfl⟩
      rw [← hH] at hub
      have HH := Lib.hid hH
      have HUB := Lib.hid hub
      clear hav hnu hH hub
      obtain ⟨w5, hw5⟩ : ∃ w5, wr.alloc (.cells #[.int .i64 nu, .slice (h.hk k).1 av.length (h.hk k).2] 56) = w5 := ⟨_, rfl⟩
      have hb5 : Below wr.heap.size wr w5 := by rw [← hw5]; exact (Below.refl _ wr).alloc (Nat.le_refl _) _
      have b5 : Box w5 wr.heap.size #[.int .i64 nu, .slice (h.hk k).1 av.length (h.hk k).2] := by rw [← hw5]; exact (Box.new wr _ _)
      have u0 := b5.cell 0
      have u1 := b5.cell 1
      simp only [List.getElem?_toArray, List.getElem?_cons_zero, List.getElem?_cons_succ] at u0 u1
      have hbl5 := hbl.trans (hb5.mono hs3)
      have hP5 := hPk.below hb5
      have hE5 := hE3.below hbl5
      have hvd5 := hvd.below hb5
      cases H with
      | false =>
       have HN : Hid (anyTo (hurtB s item) (k + 1) = false) := by
        show _ = _
        simp only [anyTo]
        rw [HK.out, HUB.out]; rfl
       clear HK HUB
       go_wp2_with (go_at_call 211; (with_reducible refine (harms_any hP5 hE5 nu av hvl _ _ hvd5 item).mono ?_); rintro e w6 ⟨rfl, hb6⟩; have HHX := HH.out; rw [← HHX]; clear HHX)
       go_roundw
       case rel => first | exact ⟨k + 1, by omega, by go_num, HN, hbl5.trans (hb6.mono hbl5.size)⟩ | ((repeat apply Exists.intro); exact ⟨⟨k + 1, by omega, by go_num, HN, hbl5.trans (hb6.mono hbl5.size)⟩, rfl⟩)
       case measure => simp [intOf]; omega
      | true =>
       go_wp2_with (go_at_call 211; (with_reducible refine (harms_any hP5 hE5 nu av hvl _ _ hvd5 item).mono ?_); rintro e w6 ⟨rfl, hb6⟩; have HHX := HH.out; rw [← HHX]; clear HHX; have hP6 := hP5.below hb6; have q6 := hP6.cMn; have HMAX := HMA.out; rw [mnL_len, HMAX] at q6; clear HMAX)
       have hbl6 := hbl5.trans (hb6.mono hbl5.size)
       have hP6 := hP5.below hb6
       have b6 := b5.below hb6
       have hs6 : wr.heap.size < w6.heap.size := b6.lt
       clear hw5 u0 u1 b5 dK0 dK1 hvd hvd5 hPk hP5 hE5 hbK
       go_loopw [70] (fun y wq => ∃ d : Nat, d ≤ s.days ∧ y = .int .i64 d ∧ Hid (anyTo (fun d => s.menu d == (s.dishes.length : Int) && eatB s nu d) d = false) ∧ Below w6.heap.size w6 wq) (fun y _ => s.days - (intOf y).toNat)
       case atStart => exact ⟨0, by omega, rfl, rfl, Below.refl _ _⟩
       case round =>
        obtain ⟨d, hdl2, rfl, HD, hbq⟩ := hrel
        by_cases hdt : d < s.days
        ·have hPq := hP6.below hbq
         obtain ⟨adm, em, hmb, cm⟩ := hPq.mn.rn.at_ (k := d) (by rw [mnL_len]; exact hdt)
         rw [mnL_gi s hdt] at cm
         obtain rfl : mA = some adm := HMA.out.symm.trans em
         clear em
         have v0 := (b6.below hbq).cell 0
         simp only [List.getElem?_toArray, List.getElem?_cons_zero, List.getElem?_cons_succ] at v0
         have hbx := hbl6.trans (hbq.mono hbl6.size)
         obtain ⟨m, hm⟩ : ∃ m, s.menu d = m := ⟨_, rfl⟩
         rw [hm] at cm
         by_cases hmm : m = (s.dishes.length : Int)
         ·have hmm' : (m == (s.dishes.length : Int)) = true := by simp [hmm]
          cases heat : eatB s nu d with
          | true =>
           have HV := Lib.hid (show E = 14 by
            rw [HEV.out, if_pos]
            refine anyTo_yes (k := k) ?_ hlt
            rw [HUB.out, Bool.true_and]
            exact anyTo_yes (k := d) (by rw [hm, hmm', heat]; rfl) hdt)
           clear hm hmm HD HK HUB
           go_wp2_with (go_at_call 187; (with_reducible refine (eats_any hPq nu d).mono ?_); rintro e w7 ⟨rfl, hb7⟩; rw [heat])
           go_ret
           exact HBD.out HV.out (by decide) ((hb3.trans (hbx.mono hb3.size)).trans (hb7.mono (hb3.trans (hbx.mono hb3.size)).size))
          | false =>
           have HN : Hid (anyTo (fun d => s.menu d == (s.dishes.length : Int) && eatB s nu d) (d + 1) = false) := by
            show _ = _
            simp only [anyTo]
            rw [HD.out, heat, Bool.and_false]; rfl
           clear hm hmm HD
           go_wp2_with (go_at_call 187; (with_reducible refine (eats_any hPq nu d).mono ?_); rintro e w7 ⟨rfl, hb7⟩; rw [heat])
           go_roundw
           case rel => first | exact ⟨d + 1, by omega, by go_num, HN, hbq.trans (hb7.mono hbq.size)⟩ | ((repeat apply Exists.intro); exact ⟨⟨d + 1, by omega, by go_num, HN, hbq.trans (hb7.mono hbq.size)⟩, rfl⟩)
           case measure => simp [intOf]; omega
         ·have hmm' : (m == (s.dishes.length : Int)) = false := by simp [hmm]
          have HN : Hid (anyTo (fun d => s.menu d == (s.dishes.length : Int) && eatB s nu d) (d + 1) = false) := by
           show _ = _
           simp only [anyTo]
           rw [HD.out, hm, hmm']; rfl
          clear hm hmm HD
          go_wp2_with fail
          go_roundw
          case rel => exact ⟨d + 1, by omega, by go_num, HN, hbq⟩
          case measure => simp [intOf]; omega
        ·obtain rfl : d = s.days := by omega
         have HN : Hid (anyTo (hurtB s item) (k + 1) = false) := by
          show _ = _
          simp only [anyTo]
          rw [HK.out, HUB.out, HD.out]; rfl
         go_wp2_with fail
         go_roundw
         case rel => first | exact ⟨k + 1, by omega, by go_num, HN, hbl6.trans (hbq.mono hbl6.size)⟩ | ((repeat apply Exists.intro); exact ⟨⟨k + 1, by omega, by go_num, HN, hbl6.trans (hbq.mono hbl6.size)⟩, rfl⟩)
         case measure => simp [intOf]; omega
     ·obtain rfl : k = s.kids.length := by omega
      have hEz : E = 0 := by rw [HEV.out, if_neg (by rw [HK.out]; decide)]
      have hT2 : T = { s with dishes := s.dishes ++ [⟨name, item⟩] } := by rw [HT.out, if_pos hEz]
      have hok := hP.ok.dish hn h0 (by rw [← HE.out]; exact hEz)
      have HEz := Lib.hid hEz
      have HT2 := Lib.hid hT2
      clear hEz hT2
      have hPr := hPk
      have xr := (hx3.below hbl).cell 0
      simp only [List.getElem?_toArray, List.getElem?_cons_zero, List.getElem?_cons_succ] at xr
      have qr := hPr.cDs
      have qf := hPr.box.free 13
      have hgr := hPr.gl
      have hxl := (hx3.below hbl).lt
      have hbo := hP.gl
      have hwr : Below w.heap.size w wr := hy3.trans (hbl.mono hy3.size)
      have ow := hPr.ds
      unfold slN at ow
      go_wp2_with fail
      have hne0 := World.new_ne wr _ qr
      have hne1 := World.new_ne wr _ xr
      have hblk := hPr.dsF
      have hXW : ∀ {W : World}, Below wr.heap.size wr W → ∀ {w7 : World}, W.grownBy w7 (blkOf (h.ds.1, h.ds.2)) → w7.cell? ⟨g, 13, none⟩ = some (.slice h.ds.1 s.dishes.length h.ds.2) ∧ w7.frozen? ⟨g, 13, none⟩ = false := fun {W} hW {w7} hg => by
       have := grown_at hW hg (p := ⟨g, 13, none⟩) hgr (fun e => (hblk g e).2.1 rfl)
       exact ⟨this.1.trans qr, this.2.trans qf⟩
      go_region_law (refine step_app3 (by rfl) _ _ (by rfl) Tryz.underlying78 info_dish rfl (by omega) (by rfl) (World.ownsRow.alloc ow _) (news := [St name, .int .i64 item]) ⟨wr.heap.size, 0, none⟩ (by rfl) (by rfl) (World.news_of_block (cs := #[St name, .int .i64 item]) (t := 81) (fr := (0, 0)) (heap_alloc_new _ _)) (by simp [Value.oneCell']) (by omega) (by omega) (by simp) ?_; intro A3 c3 w7 own7 hg7 hk7; have hX7 := hXW (by repeat (first | exact Below.refl _ _ | refine Below.drew ?_ | refine Below.alloc ?_ (Nat.le_refl _) _)) hg7; have z7 := hX7.1; have f7 := hX7.2; clear hX7)
      all_goals
       go_wp2_with fail
       go_ret
       obtain ⟨o1, o2⟩ := hP.app_ds hwr (by repeat (first | exact Below.refl _ _ | refine Below.drew ?_ | refine Below.alloc ?_ (Nat.le_refl _) _)) ⟨name, item⟩ own7 hg7 hk7 hok
       rw [HT2.out, HEz.out]
       exact ⟨rfl, o1, _, o2⟩
end
end Go.Proofs.YtiapkffihpgdcaaGreatDoor
