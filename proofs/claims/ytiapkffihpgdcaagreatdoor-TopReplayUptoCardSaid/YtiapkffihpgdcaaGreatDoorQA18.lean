import Derived.Test.YtiapkffihpgdcaaGreatDoorQA16
import Derived.Test.YtiapkffihpgdcaaGreatDoorQA17
import Derived.Deep.RegionWith
set_option linter.unusedVariables false
set_option linter.unusedSimpArgs false
set_option maxRecDepth 100000
namespace Go.Proofs.YtiapkffihpgdcaaGreatDoor
open Go.RowKit
theorem info_child : (Tryz.prog.info? 56).map (fun i => (i.zero, i.size, i.bytes)) = some (some (.agg #[.int .i64 0, .slice none 0 0]), 2, 32) := by kernel_rfl
section
variable {L : Int} {N : Nat} {w : World} {F : Nat → Prop} {g : Nat} {h : Hd} {s : Of}
theorem metE_set {n : Int} {av : List Int} (h1 : ¬ 99 < n) (h2 : isSet av s.bk.props = false) : metE s n av = 1 := by unfold metE; rw [if_neg h1, if_pos h2]
set_option maxHeartbeats 3200000 in
theorem meet_any (hP : PO L N w F g h s) (n : Int) (hn0 : 0 ≤ n) (av : List Int) (hav : ∀ k, k < av.length → 0 ≤ gi av k) (hl : av.length ≤ 1000000) (A : Option Addr) (c : Nat) (hR : RN w A av) :
  Calls Tryz.prog 237 #[.pointer (some ⟨g, 0, none⟩), .int .i64 n, .slice A av.length c] w (RetO L N w F g (metE s n av) (if metE s n av = 0 then { s with kids := insK s.kids ⟨n, av⟩ } else s)) := by
 obtain ⟨E, hEE⟩ : ∃ E, E = metE s n av := ⟨_, rfl⟩
 rw [← hEE]
 obtain ⟨T, hT⟩ : ∃ T, T = if E = 0 then { s with kids := insK s.kids ⟨n, av⟩ } else s := ⟨_, rfl⟩
 rw [← hT]
 have HT := Lib.hid hT
 have HE := Lib.hid hEE
 clear hT hEE
 have q8 := hP.cProps
 have hbd : ∀ {c : Int} {w' : World}, E = c → c ≠ 0 → Below w.heap.size w w' → RetO L N w F g E T (.returned (.int .i64 c)) w' := fun {c w'} h1 h2 hb => by
  have : T = s := by rw [HT.out, if_neg (by rw [h1]; exact h2)]
  rw [this, h1]
  exact hP.quiet (Nat.le_refl _) hb
 have HBD : Hid (∀ {c : Int} {w' : World}, E = c → c ≠ 0 → Below w.heap.size w w' → RetO L N w F g E T (.returned (.int .i64 c)) w') := hbd
 clear hbd
 by_cases h99 : 99 < n
 ·have HV := Lib.hid (show E = 1 by rw [HE.out, metE, if_pos h99])
  go_enter Tryz.func237, Tryz.ntmps237
  go_wp2
  go_ret
  exact HBD.out HV.out (by decide) (Below.refl _ _)
 ·have h1 : ∀ k, k < av.length → setOk av s.bk.props k = false → E = 1 := fun k hk h => by rw [HE.out]; exact metE_set h99 (isSet_bad hk h)
  have H1 := Lib.hid h1
  clear h1
  go_enter Tryz.func237, Tryz.ntmps237
  go_wp2_with fail
  go_loop [13] (fun x => ∃ k : Nat, k ≤ av.length ∧ x = .int .i64 k ∧ Hid (setTo av s.bk.props k = true)) (fun x => av.length - (intOf x).toNat)
  case atStart => exact ⟨0, by omega, rfl, rfl⟩
  case round =>
   obtain ⟨k, hk, rfl, HK⟩ := hrel
   by_cases hlt : k < av.length
   ·obtain ⟨ad, rfl, hab, c0⟩ := hR.at_ hlt
    have hv0 := hav k hlt
    cases hq : setOk av s.bk.props k with
    | true =>
     obtain ⟨q1, q2, q3⟩ := (setOk_iff _ _ _).1 hq
     have hnx : setTo av s.bk.props (k + 1) = true := by simp only [setTo, HK.out, hq]; rfl
     have HNX := Lib.hid hnx
     have H3 := Lib.hid q3
     have hq2 : decide (s.bk.props ≤ gi av k) = false := by rw [decide_eq_false_iff_not]; omega
     clear hnx hq q3
     by_cases hk0 : k = 0
     ·have hd : decide (0 < k) = false := by simp; omega
      clear hk0
      go_wp2_with fail
      go_round
      case rel => exact ⟨k + 1, by omega, by go_num, HNX⟩
      case measure => simp [intOf]; omega
     ·obtain ⟨ad', e', hab', d0⟩ := hR.at_ (k := k - 1) (by omega)
      cases e'
      have hkp : 0 < k := by omega
      have q3 : gi av (k - 1) < gi av k := by have := H3.out; omega
      have hq3 : decide (gi av k ≤ gi av (k - 1)) = false := by rw [decide_eq_false_iff_not]; omega
      clear hk0
      go_wp2_with fail
      go_round
      case rel => exact ⟨k + 1, by omega, by go_num, HNX⟩
      case measure => simp [intOf]; omega
    | false =>
     have HB := Lib.hid (H1.out k hlt hq)
     have hN := (setOk_not _ _ _).1 hq
     clear hq
     by_cases hp : s.bk.props ≤ gi av k
     ·have hq2 : decide (s.bk.props ≤ gi av k) = true := by rw [decide_eq_true_eq]; exact hp
      clear hN
      go_wp2_with fail
      go_ret
      exact HBD.out HB.out (by decide) (Below.refl _ _)
     ·have hk0 : 0 < k := by
       rcases Nat.eq_zero_or_pos k with h0 | h0
       ·exact absurd ⟨hv0, by omega, .inl h0⟩ hN
       ·exact h0
      obtain ⟨ad', e', hab', d0⟩ := hR.at_ (k := k - 1) (by omega)
      cases e'
      have hp3 : gi av k ≤ gi av (k - 1) := by
       by_cases hx : gi av (k - 1) < gi av k
       ·exact absurd ⟨hv0, by omega, .inr hx⟩ hN
       ·omega
      have hq2 : decide (s.bk.props ≤ gi av k) = false := by rw [decide_eq_false_iff_not]; omega
      have hq3 : decide (gi av k ≤ gi av (k - 1)) = true := by rw [decide_eq_true_eq]; exact hp3
      clear hN
      go_wp2_with fail
      go_ret
      exact HBD.out HB.out (by decide) (Below.refl _ _)
   ·obtain rfl : k = av.length := by omega
    have hset : isSet av s.bk.props = true := HK.out
    cases hh : hasK s.kids n with
    | true =>
     have HV := Lib.hid (show E = 6 by rw [HE.out, metE, if_neg (show ¬ 99 < n by omega), if_neg (by rw [hset]; decide), if_pos hh])
     obtain ⟨i, hi, hix, _, _⟩ := kix_some hh
     have HIX := Lib.hid hix
     have hi0 : decide (0 ≤ (i : Int)) = true := by rw [decide_eq_true_eq]; omega
     clear hix hset
     go_wp2_with (go_at_call 173; (with_reducible refine (child_any hP n).mono ?_); rintro e w1 ⟨rfl, hb1⟩; have HIXX := HIX.out; rw [HIXX]; clear HIXX)
     go_ret
     exact HBD.out HV.out (by decide) hb1
    | false =>
     have hEz : E = 0 := by rw [HE.out, metE, if_neg (show ¬ 99 < n by omega), if_neg (by rw [hset]; decide), if_neg (by rw [hh]; decide)]
     have hT2 : T = { s with kids := insK s.kids ⟨n, av⟩ } := by rw [HT.out, if_pos hEz]
     have hok := hP.ok.kid hn0 (show metE s n av = 0 by rw [← HE.out]; exact hEz)
     have hnn : ∀ x ∈ s.kids, x.num ≠ n := fun x hx e => by
      have : hasK s.kids n = true := (hasK_iff _ _).2 ⟨x, hx, e⟩
      rw [this] at hh; cases hh
     have HEz := Lib.hid hEz
     have HT2 := Lib.hid hT2
     have HNN := Lib.hid hnn
     have hix := kix_none hh
     have HIX := Lib.hid hix
     clear hEz hT2 hix hset hnn
     go_wp2_with (go_at_call 173; (with_reducible refine (child_any hP n).mono ?_); rintro e w1 ⟨rfl, hb1⟩; have HIXX := HIX.out; rw [HIXX]; clear HIXX)
     have hP1 := hP.below hb1
     have q := hP1.cKd
     have f := hP1.box.free 14
     have hR1 := hR.below hb1
     have hgl := hP1.gl
     have hk100 := hP.ok.kl
     have hs1 := hb1.size
     have ow : w1.ownsRow 0 56 2 (.slice h.kd.1 s.kids.length h.kd.2) s.kids.length (cells2 s.kids.length (fun k => .int .i64 (gk s.kids k).num) (fun k => slN (h.hk k) (gk s.kids k).avoid.length)) := hP1.kd
     have hne : blkOf (h.kd.1, h.kd.2) ≠ some g := fun e => (hP.kdF g e).2.1 rfl
     have HNE := Lib.hid hne
     clear hne
     go_wp2_with fail
     have hn1 := World.new_ne w1 _ q
     go_region_law (first
      | (go_simp; go_at_call 154; refine (clone_any av (by omega) A c _ ?_).mono ?_; (first | exact hR1 | exact hR1.drew); rintro e w2 ⟨A2, c2, rfl, own2, hb2⟩; have hb2' : Below w1.heap.size w1 w2 := ((by repeat (first | exact Below.refl _ _ | refine Below.drew ?_ | refine Below.alloc ?_ (Nat.le_refl _) _) : Below w1.heap.size w1 _)).trans hb2; have hs2 := hb2'.size; have q2 := (hb2'.cell (p := ⟨g, 14, none⟩) hgl).trans q; have ow2 := own_below ow hb2' (fun k hk => (World.ownsRow.lt ow k hk).2); have hg2 : g < w2.heap.size := Nat.lt_of_lt_of_le hgl hs2; have q2a := fun (o : Obj) => (World.cell?_alloc_lt w2 o ⟨g, 14, none⟩ hg2).trans q2)
      | (refine step_app3 (by rfl) _ _ (by rfl) Tryz.underlying46 info_child rfl (by omega) (by rfl) (World.ownsRow.alloc ow2 _) (news := [.int .i64 n, .slice A2 av.length c2]) ⟨w2.heap.size, 0, none⟩ (by rfl) (by rfl) (World.news_of_block (cs := #[.int .i64 n, .slice A2 av.length c2]) (t := 56) (fr := (0, 0)) (heap_alloc_new _ _)) (by simp [Value.oneCell']) (by omega) (by omega) (by simp) ?_; intro A3 c3 w7 own7 hg7 hk7; have hX7 := grown_at (wr := w1) (hb2'.trans (Below.mono (by repeat (first | exact Below.refl _ _ | refine Below.drew ?_ | refine Below.alloc ?_ (Nat.le_refl _) _)) hs2)) hg7 (p := ⟨g, 14, none⟩) hgl HNE.out; have z7 := hX7.1.trans q; have f7 := hX7.2.trans f; clear hX7))
     all_goals
      obtain ⟨KL, hKL⟩ : ∃ KL, KL = ksOf s.kids h.hk ++ [((⟨n, av⟩ : Kd), (A2, c2))] := ⟨_, rfl⟩
      have hKll : KL.length = s.kids.length + 1 := by rw [hKL, List.length_append, ksOf_len]; rfl
      have hA3 : (Value.slice A3 (s.kids.length + 1) c3).ownBlock ≠ some g := fun e => by
       have e3 : (Value.slice A3 (s.kids.length + 1) c3).ownBlock = blkOf (A3, c3) := own_blk (A3, c3) _
       rw [e3] at e
       rcases hk7 with e2 | e2
       ·rw [e2] at e; exact HNE.out e
       ·rw [e2] at e; injection e with e; simp at e; omega
      obtain ⟨w8, hw8⟩ : ∃ w8, w7.setCell ⟨g, 14, none⟩ (.slice A3 (s.kids.length + 1) c3) = w8 := ⟨_, rfl⟩
      have c8 : w8.cell? ⟨g, 14, none⟩ = some (.slice A3 (s.kids.length + 1) c3) := by rw [← hw8]; exact World.cell?_setCell_same w7 ⟨g, 14, none⟩ _ z7
      have o8 : w8.ownsRow 0 56 2 (.slice A3 KL.length c3) KL.length (ksC KL) := by
       rw [hKL, ksC_snoc, ← hKL, hKll, ← hw8]
       exact ownsRow_setCell_other own7 hA3 _
      have hcon := sortK_some KL (by omega) (by omega) A3 c3 0 w8 o8 (Nat.zero_le _)
      rw [hKll] at hcon
      have HCON := Lib.hid hcon
      have HKL := Lib.hid hKL
      have HW8 := Lib.hid hw8
      have HNA := Lib.hid hA3
      have OWN2 := Lib.hid (own_base own2 (base' := w.heap.size) (by simp; omega))
      have OK := Lib.hid hok
      rw [hw8]
      clear hcon hKL hKll hw8 hA3 own2 o8 own7 z7 f7 q2a q2 ow2
      go_wp2_with fail
      refine HCON.out.mono ?_
      rintro e w9 ⟨rfl, m, hp, hm, own9, hg9⟩
      go_wp2_with fail
      go_ret
      rw [HT2.out, HEz.out]
      rw [HKL.out] at hp
      rw [← HW8.out] at hg9
      obtain ⟨o1, o2⟩ := hP.app_kd (c := ⟨n, av⟩) (hb1.trans (hb2'.mono hs1)) OWN2.out (by repeat (first | exact Below.refl _ _ | refine Below.drew ?_ | refine Below.alloc ?_ (Nat.le_refl _) _)) hg7 hk7 hp hm own9 hg9 HNN.out OK.out
      exact ⟨rfl, o1, _, o2⟩
end
end Go.Proofs.YtiapkffihpgdcaaGreatDoor
namespace Go.Proofs.YtiapkffihpgdcaaGreatDoor
open Go.RowKit Go.Sort
section
variable {L : Int} {N : Nat} {w : World} {F : Nat → Prop} {g : Nat} {h : Hd} {s : Of}
set_option maxHeartbeats 3200000 in
theorem cancel_any (hP : PO L N w F g h s) (hE : EnvZ w) (n : List Int) (hn : n.length = 3) (A : Option Addr) (c : Nat) (hR : RN w A n) :
  Calls Tryz.prog 238 #[.pointer (some ⟨g, 0, none⟩), .slice A n.length c, .int .i64 0] w (RetO L N w F g (chgE s n 0) (if chgE s n 0 = 0 then { s with facts := s.facts ++ [chgF s n 0] } else s)) := by
 obtain ⟨ad, rfl, hab0, e0⟩ := hR.at0 (by omega)
 have e1 := hR.cellk (k := 1) (by omega) (by omega)
 have e2 := hR.cellk (k := 2) (by omega) (by omega)
 rw [hn]
 cases hk : hasK s.kids (gi n 0) with
 | false =>
  have he : chgE s n 0 = 5 := by unfold chgE; rw [if_pos hk]
  rw [he, if_neg (by decide)]
  have hk' := kix_no hk
  rw [decide_eq_true_eq] at hk'
  clear he
  go_enter Tryz.func238, Tryz.ntmps238
  go_wp2_with (go_at_call 173; (with_reducible refine (child_any hP (gi n 0)).mono ?_); rintro e w2 ⟨rfl, hb2⟩)
  go_ret
  exact hP.quiet (Nat.le_refl _) hb2
 | true =>
  obtain ⟨i, hi, hix, hin, hio⟩ := kix_some hk
  have hE1 : chgE s n 0 = addE s.facts (chgF s n 0) := by
   unfold chgE
   rw [if_neg (by rw [hk]; decide), if_neg (fun h => by cases h.1)]
  have HE1 := Lib.hid hE1
  have HIX := Lib.hid hix
  have hkx := kix_yes hk
  rw [decide_eq_false_iff_not] at hkx
  clear hE1 hin hio hk hix
  obtain ⟨E, hE⟩ : ∃ E, E = chgE s n 0 := ⟨_, rfl⟩
  rw [← hE] at HE1 ⊢
  obtain ⟨T, hT⟩ : ∃ T, T = if E = 0 then { s with facts := s.facts ++ [chgF s n 0] } else s := ⟨_, rfl⟩
  rw [← hT]
  have HT := Lib.hid hT
  have HEE := Lib.hid hE
  clear hT hE
  have hi0 : decide ((i : Int) < 0) = false := by rw [decide_eq_false_iff_not]; omega
  have hdl := days_le hP.ok.tm
  go_enter Tryz.func238, Tryz.ntmps238
  go_wp2_with (go_at_call 173; (with_reducible refine (child_any hP (gi n 0)).mono ?_); rintro e w1 ⟨rfl, hb1⟩; have HIXX := HIX.out; rw [HIXX]; clear HIXX; have y0 := (hb1.cell hab0).trans e0; have y1 := (hb1.cell (p := ⟨ad.block, ad.off + 1, none⟩) hab0).trans e1; have y2 := (hb1.cell (p := ⟨ad.block, ad.off + 2, none⟩) hab0).trans e2)
  go_loopw [8] (fun x wr => ∃ k : Int, x = .int .i64 k ∧ Below w1.heap.size w1 wr) (fun _ _ => 0)
  case atStart => exact ⟨gi n 1, rfl, Below.refl _ _⟩
  case round =>
   obtain ⟨k, rfl, hbl⟩ := hrel
   have hPr := hP.below (hb1.trans (hbl.mono hb1.size))
   have qM := hPr.cMn
   have hab1 : ad.block < w1.heap.size := Nat.lt_of_lt_of_le hab0 hb1.size
   have z2 := (hbl.cell (p := ⟨ad.block, ad.off + 2, none⟩) hab1).trans y2
   rw [mnL_len] at qM
   by_cases hlt : k < min (gi n 2) (s.days : Int)
   ·have hlt' : decide (k < min (gi n 2) (s.days : Int)) = true := by rw [decide_eq_true_eq]; exact hlt
    have hE2 : E = addE s.facts (chgF s n 0) := by exact HE1.out
    have HE2 := Lib.hid hE2
    clear hE2
    go_wp2_with fail
    go_quiet (fail)
    have hbd : Below w.heap.size w (wr.drewN nq) := below_drewN (hb1.trans (hbl.mono hb1.size)) nq
    clear hPr qM z2 hlt'
    generalize wr.drewN nq = wd at *
    have hPd := hP.below hbd
    have qF := hPd.cFa; have qN := hPd.cNow
    have hab2 : ad.block < w.heap.size := hab0
    have z0 := (hbd.cell hab2).trans e0
    have z1 := (hbd.cell (p := ⟨ad.block, ad.off + 1, none⟩) hab2).trans e1
    have z2 := (hbd.cell (p := ⟨ad.block, ad.off + 2, none⟩) hab2).trans e2
    go_wp2_with fail
    have hfl := hP.ok.fl
    have hgl := hPd.gl
    have hab3 : ad.block < wd.heap.size := Nat.lt_of_lt_of_le hab2 hbd.size
    have hRF := hPd.rf
    go_region_held3 (fun w' => w'.cell? ⟨g, 15, none⟩ = some (.slice h.fa.1 s.facts.length h.fa.2) ∧ w'.cell? ⟨g, 12, none⟩ = some (.int .i64 s.now) ∧ w'.cell? ad = some (.int .i64 (gi n 0)) ∧ w'.cell? ⟨ad.block, ad.off + 1, none⟩ = some (.int .i64 (gi n 1)) ∧ w'.cell? ⟨ad.block, ad.off + 2, none⟩ = some (.int .i64 (gi n 2)))
     (first | go_keep | exact ⟨k0, k1, k2, k3, k4⟩)
     (first | (go_at_call 290; refine (addX_any s.facts (chgF s n 0) (by omega) h.fa.1 h.fa.2 wd.heap.size _ ?_).mono ?_; (first | exact hRF | exact hRF.drew); rintro e w2 ⟨A', c', rfl, own2, hb2⟩; have hb2' : Below wd.heap.size wd w2 := ((Below.refl wd.heap.size wd).drew).trans hb2; have k0 := (hb2'.cell (p := ⟨g, 15, none⟩) hgl).trans qF; have k1 := (hb2'.cell (p := ⟨g, 12, none⟩) hgl).trans qN; have k2 := (hb2'.cell hab3).trans z0; have k3 := (hb2'.cell (p := ⟨ad.block, ad.off + 1, none⟩) hab3).trans z1; have k4 := (hb2'.cell (p := ⟨ad.block, ad.off + 2, none⟩) hab3).trans z2))
    have hb5 := hbd.trans (hb2'.mono hbd.size)
    have hP4 := hP.below' hb5
    have hgf := hP4.box.free 15
    obtain ⟨X, hX⟩ : ∃ X, X = addE s.facts (chgF s n 0) := ⟨_, rfl⟩
    rw [← hX]
    by_cases hv : X = 0
    ·have hv1 : (X == 0) = true := by simp [hv]
     have hEz : E = 0 := by rw [HE2.out, ← hX, hv]
     have hz := addE_zero (hX.symm.trans hv)
     have haR : addR s.facts (chgF s n 0) = s.facts ++ [chgF s n 0] := by unfold addR; rw [if_pos hz]
     rw [haR] at own2
     have hT2 : T = { s with facts := s.facts ++ [chgF s n 0] } := by rw [HT.out, if_pos hEz]
     have hR4 : ReadsF (Im (grown F w w2) g h) w2 5 A' (s.facts ++ [chgF s n 0]).length (cellsF (s.facts ++ [chgF s n 0])) := ReadsF.of_own' own2 (fun k h1 h2 => hP.new_im (Nat.le_trans hbd.size h1) h2)
     have hok := hP.ok.chg (n := n) (.inl rfl) (by rw [← HEE.out]; exact hEz)
     have hS := hP4.setFacts (c := c') hR4 own2.cap hok
     have HT2 := Lib.hid hT2
     have HEz := Lib.hid hEz
     have HaR := Lib.hid haR
     have HX := Lib.hid hX
     have HV := Lib.hid hv
     clear hT2 hR4 hEz haR hX hv hz
     go_wp2_with fail
     go_ret
     rw [HT2.out, HEz.out, HaR.out, HV.out]
     exact ⟨rfl, (Off.of_below hb5).setCell (.inl hP.gF) _, _, hS.re fun k => (grown_set _ _ k).symm⟩
    ·have hv1 : (X == 0) = false := by simp [hv]
     have hT2 : T = s := by rw [HT.out, if_neg (by rw [HE2.out, ← hX]; exact hv)]
     have hEX : E = X := by rw [HE2.out, hX]
     have HT2 := Lib.hid hT2
     have HEX := Lib.hid hEX
     clear hT2 hv hX hEX
     go_wp2_with fail
     go_ret
     rw [HT2.out, HEX.out]
     exact hP.quiet (Nat.le_refl _) hb5
   ·have hlt' : decide (k < min (gi n 2) (s.days : Int)) = false := by rw [decide_eq_false_iff_not]; exact hlt
    have hE2 : E = addE s.facts (chgF s n 0) := by exact HE1.out
    have HE2 := Lib.hid hE2
    clear hE2
    go_wp2_with fail
    go_quiet (fail)
    have hbd : Below w.heap.size w (wr.drewN nq) := below_drewN (hb1.trans (hbl.mono hb1.size)) nq
    clear hPr qM z2 hlt'
    generalize wr.drewN nq = wd at *
    have hPd := hP.below hbd
    have qF := hPd.cFa; have qN := hPd.cNow
    have hab2 : ad.block < w.heap.size := hab0
    have z0 := (hbd.cell hab2).trans e0
    have z1 := (hbd.cell (p := ⟨ad.block, ad.off + 1, none⟩) hab2).trans e1
    have z2 := (hbd.cell (p := ⟨ad.block, ad.off + 2, none⟩) hab2).trans e2
    go_wp2_with fail
    have hfl := hP.ok.fl
    have hgl := hPd.gl
    have hab3 : ad.block < wd.heap.size := Nat.lt_of_lt_of_le hab2 hbd.size
    have hRF := hPd.rf
    go_region_held3 (fun w' => w'.cell? ⟨g, 15, none⟩ = some (.slice h.fa.1 s.facts.length h.fa.2) ∧ w'.cell? ⟨g, 12, none⟩ = some (.int .i64 s.now) ∧ w'.cell? ad = some (.int .i64 (gi n 0)) ∧ w'.cell? ⟨ad.block, ad.off + 1, none⟩ = some (.int .i64 (gi n 1)) ∧ w'.cell? ⟨ad.block, ad.off + 2, none⟩ = some (.int .i64 (gi n 2)))
     (first | go_keep | exact ⟨k0, k1, k2, k3, k4⟩)
     (first | (go_at_call 290; refine (addX_any s.facts (chgF s n 0) (by omega) h.fa.1 h.fa.2 wd.heap.size _ ?_).mono ?_; (first | exact hRF | exact hRF.drew); rintro e w2 ⟨A', c', rfl, own2, hb2⟩; have hb2' : Below wd.heap.size wd w2 := ((Below.refl wd.heap.size wd).drew).trans hb2; have k0 := (hb2'.cell (p := ⟨g, 15, none⟩) hgl).trans qF; have k1 := (hb2'.cell (p := ⟨g, 12, none⟩) hgl).trans qN; have k2 := (hb2'.cell hab3).trans z0; have k3 := (hb2'.cell (p := ⟨ad.block, ad.off + 1, none⟩) hab3).trans z1; have k4 := (hb2'.cell (p := ⟨ad.block, ad.off + 2, none⟩) hab3).trans z2))
    have hb5 := hbd.trans (hb2'.mono hbd.size)
    have hP4 := hP.below' hb5
    have hgf := hP4.box.free 15
    obtain ⟨X, hX⟩ : ∃ X, X = addE s.facts (chgF s n 0) := ⟨_, rfl⟩
    rw [← hX]
    by_cases hv : X = 0
    ·have hv1 : (X == 0) = true := by simp [hv]
     have hEz : E = 0 := by rw [HE2.out, ← hX, hv]
     have hz := addE_zero (hX.symm.trans hv)
     have haR : addR s.facts (chgF s n 0) = s.facts ++ [chgF s n 0] := by unfold addR; rw [if_pos hz]
     rw [haR] at own2
     have hT2 : T = { s with facts := s.facts ++ [chgF s n 0] } := by rw [HT.out, if_pos hEz]
     have hR4 : ReadsF (Im (grown F w w2) g h) w2 5 A' (s.facts ++ [chgF s n 0]).length (cellsF (s.facts ++ [chgF s n 0])) := ReadsF.of_own' own2 (fun k h1 h2 => hP.new_im (Nat.le_trans hbd.size h1) h2)
     have hok := hP.ok.chg (n := n) (.inl rfl) (by rw [← HEE.out]; exact hEz)
     have hS := hP4.setFacts (c := c') hR4 own2.cap hok
     have HT2 := Lib.hid hT2
     have HEz := Lib.hid hEz
     have HaR := Lib.hid haR
     have HX := Lib.hid hX
     have HV := Lib.hid hv
     clear hT2 hR4 hEz haR hX hv hz
     go_wp2_with fail
     go_ret
     rw [HT2.out, HEz.out, HaR.out, HV.out]
     exact ⟨rfl, (Off.of_below hb5).setCell (.inl hP.gF) _, _, hS.re fun k => (grown_set _ _ k).symm⟩
    ·have hv1 : (X == 0) = false := by simp [hv]
     have hT2 : T = s := by rw [HT.out, if_neg (by rw [HE2.out, ← hX]; exact hv)]
     have hEX : E = X := by rw [HE2.out, hX]
     have HT2 := Lib.hid hT2
     have HEX := Lib.hid hEX
     clear hT2 hv hX hEX
     go_wp2_with fail
     go_ret
     rw [HT2.out, HEX.out]
     exact hP.quiet (Nat.le_refl _) hb5
end
end Go.Proofs.YtiapkffihpgdcaaGreatDoor
namespace Go.Proofs.YtiapkffihpgdcaaGreatDoor
open Go.RowKit
section
variable {L : Int} {N : Nat} {w : World} {F : Nat → Prop} {g : Nat} {h : Hd} {s : Of}
theorem RetO.back {w2 w' : World} {s' : Of} {code : Int} {e : Ending} (hP : PO L N w F g h s) (hb : Below w.heap.size w w2) {N' : Nat} (hr : RetO L N' w2 F g code s' e w') : RetO L N' w F g code s' e w' := by
 obtain ⟨he, ho, h', hP'⟩ := hr
 refine ⟨he, (Off.of_below hb).trans ho (fun k hk => .inl hk), h', hP'.wide (fun k hk => ?_) (grown_lo hP (Nat.le_trans hb.size ho.size))⟩
 rcases hk with hk | ⟨h1, h2⟩
 ·exact .inl hk
 ·exact .inr ⟨Nat.le_trans hb.size h1, h2⟩
theorem RetO.more {w' : World} {s' : Of} {code : Int} {e : Ending} {N' N2 : Nat} (hN : N' ≤ N2) (hr : RetO L N' w F g code s' e w') : RetO L N2 w F g code s' e w' := by
 obtain ⟨he, ho, h', hP'⟩ := hr
 exact ⟨he, ho, h', hP'.more hN⟩
theorem RN.cell0 {w : World} {ad : Addr} {l : List Int} (h : RN w (some ad) l) (hk : 0 < l.length) : ad.block < w.heap.size ∧ w.cell? ad = some (.int .i64 (gi l 0)) := by
 obtain ⟨ad', e, hb, hc⟩ := h.at0 hk
 cases e
 exact ⟨hb, hc⟩
theorem RN.tail1 {w : World} {ad : Addr} {l : List Int} (h : RN w (some ad) l) (hk : 0 < l.length) : RN w (some (ad.add 1)) l.tail := by
 cases l with
 | nil => simp at hk
 | cons x r =>
  refine ⟨by simp [ints], fun hn => ?_⟩
  obtain ⟨ad', e, hb, hc⟩ := h.2 (by simp)
  cases e
  refine ⟨_, rfl, by rw [block_of_add]; exact hb, fun j u hu => ?_⟩
  have := hc (j + 1) u (by simpa [ints] using hu)
  rwa [show ad.add (j + 1) = (ad.add 1).add j from by cases ad; simp only [Addr.add]; split <;> split <;> simp_all <;> omega] at this
theorem RN.nil' {w : World} {A : Option Addr} : RN w A [] := ⟨rfl, fun h => by simp at h⟩
theorem gi_tail (l : List Int) (k : Nat) : gi l.tail k = gi l (k + 1) := by cases l <;> simp [gi]
end
section
variable {L : Int} {N : Nat} {w : World} {F : Nat → Prop} {g : Nat} {h : Hd} {s : Of}
set_option maxHeartbeats 1600000 in
theorem exec_0 (hP : PO L N w F g h s) (hE : EnvZ w) (hN : N < 1000000000) (name : Wd) (nums : List Int) (hr : RqOk ⟨0, name, nums⟩) (hnl : name.length ≤ 1000000000) (hll : nums.length ≤ 1000000) (A : Option Addr) (c : Nat) (hR : RN w A nums) (hc : nums.length ≤ c) :
  Calls Tryz.prog 167 #[.pointer (some ⟨g, 0, none⟩), .agg #[.int .i64 0, St name, .slice A nums.length c]] w (RetO L (N + 1) w F g (exE s ⟨0, name, nums⟩) (if exE s ⟨0, name, nums⟩ = 0 then exS s ⟨0, name, nums⟩ else s)) := by
 obtain ⟨w2, hw2⟩ : ∃ w2, w.alloc (.cells #[.int .i64 0, St name, .slice A nums.length c] 239) = w2 := ⟨_, rfl⟩
 have hy : Below w.heap.size w w2 := by rw [← hw2]; exact (Below.refl _ w).alloc (Nat.le_refl _) _
 have b0 : Box w2 w.heap.size #[.int .i64 0, St name, .slice A nums.length c] := by rw [← hw2]; exact Box.new w _ _
 have hP2 := hP.below hy
 have hE2 := hE.below hy
 have hR2 := hR.below hy
 have x0 := b0.cell 0
 have x1 := b0.cell 1
 have x2 := b0.cell 2
 simp only [List.getElem?_toArray, List.getElem?_cons_zero, List.getElem?_cons_succ] at x0 x1 x2
 have hlen := hr.one (by dsimp only; decide)
 have hlen0 : 0 < nums.length := by have : nums.length = 1 := hlen; omega
 have hb0 := (hr.nums 0 hlen0).1
 have hb0 : 0 ≤ gi nums 0 := hb0
 obtain ⟨ad, rfl, _, _⟩ := hR.at0 hlen0
 obtain ⟨hab, e0⟩ := hR2.cell0 hlen0
 have HLEN := Lib.hid hlen
 rw [exE_at rfl, exS_at rfl]
 have hif : (if (if gi nums 0 < s.now then 7 else if 1440000 < gi nums 0 then 4 else 0 : Int) = 0 then { s with now := gi nums 0 } else s) = (if gi nums 0 < s.now then s else if 1440000 < gi nums 0 then s else { s with now := gi nums 0 }) := by
  by_cases h1 : gi nums 0 < s.now
  ·rw [if_pos h1, if_pos h1, if_neg (by decide)]
  ·by_cases h2 : 1440000 < gi nums 0
   ·rw [if_neg h1, if_neg h1, if_pos h2, if_pos h2, if_neg (by decide)]
   ·rw [if_neg h1, if_neg h1, if_neg h2, if_neg h2, if_pos rfl]
 have hcon := wait_any hP2 (gi nums 0)
 obtain ⟨E, hE'⟩ : ∃ E, E = (if gi nums 0 < s.now then 7 else if 1440000 < gi nums 0 then 4 else 0 : Int) := ⟨_, rfl⟩
 obtain ⟨T, hT'⟩ : ∃ T, T = (if gi nums 0 < s.now then s else if 1440000 < gi nums 0 then s else { s with now := gi nums 0 }) := ⟨_, rfl⟩
 show Calls _ _ _ _ (RetO L (N + 1) w F g (if gi nums 0 < s.now then 7 else if 1440000 < gi nums 0 then 4 else 0 : Int) (if (if gi nums 0 < s.now then 7 else if 1440000 < gi nums 0 then 4 else 0 : Int) = 0 then { s with now := gi nums 0 } else s))
 rw [hif]
 rw [← hE', ← hT'] at hcon ⊢
 clear hif hE' hT'
 have HC := Lib.hid hcon
 clear hcon
 clear hlen
 go_enter Tryz.func167, Tryz.ntmps167
 go_wp2_with (go_at_call 235; (with_reducible refine HC.out.mono ?_); rintro e w3 hr3; have he3 := hr3.1; subst he3; have HR := Lib.hid hr3; clear hr3)
 go_ret
 exact (RetO.back hP hy HR.out).more (Nat.le_succ _)
set_option maxHeartbeats 1600000 in
theorem exec_3 (hP : PO L N w F g h s) (hE : EnvZ w) (hN : N < 1000000000) (name : Wd) (nums : List Int) (hr : RqOk ⟨3, name, nums⟩) (hnl : name.length ≤ 1000000000) (hll : nums.length ≤ 1000000) (A : Option Addr) (c : Nat) (hR : RN w A nums) (hc : nums.length ≤ c) :
  Calls Tryz.prog 167 #[.pointer (some ⟨g, 0, none⟩), .agg #[.int .i64 3, St name, .slice A nums.length c]] w (RetO L (N + 1) w F g (exE s ⟨3, name, nums⟩) (if exE s ⟨3, name, nums⟩ = 0 then exS s ⟨3, name, nums⟩ else s)) := by
 obtain ⟨w2, hw2⟩ : ∃ w2, w.alloc (.cells #[.int .i64 3, St name, .slice A nums.length c] 239) = w2 := ⟨_, rfl⟩
 have hy : Below w.heap.size w w2 := by rw [← hw2]; exact (Below.refl _ w).alloc (Nat.le_refl _) _
 have b0 : Box w2 w.heap.size #[.int .i64 3, St name, .slice A nums.length c] := by rw [← hw2]; exact Box.new w _ _
 have hP2 := hP.below hy
 have hE2 := hE.below hy
 have hR2 := hR.below hy
 have x0 := b0.cell 0
 have x1 := b0.cell 1
 have x2 := b0.cell 2
 simp only [List.getElem?_toArray, List.getElem?_cons_zero, List.getElem?_cons_succ] at x0 x1 x2
 have hlen := hr.three (by dsimp only; decide) (by dsimp only; decide)
 have hlen0 : 0 < nums.length := by have : nums.length = 3 := hlen; omega
 have hb0 := (hr.nums 0 hlen0).1
 have hb0 : 0 ≤ gi nums 0 := hb0
 obtain ⟨ad, rfl, _, _⟩ := hR.at0 hlen0
 obtain ⟨hab, e0⟩ := hR2.cell0 hlen0
 have hb1 : 0 ≤ gi nums 1 := (hr.nums 1 (by have : nums.length = 3 := hlen; show 1 < nums.length; omega)).1
 have HLEN := Lib.hid hlen
 rw [exE_ord rfl, exS_ord rfl]
 have hcon := order_any hP2 hE2 nums HLEN.out hb1 _ c hR2
 obtain ⟨E, hE'⟩ : ∃ E, E = chgE s nums 1 := ⟨_, rfl⟩
 obtain ⟨T, hT'⟩ : ∃ T, T = if E = 0 then { s with facts := s.facts ++ [chgF s nums 1] } else s := ⟨_, rfl⟩
 show Calls _ _ _ _ (RetO L (N + 1) w F g (chgE s nums 1) (if chgE s nums 1 = 0 then { s with facts := s.facts ++ [chgF s nums 1] } else s))
 rw [← hE'] at hcon ⊢
 rw [← hT'] at hcon ⊢
 clear hE' hT'
 have HC := Lib.hid hcon
 clear hcon
 clear hlen
 go_enter Tryz.func167, Tryz.ntmps167
 go_wp2_with (go_at_call 238; (with_reducible refine HC.out.mono ?_); rintro e w3 hr3; have he3 := hr3.1; subst he3; have HR := Lib.hid hr3; clear hr3)
 go_ret
 exact (RetO.back hP hy HR.out).more (Nat.le_succ _)
set_option maxHeartbeats 1600000 in
theorem exec_4 (hP : PO L N w F g h s) (hE : EnvZ w) (hN : N < 1000000000) (name : Wd) (nums : List Int) (hr : RqOk ⟨4, name, nums⟩) (hnl : name.length ≤ 1000000000) (hll : nums.length ≤ 1000000) (A : Option Addr) (c : Nat) (hR : RN w A nums) (hc : nums.length ≤ c) :
  Calls Tryz.prog 167 #[.pointer (some ⟨g, 0, none⟩), .agg #[.int .i64 4, St name, .slice A nums.length c]] w (RetO L (N + 1) w F g (exE s ⟨4, name, nums⟩) (if exE s ⟨4, name, nums⟩ = 0 then exS s ⟨4, name, nums⟩ else s)) := by
 obtain ⟨w2, hw2⟩ : ∃ w2, w.alloc (.cells #[.int .i64 4, St name, .slice A nums.length c] 239) = w2 := ⟨_, rfl⟩
 have hy : Below w.heap.size w w2 := by rw [← hw2]; exact (Below.refl _ w).alloc (Nat.le_refl _) _
 have b0 : Box w2 w.heap.size #[.int .i64 4, St name, .slice A nums.length c] := by rw [← hw2]; exact Box.new w _ _
 have hP2 := hP.below hy
 have hE2 := hE.below hy
 have hR2 := hR.below hy
 have x0 := b0.cell 0
 have x1 := b0.cell 1
 have x2 := b0.cell 2
 simp only [List.getElem?_toArray, List.getElem?_cons_zero, List.getElem?_cons_succ] at x0 x1 x2
 have hlen := hr.three (by dsimp only; decide) (by dsimp only; decide)
 have hlen0 : 0 < nums.length := by have : nums.length = 3 := hlen; omega
 have hb0 := (hr.nums 0 hlen0).1
 have hb0 : 0 ≤ gi nums 0 := hb0
 obtain ⟨ad, rfl, _, _⟩ := hR.at0 hlen0
 obtain ⟨hab, e0⟩ := hR2.cell0 hlen0
 have hb1 : 0 ≤ gi nums 1 := (hr.nums 1 (by have : nums.length = 3 := hlen; show 1 < nums.length; omega)).1
 have HLEN := Lib.hid hlen
 rw [exE_can rfl, exS_can rfl]
 have hcon := cancel_any hP2 hE2 nums HLEN.out _ c hR2
 obtain ⟨E, hE'⟩ : ∃ E, E = chgE s nums 0 := ⟨_, rfl⟩
 obtain ⟨T, hT'⟩ : ∃ T, T = if E = 0 then { s with facts := s.facts ++ [chgF s nums 0] } else s := ⟨_, rfl⟩
 show Calls _ _ _ _ (RetO L (N + 1) w F g (chgE s nums 0) (if chgE s nums 0 = 0 then { s with facts := s.facts ++ [chgF s nums 0] } else s))
 rw [← hE'] at hcon ⊢
 rw [← hT'] at hcon ⊢
 clear hE' hT'
 have HC := Lib.hid hcon
 clear hcon
 clear hlen
 go_enter Tryz.func167, Tryz.ntmps167
 go_wp2_with (go_at_call 238; (with_reducible refine HC.out.mono ?_); rintro e w3 hr3; have he3 := hr3.1; subst he3; have HR := Lib.hid hr3; clear hr3)
 go_ret
 exact (RetO.back hP hy HR.out).more (Nat.le_succ _)
set_option maxHeartbeats 1600000 in
theorem exec_5 (hP : PO L N w F g h s) (hE : EnvZ w) (hN : N < 1000000000) (name : Wd) (nums : List Int) (hr : RqOk ⟨5, name, nums⟩) (hnl : name.length ≤ 1000000000) (hll : nums.length ≤ 1000000) (A : Option Addr) (c : Nat) (hR : RN w A nums) (hc : nums.length ≤ c) :
  Calls Tryz.prog 167 #[.pointer (some ⟨g, 0, none⟩), .agg #[.int .i64 5, St name, .slice A nums.length c]] w (RetO L (N + 1) w F g (exE s ⟨5, name, nums⟩) (if exE s ⟨5, name, nums⟩ = 0 then exS s ⟨5, name, nums⟩ else s)) := by
 obtain ⟨w2, hw2⟩ : ∃ w2, w.alloc (.cells #[.int .i64 5, St name, .slice A nums.length c] 239) = w2 := ⟨_, rfl⟩
 have hy : Below w.heap.size w w2 := by rw [← hw2]; exact (Below.refl _ w).alloc (Nat.le_refl _) _
 have b0 : Box w2 w.heap.size #[.int .i64 5, St name, .slice A nums.length c] := by rw [← hw2]; exact Box.new w _ _
 have hP2 := hP.below hy
 have hE2 := hE.below hy
 have hR2 := hR.below hy
 have x0 := b0.cell 0
 have x1 := b0.cell 1
 have x2 := b0.cell 2
 simp only [List.getElem?_toArray, List.getElem?_cons_zero, List.getElem?_cons_succ] at x0 x1 x2
 have hlen := hr.three (by dsimp only; decide) (by dsimp only; decide)
 have hlen0 : 0 < nums.length := by have : nums.length = 3 := hlen; omega
 have hb0 := (hr.nums 0 hlen0).1
 have hb0 : 0 ≤ gi nums 0 := hb0
 obtain ⟨ad, rfl, _, _⟩ := hR.at0 hlen0
 obtain ⟨hab, e0⟩ := hR2.cell0 hlen0
 have hb1 : 0 ≤ gi nums 1 := (hr.nums 1 (by have : nums.length = 3 := hlen; show 1 < nums.length; omega)).1
 have HLEN := Lib.hid hlen
 rw [exE_free rfl, exS_free rfl]
 have hcon := ofree_any hP2 nums HLEN.out _ c hR2
 obtain ⟨E, hE'⟩ : ∃ E, E = freE s nums := ⟨_, rfl⟩
 obtain ⟨T, hT'⟩ : ∃ T, T = if E = 0 then { s with rights := freR s nums } else s := ⟨_, rfl⟩
 show Calls _ _ _ _ (RetO L (N + 1) w F g (freE s nums) (if freE s nums = 0 then { s with rights := freR s nums } else s))
 rw [← hE'] at hcon ⊢
 rw [← hT'] at hcon ⊢
 clear hE' hT'
 have HC := Lib.hid hcon
 clear hcon
 clear hlen
 go_enter Tryz.func167, Tryz.ntmps167
 go_wp2_with (go_at_call 239; (with_reducible refine HC.out.mono ?_); rintro e w3 hr3; have he3 := hr3.1; subst he3; have HR := Lib.hid hr3; clear hr3)
 go_ret
 exact (RetO.back hP hy HR.out).more (Nat.le_succ _)
end
section
variable {L : Int} {N : Nat} {w : World} {F : Nat → Prop} {g : Nat} {h : Hd} {s : Of}
set_option maxHeartbeats 1600000 in
theorem exec_1 (hP : PO L N w F g h s) (hE : EnvZ w) (hN : N < 1000000000) (name : Wd) (nums : List Int) (hr : RqOk ⟨1, name, nums⟩) (hnl : name.length ≤ 1000000000) (hll : nums.length ≤ 1000000) (A : Option Addr) (c : Nat) (hR : RN w A nums) (hc : nums.length ≤ c) :
  Calls Tryz.prog 167 #[.pointer (some ⟨g, 0, none⟩), .agg #[.int .i64 1, St name, .slice A nums.length c]] w (RetO L (N + 1) w F g (exE s ⟨1, name, nums⟩) (if exE s ⟨1, name, nums⟩ = 0 then exS s ⟨1, name, nums⟩ else s)) := by
 obtain ⟨w2, hw2⟩ : ∃ w2, w.alloc (.cells #[.int .i64 1, St name, .slice A nums.length c] 239) = w2 := ⟨_, rfl⟩
 have hy : Below w.heap.size w w2 := by rw [← hw2]; exact (Below.refl _ w).alloc (Nat.le_refl _) _
 have b0 : Box w2 w.heap.size #[.int .i64 1, St name, .slice A nums.length c] := by rw [← hw2]; exact Box.new w _ _
 have hP2 := hP.below hy
 have hE2 := hE.below hy
 have hR2 := hR.below hy
 have x0 := b0.cell 0
 have x1 := b0.cell 1
 have x2 := b0.cell 2
 simp only [List.getElem?_toArray, List.getElem?_cons_zero, List.getElem?_cons_succ] at x0 x1 x2
 have hlen := hr.one (by dsimp only; decide)
 have hlen0 : 0 < nums.length := by have : nums.length = 1 := hlen; omega
 have hb0 := (hr.nums 0 hlen0).1
 have hb0 : 0 ≤ gi nums 0 := hb0
 obtain ⟨ad, rfl, _, _⟩ := hR.at0 hlen0
 obtain ⟨hab, e0⟩ := hR2.cell0 hlen0
 have HLEN := Lib.hid hlen
 rw [exE_dish rfl, exS_dish rfl]
 obtain ⟨E, hE'⟩ : ∃ E, E = serE s name (gi nums 0) := ⟨_, rfl⟩
 obtain ⟨T, hT'⟩ : ∃ T, T = if E = 0 then { s with dishes := s.dishes ++ [⟨name, gi nums 0⟩] } else s := ⟨_, rfl⟩
 show Calls _ _ _ _ (RetO L (N + 1) w F g (serE s name (gi nums 0)) (if serE s name (gi nums 0) = 0 then { s with dishes := s.dishes ++ [⟨name, gi nums 0⟩] } else s))
 rw [← hE', ← hT']
 have hb3 : Below w2.heap.size w2 w2.drew := (Below.refl _ _).drew
 have hP3 := hP2.below hb3
 have hE3 := hE2.below hb3
 have hcon := serve_any hP3 hE3 name (hr.name rfl) hnl (gi nums 0) hb0
 rw [← hE'] at hcon
 rw [← hT'] at hcon
 clear hE' hT'
 have HC := Lib.hid hcon
 clear hcon
 clear hlen
 go_enter Tryz.func167, Tryz.ntmps167
 go_wp2_with fail
 go_region_with (go_at_call 236; (with_reducible refine HC.out.mono ?_); rintro e w3 hr3; have he3 := hr3.1; subst he3; have HR := Lib.hid hr3; clear hr3)
 all_goals
  go_wp2_with fail
  go_ret
  exact (RetO.back hP (hy.trans (hb3.mono hy.size)) HR.out).more (Nat.le_succ _)
set_option maxHeartbeats 1600000 in
theorem exec_6 (hP : PO L N w F g h s) (hE : EnvZ w) (hN : N < 1000000000) (name : Wd) (nums : List Int) (hr : RqOk ⟨6, name, nums⟩) (hnl : name.length ≤ 1000000000) (hll : nums.length ≤ 1000000) (A : Option Addr) (c : Nat) (hR : RN w A nums) (hc : nums.length ≤ c) :
  Calls Tryz.prog 167 #[.pointer (some ⟨g, 0, none⟩), .agg #[.int .i64 6, St name, .slice A nums.length c]] w (RetO L (N + 1) w F g (exE s ⟨6, name, nums⟩) (if exE s ⟨6, name, nums⟩ = 0 then exS s ⟨6, name, nums⟩ else s)) := by
 obtain ⟨w2, hw2⟩ : ∃ w2, w.alloc (.cells #[.int .i64 6, St name, .slice A nums.length c] 239) = w2 := ⟨_, rfl⟩
 have hy : Below w.heap.size w w2 := by rw [← hw2]; exact (Below.refl _ w).alloc (Nat.le_refl _) _
 have b0 : Box w2 w.heap.size #[.int .i64 6, St name, .slice A nums.length c] := by rw [← hw2]; exact Box.new w _ _
 have hP2 := hP.below hy
 have hE2 := hE.below hy
 have hR2 := hR.below hy
 have x0 := b0.cell 0
 have x1 := b0.cell 1
 have x2 := b0.cell 2
 simp only [List.getElem?_toArray, List.getElem?_cons_zero, List.getElem?_cons_succ] at x0 x1 x2
 have hlen := hr.two (by dsimp only; decide)
 have hlen0 : 0 < nums.length := by have : nums.length = 2 := hlen; omega
 have hb0 := (hr.nums 0 hlen0).1
 have hb0 : 0 ≤ gi nums 0 := hb0
 obtain ⟨ad, rfl, _, _⟩ := hR.at0 hlen0
 obtain ⟨hab, e0⟩ := hR2.cell0 hlen0
 have e1 := hR2.cellk (k := 1) (by have : nums.length = 2 := hlen; omega) (by omega)
 have hb1 : 0 ≤ gi nums 1 := (hr.nums 1 (by have : nums.length = 2 := hlen; show 1 < nums.length; omega)).1
 have hl1 : 1 < nums.length := by have : nums.length = 2 := hlen; omega
 have HLEN := Lib.hid hlen
 rw [exE_cook rfl, exS_cook rfl]
 obtain ⟨E, hE'⟩ : ∃ E, E = cokE s (gi nums 0) (gi nums 1) := ⟨_, rfl⟩
 obtain ⟨T, hT'⟩ : ∃ T, T = if E = 0 then { s with cooked := updF s.cooked (gi nums 0) (gi nums 1) } else s := ⟨_, rfl⟩
 show Calls _ _ _ _ (RetO L (N + 1) w F g (cokE s (gi nums 0) (gi nums 1)) (if cokE s (gi nums 0) (gi nums 1) = 0 then { s with cooked := updF s.cooked (gi nums 0) (gi nums 1) } else s))
 rw [← hE', ← hT']
 have hb3 : Below w2.heap.size w2 w2.drew := (Below.refl _ _).drew
 have hP3 := hP2.below hb3
 have hE3 := hE2.below hb3
 have hcon := cook_any hP3 hN (gi nums 0) (gi nums 1) hb1
 rw [← hE'] at hcon
 rw [← hT'] at hcon
 clear hE' hT'
 have HC := Lib.hid hcon
 clear hcon
 clear hlen
 go_enter Tryz.func167, Tryz.ntmps167
 go_wp2_with fail
 go_region_with (go_at_call 240; (with_reducible refine HC.out.mono ?_); rintro e w3 hr3; have he3 := hr3.1; subst he3; have HR := Lib.hid hr3; clear hr3)
 all_goals
  go_wp2_with fail
  go_ret
  exact (RetO.back hP (hy.trans (hb3.mono hy.size)) HR.out).more (Nat.le_refl _)
set_option maxHeartbeats 1600000 in
theorem exec_7 (hP : PO L N w F g h s) (hE : EnvZ w) (hN : N < 1000000000) (name : Wd) (nums : List Int) (hr : RqOk ⟨7, name, nums⟩) (hnl : name.length ≤ 1000000000) (hll : nums.length ≤ 1000000) (A : Option Addr) (c : Nat) (hR : RN w A nums) (hc : nums.length ≤ c) :
  Calls Tryz.prog 167 #[.pointer (some ⟨g, 0, none⟩), .agg #[.int .i64 7, St name, .slice A nums.length c]] w (RetO L (N + 1) w F g (exE s ⟨7, name, nums⟩) (if exE s ⟨7, name, nums⟩ = 0 then exS s ⟨7, name, nums⟩ else s)) := by
 obtain ⟨w2, hw2⟩ : ∃ w2, w.alloc (.cells #[.int .i64 7, St name, .slice A nums.length c] 239) = w2 := ⟨_, rfl⟩
 have hy : Below w.heap.size w w2 := by rw [← hw2]; exact (Below.refl _ w).alloc (Nat.le_refl _) _
 have b0 : Box w2 w.heap.size #[.int .i64 7, St name, .slice A nums.length c] := by rw [← hw2]; exact Box.new w _ _
 have hP2 := hP.below hy
 have hE2 := hE.below hy
 have hR2 := hR.below hy
 have x0 := b0.cell 0
 have x1 := b0.cell 1
 have x2 := b0.cell 2
 simp only [List.getElem?_toArray, List.getElem?_cons_zero, List.getElem?_cons_succ] at x0 x1 x2
 have hlen := hr.two (by dsimp only; decide)
 have hlen0 : 0 < nums.length := by have : nums.length = 2 := hlen; omega
 have hb0 := (hr.nums 0 hlen0).1
 have hb0 : 0 ≤ gi nums 0 := hb0
 obtain ⟨ad, rfl, _, _⟩ := hR.at0 hlen0
 obtain ⟨hab, e0⟩ := hR2.cell0 hlen0
 have e1 := hR2.cellk (k := 1) (by have : nums.length = 2 := hlen; omega) (by omega)
 have hb1 : 0 ≤ gi nums 1 := (hr.nums 1 (by have : nums.length = 2 := hlen; show 1 < nums.length; omega)).1
 have hl1 : 1 < nums.length := by have : nums.length = 2 := hlen; omega
 have HLEN := Lib.hid hlen
 rw [exE_eat rfl, exS_eat rfl]
 obtain ⟨E, hE'⟩ : ∃ E, E = eteE s (gi nums 0) (gi nums 1) := ⟨_, rfl⟩
 obtain ⟨T, hT'⟩ : ∃ T, T = if E = 0 then { s with eaten := updF s.eaten (gi nums 0) (gi nums 1) } else s := ⟨_, rfl⟩
 show Calls _ _ _ _ (RetO L (N + 1) w F g (eteE s (gi nums 0) (gi nums 1)) (if eteE s (gi nums 0) (gi nums 1) = 0 then { s with eaten := updF s.eaten (gi nums 0) (gi nums 1) } else s))
 rw [← hE', ← hT']
 have hb3 : Below w2.heap.size w2 w2.drew := (Below.refl _ _).drew
 have hP3 := hP2.below hb3
 have hE3 := hE2.below hb3
 have hcon := eat_any hP3 hN (gi nums 0) (gi nums 1) hb1
 rw [← hE'] at hcon
 rw [← hT'] at hcon
 clear hE' hT'
 have HC := Lib.hid hcon
 clear hcon
 clear hlen
 go_enter Tryz.func167, Tryz.ntmps167
 go_wp2_with fail
 go_region_with (go_at_call 241; (with_reducible refine HC.out.mono ?_); rintro e w3 hr3; have he3 := hr3.1; subst he3; have HR := Lib.hid hr3; clear hr3)
 all_goals
  go_wp2_with fail
  go_ret
  exact (RetO.back hP (hy.trans (hb3.mono hy.size)) HR.out).more (Nat.le_refl _)
end
section
variable {L : Int} {N : Nat} {w : World} {F : Nat → Prop} {g : Nat} {h : Hd} {s : Of}
set_option maxHeartbeats 1600000 in
theorem exec_2 (hP : PO L N w F g h s) (hE : EnvZ w) (hN : N < 1000000000) (name : Wd) (nums : List Int) (hr : RqOk ⟨2, name, nums⟩) (hnl : name.length ≤ 1000000000) (hll : nums.length ≤ 1000000) (A : Option Addr) (c : Nat) (hR : RN w A nums) (hc : nums.length ≤ c) :
  Calls Tryz.prog 167 #[.pointer (some ⟨g, 0, none⟩), .agg #[.int .i64 2, St name, .slice A nums.length c]] w (RetO L (N + 1) w F g (exE s ⟨2, name, nums⟩) (if exE s ⟨2, name, nums⟩ = 0 then exS s ⟨2, name, nums⟩ else s)) := by
 obtain ⟨w2, hw2⟩ : ∃ w2, w.alloc (.cells #[.int .i64 2, St name, .slice A nums.length c] 239) = w2 := ⟨_, rfl⟩
 have hy : Below w.heap.size w w2 := by rw [← hw2]; exact (Below.refl _ w).alloc (Nat.le_refl _) _
 have b0 : Box w2 w.heap.size #[.int .i64 2, St name, .slice A nums.length c] := by rw [← hw2]; exact Box.new w _ _
 have hP2 := hP.below hy
 have hE2 := hE.below hy
 have hR2 := hR.below hy
 have x0 := b0.cell 0
 have x1 := b0.cell 1
 have x2 := b0.cell 2
 simp only [List.getElem?_toArray, List.getElem?_cons_zero, List.getElem?_cons_succ] at x0 x1 x2
 have hlen := hr.len1 (by dsimp only; decide)
 have hlen0 : 0 < nums.length := hlen
 have hb0 := (hr.nums 0 hlen0).1
 have hb0 : 0 ≤ gi nums 0 := hb0
 obtain ⟨ad, rfl, _, _⟩ := hR.at0 hlen0
 obtain ⟨hab, e0⟩ := hR2.cell0 hlen0
 have HLEN := Lib.hid hlen
 rw [exE_kid rfl, exS_kid rfl]
 obtain ⟨E, hE'⟩ : ∃ E, E = metE s (gi nums 0) nums.tail := ⟨_, rfl⟩
 obtain ⟨T, hT'⟩ : ∃ T, T = if E = 0 then { s with kids := insK s.kids ⟨gi nums 0, nums.tail⟩ } else s := ⟨_, rfl⟩
 show Calls _ _ _ _ (RetO L (N + 1) w F g (metE s (gi nums 0) nums.tail) (if metE s (gi nums 0) nums.tail = 0 then { s with kids := insK s.kids ⟨gi nums 0, nums.tail⟩ } else s))
 rw [← hE', ← hT']
 have hb3 : Below w2.heap.size w2 w2.drew := (Below.refl _ _).drew
 have hP3 := hP2.below hb3
 have hE3 := hE2.below hb3
 by_cases hc1 : c = 1
 ·have hl1 : nums.length = 1 := by omega
  have htl : nums.tail = [] := List.eq_nil_of_length_eq_zero (by rw [List.length_tail]; omega)
  subst hc1
  have hT3 : RN w2.drew (some ad) nums.tail := by rw [htl]; exact RN.nil'
  have hcon := meet_any (c := 0) hP3 (gi nums 0) hb0 nums.tail (fun k hk => by rw [htl] at hk; simp at hk) (by simp; omega) _ hT3
  rw [← hE'] at hcon
  rw [← hT'] at hcon
  have etl : nums.tail.length = 0 := by rw [htl]; rfl
  rw [etl] at hcon
  rw [hl1] at x2 hw2
  rw [hl1]
  have HL1 := Lib.hid hl1
  clear hl1
  clear hE' hT' htl etl
  have HC := Lib.hid hcon
  clear hcon
  clear hlen
  go_enter Tryz.func167, Tryz.ntmps167
  go_wp2_with fail
  go_region_with (go_at_call 237; (with_reducible refine HC.out.mono ?_); rintro e w3 hr3; have he3 := hr3.1; subst he3; have HR := Lib.hid hr3; clear hr3)
  all_goals
   go_wp2_with fail
   go_ret
   exact (RetO.back hP (hy.trans (hb3.mono hy.size)) HR.out).more (Nat.le_succ _)
 ·have hT3 : RN w2.drew (some (ad.add 1)) nums.tail := hR2.tail1 hlen0
  have hcon := meet_any (c := c - 1) hP3 (gi nums 0) hb0 nums.tail (fun k hk => by rw [gi_tail]; exact (hr.nums (k + 1) (by simp at hk; show k + 1 < nums.length; omega)).1) (by simp; omega) _ hT3
  rw [← hE'] at hcon
  rw [← hT'] at hcon
  rw [List.length_tail] at hcon
  clear hE' hT'
  have hadd : ad.add 1 = ⟨ad.block, ad.off + 1, none⟩ := by simp [Addr.add]
  rw [hadd] at hcon
  clear hadd
  have HC := Lib.hid hcon
  clear hcon
  clear hlen
  go_enter Tryz.func167, Tryz.ntmps167
  go_wp2_with fail
  go_region_with (go_at_call 237; (with_reducible refine HC.out.mono ?_); rintro e w3 hr3; have he3 := hr3.1; subst he3; have HR := Lib.hid hr3; clear hr3)
  all_goals
   go_wp2_with fail
   go_ret
   exact (RetO.back hP (hy.trans (hb3.mono hy.size)) HR.out).more (Nat.le_succ _)
end
section
variable {L : Int} {N : Nat} {w : World} {F : Nat → Prop} {g : Nat} {h : Hd} {s : Of}
theorem execute_any (hP : PO L N w F g h s) (hE : EnvZ w) (hN : N < 1000000000) (r : Rq) (hr : RqOk r) (hnl : r.name.length ≤ 1000000000) (hll : r.nums.length ≤ 1000000) (A : Option Addr) (c : Nat) (hR : RN w A r.nums) (hc : r.nums.length ≤ c) :
  Calls Tryz.prog 167 #[.pointer (some ⟨g, 0, none⟩), .agg #[.int .i64 r.kind, St r.name, .slice A r.nums.length c]] w (RetO L (N + 1) w F g (exE s r) (if exE s r = 0 then exS s r else s)) := by
 obtain ⟨kind, name, nums⟩ := r
 have k0 : 0 ≤ kind := hr.k0
 have k7 : kind ≤ 7 := hr.k7
 have hk : kind = 0 ∨ kind = 1 ∨ kind = 2 ∨ kind = 3 ∨ kind = 4 ∨ kind = 5 ∨ kind = 6 ∨ kind = 7 := by omega
 rcases hk with rfl | rfl | rfl | rfl | rfl | rfl | rfl | rfl
 ·exact exec_0 hP hE hN name nums hr hnl hll A c hR hc
 ·exact exec_1 hP hE hN name nums hr hnl hll A c hR hc
 ·exact exec_2 hP hE hN name nums hr hnl hll A c hR hc
 ·exact exec_3 hP hE hN name nums hr hnl hll A c hR hc
 ·exact exec_4 hP hE hN name nums hr hnl hll A c hR hc
 ·exact exec_5 hP hE hN name nums hr hnl hll A c hR hc
 ·exact exec_6 hP hE hN name nums hr hnl hll A c hR hc
 ·exact exec_7 hP hE hN name nums hr hnl hll A c hR hc
end
end Go.Proofs.YtiapkffihpgdcaaGreatDoor
