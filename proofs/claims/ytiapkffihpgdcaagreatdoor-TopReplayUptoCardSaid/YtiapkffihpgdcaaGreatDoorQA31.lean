import Derived.Test.YtiapkffihpgdcaaGreatDoorQA4
import Derived.Test.YtiapkffihpgdcaaGreatDoorQA11
import Derived.Test.YtiapkffihpgdcaaGreatDoorQA21
import Derived.Test.YtiapkffihpgdcaaGreatDoorQA25
import Derived.Test.YtiapkffihpgdcaaGreatDoorQA26
import Derived.Test.YtiapkffihpgdcaaGreatDoorQA29
import Derived.Test.YtiapkffihpgdcaaGreatDoorQA30
import Derived.BigRegion
set_option linter.unusedVariables false
set_option linter.unusedSimpArgs false
set_option maxRecDepth 100000
namespace Go.Proofs.YtiapkffihpgdcaaGreatDoor
open Go.RowKit Go.Sort
theorem osameInts_any (l m : List Int) (A A' : Option Addr) (c c' : Nat) (w : World) (hl : RN w A l) (hm : RN w A' m) (hb : l.length ≤ 1000000000) (hb' : m.length ≤ 1000000000) :
  Calls Tryz.prog 43 #[.slice A l.length c, .slice A' m.length c'] w fun e w' => e = .returned (.bool (decide (l = m))) ∧ Below w.heap.size w w' := by
 have HC := Lib.hid (sameInts_any l m A A' c c' w hl hm hb hb')
 go_enter Tryz.func43, Tryz.ntmps43
 go_wp2_with (go_at_call 107; (with_reducible refine HC.out.mono ?_); rintro e w2 ⟨rfl, hb2⟩)
 go_ret
 exact ⟨rfl, hb2⟩
section
variable {N : Nat} {w : World} {F F' : Nat → Prop} {g x : Nat} {h : Hd} {h' : Hr} {s : Of}
set_option maxHeartbeats 1600000 in
theorem sameDay_any (hP : PO 0 N w F g h s) (hO : RO w F' x h' s) (d : Int) :
  Calls Tryz.prog 39 #[.pointer (some ⟨g, 0, none⟩), .pointer (some ⟨x, 0, none⟩), .int .i64 d] w fun e w' => e = .returned (.bool true) ∧ Below w.heap.size w w' := by
 have h1 := Lib.hid (fun (w' : World) (hb : Below w.heap.size w w') => oMeal_any (hP.below hb) d)
 have h2 := Lib.hid (fun (w' : World) (hb : Below w.heap.size w w') => rMeal_any (hO.below hb) d)
 have h3 := Lib.hid (fun (w' : World) (hb : Below w.heap.size w w') => oPortions_any (hP.below hb) d)
 have h4 := Lib.hid (fun (w' : World) (hb : Below w.heap.size w w') => rPortions_any (hO.below hb) d)
 have h5 := Lib.hid (fun (w' : World) (hb : Below w.heap.size w w') => Served_any (hP.below hb) d)
 have h6 := Lib.hid (fun (w' : World) (hb : Below w.heap.size w w') => rServed_any (hO.below hb) d)
 go_enter Tryz.func39, Tryz.ntmps39
 go_wp2_with (first
  | (go_at_call 49; (with_reducible refine (h1.out _ (Below.refl _ _)).mono ?_); rintro e w1 ⟨rfl, b1⟩)
  | (go_at_call 95; (with_reducible refine (h2.out _ b1).mono ?_); rintro e w2 ⟨rfl, b2⟩; have c2 := b1.trans (b2.mono b1.size))
  | (go_at_call 44; (with_reducible refine (h3.out _ c2).mono ?_); rintro e w3 ⟨rfl, b3⟩; have c3 := c2.trans (b3.mono c2.size))
  | (go_at_call 96; (with_reducible refine (h4.out _ c3).mono ?_); rintro e w4 ⟨rfl, b4⟩; have c4 := c3.trans (b4.mono c3.size))
  | (go_at_call 46; (with_reducible refine (h5.out _ c4).mono ?_); rintro e w5 ⟨rfl, b5⟩; have c5 := c4.trans (b5.mono c4.size))
  | (go_at_call 97; (with_reducible refine (h6.out _ c5).mono ?_); rintro e w6 ⟨rfl, b6⟩; have c6 := c5.trans (b6.mono c5.size)))
 go_ret
 exact ⟨rfl, c6⟩
theorem RF.of_readsF {l : List Fact} {A : Option Addr} {I : Nat → Prop} (h : ReadsF I w 5 A l.length (cellsF l)) : RF w w.heap.size A l := ⟨Nat.le_refl _, h.1⟩
set_option maxHeartbeats 3200000 in
theorem equal_any (hP : PO 0 N w F g h s) (hO : RO w F' x h' s) :
  Calls Tryz.prog 54 #[.pointer (some ⟨g, 0, none⟩), .pointer (some ⟨x, 0, none⟩)] w fun e w' => e = .returned (.bool true) ∧ Below w.heap.size w w' := by
 have hx := hO.gl
 have hdl := days_le hP.ok.tm
 have hd1 : s.dishes.length ≤ 40 := by have := hP.ok.dl; have := hP.ok.cy.n2; omega
 have hk1 := hP.ok.kl
 have hf1 := hP.ok.fl
 have HD := Lib.hid (oDishes_any hP)
 have HK := Lib.hid (fun (w' : World) (hb : Below w.heap.size w w') => oEaters_any (hP.below hb))
 go_enter Tryz.func54, Tryz.ntmps54
 go_wp2_with (first
  | (go_at_call 47; (with_reducible refine HD.out.mono ?_); rintro e w1 ⟨DA, Dc, rfl, rdD, b1⟩)
  | (go_at_call 26; (with_reducible refine (HK.out _ b1).mono ?_); rintro e w2 ⟨KA, Kc, ek, rfl, rdK, b2⟩))
 have c2 := b1.trans (b2.mono b1.size)
 have rD : RDh (fun _ => True) w2 DA s.dishes := R2.mono (R2.below (F := fun k => w.heap.size ≤ k) rdD b2) fun _ _ => trivial
 have rK : RKd (fun _ => True) w2 KA s.kids ek := rdK.mono fun _ _ => trivial
 have hP2 := hP.below c2
 have hO2 := hO.below c2
 have HN := Lib.hid (fun (w' : World) (hb : Below w2.heap.size w2 w') => oNow_any (hP2.below hb))
 have HF := Lib.hid (fun (w' : World) (hb : Below w2.heap.size w2 w') => oFacts_any (hP2.below hb))
 have HB := Lib.hid (fun (w' : World) (hb : Below w2.heap.size w2 w') => oBook_any (hP2.below hb))
 have hl2 : x < w2.heap.size := Nat.lt_of_lt_of_le hx c2.size
 have x0 := hO2.cNow; have x1 := hO2.cDs; have x2 := hO2.cKd; have x3 := hO2.cFa; have x4 := hO2.cBk
 obtain ⟨BT, hBT⟩ : ∃ BT, BT = St (bok s) := ⟨_, rfl⟩
 clear HD HK rdD rdK b1 b2
 go_cut [63] (fun v wx => v = .bool false ∧ Below w2.heap.size w2 wx)
 case first =>
  go_region_held3 (fun w' => w'.cell? ⟨x, 10, none⟩ = some (.int .i64 s.now) ∧ w'.cell? ⟨x, 11, none⟩ = some (.slice h'.ds.1 s.dishes.length h'.ds.2) ∧ w'.cell? ⟨x, 12, none⟩ = some (.slice h'.kd.1 s.kids.length h'.kd.2) ∧ w'.cell? ⟨x, 13, none⟩ = some (.slice h'.fa.1 s.facts.length h'.fa.2) ∧ w'.cell? ⟨x, 18, none⟩ = some (St (bok s)))
   (first | exact ⟨k0, k1, k2, k3, k4⟩ | go_keep)
   (first
    | (go_at_call 21; (with_reducible refine (HN.out _ (Below.refl w2.heap.size w2).drew).mono ?_); rintro e wA ⟨rfl, bA⟩; have cA := (Below.refl w2.heap.size w2).drew.trans bA; have oA := hO2.below cA; have k0 := oA.cNow; have k1 := oA.cDs; have k2 := oA.cKd; have k3 := oA.cFa; have k4 := oA.cBk)
    | (go_at_call 24; (with_reducible refine (HF.out _ cA).mono ?_); rintro e wB ⟨FA, Fc, rfl, rdB, bB⟩; have cB := cA.trans (bB.mono cA.size); have oB := hO2.below cB; have k0 := oB.cNow; have k1 := oB.cDs; have k2 := oB.cKd; have k3 := oB.cFa; have k4 := oB.cBk; have HS := Lib.hid (sameFacts_any s.facts s.facts FA h'.fa.1 Fc h'.fa.2 _ _ wB (RF.of_readsF rdB) oB.rf (by omega) (by omega)))
    | (go_at_call 142; (with_reducible refine HS.out.mono ?_); rintro e wC ⟨rfl, bC⟩; have cC := cB.trans (bC.mono cB.size); have oC := hO2.below cC; have k0 := oC.cNow; have k1 := oC.cDs; have k2 := oC.cKd; have k3 := oC.cFa; have k4 := oC.cBk)
    | (go_at_call 23; (with_reducible refine (HB.out _ cC).mono ?_); rintro e wD ⟨rfl, bD⟩; have cD := cC.trans (bD.mono cC.size); have oD := hO2.below cD; have k0 := oD.cNow; have k1 := oD.cDs; have k2 := oD.cKd; have k3 := oD.cFa; have k4 := oD.cBk))
  all_goals
   go_wp2_with fail
   go_meet
   exact ⟨rfl, cD⟩
 case rest =>
  obtain ⟨rfl, b3⟩ := hcut
  clear x0 x1 x2 x3 x4 hBT HN HF HB
  obtain ⟨w3, hw3⟩ : ∃ w3, w3 = wc := ⟨_, rfl⟩
  rw [← hw3] at b3 ⊢
  clear hw3
  have c3 := c2.trans (b3.mono c2.size)
  replace rD := R2.below rD b3
  replace rK := rK.below b3
  have hP3 := hP2.below b3
  have hO3 := hO2.below b3
  clear hP2 hO2
  go_wp2_with fail
  go_loopw [7] (fun v wr => ∃ k : Nat, k ≤ s.dishes.length ∧ v = .int .i64 k ∧ Below w3.heap.size w3 wr) (fun v _ => s.dishes.length - (intOf v).toNat)
  case atStart => exact ⟨0, by omega, rfl, Below.refl _ _⟩
  case round =>
   obtain ⟨k, hk, rfl, hb⟩ := hrel
   by_cases hlt : k < s.dishes.length
   ·have hOr := hO3.below hb
    obtain ⟨ad, rfl, hab, e0, e1⟩ := RDh.at_ (R2.below rD hb) hlt
    have q := hOr.cDs
    obtain ⟨ad', ha', hab', f0, f1⟩ := hOr.dish.at_ hlt
    rw [ha'] at q
    have n1 : ((gd s.dishes k).item != (gd s.dishes k).item) = false := by simp
    have n2 : ((gd s.dishes k).name != (gd s.dishes k).name) = false := by simp
    clear ha'
    go_wp2_with fail
    go_quiet (fail)
    go_wp2_with fail
    go_roundw
    case rel => exact ⟨k + 1, by omega, by go_num, Go.below_drewN hb _⟩
    case measure => simp [intOf]; omega
   ·obtain rfl : k = s.dishes.length := by omega
    go_wp2_with fail
    obtain ⟨w4, rfl⟩ : ∃ w4 : World, w4 = wr := ⟨_, rfl⟩
    go_loopw [8] (fun v wr => ∃ k : Nat, k ≤ s.kids.length ∧ v = .int .i64 k ∧ Below w4.heap.size w4 wr) (fun v _ => s.kids.length - (intOf v).toNat)
    case atStart => exact ⟨0, by omega, rfl, Below.refl _ _⟩
    case round =>
     obtain ⟨k, hk, rfl, hb2⟩ := hrel
     have hbr := hb.trans (hb2.mono hb.size)
     by_cases hlt : k < s.kids.length
     ·have hPr := hP3.below hbr
      have hOr := hO3.below hbr
      have hrk := rK.below hbr
      have hav := hrk.avoid k hlt
      obtain ⟨ad, rfl, hab, e0, e1⟩ := hrk.at_ hlt
      have q := hOr.cKd
      have hav' := hOr.av k hlt
      obtain ⟨ad', ha', hab', _, f0, f1⟩ := hOr.kids.at_ hlt
      rw [ha'] at q
      have hal : (gk s.kids k).avoid.length ≤ 1000 := by
       have h1 := hP.ok.ka _ (gk_mem hlt)
       have h2 := isSet_len h1 hP.ok.bk.p0
       have h3 := hP.ok.bk.p10
       omega
      have HA := Lib.hid (Due_any hPr (gk s.kids k).num)
      have HB := Lib.hid (fun (w' : World) (hb : Below wr.heap.size wr w') => rDue_any (hOr.below hb) (gk s.kids k).num)
      have HH := Lib.hid hOr
      have HR := Lib.hid hrk
      have HV := Lib.hid hav
      have HV' := Lib.hid hav'
      obtain ⟨nm, hnm⟩ : ∃ nm, nm = (gk s.kids k).num := ⟨_, rfl⟩
      obtain ⟨av, hav3⟩ : ∃ av, av = (gk s.kids k).avoid := ⟨_, rfl⟩
      rw [← hav3] at e1 f1 HV HV' hal
      rw [← hnm] at e0 f0 HA HB
      unfold slN at f1
      clear ha' hPr hrk hav hav' hnm hav3
      have E0 := Lib.hid e0; have E1 := Lib.hid e1; have F0 := Lib.hid f0; have F1 := Lib.hid f1; have QQ := Lib.hid q
      go_wp2_with (first
       | (go_at_call 29; (with_reducible refine HA.out.mono ?_); rintro e w5 ⟨rfl, b5⟩; have q5 := (b5.cell (p := ⟨x, 12, none⟩) HH.out.gl).trans QQ.out; have f5 := (b5.cell (by exact hab')).trans F0.out)
       | (go_at_call 40; (with_reducible refine (HB.out _ b5).mono ?_); rintro e w6 ⟨rfl, b6⟩))
      have b56 := b5.trans (b6.mono b5.size)
      have h6 := HH.out.below b56
      have g0 := cell_regrown ((b56.cell (by exact hab)).trans E0.out)
      have g1 := cell_regrown ((b56.cell (by exact hab)).trans E1.out)
      have g2 := cell_regrown ((b56.cell (by exact hab')).trans F0.out)
      have g3 := cell_regrown ((b56.cell (by exact hab')).trans F1.out)
      have g4 := cell_regrown ((b56.cell (p := ⟨x, 12, none⟩) HH.out.gl).trans QQ.out)
      have r1 : RN w6 (ek k).1 av := (RNF.rn HV.out).below b56
      have r2 : RN w6 (h'.hk k).1 av := (RNF.rn HV'.out).below b56
      have cA : ∀ d' os, Calls Tryz.prog 43 #[.slice (ek k).1 av.length (ek k).2, .slice (h'.hk k).1 av.length (h'.hk k).2] (grow (redrawn w6 d') os) fun e w'' => e = .returned (.bool true) ∧ ∃ p : Regrown, w'' = grow (redrawn w6 p.d) p.os := fun d' os =>
       Calls.regrown_of ((osameInts_any av av _ _ _ _ _ (r1.below (below_regrown w6 d' os)) (r2.below (below_regrown w6 d' os)) (by omega) (by omega)).mono fun e w' hh => ⟨by rw [hh.1]; simp, hh.2⟩)
      obtain ⟨DR, hDR⟩ : ∃ DR, DR = dueR s nm := ⟨_, rfl⟩
      obtain ⟨DE, hDE⟩ : ∃ DE, DE = dueE s nm := ⟨_, rfl⟩
      rw [← hDR, ← hDE]
      have n1 : (nm != nm) = false := by simp
      have n2 : (DR != DR) = false := by simp
      have n3 : (DE != DE) = false := by simp
      clear hDR hDE r1 r2 e0 e1 f0 f1 q q5 f5 h6
      go_wp2_with fail
      refine wp_region_quiet_below (by kernel_rfl) (by kernel_rfl) ?_
      repeat (go_big_quiet_step (first | with_reducible exact cA _ _))
      refine wpQuiet_nil ?_
      intro _ hw'
      obtain ⟨⟨dq, osq⟩, hw''⟩ := hw'
      subst hw''
      go_wp2_with fail
      go_roundw
      case rel => exact ⟨k + 1, by omega, by go_num, hb2.trans ((b56.trans ((below_regrown w6 dq osq).mono b56.size)).mono hb2.size)⟩
      case measure => simp [intOf]; omega
     ·obtain rfl : k = s.kids.length := by omega
      go_wp2_with fail
      obtain ⟨w5, rfl⟩ : ∃ w5 : World, w5 = wr := ⟨_, rfl⟩
      go_loopw [13] (fun v wr => ∃ k : Nat, k ≤ s.days ∧ v = .int .i64 k ∧ Below w5.heap.size w5 wr) (fun v _ => s.days - (intOf v).toNat)
      case atStart => exact ⟨0, by omega, rfl, Below.refl _ _⟩
      case round =>
       obtain ⟨k, hk, rfl, hb3⟩ := hrel
       have hbq := hbr.trans (hb3.mono hbr.size)
       have hOr := hO3.below hbq
       have q := hOr.cMn
       have HS := Lib.hid (sameDay_any (hP3.below hbq) hOr k)
       by_cases hlt : k < s.days
       ·go_wp2_with (go_at_call 39; (with_reducible refine HS.out.mono ?_); rintro e w6 ⟨rfl, b6⟩)
        go_roundw
        case rel => exact ⟨k + 1, by omega, by go_num, hb3.trans (b6.mono hb3.size)⟩
        case measure => simp [intOf]; omega
       ·go_wp2_with fail
        go_ret
        exact ⟨rfl, c3.trans (hbq.mono c3.size)⟩
end
end Go.Proofs.YtiapkffihpgdcaaGreatDoor
namespace Go.Proofs.YtiapkffihpgdcaaGreatDoor
open Go.RowKit
theorem lrg_tlen {f : Fi} (h : lrg f.t f.b = false) (hz : f.e = 0) : 1 ≤ f.t.len ∧ f.t.len ≤ 120 := by
 obtain ⟨ht, _, _⟩ := newE_ok hz
 have h1 := ht.len1
 have h2 := ht.len2
 have h3 : ¬ lrgH f.t f.b := fun hh => by rw [lrg_head hh] at h; cases h
 unfold lrgH at h3
 omega
theorem runS_same (ls : List Wd) : ∀ o : Of, (runS o ls).tm = o.tm ∧ (runS o ls).cy = o.cy ∧ (runS o ls).bk = o.bk := by
 induction ls with
 | nil => intro o; exact ⟨rfl, rfl, rfl⟩
 | cons x ls ih =>
  intro o
  obtain ⟨h1, h2, h3⟩ := ih (doS o x)
  obtain ⟨g1, g2, g3⟩ := doS_same o x
  exact ⟨h1.trans g1, h2.trans g2, h3.trans g3⟩
theorem runTo_same (o : Of) (ls : List Wd) (k : Nat) : (runTo o ls k).tm = o.tm ∧ (runTo o ls k).cy = o.cy ∧ (runTo o ls k).bk = o.bk := runS_same _ _
theorem runS_ok (ls : List Wd) : ∀ o : Of, OfOk o → OfOk (runS o ls) := by
 induction ls with
 | nil => intro o h; exact h
 | cons x ls ih => intro o h; exact ih _ (h.step x)
theorem svdE_zero {S : Of} {d : Int} (h : svdE S d = 0) : dayE S d = 0 ∧ ∃ n, S.eaten d = some n := by
 unfold svdE at h
 by_cases hd : dayE S d = 0
 ·rw [if_neg (by simp [hd])] at h
  cases he : S.eaten d with
  | none => rw [he] at h; simp at h
  | some n => exact ⟨hd, n, rfl⟩
 ·rw [if_pos hd] at h; exact absurd h hd
/-- What an office tells of a day of its term. -/
theorem counts_day {S : Of} (hs : OfOk S) {d : Nat} (hd : d < S.days) :
  chE S.facts d 1 = 0 ∧ (0 ≤ porR S d ∧ porR S d ≤ 100) ∧ (dayE S d = 0 → porR S d = ((childR S.facts S.now d 1).length : Nat)) ∧
  (svdE S d = 0 → ckd S d = etn S d + wst S d ∧ (0 ≤ etn S d ∧ etn S d ≤ 100000) ∧ (0 ≤ wst S d ∧ wst S d ≤ 100000) ∧ (0 ≤ ckd S d ∧ ckd S d ≤ 100000) ∧ mis S d = max 0 (porR S d - ckd S d)) := by
 have hdl := days_le hs.tm
 have hch : chE S.facts d 1 = 0 := by
  unfold chE askd
  rw [if_neg (by simp [hs.fv]), inB_true.2 ⟨by omega, by omega⟩]
  rfl
 refine ⟨hch, ?_, fun h => ?_, fun h => ?_⟩
 ·unfold porR
  split
  ·have h1 : porTo S d S.kids.length ≤ S.kids.length := cnt_le _ _
   have h2 := kids_100 hs
   omega
  ·omega
 ·unfold porR childR
  rw [if_pos h, if_pos hch, por_children hs hd]
  simp
 ·obtain ⟨h1, n, hn⟩ := svdE_zero h
  obtain ⟨m, hm, h3, h4⟩ := hs.et d n hn
  obtain ⟨_, h5, h6⟩ := hs.ck d m hm
  have e1 : ckd S d = m := by unfold ckd; rw [if_pos h, hm]; rfl
  have e2 : etn S d = n := by unfold etn; rw [if_pos h, hn]; rfl
  have e3 : wst S d = m - n := by unfold wst; rw [e1, e2]
  have e4 : mis S d = max 0 (porR S d - m) := by unfold mis; rw [if_pos h, e1]
  rw [e1, e2, e3, e4]
  exact ⟨by omega, ⟨by omega, by omega⟩, ⟨by omega, by omega⟩, ⟨by omega, by omega⟩, rfl⟩
theorem labels_any (b : Bk) (hL : BkLen b) (i : Int) (F : Nat → Prop) (A1 A2 : Option Addr) (c1 c2 : Nat) (hp hq hr : Nat → SlH) (w : World) (hR : RBk F w A1 A2 b hp hq hr) :
  Calls Tryz.prog 85 #[.agg #[.int .i64 b.props, .slice A1 b.items.length c1, .slice A2 b.rules.length c2], .int .i64 i] w fun e w' => ∃ A' c', e = .returned (.slice A' (labR b i).length c') ∧ OwnN w' w.heap.size A' c' (labR b i) ∧ Below w.heap.size w w' := by
 obtain ⟨w2, hw2⟩ : ∃ w2, w.alloc (.cells #[.int .i64 b.props, .slice A1 b.items.length c1, .slice A2 b.rules.length c2] 30) = w2 := ⟨_, rfl⟩
 have hy : Below w.heap.size w w2 := by rw [← hw2]; exact (Below.refl _ w).alloc (Nat.le_refl _) _
 have b0 : Box w2 w.heap.size #[.int .i64 b.props, .slice A1 b.items.length c1, .slice A2 b.rules.length c2] := by rw [← hw2]; exact Box.new w _ _
 have x0 := b0.cell 0; have x1 := b0.cell 1; have x2 := b0.cell 2
 simp only [List.getElem?_toArray, List.getElem?_cons_zero, List.getElem?_cons_succ] at x0 x1 x2
 have HL := Lib.hid (rLabel_any b hL i F A1 A2 c1 c2 hp hq hr w2 (hR.below hy))
 obtain ⟨LB, hLB⟩ : ∃ LB, LB = labR b i := ⟨_, rfl⟩
 rw [← hLB] at HL ⊢
 clear hLB
 go_enter Tryz.func85, Tryz.ntmps85
 go_wp2_with (go_at_call 106; (with_reducible refine HL.out.mono ?_); rintro e w3 ⟨A', c', rfl, own, hb3⟩)
 go_ret
 exact ⟨A', c', rfl, own_base own hy.size, hy.trans (hb3.mono hy.size)⟩
theorem harm_k {o : Of} (h : OfOk o) {i : Nat} (hi : i < o.kids.length) {d : Nat} (hd : d < o.days) (hm : 0 ≤ o.menu d ∧ o.menu d < o.dishes.length) (he : knownR o.facts o.now (gk o.kids i).num d = 1) {k : Nat}
  (hk : k < (labR o.bk (gd o.dishes (o.menu d).toNat).item).length) : hasB (gk o.kids i).avoid (gi (labR o.bk (gd o.dishes (o.menu d).toNat).item) k) = false := by
 have hkn := h.kn _ (gk_mem hi)
 have hd' := days_le h.tm
 have h1 : knw o.facts o.now (gk o.kids i).num d = 1 := (eatB_iff h.fv hkn.1 hkn.2 (by omega) (by omega)).1 (by unfold eatB; rw [he]; rfl)
 exact harm_none h (gk_mem hi) hd hm h1 _ (by unfold gi; rw [List.getD_eq_getElem?_getD, List.getElem?_eq_getElem hk]; exact List.getElem_mem hk)
set_option maxHeartbeats 6400000 in
theorem harmless_any {N : Nat} {w : World} {F : Nat → Prop} {g : Nat} {h : Hd} {s : Of} (hP : PO 0 N w F g h s) {f : Fi} (hf : f.In w) (hl : f.Len) (e1 : s.tm = f.t) (e2 : s.cy = f.c) (e3 : s.bk = f.b) :
    Calls Tryz.prog 27 #[.pointer (some ⟨g, 0, none⟩), .agg f.cells] w fun e w' => e = .returned (.bool true) ∧ Below w.heap.size w w' := by
  have hok := hP.ok
  have hd1 : s.dishes.length ≤ 40 := by have := hok.dl; have := hok.cy.n2; omega
  have hk1 := hok.kl
  have hf1 := hok.fl
  have hdl := days_le hok.tm
  have hbE : bE f.t f.c = 0 := by unfold bE; rw [← e1, ← e2, if_neg (by rw [hok.tm.to]; decide)]; exact hok.cy.to
  have HBE := Lib.hid hbE
  unfold Fi.cells
  obtain ⟨w2, hw2⟩ : ∃ w2, w.alloc (.cells #[.int .i64 f.t.len, .slice f.A1 f.t.rest.length f.c1, .slice f.A2 f.t.clo.length f.c2, .int .i64 f.c.n, .int .i64 f.c.f, .int .i64 f.c.k, .int .i64 f.b.props, .slice f.B1 f.b.items.length f.d1, .slice f.B2 f.b.rules.length f.d2] 32) = w2 := ⟨_, rfl⟩
  have hy : Below w.heap.size w w2 := by rw [← hw2]; exact (Below.refl _ w).alloc (Nat.le_refl _) _
  have b0 : Box w2 w.heap.size #[.int .i64 f.t.len, .slice f.A1 f.t.rest.length f.c1, .slice f.A2 f.t.clo.length f.c2, .int .i64 f.c.n, .int .i64 f.c.f, .int .i64 f.c.k, .int .i64 f.b.props, .slice f.B1 f.b.items.length f.d1, .slice f.B2 f.b.rules.length f.d2] := by rw [← hw2]; exact Box.new w _ _
  have HD := Lib.hid (oDishes_any (hP.below hy))
  have HK := Lib.hid (fun (w' : World) (hb : Below w2.heap.size w2 w') => oEaters_any ((hP.below hy).below hb))
  obtain ⟨dn, hdn⟩ : ∃ dn : Nat, f.t.len = dn := ⟨f.t.len.toNat, by have := hok.tm.len1; rw [e1] at this; omega⟩
  have hdays : s.days = dn := by unfold Of.days; rw [e1, hdn]; rfl
  rw [hdays] at hdl
  have HDN := Lib.hid hdn
  have HDD := Lib.hid hdays
  have H1 := Lib.hid e1; have H2 := Lib.hid e2; have H3 := Lib.hid e3
  clear hbE hdn hdays e1 e2 e3
  go_enter Tryz.func27, Tryz.ntmps27
  go_wp2_with (first
    | (go_at_call 47; (with_reducible refine HD.out.mono ?_); rintro e w3 ⟨DA, Dc, rfl, rdD, b1⟩)
    | (go_at_call 26; (with_reducible refine (HK.out _ b1).mono ?_); rintro e w4 ⟨KA, Kc, ek, rfl, rdK, b2⟩))
  have c2 := b1.trans (b2.mono b1.size)
  have c4 := hy.trans (c2.mono hy.size)
  have rD : RDh (fun _ => True) w4 DA s.dishes := R2.mono (R2.below (F := fun k => w2.heap.size ≤ k) rdD b2) fun _ _ => trivial
  have rK : RKd (fun _ => True) w4 KA s.kids ek := rdK.mono fun _ _ => trivial
  have hP4 := (hP.below hy).below c2
  have b4 := b0.below c2
  clear HD HK rdD rdK b1 b2 hw2 b0
  go_loopw [7] (fun v wr => ∃ d : Nat, d ≤ dn ∧ v = .int .i64 d ∧ Below w4.heap.size w4 wr) (fun v _ => dn - (intOf v).toNat)
  case atStart => exact ⟨0, by omega, rfl, Below.refl _ _⟩
  case round =>
    obtain ⟨d, hd, rfl, hb⟩ := hrel
    have br := b4.below hb
    have t0 := br.cell 0; have t1 := br.cell 1; have t2 := br.cell 2; have t3 := br.cell 3; have t4 := br.cell 4; have t5 := br.cell 5
    simp only [List.getElem?_toArray, List.getElem?_cons_zero, List.getElem?_cons_succ] at t0 t1 t2 t3 t4 t5
    have hwr := c4.trans (hb.mono c4.size)
    by_cases hlt : d < dn
    · have hT : decide ((d : Int) < f.t.len) = true := by rw [decide_eq_true_eq, HDN.out]; omega
      have hcon := menu_any f.c (d : Int) f.t f.A1 f.A2 f.c1 f.c2 wr ((hf.below hwr).rest) ((hf.below hwr).clo) (by have := hl.rest; omega) (by have := hl.clo; omega)
      have hib : inB (d : Int) 0 (f.t.len - 1) = true := inB_true.2 ⟨by omega, by rw [HDN.out]; omega⟩
      by_cases hop : opB f.t d = true ∧ mnAt f.t f.c d < s.dishes.length
      · obtain ⟨ho, hmd⟩ := hop
        have q1 : menuE f.t f.c d = 0 := menuE_open HBE.out hib (by simpa using ho)
        have q2 : menuR f.t f.c d = mnAt f.t f.c d := by rw [menuR_yes q1]; simp
        have hm0 : 0 ≤ mnAt f.t f.c d := (mnAt_nonneg (by rw [← H2.out]; exact hok.cy) d).2 ho
        obtain ⟨m, hm⟩ : ∃ m : Nat, mnAt f.t f.c d = m := ⟨(mnAt f.t f.c d).toNat, by omega⟩
        rw [q1, q2, hm] at hcon
        have HC := Lib.hid hcon
        have hml : m < s.dishes.length := by omega
        have hsm : s.menu d = m := by unfold Of.menu; rw [H1.out, H2.out]; exact hm
        have HSM := Lib.hid hsm
        have g1 : decide ((s.dishes.length : Int) ≤ (m : Int)) = false := by rw [decide_eq_false_iff_not]; omega
        clear hcon q1 q2 hm ho hmd hm0 hsm hib
        go_wp2_with (go_at_call 50; (with_reducible refine HC.out.mono ?_); rintro e w5 ⟨rfl, b5⟩)
        have c5 := hb.trans (b5.mono hb.size)
        obtain ⟨ad, rfl, hab, u0, u1⟩ := RDh.at_ (R2.below rD c5) hml
        have b5b := b4.below c5
        have s6 := b5b.cell 6; have s7 := b5b.cell 7; have s8 := b5b.cell 8
        simp only [List.getElem?_toArray, List.getElem?_cons_zero, List.getElem?_cons_succ] at s6 s7 s8
        obtain ⟨IT, hIT⟩ : ∃ IT, IT = (gd s.dishes m).item := ⟨_, rfl⟩
        rw [← hIT] at u1
        have HIT := Lib.hid hIT
        have hw5 := c4.trans (c5.mono c4.size)
        have HLB := Lib.hid (fun (w' : World) (hb : Below w5.heap.size w5 w') => labels_any f.b hl.bk IT _ f.B1 f.B2 f.d1 f.d2 f.hp f.hq f.hr w' (((hf.below hw5).bk).below hb))
        obtain ⟨LB, hLB⟩ : ∃ LB, LB = labR f.b IT := ⟨_, rfl⟩
        rw [← hLB] at HLB
        have hll : LB.length ≤ 20 := by
          rw [hLB]; unfold labR; split
          · exact bitsL_len _
          · simp
        have HLL := Lib.hid hLB
        clear hIT hLB t0 t1 t2 t3 t4 t5 u0 HC
        have U1 := Lib.hid u1; have S6 := Lib.hid s6; have S7 := Lib.hid s7; have S8 := Lib.hid s8
        have hwl5 := b5b.lt
        go_wp2_with fail
        go_region_held3 (fun w' => w'.cell? ⟨w.heap.size, 6, none⟩ = some (.int .i64 f.b.props) ∧ w'.cell? ⟨w.heap.size, 7, none⟩ = some (.slice f.B1 f.b.items.length f.d1) ∧ w'.cell? ⟨w.heap.size, 8, none⟩ = some (.slice f.B2 f.b.rules.length f.d2) ∧ w'.cell? ⟨(ad.add (m * 2)).block, (ad.add (m * 2)).off + 1, none⟩ = some (.int .i64 IT))
          (first | exact ⟨k6, k7, k8, k1⟩ | exact ⟨s6, s7, s8, u1⟩)
          (first
            | (go_at_call 85; (with_reducible refine (HLB.out _ (Below.refl w5.heap.size w5).drew).mono ?_); rintro e w6 ⟨LA, Lc, rfl, ownL, b6⟩; have b56 := (Below.refl w5.heap.size w5).drew.trans b6; have k6 := (b56.cell (p := ⟨w.heap.size, 6, none⟩) hwl5).trans S6.out; have k7 := (b56.cell (p := ⟨w.heap.size, 7, none⟩) hwl5).trans S7.out; have k8 := (b56.cell (p := ⟨w.heap.size, 8, none⟩) hwl5).trans S8.out; have k1 := (b56.cell (by exact hab)).trans U1.out))
        have c6 := c5.trans (b56.mono c5.size)
        have rL := RN.of_own ownL
        clear s6 s7 s8 u1 k6 k7 k8 k1 S6 S7 S8 U1 HLB
        go_wp2_with fail
        obtain ⟨wo, rfl⟩ : ∃ wo : World, wo = wr := ⟨_, rfl⟩
        go_loopw [11] (fun v wr => ∃ i : Nat, i ≤ s.kids.length ∧ v = .int .i64 i ∧ Below w6.heap.size w6 wr) (fun v _ => s.kids.length - (intOf v).toNat)
        case atStart => exact ⟨0, by omega, rfl, Below.refl _ _⟩
        case round =>
          obtain ⟨i, hi, rfl, hb2⟩ := hrel
          have cr := c6.trans (hb2.mono c6.size)
          by_cases hil : i < s.kids.length
          · have hPr := hP4.below cr
            have hrk := rK.below cr
            have hav := hrk.avoid i hil
            obtain ⟨ka, rfl, hkb, v0, v1⟩ := hrk.at_ hil
            have hkn := hok.kn _ (gk_mem hil)
            have hal : (gk s.kids i).avoid.length ≤ 1000 := by
              have h1 := hok.ka _ (gk_mem hil)
              have h2 := isSet_len h1 hok.bk.p0
              have h3 := hok.bk.p10
              omega
            have HKN := Lib.hid (fun (A0 : Option Addr) (c0 : Nat) (hc : s.facts.length ≤ c0) (w' : World) (hr : RF w' w'.heap.size A0 s.facts) => knownX_any s.facts s.now (gk s.kids i).num d (by omega) A0 c0 _ hc w' hr)
            rw [askE_of hok.fv hkn.1 hkn.2 (by omega) (by omega)] at HKN
            have HHARM := Lib.hid (fun (k : Nat) (he : knownR s.facts s.now (gk s.kids i).num d = 1) (hk : k < LB.length) => show hasB (gk s.kids i).avoid (gi LB k) = false by
              have h1 := harm_k (k := k) hok hil (d := d) (by rw [HDD.out]; exact hlt) (by rw [HSM.out]; omega) he (by rw [HSM.out, H3.out, Int.toNat_natCast, ← HIT.out, ← HLL.out]; exact hk)
              rw [HSM.out, H3.out, Int.toNat_natCast, ← HIT.out, ← HLL.out] at h1
              exact h1)
            obtain ⟨nm, hnm⟩ : ∃ nm, nm = (gk s.kids i).num := ⟨_, rfl⟩
            obtain ⟨av, hav3⟩ : ∃ av, av = (gk s.kids i).avoid := ⟨_, rfl⟩
            rw [← hav3] at v1 hav hal HHARM
            rw [← hnm] at v0 HKN HHARM
            obtain ⟨KR, hKR⟩ : ∃ KR, KR = knownR s.facts s.now nm d := ⟨_, rfl⟩
            rw [← hKR] at HKN HHARM
            have HF := Lib.hid (fun (w' : World) (hb : Below wr.heap.size wr w') => oFactsC_any (hPr.below hb))
            have HN := Lib.hid (fun (w' : World) (hb : Below wr.heap.size wr w') => oNow_any (hPr.below hb))
            have V0 := Lib.hid v0; have V1 := Lib.hid v1; have HAV := Lib.hid (RNF.rn hav)
            clear hnm hav3 hKR hkn hrk hav v1
            go_wp2_with fail
            go_region_held3 (fun w' => w'.cell? (ka.add (i * 2)) = some (.int .i64 nm))
              (first | exact j0 | exact v0)
              (first
                | (go_at_call 24; (with_reducible refine (HF.out _ (Below.refl wr.heap.size wr).drew).mono ?_); rintro e w7 ⟨FA, Fc, rfl, hfc, rdF, b7⟩; have c7 := (Below.refl wr.heap.size wr).drew.trans b7; have j0 := (c7.cell (by exact hkb)).trans V0.out)
                | (go_at_call 21; (with_reducible refine (HN.out _ c7).mono ?_); rintro e w8 ⟨rfl, b8⟩; have c8 := c7.trans (b8.mono c7.size); have hrf := RF.of_readsF (rdF.below b8); have j0 := (c8.cell (by exact hkb)).trans V0.out)
                | (go_at_call 58; (with_reducible refine (HKN.out FA Fc hfc _ hrf).mono ?_); rintro e w9 ⟨rfl, b9⟩; have c9 := c8.trans (b9.mono c8.size); have j0 := (c9.cell (by exact hkb)).trans V0.out))
            have cz := hb2.trans (c9.mono hb2.size)
            have HAV9 := Lib.hid (HAV.out.below c9)
            have V9 := Lib.hid ((c9.cell (p := ⟨(ka.add (i * 2)).block, (ka.add (i * 2)).off + 1, none⟩) (by exact hkb)).trans V1.out)
            have hab9 : (ka.add (i * 2)).block < w9.heap.size := Nat.lt_of_lt_of_le hkb c9.size
            clear j0 v0 V0 V1 HAV HKN HF HN
            go_wp2_with fail
            obtain ⟨wp, rfl⟩ : ∃ wp : World, wp = wr := ⟨_, rfl⟩
            by_cases hKR1 : KR = 1
            · have HK1 := Lib.hid (fun k hk => HHARM.out k hKR1 hk)
              have hk1' : (KR == 1) = true := by simp [hKR1]
              clear HHARM hKR1
              go_loopw [14] (fun v wr => ∃ k : Nat, k ≤ LB.length ∧ v = .int .i64 k ∧ Below w9.heap.size w9 wr) (fun v _ => LB.length - (intOf v).toNat)
              case atStart => exact ⟨0, by omega, rfl, Below.refl _ _⟩
              case round =>
                obtain ⟨k, hk, rfl, hb3⟩ := hrel
                by_cases hkl : k < LB.length
                · obtain ⟨la, rfl, hlb, l0⟩ := ((rL.below cz).below hb3).at_ hkl
                  obtain ⟨LK, hLK⟩ : ∃ LK, LK = gi LB k := ⟨_, rfl⟩
                  rw [← hLK] at l0
                  have hhas := has_any av LK (by omega) (ek i).1 (ek i).2
                  rw [hLK, HK1.out k hkl, ← hLK] at hhas
                  have V9r := (hb3.cell (p := ⟨(ka.add (i * 2)).block, (ka.add (i * 2)).off + 1, none⟩) (by exact hab9)).trans V9.out
                  have cA : ∀ d', Calls Tryz.prog 86 #[.slice (ek i).1 av.length (ek i).2, .int .i64 LK] (wr.drewN d') fun e w'' => e = .returned (.bool false) ∧ w'' = wr.drewN d' := fun d' => hhas _ ((HAV9.out.below hb3).below (Go.below_drewN (Below.refl _ _) d'))
                  clear hhas hLK
                  go_wp2_with fail
                  go_quiet ((go_at_call 86; exact Calls.quiet_of_same (cA _)))
                  go_wp2_with fail
                  go_roundw
                  case rel => exact ⟨k + 1, by omega, by go_num, Go.below_drewN hb3 _⟩
                  case measure => simp [intOf]; omega
                · obtain rfl : k = LB.length := by omega
                  go_wp2_with fail
                  go_roundw
                  case rel => exact ⟨i + 1, by omega, by go_num, cz.trans (hb3.mono cz.size)⟩
                  case measure => simp [intOf]; omega
            · have hk1' : (KR == 1) = false := by simp [hKR1]
              clear HHARM hKR1
              by_cases hLL : 0 < LB.length
              all_goals
                go_loopw [14] (fun v wr => v = .int .i64 0 ∧ wr = w9) (fun v _ => 0)
                case atStart => exact ⟨rfl, rfl⟩
                case round =>
                  obtain ⟨rfl, hwr⟩ := hrel
                  have hwr' := hwr.symm; clear hwr; subst hwr'
                  go_wp2_with fail
                  go_roundw
                  case rel => exact ⟨i + 1, by omega, by go_num, cz⟩
                  case measure => simp [intOf]; omega
          · obtain rfl : i = s.kids.length := by omega
            go_wp2_with fail
            go_roundw
            case rel => exact ⟨d + 1, by omega, by go_num, cr⟩
            case measure => simp [intOf]; omega
      · have hcase : (menuE f.t f.c d ≠ 0) ∨ (menuE f.t f.c d = 0 ∧ (s.dishes.length : Int) ≤ menuR f.t f.c d) := by
          cases ho : opB f.t d with
          | true =>
            have q1 : menuE f.t f.c d = 0 := menuE_open HBE.out hib (by simpa using ho)
            refine .inr ⟨q1, ?_⟩
            rw [menuR_yes q1]
            have : ¬ mnAt f.t f.c d < s.dishes.length := fun hh => hop ⟨ho, hh⟩
            simp only [Int.toNat_natCast]
            omega
          | false => exact .inl (by rw [menuE_shut HBE.out hib (by simpa using ho)]; decide)
        obtain ⟨ME, hME⟩ : ∃ ME, ME = menuE f.t f.c d := ⟨_, rfl⟩
        obtain ⟨MR, hMR⟩ : ∃ MR, MR = menuR f.t f.c d := ⟨_, rfl⟩
        rw [← hME, ← hMR] at hcon hcase
        have HC := Lib.hid hcon
        clear hcon hME hMR hop hib
        rcases hcase with hc | ⟨hc, hc2⟩
        all_goals
          first
            | (have g1 : (ME != 0) = true := by simpa using hc
               clear hc)
            | (have g1 : (ME != 0) = false := by simp [hc]
               have g2 : decide ((s.dishes.length : Int) ≤ MR) = true := by rw [decide_eq_true_eq]; exact hc2
               clear hc hc2)
          go_wp2_with (go_at_call 50; (with_reducible refine HC.out.mono ?_); rintro e w5 ⟨rfl, b5⟩)
          go_roundw
          case rel => exact ⟨d + 1, by omega, by go_num, hb.trans (b5.mono hb.size)⟩
          case measure => simp [intOf]; omega
    · have hT : decide ((d : Int) < f.t.len) = false := by rw [decide_eq_false_iff_not, HDN.out]; omega
      go_wp2_with fail
      go_ret
      exact ⟨rfl, hwr⟩
/-- No two dishes have one name. -/
def DhU (o : Of) : Prop := ∀ i j, i < j → j < o.dishes.length → (gd o.dishes i).name ≠ (gd o.dishes j).name
theorem DhU.new (t : Tm) (c : Cy) (b : Bk) : DhU (new0 t c b) := fun i j _ h => by simp [new0] at h
theorem exS_dishes (o : Of) (r : Rq) (h : r.kind ≠ 1) : (exS o r).dishes = o.dishes := by
 unfold exS
 by_cases h0 : r.kind = 0
 ·rw [if_pos h0]
 ·rw [if_neg h0, if_neg h]
  repeat (first | rfl | split)
theorem DhU.step {o : Of} (hu : DhU o) (s : Wd) : DhU (doS o s) := by
 by_cases he : doE o s = 0
 ·obtain ⟨r, hp, _, hx⟩ := doE_zero he
  rw [doS_good he hp]
  show ∀ i j, i < j → j < (exS o r).dishes.length → (gd (exS o r).dishes i).name ≠ (gd (exS o r).dishes j).name
  by_cases h1 : r.kind = 1
  ·have e : (exS o r).dishes = o.dishes ++ [⟨r.name, gi r.nums 0⟩] := by unfold exS; rw [if_neg (by omega), if_pos h1]
   rw [exE_dish h1] at hx
   have hd : dishB o.dishes r.name = false := by
    unfold serE at hx
    split at hx
    ·cases hx
    ·split at hx
     ·cases hx
     ·rename_i hn
      have hn' : nameB o r.name = true := by simpa using hn
      unfold nameB at hn'
      rw [Bool.and_eq_true] at hn'
      simpa using hn'.2
   rw [e]
   intro i j hij hj
   rw [List.length_append, List.length_singleton] at hj
   have hi : i < o.dishes.length := by omega
   have e1 : gd (o.dishes ++ [⟨r.name, gi r.nums 0⟩]) i = gd o.dishes i := by unfold gd; rw [List.getD_eq_getElem?_getD, List.getElem?_append_left hi, ← List.getD_eq_getElem?_getD]
   rw [e1]
   by_cases hjl : j < o.dishes.length
   ·have e2 : gd (o.dishes ++ [⟨r.name, gi r.nums 0⟩]) j = gd o.dishes j := by unfold gd; rw [List.getD_eq_getElem?_getD, List.getElem?_append_left hjl, ← List.getD_eq_getElem?_getD]
    rw [e2]; exact hu i j hij hjl
   ·obtain rfl : j = o.dishes.length := by omega
    have e2 : gd (o.dishes ++ [⟨r.name, gi r.nums 0⟩]) o.dishes.length = ⟨r.name, gi r.nums 0⟩ := by unfold gd; simp
    rw [e2]
    intro e3
    unfold dishB at hd
    rw [anyTo_false] at hd
    have := hd i hi
    rw [decide_eq_false_iff_not] at this
    exact this e3
  ·rw [exS_dishes o r h1]; exact hu
 ·rw [doS_bad he]; exact hu
theorem runS_dhu (ls : List Wd) : ∀ o : Of, DhU o → DhU (runS o ls) := by
 induction ls with
 | nil => intro o h; exact h
 | cons x ls ih => intro o h; exact ih _ (h.step x)
theorem gd_mem9 {l : List Dh} {i : Nat} (hi : i < l.length) : gd l i ∈ l := by
 unfold gd; rw [List.getD_eq_getElem?_getD, List.getElem?_eq_getElem hi]; exact List.getElem_mem hi
theorem dsh_at {o : Of} (hu : DhU o) {i : Nat} (hi : i < o.dishes.length) : dishB o.dishes (gd o.dishes i).name = true ∧ dshOf o.dishes (gd o.dishes i).name = gd o.dishes i := by
 refine ⟨by unfold dishB; exact anyTo_yes (k := i) (by simp) hi, ?_⟩
 unfold dshOf
 cases hf : o.dishes.find? fun x => decide (x.name = (gd o.dishes i).name) with
 | none =>
  rw [List.find?_eq_none] at hf
  have := hf _ (gd_mem9 hi)
  simp at this
 | some x =>
  have h1 := List.mem_of_find?_eq_some hf
  have h2 := List.find?_some hf
  rw [decide_eq_true_eq] at h2
  obtain ⟨j, hj, e⟩ := List.mem_iff_getElem.1 h1
  have ej : gd o.dishes j = x := by unfold gd; rw [List.getD_eq_getElem?_getD, List.getElem?_eq_getElem hj]; exact e
  show x = _
  rcases Nat.lt_trichotomy i j with h | h | h
  ·exact absurd (by rw [ej, h2]) (hu i j h hj)
  ·subst h; exact ej.symm
  ·exact absurd (by rw [ej, h2]) (hu j i h hi)
/-- The label of a dish is that of its item. -/
theorem label_at {o : Of} (hs : OfOk o) (hu : DhU o) {i : Nat} (hi : i < o.dishes.length) : lbnE o (gd o.dishes i).name = 0 ∧ lbnR o (gd o.dishes i).name = labR o.bk (gd o.dishes i).item ∧ nmE o.bk (gd o.dishes i).item = 0 := by
 obtain ⟨h1, h2⟩ := dsh_at hu hi
 have hd := hs.di _ (gd_mem9 hi)
 have hn := nmE_of hs.bk hd.1 hd.2
 refine ⟨?_, ?_, hn⟩
 ·unfold lbnE; rw [if_pos h1, h2]; exact hn
 ·unfold lbnR; rw [if_pos h1, h2]
/-- The meal of a day. -/
theorem mel_shut {o : Of} {d : Int} (h : menuE o.tm o.cy d = 13) : melE o d = 13 ∧ melR o d = [] := by
 have e : melE o d = 13 := by unfold melE; rw [if_pos (by rw [h]; decide)]; exact h
 exact ⟨e, by unfold melR; rw [if_neg (by rw [e]; decide)]⟩
theorem mel_in {o : Of} {d : Int} {m : Nat} (h : menuE o.tm o.cy d = 0) (hm : menuR o.tm o.cy d = m) (hl : m < o.dishes.length) : melE o d = 0 ∧ melR o d = (gd o.dishes m).name := by
 have e : melE o d = 0 := by unfold melE; rw [if_neg (by rw [h]; decide), if_neg (by rw [hm]; omega)]
 exact ⟨e, by unfold melR; rw [if_pos e, hm]; simp⟩
theorem mel_out {o : Of} {d : Int} {m : Nat} (h : menuE o.tm o.cy d = 0) (hm : menuR o.tm o.cy d = m) (hl : o.dishes.length ≤ m) : melE o d = 5 ∧ melR o d = [] := by
 have e : melE o d = 5 := by unfold melE; rw [if_neg (by rw [h]; decide), if_pos (by rw [hm]; omega)]
 exact ⟨e, by unfold melR; rw [if_neg (by rw [e]; decide)]⟩
end Go.Proofs.YtiapkffihpgdcaaGreatDoor
