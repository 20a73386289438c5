/-
  TopReplay: for every place, every list of orders and every number of bulk at most 1048576 the law returns true, panics nowhere and leaves its arguments as they were: a book and its beginnings make the office again. On the tied card. Condition: the bulk of what is handed over is at most 1048576 (the second form); no other beyond the card.
-/
import Derived.Test.YtiapkffihpgdcaaGreatDoorQA1
import Derived.Test.YtiapkffihpgdcaaGreatDoorQA2
import Derived.Test.YtiapkffihpgdcaaGreatDoorQA3
import Derived.Test.YtiapkffihpgdcaaGreatDoorQA4
import Derived.Test.YtiapkffihpgdcaaGreatDoorQA5
import Derived.Test.YtiapkffihpgdcaaGreatDoorQA6
import Derived.Test.YtiapkffihpgdcaaGreatDoorQA7
import Derived.Test.YtiapkffihpgdcaaGreatDoorQA8
import Derived.Test.YtiapkffihpgdcaaGreatDoorQA9
import Derived.Test.YtiapkffihpgdcaaGreatDoorQA10
import Derived.Test.YtiapkffihpgdcaaGreatDoorQA11
import Derived.Test.YtiapkffihpgdcaaGreatDoorQA12
import Derived.Test.YtiapkffihpgdcaaGreatDoorQA13
import Derived.Test.YtiapkffihpgdcaaGreatDoorQA14
import Derived.Test.YtiapkffihpgdcaaGreatDoorQA15
import Derived.Test.YtiapkffihpgdcaaGreatDoorQA16
import Derived.Test.YtiapkffihpgdcaaGreatDoorQA17
import Derived.Test.YtiapkffihpgdcaaGreatDoorQA18
import Derived.Test.YtiapkffihpgdcaaGreatDoorQA19
import Derived.Test.YtiapkffihpgdcaaGreatDoorQA20
import Derived.Test.YtiapkffihpgdcaaGreatDoorQA21
import Derived.Test.YtiapkffihpgdcaaGreatDoorQA22
import Derived.Test.YtiapkffihpgdcaaGreatDoorQA23
import Derived.Test.YtiapkffihpgdcaaGreatDoorQA24
import Derived.Test.YtiapkffihpgdcaaGreatDoorQA25
import Derived.Test.YtiapkffihpgdcaaGreatDoorQA26
import Derived.Test.YtiapkffihpgdcaaGreatDoorQA27
import Derived.Test.YtiapkffihpgdcaaGreatDoorQA28
import Derived.Test.YtiapkffihpgdcaaGreatDoorQA29
import Derived.Test.YtiapkffihpgdcaaGreatDoorQA30
import Derived.Test.YtiapkffihpgdcaaGreatDoorQA31
import Derived.IntWalk
import Derived.ScopeJumps
import Derived.WalkMore
import Derived.StillTailTactics
import Derived.BigRegion
import Derived.Lib.QuietBelow
import Derived.ChangeKeysEq
import Derived.Deep.DeepHandedRow
import Derived.Test.YtiapkffihpgdcaaGreatDoorTie
import Derived.Test.YtiapkffihpgdcaaGreatDoorCards
import Derived.SevenTiedAt
import Derived.ChangeMaps5
set_option linter.unusedVariables false
set_option linter.unusedSimpArgs false
set_option maxRecDepth 100000
namespace Go.Proofs.YtiapkffihpgdcaaGreatDoor
open Go.RowKit
def Three (w : World) (g : Nat) (c : Cy) : Prop := g < w.heap.size ∧ w.cell? ⟨g, 0, none⟩ = some (.int .i64 c.n) ∧ w.cell? ⟨g, 1, none⟩ = some (.int .i64 c.f) ∧ w.cell? ⟨g, 2, none⟩ = some (.int .i64 c.k)
section
variable {w w' : World} {base c : Nat} {A : Option Addr} {l : List Wd}
theorem RS.of_own (h : OwnS w base A c l) : RS w A l := Reads.of_own h
end
end Go.Proofs.YtiapkffihpgdcaaGreatDoor
namespace Go.Proofs.YtiapkffihpgdcaaGreatDoor
theorem newE_of {t : Tm} {c : Cy} {b : Bk} (h1 : TmOk t) (h2 : CyOk c) (h3 : BkOk b) : newE t c b = 0 := by
 unfold newE; rw [if_neg (by simp [h1.to]), if_neg (by simp [h2.to])]; exact h3.to
end Go.Proofs.YtiapkffihpgdcaaGreatDoor
namespace Go.Proofs.YtiapkffihpgdcaaGreatDoor
open Go.RowKit Go.Sort
section
variable {N N' : Nat} {w : World} {F F' : Nat → Prop} {g x : Nat} {h h' : Hd} {s : Of}
set_option maxHeartbeats 6400000 in
theorem alike_any (hP : PO 0 N w F g h s) (hX : PO 0 N' w F' x h' s) (dn : Nat) (hdn : dn ≤ 1000) :
  Calls Tryz.prog 63 #[.pointer (some ⟨g, 0, none⟩), .pointer (some ⟨x, 0, none⟩), .int .i64 dn] w fun e w' => e = .returned (.bool true) ∧ Below w.heap.size w w' := by
 have hd1 : s.dishes.length ≤ 40 := by have := hP.ok.dl; have := hP.ok.cy.n2; omega
 have hk1 := hP.ok.kl
 have hf1 := hP.ok.fl
 have HN := Lib.hid (oNow_any hP)
 have HN' := Lib.hid (fun (w' : World) (hb : Below w.heap.size w w') => oNow_any (hX.below hb))
 have HB := Lib.hid (fun (w' : World) (hb : Below w.heap.size w w') => oBook_any (hP.below hb))
 have HB' := Lib.hid (fun (w' : World) (hb : Below w.heap.size w w') => oBook_any (hX.below hb))
 have HD := Lib.hid (fun (w' : World) (hb : Below w.heap.size w w') => oDishes_any (hP.below hb))
 have HD' := Lib.hid (fun (w' : World) (hb : Below w.heap.size w w') => oDishes_any (hX.below hb))
 have HK := Lib.hid (fun (w' : World) (hb : Below w.heap.size w w') => oEaters_any (hP.below hb))
 have HK' := Lib.hid (fun (w' : World) (hb : Below w.heap.size w w') => oEaters_any (hX.below hb))
 have HF := Lib.hid (fun (w' : World) (hb : Below w.heap.size w w') => oFacts_any (hP.below hb))
 have HF' := Lib.hid (fun (w' : World) (hb : Below w.heap.size w w') => oFacts_any (hX.below hb))
 have HP := Lib.hid (fun (w' : World) (hb : Below w.heap.size w w') => hP.below hb)
 have HX := Lib.hid (fun (w' : World) (hb : Below w.heap.size w w') => hX.below hb)
 have HA := Lib.hid (fun (k : Nat) (hlt : k < s.kids.length) => show (gk s.kids k).avoid.length ≤ 1000 by
  have h1 := hP.ok.ka _ (gk_mem hlt)
  have h2 := isSet_len h1 hP.ok.bk.p0
  have h3 := hP.ok.bk.p10
  omega)
 obtain ⟨BK, hBK⟩ : ∃ BK, BK = bok s := ⟨_, rfl⟩
 rw [← hBK] at HB HB'
 obtain ⟨NO, hNO⟩ : ∃ NO, NO = s.now := ⟨_, rfl⟩
 rw [← hNO] at HN HN'
 have n0 : (NO != NO) = false := by simp
 have n1 : ((s.dishes.length : Int) != (s.dishes.length : Int)) = false := by simp
 have n2 : ((s.kids.length : Int) != (s.kids.length : Int)) = false := by simp
 have n3 : ((s.facts.length : Int) != (s.facts.length : Int)) = false := by simp
 clear hP hX hBK hNO
 go_enter Tryz.func63, Tryz.ntmps63
 go_wp2_with (first
  | (go_at_call 21; (with_reducible refine HN.out.mono ?_); rintro e w1 ⟨rfl, c1⟩)
  | (go_at_call 21; (with_reducible refine (HN'.out _ c1).mono ?_); rintro e w2 ⟨rfl, b2⟩; have c2 := c1.trans (b2.mono c1.size))
  | (go_at_call 23; (with_reducible refine (HB.out _ c2).mono ?_); rintro e w3 ⟨rfl, b3⟩; have c3 := c2.trans (b3.mono c2.size))
  | (go_at_call 23; (with_reducible refine (HB'.out _ c3).mono ?_); rintro e w4 ⟨rfl, b4⟩; have c4 := c3.trans (b4.mono c3.size))
  | (go_at_call 47; (with_reducible refine (HD.out _ c4).mono ?_); rintro e w5 ⟨DA, Dc, rfl, rD, b5⟩; have c5 := c4.trans (b5.mono c4.size))
  | (go_at_call 47; (with_reducible refine (HD'.out _ c5).mono ?_); rintro e w6 ⟨DA', Dc', rfl, rD', b6⟩; have c6 := c5.trans (b6.mono c5.size))
  | (go_at_call 26; (with_reducible refine (HK.out _ c6).mono ?_); rintro e w7 ⟨KA, Kc, ek, rfl, rK, b7⟩; have c7 := c6.trans (b7.mono c6.size))
  | (go_at_call 26; (with_reducible refine (HK'.out _ c7).mono ?_); rintro e w8 ⟨KA', Kc', ek', rfl, rK', b8⟩; have c8 := c7.trans (b8.mono c7.size))
  | (go_at_call 24; (with_reducible refine (HF.out _ c8).mono ?_); rintro e w9 ⟨FA, Fc, rfl, rF, b9⟩; have c9 := c8.trans (b9.mono c8.size))
  | (go_at_call 24; (with_reducible refine (HF'.out _ c9).mono ?_); rintro e wA ⟨FA', Fc', rfl, rF', bA⟩; have cA := c9.trans (bA.mono c9.size)))
 have rd : RDh (fun _ => True) wA DA s.dishes := R2.mono (R2.below (F := fun k => w4.heap.size ≤ k) rD (((((b6.trans (b7.mono b6.size)).trans (b8.mono (b6.trans (b7.mono b6.size)).size)).trans (b9.mono (by have := b6.size; have := b7.size; have := b8.size; omega))).trans (bA.mono (by have := b6.size; have := b7.size; have := b8.size; have := b9.size; omega))))) fun _ _ => trivial
 have rd' : RDh (fun _ => True) wA DA' s.dishes := R2.mono (R2.below (F := fun k => w5.heap.size ≤ k) rD' ((((b7.trans (b8.mono b7.size)).trans (b9.mono (by have := b7.size; have := b8.size; omega))).trans (bA.mono (by have := b7.size; have := b8.size; have := b9.size; omega))))) fun _ _ => trivial
 have rk : RKd (fun _ => True) wA KA s.kids ek := (rK.mono fun _ _ => trivial).below ((b8.trans (b9.mono b8.size)).trans (bA.mono (by have := b8.size; have := b9.size; omega)))
 have rk' : RKd (fun _ => True) wA KA' s.kids ek' := (rK'.mono fun _ _ => trivial).below (b9.trans (bA.mono b9.size))
 have rf : RF wA w9.heap.size FA s.facts := (RF.of_readsF rF).below bA
 have rf' : RF wA wA.heap.size FA' s.facts := RF.of_readsF rF'
 clear HN HN' HB HB' HD HD' HK HK' HF HF' rD rD' rK rK' rF rF' c1 c2 c3 c4 c5 c6 c7 c8 c9 b2 b3 b4 b5 b6 b7 b8 b9 bA n0
 go_loopw [13] (fun v wr => ∃ k : Nat, k ≤ s.dishes.length ∧ v = .int .i64 k ∧ Below wA.heap.size wA wr) (fun v _ => s.dishes.length - (intOf v).toNat)
 case atStart => exact ⟨0, by omega, rfl, Below.refl _ _⟩
 case round =>
  obtain ⟨k, hk, rfl, hb⟩ := hrel
  by_cases hlt : k < s.dishes.length
  ·obtain ⟨ad, rfl, hab, c0, c1⟩ := RDh.at_ (R2.below rd hb) hlt
   obtain ⟨bd, rfl, hbb, d0, d1⟩ := RDh.at_ (R2.below rd' hb) hlt
   go_wp2_with fail
   go_quiet (fail)
   go_wp2_with fail
   go_roundw
   case rel => exact ⟨k + 1, by omega, by go_num, Go.below_drewN hb _⟩
   case measure => simp [intOf]; omega
  ·obtain rfl : k = s.dishes.length := by omega
   clear rd rd'
   go_wp2_with fail
   obtain ⟨w5, rfl⟩ : ∃ w5 : World, w5 = wr := ⟨_, rfl⟩
   go_loopw [14] (fun v wr => ∃ k : Nat, k ≤ s.facts.length ∧ v = .int .i64 k ∧ Below wA.heap.size wA wr) (fun v _ => s.facts.length - (intOf v).toNat)
   case atStart => exact ⟨0, by omega, rfl, hb⟩
   case round =>
    clear hb
    obtain ⟨k, hk, rfl, hb⟩ := hrel
    by_cases hlt : k < s.facts.length
    ·obtain ⟨ad, rfl, hab, c0, c1, c2, c3, c4⟩ := (rf.below hb).at_ hlt
     obtain ⟨bd, rfl, hbb, d0, d1, d2, d3, d4⟩ := (rf'.below hb).at_ hlt
     go_wp2_with fail
     go_quiet (fail)
     go_wp2_with fail
     go_roundw
     case rel => exact ⟨k + 1, by omega, by go_num, Go.below_drewN hb _⟩
     case measure => simp [intOf]; omega
    ·obtain rfl : k = s.facts.length := by omega
     clear rf rf'
     go_wp2_with fail
     obtain ⟨w6, rfl⟩ : ∃ w6 : World, w6 = wr := ⟨_, rfl⟩
     go_loopw [15] (fun v wr => ∃ k : Nat, k ≤ s.kids.length ∧ v = .int .i64 k ∧ Below wA.heap.size wA wr) (fun v _ => s.kids.length - (intOf v).toNat)
     case atStart => exact ⟨0, by omega, rfl, hb⟩
     case round =>
      clear hb
      obtain ⟨k, hk, rfl, hb⟩ := hrel
      by_cases hlt : k < s.kids.length
      ·have hcr := cA.trans (hb.mono cA.size)
       have hrk := rk.below hb
       have hrk' := rk'.below hb
       have hav := hrk.avoid k hlt
       have hav' := hrk'.avoid k hlt
       obtain ⟨ad, rfl, hab, e0, e1⟩ := hrk.at_ hlt
       obtain ⟨bd, rfl, hbb, f0, f1⟩ := hrk'.at_ hlt
       have hal := HA.out k hlt
       have HU := Lib.hid (Due_any (HP.out _ hcr) (gk s.kids k).num)
       have HU' := Lib.hid (fun (w' : World) (hb : Below wr.heap.size wr w') => Due_any (HX.out _ (hcr.trans (hb.mono hcr.size))) (gk s.kids k).num)
       obtain ⟨nm, hnm⟩ : ∃ nm, nm = (gk s.kids k).num := ⟨_, rfl⟩
       obtain ⟨av, hav3⟩ : ∃ av, av = (gk s.kids k).avoid := ⟨_, rfl⟩
       rw [← hav3] at e1 f1 hav hav' hal
       rw [← hnm] at e0 f0 HU HU'
       obtain ⟨DR, hDR⟩ : ∃ DR, DR = dueR s nm := ⟨_, rfl⟩
       obtain ⟨DE, hDE⟩ : ∃ DE, DE = dueE s nm := ⟨_, rfl⟩
       rw [← hDR, ← hDE] at HU HU'
       have HV := Lib.hid (RNF.rn hav); have HV' := Lib.hid (RNF.rn hav')
       clear hav3 hnm hDR hDE hrk hrk' hav hav'
       have E0 := Lib.hid e0; have E1 := Lib.hid e1; have F0 := Lib.hid f0; have F1 := Lib.hid f1
       go_wp2_with (first
        | (go_at_call 29; (with_reducible refine HU.out.mono ?_); rintro e w7 ⟨rfl, b7⟩; have q7 := (b7.cell (by exact hbb)).trans F0.out)
        | (go_at_call 29; (with_reducible refine (HU'.out _ b7).mono ?_); rintro e w8 ⟨rfl, b8⟩))
       have b78 := b7.trans (b8.mono b7.size)
       have g0 := cell_regrown ((b78.cell (by exact hab)).trans E0.out)
       have g1 := cell_regrown ((b78.cell (by exact hab)).trans E1.out)
       have g2 := cell_regrown ((b78.cell (by exact hbb)).trans F0.out)
       have g3 := cell_regrown ((b78.cell (by exact hbb)).trans F1.out)
       have r1 : RN w8 (ek k).1 av := HV.out.below b78
       have r2 : RN w8 (ek' k).1 av := HV'.out.below b78
       have cS : ∀ d' os, Calls Tryz.prog 107 #[.slice (ek k).1 av.length (ek k).2, .slice (ek' k).1 av.length (ek' k).2] (grow (redrawn w8 d') os) fun e w'' => e = .returned (.bool true) ∧ ∃ p : Regrown, w'' = grow (redrawn w8 p.d) p.os := fun d' os =>
        Calls.regrown_of ((sameInts_any av av _ _ _ _ _ (r1.below (below_regrown w8 d' os)) (r2.below (below_regrown w8 d' os)) (by omega) (by omega)).mono fun e w' hh => ⟨by rw [hh.1]; simp, hh.2⟩)
       have m1 : (nm != nm) = false := by simp
       have m2 : (DR != DR) = false := by simp
       have m3 : (DE != DE) = false := by simp
       clear r1 r2 e0 e1 f0 f1 q7 E0 E1 F0 F1
       go_wp2_with fail
       refine wp_region_quiet_below (by kernel_rfl) (by kernel_rfl) ?_
       repeat (go_big_quiet_step (first | with_reducible exact cS _ _))
       refine wpQuiet_nil ?_
       intro _ hw'
       obtain ⟨⟨dq, osq⟩, hw''⟩ := hw'
       subst hw''
       go_wp2_with fail
       go_roundw
       case rel => exact ⟨k + 1, by omega, by go_num, hb.trans ((b78.trans ((below_regrown w8 dq osq).mono b78.size)).mono hb.size)⟩
       case measure => simp [intOf]; omega
      ·obtain rfl : k = s.kids.length := by omega
       clear rk rk'
       go_wp2_with fail
       obtain ⟨w7, rfl⟩ : ∃ w7 : World, w7 = wr := ⟨_, rfl⟩
       go_loopw [20] (fun v wr => ∃ k : Nat, k ≤ dn ∧ v = .int .i64 k ∧ Below wA.heap.size wA wr) (fun v _ => dn - (intOf v).toNat)
       case atStart => exact ⟨0, by omega, rfl, hb⟩
       case round =>
        clear hb
        obtain ⟨k, hk, rfl, hb⟩ := hrel
        have hcr := cA.trans (hb.mono cA.size)
        by_cases hlt : k < dn
        ·have HU := Lib.hid (Served_any (HP.out _ hcr) (k : Int))
         have HU' := Lib.hid (fun (w' : World) (hb : Below wr.heap.size wr w') => Served_any (HX.out _ (hcr.trans (hb.mono hcr.size))) (k : Int))
         obtain ⟨u1, hu1⟩ : ∃ a, a = ckd s k := ⟨_, rfl⟩
         obtain ⟨u2, hu2⟩ : ∃ a, a = etn s k := ⟨_, rfl⟩
         obtain ⟨u3, hu3⟩ : ∃ a, a = wst s k := ⟨_, rfl⟩
         obtain ⟨u4, hu4⟩ : ∃ a, a = mis s k := ⟨_, rfl⟩
         obtain ⟨u5, hu5⟩ : ∃ a, a = svdE s k := ⟨_, rfl⟩
         rw [← hu1, ← hu2, ← hu3, ← hu4, ← hu5] at HU HU'
         have m1 : (u1 != u1) = false := by simp
         have m2 : (u2 != u2) = false := by simp
         have m3 : (u3 != u3) = false := by simp
         have m4 : (u4 != u4) = false := by simp
         have m5 : (u5 != u5) = false := by simp
         clear hu1 hu2 hu3 hu4 hu5
         go_wp2_with (first
          | (go_at_call 46; (with_reducible refine HU.out.mono ?_); rintro e w8 ⟨rfl, b8⟩)
          | (go_at_call 46; (with_reducible refine (HU'.out _ b8).mono ?_); rintro e w9 ⟨rfl, b9⟩))
         go_roundw
         case rel => exact ⟨k + 1, by omega, by go_num, hb.trans ((b8.trans (b9.mono b8.size)).mono hb.size)⟩
         case measure => simp [intOf]; omega
        ·obtain rfl : k = dn := by omega
         go_wp2_with fail
         go_ret
         exact ⟨rfl, hcr⟩
end
end Go.Proofs.YtiapkffihpgdcaaGreatDoor
namespace Go.Proofs.YtiapkffihpgdcaaGreatDoor
open Go.RowKit
theorem hist_run (ls : List Wd) : ∀ o : Of, Hist o → Hist (runS o ls) := by
 induction ls with
 | nil => intro o h; exact h
 | cons y ls ih => intro o h; exact ih _ (h.step y)
theorem replay_facts {f : Fi} {S : Of} {ls : List Wd} (hS : S = runS f.s0 ls) (hz : f.e = 0) : OfOk S ∧ okTo f.s0 S.orders S.orders.length = true ∧ runS f.s0 S.orders = S := by
 have h1 : Hist S := by rw [hS]; exact hist_run _ _ (Hist.new _ _ _)
 obtain ⟨e1, e2, e3⟩ := runS_same ls f.s0
 rw [← hS] at e1 e2 e3
 have e : new0 S.tm S.cy S.bk = f.s0 := by rw [e1, e2, e3]; rfl
 have g1 := h1.ok
 have g2 := h1.run
 rw [e] at g1 g2
 exact ⟨by rw [hS]; exact runS_ok _ _ (OfOk.new hz), g1, g2⟩
/-- The first k lines of a book. -/
theorem rd_take {S : Of} (h : OfOk S) (k : Nat) (hk : k ≤ S.orders.length) : rd (bokTo S.orders k) = (S.orders.take k, []) ∧ (bokTo S.orders k).length ≤ 61 * k := by
 refine ⟨?_, bokTo_len S.orders h.short k⟩
 rw [bokTo_take _ _ hk]
 exact rdL_bok _ _ (fun w hw => h.lines w (List.mem_of_mem_take hw)) (by have := h.ol; rw [List.length_take]; omega)
theorem okTo_take (o : Of) (ls : List Wd) (h : okTo o ls ls.length = true) (k : Nat) (hk : k ≤ ls.length) : okTo o (ls.take k) k = true := by
 rw [okTo_iff] at h ⊢
 intro i hi
 have h1 := h i (by omega)
 have e1 : runTo o (ls.take k) i = runTo o ls i := by unfold runTo; rw [List.take_take, Nat.min_eq_left (by omega)]
 have e2 : (ls.take k).getD i [] = ls.getD i [] := by rw [List.getD_eq_getElem?_getD, List.getD_eq_getElem?_getD, List.getElem?_take_of_lt hi]
 rw [e1, e2]; exact h1
theorem preplay_at {f : Fi} {w : World} (hf : f.In w) (hl : f.Len) (hE : EnvA w) (hz : f.e = 0) (t : Wd) (ls : List Wd) (ht : t.length ≤ 1000000) (hrd : rd t = (ls, [])) (hok : okTo f.s0 ls ls.length = true) :
  Calls Tryz.prog 55 #[.agg #[.int .i64 f.t.len, .slice f.A1 f.t.rest.length f.c1, .slice f.A2 f.t.clo.length f.c2], .agg #[.int .i64 f.c.n, .int .i64 f.c.f, .int .i64 f.c.k], .agg #[.int .i64 f.b.props, .slice f.B1 f.b.items.length f.d1, .slice f.B2 f.b.rules.length f.d2], St t] w fun e w' => ∃ g, e = .returned (.tuple #[.pointer (some ⟨g, 0, none⟩), .int .i64 ls.length, .int .i64 0]) ∧ KN w ls.length (fun _ => False) g (runS f.s0 ls) w' := by
 have := preplay_ok hf hl hE t ht hz (by rw [hrd]) (by rw [hrd]; exact hok)
 rw [hrd] at this
 exact this
set_option maxHeartbeats 800000 in
theorem eqInts_any (l : List Int) (A B : Option Addr) (c d : Nat) (w : World) (h1 : RN w A l) (h2 : RN w B l) (hl : l.length ≤ 1000000000) :
  Calls Tryz.prog 216 #[.slice A l.length c, .slice B l.length d] w fun e w' => e = .returned (.bool true) ∧ Below w.heap.size w w' := by
 have n1 : ((l.length : Int) != (l.length : Int)) = false := by simp
 go_enter Tryz.func216, Tryz.ntmps216
 go_wp2
 go_loopw [13] (fun x wr => ∃ k : Nat, k ≤ l.length ∧ x = .int .i64 k ∧ Below w.heap.size w wr) (fun x _ => l.length - (intOf x).toNat)
 case atStart => exact ⟨0, by omega, rfl, Below.refl _ _⟩
 case round =>
  obtain ⟨k, hk, rfl, hbl⟩ := hrel
  by_cases hlt : k < l.length
  ·obtain ⟨ad, rfl, hab, c0⟩ := (h1.below hbl).at_ hlt
   obtain ⟨bd, rfl, hbb, d0⟩ := (h2.below hbl).at_ hlt
   have n2 : (gi l k != gi l k) = false := by simp
   go_wp2_with fail
   go_quiet (fail)
   go_wp2
   go_roundw
   case rel => exact ⟨k + 1, by omega, by go_num, Go.below_drewN hbl _⟩
   case measure => simp [intOf]; omega
  ·obtain rfl : k = l.length := by omega
   go_wp2
   go_ret
   exact ⟨rfl, hbl⟩
set_option maxHeartbeats 800000 in
theorem eqDishes_any (l : List Dh) (A B : Option Addr) (c d : Nat) (w : World) (h1 : RDh (fun _ => True) w A l) (h2 : RDh (fun _ => True) w B l) (hl : l.length ≤ 1000000000) :
  Calls Tryz.prog 212 #[.slice A l.length c, .slice B l.length d] w fun e w' => e = .returned (.bool true) ∧ Below w.heap.size w w' := by
 have n1 : ((l.length : Int) != (l.length : Int)) = false := by simp
 go_enter Tryz.func212, Tryz.ntmps212
 go_wp2
 go_loopw [13] (fun x wr => ∃ k : Nat, k ≤ l.length ∧ x = .int .i64 k ∧ Below w.heap.size w wr) (fun x _ => l.length - (intOf x).toNat)
 case atStart => exact ⟨0, by omega, rfl, Below.refl _ _⟩
 case round =>
  obtain ⟨k, hk, rfl, hbl⟩ := hrel
  by_cases hlt : k < l.length
  ·obtain ⟨ad, rfl, hab, c0, c1⟩ := RDh.at_ (R2.below h1 hbl) hlt
   obtain ⟨bd, rfl, hbb, d0, d1⟩ := RDh.at_ (R2.below h2 hbl) hlt
   skip
   go_wp2_with fail
   go_quiet (fail)
   go_wp2
   go_roundw
   case rel => exact ⟨k + 1, by omega, by go_num, Go.below_drewN hbl _⟩
   case measure => simp [intOf]; omega
  ·obtain rfl : k = l.length := by omega
   go_wp2
   go_ret
   exact ⟨rfl, hbl⟩
set_option maxHeartbeats 800000 in
theorem eqFacts_any (l : List Fact) (A B : Option Addr) (c d : Nat) (w : World) {B1 B2 : Nat} (h1 : RF w B1 A l) (h2 : RF w B2 B l) (hl : l.length ≤ 1000000000) :
  Calls Tryz.prog 213 #[.slice A l.length c, .slice B l.length d] w fun e w' => e = .returned (.bool true) ∧ Below w.heap.size w w' := by
 have n1 : ((l.length : Int) != (l.length : Int)) = false := by simp
 go_enter Tryz.func213, Tryz.ntmps213
 go_wp2
 go_loopw [13] (fun x wr => ∃ k : Nat, k ≤ l.length ∧ x = .int .i64 k ∧ Below w.heap.size w wr) (fun x _ => l.length - (intOf x).toNat)
 case atStart => exact ⟨0, by omega, rfl, Below.refl _ _⟩
 case round =>
  obtain ⟨k, hk, rfl, hbl⟩ := hrel
  by_cases hlt : k < l.length
  ·obtain ⟨ad, rfl, hab, c0, c1, c2, c3, c4⟩ := (h1.below hbl).at_ hlt
   obtain ⟨bd, rfl, hbb, d0, d1, d2, d3, d4⟩ := (h2.below hbl).at_ hlt
   skip
   go_wp2_with fail
   go_quiet (fail)
   go_wp2
   go_roundw
   case rel => exact ⟨k + 1, by omega, by go_num, Go.below_drewN hbl _⟩
   case measure => simp [intOf]; omega
  ·obtain rfl : k = l.length := by omega
   go_wp2
   go_ret
   exact ⟨rfl, hbl⟩
set_option maxHeartbeats 800000 in
theorem kidSame_any (n : Int) (l : List Int) (A B : Option Addr) (c d : Nat) (w : World) (h1 : RN w A l) (h2 : RN w B l) (hl : l.length ≤ 1000000000) :
  Calls Tryz.prog 215 #[.agg #[.int .i64 n, .slice A l.length c], .agg #[.int .i64 n, .slice B l.length d]] w fun e w' => e = .returned (.bool true) ∧ Below w.heap.size w w' := by
 obtain ⟨w2, hw2⟩ : ∃ w2, (w.alloc (.cells #[.int .i64 n, .slice A l.length c] 56)).alloc (.cells #[.int .i64 n, .slice B l.length d] 56) = w2 := ⟨_, rfl⟩
 have hy : Below w.heap.size w w2 := by rw [← hw2]; exact ((Below.refl _ w).alloc (Nat.le_refl _) _).alloc (by simp) _
 have b0 : Box w2 w.heap.size #[.int .i64 n, .slice A l.length c] := by rw [← hw2]; exact (Box.new w _ _).alloc _
 have b1 : Box w2 (w.heap.size + 1) #[.int .i64 n, .slice B l.length d] := by rw [← hw2]; exact (Box.new (w.alloc (.cells #[.int .i64 n, .slice A l.length c] 56)) _ _).at' (by simp)
 have x0 := b0.cell 0; have x1 := b0.cell 1; have y0 := b1.cell 0; have y1 := b1.cell 1
 simp only [List.getElem?_toArray, List.getElem?_cons_zero, List.getElem?_cons_succ] at x0 x1 y0 y1
 have HC := Lib.hid (eqInts_any l A B c d w2 (h1.below hy) (h2.below hy) hl)
 have n1 : (n == n) = true := by simp
 go_enter Tryz.func215, Tryz.ntmps215
 go_wp2_with (go_at_call 216; (with_reducible refine HC.out.mono ?_); rintro e w3 ⟨rfl, hb3⟩)
 go_ret
 exact ⟨rfl, hy.trans (hb3.mono hy.size)⟩
set_option maxHeartbeats 1600000 in
theorem eqKids_any (l : List Kd) (hp hq : Nat → SlH) (A B : Option Addr) (c d : Nat) (w : World) (h1 : RKd (fun _ => True) w A l hp) (h2 : RKd (fun _ => True) w B l hq) (hl : l.length ≤ 1000000000) (ha : ∀ k, k < l.length → (gk l k).avoid.length ≤ 1000000000) :
  Calls Tryz.prog 214 #[.slice A l.length c, .slice B l.length d, .func (.func 215) #[] #[]] w fun e w' => e = .returned (.bool true) ∧ Below w.heap.size w w' := by
 have n1 : ((l.length : Int) != (l.length : Int)) = false := by simp
 have HA := Lib.hid ha
 clear ha
 go_enter Tryz.func214, Tryz.ntmps214
 go_wp2
 go_loopw [17] (fun x wr => ∃ k : Nat, k ≤ l.length ∧ x = .int .i64 k ∧ Below w.heap.size w wr) (fun x _ => l.length - (intOf x).toNat)
 case atStart => exact ⟨0, by omega, rfl, Below.refl _ _⟩
 case round =>
  obtain ⟨k, hk, rfl, hbl⟩ := hrel
  by_cases hlt : k < l.length
  ·obtain ⟨ad, rfl, hab, c0, c1⟩ := (h1.below hbl).at_ hlt
   obtain ⟨bd, rfl, hbb, d0, d1⟩ := (h2.below hbl).at_ hlt
   have hal := HA.out k hlt
   have r1 : RN wr (hp k).1 (gk l k).avoid := RNF.rn ((h1.below hbl).avoid k hlt)
   have r2 : RN wr (hq k).1 (gk l k).avoid := RNF.rn ((h2.below hbl).avoid k hlt)
   obtain ⟨nu, hnu⟩ : ∃ nu, nu = (gk l k).num := ⟨_, rfl⟩
   obtain ⟨av, hav⟩ : ∃ av, av = (gk l k).avoid := ⟨_, rfl⟩
   obtain ⟨⟨P1, P2⟩, hP⟩ : ∃ P : SlH, P = hp k := ⟨_, rfl⟩
   obtain ⟨⟨Q1, Q2⟩, hQ⟩ : ∃ Q : SlH, Q = hq k := ⟨_, rfl⟩
   rw [← hnu] at c0 d0
   rw [← hav] at hal
   rw [← hav, ← hP] at c1 r1
   rw [← hav, ← hQ] at d1 r2
   have c1' : wr.cell? ⟨(ad.add (k * 2)).block, (ad.add (k * 2)).off + 1, none⟩ = some (.slice P1 av.length P2) := c1
   have d1' : wr.cell? ⟨(bd.add (k * 2)).block, (bd.add (k * 2)).off + 1, none⟩ = some (.slice Q1 av.length Q2) := d1
   clear c1 d1 hnu hav hP hQ
   obtain ⟨w5, hw5⟩ : ∃ w5, wr.alloc (.cells #[.int .i64 nu, .slice P1 av.length P2] 56) = w5 := ⟨_, rfl⟩
   have hb5 : Below wr.heap.size wr w5 := by rw [← hw5]; exact (Below.refl _ wr).alloc (Nat.le_refl _) _
   have b5 : Box w5 wr.heap.size #[.int .i64 nu, .slice P1 av.length P2] := by rw [← hw5]; exact (Box.new wr _ _)
   have e5 : w5.heap.size = wr.heap.size + 1 := by rw [← hw5]; simp
   obtain ⟨w6, hw6⟩ : ∃ w6, w5.alloc (.cells #[.int .i64 nu, .slice Q1 av.length Q2] 56) = w6 := ⟨_, rfl⟩
   have hb6 : Below w5.heap.size w5 w6 := by rw [← hw6]; exact (Below.refl _ w5).alloc (Nat.le_refl _) _
   have b6 : Box w6 w5.heap.size #[.int .i64 nu, .slice Q1 av.length Q2] := by rw [← hw6]; exact (Box.new w5 _ _)
   have b56 := b5.below hb6
   have hb56 := hb5.trans (hb6.mono hb5.size)
   have d0' := (hb5.cell (p := bd.add (k * 2)) hbb).trans d0
   have d1'' := (hb5.cell (p := ⟨(bd.add (k * 2)).block, (bd.add (k * 2)).off + 1, none⟩) hbb).trans d1'
   have x0 := b56.cell 0; have x1 := b56.cell 1; have y0 := b6.cell 0; have y1 := b6.cell 1
   simp only [List.getElem?_toArray, List.getElem?_cons_zero, List.getElem?_cons_succ] at x0 x1 y0 y1
   have HC := Lib.hid (kidSame_any nu av P1 Q1 P2 Q2 w6 (r1.below hb56) (r2.below hb56) hal)
   have hbl6 := hbl.trans (hb56.mono hbl.size)
   clear b5 b6 b56 e5 d0 d1' hb5 hb6
   go_wp2_with (go_at_call 215; (with_reducible refine HC.out.mono ?_); rintro e w7 ⟨rfl, hb7⟩)
   go_roundw
   case rel => exact ⟨k + 1, by omega, by go_num, hbl6.trans (hb7.mono hbl6.size)⟩
   case measure => simp [intOf]; omega
  ·obtain rfl : k = l.length := by omega
   go_wp2
   go_ret
   exact ⟨rfl, hbl⟩
end Go.Proofs.YtiapkffihpgdcaaGreatDoor
namespace Go.Proofs.YtiapkffihpgdcaaGreatDoor
open Go.RowKit Go.Sort
section
variable {L : Int} {N : Nat} {w : World} {F : Nat → Prop} {g : Nat} {h : Hd} {s : Of}
set_option maxHeartbeats 3200000 in
theorem safe_any (hP : PO L N w F g h s) (hE : EnvZ w) :
  Calls Tryz.prog 147 #[.pointer (some ⟨g, 0, none⟩)] w fun e w' => e = .returned (.bool true) ∧ Below w.heap.size w w' := by
 have qK := hP.cKd
 have hkl := hP.ok.kl
 have hgl := hP.gl
 have hdl := days_le hP.ok.tm
 go_enter Tryz.func147, Tryz.ntmps147
 go_wp2_with fail
 clear qK
 go_loopw [12] (fun x wr => ∃ i : Nat, i ≤ s.kids.length ∧ x = .int .i64 i ∧ Below w.heap.size w wr) (fun x _ => s.kids.length - (intOf x).toNat)
 case atStart => exact ⟨0, by omega, rfl, Below.refl _ _⟩
 case round =>
  obtain ⟨wo, rfl⟩ : ∃ wo : World, wo = wr := ⟨_, rfl⟩
  obtain ⟨i, hil, rfl, hbl⟩ := hrel
  have hszl := hbl.size
  by_cases hi : i < s.kids.length
  ·have hPr := hP.below hbl
   obtain ⟨adK, eK, hbK, _, dK0, dK1⟩ := hPr.kids.at_ hi
   rw [eK]
   unfold slN at dK1
   have hsafe := fun (d : Nat) (hd : d < s.days) => hP.ok.safe _ (gk_mem hi) d hd
   have hp0 := hP.ok.bk.p0
   have hp10 := hP.ok.bk.p10
   have hvl : (gk s.kids i).avoid.length ≤ 1000000000 := by have := isSet_len (hP.ok.ka _ (gk_mem hi)) (by omega); omega
   have hvd0 := (hPr.av i hi).rn
   obtain ⟨av, hav⟩ : ∃ av, av = (gk s.kids i).avoid := ⟨_, rfl⟩
   obtain ⟨nu, hnu⟩ : ∃ nu, nu = (gk s.kids i).num := ⟨_, rfl⟩
   rw [← hav] at dK1 hvl hvd0
   rw [← hnu] at dK0
   simp only [← hav, ← hnu] at hsafe
   have HSF := Lib.hid hsafe
   clear hav hnu eK hsafe
   obtain ⟨w5, hw5⟩ : ∃ w5, wo.alloc (.cells #[.int .i64 nu, .slice (h.hk i).1 av.length (h.hk i).2] 56) = w5 := ⟨_, rfl⟩
   have hb5 : Below wo.heap.size wo w5 := by rw [← hw5]; exact (Below.refl _ wo).alloc (Nat.le_refl _) _
   have b5 : Box w5 wo.heap.size #[.int .i64 nu, .slice (h.hk i).1 av.length (h.hk i).2] := by rw [← hw5]; exact (Box.new wo _ _)
   have hbl5 := hbl.trans (hb5.mono hszl)
   have hP5 := hP.below hbl5
   have qM := hP5.cMn
   rw [mnL_len] at qM
   have hvd5 := hvd0.below hb5
   go_wp2_with fail
   clear qM dK0 dK1 hvd0 hbK
   go_loopw [21] (fun x wr => ∃ d : Nat, d ≤ s.days ∧ x = .int .i64 d ∧ Below w5.heap.size w5 wr) (fun x _ => s.days - (intOf x).toNat)
   case atStart => exact ⟨0, by omega, rfl, Below.refl _ _⟩
   case round =>
    obtain ⟨k, hk1, rfl, hb⟩ := hrel
    by_cases hkd : k < s.days
    ·have hbd : Below w.heap.size w wr := hbl5.trans (hb.mono hbl5.size)
     have hPd := hP.below hbd
     have hEd := hE.below hbd
     have qD := hPd.cDs
     have hvd := hvd5.below hb
     have bb := b5.below hb
     have u0 := bb.cell 0; have u1 := bb.cell 1
     simp only [List.getElem?_toArray, List.getElem?_cons_zero, List.getElem?_cons_succ] at u0 u1
     obtain ⟨adm, em, hmb, cm⟩ := hPd.mn.rn.at_ (k := k) (by rw [mnL_len]; exact hkd)
     rw [em]
     rw [mnL_gi s hkd] at cm
     obtain ⟨m, hm⟩ : ∃ m, s.menu k = m := ⟨_, rfl⟩
     rw [hm] at cm
     have HM := Lib.hid hm
     clear hm em
     by_cases hm0 : 0 ≤ m
     ·obtain ⟨j, rfl⟩ : ∃ j : Nat, m = j := ⟨m.toNat, by omega⟩
      by_cases hj : j < s.dishes.length
      ·obtain ⟨adD, eD, hbD, dD0, dD1⟩ := hPd.dish.at_ hj
       rw [eD] at qD
       have hdy : dayHarm s av k = harmB s.bk (gd s.dishes j).item av := by
        rw [dayHarm_yes (by rw [HM.out]; omega), HM.out]; rfl
       obtain ⟨it, hit⟩ : ∃ it, it = (gd s.dishes j).item := ⟨_, rfl⟩
       rw [← hit] at hdy dD1
       obtain ⟨H, hH⟩ : ∃ H, H = harmB s.bk it av := ⟨_, rfl⟩
       rw [← hH] at hdy
       obtain ⟨E, hEt⟩ : ∃ E, E = eatB s nu k := ⟨_, rfl⟩
       have hHE : H = true → E = false := fun e => by rw [hEt]; exact HSF.out k hkd (hdy.trans e)
       have cA : ∀ d' os, Calls Tryz.prog 211 #[.pointer (some ⟨g, 0, none⟩), .agg #[.int .i64 nu, .slice (h.hk i).1 av.length (h.hk i).2], .int .i64 it] (grow (redrawn wr d') os) fun e w'' => e = .returned (.bool H) ∧ ∃ p : Regrown, w'' = grow (redrawn wr p.d) p.os := fun d' os => by
        have hbg := below_regrown wr d' os
        rw [hH]
        exact Calls.regrown_of (harms_any (hPd.below hbg) (hEd.below hbg) nu av hvl _ _ (hvd.below hbg) it)
       have cB : ∀ d' os, Calls Tryz.prog 187 #[.pointer (some ⟨g, 0, none⟩), .int .i64 nu, .int .i64 k] (grow (redrawn wr d') os) fun e w'' => e = .returned (.bool E) ∧ ∃ p : Regrown, w'' = grow (redrawn wr p.d) p.os := fun d' os => by
        have hbg := below_regrown wr d' os
        rw [hEt]
        exact Calls.regrown_of (eats_any (hPd.below hbg) nu k)
       have k0 := cell_regrown qD; have k1 := cell_regrown u0; have k2 := cell_regrown u1; have k3 := cell_regrown dD1
       clear eD hit hH hdy dD0 hvl hvd hbD hEt qD u0 u1 dD1
       have hm0' : decide (0 ≤ (j : Int)) = true := by rw [decide_eq_true_eq]; omega
       have hj' : decide ((j : Int) < (s.dishes.length : Int)) = true := by rw [decide_eq_true_eq]; omega
       cases H with
       | true =>
        have hE0 := hHE rfl
        subst hE0
        clear hHE
        go_wp2_with fail
        refine wp_region_quiet_below (by kernel_rfl) (by kernel_rfl) ?_
        repeat (go_big_quiet_step (first | with_reducible exact cA _ _ | with_reducible exact cB _ _))
        refine wpQuiet_nil ?_
        intro _ hw'
        obtain ⟨⟨dq, osq⟩, hw''⟩ := hw'
        subst hw''
        go_wp2_with fail
        go_roundw
        case rel => exact ⟨k + 1, by omega, by go_num, hb.trans ((below_regrown wr dq osq).mono hb.size)⟩
        case measure => simp [intOf]; omega
       | false =>
        clear hHE
        go_wp2_with fail
        refine wp_region_quiet_below (by kernel_rfl) (by kernel_rfl) ?_
        repeat (go_big_quiet_step (first | with_reducible exact cA _ _ | with_reducible exact cB _ _))
        refine wpQuiet_nil ?_
        intro _ hw'
        obtain ⟨⟨dq, osq⟩, hw''⟩ := hw'
        subst hw''
        go_wp2_with fail
        go_roundw
        case rel => exact ⟨k + 1, by omega, by go_num, hb.trans ((below_regrown wr dq osq).mono hb.size)⟩
        case measure => simp [intOf]; omega
      ·have hm0' : decide (0 ≤ (j : Int)) = true := by rw [decide_eq_true_eq]; omega
       have hj' : decide ((j : Int) < (s.dishes.length : Int)) = false := by rw [decide_eq_false_iff_not]; omega
       go_wp2_with fail
       go_quiet (fail)
       go_wp2_with fail
       go_roundw
       case rel => exact ⟨k + 1, by omega, by go_num, Go.below_drewN hb _⟩
       case measure => simp [intOf]; omega
     ·have hm0' : decide (0 ≤ m) = false := by rw [decide_eq_false_iff_not]; omega
      go_wp2_with fail
      go_quiet (fail)
      go_wp2_with fail
      go_roundw
      case rel => exact ⟨k + 1, by omega, by go_num, Go.below_drewN hb _⟩
      case measure => simp [intOf]; omega
    ·obtain rfl : k = s.days := by omega
     go_wp2_with fail
     go_roundw
     case rel => exact ⟨i + 1, by omega, by go_num, hbl5.trans (hb.mono hbl5.size)⟩
     case measure => simp [intOf]; omega
  ·obtain rfl : i = s.kids.length := by omega
   go_wp2
   go_ret
   exact ⟨rfl, hbl⟩
end
theorem eql_service (a b c d : Int) (w : World) : (Op.equalIn 10000 180 (.agg #[.int .i64 a, .int .i64 b, .int .i64 c, .int .i64 d]) (.agg #[.int .i64 a, .int .i64 b, .int .i64 c, .int .i64 d])).run Tryz.prog w = .ok true w := by
 have hu : Tryz.prog.underlying 180 = some (.array 4 3) := by kernel_rfl
 obtain ⟨i, hi, _, _, _⟩ := info_parts info_int
 have u3 := Tryz.underlying3
 have a3 := Tryz.isAgg3
 have z3 := Tryz.sizeOf3
 have c1 : Tryz.prog.cellsOf 3 = 1 := by kernel_rfl
 rw [show (10000 : Nat) = 9999 + 1 from rfl, run_equalIn_array w 9999 _ _ hu hi, c1, show List.range 4 = [0, 1, 2, 3] from rfl]
 simp only [Op.eqItems]
 go_simp
section
variable {L L' : Int} {N N' : Nat} {w : World} {F F' : Nat → Prop} {g x : Nat} {h h' : Hd} {s : Of}
theorem PO.rkd (hP : PO L N w F g h s) : RKd (fun _ => True) w h.kd.1 s.kids h.hk := ⟨hP.kids, fun k hk => (hP.av k hk).mono fun _ _ => trivial⟩
set_option maxHeartbeats 3200000 in
theorem oequal_any (hP : PO L N w F g h s) (hX : PO L' N' w F' x h' s) :
    Calls Tryz.prog 148 #[.pointer (some ⟨g, 0, none⟩), .pointer (some ⟨x, 0, none⟩)] w fun e w' => e = .returned (.bool true) ∧ Below w.heap.size w w' := by
  have hkl := hP.ok.kl
  have hfl := hP.ok.fl
  have hdl := days_le hP.ok.tm
  have hds : s.dishes.length ≤ 40 := by have := hP.ok.dl; have := hP.ok.cy.n2; omega
  have hp0 := hP.ok.bk.p0
  have hp10 := hP.ok.bk.p10
  have hal : ∀ k, k < s.kids.length → (gk s.kids k).avoid.length ≤ 1000000000 := fun k hk => by have := isSet_len (hP.ok.ka _ (gk_mem hk)) (by omega); omega
  have cA : ∀ d' os, Calls Tryz.prog 212 #[.slice h.ds.1 s.dishes.length h.ds.2, .slice h'.ds.1 s.dishes.length h'.ds.2] (grow (redrawn w d') os) fun e w'' => e = .returned (.bool true) ∧ ∃ p : Regrown, w'' = grow (redrawn w p.d) p.os := fun d' os => by
    have hbg := below_regrown w d' os
    exact Calls.regrown_of (eqDishes_any s.dishes _ _ _ _ _ (hP.below hbg).dish (hX.below hbg).dish (by omega))
  have cB : ∀ d' os, Calls Tryz.prog 213 #[.slice h.fa.1 s.facts.length h.fa.2, .slice h'.fa.1 s.facts.length h'.fa.2] (grow (redrawn w d') os) fun e w'' => e = .returned (.bool true) ∧ ∃ p : Regrown, w'' = grow (redrawn w p.d) p.os := fun d' os => by
    have hbg := below_regrown w d' os
    exact Calls.regrown_of (eqFacts_any s.facts _ _ _ _ _ (hP.below hbg).rf (hX.below hbg).rf (by omega))
  have cC : ∀ d' os, Calls Tryz.prog 214 #[.slice h.kd.1 s.kids.length h.kd.2, .slice h'.kd.1 s.kids.length h'.kd.2, .func (.func 215) #[] #[]] (grow (redrawn w d') os) fun e w'' => e = .returned (.bool true) ∧ ∃ p : Regrown, w'' = grow (redrawn w p.d) p.os := fun d' os => by
    have hbg := below_regrown w d' os
    exact Calls.regrown_of (eqKids_any s.kids _ _ _ _ _ _ _ (hP.below hbg).rkd (hX.below hbg).rkd (by omega) hal)
  have HP := Lib.hid (fun (w' : World) (hb : Below w.heap.size w w') => hP.below hb)
  have HX := Lib.hid (fun (w' : World) (hb : Below w.heap.size w w') => hX.below hb)
  have k0 := cell_regrown hP.cNow; have k1 := cell_regrown hP.cDs; have k2 := cell_regrown hP.cFa; have k3 := cell_regrown hP.cKd
  have j0 := cell_regrown hX.cNow; have j1 := cell_regrown hX.cDs; have j2 := cell_regrown hX.cFa; have j3 := cell_regrown hX.cKd
  have n1 : (s.now == s.now) = true := by simp
  have heq := eql_service
  clear hP hX hal
  go_enter Tryz.func148, Tryz.ntmps148
  go_wp2_with fail
  refine wp_region_quiet_below (by kernel_rfl) (by kernel_rfl) ?_
  repeat (go_big_quiet_step (first | with_reducible exact cA _ _ | with_reducible exact cB _ _ | with_reducible exact cC _ _))
  refine wpQuiet_nil ?_
  intro _ hw'
  obtain ⟨⟨dq, osq⟩, hw''⟩ := hw'
  subst hw''
  have hy1 := below_regrown w dq osq
  clear k0 k1 k2 k3 j0 j1 j2 j3 cA cB cC n1
  obtain ⟨w1, hw1⟩ : ∃ w1, w1 = grow (redrawn w dq) osq := ⟨_, rfl⟩
  rw [← hw1] at hy1 ⊢
  clear hw1
  have hM1 := (HP.out _ hy1).cMn
  rw [mnL_len] at hM1
  go_wp2_with fail
  clear hM1
  go_loopw [5, 64] (fun sm v wr => ∃ k : Nat, k ≤ s.days ∧ v = .int .i64 k ∧ sm = .bool true ∧ Below w.heap.size w wr) (fun _ v _ => s.days - (intOf v).toNat)
  case atStart => exact ⟨0, by omega, rfl, rfl, hy1⟩
  case round =>
    obtain ⟨k, hk, rfl, rfl, hb⟩ := hrel
    by_cases hlt : k < s.days
    · have HS := Lib.hid (oserved_any (HP.out _ hb) (k : Int))
      have HT := Lib.hid (fun (w' : World) (hbb : Below w.heap.size w w') => oserved_any (HX.out _ hbb) (k : Int))
      obtain ⟨E, hE⟩ : ∃ E, E = svdE s k := ⟨_, rfl⟩
      rw [← hE] at HS HT
      clear hE
      unfold svV at HS HT
      obtain ⟨a1, ha1⟩ : ∃ a, a = ckd s k := ⟨_, rfl⟩
      obtain ⟨a2, ha2⟩ : ∃ a, a = etn s k := ⟨_, rfl⟩
      obtain ⟨a3, ha3⟩ : ∃ a, a = wst s k := ⟨_, rfl⟩
      obtain ⟨a4, ha4⟩ : ∃ a, a = mis s k := ⟨_, rfl⟩
      rw [← ha1, ← ha2, ← ha3, ← ha4] at HS HT
      clear ha1 ha2 ha3 ha4
      have n2 : (E == E) = true := by simp
      go_wp2_with (first
        | (go_at_call 116; (with_reducible refine HS.out.mono ?_); rintro e w2 ⟨rfl, hb2⟩; clear HS
           obtain ⟨w3, hw3⟩ : ∃ w3, w2.alloc (.cells #[.int .i64 a1, .int .i64 a2, .int .i64 a3, .int .i64 a4] 180) = w3 := ⟨_, rfl⟩
           have hb3 : Below w2.heap.size w2 w3 := by rw [← hw3]; exact (Below.refl _ w2).alloc (Nat.le_refl _) _
           have b3 : Box w3 w2.heap.size #[.int .i64 a1, .int .i64 a2, .int .i64 a3, .int .i64 a4] := by rw [← hw3]; exact Box.new w2 _ _
           have hc3 := hb.trans ((hb2.trans (hb3.mono hb2.size)).mono hb.size))
        | (go_at_call 116; (with_reducible refine (HT.out _ hc3).mono ?_); rintro e w4 ⟨rfl, hb4⟩
           have b4 := b3.below hb4
           have hc4 := hc3.trans (hb4.mono hc3.size)
           obtain ⟨w5, hw5⟩ : ∃ w5, w4.alloc (.cells #[.int .i64 a1, .int .i64 a2, .int .i64 a3, .int .i64 a4] 180) = w5 := ⟨_, rfl⟩
           have hb5 : Below w4.heap.size w4 w5 := by rw [← hw5]; exact (Below.refl _ w4).alloc (Nat.le_refl _) _
           have b5 : Box w5 w4.heap.size #[.int .i64 a1, .int .i64 a2, .int .i64 a3, .int .i64 a4] := by rw [← hw5]; exact Box.new w4 _ _
           have b45 := b4.below hb5
           have hc5 := hc4.trans (hb5.mono hc4.size)
           have u0 := b45.cell 0; have u1 := b45.cell 1; have u2 := b45.cell 2; have u3 := b45.cell 3
           have v0 := b5.cell 0; have v1 := b5.cell 1; have v2 := b5.cell 2; have v3 := b5.cell 3
           simp only [List.getElem?_toArray, List.getElem?_cons_zero, List.getElem?_cons_succ] at u0 u1 u2 u3 v0 v1 v2 v3))
      go_roundw
      case rel => exact ⟨k + 1, by omega, by go_num, rfl, hc5⟩
      case measure => simp [intOf]; omega
    · obtain rfl : k = s.days := by omega
      have hK1 := (HP.out _ hb).cKd
      go_wp2_with fail
      clear hK1
      obtain ⟨wo, rfl⟩ : ∃ wo : World, wo = wr := ⟨_, rfl⟩
      go_loopw [5, 96] (fun sm v wr => ∃ k : Nat, k ≤ s.kids.length ∧ v = .int .i64 k ∧ sm = .bool true ∧ Below w.heap.size w wr) (fun _ v _ => s.kids.length - (intOf v).toNat)
      case atStart => exact ⟨0, by omega, rfl, rfl, hb⟩
      case round =>
        clear hb
        obtain ⟨k, hk, rfl, rfl, hb⟩ := hrel
        by_cases hlt : k < s.kids.length
        · obtain ⟨adK, eK, hbK, _, dK0, dK1⟩ := (HP.out _ hb).kids.at_ hlt
          rw [eK]
          unfold slN at dK1
          obtain ⟨av, hav⟩ : ∃ av, av = (gk s.kids k).avoid := ⟨_, rfl⟩
          obtain ⟨nu, hnu⟩ : ∃ nu, nu = (gk s.kids k).num := ⟨_, rfl⟩
          rw [← hav] at dK1
          rw [← hnu] at dK0
          clear hav hnu eK
          obtain ⟨w5, hw5⟩ : ∃ w5, wr.alloc (.cells #[.int .i64 nu, .slice (h.hk k).1 av.length (h.hk k).2] 56) = w5 := ⟨_, rfl⟩
          have hb5 : Below wr.heap.size wr w5 := by rw [← hw5]; exact (Below.refl _ wr).alloc (Nat.le_refl _) _
          have b5 : Box w5 wr.heap.size #[.int .i64 nu, .slice (h.hk k).1 av.length (h.hk k).2] := by rw [← hw5]; exact (Box.new wr _ _)
          have hc5 := hb.trans (hb5.mono hb.size)
          have u0 := b5.cell 0
          simp only [List.getElem?_toArray, List.getElem?_cons_zero, List.getElem?_cons_succ] at u0
          have HS := Lib.hid (odue_any (HP.out _ hc5) nu)
          have HT := Lib.hid (fun (w' : World) (hbb : Below w.heap.size w w') => odue_any (HX.out _ hbb) nu)
          obtain ⟨E, hE⟩ : ∃ E, E = dueE s nu := ⟨_, rfl⟩
          obtain ⟨R, hR⟩ : ∃ R, R = dueR s nu := ⟨_, rfl⟩
          rw [← hE, ← hR] at HS HT
          clear hE hR
          have n2 : (E == E) = true := by simp
          have n3 : (R == R) = true := by simp
          go_wp2_with (first
            | (go_at_call 91; (with_reducible refine HS.out.mono ?_); rintro e w6 ⟨rfl, hb6⟩; clear HS
               have b6 := b5.below hb6
               have hc6 := hc5.trans (hb6.mono hc5.size)
               have v0 := b6.cell 0
               simp only [List.getElem?_toArray, List.getElem?_cons_zero, List.getElem?_cons_succ] at v0)
            | (go_at_call 91; (with_reducible refine (HT.out _ hc6).mono ?_); rintro e w7 ⟨rfl, hb7⟩
               have hc7 := hc6.trans (hb7.mono hc6.size)))
          go_roundw
          case rel => exact ⟨k + 1, by omega, by go_num, rfl, hc7⟩
          case measure => simp [intOf]; omega
        · obtain rfl : k = s.kids.length := by omega
          go_wp2_with fail
          go_ret
          exact ⟨rfl, hb⟩
end
end Go.Proofs.YtiapkffihpgdcaaGreatDoor
namespace Go.Proofs.YtiapkffihpgdcaaGreatDoor
open Go.RowKit
section
variable {L : Int} {N : Nat} {w : World} {F : Nat → Prop} {g : Nat} {h : Hd} {s : Of}
/-- What an office in memory was made of. -/
def ofFi (s : Of) (h : Hd) : Fi := ⟨s.tm, s.cy, s.bk, h.tr.1, h.tc.1, h.bi.1, h.br.1, h.tr.2, h.tc.2, h.bi.2, h.br.2, h.hp, h.hq, h.hr⟩
theorem PO.fi (hP : PO L N w F g h s) : (ofFi s h).In w := ⟨hP.rest.rn, hP.clo.rn, hP.bk.mono fun _ _ => trivial⟩
theorem PO.fiLen (hP : PO L N w F g h s) : (ofFi s h).Len := ⟨by have := isSet_len hP.ok.tm.rest (by omega); show s.tm.rest.length ≤ 1000000; omega, by have := hP.ok.tm.clo60; show s.tm.clo.length ≤ 1000000; omega, hP.ok.bk.len⟩
set_option maxHeartbeats 3200000 in
theorem cAudit_any (hP : PO L N w F g h s) (hE : EnvA w) (hH : Hist s) {b1 : Nat} (x1 : w.cell? ⟨b1, 0, none⟩ = some (.pointer (some ⟨g, 0, none⟩))) (hb1 : b1 < w.heap.size) :
  Calls Tryz.prog 144 #[.pointer (some ⟨b1, 0, none⟩)] w fun e w' => e = .returned (.tuple #[.bool true, .int .i64 0]) ∧ Below w.heap.size w w' := by
 have hlen := hP.fiLen
 have hz : (ofFi s h).e = 0 := newE_of hP.ok.tm hP.ok.cy hP.ok.bk
 have hfl := hP.ok.fl
 have hrd := rd_bok hP.ok
 have hbl := (rd_take hP.ok _ (Nat.le_refl _)).2
 have hol := hP.ok.ol
 obtain ⟨T, hT⟩ : ∃ T, T = bok s := ⟨_, rfl⟩
 have hT2 : bokTo s.orders s.orders.length = T := by rw [hT]; rfl
 rw [hT2] at hbl
 rw [← hT] at hrd
 have HTX := Lib.hid (fun (w' : World) (hb : Below w.heap.size w w') => text_any (hP.below hb))
 rw [← hT] at HTX
 have HPR := Lib.hid (fun (w' : World) (hb : Below w.heap.size w w') => preplay_at (hP.below hb).fi hlen (hE.below hb) hz T s.orders (by omega) hrd hH.ok)
 rw [show runS (ofFi s h).s0 s.orders = s from hH.run] at HPR
 simp only [ofFi] at HPR
 have HV := Lib.hid (validate_any s.facts h.fa.1 h.fa.2 w.heap.size w hP.rf (by omega))
 rw [hP.ok.fv] at HV
 have HR := Lib.hid (fun (w' : World) (hb : Below w.heap.size w w') => vrights_any s.rights h.ri.1 h.ri.2 w' (hP.below hb).ri.1 (by have := hP.ok.rl; omega))
 rw [hP.ok.rv] at HR
 have HS := Lib.hid (fun (w' : World) (hb : Below w.heap.size w w') => safe_any (hP.below hb) (hE.below hb).z)
 have HP := Lib.hid (fun (w' : World) (hb : Below w.heap.size w w') => hP.below hb)
 have qF := hP.cFa
 have hgl := hP.gl
 clear hP hE hH hz hrd hbl hT hT2 hfl hol
 go_enter Tryz.func144, Tryz.ntmps144
 go_wp2_with (first
  | (go_at_call 145; (with_reducible refine HV.out.mono ?_); rintro e w1 ⟨rfl, c1⟩; have qR := (HP.out _ c1).cRi; have xa := (c1.cell (p := ⟨b1, 0, none⟩) hb1).trans x1)
  | (go_at_call 146; (with_reducible refine (HR.out _ c1).mono ?_); rintro e w2 ⟨rfl, d2⟩; have c2 := c1.trans (d2.mono c1.size); have xb := (c2.cell (p := ⟨b1, 0, none⟩) hb1).trans x1)
  | (go_at_call 147; (with_reducible refine (HS.out _ c2).mono ?_); rintro e w3 ⟨rfl, d3⟩; have c3 := c2.trans (d3.mono c2.size); have xc := (c3.cell (p := ⟨b1, 0, none⟩) hb1).trans x1))
 have P3 := HP.out _ c3
 have p0 := P3.cLen; have p1 := P3.cRest; have p2 := P3.cClo; have p3 := P3.cN; have p4 := P3.cF; have p5 := P3.cK; have p6 := P3.cProps; have p7 := P3.cItems; have p8 := P3.cRules
 clear qF qR x1 xa xb HV HR HS P3
 go_region_held3 (fun w' => w'.cell? ⟨b1, 0, none⟩ = some (.pointer (some ⟨g, 0, none⟩)) ∧ w'.cell? ⟨g, 2, none⟩ = some (.int .i64 s.tm.len) ∧ w'.cell? ⟨g, 3, none⟩ = some (.slice h.tr.1 s.tm.rest.length h.tr.2) ∧ w'.cell? ⟨g, 4, none⟩ = some (.slice h.tc.1 s.tm.clo.length h.tc.2) ∧ w'.cell? ⟨g, 5, none⟩ = some (.int .i64 s.cy.n) ∧ w'.cell? ⟨g, 6, none⟩ = some (.int .i64 s.cy.f) ∧ w'.cell? ⟨g, 7, none⟩ = some (.int .i64 s.cy.k) ∧ w'.cell? ⟨g, 8, none⟩ = some (.int .i64 s.bk.props) ∧ w'.cell? ⟨g, 9, none⟩ = some (.slice h.bi.1 s.bk.items.length h.bi.2) ∧ w'.cell? ⟨g, 10, none⟩ = some (.slice h.br.1 s.bk.rules.length h.br.2))
  (first | exact ⟨xc, p0, p1, p2, p3, p4, p5, p6, p7, p8⟩ | exact ⟨xd, r0, r1, r2, r3, r4, r5, r6, r7, r8⟩ | exact ⟨xe, s0, s1, s2, s3, s4, s5, s6, s7, s8⟩ | go_keep)
  (first
   | (go_at_call 74; (with_reducible refine (HTX.out _ c3.drew).mono ?_); rintro e w4 ⟨rfl, d4⟩; have c4 := c3.drew.trans (d4.mono c3.drew.size); have P4 := HP.out _ c4; have xd := ((d4.cell (p := ⟨b1, 0, none⟩) (Nat.lt_of_lt_of_le hb1 c3.size))).trans xc; have r0 := P4.cLen; have r1 := P4.cRest; have r2 := P4.cClo; have r3 := P4.cN; have r4 := P4.cF; have r5 := P4.cK; have r6 := P4.cProps; have r7 := P4.cItems; have r8 := P4.cRules)
   | (go_at_call 55; (with_reducible refine (HPR.out _ c4).mono ?_); rintro e w5 ⟨g2, rfl, hk5⟩; have c5 := c4.trans (hk5.at_.mono c4.size); have P5 := HP.out _ c5; have xe := ((hk5.at_.cell (p := ⟨b1, 0, none⟩) (Nat.lt_of_lt_of_le hb1 c4.size))).trans xd; have s0 := P5.cLen; have s1 := P5.cRest; have s2 := P5.cClo; have s3 := P5.cN; have s4 := P5.cF; have s5 := P5.cK; have s6 := P5.cProps; have s7 := P5.cItems; have s8 := P5.cRules; have HQ := Lib.hid (show Calls Tryz.prog 148 #[.pointer (some ⟨g, 0, none⟩), .pointer (some ⟨g2, 0, none⟩)] w5 fun e w' => e = .returned (.bool true) ∧ Below w5.heap.size w5 w' by obtain ⟨F2, h2, hP2, _⟩ := hk5; exact oequal_any P5 hP2)))
 all_goals
  go_wp2_with (go_at_call 148; (with_reducible refine HQ.out.mono ?_); rintro e w6 ⟨rfl, d6⟩)
  go_ret2
  exact ⟨rfl, c5.trans (d6.mono c5.size)⟩
end
section
variable {N : Nat} {w : World} {F : Nat → Prop} {g : Nat} {h : Hd} {s : Of}
set_option maxHeartbeats 800000 in
theorem oAudit_any (hP : PO 0 N w F g h s) (hE : EnvA w) (hH : Hist s) :
  Calls Tryz.prog 57 #[.pointer (some ⟨g, 0, none⟩)] w fun e w' => e = .returned (.bool true) ∧ Below w.heap.size w w' := by
 obtain ⟨w2, hw2⟩ : ∃ w2, w.alloc (.cells #[.pointer (some ⟨g, 0, none⟩)] 35) = w2 := ⟨_, rfl⟩
 have hb2 : Below w.heap.size w w2 := by rw [← hw2]; exact (Below.refl _ w).alloc (Nat.le_refl _) _
 have b1 : Box w2 w.heap.size #[.pointer (some ⟨g, 0, none⟩)] := by rw [← hw2]; exact Box.new w _ _
 have x1 := b1.cell 0
 simp only [List.getElem?_toArray, List.getElem?_cons_zero, List.getElem?_cons_succ] at x1
 have hP2 := hP.below hb2
 have hgl := hP.gl
 have hg2 := hP2.gl
 have hl1 := b1.lt
 have hg7 := (hP2.lo _ hP2.gF).1
 have hE2 : EnvA (w2.setCell ⟨g, 0, none⟩ (.int .i32 1)) := (hE.below hb2).off ((Off.refl (fun k => k = g) w2).setCell (p := ⟨g, 0, none⟩) (.inl rfl) _) (fun k e => by omega)
 have hK : ∀ args w, (callFunc 144 args).run Tryz.prog w = .ok (.enter 144 args) w := enters_of Tryz.func144 (by kernel_rfl) rfl
 have hcl := lockedBo_any hP2 (K := 144) (caps := #[.pointer (some ⟨w.heap.size, 0, none⟩)]) (E := 0) (Q := fun v _ => v = .bool true) hK
  ((cAudit_any (hP2.lock rfl) hE2 hH ((b1.setg (by omega)).cell 0) (by simpa using hl1)).mono fun e w' hh => ⟨_, hh.1, rfl, by have := hh.2; rw [set_size] at this; exact this⟩)
 have HC := Lib.hid (hcl.mono fun e w' hh => hh.plain (V := .bool true) (fun _ _ hv => hv) fun hn => absurd rfl hn)
 clear hcl hK
 go_enter Tryz.func57, Tryz.ntmps57
 go_wp2_with (go_at_call 143; (with_reducible refine HC.out.mono ?_); rintro e w3 ⟨rfl, hb3⟩)
 go_ret
 exact ⟨rfl, hb2.trans (hb3.mono hb2.size)⟩
end
theorem KN.audit {w0 w : World} {N : Nat} {Z : Nat → Prop} {g : Nat} {s : Of} (hk : KN w0 N Z g s w) (hH : Hist s) :
  Calls Tryz.prog 57 #[.pointer (some ⟨g, 0, none⟩)] w fun e w' => e = .returned (.bool true) ∧ Below w.heap.size w w' := by
 obtain ⟨F, h, hP, hE, _⟩ := hk
 exact oAudit_any hP hE hH
structure Tri (w0 wx : World) (N1 N2 N3 : Nat) (F1 F2 F3 : Nat → Prop) (g a b : Nat) (h1 h2 h3 : Hd) (s1 s2 s3 : Of) (w : World) : Prop where
 p1 : PO 0 N1 w F1 g h1 s1
 p2 : PO 0 N2 w F2 a h2 s2
 p3 : PO 0 N3 w F3 b h3 s3
 env : EnvA w
 bel0 : Below w0.heap.size w0 w
 bel : Below wx.heap.size wx w
 lo1 : ∀ k, F1 k → w0.heap.size ≤ k
 lo2 : ∀ k, F2 k → wx.heap.size ≤ k
 lo3 : ∀ k, F3 k → wx.heap.size ≤ k
 up : w0.heap.size ≤ wx.heap.size
 d12 : ∀ k, F1 k → ¬ F2 k
 d13 : ∀ k, F1 k → ¬ F3 k
 d23 : ∀ k, F2 k → ¬ F3 k
/-- Three offices: the one of the orders (g), the one of the first lines (a), the fresh one (b). -/
def TN (w0 wx : World) (N1 N2 N3 : Nat) (g a b : Nat) (s1 s2 s3 : Of) (w : World) : Prop := ∃ F1 F2 F3 h1 h2 h3, Tri w0 wx N1 N2 N3 F1 F2 F3 g a b h1 h2 h3 s1 s2 s3 w
section
variable {w0 wx w w' : World} {N1 N2 N3 g a b : Nat} {s1 s2 s3 : Of}
theorem TN.below (h : TN w0 wx N1 N2 N3 g a b s1 s2 s3 w) (hb : Below w.heap.size w w') : TN w0 wx N1 N2 N3 g a b s1 s2 s3 w' := by
 obtain ⟨F1, F2, F3, h1, h2, h3, ⟨p1, p2, p3, env, bel0, bel, l1, l2, l3, up, d12, d13, d23⟩⟩ := h
 exact ⟨F1, F2, F3, h1, h2, h3, ⟨p1.below hb, p2.below hb, p3.below hb, env.below hb, bel0.trans (hb.mono bel0.size), bel.trans (hb.mono bel.size), l1, l2, l3, up, d12, d13, d23⟩⟩
theorem TN.bel0 (h : TN w0 wx N1 N2 N3 g a b s1 s2 s3 w) : Below w0.heap.size w0 w := by obtain ⟨_, _, _, _, _, _, h⟩ := h; exact h.bel0
theorem TN.bel (h : TN w0 wx N1 N2 N3 g a b s1 s2 s3 w) : Below wx.heap.size wx w := by obtain ⟨_, _, _, _, _, _, h⟩ := h; exact h.bel
theorem TN.do2 (h : TN w0 wx N1 N2 N3 g a b s1 s2 s3 w) (hN : N2 < 1000000000) (txt : Wd) (ht : txt.length ≤ 1000000000) :
  Calls Tryz.prog 25 #[.pointer (some ⟨a, 0, none⟩), St txt] w fun e w' => e = .returned (.int .i64 (doE s2 txt)) ∧ TN w0 wx N1 (N2 + 1) N3 g a b s1 (doS s2 txt) s3 w' := by
 obtain ⟨F1, F2, F3, h1, h2, h3, ⟨p1, p2, p3, env, bel0, bel, l1, l2, l3, up, d12, d13, d23⟩⟩ := h
 refine (Do_any p2 env hN txt ht).mono ?_
 rintro e w' ⟨he, ho, h', hP'⟩
 have hs := bel.size
 have hs0 := bel0.size
 refine ⟨he, F1, grown F2 w w', F3, h1, h', h3, ⟨p1.off ho d12, hP', p3.off ho fun k hk hk2 => d23 k hk2 hk, env.off ho p2.f7, bel0.trans (ho.to_below (fun k hk => Nat.le_trans up (l2 k hk)) hs0), bel.trans (ho.to_below l2 hs), l1, ?_, l3, up, ?_, d13, ?_⟩⟩
 ·rintro k (hk | hk)
  ·exact l2 k hk
  ·omega
 ·rintro k hk (hk2 | hk2)
  ·exact d12 k hk hk2
  ·have := (p1.lo k hk).2; omega
 ·rintro k (hk | hk) hk2
  ·exact d23 k hk hk2
  ·have := (p3.lo k hk2).2; omega
theorem TN.do3 (h : TN w0 wx N1 N2 N3 g a b s1 s2 s3 w) (hN : N3 < 1000000000) (txt : Wd) (ht : txt.length ≤ 1000000000) :
  Calls Tryz.prog 25 #[.pointer (some ⟨b, 0, none⟩), St txt] w fun e w' => e = .returned (.int .i64 (doE s3 txt)) ∧ TN w0 wx N1 N2 (N3 + 1) g a b s1 s2 (doS s3 txt) w' := by
 obtain ⟨F1, F2, F3, h1, h2, h3, ⟨p1, p2, p3, env, bel0, bel, l1, l2, l3, up, d12, d13, d23⟩⟩ := h
 refine (Do_any p3 env hN txt ht).mono ?_
 rintro e w' ⟨he, ho, h', hP'⟩
 have hs := bel.size
 have hs0 := bel0.size
 refine ⟨he, F1, F2, grown F3 w w', h1, h2, h', ⟨p1.off ho d13, p2.off ho d23, hP', env.off ho p3.f7, bel0.trans (ho.to_below (fun k hk => Nat.le_trans up (l3 k hk)) hs0), bel.trans (ho.to_below l3 hs), l1, l2, ?_, up, d12, ?_, ?_⟩⟩
 ·rintro k (hk | hk)
  ·exact l3 k hk
  ·omega
 ·rintro k hk (hk2 | hk2)
  ·exact d13 k hk hk2
  ·have := (p1.lo k hk).2; omega
 ·rintro k hk (hk2 | hk2)
  ·exact d23 k hk hk2
  ·have := (p2.lo k hk).2; omega
theorem TN.do2z (h : TN w0 wx N1 N2 N3 g a b s1 s2 s3 w) (hN : N2 < 1000000000) (txt : Wd) (ht : txt.length ≤ 1000000000) (he : doE s2 txt = 0) {s' : Of} (hs : s' = doS s2 txt) :
  Calls Tryz.prog 25 #[.pointer (some ⟨a, 0, none⟩), St txt] w fun e w' => e = .returned (.int .i64 0) ∧ TN w0 wx N1 (N2 + 1) N3 g a b s1 s' s3 w' := by
 have h := h.do2 hN txt ht
 rw [he, ← hs] at h
 exact h
theorem TN.do3z (h : TN w0 wx N1 N2 N3 g a b s1 s2 s3 w) (hN : N3 < 1000000000) (txt : Wd) (ht : txt.length ≤ 1000000000) (he : doE s3 txt = 0) {s' : Of} (hs : s' = doS s3 txt) :
  Calls Tryz.prog 25 #[.pointer (some ⟨b, 0, none⟩), St txt] w fun e w' => e = .returned (.int .i64 0) ∧ TN w0 wx N1 N2 (N3 + 1) g a b s1 s2 s' w' := by
 have h := h.do3 hN txt ht
 rw [he, ← hs] at h
 exact h
theorem TN.alike23 (h : TN w0 wx N1 N2 N3 g a b s1 s2 s2 w) (dn : Nat) (hdn : dn ≤ 1000) :
  Calls Tryz.prog 63 #[.pointer (some ⟨a, 0, none⟩), .pointer (some ⟨b, 0, none⟩), .int .i64 dn] w fun e w' => e = .returned (.bool true) ∧ Below w.heap.size w w' := by
 obtain ⟨_, _, _, _, _, _, h⟩ := h
 exact alike_any h.p2 h.p3 dn hdn
theorem TN.alike21 (h : TN w0 wx N1 N2 N3 g a b s1 s1 s3 w) (dn : Nat) (hdn : dn ≤ 1000) :
  Calls Tryz.prog 63 #[.pointer (some ⟨a, 0, none⟩), .pointer (some ⟨g, 0, none⟩), .int .i64 dn] w fun e w' => e = .returned (.bool true) ∧ Below w.heap.size w w' := by
 obtain ⟨_, _, _, _, _, _, h⟩ := h
 exact alike_any h.p2 h.p1 dn hdn
theorem TN.alike31 (h : TN w0 wx N1 N2 N3 g a b s1 s2 s1 w) (dn : Nat) (hdn : dn ≤ 1000) :
  Calls Tryz.prog 63 #[.pointer (some ⟨b, 0, none⟩), .pointer (some ⟨g, 0, none⟩), .int .i64 dn] w fun e w' => e = .returned (.bool true) ∧ Below w.heap.size w w' := by
 obtain ⟨_, _, _, _, _, _, h⟩ := h
 exact alike_any h.p3 h.p1 dn hdn
theorem TN.kn1 (h : TN w0 wx N1 N2 N3 g a b s1 s2 s3 w) : KN w0 N1 (fun _ => False) g s1 w := by
 obtain ⟨F1, F2, F3, h1, h2, h3, h⟩ := h
 exact ⟨F1, h1, h.p1, h.env, h.bel0, h.lo1, fun _ hz => hz.elim⟩
/-- Three offices that were made one behind another. -/
theorem TN.make {wa wb wc : World} {Z Z' Z'' : Nat → Prop} (ho : KN w0 N1 Z g s1 wa) (hp : KN wa N2 Z' a s2 wb) (hq : KN wb N3 Z'' b s3 wc) : TN w0 wa N1 N2 N3 g a b s1 s2 s3 wc := by
 have e1 := hp.at_
 have e2 := hq.at_
 have e3 := ho.at_
 obtain ⟨F1, h1, P1, _, _, L1, _⟩ := ho
 obtain ⟨F2, h2, P2, _, _, L2, _⟩ := hp
 obtain ⟨F3, h3, P3, E3, _, L3, _⟩ := hq
 have z1 := e1.size
 have z2 := e2.size
 have z3 := e3.size
 refine ⟨F1, F2, F3, h1, h2, h3, ⟨(P1.below e1).below e2, P2.below e2, P3, E3, e3.trans ((e1.trans (e2.mono z1)).mono z3), e1.trans (e2.mono z1), L1, L2, ?_, z3, ?_, ?_, ?_⟩⟩
 ·intro k hk; have := L3 k hk; omega
 ·intro k hk hk2; have := (P1.lo k hk).2; have := L2 k hk2; omega
 ·intro k hk hk2; have := (P1.lo k hk).2; have := L3 k hk2; omega
 ·intro k hk hk2; have := (P2.lo k hk).2; have := L3 k hk2; omega
end
section
variable {w0 w : World} {N : Nat} {Z : Nat → Prop} {g : Nat} {s : Of}
theorem KN.book (hk : KN w0 N Z g s w) : Calls Tryz.prog 23 #[.pointer (some ⟨g, 0, none⟩)] w fun e w' => e = .returned (St (bok s)) ∧ Below w.heap.size w w' := by
 obtain ⟨F, h, hP, _⟩ := hk
 exact oBook_any hP
end
/-- Is a term long? -/
def lgT (t : Tm) : Bool := decide (50 < t.rest.length ∨ 200 < t.clo.length)
set_option maxHeartbeats 800000 in
theorem longT_any (t : Tm) (A1 A2 : Option Addr) (c1 c2 : Nat) (w : World) :
  Calls Tryz.prog 61 #[.agg #[.int .i64 t.len, .slice A1 t.rest.length c1, .slice A2 t.clo.length c2]] w fun e w' => e = .returned (.bool (lgT t)) ∧ Below w.heap.size w w' := by
 obtain ⟨w2, hw2⟩ : ∃ w2, w.alloc (.cells #[.int .i64 t.len, .slice A1 t.rest.length c1, .slice A2 t.clo.length c2] 24) = w2 := ⟨_, rfl⟩
 have hy : Below w.heap.size w w2 := by rw [← hw2]; exact (Below.refl _ w).alloc (Nat.le_refl _) _
 have b0 : Box w2 w.heap.size #[.int .i64 t.len, .slice A1 t.rest.length c1, .slice A2 t.clo.length c2] := by rw [← hw2]; exact Box.new w _ _
 have x1 := b0.cell 1; have x2 := b0.cell 2
 simp only [List.getElem?_toArray, List.getElem?_cons_zero, List.getElem?_cons_succ] at x1 x2
 by_cases e0 : 50 < t.rest.length
 ·have f0 : decide ((50 : Int) < (t.rest.length : Int)) = true := by rw [decide_eq_true_eq]; omega
  have HL : lgT t = true := by unfold lgT; rw [decide_eq_true_eq]; exact .inl e0
  rw [HL]
  go_enter Tryz.func61, Tryz.ntmps61
  go_wp2_with fail
  go_ret
  exact ⟨rfl, hy⟩
 have f0 : decide ((50 : Int) < (t.rest.length : Int)) = false := by rw [decide_eq_false_iff_not]; omega
 by_cases e1 : 200 < t.clo.length
 ·have f1 : decide ((200 : Int) < (t.clo.length : Int)) = true := by rw [decide_eq_true_eq]; omega
  have HL : lgT t = true := by unfold lgT; rw [decide_eq_true_eq]; exact .inr e1
  rw [HL]
  go_enter Tryz.func61, Tryz.ntmps61
  go_wp2_with fail
  go_ret
  exact ⟨rfl, hy⟩
 have f1 : decide ((200 : Int) < (t.clo.length : Int)) = false := by rw [decide_eq_false_iff_not]; omega
 have HL : lgT t = false := by unfold lgT; rw [decide_eq_false_iff_not]; omega
 rw [HL]
 go_enter Tryz.func61, Tryz.ntmps61
 go_wp2_with fail
 go_ret
 exact ⟨rfl, hy⟩
/-- Is a book long? -/
def lgH (b : Bk) : Prop := 60 < b.items.length ∨ 60 < b.rules.length
def lgI (b : Bk) (i : Nat) : Bool := decide (40 < (gIt b.items i).parts.length ∨ 40 < (gIt b.items i).has.length)
def lgR (b : Bk) (i : Nat) : Bool := decide (40 < (gRl b.rules i).iff.length)
instance (b : Bk) : Decidable (lgH b) := by unfold lgH; exact inferInstance
def lgB (b : Bk) : Bool := decide (lgH b) || (anyTo (lgI b) b.items.length || anyTo (lgR b) b.rules.length)
theorem lgB_head {b : Bk} (h : lgH b) : lgB b = true := by unfold lgB; rw [decide_eq_true h]; rfl
theorem lgB_rest {b : Bk} (h : ¬ lgH b) : lgB b = (anyTo (lgI b) b.items.length || anyTo (lgR b) b.rules.length) := by unfold lgB; rw [decide_eq_false h]; rfl
set_option maxHeartbeats 3200000 in
theorem longB_any (b : Bk) (F : Nat → Prop) (B1 B2 : Option Addr) (d1 d2 : Nat) (hp hq hr : Nat → SlH) (w : World) (hR : RBk F w B1 B2 b hp hq hr) :
  Calls Tryz.prog 62 #[.agg #[.int .i64 b.props, .slice B1 b.items.length d1, .slice B2 b.rules.length d2]] w fun e w' => e = .returned (.bool (lgB b)) ∧ Below w.heap.size w w' := by
 obtain ⟨LB, hLB⟩ : ∃ LB, LB = lgB b := ⟨_, rfl⟩
 rw [← hLB]
 have HLB := Lib.hid hLB
 clear hLB
 obtain ⟨w2, hw2⟩ : ∃ w2, w.alloc (.cells #[.int .i64 b.props, .slice B1 b.items.length d1, .slice B2 b.rules.length d2] 30) = w2 := ⟨_, rfl⟩
 have hy : Below w.heap.size w w2 := by rw [← hw2]; exact (Below.refl _ w).alloc (Nat.le_refl _) _
 have b0 : Box w2 w.heap.size #[.int .i64 b.props, .slice B1 b.items.length d1, .slice B2 b.rules.length d2] := by rw [← hw2]; exact Box.new w _ _
 have hR2 := hR.below hy
 have z1 := b0.cell 1; have z2 := b0.cell 2
 simp only [List.getElem?_toArray, List.getElem?_cons_zero, List.getElem?_cons_succ] at z1 z2
 by_cases e0 : 60 < b.items.length
 ·have f0 : decide ((60 : Int) < (b.items.length : Int)) = true := by rw [decide_eq_true_eq]; omega
  have HL := HLB.out.trans (lgB_head (.inl e0))
  subst HL
  go_enter Tryz.func62, Tryz.ntmps62
  go_wp2_with fail
  (try rw [hw2])
  go_ret
  exact ⟨rfl, hy⟩
 have f0 : decide ((60 : Int) < (b.items.length : Int)) = false := by rw [decide_eq_false_iff_not]; omega
 by_cases e1 : 60 < b.rules.length
 ·have f1 : decide ((60 : Int) < (b.rules.length : Int)) = true := by rw [decide_eq_true_eq]; omega
  have HL := HLB.out.trans (lgB_head (.inr e1))
  subst HL
  go_enter Tryz.func62, Tryz.ntmps62
  go_wp2_with fail
  (try rw [hw2])
  go_ret
  exact ⟨rfl, hy⟩
 have f1 : decide ((60 : Int) < (b.rules.length : Int)) = false := by rw [decide_eq_false_iff_not]; omega
 have hrest := HLB.out.trans (lgB_rest (b := b) (by unfold lgH; omega))
 have HRE := Lib.hid hrest
 have hil : b.items.length ≤ 60 := by omega
 have hrl : b.rules.length ≤ 60 := by omega
 clear hrest HLB e0 e1
 go_enter Tryz.func62, Tryz.ntmps62
 go_wp2_with fail
 (try rw [hw2])
 clear hw2
 go_loopw [3] (fun x wr => ∃ k : Nat, k ≤ b.items.length ∧ x = .int .i64 k ∧ Hid (anyTo (lgI b) k = false) ∧ wr = w2) (fun x _ => b.items.length - (intOf x).toNat)
 case atStart => exact ⟨0, by omega, rfl, rfl, rfl⟩
 case round =>
  obtain ⟨k, hk, rfl, HK, hwr⟩ := hrel
  have hwr' := hwr.symm; clear hwr; subst hwr'
  by_cases hlt : k < b.items.length
  ·obtain ⟨ad, rfl, hab, _, d0, d1'⟩ := hR2.it.row.at_ hlt
   unfold slV at d0 d1'
   by_cases g1 : 40 < (gIt b.items k).parts.length
   ·have g1' : decide ((40 : Int) < ((gIt b.items k).parts.length : Int)) = true := by rw [decide_eq_true_eq]; omega
    have HL : LB = true := by rw [HRE.out, anyTo_up hlt (by unfold lgI; rw [decide_eq_true_eq]; exact .inl g1)]; rfl
    subst HL
    go_wp2_with fail
    go_ret
    exact ⟨rfl, hy⟩
   ·have g1' : decide ((40 : Int) < ((gIt b.items k).parts.length : Int)) = false := by rw [decide_eq_false_iff_not]; omega
    by_cases g2 : 40 < (gIt b.items k).has.length
    ·have g2' : decide ((40 : Int) < ((gIt b.items k).has.length : Int)) = true := by rw [decide_eq_true_eq]; omega
     have HL : LB = true := by rw [HRE.out, anyTo_up hlt (by unfold lgI; rw [decide_eq_true_eq]; exact .inr g2)]; rfl
     subst HL
     go_wp2_with fail
     go_ret
     exact ⟨rfl, hy⟩
    ·have g2' : decide ((40 : Int) < ((gIt b.items k).has.length : Int)) = false := by rw [decide_eq_false_iff_not]; omega
     have HN : Hid (anyTo (lgI b) (k + 1) = false) := by
      show _ = _
      simp only [anyTo]
      rw [HK.out, show lgI b k = false from by unfold lgI; rw [decide_eq_false_iff_not]; omega]; rfl
     clear HK g1 g2
     go_wp2_with fail
     go_roundw
     case rel => exact ⟨k + 1, by omega, by go_num, HN, by first | exact rfl | trivial⟩
     case measure => simp [intOf]; omega
  ·obtain rfl : k = b.items.length := by omega
   have HI := HK
   go_wp2_with fail
   go_loopw [4] (fun x wr => ∃ k : Nat, k ≤ b.rules.length ∧ x = .int .i64 k ∧ Hid (anyTo (lgR b) k = false) ∧ wr = w2) (fun x _ => b.rules.length - (intOf x).toNat)
   case atStart => exact ⟨0, by omega, rfl, rfl, rfl⟩
   case round =>
    obtain ⟨k, hk, rfl, HK, hwr⟩ := hrel
    have hwr' := hwr.symm; clear hwr; subst hwr'
    by_cases hlt : k < b.rules.length
    ·obtain ⟨ad, rfl, hab, _, d0, d1'⟩ := hR2.rl.row.at_ hlt
     unfold slV at d0
     by_cases g1 : 40 < (gRl b.rules k).iff.length
     ·have g1' : decide ((40 : Int) < ((gRl b.rules k).iff.length : Int)) = true := by rw [decide_eq_true_eq]; omega
      have HL : LB = true := by rw [HRE.out, anyTo_up hlt (by unfold lgR; rw [decide_eq_true_eq]; exact g1)]; simp
      subst HL
      go_wp2_with fail
      go_ret
      exact ⟨rfl, hy⟩
     ·have g1' : decide ((40 : Int) < ((gRl b.rules k).iff.length : Int)) = false := by rw [decide_eq_false_iff_not]; omega
      have HN : Hid (anyTo (lgR b) (k + 1) = false) := by
       show _ = _
       simp only [anyTo]
       rw [HK.out, show lgR b k = false from by unfold lgR; rw [decide_eq_false_iff_not]; exact g1]; rfl
      clear HK g1
      go_wp2_with fail
      go_roundw
      case rel => exact ⟨k + 1, by omega, by go_num, HN, by first | exact rfl | trivial⟩
      case measure => simp [intOf]; omega
    ·obtain rfl : k = b.rules.length := by omega
     have HL : LB = false := by rw [HRE.out, HI.out, HK.out]; rfl
     subst HL
     go_wp2_with fail
     go_ret
     exact ⟨rfl, hy⟩
theorem long_len {f : Fi} (h1 : lgT f.t = false) (h2 : lgB f.b = false) : f.Len := by
 unfold lgT at h1
 rw [decide_eq_false_iff_not] at h1
 unfold lgB at h2
 simp only [Bool.or_eq_false_iff, decide_eq_false_iff_not] at h2
 obtain ⟨h2, h3, h4⟩ := h2
 unfold lgH at h2
 rw [anyTo_false] at h3 h4
 exact ⟨by omega, by omega, ⟨by omega, by omega, fun k hk => by have := h3 k hk; unfold lgI at this; rw [decide_eq_false_iff_not] at this; omega, fun k hk => by have := h3 k hk; unfold lgI at this; rw [decide_eq_false_iff_not] at this; omega, fun k hk => by have := h4 k hk; unfold lgR at this; rw [decide_eq_false_iff_not] at this; omega⟩⟩
def fxW : Tm := ⟨7, [5, 6], []⟩
def xo0 : Of := new0 fxW fxC fxB
def xo1 : Of := doS xo0 xw1
theorem xo_new : newE fxW fxC fxB = 0 := by kernel_rfl
theorem xo_1 : doE xo0 xw1 = 0 := by kernel_rfl
theorem xo_d : xo1.dishes.length = 1 := by kernel_rfl
theorem xo_b : bok xo1 = [100, 105, 115, 104, 32, 115, 111, 117, 112, 32, 48, 10] := by kernel_rfl
theorem weekly_any9 (w : World) : Calls Tryz.prog 150 #[] w fun e w' => ∃ r : Nat, e = .returned (.agg #[.int .i64 7, .slice (some ⟨r, 0, none⟩) 2 2, .slice none 0 0]) ∧ Box w' r #[.int .i64 5, .int .i64 6] ∧ Below w.heap.size w w' := by
 go_enter Tryz.func150, Tryz.ntmps150
 go_wp2_with fail
 have q := (Box.new w 24 #[.int .i64 7, .slice (some ⟨w.heap.size + 1, 0, none⟩) 2 2, .slice none 0 0]).alloc (.cells #[.int .i64 5, .int .i64 6] 3)
 have q0 := q.cell 0; have q1 := q.cell 1; have q2 := q.cell 2
 simp only [List.getElem?_toArray, List.getElem?_cons_zero, List.getElem?_cons_succ] at q0 q1 q2
 (try simp only [Exit.inBlock, Exit.then])
 refine bodyPost_ret (v := .agg #[.int .i64 7, .slice (some ⟨w.heap.size + 1, 0, none⟩) 2 2, .slice none 0 0]) (by simp [results, Tryz.results150, go_sem, q0, q1, q2]) rfl ⟨w.heap.size + 1, rfl, ?_, ?_⟩
 ·exact (Box.new (w.alloc _) _ _).at' (by simp)
 ·exact ((Below.refl _ w).alloc (Nat.le_refl _) _).alloc (by simp) _
/-- The office of a week, made. -/
theorem o_made {w0 w : World} (hE : EnvA w) (hy : Below w0.heap.size w0 w) {r a b : Nat} (br : Box w r #[.int .i64 5, .int .i64 6]) (ba : Box w a #[.int .i64 0]) (bb : Box w b #[.slice none 0 0, .slice (some ⟨a, 0, none⟩) 1 1]) :
  Calls Tryz.prog 20 #[.agg #[.int .i64 7, .slice (some ⟨r, 0, none⟩) 2 2, .slice none 0 0], .agg #[.int .i64 1, .int .i64 0, .int .i64 0], .agg #[.int .i64 1, .slice (some ⟨b, 0, none⟩) 1 1, .slice none 0 0]] w fun e w' => ∃ g, e = .returned (.tuple #[.pointer (some ⟨g, 0, none⟩), .int .i64 0]) ∧ KN w0 0 (fun _ => False) g xo0 w' := by
 obtain ⟨_, _, hb⟩ := newE_ok xo_new
 have h := new_any fxW fxC fxB (by decide) (by decide) hb.len (some ⟨r, 0, none⟩) none 2 0 (fun _ => True) (some ⟨b, 0, none⟩) none 1 0 xh0 (xhq a) xh0 w (RN.of_box (l := [5, 6]) br) ⟨rfl, fun h => absurd h (Nat.not_lt_zero _)⟩ (x_book ba bb) hE.z.size
 refine Calls.mono (R := RetNew w (newE fxW fxC fxB) fxW fxC fxB) h ?_
 rintro e w' (⟨h0, _⟩ | ⟨_, g, h, he, hP, hb⟩)
 ·exact absurd xo_new h0
 ·refine ⟨g, he, _, h, hP, hE.below hb, hy.trans (hb.mono hy.size), fun k hk => Nat.le_trans hy.size hk.1, fun k hz => hz.elim⟩
theorem KN.dishes {w0 w : World} {N : Nat} {Z : Nat → Prop} {g : Nat} {s : Of} (hk : KN w0 N Z g s w) : Calls Tryz.prog 47 #[.pointer (some ⟨g, 0, none⟩)] w fun e w' => ∃ A c, e = .returned (.slice A s.dishes.length c) ∧ Below w.heap.size w w' := by
 obtain ⟨F, h, hP, _⟩ := hk
 refine (oDishes_any hP).mono ?_
 rintro e w' ⟨A, c, he, _, hb⟩
 exact ⟨A, c, he, hb⟩
set_option maxHeartbeats 1600000 in
theorem open_any9 {w : World} (hE : EnvA w) : Calls Tryz.prog 60 #[] w fun e w' => (∃ g, e = .returned (.tuple #[.pointer (some ⟨g, 0, none⟩), .bool true])) ∧ Below w.heap.size w w' := by
 go_enter Tryz.func60, Tryz.ntmps60
 go_wp2_with (first
  | (go_at_call 150; (with_reducible refine (weekly_any9 _).mono ?_); rintro e w1 ⟨r, rfl, br, hb1⟩; have hE1 := hE.below hb1))
 obtain ⟨w2, hw2⟩ : ∃ w2, (w1.alloc (.cells #[.int .i64 0] 3)).alloc (.cells #[.slice none 0 0, .slice (some ⟨w1.heap.size, 0, none⟩) 1 1] 120) = w2 := ⟨_, rfl⟩
 have hy2 : Below w1.heap.size w1 w2 := by rw [← hw2]; exact ((Below.refl _ w1).alloc (Nat.le_refl _) _).alloc (by simp) _
 have ba : Box w2 w1.heap.size #[.int .i64 0] := by rw [← hw2]; exact (Box.new w1 _ _).alloc _
 have bb : Box w2 (w1.heap.size + 1) #[.slice none 0 0, .slice (some ⟨w1.heap.size, 0, none⟩) 1 1] := by rw [← hw2]; exact (Box.new (w1.alloc _) _ _).at' (by simp)
 rw [hw2]
 have hm := o_made (hE1.below hy2) (hb1.trans (hy2.mono hb1.size)) (br.below hy2) ba bb
 have d1 := xo_d
 have d2 := xo_b
 clear hw2 ba bb br
 go_wp2_with (first
  | (go_at_call 20; (with_reducible refine hm.mono ?_); rintro e w3 ⟨g, rfl, hk3⟩)
  | (go_at_call 25; (with_reducible refine (hk3.do_ (by decide) [100, 105, 115, 104, 32, 115, 111, 117, 112, 32, 48] (by decide)).mono ?_); rintro e w4 ⟨he4, hk4, _⟩; rw [show doE xo0 [100, 105, 115, 104, 32, 115, 111, 117, 112, 32, 48] = 0 from xo_1] at he4; subst he4; have hk5 : KN w 1 (fun _ => False) g xo1 w4 := hk4; have HD := Lib.hid hk5.dishes; rw [d1] at HD)
  | (go_at_call 47; (with_reducible refine HD.out.mono ?_); rintro e w5 ⟨DA, Dc, rfl, hb5⟩; have hk6 := hk5.below hb5; have HB := Lib.hid hk6.book; rw [d2] at HB)
  | (go_at_call 23; (with_reducible refine HB.out.mono ?_); rintro e w6 ⟨rfl, hb6⟩; have hk7 := hk6.below hb6))
 go_ret2
 exact ⟨⟨g, rfl⟩, hk7.at_⟩
theorem mod_nat (n : Int) (M : Nat) (h : M ≤ 200) : ∃ k : Nat, k ≤ M ∧ RowKit.wrap64 ((IntKind.u64.wrap n).tmod ((M : Int) + 1)) = k := by
 have hu : 0 ≤ IntKind.u64.wrap n := by simp [IntKind.wrap, IntKind.bits, IntKind.signed]; omega
 rw [Int.tmod_eq_emod_of_nonneg hu]
 have h1 := Int.emod_nonneg (IntKind.u64.wrap n) (show (M : Int) + 1 ≠ 0 by omega)
 have h2 := Int.emod_lt_of_pos (IntKind.u64.wrap n) (show 0 < (M : Int) + 1 by omega)
 refine ⟨(IntKind.u64.wrap n % ((M : Int) + 1)).toNat, by omega, ?_⟩
 rw [IntWalk.wrap64_in _ (by omega)]; omega
theorem pread_at {w : World} (hE : EnvA w) (t : Wd) (ls : List Wd) (ht : t.length ≤ 1000000000) (hrd : rd t = (ls, [])) :
  Calls Tryz.prog 32 #[St t] w fun e w' => ∃ A c, e = .returned (.tuple #[.slice A ls.length c, St []]) ∧ OwnS w' w.heap.size A c ls ∧ Below w.heap.size w w' := by
 have := read_any hE.z t ht
 rw [hrd] at this
 exact this
theorem pnew_kn {f : Fi} {w : World} (hf : f.In w) (hl : f.Len) (hE : EnvA w) (hz : f.e = 0) :
  Calls Tryz.prog 20 #[.agg #[.int .i64 f.t.len, .slice f.A1 f.t.rest.length f.c1, .slice f.A2 f.t.clo.length f.c2], .agg #[.int .i64 f.c.n, .int .i64 f.c.f, .int .i64 f.c.k], .agg #[.int .i64 f.b.props, .slice f.B1 f.b.items.length f.d1, .slice f.B2 f.b.rules.length f.d2]] w fun e w' => ∃ g, e = .returned (.tuple #[.pointer (some ⟨g, 0, none⟩), .int .i64 0]) ∧ KN w 0 (fun _ => False) g f.s0 w' := by
 refine (pnew_ok hf hl hE.z.size hz).mono ?_
 rintro e w' ⟨g, h, he, hP, hb⟩
 exact ⟨g, he, _, h, hP, hE.below hb, hb, fun k hk => hk.1, fun _ hz => hz.elim⟩
theorem bok_take {ls : List Wd} {T TK : Wd} {k : Nat} (hT : bokTo ls ls.length = T) (hTK : TK = bokTo ls k) (hk : k ≤ ls.length) : TK.length ≤ T.length ∧ T.take TK.length = TK ∧ (⟨T.toArray⟩ : ByteArray).extract 0 TK.length = ⟨TK.toArray⟩ := by
 have key : ∀ n, ∃ R, bokTo ls (k + n) = bokTo ls k ++ R := by
  intro n
  induction n with
  | zero => exact ⟨[], by simp⟩
  | succ n ih =>
   obtain ⟨R, hR⟩ := ih
   refine ⟨R ++ (ls.getD (k + n) [] ++ [10]), ?_⟩
   show bokTo ls (k + n) ++ (ls.getD (k + n) [] ++ [10]) = _
   rw [hR, List.append_assoc]
 obtain ⟨R, hR⟩ := key (ls.length - k)
 rw [show k + (ls.length - k) = ls.length by omega, hT, ← hTK] at hR
 subst hR
 refine ⟨by simp, by simp, ?_⟩
 simp [ByteArray.extract, ByteArray.copySlice]
set_option maxHeartbeats 6400000 in
theorem pre_TopReplay {f : Fi} {w : World} (hf : f.In w) (hE : EnvA w) (l : List Wd) (A : Option Addr) (c : Nat) (hR : RS w A l) (hll : l.length ≤ 9223372036854775807) (hlw : ∀ k, k < l.length → (l.getD k []).length ≤ 1000000000) (cut : Int) (h : lgT f.t = true ∨ (lgT f.t = false ∧ lgB f.b = true) ∨ (lgT f.t = false ∧ lgB f.b = false ∧ f.e ≠ 0)) :
  Calls Tryz.prog 18 #[.agg f.cells, .slice A l.length c, .int .i64 cut] w fun e w' => e = .returned (.bool true) ∧ Below w.heap.size w w' := by
 unfold Fi.cells
 obtain ⟨w2, hw2⟩ : ∃ w2, w.alloc (.cells #[.int .i64 f.t.len, .slice f.A1 f.t.rest.length f.c1, .slice f.A2 f.t.clo.length f.c2, .int .i64 f.c.n, .int .i64 f.c.f, .int .i64 f.c.k, .int .i64 f.b.props, .slice f.B1 f.b.items.length f.d1, .slice f.B2 f.b.rules.length f.d2] 113) = w2 := ⟨_, rfl⟩
 have hy : Below w.heap.size w w2 := by rw [← hw2]; exact (Below.refl _ w).alloc (Nat.le_refl _) _
 have b0 : Box w2 w.heap.size #[.int .i64 f.t.len, .slice f.A1 f.t.rest.length f.c1, .slice f.A2 f.t.clo.length f.c2, .int .i64 f.c.n, .int .i64 f.c.f, .int .i64 f.c.k, .int .i64 f.b.props, .slice f.B1 f.b.items.length f.d1, .slice f.B2 f.b.rules.length f.d2] := by rw [← hw2]; exact Box.new w _ _
 have HOp := Lib.hid (open_any9 (hE.below hy))
 have HLT := Lib.hid (fun (w' : World) => longT_any f.t f.A1 f.A2 f.c1 f.c2 w')
 have HLB := Lib.hid (fun (w' : World) (hb : Below w2.heap.size w2 w') => longB_any f.b _ f.B1 f.B2 f.d1 f.d2 f.hp f.hq f.hr w' ((hf.below hy).below hb).bk)
 have x0 := b0.cell 0; have x1 := b0.cell 1; have x2 := b0.cell 2; have x3 := b0.cell 3; have x4 := b0.cell 4; have x5 := b0.cell 5; have x6 := b0.cell 6; have x7 := b0.cell 7; have x8 := b0.cell 8; simp only [List.getElem?_toArray, List.getElem?_cons_zero, List.getElem?_cons_succ] at x0 x1 x2 x3 x4 x5 x6 x7 x8
 rcases h with h | ⟨h, h'⟩ | ⟨h, h', hz⟩
 ·rw [h] at HLT
  go_enter Tryz.func18, Tryz.ntmps18
  go_wp2_with (first | (go_at_call 60; (with_reducible refine HOp.out.mono ?_); rintro e w3 ⟨⟨g0, rfl⟩, hb3⟩; have b3 := b0.below hb3; have y0 := b3.cell 0; have y1 := b3.cell 1; have y2 := b3.cell 2; have y3 := b3.cell 3; have y4 := b3.cell 4; have y5 := b3.cell 5; have y6 := b3.cell 6; have y7 := b3.cell 7; have y8 := b3.cell 8; simp only [List.getElem?_toArray, List.getElem?_cons_zero, List.getElem?_cons_succ] at y0 y1 y2 y3 y4 y5 y6 y7 y8) | (go_at_call 61; (with_reducible refine (HLT.out _).mono ?_); rintro e w4 ⟨rfl, hb4⟩; have b4 := b3.below hb4; have hc4 := hb3.trans (hb4.mono hb3.size); have z0 := b4.cell 0; have z1 := b4.cell 1; have z2 := b4.cell 2; have z3 := b4.cell 3; have z4 := b4.cell 4; have z5 := b4.cell 5; have z6 := b4.cell 6; have z7 := b4.cell 7; have z8 := b4.cell 8; simp only [List.getElem?_toArray, List.getElem?_cons_zero, List.getElem?_cons_succ] at z0 z1 z2 z3 z4 z5 z6 z7 z8))
  go_ret
  exact ⟨rfl, hy.trans (hc4.mono hy.size)⟩
 ·rw [h] at HLT
  rw [h'] at HLB
  go_enter Tryz.func18, Tryz.ntmps18
  go_wp2_with (first | (go_at_call 60; (with_reducible refine HOp.out.mono ?_); rintro e w3 ⟨⟨g0, rfl⟩, hb3⟩; have b3 := b0.below hb3; have y0 := b3.cell 0; have y1 := b3.cell 1; have y2 := b3.cell 2; have y3 := b3.cell 3; have y4 := b3.cell 4; have y5 := b3.cell 5; have y6 := b3.cell 6; have y7 := b3.cell 7; have y8 := b3.cell 8; simp only [List.getElem?_toArray, List.getElem?_cons_zero, List.getElem?_cons_succ] at y0 y1 y2 y3 y4 y5 y6 y7 y8) | (go_at_call 61; (with_reducible refine (HLT.out _).mono ?_); rintro e w4 ⟨rfl, hb4⟩; have b4 := b3.below hb4; have hc4 := hb3.trans (hb4.mono hb3.size); have z0 := b4.cell 0; have z1 := b4.cell 1; have z2 := b4.cell 2; have z3 := b4.cell 3; have z4 := b4.cell 4; have z5 := b4.cell 5; have z6 := b4.cell 6; have z7 := b4.cell 7; have z8 := b4.cell 8; simp only [List.getElem?_toArray, List.getElem?_cons_zero, List.getElem?_cons_succ] at z0 z1 z2 z3 z4 z5 z6 z7 z8) | (go_at_call 62; (with_reducible refine (HLB.out _ hc4).mono ?_); rintro e w5 ⟨rfl, hb5⟩; have b5 := b4.below hb5; have hc5 := hc4.trans (hb5.mono hc4.size); have hy5 := hy.trans (hc5.mono hy.size); have v0 := b5.cell 0; have v1 := b5.cell 1; have v2 := b5.cell 2; have v3 := b5.cell 3; have v4 := b5.cell 4; have v5 := b5.cell 5; have v6 := b5.cell 6; have v7 := b5.cell 7; have v8 := b5.cell 8; simp only [List.getElem?_toArray, List.getElem?_cons_zero, List.getElem?_cons_succ] at v0 v1 v2 v3 v4 v5 v6 v7 v8))
  go_ret
  exact ⟨rfl, hy5⟩
 ·rw [h] at HLT
  rw [h'] at HLB
  have hlen := long_len h h'
  have HNW := Lib.hid (fun (w' : World) (hb : Below w.heap.size w w') => pnew_bad (hf.below hb) hlen (hE.below hb).z.size hz)
  have hz' : (f.e != 0) = true := by simpa using hz
  clear hz h h'
  go_enter Tryz.func18, Tryz.ntmps18
  go_wp2_with (first
   | (go_at_call 60; (with_reducible refine HOp.out.mono ?_); rintro e w3 ⟨⟨g0, rfl⟩, hb3⟩; have b3 := b0.below hb3; have y0 := b3.cell 0; have y1 := b3.cell 1; have y2 := b3.cell 2; have y3 := b3.cell 3; have y4 := b3.cell 4; have y5 := b3.cell 5; have y6 := b3.cell 6; have y7 := b3.cell 7; have y8 := b3.cell 8; simp only [List.getElem?_toArray, List.getElem?_cons_zero, List.getElem?_cons_succ] at y0 y1 y2 y3 y4 y5 y6 y7 y8)
   | (go_at_call 61; (with_reducible refine (HLT.out _).mono ?_); rintro e w4 ⟨rfl, hb4⟩; have b4 := b3.below hb4; have hc4 := hb3.trans (hb4.mono hb3.size); have z0 := b4.cell 0; have z1 := b4.cell 1; have z2 := b4.cell 2; have z3 := b4.cell 3; have z4 := b4.cell 4; have z5 := b4.cell 5; have z6 := b4.cell 6; have z7 := b4.cell 7; have z8 := b4.cell 8; simp only [List.getElem?_toArray, List.getElem?_cons_zero, List.getElem?_cons_succ] at z0 z1 z2 z3 z4 z5 z6 z7 z8)
   | (go_at_call 62; (with_reducible refine (HLB.out _ hc4).mono ?_); rintro e w5 ⟨rfl, hb5⟩; have b5 := b4.below hb5; have hc5 := hc4.trans (hb5.mono hc4.size); have hy5 := hy.trans (hc5.mono hy.size); have v0 := b5.cell 0; have v1 := b5.cell 1; have v2 := b5.cell 2; have v3 := b5.cell 3; have v4 := b5.cell 4; have v5 := b5.cell 5; have v6 := b5.cell 6; have v7 := b5.cell 7; have v8 := b5.cell 8; simp only [List.getElem?_toArray, List.getElem?_cons_zero, List.getElem?_cons_succ] at v0 v1 v2 v3 v4 v5 v6 v7 v8)
   | (go_at_call 20; (with_reducible refine (HNW.out _ hy5).mono ?_); rintro e w6 ⟨rfl, hb6⟩))
  go_ret
  exact ⟨rfl, hy5.trans (hb6.mono hy5.size)⟩
set_option maxHeartbeats 6400000 in
theorem main_TopReplay {f : Fi} {w : World} (hf : f.In w) (hE : EnvA w) (l : List Wd) (A : Option Addr) (c : Nat) (hR : RS w A l) (hll : l.length ≤ 9223372036854775807) (hlw : ∀ k, k < l.length → (l.getD k []).length ≤ 1000000000) (cut : Int) (h : lgT f.t = false) (h' : lgB f.b = false) (hz : f.e = 0) :
  Calls Tryz.prog 18 #[.agg f.cells, .slice A l.length c, .int .i64 cut] w fun e w' => e = .returned (.bool true) ∧ Below w.heap.size w w' := by
 unfold Fi.cells
 obtain ⟨w2, hw2⟩ : ∃ w2, w.alloc (.cells #[.int .i64 f.t.len, .slice f.A1 f.t.rest.length f.c1, .slice f.A2 f.t.clo.length f.c2, .int .i64 f.c.n, .int .i64 f.c.f, .int .i64 f.c.k, .int .i64 f.b.props, .slice f.B1 f.b.items.length f.d1, .slice f.B2 f.b.rules.length f.d2] 113) = w2 := ⟨_, rfl⟩
 have hy : Below w.heap.size w w2 := by rw [← hw2]; exact (Below.refl _ w).alloc (Nat.le_refl _) _
 have b0 : Box w2 w.heap.size #[.int .i64 f.t.len, .slice f.A1 f.t.rest.length f.c1, .slice f.A2 f.t.clo.length f.c2, .int .i64 f.c.n, .int .i64 f.c.f, .int .i64 f.c.k, .int .i64 f.b.props, .slice f.B1 f.b.items.length f.d1, .slice f.B2 f.b.rules.length f.d2] := by rw [← hw2]; exact Box.new w _ _
 have HOp := Lib.hid (open_any9 (hE.below hy))
 have HLT := Lib.hid (fun (w' : World) => longT_any f.t f.A1 f.A2 f.c1 f.c2 w')
 have HLB := Lib.hid (fun (w' : World) (hb : Below w2.heap.size w2 w') => longB_any f.b _ f.B1 f.B2 f.d1 f.d2 f.hp f.hq f.hr w' ((hf.below hy).below hb).bk)
 have x0 := b0.cell 0; have x1 := b0.cell 1; have x2 := b0.cell 2; have x3 := b0.cell 3; have x4 := b0.cell 4; have x5 := b0.cell 5; have x6 := b0.cell 6; have x7 := b0.cell 7; have x8 := b0.cell 8; simp only [List.getElem?_toArray, List.getElem?_cons_zero, List.getElem?_cons_succ] at x0 x1 x2 x3 x4 x5 x6 x7 x8
 rw [h] at HLT
 rw [h'] at HLB
 have hlen := long_len h h'
 have HNW := Lib.hid (fun (w' : World) (hb : Below w.heap.size w w') => pnew_kn (hf.below hb) hlen (hE.below hb) hz)
 have HNW2 := HNW
 have HLW := Lib.hid hlw
 have hT : TmOk f.t := (newE_ok hz).1
 obtain ⟨tn, htn⟩ : ∃ tn : Nat, f.t.len = tn := ⟨f.t.len.toNat, by have := hT.len1; omega⟩
 have htl : tn ≤ 1000 := by have := hT.len2; omega
 obtain ⟨dn, hdn⟩ : ∃ dn : Nat, dn = min tn 30 := ⟨_, rfl⟩
 have hdn1 : dn ≤ 1000 := by omega
 have hmin : min f.t.len 30 = (dn : Int) := by rw [htn]; omega
 have HMIN := Lib.hid hmin
 obtain ⟨m, hm⟩ : ∃ m, m = min l.length 40 := ⟨_, rfl⟩
 have hm1 : m ≤ l.length ∧ m ≤ 40 := by omega
 have hm2 : m = l.length ∨ (m = 40 ∧ 40 < l.length) := by omega
 have HM := Lib.hid hm2
 have HZ := Lib.hid hz
 clear hz h h' hlw hm hm2 hdn htn hT hmin
 go_enter Tryz.func18, Tryz.ntmps18
 go_wp2_with (first
   | (go_at_call 60; (with_reducible refine HOp.out.mono ?_); rintro e w3 ⟨⟨g0, rfl⟩, hb3⟩; have b3 := b0.below hb3; have y0 := b3.cell 0; have y1 := b3.cell 1; have y2 := b3.cell 2; have y3 := b3.cell 3; have y4 := b3.cell 4; have y5 := b3.cell 5; have y6 := b3.cell 6; have y7 := b3.cell 7; have y8 := b3.cell 8; simp only [List.getElem?_toArray, List.getElem?_cons_zero, List.getElem?_cons_succ] at y0 y1 y2 y3 y4 y5 y6 y7 y8)
   | (go_at_call 61; (with_reducible refine (HLT.out _).mono ?_); rintro e w4 ⟨rfl, hb4⟩; have b4 := b3.below hb4; have hc4 := hb3.trans (hb4.mono hb3.size); have z0 := b4.cell 0; have z1 := b4.cell 1; have z2 := b4.cell 2; have z3 := b4.cell 3; have z4 := b4.cell 4; have z5 := b4.cell 5; have z6 := b4.cell 6; have z7 := b4.cell 7; have z8 := b4.cell 8; simp only [List.getElem?_toArray, List.getElem?_cons_zero, List.getElem?_cons_succ] at z0 z1 z2 z3 z4 z5 z6 z7 z8)
   | (go_at_call 62; (with_reducible refine (HLB.out _ hc4).mono ?_); rintro e w5 ⟨rfl, hb5⟩; have b5 := b4.below hb5; have hc5 := hc4.trans (hb5.mono hc4.size); have hy5 := hy.trans (hc5.mono hy.size); have v0 := b5.cell 0; have v1 := b5.cell 1; have v2 := b5.cell 2; have v3 := b5.cell 3; have v4 := b5.cell 4; have v5 := b5.cell 5; have v6 := b5.cell 6; have v7 := b5.cell 7; have v8 := b5.cell 8; simp only [List.getElem?_toArray, List.getElem?_cons_zero, List.getElem?_cons_succ] at v0 v1 v2 v3 v4 v5 v6 v7 v8)
   | (go_at_call 20; (with_reducible refine (HNW.out _ hy5).mono ?_); rintro e w6 ⟨g, rfl, hk6⟩))
 clear x0 x1 x2 x3 x4 x5 x6 x7 x8 y0 y1 y2 y3 y4 y5 y6 y7 y8 z0 z1 z2 z3 z4 z5 z6 z7 z8 v0 v1 v2 v3 v4 v5 v6 v7 v8 HOp HLT HLB HNW hb3 hb4 hb5 hc4 hc5 hw2
 go_loopw [11] (fun v wr => ∃ k : Nat, k ≤ m ∧ v = .int .i64 k ∧ KN w5 k (fun _ => False) g (runTo f.s0 l k) wr) (fun v _ => m - (intOf v).toNat)
 case atStart => exact ⟨0, by omega, rfl, by rw [runTo_zero]; exact hk6⟩
 case round =>
  clear hk6
  obtain ⟨k, hk, rfl, hkn⟩ := hrel
  by_cases hlt : k < m
  ·obtain ⟨ad, rfl, hab, c0⟩ := (hR.below hy5).at_ (k := k) (by omega)
   have htl := HLW.out k (by omega)
   have hrt := runTo_succ f.s0 l (k := k) (by omega)
   rw [nil_getD (by omega)] at htl hrt
   obtain ⟨tx, htx⟩ : ∃ tx, tx = l[k]'(by omega) := ⟨_, rfl⟩
   rw [← htx] at c0 htl hrt
   obtain ⟨sk, hsk⟩ : ∃ sk, sk = runTo f.s0 l k := ⟨_, rfl⟩
   rw [← hsk] at hkn hrt
   have HRT := Lib.hid hrt
   have HSK := Lib.hid hsk
   clear htx hsk hrt
   have q0 := (hkn.at_.cell (by exact hab)).trans c0
   have HD := Lib.hid (hkn.do_ (by omega) tx (by omega))
   go_wp2_with (go_at_call 25; (with_reducible refine HD.out.mono ?_); rintro e w9 ⟨rfl, hk9, _⟩)
   rw [← HRT.out] at hk9
   go_roundw
   case rel => exact ⟨k + 1, by omega, by go_num, hk9⟩
   case measure => simp [intOf]; omega
  ·obtain rfl : k = m := by omega
   obtain ⟨S, hS⟩ : ∃ S, S = runTo f.s0 l k := ⟨_, rfl⟩
   rw [← hS] at hkn
   obtain ⟨hso2, hro, hrs⟩ := replay_facts (ls := l.take k) hS HZ.out
   have hist : Hist S := by rw [hS]; exact hist_run _ _ (Hist.new _ _ _)
   obtain ⟨hrd, hbl⟩ := rd_take hso2 _ (Nat.le_refl _)
   rw [List.take_length] at hrd
   have hol := hso2.ol
   obtain ⟨ls, hls⟩ : ∃ ls, ls = S.orders := ⟨_, rfl⟩
   obtain ⟨T, hTT⟩ : ∃ T, T = bok S := ⟨_, rfl⟩
   have hT2 : bokTo S.orders S.orders.length = T := by rw [hTT]; rfl
   rw [hT2] at hrd hbl
   rw [← hls] at hro hrs hrd hbl hol
   have hline := fun (i : Nat) (hi : i < ls.length) => show (ls.getD i []).length ≤ 60 by have := rd_line T (k := i); rw [hrd] at this; exact this hi
   have HLI := Lib.hid hline
   have HTK := Lib.hid (fun (j : Nat) (hj : j ≤ ls.length) => by have := rd_take hso2 j (by rw [← hls]; exact hj); rw [← hls] at this; exact this)
   have HOT := Lib.hid (fun (j : Nat) (hj : j ≤ ls.length) => okTo_take f.s0 ls hro j hj)
   have HOK := Lib.hid ((okTo_iff _ _ _).1 hro)
   have HBK := Lib.hid hkn.book
   rw [← hTT] at HBK
   have HRD := Lib.hid (fun (w' : World) (hb : Below w.heap.size w w') => pread_at (hE.below hb) T ls (by omega) hrd)
   have HRS := Lib.hid hrs
   have HT2 := Lib.hid (show bokTo ls ls.length = T by rw [hls]; exact hT2)
   have HIST := Lib.hid hist
   have hyo := hy5.trans (hkn.at_.mono hy5.size)
   have bo := b5.keep hkn.at_ b5.lt
   have HKN := Lib.hid hkn
   clear hS hro hrs hrd hls hTT hT2 hline hist hso2 hkn
   obtain ⟨wo, rfl⟩ : ∃ wo : World, wo = wr := ⟨_, rfl⟩
   have htx : k < l.length ∨ ¬ k < l.length := Decidable.em _
   rcases htx with hc | hc
   all_goals
    (try (have h30 : 40 ≤ k := by have := HM.out; omega))
    go_wp2_with (first
     | (go_at_call 23; (with_reducible refine HBK.out.mono ?_); rintro e w7 ⟨rfl, hb7⟩; have hy7 := hyo.trans (hb7.mono hyo.size))
     | (go_at_call 32; (with_reducible refine (HRD.out _ hy7).mono ?_); rintro e w8 ⟨RA, rc, rfl, ownR, hb8⟩; have hc8 := hb7.trans (hb8.mono hb7.size); have hy8 := hyo.trans (hc8.mono hyo.size); have b8 := bo.below hc8; have r0 := b8.cell 0; have r1 := b8.cell 1; have r2 := b8.cell 2; have r3 := b8.cell 3; have r4 := b8.cell 4; have r5 := b8.cell 5; have r6 := b8.cell 6; have r7 := b8.cell 7; have r8 := b8.cell 8; simp only [List.getElem?_toArray, List.getElem?_cons_zero, List.getElem?_cons_succ] at r0 r1 r2 r3 r4 r5 r6 r7 r8))
    rw [HMIN.out]
    obtain ⟨k0, hk0, ek0⟩ := mod_nat cut ls.length (by omega)
    rw [ek0]
    clear ek0
    obtain ⟨hrd0, hbl0⟩ := HTK.out k0 hk0
    have hok0 := HOT.out k0 hk0
    have hl0 : (ls.take k0).length = k0 := by rw [List.length_take]; omega
    have rsA := RS.of_own ownR
    have HKL := Lib.hid (fun (j : Nat) (hj : j ≤ ls.length) => (HTK.out j hj).2)
    obtain ⟨TK, hTK⟩ : ∃ TK, TK = bokTo ls k0 := ⟨_, rfl⟩
    have hpre := bok_take (ls := ls) (T := T) (TK := TK) HT2.out hTK hk0
    obtain ⟨l0, hl00⟩ : ∃ l0, l0 = ls.take k0 := ⟨_, rfl⟩
    rw [← hl00] at hl0 hrd0 hok0
    rw [← hTK] at hrd0 hbl0
    have hok1 : okTo f.s0 l0 l0.length = true := by rw [hl0]; exact hok0
    have HPR2 := Lib.hid (fun (w' : World) (hb : Below w.heap.size w w') => preplay_at (hf.below hb) hlen (hE.below hb) HZ.out TK l0 (by omega) hrd0 hok1)
    have hst0 : runS f.s0 l0 = runTo f.s0 ls k0 := by rw [hl00]; rfl
    rw [hl0, hst0] at HPR2
    have HTK0 := Lib.hid hTK
    have HPRE := Lib.hid hpre
    clear hrd0 hok0 hok1 hl00 hTK hst0 hl0 HRD HBK HTK HOT ownR hpre r0 r1 r2 r3 r4 r5 r6 r7 r8 hb7 hb8
    obtain ⟨wo2, hwo2⟩ : ∃ wo2 : World, wo2 = w8 := ⟨_, rfl⟩
    go_loopw [17, 18] (fun tx v wr => ∃ j : Nat, j ≤ k0 ∧ v = .int .i64 j ∧ tx = St (bokTo ls j) ∧ Below w8.heap.size w8 wr) (fun _ v _ => k0 - (intOf v).toNat)
    case atStart => exact ⟨0, by omega, rfl, rfl, Below.refl _ _⟩
    case round =>
     obtain ⟨j, hj, rfl, rfl, hb⟩ := hrel
     by_cases hlt : j < k0
     ·obtain ⟨ad, rfl, hab, c0⟩ := (rsA.below hb).at_ (k := j) (by omega)
      have hst : bokTo ls (j + 1) = bokTo ls j ++ (ls[j]'(by omega) ++ [10]) := by rw [← nil_getD (by omega)]; rfl
      have hln := HKL.out (j + 1) (by omega)
      obtain ⟨tx, htx⟩ : ∃ tx, tx = ls[j]'(by omega) := ⟨_, rfl⟩
      rw [← htx] at c0 hst
      rw [hst] at hln
      obtain ⟨P, hP⟩ : ∃ P, P = bokTo ls j := ⟨_, rfl⟩
      rw [← hP] at hst hln ⊢
      have HST := Lib.hid hst
      have hcat1 : (⟨tx.toArray⟩ : ByteArray) ++ ⟨#[10]⟩ = ⟨(tx ++ [10]).toArray⟩ := st_app tx [10]
      have hcat2 : (⟨P.toArray⟩ : ByteArray) ++ ⟨(tx ++ [10]).toArray⟩ = ⟨(P ++ (tx ++ [10])).toArray⟩ := st_app P (tx ++ [10])
      simp only [List.length_append, List.length_cons, List.length_nil] at hln
      have hsum1 : ¬ 9223372036854775807 < tx.length + 1 := by omega
      have hsum2 : ¬ 9223372036854775807 < P.length + (tx.length + 1) := by omega
      have hsum3 : ¬ 9223372036854775807 < P.length + (tx ++ [10]).length := by simp; omega
      clear htx hst hP
      go_wp2_with fail
      go_roundw
      case rel => exact ⟨j + 1, by omega, by go_num, by rw [HST.out], hb⟩
      case measure => simp [intOf]; omega
     ·obtain rfl : j = k0 := by omega
      rw [← HTK0.out]
      obtain ⟨wx, rfl⟩ : ∃ wx : World, wx = wr := ⟨_, rfl⟩
      have hyr := hy8.trans (hb.mono hy8.size)
      have br := b8.below hb
      have hkr := HKN.out.below (hc8.trans (hb.mono hc8.size))
      have hrsx := rsA.below hb
      obtain ⟨hp1, hp2, hp3⟩ := HPRE.out
      have n1 : ((j : Int) != (j : Int)) = false := by simp
      have n2 : decide ((T.length : Int) < (TK.length : Int)) = false := by rw [decide_eq_false_iff_not]; omega
      have n3 : decide (T.length < TK.length) = false := by rw [decide_eq_false_iff_not]; omega
      have m0 := br.cell 0; have m1 := br.cell 1; have m2 := br.cell 2; have m3 := br.cell 3; have m4 := br.cell 4; have m5 := br.cell 5; have m6 := br.cell 6; have m7 := br.cell 7; have m8 := br.cell 8; simp only [List.getElem?_toArray, List.getElem?_cons_zero, List.getElem?_cons_succ] at m0 m1 m2 m3 m4 m5 m6 m7 m8
      go_wp2_with (first
       | (go_at_call 55; (with_reducible refine (HPR2.out _ hyr).mono ?_); rintro e w9 ⟨ga, rfl, hkA⟩; have b9 := br.below hkA.at_; have hy9 := hyr.trans (hkA.at_.mono hyr.size); have s0 := b9.cell 0; have s1 := b9.cell 1; have s2 := b9.cell 2; have s3 := b9.cell 3; have s4 := b9.cell 4; have s5 := b9.cell 5; have s6 := b9.cell 6; have s7 := b9.cell 7; have s8 := b9.cell 8; simp only [List.getElem?_toArray, List.getElem?_cons_zero, List.getElem?_cons_succ] at s0 s1 s2 s3 s4 s5 s6 s7 s8)
       | (go_at_call 20; (with_reducible refine (HNW2.out _ hy9).mono ?_); rintro e w10 ⟨gb, rfl, hkB⟩))
      have hTN : TN w5 wx k j 0 g ga gb S (runTo f.s0 ls j) f.s0 w10 := TN.make hkr hkA hkB
      have hEND : runTo f.s0 ls ls.length = S := (runTo_all _ _).trans HRS.out
      have HEND := Lib.hid hEND
      clear hkA hkB hkr m0 m1 m2 m3 m4 m5 m6 m7 m8 s0 s1 s2 s3 s4 s5 s6 s7 s8 n1 n2 hp1 hp2 hp3 HPR2 HNW2 hEND b9 br
      go_loopw [24] (fun v wr => ∃ i : Nat, i ≤ ls.length ∧ v = .int .i64 i ∧ TN w5 wx k (j + (i - j)) i g ga gb S (runTo f.s0 ls (max i j)) (runTo f.s0 ls i) wr) (fun v _ => ls.length - (intOf v).toNat)
      case atStart => exact ⟨0, by omega, rfl, by rw [runTo_zero]; simpa using hTN⟩
      case round =>
       clear hTN
       obtain ⟨i, hi, rfl, hT⟩ := hrel
       by_cases hil : i < ls.length
       ·obtain ⟨ad, rfl, hab, c0⟩ := hrsx.at_ (k := i) hil
        have hln := HLI.out i hil
        have hrt := runTo_succ f.s0 ls (k := i) hil
        have hd0 := HOK.out i hil
        rw [nil_getD hil] at hln hrt hd0
        obtain ⟨tx, htx⟩ : ∃ tx, tx = ls[i]'hil := ⟨_, rfl⟩
        rw [← htx] at c0 hln hrt hd0
        have q0 := (hT.bel.cell (by exact hab)).trans c0
        have C0 := Lib.hid c0
        by_cases h1 : i < j
        ·have g1 : ((i : Int) == (j : Int)) = false := by rw [beq_eq_false_iff_ne]; omega
         have g2 : decide ((j : Int) ≤ (i : Int)) = false := by rw [decide_eq_false_iff_not]; omega
         have e1 : j + (i + 1 - j) = j + (i - j) := by omega
         have e2 : max (i + 1) j = max i j := by omega
         have hd3 := hT.do3 (by omega) tx (by omega)
         rw [hd0, ← hrt] at hd3
         have HD3 := Lib.hid hd3
         have HE1 := Lib.hid e1; have HE2 := Lib.hid e2
         clear hd3 htx hrt hd0 e1 e2 c0
         go_wp2_with (go_at_call 25; (with_reducible refine HD3.out.mono ?_); rintro e wA ⟨rfl, hA⟩)
         go_roundw
         case rel => exact ⟨i + 1, by omega, by go_num, by rw [HE1.out, HE2.out]; exact hA⟩
         case measure => simp [intOf]; omega
        ·have e1 : j + (i + 1 - j) = j + (i - j) + 1 := by omega
         have e2 : max (i + 1) j = i + 1 := by omega
         have e3 : max i j = i := by omega
         rw [e3] at hT
         have HE1 := Lib.hid e1; have HE2 := Lib.hid e2
         have g2 : decide ((j : Int) ≤ (i : Int)) = true := by rw [decide_eq_true_eq]; omega
         have HD3 := Lib.hid (fun (w' : World) (hT : TN w5 wx k (j + (i - j)) i g ga gb S (runTo f.s0 ls i) (runTo f.s0 ls i) w') => hT.do3z (by omega) tx (by omega) hd0 hrt)
         have HD2 := Lib.hid (fun (w' : World) (hT : TN w5 wx k (j + (i - j)) (i + 1) g ga gb S (runTo f.s0 ls i) (runTo f.s0 ls (i + 1)) w') => hT.do2z (by omega) tx (by omega) hd0 hrt)
         clear htx hrt hd0 e1 e2 e3 c0
         by_cases h2 : i = j
         ·have g1 : ((i : Int) == (j : Int)) = true := by simp [h2]
          have HAL := Lib.hid (hT.alike23 dn hdn1)
          clear h2
          go_wp2_with (go_at_call 63; (with_reducible refine HAL.out.mono ?_); rintro e wA ⟨rfl, hbA⟩; have hA := hT.below hbA; have q1 := (hA.bel.cell (by exact hab)).trans C0.out)
          go_wp2_with (go_at_call 25; (with_reducible refine (HD3.out _ hA).mono ?_); rintro e wB ⟨rfl, hB⟩; have q2 := (hB.bel.cell (by exact hab)).trans C0.out)
          go_wp2_with (go_at_call 25; (with_reducible refine (HD2.out _ hB).mono ?_); rintro e wC ⟨rfl, hC⟩)
          go_roundw
          case rel => exact ⟨i + 1, by omega, by go_num, by rw [HE1.out, HE2.out]; exact hC⟩
          case measure => simp [intOf]; omega
         ·have g1 : ((i : Int) == (j : Int)) = false := by rw [beq_eq_false_iff_ne]; omega
          clear h2
          go_wp2_with (go_at_call 25; (with_reducible refine (HD3.out _ hT).mono ?_); rintro e wB ⟨rfl, hB⟩; have q2 := (hB.bel.cell (by exact hab)).trans C0.out)
          go_wp2_with (go_at_call 25; (with_reducible refine (HD2.out _ hB).mono ?_); rintro e wC ⟨rfl, hC⟩)
          go_roundw
          case rel => exact ⟨i + 1, by omega, by go_num, by rw [HE1.out, HE2.out]; exact hC⟩
          case measure => simp [intOf]; omega
       ·obtain rfl : i = ls.length := by omega
        rw [Nat.max_eq_left hk0, HEND.out] at hT
        have HA1 := Lib.hid (hT.alike21 dn hdn1)
        go_wp2_with (go_at_call 63; (with_reducible refine HA1.out.mono ?_); rintro e wA ⟨rfl, hbA⟩; have hA := hT.below hbA; have HA2 := Lib.hid (hA.alike31 dn hdn1))
        go_wp2_with (go_at_call 63; (with_reducible refine HA2.out.mono ?_); rintro e wB ⟨rfl, hbB⟩; have hB := hA.below hbB; have HA3 := Lib.hid (hB.kn1.audit HIST.out))
        go_wp2_with (go_at_call 57; (with_reducible refine HA3.out.mono ?_); rintro e wC ⟨rfl, hbC⟩; have hC := hB.below hbC)
        go_ret
        exact ⟨rfl, hy5.trans (hC.bel0.mono hy5.size)⟩
theorem topReplay_any {f : Fi} {w : World} (hf : f.In w) (hE : EnvA w) (l : List Wd) (A : Option Addr) (c : Nat) (hR : RS w A l) (hll : l.length ≤ 9223372036854775807) (hlw : ∀ k, k < l.length → (l.getD k []).length ≤ 1000000000) (cut : Int) :
  Calls Tryz.prog 18 #[.agg f.cells, .slice A l.length c, .int .i64 cut] w fun e w' => e = .returned (.bool true) ∧ Below w.heap.size w w' := by
 cases h : lgT f.t with
 | true => exact pre_TopReplay hf hE l A c hR hll hlw cut (.inl h)
 | false =>
  cases h' : lgB f.b with
  | true => exact pre_TopReplay hf hE l A c hR hll hlw cut (.inr (.inl ⟨h, h'⟩))
  | false =>
   by_cases hz : f.e = 0
   ·exact main_TopReplay hf hE l A c hR hll hlw cut h h' hz
   ·exact pre_TopReplay hf hE l A c hR hll hlw cut (.inr (.inr ⟨h, h', hz⟩))
end Go.Proofs.YtiapkffihpgdcaaGreatDoor
namespace Go.Proofs.YtiapkffihpgdcaaGreatDoor
open Go.ChangeShapes Go.WideShapes Go.ChangeAt Go.RowKit Go.Deep Go.Joins
section
variable {H : Type} {enc : TypeId × Value → H} {W : World}
theorem bulk_part {d : DataW H} {l : List (DataW H)} (h : d ∈ l) : Rows.uptoBulk d ≤ Rows.uptoBulkAll l := by
 induction l with
 | nil => cases h
 | cons x r ih =>
  simp only [Rows.uptoBulkAll]
  cases List.mem_cons.1 h with
  | inl e => subst e; omega
  | inr e => have := ih e; omega
theorem bulk_elem {d : DataW H} {l r : List (DataW H)} (h : d ∈ l) : Rows.uptoBulk d ≤ Rows.uptoBulk (.slice l r) := by
 have := bulk_part h
 simp only [Rows.uptoBulk]; omega
theorem bulk_orders {l : List Wd} {A : Option Addr} {c : Nat} {d : DataW H} {p : List MemPlace} (h : DataW.Trod enc Tryz.prog W 0 (fun _ => true) true 33 (.slice A l.length c) d p) (hR : RS W A l) :
  ∀ k, k < l.length → (l.getD k []).length ≤ Rows.uptoBulk d := by
 intro k hk
 obtain ⟨fuel, hf⟩ := h
 rcases open_strs Tryz.underlying33 Tryz.underlying9 (by kernel_rfl) hf with ⟨hcs, -⟩ | ⟨a, len, cap, m, Sx, hcs, -, hl, -, hm, hx, hi⟩
 ·have hcs' : Value.slice A l.length c = .slice none 0 0 := by simpa [Value.cells] using hcs
  simp only [Value.slice.injEq] at hcs'
  omega
 ·have hcs' : Value.slice A l.length c = .slice (some a) len cap := by simpa [Value.cells] using hcs
  simp only [Value.slice.injEq] at hcs'
  obtain ⟨rfl, rfl, -⟩ := hcs'
  simp only [if_true] at hm
  obtain ⟨ad, ea, -, c0⟩ := hR.at_ hk
  obtain rfl := Option.some.inj ea
  have h1 := (hi k (by omega)).1
  have h2 := Option.some.inj (h1.symm.trans c0)
  have h3 : (Sx k).data.toList = l[k] := by
   simp only [St, Value.string.injEq] at h2
   rw [h2]
  have m1 : (DataW.lit (H := H) (.string (Sx k).data.toList)) ∈ (List.range l.length).map fun i => DataW.lit (H := H) (.string (Sx i).data.toList) := List.mem_map.2 ⟨k, List.mem_range.2 hk, rfl⟩
  have b1 := bulk_elem (r := (List.range (m - l.length)).map fun j => DataW.lit (H := H) (.string (Sx (l.length + j)).data.toList)) m1
  have e1 : d = .slice ((List.range l.length).map fun i => .lit (.string (Sx i).data.toList)) ((List.range (m - l.length)).map fun j => .lit (.string (Sx (l.length + j)).data.toList)) := by
   have := congrArg Prod.fst hx; exact this
  rw [e1]
  refine Nat.le_trans ?_ b1
  rw [h3, nil_getD hk]
  simp only [Rows.uptoBulk]
  omega
theorem bulk_of {l : List (DataW H)} (hk : Rows.uptoSmall H l = true) : Rows.uptoBulkAll l ≤ 1048576 := of_decide_eq_true hk
theorem bulk_in {l : List (DataW H)} (hk : Rows.uptoSmall H l = true) {d : DataW H} (h : d ∈ l) : Rows.uptoBulk d ≤ 1048576 := Nat.le_trans (bulk_part h) (bulk_of hk)
theorem witness_cond {C : Checked} {os : Os} {f : FuncId} {fn : Func} {s : OpenSpec} {conds : List PathCond} {apart : Bool} {laid : List (String × DataW Unit)} (w0 : World) (args : Array Value) (hos : w0.os = os)
  (hsh : (w0.forCall (fun _ _ => 0) ⟨#[], args, []⟩).Shaped C.prog)
  (hok : Input.okWideB C.prog (w0.forCall (fun _ _ => 0) ⟨#[], args, []⟩) f ⟨#[], args, []⟩ = true)
  (hrow : s.preRow enc C.prog fn conds apart laid (w0.forCall (fun _ _ => 0) ⟨#[], args, []⟩).memory args) :
  ∃ (w : World) (tape : Tape) (i : Input), w.os = os ∧ (w.forCall tape i).Shaped C.prog ∧ i.vars = [] ∧ Input.okWide C.prog (w.forCall tape i) .any w.heap.size f i ∧
   s.preRow enc C.prog fn conds apart laid (w.forCall tape i).memory i.args ∧ ({} : Assume).holds C.prog (lone (Frame.enter C.prog f i.args .normal) [] (w.forCall tape i)) :=
 ⟨w0, fun _ _ => 0, ⟨#[], args, []⟩, hos, hsh, (Input.okWide_of_okWideB (base := 0) hok).1, (Input.okWide_of_okWideB hok).2, hrow, by
  simp only [Assume.holds]
  exact ⟨by simp, by simp, fun _ => Modest.zero, by simp, by simp⟩⟩
end
section
variable {H : Type} {enc : TypeId × Value → H} {W : World}
/-- A place that comes in. -/
theorem open_place {v : Value} {d : DataW H} {p : List MemPlace} {r : Reach} {b0 : Nat} (hok : Value.okWide Tryz.prog W r b0 113 v) (h : DataW.Trod enc Tryz.prog W 0 (fun _ => true) true 113 v d p) :
  ∃ f : Fi, v = .agg f.cells ∧ f.In W := by
 obtain ⟨cs, rfl, hsz⟩ := okWide_struct Tryz.underlying113 hok
 obtain ⟨l⟩ := cs
 have hC : Tryz.prog.cellsOf 113 = 9 := by kernel_rfl
 have h1 : Tryz.prog.cellsOf 24 = 3 := by kernel_rfl
 have h2 : Tryz.prog.cellsOf 26 = 3 := by kernel_rfl
 have h3 : Tryz.prog.cellsOf 30 = 3 := by kernel_rfl
 match l, hsz.trans hC with
 | [v0, v1, v2, v3, v4, v5, v6, v7, v8], _ =>
  obtain ⟨fuel, hf0⟩ := h
  obtain ⟨xs, n, -, -, -, hxl, hf⟩ := DataW.trod_struct Tryz.underlying113 hf0
  match xs, hxl with
  | [y0, y1, y2], _ =>
   have f0 : DataW.trod enc Tryz.prog W 0 (fun _ => true) true n 24 [v0, v1, v2] = some y0 := by have := hf 0 _ rfl; simpa [h1, h2, h3, Value.cells] using this
   have f1 : DataW.trod enc Tryz.prog W 0 (fun _ => true) true n 26 [v3, v4, v5] = some y1 := by have := hf 1 _ rfl; simpa [h1, h2, h3, Value.cells] using this
   have f2 : DataW.trod enc Tryz.prog W 0 (fun _ => true) true n 30 [v6, v7, v8] = some y2 := by have := hf 2 _ rfl; simpa [h1, h2, h3, Value.cells] using this
   obtain ⟨t, A1, A2, c1, c2, e0, g1, g2⟩ := cells_term f0
   obtain ⟨c, e1⟩ := cells_cycle9 f1
   obtain ⟨b, B1, B2, d1, d2, hp, hq, hr, e2, g3⟩ := cells_book f2
   simp only [List.cons.injEq, and_true] at e0 e1 e2
   obtain ⟨rfl, rfl, rfl⟩ := e0
   obtain ⟨rfl, rfl, rfl⟩ := e1
   obtain ⟨rfl, rfl, rfl⟩ := e2
   exact ⟨⟨t, c, b, A1, A2, B1, B2, c1, c2, d1, d2, hp, hq, hr⟩, rfl, ⟨g1, g2, g3⟩⟩
end
theorem topReplay_env {W : World} (hL : laidMetH Tryz.prog Rows.topReplayUptoRow.laid W) (hs : W.ShapedOpen Tryz.prog) : EnvA W := by
 obtain ⟨h1, h2⟩ := plain_met (Lp := plainL) (by kernel_rfl) (by kernel_rfl) hL
 exact env_of h1 (by simp [plainL]) (by simp [plainL]) h2 hs
theorem topReplay_reads (os : Os) {H : Type} (enc : TypeId × Value → H) : DataW.whole enc Tryz.prog ((witW os plainL).forCall (fun _ _ => 0) ⟨#[], #[.agg #[.int .i64 0, .slice none 0 0, .slice none 0 0, .int .i64 0, .int .i64 0, .int .i64 0, .int .i64 0, .slice none 0 0, .slice none 0 0], .slice none 0 0, .int .i64 0], []⟩).memory Tryz.f18.params.toList Rows.topReplaySpec.vars false #[.agg #[.int .i64 0, .slice none 0 0, .slice none 0 0, .int .i64 0, .int .i64 0, .int .i64 0, .int .i64 0, .slice none 0 0, .slice none 0 0], .slice none 0 0, .int .i64 0].toList 8 = some ([.agg [.agg [.lit (.int .i64 0), .nil, .nil], .agg [.lit (.int .i64 0), .lit (.int .i64 0), .lit (.int .i64 0)], .agg [.lit (.int .i64 0), .nil, .nil]], .nil, .lit (.int .i64 0)], [], []) := by kernel_rfl
theorem topReplay_lifted (os : Os) (started : os.Started) (H : Type) (enc : TypeId × Value → H) (F : Stop.Interp) :
  ReturnsInHanded {} Tryz.checked os 18 .any ((Rows.OpenSpec.upto Rows.topReplaySpec).preRow enc Tryz.prog Tryz.f18 Rows.topReplayUptoRow.domain false Rows.topReplayUptoRow.laid) (((Rows.OpenSpec.upto Rows.topReplaySpec).at F).post enc Tryz.prog Tryz.f18 false true false false) := by
 refine returnsInHanded_of_row (C := Tryz.checked) (s := Rows.OpenSpec.upto Rows.topReplaySpec) own_ started (by kernel_rfl) Tryz.func18
  (witness_cond (enc := enc) (C := Tryz.checked) (witW os plainL) #[.agg #[.int .i64 0, .slice none 0 0, .slice none 0 0, .int .i64 0, .int .i64 0, .int .i64 0, .int .i64 0, .slice none 0 0, .slice none 0 0], .slice none 0 0, .int .i64 0] (by unfold witW; rw [World.layVars_os]; rfl)
   (World.shaped_of_ZipB (by kernel_rfl) (by kernel_rfl)) (by kernel_rfl)
   (OpenSpec.preRow_of_cond 8 (topReplay_reads os enc) (by kernel_rfl) (fun k hk => by cases hk; kernel_rfl) (by kernel_rfl)
    (laidMetH_of_parts (by rw [show (Rows.topReplayUptoRow.laid.filter fun x => x.2.handleName?.isNone) = plainL by kernel_rfl]; exact witW_met _ (by kernel_rfl) (by kernel_rfl)) (by kernel_rfl)))) ?_
 intro W base args ds gs before hval0 hW _ hcond _ hL hS _
 have hval : ∀ (j : Nat) t v, Tryz.f18.params[j]? = some t → args[j]? = some v → Value.okWide Tryz.prog W .any base t v := hval0
 have hW' := hW
 obtain ⟨p, q, hA0, hV, rfl, hfz, hnd⟩ := hW
 have hA : DataW.TrodAll enc Tryz.prog W 0 (fun _ => true) true Tryz.f18.params.toList args.toList ds p := hA0
 rw [Tryz.params18] at hA hval
 obtain ⟨v0, v1, v2, d0, d1, d2, p0, p1, p2, rfl, rfl, rfl, h0, h1, h2⟩ := trodAll_three hA
 have hsm : Rows.uptoSmall H (_ ++ gs) = true := hcond _ rfl
 obtain ⟨f, rfl, hf⟩ := open_place (hval 0 _ v0 rfl rfl) h0
 obtain ⟨l, A, c, rfl, hrs, hll, -⟩ := open_orders (hval 1 _ v1 rfl rfl) h1
 have hlk : ∀ k, k < l.length → (l.getD k []).length ≤ 1000000000 := fun k hk => by have := bulk_orders h1 hrs k hk; have := bulk_in hsm (d := d1) (by simp); omega
 obtain ⟨n2, rfl, -, -, wn2⟩ := Go.ChangeShapes.open_int Tryz.underlying3 (hval 2 _ v2 rfl rfl) h2
 refine (topReplay_any hf (topReplay_env hL hS) l A c hrs hll hlk n2).mono fun e W' ⟨he, hb⟩ => ?_
 subst he
 exact ⟨_, rfl, law_post (s := Rows.topReplaySpec) hW' rfl (by kernel_rfl) rfl (by rw [Tryz.params18]; intro t ht; simp at ht; rcases ht with rfl | rfl | rfl <;> exact ⟨by kernel_rfl, of_decide_eq_true (by kernel_rfl)⟩) hb⟩
set_option maxHeartbeats 4000000 in
theorem topReplay_closed : joinedFacts Tryz.prog 18 Tryz.f18 Rows.topReplaySpec Rows.topReplayUptoRow = true := by
 unfold joinedFacts
 simp only [Bool.and_eq_true]
 repeat' apply And.intro
 all_goals (as_aux_lemma => kernel_rfl)
set_option maxHeartbeats 4000000 in
theorem topReplay_wrap : Tryz.f18.isWrapper Tryz.prog Rows.topReplayUptoRow.wrapper Rows.topReplayUptoRow.mainSum := by
 unfold Func.isWrapper; first | (rw [if_pos (by decide +kernel)]; kernel_rfl) | (rw [if_neg (by decide +kernel)]; exact ⟨rfl, rfl⟩)
theorem topReplay_named : Tryz.prog.funcNamed Rows.topReplayUptoRow.func = some 18 := by kernel_rfl
theorem topReplay_inst : Tryz.f18.isInstance Tryz.prog Rows.topReplayUptoRow.origin Rows.topReplayUptoRow.targs := of_decide_eq_true (by kernel_rfl)
set_option maxHeartbeats 4000000 in
theorem topReplay_row : Rows.TopReplayUptoSaid :=
 OpenClaim.holds_of_cond 18 Tryz.f18 rfl rfl rfl rfl rfl rfl rfl ⟨rfl, rfl, rfl, rfl, rfl⟩ rfl rfl rfl rfl rfl topReplay_named Tryz.func18 topReplay_closed
  topReplay_inst topReplay_wrap
  (fun os started H enc _ F => by rw [OpenClaim.pre_eq_preRow]; exact topReplay_lifted os started H enc F)
theorem topReplay_wfT : Rows.topReplayUptoRow.wfByText (Rows.OpenSpec.upto Rows.topReplaySpec) = true := by kernel_rfl
theorem office_main : Tryz.pinned.checked.prog.mainIs = some (true, "5a9a52965f4185065c0d39a39ec58f829537e604a07fc4f1dbce9d7d2d17f592".toList) := by kernel_rfl
theorem office_looks : true = Tryz.pinned.checked.prog.looks [] := by kernel_rfl
theorem topReplay_goes : false = Rows.topReplayUptoRow.goesBy Tryz.pinned.checked.prog := by kernel_rfl
theorem topReplay_stand : ([113, 33, 3].all fun u => !Tryz.prog.wantsStandIn u) = true := by kernel_rfl
set_option maxHeartbeats 4000000 in
theorem topReplay_holds : Rows.TopReplayUptoCardSaid :=
 Claim7.holds_tied_plain_at .later [] [.data, .data, .data, .handle, .pinned] true (true, "5a9a52965f4185065c0d39a39ec58f829537e604a07fc4f1dbce9d7d2d17f592") true
  topReplay_row (fun _ h => by cases h) topReplay_wfT (fun _ h => by cases h) topReplayUpto_row_tie rfl ⟨rfl, rfl⟩ office_main rfl
  (fun f fn hf hfn => by
   obtain rfl : f = 18 := Option.some.inj (topReplay_named.symm.trans hf) |>.symm
   obtain rfl : fn = Tryz.f18 := (Option.some.inj (Tryz.func18.symm.trans hfn)).symm
   exact ⟨office_looks, fun j t ht => by
    rw [Tryz.params18] at ht
    have hm : t ∈ [113, 33, 3] := by simpa using Array.mem_of_getElem? ht
    exact (show Tryz.prog.wantsStandIn t = false by simpa using List.all_eq_true.1 topReplay_stand t hm)⟩)
  topReplay_goes
end Go.Proofs.YtiapkffihpgdcaaGreatDoor
