import Derived.Test.YtiapkffihpgdcaaGreatDoorQA11
import Derived.Deep.RegionHeld3
set_option linter.unusedVariables false
set_option linter.unusedSimpArgs false
set_option maxRecDepth 100000
namespace Go.Proofs.YtiapkffihpgdcaaGreatDoor
open Go.RowKit
theorem OwnF.more {w : World} {base c : Nat} {A : Option Addr} {l : List Fact} {f : Fact} (h : w.ownsRow base 53 5 (.slice A (l.length + 1) c) (l.length + 1) (cellsF l ++ f.vals)) : OwnF w base A c (l ++ [f]) := OwnF.snoc h rfl rfl
theorem RF.drew {w : World} {B : Nat} {A : Option Addr} {l : List Fact} (h : RF w B A l) : RF w.drew B A l := h
theorem RF.alloc {w : World} {B : Nat} {A : Option Addr} {l : List Fact} (h : RF w B A l) (o : Obj) : RF (w.alloc o) B A l := h.below ((Below.refl _ _).alloc (Nat.le_refl _) _)
set_option maxHeartbeats 1600000 in
theorem addX_any (l : List Fact) (f : Fact) (hl : l.length ≤ 100000000) (A : Option Addr) (c B : Nat) (w : World) (hR : RF w B A l) :
  Calls Tryz.prog 290 #[.slice A l.length c, .agg #[.int .i64 f.at_, .int .i64 f.ch, .int .i64 f.fr, .int .i64 f.un, .int .i64 f.me]] w (RetF w (addR l f) (addE l f)) := by
 obtain ⟨R, hRR⟩ : ∃ R, R = addR l f := ⟨_, rfl⟩
 obtain ⟨E, hE⟩ : ∃ E, E = addE l f := ⟨_, rfl⟩
 rw [← hRR, ← hE]
 have HR := Lib.hid hRR
 have HE := Lib.hid hE
 clear hRR hE
 have hx0 : Below (w.heap.size + 1) (w.alloc (.cells #[.int .i64 f.at_, .int .i64 f.ch, .int .i64 f.fr, .int .i64 f.un, .int .i64 f.me] 53)) (w.alloc (.cells #[.int .i64 f.at_, .int .i64 f.ch, .int .i64 f.fr, .int .i64 f.un, .int .i64 f.me] 53)) := Below.refl _ _
 obtain ⟨bx, _, _, hy0⟩ := blk_facts hx0 (by omega)
 go_enter Tryz.func290, Tryz.ntmps290
 go_wp2_with fail
 refine (validate_any l A c B _ (hR.below hy0) (by omega)).mono ?_
 rintro e w1 ⟨rfl, hb1⟩
 have hx1 := hx0.trans (hb1.mono (by simp))
 clear bx hb1
 obtain ⟨bx, _, bz, hy1⟩ := blk_facts hx1 (by omega)
 by_cases hv : vld l = 0
 ·have hv1 : (vld l != 0) = false := by simp [hv]
  have HV := Lib.hid hv
  have q0 : w1.cell? ⟨w.heap.size, 0, none⟩ = some (.int .i64 f.at_) := by rw [bx]; rfl
  have q1 : w1.cell? ⟨w.heap.size, 1, none⟩ = some (.int .i64 f.ch) := by rw [bx]; rfl
  have q2 : w1.cell? ⟨w.heap.size, 2, none⟩ = some (.int .i64 f.fr) := by rw [bx]; rfl
  have q3 : w1.cell? ⟨w.heap.size, 3, none⟩ = some (.int .i64 f.un) := by rw [bx]; rfl
  have q4 : w1.cell? ⟨w.heap.size, 4, none⟩ = some (.int .i64 f.me) := by rw [bx]; rfl
  have hR1 := hR.below hy1
  clear hv bx hx0 hy0 hx1
  go_wp2_with fail
  go_cut [7] (fun s wx => ∃ A' c', s = .slice A' (l.length + 1) c' ∧ OwnF wx w.heap.size A' c' (l ++ [f]) ∧ Below w.heap.size w wx)
  case first =>
   go_region_held3 (fun w' => w'.cell? ⟨w.heap.size, 0, none⟩ = some (.int .i64 f.at_) ∧ w'.cell? ⟨w.heap.size, 1, none⟩ = some (.int .i64 f.ch) ∧ w'.cell? ⟨w.heap.size, 2, none⟩ = some (.int .i64 f.fr) ∧ w'.cell? ⟨w.heap.size, 3, none⟩ = some (.int .i64 f.un) ∧ w'.cell? ⟨w.heap.size, 4, none⟩ = some (.int .i64 f.me))
    (first | go_keep | (go_split_ands; refine ⟨?_, ?_, ?_, ?_, ?_⟩ <;> (rw [(hb3 _ (Nat.le_refl _)).cell (by simp; omega)]; go_keep)) | (go_split_ands; refine ⟨?_, ?_, ?_, ?_, ?_⟩ <;> (rw [hb2.cell (by simp; omega)]; go_keep)))
    (first
     | (go_at_call 77; refine (clone_anyO l (by omega) A c B _ ?_).mono ?_; (repeat (first | exact hR1 | refine RF.drew ?_ | refine RF.alloc ?_ _)); rintro e w2 ⟨A', c', rfl, own2, hb2⟩)
     | (refine step_app2 (by rfl) _ _ (by rfl) Tryz.underlying43 info_fact rfl (by omega) (by rfl) (World.ownsRow.alloc own2 (.cells #[.int .i64 f.at_, .int .i64 f.ch, .int .i64 f.fr, .int .i64 f.un, .int .i64 f.me] 53)) (news := f.vals) ⟨w2.heap.size, 0, none⟩ (by rfl) (by rfl) (World.news_of_block (cs := #[.int .i64 f.at_, .int .i64 f.ch, .int .i64 f.fr, .int .i64 f.un, .int .i64 f.me]) (t := 53) (fr := (0, 0)) (heap_alloc_new w2 _)) (by simp [Fact.vals, Value.oneCell']) (by omega) (by omega) (by have := hb2.size; simp at this ⊢; omega) ?_; intro A3 c3 w3 own3 hb3 hk3)
     | (refine step_app2 (by rfl) _ _ (by rfl) Tryz.underlying43 info_fact rfl (by omega) (by rfl) own2 (news := f.vals) ⟨w1.heap.size, 0, none⟩ (by rfl) (by rfl) (fun j u hu => (hb2.cell (by rw [block_of_add]; simp)).trans (World.news_of_block (w := w1.drew.alloc (.cells #[.int .i64 f.at_, .int .i64 f.ch, .int .i64 f.fr, .int .i64 f.un, .int .i64 f.me] 53)) (cs := #[.int .i64 f.at_, .int .i64 f.ch, .int .i64 f.fr, .int .i64 f.un, .int .i64 f.me]) (t := 53) (fr := (0, 0)) (heap_alloc_new w1.drew _) j u hu)) (by simp [Fact.vals, Value.oneCell']) (by omega) (by omega) (by have := hb2.size; simp at this ⊢; omega) ?_; intro A3 c3 w3 own3 hb3 hk3))
   ·go_wp2_with fail
    go_meet
    exact ⟨A3, c3, rfl, OwnF.more (own_base own3 (by exact hy1.size)), hy1.drew.trans ((hb2.mono (by simp; omega)).trans ((((Below.refl _ _).alloc (by have := hb2.size; simp at this; omega) _)).trans (hb3 w.heap.size (by simp; omega))))⟩
   ·go_wp2_with fail
    go_meet
    exact ⟨A3, c3, rfl, OwnF.more (own_base own3 (by simp; omega)), hy1.trans (((Below.refl _ _).drew.alloc (by exact hy1.size) _).trans ((hb2.mono (by simp; omega)).trans (hb3 w.heap.size (by simp; omega))))⟩
  case rest =>
   obtain ⟨A3, c3, rfl, own, hbl⟩ := hcut
   have hl1 : (l ++ [f]).length = l.length + 1 := by simp
   have hva := validate_any (l ++ [f]) A3 c3 _ _ own.reads (by omega)
   rw [hl1] at hva
   have HVA := Lib.hid hva
   have HL1 := Lib.hid hl1
   clear hva hl1
   go_wp2_with fail
   refine HVA.out.mono ?_
   rintro e w4 ⟨rfl, hb4⟩
   have hy4 := hbl.trans (hb4.mono hbl.size)
   have own4 := own.kept hb4
   have hEv : E = vld (l ++ [f]) := by rw [HE.out, addE, if_neg (by rw [HV.out]; simp)]
   by_cases hv2 : vld (l ++ [f]) = 0
   ·have hv3 : (vld (l ++ [f]) != 0) = false := by simp [hv2]
    have hRv : R = l ++ [f] := by rw [HR.out, addR, if_pos ⟨HV.out, hv2⟩]
    have HEV := Lib.hid (hEv.trans hv2)
    have HRV := Lib.hid hRv
    clear hEv hv2 hRv
    go_wp2
    go_ret2
    exact ⟨A3, c3, ret2 (by rw [HRV.out, HL1.out]; rfl) (by rw [HEV.out]; rfl), by rw [HRV.out]; exact own4, hy4⟩
   ·have hv3 : (vld (l ++ [f]) != 0) = true := by simp [hv2]
    have hRv : R = [] := by rw [HR.out, addR, if_neg (by rintro ⟨_, h⟩; exact hv2 h)]
    have HEV := Lib.hid hEv
    have HRV := Lib.hid hRv
    clear hEv hv2 hRv
    go_wp2
    go_ret2
    exact ⟨none, 0, ret2 (by rw [HRV.out]; rfl) (by rw [HEV.out]; rfl), by rw [HRV.out]; exact World.ownsRow_nil _ _ _ _, hy4⟩
 ·have hv1 : (vld l != 0) = true := by simp [hv]
  have hEv : E = vld l := by rw [HE.out, addE, if_pos hv]
  have hRv : R = [] := by rw [HR.out, addR, if_neg (by rintro ⟨h, _⟩; exact hv h)]
  have HEV := Lib.hid hEv
  have HRV := Lib.hid hRv
  clear hEv hv hRv
  go_wp2
  go_ret2
  exact ⟨none, 0, ret2 (by rw [HRV.out]; rfl) (by rw [HEV.out]; rfl), by rw [HRV.out]; exact World.ownsRow_nil _ _ _ _, hy1⟩
set_option maxHeartbeats 800000 in
theorem vrights_any (r : List Sp) (A : Option Addr) (c : Nat) (w : World) (hR : RSO w A r) (hl : r.length ≤ 1000000000) :
  Calls Tryz.prog 146 #[.slice A r.length c] w fun e w' => e = .returned (.int .i64 (vrt r)) ∧ Below w.heap.size w w' := by
 by_cases h60 : 60 < r.length
 ·have hv : vrt r = 4 := by unfold vrt; rw [if_pos h60]
  rw [hv]; clear hv
  go_enter Tryz.func146, Tryz.ntmps146
  go_wp2
  go_ret
  exact ⟨rfl, Below.refl _ _⟩
 ·obtain ⟨V, hV⟩ : ∃ V, V = vrt r := ⟨_, rfl⟩
  rw [← hV]
  have hv1 : rtAll r r.length = true → V = 0 := fun h => by rw [hV, vrt, if_neg h60, if_pos h]
  have hv2 : rtAll r r.length = false → V = 1 := fun h => by rw [hV, vrt, if_neg h60, if_neg (by rw [h]; simp)]
  have H1 := Lib.hid hv1
  have H2 := Lib.hid hv2
  clear hV hv1 hv2
  go_enter Tryz.func146, Tryz.ntmps146
  go_wp2
  go_loopw [10] (fun x wr => ∃ k : Nat, k ≤ r.length ∧ x = .int .i64 k ∧ Hid (rtAll r k = true) ∧ Below w.heap.size w wr) (fun x _ => r.length - (intOf x).toNat)
  case atStart => exact ⟨0, by omega, rfl, rfl, Below.refl _ _⟩
  case round =>
   obtain ⟨k, hk, rfl, HK, hbl⟩ := hrel
   by_cases hlt : k < r.length
   ·obtain ⟨ad, rfl, hab, c0, c1, c2⟩ := (hR.below hbl).at_ hlt
    cases hq : rtB (gs r k) with
    | true =>
     obtain ⟨q1, q2, q3, q4, q5⟩ := (rtB_iff _).1 hq
     have hi : inB (gs r k).fr 0 99 = true := inB_true.2 ⟨q1, q2⟩
     have hnx : rtAll r (k + 1) = true := by simp only [rtAll, HK.out, hq]; rfl
     have HNX := Lib.hid hnx
     clear hnx hq
     go_wp2_with (go_at_call 88; refine (isChild_any _ _).mono ?_; rintro e w' ⟨rfl, hw'⟩; subst hw')
     go_roundw
     case rel => exact ⟨k + 1, by omega, by go_num, HNX, hbl.alloc hbl.size _⟩
     case measure => simp [intOf]; omega
    | false =>
     have hbad : V = 1 := by
      refine H2.out ?_
      cases ha : rtAll r r.length with
      | false => rfl
      | true => rw [(rtAll_iff _ _).1 ha k hlt] at hq; cases hq
     have HB := Lib.hid hbad
     have hn : ¬ (inB (gs r k).fr 0 99 = true ∧ 0 ≤ (gs r k).un ∧ (gs r k).un < (gs r k).me ∧ (gs r k).me ≤ 1000) := by
      intro hh
      have := inB_true.1 hh.1
      rw [(rtB_iff _).2 ⟨this.1, this.2, hh.2⟩] at hq; cases hq
     have HN := Lib.hid hn
     clear hbad hq hn
     cases hi : inB (gs r k).fr 0 99 with
     | false =>
      go_wp2_with (go_at_call 88; refine (isChild_any _ _).mono ?_; rintro e w' ⟨rfl, hw'⟩; subst hw')
      go_ret
      exact ⟨ret_int (by rw [HB.out]), hbl.alloc hbl.size _⟩
     | true =>
      have hcases : (gs r k).un < 0 ∨ (0 ≤ (gs r k).un ∧ (gs r k).me ≤ (gs r k).un) ∨ (0 ≤ (gs r k).un ∧ (gs r k).un < (gs r k).me ∧ 1000 < (gs r k).me) := by
       have := HN.out
       rcases Int.lt_or_le (gs r k).un 0 with h | h
       ·exact .inl h
       ·rcases Int.lt_or_le (gs r k).un (gs r k).me with h' | h'
        ·rcases Int.lt_or_le 1000 (gs r k).me with h'' | h''
         ·exact .inr (.inr ⟨h, h', h''⟩)
         ·exact absurd ⟨hi, h, h', h''⟩ this
        ·exact .inr (.inl ⟨h, h'⟩)
      rcases hcases with p1 | ⟨p1, p2⟩ | ⟨p1, p2, p3⟩
      all_goals
       go_wp2_with (go_at_call 88; refine (isChild_any _ _).mono ?_; rintro e w' ⟨rfl, hw'⟩; subst hw')
       go_ret
       exact ⟨ret_int (by rw [HB.out]), hbl.alloc hbl.size _⟩
   ·have hv : V = 0 := H1.out (by rw [show r.length = k by omega]; exact HK.out)
    have HV := Lib.hid hv; clear hv
    go_wp2
    go_ret
    exact ⟨ret_int (by rw [HV.out]), hbl⟩
set_option maxHeartbeats 800000 in
theorem rvrights_any (r : List Sp) (A : Option Addr) (c : Nat) (w : World) (hR : RSO w A r) (hl : r.length ≤ 1000000000) :
  Calls Tryz.prog 209 #[.slice A r.length c] w fun e w' => e = .returned (.int .i64 (vrt r)) ∧ Below w.heap.size w w' := by
 by_cases h60 : 60 < r.length
 ·have hv : vrt r = 4 := by unfold vrt; rw [if_pos h60]
  rw [hv]; clear hv
  go_enter Tryz.func209, Tryz.ntmps209
  go_wp2
  go_ret
  exact ⟨rfl, Below.refl _ _⟩
 ·obtain ⟨V, hV⟩ : ∃ V, V = vrt r := ⟨_, rfl⟩
  rw [← hV]
  have hv1 : rtAll r r.length = true → V = 0 := fun h => by rw [hV, vrt, if_neg h60, if_pos h]
  have hv2 : rtAll r r.length = false → V = 1 := fun h => by rw [hV, vrt, if_neg h60, if_neg (by rw [h]; simp)]
  have H1 := Lib.hid hv1
  have H2 := Lib.hid hv2
  clear hV hv1 hv2
  go_enter Tryz.func209, Tryz.ntmps209
  go_wp2
  go_loopw [3] (fun x wr => ∃ k : Nat, k ≤ r.length ∧ x = .int .i64 k ∧ Hid (rtAll r k = true) ∧ Below w.heap.size w wr) (fun x _ => r.length - (intOf x).toNat)
  case atStart => exact ⟨0, by omega, rfl, rfl, Below.refl _ _⟩
  case round =>
   obtain ⟨k, hk, rfl, HK, hbl⟩ := hrel
   by_cases hlt : k < r.length
   ·obtain ⟨ad, rfl, hab, c0, c1, c2⟩ := (hR.below hbl).at_ hlt
    have hsb : rtB (gs r k) = (inB (gs r k).fr 0 99 && stretchB (gs r k).un (gs r k).me) := by
     rw [Bool.eq_iff_iff, rtB_iff, Bool.and_eq_true, inB_true]; simp [stretchB]; omega
    have q10 : (0 : Int) ≤ (k : Int) := Int.natCast_nonneg _
    have q11 : (k : Int) < (r.length : Int) := by omega
    have hbad : rtB (gs r k) = false → V = 1 := fun hq => by
     refine H2.out ?_
     cases ha : rtAll r r.length with
     | false => rfl
     | true => rw [(rtAll_iff _ _).1 ha k hlt] at hq; cases hq
    cases hi : inB (gs r k).fr 0 99 with
    | false =>
     have HB := Lib.hid (hbad (by rw [hsb, hi]; rfl))
     clear hbad hsb
     go_wp2_with fail
     go_quiet ((first | (go_at_call 181; exact Calls.quiet_of_same (within_anyO _ _ _ _)) | (go_at_call 268; exact Calls.quiet_of_same (rdays_anyO _ _ _))))
     go_wp2
     go_ret
     exact ⟨ret_int (by rw [HB.out]), below_drewN hbl _⟩
    | true =>
     cases hd : stretchB (gs r k).un (gs r k).me with
     | false =>
      have HB := Lib.hid (hbad (by rw [hsb, hi, hd]; rfl))
      clear hbad hsb
      go_wp2_with fail
      go_quiet ((first | (go_at_call 181; exact Calls.quiet_of_same (within_anyO _ _ _ _)) | (go_at_call 268; exact Calls.quiet_of_same (rdays_anyO _ _ _))))
      go_wp2
      go_ret
      exact ⟨ret_int (by rw [HB.out]), below_drewN hbl _⟩
     | true =>
      have hnx : rtAll r (k + 1) = true := by simp only [rtAll, HK.out, hsb, hi, hd]; rfl
      have HNX := Lib.hid hnx
      clear hnx hbad hsb
      go_wp2_with fail
      go_quiet ((first | (go_at_call 181; exact Calls.quiet_of_same (within_anyO _ _ _ _)) | (go_at_call 268; exact Calls.quiet_of_same (rdays_anyO _ _ _))))
      go_wp2
      go_roundw
      case rel => exact ⟨k + 1, by omega, by go_num, HNX, below_drewN hbl _⟩
      case measure => simp [intOf]; omega
   ·have hv : V = 0 := H1.out (by rw [show r.length = k by omega]; exact HK.out)
    have HV := Lib.hid hv; clear hv
    go_wp2
    go_ret
    exact ⟨ret_int (by rw [HV.out]), hbl⟩
def IdxPost (b : Bool) (w0 : World) (e : Ending) (w' : World) : Prop := ∃ i : Int, e = .returned (.int .i64 i) ∧ (b = true → 0 ≤ i) ∧ (b = false → i < 0) ∧ Below w0.heap.size w0 w'
set_option maxHeartbeats 400000 in
theorem freef_any (ch f u c d : Int) (b1 b2 : Nat) (w : World) (h1 : w.cell? ⟨b1, 0, none⟩ = some (.int .i64 c)) (h2 : w.cell? ⟨b2, 0, none⟩ = some (.int .i64 d)) (hb1 : b1 < w.heap.size) (hb2 : b2 < w.heap.size) :
  Calls Tryz.prog 244 #[.agg #[.int .i64 ch, .int .i64 f, .int .i64 u], .pointer (some ⟨b1, 0, none⟩), .pointer (some ⟨b2, 0, none⟩)] w fun e w' => e = .returned (.bool (tellN ch f u c d)) ∧ Below w.heap.size w w' := by
 have e1 : ¬ b1 = w.heap.size := by omega
 have e2 : ¬ b2 = w.heap.size := by omega
 go_enter Tryz.func244, Tryz.ntmps244
 go_wp2
 all_goals
  go_ret
  exact ⟨ret_bool (by unfold tellN; first | (rw [decide_eq_decide]; omega) | (symm; rw [decide_eq_false_iff_not]; omega)), by go_grown⟩
set_option maxHeartbeats 800000 in
theorem index_free (r : List Sp) (c d : Int) (A : Option Addr) (cp b1 b2 : Nat) (w : World) (hR : RSO w A r) (hl : r.length ≤ 1000000000) (h1 : w.cell? ⟨b1, 0, none⟩ = some (.int .i64 c)) (h2 : w.cell? ⟨b2, 0, none⟩ = some (.int .i64 d)) (hb1 : b1 < w.heap.size) (hb2 : b2 < w.heap.size) :
  Calls Tryz.prog 292 #[.slice A r.length cp, .func (.func 244) #[] #[.pointer (some ⟨b1, 0, none⟩), .pointer (some ⟨b2, 0, none⟩)]] w (IdxPost (freeB r c d) w) := by
 go_enter Tryz.func292, Tryz.ntmps292
 go_wp2
 go_loopw [8] (fun x wr => ∃ k : Nat, k ≤ r.length ∧ x = .int .i64 k ∧ Hid (frTo r c d k = false) ∧ Below w.heap.size w wr) (fun x _ => r.length - (intOf x).toNat)
 case atStart => exact ⟨0, by omega, rfl, rfl, Below.refl _ _⟩
 case round =>
  obtain ⟨k, hk, rfl, HK, hbl⟩ := hrel
  by_cases hlt : k < r.length
  ·obtain ⟨ad, rfl, hab, c0, c1, c2⟩ := (hR.below hbl).at_ hlt
   have g1 := (hbl.cell (p := ⟨b1, 0, none⟩) hb1).trans h1
   have g2 := (hbl.cell (p := ⟨b2, 0, none⟩) hb2).trans h2
   have hbs := hbl.size
   go_wp2_with fail
   refine (freef_any _ _ _ c d b1 b2 _ g1 g2 (by omega) (by omega)).mono ?_
   rintro e w2 ⟨rfl, hb2'⟩
   have hbl2 := hbl.trans (hb2'.mono hbl.size)
   clear g1 g2 c0 c1 c2 hb2'
   cases hq : tellN (gs r k).fr (gs r k).un (gs r k).me c d with
   | true =>
    have hf : freeB r c d = true := (frTo_iff _ _ _ _).2 ⟨k, hlt, hq⟩
    have HF := Lib.hid hf
    clear hf hq
    go_wp2
    go_ret
    exact ⟨k, rfl, (fun _ => by omega), (fun h => by rw [HF.out] at h; cases h), hbl2⟩
   | false =>
    have hnx : frTo r c d (k + 1) = false := by simp only [frTo, HK.out, hq]; rfl
    have HNX := Lib.hid hnx
    clear hnx hq
    go_wp2
    go_roundw
    case rel => exact ⟨k + 1, by omega, by go_num, HNX, hbl2⟩
    case measure => simp [intOf]; omega
  ·have hf : freeB r c d = false := by unfold freeB; rw [show r.length = k by omega]; exact HK.out
   have HF := Lib.hid hf
   clear hf
   go_wp2
   go_ret
   exact ⟨-1, rfl, (fun h => by rw [HF.out] at h; cases h), (fun _ => by omega), hbl⟩
set_option maxHeartbeats 400000 in
theorem contains_free (r : List Sp) (c d : Int) (A : Option Addr) (cp b1 b2 : Nat) (w : World) (hR : RSO w A r) (hl : r.length ≤ 1000000000) (h1 : w.cell? ⟨b1, 0, none⟩ = some (.int .i64 c)) (h2 : w.cell? ⟨b2, 0, none⟩ = some (.int .i64 d)) (hb1 : b1 < w.heap.size) (hb2 : b2 < w.heap.size) :
  Calls Tryz.prog 243 #[.slice A r.length cp, .func (.func 244) #[] #[.pointer (some ⟨b1, 0, none⟩), .pointer (some ⟨b2, 0, none⟩)]] w fun e w' =>
   e = .returned (.bool (freeB r c d)) ∧ Below w.heap.size w w' := by
 go_enter Tryz.func243, Tryz.ntmps243
 go_wp2_with fail
 refine (index_free r c d A cp b1 b2 _ hR hl h1 h2 hb1 hb2).mono ?_
 rintro e w2 ⟨i, rfl, hi1, hi2, hbl⟩
 cases hf : freeB r c d with
 | true =>
  have h0 := hi1 hf
  have HF := Lib.hid hf
  clear hi1 hi2 hf
  go_wp2
  go_ret
  exact ⟨ret_bool (by rw [HF.out] <;> first | rfl | (simp; done) | (simp [h0]; done) | (simp; omega)), hbl⟩
 | false =>
  have h0 := hi2 hf
  have HF := Lib.hid hf
  clear hi1 hi2 hf
  go_wp2
  go_ret
  exact ⟨ret_bool (by rw [HF.out] <;> first | rfl | (simp; done) | (simp [h0]; done) | (simp; omega)), hbl⟩
set_option maxHeartbeats 400000 in
theorem free_any (r : List Sp) (c d : Int) (A : Option Addr) (cp : Nat) (w : World) (hR : RSO w A r) (hl : r.length ≤ 1000000000) :
  Calls Tryz.prog 171 #[.slice A r.length cp, .int .i64 c, .int .i64 d] w fun e w' => e = .returned (.bool (freeB r c d)) ∧ Below w.heap.size w w' := by
 go_enter Tryz.func171, Tryz.ntmps171
 go_wp2_with fail
 have hb0 : Below w.heap.size w ((w.alloc (.cells #[.int .i64 c] 3)).alloc (.cells #[.int .i64 d] 3)) := ((Below.refl _ _).alloc (Nat.le_refl _) _).alloc (by simp) _
 refine (contains_free r c d A cp w.heap.size (w.heap.size + 1) ((w.alloc (.cells #[.int .i64 c] 3)).alloc (.cells #[.int .i64 d] 3)) (hR.below hb0) hl (by simp [go_sem]) (by simp [go_sem]) (by simp; omega) (by simp)).mono ?_
 rintro e w2 ⟨rfl, hb2⟩
 go_wp2
 go_ret
 exact ⟨rfl, hb0.trans (hb2.mono hb0.size)⟩
set_option maxHeartbeats 800000 in
theorem rfree_any (r : List Sp) (c d : Int) (A : Option Addr) (cp : Nat) (w : World) (hR : RSO w A r) (hl : r.length ≤ 1000000000) :
    Calls Tryz.prog 252 #[.slice A r.length cp, .int .i64 c, .int .i64 d] w fun e w' => e = .returned (.bool (freeB r c d)) ∧ w = w' := by
  obtain ⟨N, hN⟩ : ∃ N, N = freeB r c d := ⟨_, rfl⟩
  rw [← hN]
  have HN := Lib.hid hN; clear hN
  go_enter Tryz.func252, Tryz.ntmps252
  go_wp2
  go_loop [7] (fun x => ∃ k : Nat, k ≤ r.length ∧ x = .int .i64 k ∧ Hid (frTo r c d k = false)) (fun x => r.length - (intOf x).toNat)
  case atStart => exact ⟨0, by omega, rfl, rfl⟩
  case round =>
    obtain ⟨k, hk, rfl, HK⟩ := hrel
    by_cases hlt : k < r.length
    · obtain ⟨ad, rfl, hab, c0, c1, c2⟩ := hR.at_ hlt
      cases hq : tellN (gs r k).fr (gs r k).un (gs r k).me c d with
      | true =>
        have hf : N = true := by rw [HN.out]; exact (frTo_iff _ _ _ _).2 ⟨k, hlt, hq⟩
        have HF := Lib.hid hf
        simp only [tellN, decide_eq_true_eq] at hq
        obtain ⟨p1, p2, p3⟩ := hq
        have p1' : ((gs r k).fr == c) = true := by simp [p1]
        clear hf p1
        go_wp2
        go_ret
        exact ⟨ret_bool (by rw [HF.out]), rfl⟩
      | false =>
        have hnx : frTo r c d (k + 1) = false := by simp only [frTo, HK.out, hq]; rfl
        have HNX := Lib.hid hnx
        have hn : ¬ ((gs r k).fr = c ∧ (gs r k).un ≤ d ∧ d < (gs r k).me) := by simpa only [tellN, decide_eq_false_iff_not] using hq
        have HNN := Lib.hid hn
        clear hnx hq hn
        go_wp2
        all_goals first
          | exact absurd ⟨‹_›, ‹_›, ‹_›⟩ HNN.out
          | (go_round
             case rel => exact ⟨k + 1, by omega, by go_num, HNX⟩
             case measure => simp [intOf]; omega)
    · have hf : N = false := by rw [HN.out]; unfold freeB; rw [show r.length = k by omega]; exact HK.out
      have HF := Lib.hid hf
      clear hf
      go_wp2
      go_ret
      exact ⟨ret_bool (by rw [HF.out]), rfl⟩
theorem billf_any (p : Int) (w : World) : Calls Tryz.prog 170 #[.int .i64 p] w fun e w' => e = .returned (.bool (!inB p 0 10000)) ∧ w = w' := by
 go_enter Tryz.func170, Tryz.ntmps170
 go_wp2
 all_goals
  go_ret
  exact ⟨ret_bool (by unfold inB; by_cases h1 : 0 ≤ p <;> by_cases h2 : p ≤ 10000 <;> simp [h1, h2] <;> omega), rfl⟩
set_option maxHeartbeats 800000 in
theorem index_price (p : List Int) (A : Option Addr) (cp : Nat) (w : World) (hR : RN w A p) (hl : p.length ≤ 1000000000) :
  Calls Tryz.prog 242 #[.slice A p.length cp, .func (.func 170) #[] #[]] w (IdxPost (!prAll p p.length) w) := by
 go_enter Tryz.func242, Tryz.ntmps242
 go_wp2
 go_loop [8] (fun x => ∃ k : Nat, k ≤ p.length ∧ x = .int .i64 k ∧ Hid (prAll p k = true)) (fun x => p.length - (intOf x).toNat)
 case atStart => exact ⟨0, by omega, rfl, rfl⟩
 case round =>
  obtain ⟨k, hk, rfl, HK⟩ := hrel
  by_cases hlt : k < p.length
  ·obtain ⟨ad, rfl, hab, c0⟩ := hR.at_ hlt
   cases hq : inB (gi p k) 0 10000 with
   | false =>
    have hf : prAll p p.length = false := by
     cases ha : prAll p p.length with
     | false => rfl
     | true => rw [(prAll_iff _ _).1 ha k hlt] at hq; cases hq
    have HF := Lib.hid hf
    clear hf
    go_wp2_with (go_at_call 170; refine (billf_any _ _).mono ?_; rintro e w' ⟨rfl, rfl⟩)
    go_ret
    exact ⟨k, rfl, (fun _ => by omega), (fun h => by rw [HF.out] at h; cases h), Below.refl _ _⟩
   | true =>
    have hnx : prAll p (k + 1) = true := by simp only [prAll, HK.out, hq]; rfl
    have HNX := Lib.hid hnx
    clear hnx
    go_wp2_with (go_at_call 170; refine (billf_any _ _).mono ?_; rintro e w' ⟨rfl, rfl⟩)
    go_round
    case rel => exact ⟨k + 1, by omega, by go_num, HNX⟩
    case measure => simp [intOf]; omega
  ·have hf : prAll p p.length = true := by rw [show p.length = k by omega]; exact HK.out
   have HF := Lib.hid hf
   clear hf
   go_wp2
   go_ret
   exact ⟨-1, rfl, (fun h => by rw [HF.out] at h; cases h), (fun _ => by omega), Below.refl _ _⟩
set_option maxHeartbeats 400000 in
theorem contains_price (p : List Int) (A : Option Addr) (cp : Nat) (w : World) (hR : RN w A p) (hl : p.length ≤ 1000000000) :
  Calls Tryz.prog 169 #[.slice A p.length cp, .func (.func 170) #[] #[]] w fun e w' => e = .returned (.bool (!prAll p p.length)) ∧ Below w.heap.size w w' := by
 go_enter Tryz.func169, Tryz.ntmps169
 go_wp2_with fail
 refine (index_price p A cp _ hR hl).mono ?_
 rintro e w2 ⟨i, rfl, hi1, hi2, hbl⟩
 cases hf : prAll p p.length with
 | false =>
  have h0 := hi1 (by rw [hf]; rfl)
  have HF := Lib.hid hf
  clear hi1 hi2 hf
  go_wp2
  go_ret
  exact ⟨ret_bool (by rw [HF.out] <;> first | rfl | (simp; done) | (simp [h0]; done) | (simp; omega)), hbl⟩
 | true =>
  have h0 := hi2 (by rw [hf]; rfl)
  have HF := Lib.hid hf
  clear hi1 hi2 hf
  go_wp2
  go_ret
  exact ⟨ret_bool (by rw [HF.out] <;> first | rfl | (simp; done) | (simp [h0]; done) | (simp; omega)), hbl⟩
set_option maxHeartbeats 1600000 in
theorem billed_any (l : List Fact) (r : List Sp) (p : List Int) (cut : Int) (hl : l.length ≤ 1000000000) (hrl : r.length ≤ 1000000000) (hpl : p.length ≤ 1000000000) (A1 A2 A3 : Option Addr) (c1 c2 c3 B : Nat) (w : World) (h1 : RF w B A1 l) (h2 : RSO w A2 r) (h3 : RN w A3 p) :
  Calls Tryz.prog 87 #[.slice A1 l.length c1, .slice A2 r.length c2, .slice A3 p.length c3, .int .i64 cut] w fun e w' => e = .returned (.int .i64 (bEO l r p cut)) ∧ Below w.heap.size w w' := by
 obtain ⟨E, hE⟩ : ∃ E, E = bEO l r p cut := ⟨_, rfl⟩
 rw [← hE]
 have HE := Lib.hid hE; clear hE
 go_enter Tryz.func87, Tryz.ntmps87
 go_wp2_with fail
 refine (validate_any l A1 c1 B _ h1 hl).mono ?_
 rintro e w1 ⟨rfl, hb1⟩
 by_cases hv : vld l = 0
 ·have hv1 : (vld l != 0) = false := by simp [hv]
  have HV := Lib.hid hv; clear hv
  go_wp2_with fail
  refine (vrights_any r A2 c2 _ (h2.below hb1) hrl).mono ?_
  rintro e w2 ⟨rfl, hb2⟩
  have hb2' := hb1.trans (hb2.mono hb1.size)
  clear hb2
  by_cases hr : vrt r = 0
  ·have hr1 : (vrt r != 0) = false := by simp [hr]
   have hEE : E = if bG p cut then 0 else 1 := by rw [HE.out, bEO, if_neg (by rw [HV.out]; simp), if_neg (by rw [hr]; simp)]
   have HEE := Lib.hid hEE
   clear hr hEE
   by_cases hp9 : p.length = 9
   ·have hp9' : ((p.length : Int) != 9) = false := by simp [hp9]
    have HP := Lib.hid hp9; clear hp9
    go_wp2_with fail
    refine (contains_price p A3 c3 _ (h3.below hb2') hpl).mono ?_
    rintro e w3 ⟨rfl, hb3⟩
    have hb3' := hb2'.trans (hb3.mono hb2'.size)
    clear hb3
    cases ha : prAll p p.length with
    | false =>
     have hbad : E = 1 := by rw [HEE.out, bG, ha]; simp
     have HB := Lib.hid hbad
     clear hbad ha
     go_wp2
     go_ret
     exact ⟨ret_int (by rw [HB.out]), hb3'⟩
    | true =>
     by_cases q1 : cut < 0
     ·have hbad : E = 1 := by rw [HEE.out, bG, ha, inB_false.2 (show ¬ (0 ≤ cut ∧ cut ≤ 10000) by omega)]; simp
      have HB := Lib.hid hbad
      clear hbad ha
      go_wp2
      go_ret
      exact ⟨ret_int (by rw [HB.out]), hb3'⟩
     ·by_cases q2 : 10000 < cut
      ·have hbad : E = 1 := by rw [HEE.out, bG, ha, inB_false.2 (show ¬ (0 ≤ cut ∧ cut ≤ 10000) by omega)]; simp
       have HB := Lib.hid hbad
       clear hbad ha
       go_wp2
       go_ret
       exact ⟨ret_int (by rw [HB.out]), hb3'⟩
      ·have hok : E = 0 := by rw [HEE.out, bG, ha, inB_true.2 (show 0 ≤ cut ∧ cut ≤ 10000 by omega), decide_eq_true HP.out]; rfl
       have HB := Lib.hid hok
       clear hok ha
       go_wp2
       go_ret
       exact ⟨ret_int (by rw [HB.out]), hb3'⟩
   ·have hp9' : ((p.length : Int) != 9) = true := by simp; omega
    have hbad : E = 1 := by rw [HEE.out, bG, decide_eq_false hp9]; rfl
    have HB := Lib.hid hbad
    clear hbad hp9
    go_wp2
    go_ret
    exact ⟨ret_int (by rw [HB.out]), hb2'⟩
  ·have hr1 : (vrt r != 0) = true := by simp [hr]
   have hEE : E = vrt r := by rw [HE.out, bEO, if_neg (by rw [HV.out]; simp), if_pos hr]
   have HEE := Lib.hid hEE
   clear hr hEE
   go_wp2
   go_ret
   exact ⟨ret_int (by rw [HEE.out]), hb2'⟩
 ·have hv1 : (vld l != 0) = true := by simp [hv]
  have hEE : E = vld l := by rw [HE.out, bEO, if_pos hv]
  have HEE := Lib.hid hEE
  clear hv hEE
  go_wp2
  go_ret
  exact ⟨ret_int (by rw [HEE.out]), hb1⟩
set_option maxHeartbeats 400000 in
theorem price_any (m : Int) (p : List Int) (hp : 9 ≤ p.length) (h0 : 0 ≤ m) (h9 : m ≤ 9) (A : Option Addr) (c b : Nat) (w : World) (hc : w.cell? ⟨b, 0, none⟩ = some (.slice A p.length c)) (hR : RN w A p) :
  Calls Tryz.prog 172 #[.int .i64 m, .pointer (some ⟨b, 0, none⟩)] w fun e w' => e = .returned (.int .i64 (priceI p m)) ∧ w = w' := by
 by_cases hm : m = 0
 ·subst hm
  go_enter Tryz.func172, Tryz.ntmps172
  go_wp2
  go_ret
  exact ⟨ret_int (by simp [priceI]), rfl⟩
 ·have hm1 : (m == 0) = false := by simp [hm]
  have hpr : priceI p m = gi p (m.toNat - 1) := by unfold priceI; rw [if_neg hm]; congr 1; omega
  rw [hpr]
  obtain ⟨ad, rfl, hab, c0⟩ := hR.at_ (k := m.toNat - 1) (by omega)
  have hi0 : 0 ≤ m - 1 := by omega
  have hi1 : m - 1 < (p.length : Int) := by omega
  clear hpr hm
  go_enter Tryz.func172, Tryz.ntmps172
  go_wp2
  go_ret
  exact ⟨rfl, rfl⟩
set_option maxHeartbeats 400000 in
theorem rprice_any (m : Int) (p : List Int) (hp : 9 ≤ p.length) (h0 : 0 ≤ m) (h9 : m ≤ 9) (A : Option Addr) (c : Nat) (w : World) (hR : RN w A p) :
  Calls Tryz.prog 254 #[.slice A p.length c, .int .i64 m] w fun e w' => e = .returned (.int .i64 (priceI p m)) ∧ w = w' := by
 by_cases hm : m = 0
 ·subst hm
  go_enter Tryz.func254, Tryz.ntmps254
  go_wp2
  go_ret
  exact ⟨ret_int (by simp [priceI]), rfl⟩
 ·have hm1 : (m == 0) = false := by simp [hm]
  have hpr : priceI p m = gi p (m.toNat - 1) := by unfold priceI; rw [if_neg hm]; congr 1; omega
  rw [hpr]
  obtain ⟨ad, rfl, hab, c0⟩ := hR.at_ (k := m.toNat - 1) (by omega)
  have hi0 : 0 ≤ m - 1 := by omega
  have hi1 : m - 1 < (p.length : Int) := by omega
  clear hpr hm
  go_enter Tryz.func254, Tryz.ntmps254
  go_wp2
  go_ret
  exact ⟨rfl, rfl⟩
set_option maxHeartbeats 1600000 in
theorem pay_any (l : List Fact) (r : List Sp) (p : List Int) (cut c d : Int) (hV : Vld l) (hg : bG p cut = true) (hr : r.length ≤ 60) (hd : 0 ≤ d) (hd2 : d ≤ 999) (A1 A2 A3 : Option Addr) (c1 c2 c3 B : Nat) (hc1 : l.length ≤ c1) (w : World) (h1 : RF w B A1 l) (h2 : RSO w A2 r) (h3 : RN w A3 p) :
  Calls Tryz.prog 89 #[.slice A1 l.length c1, .slice A2 r.length c2, .slice A3 p.length c3, .int .i64 cut, .int .i64 c, .int .i64 d] w fun e w' => e = .returned (.int .i64 (payI l r p cut c d)) ∧ Below w.heap.size w w' := by
 obtain ⟨g1, g2, g3, g4⟩ := bG_len hg
 obtain ⟨P, hP⟩ : ∃ P, P = payI l r p cut c d := ⟨_, rfl⟩
 rw [← hP]
 have HP := Lib.hid hP; clear hP
 have hb0 : Below w.heap.size w (w.alloc (.cells #[.slice A3 p.length c3] 22)) := (Below.refl _ _).alloc (Nat.le_refl _) _
 go_enter Tryz.func89, Tryz.ntmps89
 go_wp2_with fail
 refine (free_any r c d A2 c2 _ (h2.below hb0) (by omega)).mono ?_
 rintro e w1 ⟨rfl, hb1⟩
 obtain ⟨bc, bf, bz, hbl⟩ := blk_facts hb1 (by simp)
 have bc0 : w1.cell? ⟨w.heap.size, 0, none⟩ = some (.slice A3 p.length c3) := by rw [bc]; rfl
 clear hb0 hb1 bc bf
 cases hf : freeB r c d with
 | true =>
  have hk : P = 0 := by rw [HP.out, payI, if_pos hf]
  have HK := Lib.hid hk; clear hk
  go_wp2
  go_ret
  exact ⟨ret_int (by rw [HK.out]), hbl⟩
 | false =>
  have hk : P = max (priceI p (knw l (d * 1440 - cut) c d)) (priceI p (knw l 1440000 c d)) := by rw [HP.out, payI, if_neg (by rw [hf]; simp)]
  have HK := Lib.hid hk; clear hk
  have hfld := field_found
  have hfld2 := field_meal
  have k1 := knw_bd hV (d * 1440 - cut) c d
  have k2 := knw_bd hV 1440000 c d
  go_wp2_with fail
  refine (reason_any l (d * 1440 - cut) c d hV A1 c1 B hc1 _ (h1.below hbl)).mono ?_
  rintro e w2 ⟨rfl, hb2⟩
  have bc2 := (hb2.cell (p := ⟨w.heap.size, 0, none⟩) bz).trans bc0
  have hbl2 := hbl.trans (hb2.mono hbl.size)
  have bz2 : w.heap.size < w2.heap.size := Nat.lt_of_lt_of_le bz hb2.size
  clear hb2 bc0 hbl
  unfold foundV
  rw [show fMe l (rsn l (d * 1440 - cut) c d) = knw l (d * 1440 - cut) c d from rfl]
  go_wp2_with fail
  refine (price_any _ p g1 k1.1 k1.2 A3 c3 w.heap.size _ bc2 (h3.below hbl2)).mono ?_
  rintro e w3 ⟨rfl, rfl⟩
  go_wp2_with fail
  refine (reason_any l 1440000 c d hV A1 c1 B hc1 _ (h1.below hbl2)).mono ?_
  rintro e w3 ⟨rfl, hb3⟩
  have bc3 := (hb3.cell (p := ⟨w.heap.size, 0, none⟩) bz2).trans bc2
  have hbl3 := hbl2.trans (hb3.mono hbl2.size)
  clear hb3 bc2
  unfold foundV
  rw [show fMe l (rsn l 1440000 c d) = knw l 1440000 c d from rfl]
  go_wp2_with fail
  refine (price_any _ p g1 k2.1 k2.2 A3 c3 w.heap.size _ bc3 (h3.below hbl3)).mono ?_
  rintro e w4 ⟨rfl, rfl⟩
  go_wp2
  all_goals
   go_ret
   exact ⟨ret_int (by rw [HK.out] <;> omega), hbl3⟩
set_option maxHeartbeats 1600000 in
theorem rpay_any (l : List Fact) (r : List Sp) (p : List Int) (cut c d : Int) (hV : Vld l) (hg : bG p cut = true) (hr : r.length ≤ 60) (hd : 0 ≤ d) (hd2 : d ≤ 999) (A1 A2 A3 : Option Addr) (c1 c2 c3 B : Nat) (w : World) (h1 : RF w B A1 l) (h2 : RSO w A2 r) (h3 : RN w A3 p) :
  Calls Tryz.prog 182 #[.slice A1 l.length c1, .slice A2 r.length c2, .slice A3 p.length c3, .int .i64 cut, .int .i64 c, .int .i64 d] w fun e w' => e = .returned (.int .i64 (payI l r p cut c d)) ∧ w = w' := by
 obtain ⟨g1, g2, g3, g4⟩ := bG_len hg
 have hll := hV.len
 obtain ⟨P, hP⟩ : ∃ P, P = payI l r p cut c d := ⟨_, rfl⟩
 rw [← hP]
 have HP := Lib.hid hP; clear hP
 go_enter Tryz.func182, Tryz.ntmps182
 go_wp2_with fail
 refine (rfree_any r c d A2 c2 _ h2 (by omega)).mono ?_
 rintro e w1 ⟨rfl, rfl⟩
 cases hf : freeB r c d with
 | true =>
  have hk : P = 0 := by rw [HP.out, payI, if_pos hf]
  have HK := Lib.hid hk; clear hk
  go_wp2
  go_ret
  exact ⟨ret_int (by rw [HK.out]), rfl⟩
 | false =>
  have hk : P = max (priceI p (knw l (d * 1440 - cut) c d)) (priceI p (knw l 1440000 c d)) := by rw [HP.out, payI, if_neg (by rw [hf]; simp)]
  have HK := Lib.hid hk; clear hk
  have k1 := knw_bd hV (d * 1440 - cut) c d
  have k2 := knw_bd hV 1440000 c d
  go_wp2_with fail
  refine (rknown_any l (d * 1440 - cut) c d (by omega) A1 c1 B _ h1).mono ?_
  rintro e w2 ⟨rfl, hw2⟩
  subst hw2
  go_wp2_with fail
  refine (rknown_any l 1440000 c d (by omega) A1 c1 B _ h1).mono ?_
  rintro e w3 ⟨rfl, hw3⟩
  subst hw3
  go_wp2_with fail
  refine (rprice_any _ p g1 k1.1 k1.2 A3 c3 _ h3).mono ?_
  rintro e w4 ⟨rfl, rfl⟩
  go_wp2_with fail
  refine (rprice_any _ p g1 k2.1 k2.2 A3 c3 _ h3).mono ?_
  rintro e w4 ⟨rfl, rfl⟩
  go_wp2
  all_goals
   go_ret
   exact ⟨ret_int (by rw [HK.out] <;> omega), rfl⟩
set_option maxHeartbeats 1600000 in
theorem rbilled_any (l : List Fact) (r : List Sp) (p : List Int) (cut : Int) (hl : l.length ≤ 1000000000) (hrl : r.length ≤ 1000000000) (hpl : p.length ≤ 1000000000) (A1 A2 A3 : Option Addr) (c1 c2 c3 B : Nat) (w : World) (h1 : RF w B A1 l) (h2 : RSO w A2 r) (h3 : RN w A3 p) :
  Calls Tryz.prog 180 #[.slice A1 l.length c1, .slice A2 r.length c2, .slice A3 p.length c3, .int .i64 cut] w fun e w' => e = .returned (.int .i64 (bEO l r p cut)) ∧ Below w.heap.size w w' := by
 obtain ⟨E, hE⟩ : ∃ E, E = bEO l r p cut := ⟨_, rfl⟩
 rw [← hE]
 have HE := Lib.hid hE; clear hE
 go_enter Tryz.func180, Tryz.ntmps180
 go_wp2_with fail
 refine (rvalidate_any l A1 c1 B _ h1 hl).mono ?_
 rintro e w1 ⟨rfl, hb1⟩
 by_cases hv : vld l = 0
 ·have hv1 : (vld l != 0) = false := by simp [hv]
  have HV := Lib.hid hv; clear hv
  go_wp2_with fail
  refine (rvrights_any r A2 c2 _ (h2.below hb1) hrl).mono ?_
  rintro e w2 ⟨rfl, hb2⟩
  have hb2' := hb1.trans (hb2.mono hb1.size)
  clear hb2
  by_cases hr : vrt r = 0
  ·have hr1 : (vrt r != 0) = false := by simp [hr]
   have hEE : E = if bG p cut then 0 else 1 := by rw [HE.out, bEO, if_neg (by rw [HV.out]; simp), if_neg (by rw [hr]; simp)]
   have HEE := Lib.hid hEE
   clear hr hEE
   by_cases hp9 : p.length = 9
   ·have hp9' : ((p.length : Int) != 9) = false := by simp [hp9]
    have hp9n : 9 ≤ p.length ∧ p.length ≤ 9 := by omega
    have HP := Lib.hid hp9; clear hp9
    cases hc : inB cut 0 10000 with
    | false =>
     have hbad : E = 1 := by rw [HEE.out, bG, hc]; simp
     have HB := Lib.hid hbad; clear hbad
     go_wp2_with (go_at_call 181; refine (within_anyO _ _ _ _).mono ?_; rintro e w' ⟨rfl, rfl⟩)
     go_ret
     exact ⟨ret_int (by rw [HB.out]), hb2'⟩
    | true =>
     have hEp : E = if prAll p p.length then 0 else 1 := by rw [HEE.out, bG, hc, decide_eq_true HP.out]; simp
     have HEP := Lib.hid hEp; clear hEp
     go_wp2_with (go_at_call 181; refine (within_anyO _ _ _ _).mono ?_; rintro e w' ⟨rfl, rfl⟩)
     go_loop [10] (fun x => ∃ k : Nat, k ≤ p.length ∧ x = .int .i64 k ∧ Hid (prAll p k = true)) (fun x => p.length - (intOf x).toNat)
     case atStart => exact ⟨0, by omega, rfl, rfl⟩
     case round =>
      obtain ⟨k, hk, rfl, HK⟩ := hrel
      by_cases hlt : k < p.length
      ·obtain ⟨ad, rfl, hab, c0⟩ := (h3.below hb2').at_ hlt
       cases hq : inB (gi p k) 0 10000 with
       | false =>
        have hf : E = 1 := by
         rw [HEP.out]
         cases ha : prAll p p.length with
         | false => rfl
         | true => rw [(prAll_iff _ _).1 ha k hlt] at hq; cases hq
        have HF := Lib.hid hf
        clear hf
        go_wp2_with (go_at_call 181; refine (within_anyO _ _ _ _).mono ?_; rintro e w' ⟨rfl, rfl⟩)
        go_ret
        exact ⟨ret_int (by rw [HF.out]), hb2'⟩
       | true =>
        have hnx : prAll p (k + 1) = true := by simp only [prAll, HK.out, hq]; rfl
        have HNX := Lib.hid hnx
        clear hnx
        go_wp2_with (go_at_call 181; refine (within_anyO _ _ _ _).mono ?_; rintro e w' ⟨rfl, rfl⟩)
        go_round
        case rel => exact ⟨k + 1, by omega, by go_num, HNX⟩
        case measure => simp [intOf]; omega
      ·have hf : E = 0 := by rw [HEP.out, show p.length = k by omega, HK.out]; rfl
       have HF := Lib.hid hf
       clear hf
       go_wp2
       go_ret
       exact ⟨ret_int (by rw [HF.out]), hb2'⟩
   ·have hp9' : ((p.length : Int) != 9) = true := by simp; omega
    have hbad : E = 1 := by rw [HEE.out, bG, decide_eq_false hp9]; rfl
    have HB := Lib.hid hbad
    clear hbad hp9
    go_wp2
    go_ret
    exact ⟨ret_int (by rw [HB.out]), hb2'⟩
  ·have hr1 : (vrt r != 0) = true := by simp [hr]
   have hEE : E = vrt r := by rw [HE.out, bEO, if_neg (by rw [HV.out]; simp), if_pos hr]
   have HEE := Lib.hid hEE
   clear hr hEE
   go_wp2
   go_ret
   exact ⟨ret_int (by rw [HEE.out]), hb2'⟩
 ·have hv1 : (vld l != 0) = true := by simp [hv]
  have hEE : E = vld l := by rw [HE.out, bEO, if_pos hv]
  have HEE := Lib.hid hEE
  clear hv hEE
  go_wp2
  go_ret
  exact ⟨ret_int (by rw [HEE.out]), hb1⟩
set_option maxHeartbeats 1600000 in
theorem payX_any (l : List Fact) (r : List Sp) (p : List Int) (cut c d : Int) (hl : l.length ≤ 1000000000) (hrl : r.length ≤ 1000000000) (hpl : p.length ≤ 1000000000) (A1 A2 A3 : Option Addr) (c1 c2 c3 B : Nat) (hc1 : l.length ≤ c1) (w : World) (h1 : RF w B A1 l) (h2 : RSO w A2 r) (h3 : RN w A3 p) :
  Calls Tryz.prog 175 #[.slice A1 l.length c1, .slice A2 r.length c2, .slice A3 p.length c3, .int .i64 cut, .int .i64 c, .int .i64 d] w fun e w' => e = .returned (.tuple #[.int .i64 (payR l r p cut c d), .int .i64 (payE l r p cut c d)]) ∧ Below w.heap.size w w' := by
 obtain ⟨bb, hbb⟩ : ∃ bb, bEO l r p cut = bb := ⟨_, rfl⟩
 obtain ⟨E, hE⟩ : ∃ E, E = payE l r p cut c d := ⟨_, rfl⟩
 have hE2 := hE.trans (payE_split l r p cut c d bb hbb)
 obtain ⟨R, hR⟩ : ∃ R, R = payR l r p cut c d := ⟨_, rfl⟩
 have hR2 : R = if E = 0 then payI l r p cut c d else 0 := by rw [hR, hE]; rfl
 rw [← hE, ← hR]
 have HE := Lib.hid hE2
 have HR := Lib.hid hR2
 have HBB := Lib.hid hbb
 clear hE hE2 hR hR2 hbb
 go_enter Tryz.func175, Tryz.ntmps175
 go_wp2_with fail
 refine (billed_any l r p cut hl hrl hpl A1 A2 A3 c1 c2 c3 B _ h1 h2 h3).mono ?_
 rintro e w1 ⟨rfl, hb1⟩
 rw [HBB.out]
 by_cases h0 : bb = 0
 ·obtain ⟨v1, v2, v3⟩ := bE_okO (HBB.out.trans h0)
  have hV := Vld.of v1
  have hr60 := (vrt_ok v2).1
  have hb0 : (bb != 0) = false := by simp [h0]
  have hEE : E = if inB c 0 99 && inB d 0 999 then 0 else 1 := by rw [HE.out, if_neg (by simp [h0])]
  have HEE := Lib.hid hEE
  clear h0 hEE v1 v2
  cases hi : inB c 0 99 with
  | false =>
   have hEv : E = 1 := by rw [HEE.out, hi]; rfl
   have hRv : R = 0 := by rw [HR.out, hEv]; rfl
   have H1 := Lib.hid hEv
   have H2 := Lib.hid hRv
   clear hEv hRv
   go_wp2_with (go_at_call 88; refine (isChild_any _ _).mono ?_; rintro e w' ⟨rfl, hw'⟩; subst hw')
   go_ret2
   exact ⟨ret2 (by rw [H2.out]; rfl) (by rw [H1.out]; rfl), hb1⟩
  | true =>
   cases hd : inB d 0 999 with
   | false =>
    have hEv : E = 1 := by rw [HEE.out, hi, hd]; rfl
    have hRv : R = 0 := by rw [HR.out, hEv]; rfl
    have H1 := Lib.hid hEv
    have H2 := Lib.hid hRv
    clear hEv hRv
    go_wp2_with (first | (go_at_call 88; refine (isChild_any _ _).mono ?_; rintro e w' ⟨rfl, hw'⟩; subst hw') | (go_at_call 111; refine (isDay_any _ _).mono ?_; rintro e w' ⟨rfl, hw'⟩; subst hw'))
    go_ret2
    exact ⟨ret2 (by rw [H2.out]; rfl) (by rw [H1.out]; rfl), hb1⟩
   | true =>
    have hdb := inB_true.1 hd
    have hEv : E = 0 := by rw [HEE.out, hi, hd]; rfl
    have hRv : R = payI l r p cut c d := by rw [HR.out, if_pos hEv]
    have H1 := Lib.hid hEv
    have H2 := Lib.hid hRv
    clear hEv hRv
    go_wp2_with (first | (go_at_call 88; refine (isChild_any _ _).mono ?_; rintro e w' ⟨rfl, hw'⟩; subst hw') | (go_at_call 111; refine (isDay_any _ _).mono ?_; rintro e w' ⟨rfl, hw'⟩; subst hw') | (go_at_call 89; refine (pay_any l r p cut c d hV v3 hr60 hdb.1 hdb.2 A1 A2 A3 c1 c2 c3 B hc1 _ (h1.below hb1) (h2.below hb1) (h3.below hb1)).mono ?_; rintro e w2 ⟨rfl, hb2⟩))
    go_ret2
    exact ⟨ret2 (by rw [H2.out]; rfl) (by rw [H1.out]; rfl), hb1.trans (hb2.mono hb1.size)⟩
 ·have hb0 : (bb != 0) = true := by simp [h0]
  have hEv : E = bb := by rw [HE.out, if_pos h0]
  have hRv : R = 0 := by rw [HR.out, if_neg (by rw [hEv]; exact h0)]
  have H1 := Lib.hid hEv
  have H2 := Lib.hid hRv
  clear hEv hRv h0
  go_wp2
  go_ret2
  exact ⟨ret2 (by rw [H2.out]; rfl) (by rw [H1.out]; rfl), hb1⟩
set_option maxHeartbeats 1600000 in
theorem rpayX_any (l : List Fact) (r : List Sp) (p : List Int) (cut c d : Int) (hl : l.length ≤ 1000000000) (hrl : r.length ≤ 1000000000) (hpl : p.length ≤ 1000000000) (A1 A2 A3 : Option Addr) (c1 c2 c3 B : Nat) (w : World) (h1 : RF w B A1 l) (h2 : RSO w A2 r) (h3 : RN w A3 p) :
  Calls Tryz.prog 100 #[.slice A1 l.length c1, .slice A2 r.length c2, .slice A3 p.length c3, .int .i64 cut, .int .i64 c, .int .i64 d] w fun e w' => e = .returned (.tuple #[.int .i64 (payR l r p cut c d), .int .i64 (payE l r p cut c d)]) ∧ Below w.heap.size w w' := by
 obtain ⟨bb, hbb⟩ : ∃ bb, bEO l r p cut = bb := ⟨_, rfl⟩
 obtain ⟨E, hE⟩ : ∃ E, E = payE l r p cut c d := ⟨_, rfl⟩
 have hE2 := hE.trans (payE_split l r p cut c d bb hbb)
 obtain ⟨R, hR⟩ : ∃ R, R = payR l r p cut c d := ⟨_, rfl⟩
 have hR2 : R = if E = 0 then payI l r p cut c d else 0 := by rw [hR, hE]; rfl
 rw [← hE, ← hR]
 have HE := Lib.hid hE2
 have HR := Lib.hid hR2
 have HBB := Lib.hid hbb
 clear hE hE2 hR hR2 hbb
 go_enter Tryz.func100, Tryz.ntmps100
 go_wp2_with fail
 refine (rbilled_any l r p cut hl hrl hpl A1 A2 A3 c1 c2 c3 B _ h1 h2 h3).mono ?_
 rintro e w1 ⟨rfl, hb1⟩
 rw [HBB.out]
 by_cases h0 : bb = 0
 ·obtain ⟨v1, v2, v3⟩ := bE_okO (HBB.out.trans h0)
  have hV := Vld.of v1
  have hr60 := (vrt_ok v2).1
  have hb0 : (bb != 0) = false := by simp [h0]
  have hEE : E = if inB c 0 99 && inB d 0 999 then 0 else 1 := by rw [HE.out, if_neg (by simp [h0])]
  have HEE := Lib.hid hEE
  clear h0 hEE v1 v2
  cases hi : inB c 0 99 with
  | false =>
   have hEv : E = 1 := by rw [HEE.out, hi]; rfl
   have hRv : R = 0 := by rw [HR.out, hEv]; rfl
   have H1 := Lib.hid hEv
   have H2 := Lib.hid hRv
   clear hEv hRv
   go_wp2_with (go_at_call 181; refine (within_anyO _ _ _ _).mono ?_; rintro e w' ⟨rfl, hw'⟩; subst hw')
   go_ret2
   exact ⟨ret2 (by rw [H2.out]; rfl) (by rw [H1.out]; rfl), hb1⟩
  | true =>
   cases hd : inB d 0 999 with
   | false =>
    have hEv : E = 1 := by rw [HEE.out, hi, hd]; rfl
    have hRv : R = 0 := by rw [HR.out, hEv]; rfl
    have H1 := Lib.hid hEv
    have H2 := Lib.hid hRv
    clear hEv hRv
    go_wp2_with (go_at_call 181; refine (within_anyO _ _ _ _).mono ?_; rintro e w' ⟨rfl, hw'⟩; subst hw')
    go_ret2
    exact ⟨ret2 (by rw [H2.out]; rfl) (by rw [H1.out]; rfl), hb1⟩
   | true =>
    have hdb := inB_true.1 hd
    have hEv : E = 0 := by rw [HEE.out, hi, hd]; rfl
    have hRv : R = payI l r p cut c d := by rw [HR.out, if_pos hEv]
    have H1 := Lib.hid hEv
    have H2 := Lib.hid hRv
    clear hEv hRv
    go_wp2_with (first | (go_at_call 181; refine (within_anyO _ _ _ _).mono ?_; rintro e w' ⟨rfl, hw'⟩; subst hw') | (go_at_call 182; refine (rpay_any l r p cut c d hV v3 hr60 hdb.1 hdb.2 A1 A2 A3 c1 c2 c3 B _ (h1.below hb1) (h2.below hb1) (h3.below hb1)).mono ?_; rintro e w2 ⟨rfl, rfl⟩))
    go_ret2
    exact ⟨ret2 (by rw [H2.out]; rfl) (by rw [H1.out]; rfl), hb1⟩
 ·have hb0 : (bb != 0) = true := by simp [h0]
  have hEv : E = bb := by rw [HE.out, if_pos h0]
  have hRv : R = 0 := by rw [HR.out, if_neg (by rw [hEv]; exact h0)]
  have H1 := Lib.hid hEv
  have H2 := Lib.hid hRv
  clear hEv hRv h0
  go_wp2
  go_ret2
  exact ⟨ret2 (by rw [H2.out]; rfl) (by rw [H1.out]; rfl), hb1⟩
end Go.Proofs.YtiapkffihpgdcaaGreatDoor
