import Derived.Test.YtiapkffihpgdcaaGreatDoorQA7
import Derived.Deep.RegionWith
import Derived.Lib.QuietBelow
set_option linter.unusedVariables false
set_option linter.unusedSimpArgs false
set_option maxRecDepth 100000
namespace Go.Proofs.YtiapkffihpgdcaaGreatDoor
open Go.RowKit Go.Sort
set_option maxHeartbeats 800000 in
theorem ruleOK_any (b : Bk) (k : Nat) (hl : (gRl b.rules k).iff.length ≤ 1000000000) (A : Option Addr) (c : Nat) (w : World) (hR : RN w A (gRl b.rules k).iff) (hp0 : 0 ≤ b.props) (hp1 : b.props ≤ 10) :
  Calls Tryz.prog 196 #[.agg #[.slice A (gRl b.rules k).iff.length c, .int .i64 (gRl b.rules k).thn], .int .i64 b.props] w fun e w' => e = .returned (.bool (rlB b k)) ∧ Below w.heap.size w w' := by
 obtain ⟨w2, hw2⟩ : ∃ w2, (w.alloc (.cells #[.slice A (gRl b.rules k).iff.length c, .int .i64 (gRl b.rules k).thn] 166)) = w2 := ⟨_, rfl⟩
 have hy : Below w.heap.size w w2 := by rw [← hw2]; exact (Below.refl _ w).alloc (Nat.le_refl _) _
 have bx : Box w2 w.heap.size #[.slice A (gRl b.rules k).iff.length c, .int .i64 (gRl b.rules k).thn] := by rw [← hw2]; exact (Box.new w _ _)
 have x0 := bx.cell 0; have x1 := bx.cell 1
 simp only [List.getElem?_toArray, List.getElem?_cons_zero, List.getElem?_cons_succ] at x0 x1
 have hR2 := hR.below hy
 obtain ⟨S, hS⟩ : ∃ S, S = rlB b k := ⟨_, rfl⟩
 rw [← hS]
 have HS := Lib.hid hS
 clear hS
 cases hq : isSet (gRl b.rules k).iff b.props with
 | false =>
  have hv : S = false := by rw [HS.out]; unfold rlB; rw [hq]; rfl
  have HV := Lib.hid hv; clear hv
  go_enter Tryz.func196, Tryz.ntmps196
  go_wp2_with (go_at_call 195; refine (risSet_any _ (b.props - 1) hl _ _ _ hR2).mono ?_; rintro e w3 ⟨rfl, hb3⟩; rw [show b.props - 1 + 1 = b.props by omega, hq])
  go_ret
  exact ⟨ret_bool (by rw [HV.out]), hy.trans (hb3.mono hy.size)⟩
 | true =>
  have hv : S = inB (gRl b.rules k).thn 0 (b.props - 1) := by rw [HS.out]; unfold rlB; rw [hq]; rfl
  have HV := Lib.hid hv; clear hv
  by_cases p1 : 0 ≤ (gRl b.rules k).thn <;> by_cases p2 : (gRl b.rules k).thn < b.props
  any_goals (exfalso; omega)
  all_goals
   go_enter Tryz.func196, Tryz.ntmps196
   go_wp2_with (go_at_call 195; refine (risSet_any _ (b.props - 1) hl _ _ _ hR2).mono ?_; rintro e w3 ⟨rfl, hb3⟩; rw [show b.props - 1 + 1 = b.props by omega, hq]; have g1 := (bx.below hb3).cell 1; simp only [List.getElem?_toArray, List.getElem?_cons_zero, List.getElem?_cons_succ] at g1; have hsz := hb3.size; clear x0 x1)
   go_ret
   refine ⟨ret_bool ?_, hy.trans (hb3.mono hy.size)⟩
   rw [HV.out]; unfold inB; first | (rw [decide_eq_decide]; omega) | (symm; rw [decide_eq_true_eq]; omega) | (symm; rw [decide_eq_false_iff_not]; omega)
set_option maxHeartbeats 2000000 in
theorem rvalidBk_any (b : Bk) (hL : BkLen b) (F : Nat → Prop) (A1 A2 : Option Addr) (c1 c2 : Nat) (hp hq hr : Nat → SlH) (w : World) (hR : RBk F w A1 A2 b hp hq hr) :
  Calls Tryz.prog 130 #[.agg #[.int .i64 b.props, .slice A1 b.items.length c1, .slice A2 b.rules.length c2]] w fun e w' => e = .returned (.int .i64 (bkE b)) ∧ Below w.heap.size w w' := by
 obtain ⟨S, hS⟩ : ∃ S, S = bkE b := ⟨_, rfl⟩
 rw [← hS]
 have HS := Lib.hid hS; clear hS
 obtain ⟨w2, hw2⟩ : ∃ w2, (w.alloc (.cells #[.int .i64 b.props, .slice A1 b.items.length c1, .slice A2 b.rules.length c2] 30)) = w2 := ⟨_, rfl⟩
 have hy : Below w.heap.size w w2 := by rw [← hw2]; exact (Below.refl _ w).alloc (Nat.le_refl _) _
 have bx : Box w2 w.heap.size #[.int .i64 b.props, .slice A1 b.items.length c1, .slice A2 b.rules.length c2] := by rw [← hw2]; exact (Box.new w _ _)
 have x0 := bx.cell 0; have x1 := bx.cell 1; have x2 := bx.cell 2
 simp only [List.getElem?_toArray, List.getElem?_cons_zero, List.getElem?_cons_succ] at x0 x1 x2
 have hR2 := hR.below hy
 have l1 := hL.it; have l2 := hL.rl
 have hsw : w.heap.size < w2.heap.size := bx.lt
 by_cases p0 : 0 ≤ b.props
 ·by_cases p1 : b.props ≤ 10
  ·have hin : inB b.props 0 10 = true := inB_true.2 ⟨p0, p1⟩
   by_cases q1 : b.items.length ≤ 20
   ·by_cases q2 : b.rules.length ≤ 16
    ·have hE : S = if itTo b b.items.length ≠ 0 then itTo b b.items.length else if rlTo b b.rules.length then 0 else 1 := by
      rw [HS.out]; unfold bkE; rw [hin, if_pos rfl, if_neg (by omega)]
     have HE := Lib.hid hE
     clear hE hin HS
     go_enter Tryz.func130, Tryz.ntmps130
     go_wp2
     go_loopw [3] (fun x wr => ∃ k : Nat, k ≤ b.items.length ∧ x = .int .i64 k ∧ Hid (itTo b k = 0) ∧ Below w2.heap.size w2 wr) (fun x _ => b.items.length - (intOf x).toNat)
     case atStart => exact ⟨0, by omega, rfl, rfl, Below.refl _ _⟩
     case round =>
      obtain ⟨k, hk, rfl, HK, hbl⟩ := hrel
      have hRk := hR2.below hbl
      have hsz := hbl.size
      have y0 := (bx.below hbl).cell 0; have y1 := (bx.below hbl).cell 1; have y2 := (bx.below hbl).cell 2
      simp only [List.getElem?_toArray, List.getElem?_cons_zero, List.getElem?_cons_succ] at y0 y1 y2
      by_cases hlt : k < b.items.length
      ·obtain ⟨ad, rfl, hab, d0, d1⟩ := hRk.it.at_ hlt
       have lp := hL.parts k hlt; have lh := hL.has k hlt
       have ew : IntKind.i64.wrap ((k : Int) - 1) = (k : Int) - 1 := IntWalk.i64_in _ (by omega)
       have ewp : IntKind.i64.wrap (b.props - 1) = b.props - 1 := IntWalk.i64_in _ (by omega)
       have k0 := cell_regrown y0; have k1 := cell_regrown y1; have k2 := cell_regrown d0; have k3 := cell_regrown d1
       have cA : ∀ d os, Calls Tryz.prog 195 #[.slice (hp k).1 (gIt b.items k).parts.length (hp k).2, .int .i64 ((k : Int) - 1)] (grow (redrawn wr d) os) fun e w'' => e = .returned (.bool (isSet (gIt b.items k).parts k)) ∧ ∃ p : Regrown, w'' = grow (redrawn wr p.d) p.os := fun d os => by
        have h := risSet_any (gIt b.items k).parts ((k : Int) - 1) (by omega) (hp k).1 (hp k).2 _ ((hRk.it.parts k hlt).rn.below (below_regrown wr d os))
        rw [show (k : Int) - 1 + 1 = k by omega] at h
        exact Calls.regrown_of h
       have cB : ∀ d os, Calls Tryz.prog 195 #[.slice (hq k).1 (gIt b.items k).has.length (hq k).2, .int .i64 (b.props - 1)] (grow (redrawn wr d) os) fun e w'' => e = .returned (.bool (isSet (gIt b.items k).has b.props)) ∧ ∃ p : Regrown, w'' = grow (redrawn wr p.d) p.os := fun d os => by
        have h := risSet_any (gIt b.items k).has (b.props - 1) (by omega) (hq k).1 (hq k).2 _ ((hRk.it.has k hlt).rn.below (below_regrown wr d os))
        rw [show b.props - 1 + 1 = b.props by omega] at h
        exact Calls.regrown_of h
       by_cases h6 : (gIt b.items k).parts.length ≤ 6
       ·cases hs1 : isSet (gIt b.items k).parts k with
        | true =>
         rw [hs1] at cA
         cases hs2 : isSet (gIt b.items k).has b.props with
         | true =>
          rw [hs2] at cB
          have HN := Lib.hid (itTo_yes HK.out (itE_to h6 hs1 hs2))
          clear HK HE
          go_wp2_with fail
          refine wp_region_quiet_below (by kernel_rfl) (by kernel_rfl) ?_
          repeat (go_big_quiet_step (first | with_reducible exact cA _ _ | with_reducible exact cB _ _))
          refine wpQuiet_nil ?_
          intro _ hw'
          obtain ⟨⟨dq, osq⟩, hw''⟩ := hw'
          subst hw''
          have hb3 := below_regrown wr dq osq
          generalize grow (redrawn wr dq) osq = w3 at *
          go_wp2_with fail
          go_roundw
          case rel => exact ⟨k + 1, by omega, by go_num, HN, hbl.trans (hb3.mono hsz)⟩
          case measure => simp [intOf]; omega
         | false =>
          rw [hs2] at cB
          have he : itE b k = 1 := by unfold itE; rw [if_neg (by omega), hs1, hs2]; rfl
          have hv : S = 1 := by rw [HE.out, itTo_bad b HK.out (by rw [he]; decide) hlt, he]; rfl
          have HV := Lib.hid hv; clear hv he HE HK
          go_wp2_with fail
          refine wp_region_quiet_below (by kernel_rfl) (by kernel_rfl) ?_
          repeat (go_big_quiet_step (first | with_reducible exact cA _ _ | with_reducible exact cB _ _))
          refine wpQuiet_nil ?_
          intro _ hw'
          obtain ⟨⟨dq, osq⟩, hw''⟩ := hw'
          subst hw''
          have hb3 := below_regrown wr dq osq
          generalize grow (redrawn wr dq) osq = w3 at *
          go_wp2_with fail
          go_ret
          exact ⟨ret_int HV.out.symm, hy.trans ((hbl.trans (hb3.mono hsz)).mono hy.size)⟩
        | false =>
         rw [hs1] at cA
         have he : itE b k = 1 := by unfold itE; rw [if_neg (by omega), hs1]; rfl
         have hv : S = 1 := by rw [HE.out, itTo_bad b HK.out (by rw [he]; decide) hlt, he]; rfl
         have HV := Lib.hid hv; clear hv he HE HK
         go_wp2_with fail
         refine wp_region_quiet_below (by kernel_rfl) (by kernel_rfl) ?_
         repeat (go_big_quiet_step (first | with_reducible exact cA _ _))
         refine wpQuiet_nil ?_
         intro _ hw'
         obtain ⟨⟨dq, osq⟩, hw''⟩ := hw'
         subst hw''
         have hb3 := below_regrown wr dq osq
         generalize grow (redrawn wr dq) osq = w3 at *
         go_wp2_with fail
         go_ret
         exact ⟨ret_int HV.out.symm, hy.trans ((hbl.trans (hb3.mono hsz)).mono hy.size)⟩
       ·have h6' : 6 < (gIt b.items k).parts.length := by omega
        have he : itE b k = 4 := by unfold itE; rw [if_pos h6']
        have hv : S = 4 := by rw [HE.out, itTo_bad b HK.out (by rw [he]; decide) hlt, he]; rfl
        have HV := Lib.hid hv; clear hv he HE HK
        clear h6
        go_wp2
        go_ret
        exact ⟨ret_int HV.out.symm, hy.trans (hbl.mono hy.size)⟩
      ·obtain rfl : k = b.items.length := by omega
       have hE2 : S = if rlTo b b.rules.length then 0 else 1 := by rw [HE.out, HK.out]; rfl
       have HE2 := Lib.hid hE2
       clear hE2 HE HK
       go_wp2
       go_loopw [4] (fun x wr => ∃ k : Nat, k ≤ b.rules.length ∧ x = .int .i64 k ∧ Hid (rlTo b k = true) ∧ Below w2.heap.size w2 wr) (fun x _ => b.rules.length - (intOf x).toNat)
       case atStart => exact ⟨0, by omega, rfl, rfl, hbl⟩
       case round =>
        rename_i wr0
        clear hRk y0 y1 y2
        obtain ⟨k, hk, rfl, HK, hbl⟩ := hrel
        have hRk := hR2.below hbl
        have hsz := hbl.size
        have y0 := (bx.below hbl).cell 0; have y1 := (bx.below hbl).cell 1; have y2 := (bx.below hbl).cell 2
        simp only [List.getElem?_toArray, List.getElem?_cons_zero, List.getElem?_cons_succ] at y0 y1 y2
        by_cases hlt : k < b.rules.length
        ·obtain ⟨ad, rfl, hab, d0, d1⟩ := hRk.rl.at_ hlt
         have lp := hL.iff k hlt
         have k0 := cell_regrown y0; have k1 := cell_regrown y2; have k2 := cell_regrown d0; have k3 := cell_regrown d1
         have cR : ∀ d os, Calls Tryz.prog 196 #[.agg #[.slice (hr k).1 (gRl b.rules k).iff.length (hr k).2, .int .i64 (gRl b.rules k).thn], .int .i64 b.props] (grow (redrawn wr d) os) fun e w'' => e = .returned (.bool (rlB b k)) ∧ ∃ p : Regrown, w'' = grow (redrawn wr p.d) p.os := fun d os =>
          Calls.regrown_of (ruleOK_any b k lp (hr k).1 (hr k).2 _ ((hRk.rl.iff k hlt).rn.below (below_regrown wr d os)) p0 p1)
         cases hs1 : rlB b k with
         | true =>
          rw [hs1] at cR
          have HN := Lib.hid (rlTo_yes HK.out hs1)
          clear HK HE2
          go_wp2_with fail
          refine wp_region_quiet_below (by kernel_rfl) (by kernel_rfl) ?_
          repeat (go_big_quiet_step (first | with_reducible exact cR _ _))
          refine wpQuiet_nil ?_
          intro _ hw'
          obtain ⟨⟨dq, osq⟩, hw''⟩ := hw'
          subst hw''
          have hb3 := below_regrown wr dq osq
          generalize grow (redrawn wr dq) osq = w3 at *
          go_wp2_with fail
          go_roundw
          case rel => exact ⟨k + 1, by omega, by go_num, HN, hbl.trans (hb3.mono hsz)⟩
          case measure => simp [intOf]; omega
         | false =>
          rw [hs1] at cR
          have hv : S = 1 := by rw [HE2.out, rlTo_bad b hs1 hlt]; rfl
          have HV := Lib.hid hv; clear hv HK HE2
          go_wp2_with fail
          refine wp_region_quiet_below (by kernel_rfl) (by kernel_rfl) ?_
          repeat (go_big_quiet_step (first | with_reducible exact cR _ _))
          refine wpQuiet_nil ?_
          intro _ hw'
          obtain ⟨⟨dq, osq⟩, hw''⟩ := hw'
          subst hw''
          have hb3 := below_regrown wr dq osq
          generalize grow (redrawn wr dq) osq = w3 at *
          go_wp2_with fail
          go_ret
          exact ⟨ret_int HV.out.symm, hy.trans ((hbl.trans (hb3.mono hsz)).mono hy.size)⟩
        ·obtain rfl : k = b.rules.length := by omega
         have hv : S = 0 := by rw [HE2.out, HK.out]; rfl
         have HV := Lib.hid hv; clear hv HK HE2
         go_wp2
         go_ret
         exact ⟨ret_int HV.out.symm, hy.trans (hbl.mono hy.size)⟩
    ·have hv : S = 4 := by rw [HS.out]; unfold bkE; rw [hin, if_pos rfl, if_pos (by omega)]
     have HV := Lib.hid hv; clear hv hin HS
     go_enter Tryz.func130, Tryz.ntmps130
     go_wp2
     go_ret
     exact ⟨ret_int HV.out.symm, hy⟩
   ·have hv : S = 4 := by rw [HS.out]; unfold bkE; rw [hin, if_pos rfl, if_pos (by omega)]
    have HV := Lib.hid hv; clear hv hin HS
    go_enter Tryz.func130, Tryz.ntmps130
    go_wp2
    go_ret
    exact ⟨ret_int HV.out.symm, hy⟩
  ·have hv : S = 1 := by rw [HS.out]; unfold bkE; rw [inB_false.2 (by omega)]; rfl
   have HV := Lib.hid hv; clear hv HS
   go_enter Tryz.func130, Tryz.ntmps130
   go_wp2
   go_ret
   exact ⟨ret_int HV.out.symm, hy⟩
 ·have hv : S = 1 := by rw [HS.out]; unfold bkE; rw [inB_false.2 (by omega)]; rfl
  have HV := Lib.hid hv; clear hv HS
  go_enter Tryz.func130, Tryz.ntmps130
  go_wp2
  go_ret
  exact ⟨ret_int HV.out.symm, hy⟩
end Go.Proofs.YtiapkffihpgdcaaGreatDoor
namespace Go.Proofs.YtiapkffihpgdcaaGreatDoor
open Go.RowKit
def blM (m n : Nat) : List Bool := (List.range n).map m.testBit
def gB (l : List Bool) (k : Nat) : Bool := l.getD k false
def bls (l : List Bool) : List Value := l.map Value.bool
theorem blM_zero (n : Nat) : List.replicate n false = blM 0 n := by
 apply List.ext_getElem (by simp [blM])
 intro i h1 h2
 simp [blM]
theorem blM_set (m n x : Nat) (hx : x < n) : (blM m n).set x true = blM (m ||| 1 <<< x) n := by
 apply List.ext_getElem (by simp [blM])
 intro i h1 h2
 have hb : (1 <<< x).testBit i = decide (x = i) := by rw [Nat.shiftLeft_eq, Nat.one_mul, Nat.testBit_two_pow]
 simp only [List.getElem_set, blM, List.getElem_map, List.getElem_range, Nat.testBit_or, hb]
 by_cases e : x = i
 ·subst e; simp
 ·simp [e]
theorem info_bool : (Tryz.prog.info? 4).map (fun i => (i.zero, i.size, i.bytes)) = some (some (.bool false), 1, 1) := by kernel_rfl
theorem madeBools (n : Nat) : (madeCells (Value.bool false).cells (n * 1)).toList = bls (List.replicate n false) := by
 rw [Nat.mul_one]
 show (madeCells #[Value.bool false] n).toList = _
 rw [toList_madeCells_one, bls, List.map_replicate]
/-- A slice of the call's own of so many truth values. -/
def OwnBl (w : World) (base g n : Nat) (m : Nat) : Prop := w.ownsRow base 4 1 (.slice (some ⟨g, 0, none⟩) n n) n (bls (blM m n))
section
variable {w w' : World} {base g n m : Nat}
theorem OwnBl.made {w : World} {base g n : Nat} (h : w.ownsRow base 4 1 (.slice (some ⟨g, 0, none⟩) n n) n (madeCells (Value.bool false).cells (n * 1)).toList) : OwnBl w base g n 0 := by
 unfold OwnBl; rw [← blM_zero, ← madeBools]; exact h
theorem OwnBl.cell (h : OwnBl w base g n m) (k : Nat) (hk : k < n) : w.cell? ⟨g, k, none⟩ = some (.bool (m.testBit k)) := by
 have e := World.ownsRow.cellAt h k (by omega)
 rw [e]
 simp [bls, blM, hk]
theorem OwnBl.frozen (h : OwnBl w base g n m) (k : Nat) : w.frozen? ⟨g, k, none⟩ = false := World.ownsRow.frozenAt h k
theorem OwnBl.lt (h : OwnBl w base g n m) : base ≤ g ∧ g < w.heap.size := World.ownsRow.lt h g rfl
theorem OwnBl.kept (h : OwnBl w base g n m) {B : Nat} (hb : Below B w w') (hB : g < B) : OwnBl w' base g n m := own_below h hb fun k hk => by simp [Value.ownBlock] at hk; omega
theorem OwnBl.stored (h : OwnBl w base g n m) (k : Nat) (hk : k < n) : OwnBl (w.setCell ⟨g, k, none⟩ (.bool true)) base g n (m ||| 1 <<< k) := by
 have e := (World.ownsRow.stored h k (.bool true)).1
 unfold OwnBl
 rw [← blM_set m n k hk]
 have : bls ((blM m n).set k true) = (bls (blM m n)).set k (.bool true) := by simp [bls]
 rw [this]
 exact e
end
/-- The slice (A, n) reads as the set m of numbers below n. -/
def RB (w : World) (A : Option Addr) (n m : Nat) : Prop := Reads w w.heap.size 1 A n (bls (blM m n))
section
variable {w w' : World} {base g n m : Nat} {A : Option Addr}
theorem RB.below (h : RB w A n m) (hb : Below w.heap.size w w') : RB w' A n m := (Reads.below' h hb (Nat.le_refl _)).more hb.size
theorem RB.of_own (h : OwnBl w base g n m) : RB w (some ⟨g, 0, none⟩) n m := Reads.of_own h
theorem RB.at_ (h : RB w A n m) {k : Nat} (hk : k < n) : ∃ ad, A = some ad ∧ (ad.add k).block < w.heap.size ∧ w.cell? (ad.add k) = some (.bool (m.testBit k)) := by
 obtain ⟨ad, e, hb, hc⟩ := h.2 (by omega)
 exact ⟨ad, e, by rw [block_of_add]; exact hb, hc k _ (by simp [bls, blM, hk])⟩
end
theorem bit_nat (x : Nat) : bit (x : Int) = 1 <<< x := by simp [bit]
theorem maskTo_succ (l : List Int) (k : Nat) : maskTo l (k + 1) = maskTo l k ||| bit (gi l k) := rfl
set_option maxHeartbeats 800000 in
theorem all_any (m n : Nat) (l : List Int) (hl : ∀ i, i < l.length → 0 ≤ gi l i ∧ gi l i < n) (hlen : l.length ≤ 1000000000) (A A' : Option Addr) (c c' : Nat) (w : World) (hm : RB w A n m) (hR : RN w A' l) (hn : n ≤ 1000000) :
  Calls Tryz.prog 255 #[.slice A n c, .slice A' l.length c'] w fun e w' => e = .returned (.bool (allIn l m)) ∧ w' = w := by
 obtain ⟨S, hS⟩ : ∃ S, S = allIn l m := ⟨_, rfl⟩
 rw [← hS]
 have HS := Lib.hid hS; clear hS
 go_enter Tryz.func255, Tryz.ntmps255
 go_wp2
 go_loop [5] (fun x => ∃ k : Nat, k ≤ l.length ∧ x = .int .i64 k ∧ Hid (allTo l m k = true)) (fun x => l.length - (intOf x).toNat)
 case atStart => exact ⟨0, by omega, rfl, rfl⟩
 case round =>
  obtain ⟨k, hk, rfl, HK⟩ := hrel
  by_cases hlt : k < l.length
  ·obtain ⟨x0, x1⟩ := hl k hlt
   obtain ⟨ad, rfl, hab, c0⟩ := hR.at_ hlt
   obtain ⟨x, hx⟩ : ∃ x : Nat, gi l k = (x : Int) := ⟨(gi l k).toNat, by omega⟩
   have hxt : (gi l k).toNat = x := by omega
   have hxn : x < n := by omega
   rw [hx] at c0
   obtain ⟨ad2, rfl, hab2, d0⟩ := hm.at_ hxn
   cases hq : m.testBit x with
   | true =>
    rw [hq] at d0
    have HN : Hid (allTo l m (k + 1) = true) := by show allTo l m (k + 1) = true; simp only [allTo]; rw [HK.out, hxt, hq]; rfl
    clear hq hx hxt
    go_wp2
    go_round
    case rel => exact ⟨k + 1, by omega, by go_num, HN⟩
    case measure => simp [intOf]; omega
   | false =>
    rw [hq] at d0
    have hv : S = false := by rw [HS.out]; unfold allIn; exact allTo_bad _ _ (by rw [hxt]; exact hq) hlt
    have HV := Lib.hid hv; clear hv hq hx hxt HS
    go_wp2
    go_ret
    exact ⟨ret_bool HV.out.symm, rfl⟩
  ·obtain rfl : k = l.length := by omega
   have hv : S = true := by rw [HS.out]; exact HK.out
   have HV := Lib.hid hv; clear hv HS
   go_wp2
   go_ret
   exact ⟨ret_bool HV.out.symm, rfl⟩
set_option maxHeartbeats 2000000 in
theorem inside_any (b : Bk) (hb : BkOk b) (i : Nat) (hi : i < b.items.length) (F : Nat → Prop) (A1 A2 : Option Addr) (c1 c2 : Nat) (hp hq hr : Nat → SlH) (w : World) (hR : RBk F w A1 A2 b hp hq hr) :
  Calls Tryz.prog 256 #[.agg #[.int .i64 b.props, .slice A1 b.items.length c1, .slice A2 b.rules.length c2], .int .i64 i] w fun e w' => ∃ g, e = .returned (.slice (some ⟨g, 0, none⟩) b.items.length b.items.length) ∧ OwnBl w' w.heap.size g b.items.length (conN b.items i) ∧ Below w.heap.size w w' := by
 obtain ⟨w2, hw2⟩ : ∃ w2, (w.alloc (.cells #[.int .i64 b.props, .slice A1 b.items.length c1, .slice A2 b.rules.length c2] 30)) = w2 := ⟨_, rfl⟩
 have hy : Below w.heap.size w w2 := by rw [← hw2]; exact (Below.refl _ w).alloc (Nat.le_refl _) _
 have bx : Box w2 w.heap.size #[.int .i64 b.props, .slice A1 b.items.length c1, .slice A2 b.rules.length c2] := by rw [← hw2]; exact (Box.new w _ _)
 have x0 := bx.cell 0; have x1 := bx.cell 1; have x2 := bx.cell 2
 simp only [List.getElem?_toArray, List.getElem?_cons_zero, List.getElem?_cons_succ] at x0 x1 x2
 have hR2 := hR.below hy
 have h20 := hb.i20
 have hsw : w.heap.size < w2.heap.size := bx.lt
 obtain ⟨i0, hi0, hz0, hz1, hz2⟩ := info_parts info_bool
 go_enter Tryz.func256, Tryz.ntmps256
 have hby : i0.bytes * b.items.length ≤ 281474976710656 := by rw [hz2]; omega
 go_wp2_with (at_make; refine wpList_make_full _ rfl _ _ 250 rfl w2.heap.size 4 i0 _ 1 Tryz.underlying250 hi0 hz0 hz1 .i64 .i64 _ _ b.items.length rfl rfl rfl rfl hby (by unfold maxLen; omega) (Nat.le_refl _) ?_; intro w1 hown1 hg1; have own0 := OwnBl.made hown1; have hb1 : Below w2.heap.size w2 w1 := (Below.refl _ _).grown hg1 (Nat.le_refl _) (by simp); have z0 := own0.cell i hi; have y0 := own0.frozen i; clear hown1 hg1 x0 x1 x2)
 have own1 := own0.stored i hi
 have hb2 := hb1.setCell (p := ⟨w2.heap.size, i, none⟩) (Nat.le_refl _) (.bool true)
 clear own0 hb1
 rw [Nat.zero_or] at own1
 go_loopw [6] (fun x wr => ∃ k M : Nat, k ≤ i + 1 ∧ x = .int .i64 ((k : Int) - 1) ∧ M < 2 ^ 20 ∧ Hid (conTo b.items M k = conN b.items i) ∧ OwnBl wr w2.heap.size w2.heap.size b.items.length M ∧ Below w2.heap.size w2 wr) (fun x _ => (intOf x + 1).toNat)
 case atStart => exact ⟨i + 1, 1 <<< i, by omega, by go_num, by rw [Nat.shiftLeft_eq, Nat.one_mul]; exact Nat.pow_lt_pow_right (by omega) (by omega), rfl, own1, hb2⟩
 case round =>
  clear own1 hb2
  obtain ⟨k, M, hk, rfl, hM, HC, own, hbl⟩ := hrel
  have hRk := hR2.below hbl
  have hsz := hbl.size
  have y0 := (bx.below hbl).cell 0; have y1 := (bx.below hbl).cell 1; have y2 := (bx.below hbl).cell 2
  simp only [List.getElem?_toArray, List.getElem?_cons_zero, List.getElem?_cons_succ] at y0 y1 y2
  by_cases hlt : 0 < k
  ·obtain ⟨k, rfl⟩ : ∃ j, k = j + 1 := ⟨k - 1, by omega⟩
   have hki : k < b.items.length := by omega
   cases hq : M.testBit k with
   | true =>
    have HN : Hid (conTo b.items (M ||| maskN (gIt b.items k).parts) k = conN b.items i) := by have := HC.out; simp only [conTo, hq, if_true] at this; exact this
    have HQ := Lib.hid hq
    clear hq HC
    go_wp2
    go_loopw [7] (fun x wx => ∃ p : Nat, p ≤ (gIt b.items k).parts.length ∧ x = .int .i64 p ∧ OwnBl wx w2.heap.size w2.heap.size b.items.length (M ||| maskTo (gIt b.items k).parts p) ∧ Below w2.heap.size w2 wx) (fun x _ => (gIt b.items k).parts.length - (intOf x).toNat)
    case atStart => exact ⟨0, by omega, rfl, by simpa [maskTo] using own, hbl⟩
    case round =>
     clear own hbl hRk hsz y0 y1 y2
     obtain ⟨p, hp, rfl, own, hbl⟩ := hrel
     have hRk := hR2.below hbl
     have hsz := hbl.size
     have y0 := (bx.below hbl).cell 0; have y1 := (bx.below hbl).cell 1; have y2 := (bx.below hbl).cell 2
     simp only [List.getElem?_toArray, List.getElem?_cons_zero, List.getElem?_cons_succ] at y0 y1 y2
     obtain ⟨ad, rfl, hab, d0, d1⟩ := hRk.it.at_ hki
     have h6 := hb.six k hki
     by_cases hpl : p < (gIt b.items k).parts.length
     ·obtain ⟨ad2, e2, hab2, c0⟩ := (hRk.it.parts k hki).at_ hpl
      rw [e2] at d0
      have hse := isSet_at (hb.parts k hki) hpl
      obtain ⟨x, hx⟩ : ∃ x : Nat, gi (gIt b.items k).parts p = (x : Int) := ⟨(gi (gIt b.items k).parts p).toNat, by omega⟩
      have hxn : x < b.items.length := by omega
      have z0 := own.cell k hki
      have hbk : (M ||| maskTo (gIt b.items k).parts p).testBit k = true := by rw [Nat.testBit_or, HQ.out]; rfl
      rw [hbk] at z0
      have z1 := own.cell x hxn
      have f1 := own.frozen x
      have own2 := own.stored x hxn
      have he : M ||| maskTo (gIt b.items k).parts p ||| 1 <<< x = M ||| maskTo (gIt b.items k).parts (p + 1) := by rw [maskTo_succ, hx, bit_nat, Nat.or_assoc]
      rw [he] at own2
      have hb4 := hbl.setCell (p := ⟨w2.heap.size, x, none⟩) (Nat.le_refl _) (.bool true)
      rw [hx] at c0
      have hpm : ((p : Int) < (gIt b.items k).parts.length) := by omega
      clear hbk he hx own hbl
      go_wp2
      go_roundw
      case rel => exact ⟨p + 1, by omega, by go_num, own2, hb4⟩
      case measure => simp [intOf]; omega
     ·obtain rfl : p = (gIt b.items k).parts.length := by omega
      have hb4 := parts_lt hb hki
      have hM2 : (M ||| maskN (gIt b.items k).parts) < 2 ^ 20 := or_lt hM (Nat.lt_of_lt_of_le hb4 (Nat.pow_le_pow_right (by omega) (by omega)))
      go_wp2
      go_roundw
      case rel => exact ⟨k, _, by omega, by go_num, hM2, HN, own, hbl⟩
      case measure => simp [intOf]
   | false =>
    have HN : Hid (conTo b.items M k = conN b.items i) := by have := HC.out; simp only [conTo, hq] at this; exact this
    have z0 := own.cell k hki
    rw [hq] at z0
    clear hq HC
    obtain ⟨ad, rfl, hab, d0, d1⟩ := hRk.it.at_ hki
    by_cases hpl : 0 < (gIt b.items k).parts.length
    all_goals
     go_wp2
     go_loopw [7] (fun x wx => x = .int .i64 0 ∧ wx = wr) (fun x _ => 0)
     case atStart => exact ⟨rfl, rfl⟩
     case round =>
      obtain ⟨rfl, rfl⟩ := hrel
      go_wp2
      go_roundw
      case rel => exact ⟨k, M, by omega, by go_num, hM, HN, own, hbl⟩
      case measure => simp [intOf]
  ·have hk0 : k = 0 := by omega
   subst hk0
   have hv : M = conN b.items i := HC.out
   subst hv
   go_wp2
   go_ret
   exact ⟨_, rfl, own_base own (by omega), hy.trans (hbl.mono hy.size)⟩
set_option maxHeartbeats 2000000 in
theorem rbase_any (b : Bk) (hb : BkOk b) (i : Nat) (hi : i < b.items.length) (F : Nat → Prop) (A1 A2 : Option Addr) (c1 c2 : Nat) (hp hq hr : Nat → SlH) (w : World) (hR : RBk F w A1 A2 b hp hq hr) :
  Calls Tryz.prog 186 #[.agg #[.int .i64 b.props, .slice A1 b.items.length c1, .slice A2 b.rules.length c2], .int .i64 i] w fun e w' => ∃ g, e = .returned (.slice (some ⟨g, 0, none⟩) b.props.toNat b.props.toNat) ∧ OwnBl w' w.heap.size g b.props.toNat (basN b i) ∧ Below w.heap.size w w' := by
 obtain ⟨w2, hw2⟩ : ∃ w2, (w.alloc (.cells #[.int .i64 b.props, .slice A1 b.items.length c1, .slice A2 b.rules.length c2] 30)) = w2 := ⟨_, rfl⟩
 have hy : Below w.heap.size w w2 := by rw [← hw2]; exact (Below.refl _ w).alloc (Nat.le_refl _) _
 have bx : Box w2 w.heap.size #[.int .i64 b.props, .slice A1 b.items.length c1, .slice A2 b.rules.length c2] := by rw [← hw2]; exact (Box.new w _ _)
 have x0 := bx.cell 0; have x1 := bx.cell 1; have x2 := bx.cell 2
 simp only [List.getElem?_toArray, List.getElem?_cons_zero, List.getElem?_cons_succ] at x0 x1 x2
 have hR2 := hR.below hy
 have h20 := hb.i20; have hp0 := hb.p0; have hp10 := hb.p10
 have hsw : w.heap.size < w2.heap.size := bx.lt
 obtain ⟨i0, hi0, hz0, hz1, hz2⟩ := info_parts info_bool
 have hby : i0.bytes * b.props.toNat ≤ 281474976710656 := by rw [hz2]; omega
 have hpi := Lib.hid (show b.props = ((b.props.toNat : Nat) : Int) by omega)
 go_enter Tryz.func186, Tryz.ntmps186
 go_wp2_with (first
  | (at_make; refine wpList_make_full _ rfl _ _ 250 rfl w2.heap.size 4 i0 _ 1 Tryz.underlying250 hi0 hz0 hz1 .i64 .i64 _ _ b.props.toNat rfl rfl hpi.out hpi.out hby (by unfold maxLen; omega) (Nat.le_refl _) ?_; intro w1 hown1 hg1; have own0 := OwnBl.made hown1; have hb1 : Below w2.heap.size w2 w1 := (Below.refl _ _).grown hg1 (Nat.le_refl _) (by simp); have hR1 := hR2.below hb1; have z0 := (bx.below hb1).cell 0; have z1 := (bx.below hb1).cell 1; have z2 := (bx.below hb1).cell 2; simp only [List.getElem?_toArray, List.getElem?_cons_zero, List.getElem?_cons_succ] at z0 z1 z2; clear hown1 hg1 x0 x1 x2)
  | (go_at_call 256; (with_reducible refine (inside_any b hb i hi F A1 A2 c1 c2 hp hq hr _ hR1).mono ?_); rintro e w3 ⟨g, rfl, ownI, hb3⟩))
 have own3 := own0.kept hb3 own0.lt.2
 have hb13 := hb1.trans (hb3.mono hb1.size)
 have hgI := ownI.lt.1
 have hg0 := own0.lt.2
 have hcl := conN_lt hb hi
 obtain ⟨C, hC⟩ : ∃ C, conN b.items i = C := ⟨_, rfl⟩
 have hBN : Hid (basTo b.items C b.items.length = basN b i) := by show _ = _; rw [← hC]; rfl
 rw [hC] at ownI
 clear own0 hb1 hb3 z0 z1 z2 hR1
 go_loopw [7] (fun x wr => ∃ k : Nat, k ≤ b.items.length ∧ x = .int .i64 k ∧ OwnBl wr w2.heap.size w2.heap.size b.props.toNat (basTo b.items C k) ∧ OwnBl wr w1.heap.size g b.items.length C ∧ Below w2.heap.size w2 wr) (fun x _ => b.items.length - (intOf x).toNat)
 case atStart => exact ⟨0, by omega, rfl, own3, ownI, hb13⟩
 case round =>
  clear own3 ownI hb13
  obtain ⟨k, hk, rfl, own, ownI, hbl⟩ := hrel
  have hRk := hR2.below hbl
  have hsz := hbl.size
  have y0 := (bx.below hbl).cell 0; have y1 := (bx.below hbl).cell 1; have y2 := (bx.below hbl).cell 2
  simp only [List.getElem?_toArray, List.getElem?_cons_zero, List.getElem?_cons_succ] at y0 y1 y2
  by_cases hlt : k < b.items.length
  ·cases hq : C.testBit k with
   | true =>
    have HN : Hid (basTo b.items C (k + 1) = basTo b.items C k ||| maskN (gIt b.items k).has) := by show _ = _; simp only [basTo, hq, if_true]
    have HQ := Lib.hid hq
    clear hq
    go_wp2
    go_loopw [8] (fun x wx => ∃ p : Nat, p ≤ (gIt b.items k).has.length ∧ x = .int .i64 p ∧ OwnBl wx w2.heap.size w2.heap.size b.props.toNat (basTo b.items C k ||| maskTo (gIt b.items k).has p) ∧ OwnBl wx w1.heap.size g b.items.length C ∧ Below w2.heap.size w2 wx) (fun x _ => (gIt b.items k).has.length - (intOf x).toNat)
    case atStart => exact ⟨0, by omega, rfl, by simpa [maskTo] using own, ownI, hbl⟩
    case round =>
     clear own ownI hbl hRk hsz y0 y1 y2
     obtain ⟨p, hp, rfl, own, ownI, hbl⟩ := hrel
     have hRk := hR2.below hbl
     have hsz := hbl.size
     have y0 := (bx.below hbl).cell 0; have y1 := (bx.below hbl).cell 1; have y2 := (bx.below hbl).cell 2
     simp only [List.getElem?_toArray, List.getElem?_cons_zero, List.getElem?_cons_succ] at y0 y1 y2
     obtain ⟨ad, rfl, hab, d0, d1⟩ := hRk.it.at_ hlt
     have hll := isSet_len (hb.has k hlt) (by omega)
     have z0 := ownI.cell k hlt
     rw [HQ.out] at z0
     by_cases hpl : p < (gIt b.items k).has.length
     ·obtain ⟨ad2, e2, hab2, c0⟩ := (hRk.it.has k hlt).at_ hpl
      rw [e2] at d1
      have hse := isSet_at (hb.has k hlt) hpl
      obtain ⟨x, hx⟩ : ∃ x : Nat, gi (gIt b.items k).has p = (x : Int) := ⟨(gi (gIt b.items k).has p).toNat, by omega⟩
      have hxn : x < b.props.toNat := by omega
      have z1 := own.cell x hxn
      have f1 := own.frozen x
      have own2 := own.stored x hxn
      have he : basTo b.items C k ||| maskTo (gIt b.items k).has p ||| 1 <<< x = basTo b.items C k ||| maskTo (gIt b.items k).has (p + 1) := by rw [maskTo_succ, hx, bit_nat, Nat.or_assoc]
      rw [he] at own2
      have hb4 := hbl.setCell (p := ⟨w2.heap.size, x, none⟩) (Nat.le_refl _) (.bool true)
      have ownI2 : OwnBl (wr.setCell ⟨w2.heap.size, x, none⟩ (.bool true)) w1.heap.size g b.items.length C := ownsRow_setCell_below ownI (show w2.heap.size < w1.heap.size by omega) _
      rw [hx] at c0
      clear he hx own ownI hbl
      go_wp2
      go_roundw
      case rel => exact ⟨p + 1, by omega, by go_num, own2, ownI2, hb4⟩
      case measure => simp [intOf]; omega
     ·obtain rfl : p = (gIt b.items k).has.length := by omega
      go_wp2
      go_roundw
      case rel => exact ⟨k + 1, by omega, by go_num, by rw [HN.out]; exact own, ownI, hbl⟩
      case measure => simp [intOf]; omega
   | false =>
    have HN : Hid (basTo b.items C (k + 1) = basTo b.items C k) := by show _ = _; simp only [basTo, hq]; rfl
    have z0 := ownI.cell k hlt
    rw [hq] at z0
    have hll := isSet_len (hb.has k hlt) (by omega)
    clear hq
    obtain ⟨ad, rfl, hab, d0, d1⟩ := hRk.it.at_ hlt
    by_cases hpl : 0 < (gIt b.items k).has.length
    all_goals
     go_wp2
     go_loopw [8] (fun x wx => x = .int .i64 0 ∧ wx = wr) (fun x _ => 0)
     case atStart => exact ⟨rfl, rfl⟩
     case round =>
      obtain ⟨rfl, rfl⟩ := hrel
      go_wp2
      go_roundw
      case rel => exact ⟨k + 1, by omega, by go_num, by rw [HN.out]; exact own, ownI, hbl⟩
      case measure => simp [intOf]; omega
  ·obtain rfl : k = b.items.length := by omega
   go_wp2
   go_ret
   exact ⟨_, rfl, own_base (by rw [← hBN.out]; exact own) (by omega), hy.trans (hbl.mono hy.size)⟩
/-- 'out := append([]bool{}, m...)'. -/
theorem bls_one (l : List Bool) : ∀ u ∈ bls l, u.oneCell' = true := by
 intro u hu
 obtain ⟨f, _, rfl⟩ := List.mem_map.1 hu
 rfl
set_option maxHeartbeats 2000000 in
theorem places_any (n m : Nat) (hn : n ≤ 1000000) (A : Option Addr) (c : Nat) (w : World) (hm : RB w A n m) :
  Calls Tryz.prog 184 #[.slice A n c] w fun e w' => ∃ A' c', e = .returned (.slice A' (bitsTo m n).length c') ∧ OwnN w' w.heap.size A' c' (bitsTo m n) ∧ Below w.heap.size w w' := by
 go_enter Tryz.func184, Tryz.ntmps184
 go_wp2
 go_loopw [3, 4] (fun o x wr => ∃ k : Nat, k ≤ n ∧ x = .int .i64 k ∧ ∃ A' c', o = .slice A' (bitsTo m k).length c' ∧ OwnN wr w.heap.size A' c' (bitsTo m k) ∧ Below w.heap.size w wr) (fun _ x _ => n - (intOf x).toNat)
 case atStart => exact ⟨0, by omega, rfl, none, 0, rfl, World.ownsRow_nil _ _ _ _, Below.refl _ _⟩
 case round =>
  obtain ⟨k, hk, rfl, A', c', rfl, own, hy⟩ := hrel
  have hll := bitsTo_len m k
  by_cases hlt : k < n
  ·obtain ⟨ad, rfl, hab, e0⟩ := (hm.below hy).at_ hlt
   have hbs := hy.size
   cases hq : m.testBit k with
   | true =>
    rw [hq] at e0
    have HS : Hid (bitsTo m (k + 1) = bitsTo m k ++ [(k : Int)]) := by show _ = _; simp only [bitsTo, hq, if_true]
    clear hq
    go_wp2_with (at_builtin; refine wpList_app1 rfl _ _ rfl Tryz.underlying22 info_int rfl (by omega) rfl own rfl rfl (by simp [Value.oneCell']) (by omega) (by omega) (by omega) ?_; intro A'' c'' w3 own3 hb3)
    go_roundw
    case rel => exact ⟨k + 1, by omega, by go_num, A'', c'', by rw [HS.out, List.length_append]; rfl, OwnN.snoc own3 rfl (by rw [HS.out]), hy.trans (hb3 _ (Nat.le_refl _))⟩
    case measure => simp [intOf]; omega
   | false =>
    rw [hq] at e0
    have HS : Hid (bitsTo m (k + 1) = bitsTo m k) := by show _ = _; simp only [bitsTo, hq]; rfl
    clear hq
    go_wp2
    go_roundw
    case rel => exact ⟨k + 1, by omega, by go_num, A', c', by rw [HS.out], by rw [HS.out]; exact own, hy⟩
    case measure => simp [intOf]; omega
  ·obtain rfl : k = n := by omega
   go_wp2
   go_ret
   exact ⟨A', c', rfl, own, hy⟩
end Go.Proofs.YtiapkffihpgdcaaGreatDoor
