/-
  Walks: until and the search behind it, reason, known.
-/
import Derived.Test.YtoopmancobfjeaaA
namespace Go.Proofs.Ytoopmancobfjeaa
set_option linter.unusedVariables false
set_option linter.unusedSimpArgs false
open Go.RowKit

def leq1 (a t : Int) : Int := if a ≤ t then -1 else 1
theorem leq1_yes {a t : Int} (h : a ≤ t) : leq1 a t = -1 := by unfold leq1; rw [if_pos h]
theorem leq1_no {a t : Int} (h : t < a) : leq1 a t = 1 := by unfold leq1; rw [if_neg (by omega)]

theorem untilf_any (a c f u m t : Int) (w : World) :
    Calls Try.prog 93 #[.agg #[.int .i64 a, .int .i64 c, .int .i64 f, .int .i64 u, .int .i64 m], .int .i64 t] w fun e w' => e = .returned (.int .i64 (leq1 a t)) ∧ Below w.heap.size w w' := by
  by_cases h : a ≤ t
  · go_enter Try.func93, Try.ntmps93
    go_wp2
    go_ret
    exact ⟨ret_int (leq1_yes h).symm, by go_grown⟩
  · go_enter Try.func93, Try.ntmps93
    go_wp2
    go_ret
    exact ⟨ret_int (leq1_no (by omega)).symm, by go_grown⟩

theorem covers_any (a c f u m child day : Int) (w : World) :
    Calls Try.prog 77 #[.agg #[.int .i64 a, .int .i64 c, .int .i64 f, .int .i64 u, .int .i64 m], .int .i64 child, .int .i64 day] w fun e w' => e = .returned (.bool (covN c f u child day)) ∧ Below w.heap.size w w' := by
  go_enter Try.func77, Try.ntmps77
  go_wp2
  all_goals
    go_ret
    exact ⟨ret_bool (by unfold covN; first | (rw [decide_eq_decide]; omega) | (symm; rw [decide_eq_false_iff_not]; omega)), by go_grown⟩

/-- How far the search has come. -/
def Srch (l : List Fact) (t : Int) (i j : Nat) : Prop := (∀ m, m < i → (gf l m).at_ ≤ t) ∧ (∀ m, j ≤ m → m < l.length → t < (gf l m).at_)

set_option maxRecDepth 100000 in
set_option maxHeartbeats 400000 in
theorem search_any (l : List Fact) (t : Int) (hV : Vld l) (A : Option Addr) (c B : Nat) (w : World) (hR : RF w B A l) :
    Calls Try.prog 92 #[.slice A l.length c, .int .i64 t, .func (.func 93) #[] #[]] w fun e w' =>
      ∃ n : Nat, IsCut l t n ∧ e = .returned (.tuple #[.int .i64 n, .bool false]) ∧ Below w.heap.size w w' := by
  have hlen := hV.len
  go_enter Try.func92, Try.ntmps92
  go_wp2
  go_loopw [9, 10] (fun x y wr => ∃ i j : Nat, i ≤ j ∧ j ≤ l.length ∧ x = .int .i64 i ∧ y = .int .i64 j ∧ Below w.heap.size w wr ∧ Srch l t i j) (fun x y _ => (intOf y).toNat - (intOf x).toNat)
  case atStart => exact ⟨0, l.length, by omega, by omega, rfl, rfl, Below.refl _ _, by intro m hm; omega, by intro m h1 h2; omega⟩
  case round =>
    obtain ⟨i, j, hij, hj, rfl, rfl, hbl, hs⟩ := hrel
    by_cases hlt : i < j
    · obtain ⟨ad, rfl, hab, c0, c1, c2, c3, c4⟩ := (hR.below hbl).at_ (k := (i + j) / 2) (by omega)
      go_wp2_with fail
      refine (untilf_any _ _ _ _ _ _ _).mono ?_
      rintro e w1 ⟨rfl, hb1⟩
      have hb3 := hbl.trans (hb1.mono hbl.size)
      clear c0 c1 c2 c3 c4 hb1
      by_cases ht : (gf l ((i + j) / 2)).at_ ≤ t
      · rw [leq1_yes ht]
        go_wp2
        go_roundw
        case rel => exact ⟨(i + j) / 2 + 1, j, by omega, by omega, by go_num, rfl, hb3, fun m hm => Int.le_trans (hV.sorted m ((i + j) / 2) (by omega) (by omega)) ht, hs.2⟩
        case measure => simp [intOf]; omega
      · have ht' : t < (gf l ((i + j) / 2)).at_ := by omega
        rw [leq1_no ht']
        go_wp2
        go_roundw
        case rel => exact ⟨i, (i + j) / 2, by omega, by omega, rfl, by go_num, hb3, hs.1, fun m h1 h2 => Int.lt_of_lt_of_le ht' (hV.sorted ((i + j) / 2) m (by omega) (by omega))⟩
        case measure => simp [intOf]; omega
    · have hcut : IsCut l t i := ⟨by omega, hs.1, fun m h1 h2 => hs.2 m (by omega) h2⟩
      by_cases hi : i < l.length
      · obtain ⟨ad, rfl, hab, c0, c1, c2, c3, c4⟩ := (hR.below hbl).at_ hi
        go_wp2_with fail
        refine (untilf_any _ _ _ _ _ _ _).mono ?_
        rintro e w1 ⟨rfl, hb1⟩
        have hb3 := hbl.trans (hb1.mono hbl.size)
        clear c0 c1 c2 c3 c4 hb1
        rw [leq1_no (hcut.2.2 i (by omega) hi)]
        go_wp2
        go_ret2
        exact ⟨i, hcut, rfl, hb3⟩
      · go_wp2
        go_ret2
        exact ⟨i, hcut, rfl, hbl⟩

set_option maxHeartbeats 400000 in
theorem until_any (l : List Fact) (t : Int) (hV : Vld l) (A : Option Addr) (c B : Nat) (hc : l.length ≤ c) (w : World) (hR : RF w B A l) :
    Calls Try.prog 78 #[.slice A l.length c, .int .i64 t] w fun e w' =>
      ∃ n : Nat, IsCut l t n ∧ e = .returned (.slice A n n) ∧ Below w.heap.size w w' := by
  have hlen := hV.len
  go_enter Try.func78, Try.ntmps78
  go_wp2_with fail
  refine (search_any l t hV A c B _ hR).mono ?_
  rintro e w1 ⟨n, hcut, rfl, hb1⟩
  have hn := hcut.1
  go_wp2
  go_ret
  exact ⟨n, hcut, rfl, hb1⟩

/-- The fact with the number i, with this number; zeros and -1 if there is none. -/
def foundV (l : List Fact) (i : Int) : Value := .agg #[.int .i64 (fAt l i), .int .i64 (fCh l i), .int .i64 (fFr l i), .int .i64 (fUn l i), .int .i64 (fMe l i), .int .i64 i]
theorem foundV_none (l : List Fact) : foundV l (-1) = .agg #[.int .i64 0, .int .i64 0, .int .i64 0, .int .i64 0, .int .i64 0, .int .i64 (-1)] := by simp [foundV, fAt, fCh, fFr, fUn, fMe]
theorem foundV_some (l : List Fact) (k : Nat) : foundV l k = .agg #[.int .i64 (gf l k).at_, .int .i64 (gf l k).ch, .int .i64 (gf l k).fr, .int .i64 (gf l k).un, .int .i64 (gf l k).me, .int .i64 k] := by
  have h : ¬ (k : Int) < 0 := by omega
  simp [foundV, fAt, fCh, fFr, fUn, fMe, h]

set_option maxHeartbeats 800000 in
theorem reason_any (l : List Fact) (t child day : Int) (hV : Vld l) (A : Option Addr) (c B : Nat) (hc : l.length ≤ c) (w : World) (hR : RF w B A l) :
    Calls Try.prog 73 #[.slice A l.length c, .int .i64 t, .int .i64 child, .int .i64 day] w fun e w' => e = .returned (foundV l (rsn l t child day)) ∧ Below w.heap.size w w' := by
  have hlen := hV.len
  go_enter Try.func73, Try.ntmps73
  go_wp2_with fail
  refine (until_any l t hV A c B hc _ (hR.below ((Below.refl _ _).alloc (Nat.le_refl _) _))).mono ?_
  rintro e w1 ⟨n, hcut, rfl, hb1⟩
  have hn := hcut.1
  go_wp2
  go_loopw [10] (fun x wr => ∃ i : Int, -1 ≤ i ∧ i < n ∧ x = .int .i64 i ∧ Below (w.heap.size + 1) (w.alloc (.cells #[.int .i64 0, .int .i64 0, .int .i64 0, .int .i64 0, .int .i64 0, .int .i64 0] 94)) wr ∧ Hid (rsn l t child day = rsnTo l t child day (i + 1).toNat)) (fun x _ => (intOf x + 1).toNat)
  case atStart => exact ⟨(n : Int) - 1, by omega, by omega, rfl, by simpa using hb1, by rw [rsn_cut hcut]; congr 1; omega⟩
  case round =>
    obtain ⟨i, hi0, hin, rfl, hbl, HH⟩ := hrel
    obtain ⟨bc, bf, bz, hbl0⟩ := blk_facts hbl (by omega)
    by_cases hi : i < 0
    · have hfin : rsn l t child day = -1 := by rw [HH.out, show (i + 1).toNat = 0 by omega]; rfl
      have HF := Lib.hid hfin; clear hfin HH
      go_wp2
      refine bodyPost_ret (v := .agg #[.int .i64 0, .int .i64 0, .int .i64 0, .int .i64 0, .int .i64 0, .int .i64 (-1)]) (by simp [results, Try.results73, go_sem, bc, bf]) rfl ⟨ret_val ?_, ?_⟩
      · rw [HF.out, foundV_none]
      · go_grown
    · obtain ⟨k, rfl⟩ := Int.eq_ofNat_of_zero_le (show 0 ≤ i by omega)
      have hk : k < n := by omega
      obtain ⟨ad, rfl, hab, c0, c1, c2, c3, c4⟩ := (hR.below hbl0).at_ (k := k) (by omega)
      go_wp2_with fail
      refine (covers_any _ _ _ _ _ _ _ _).mono ?_
      rintro e w2 ⟨rfl, hb2⟩
      have hbl2 := hbl.trans (hb2.mono (by have := hbl.size; simp at this; omega))
      obtain ⟨bc2, bf2, bz2, hbl20⟩ := blk_facts hbl2 (by omega)
      clear c0 c1 c2 c3 c4 bc bf hb2
      by_cases hcv : covB (gf l k) child day = true
      · have hcv' : covN (gf l k).ch (gf l k).fr (gf l k).un child day = true := hcv
        have hfin : rsn l t child day = k := by
          rw [HH.out, show ((k : Int) + 1).toNat = k + 1 by omega, rsnTo_hit]
          simp [hit, hcv, hcut.2.1 k hk]
        have HF := Lib.hid hfin; clear hfin HH
        obtain ⟨ad', e', -, d0, d1, d2, d3, d4⟩ := (hR.below hbl20).at_ (k := k) (by omega)
        cases e'
        go_wp2
        refine bodyPost_ret (v := .agg #[.int .i64 (gf l k).at_, .int .i64 (gf l k).ch, .int .i64 (gf l k).fr, .int .i64 (gf l k).un, .int .i64 (gf l k).me, .int .i64 k]) (by simp [results, Try.results73, go_sem, bc2, bf2]) rfl ⟨ret_val ?_, ?_⟩
        · rw [HF.out, foundV_some]
        · go_grown
      · have hcv' : covN (gf l k).ch (gf l k).fr (gf l k).un child day = false := by simpa [covB] using hcv
        have hnext : rsn l t child day = rsnTo l t child day ((k : Int) - 1 + 1).toNat := by
          rw [HH.out, show ((k : Int) + 1).toNat = k + 1 by omega, show ((k : Int) - 1 + 1).toNat = k by omega, rsnTo_miss]
          simp [hit, covB, hcv']
        have HF := Lib.hid hnext; clear hnext HH
        go_wp2
        go_roundw
        case rel => exact ⟨(k : Int) - 1, by omega, by omega, rfl, hbl2, HF⟩
        case measure => simp [intOf]

set_option maxHeartbeats 800000 in
theorem rreason_any (l : List Fact) (t child day : Int) (hlen : l.length ≤ 1000000000) (A : Option Addr) (c B : Nat) (w : World) (hR : RF w B A l) :
    Calls Try.prog 75 #[.slice A l.length c, .int .i64 t, .int .i64 child, .int .i64 day] w fun e w' => e = .returned (.int .i64 (rsn l t child day)) ∧ w' = w := by
  go_enter Try.func75, Try.ntmps75
  go_wp2
  go_loop [9, 10] (fun o x => ∃ k : Nat, k ≤ l.length ∧ x = .int .i64 k ∧ o = .int .i64 (rsnTo l t child day k)) (fun _ x => l.length - (intOf x).toNat)
  case atStart => exact ⟨0, by omega, rfl, rfl⟩
  case round =>
    obtain ⟨k, hk, rfl, rfl⟩ := hrel
    by_cases hlt : k < l.length
    · obtain ⟨ad, rfl, hab, c0, c1, c2, c3, c4⟩ := hR.at_ (k := k) (by omega)
      by_cases hh : (gf l k).at_ ≤ t ∧ (gf l k).ch = child ∧ (gf l k).fr ≤ day ∧ day < (gf l k).un
      · have hs := rsnTo_hit l t child day k (by simp [hit, covB, covN]; omega)
        have HS := Lib.hid hs; clear hs
        obtain ⟨h1, h2, h3, h4⟩ := hh
        have h2' : ((gf l k).ch == child) = true := by simp [h2]
        clear h2
        go_wp2
        go_round
        case rel => exact ⟨k + 1, by omega, by go_num, by rw [HS.out]⟩
        case measure => simp [intOf]; omega
      · have hs := rsnTo_miss l t child day k (by simp [hit, covB, covN]; omega)
        have HS := Lib.hid hs; clear hs
        have HN := Lib.hid hh; clear hh
        go_wp2
        all_goals first
          | exact absurd ⟨‹_›, ‹_›, ‹_›, ‹_›⟩ HN.out
          | (go_round
             case rel => exact ⟨k + 1, by omega, by go_num, by rw [HS.out]⟩
             case measure => simp [intOf]; omega)
    · go_wp2
      go_ret
      exact ⟨ret_int (by unfold rsn; congr 1; omega), rfl⟩

set_option maxHeartbeats 400000 in
theorem rknown_any (l : List Fact) (t child day : Int) (hlen : l.length ≤ 1000000000) (A : Option Addr) (c B : Nat) (w : World) (hR : RF w B A l) :
    Calls Try.prog 74 #[.slice A l.length c, .int .i64 t, .int .i64 child, .int .i64 day] w fun e w' => e = .returned (.int .i64 (knw l t child day)) ∧ w' = w := by
  have hbd : -1 ≤ rsn l t child day ∧ rsn l t child day < l.length := rsnTo_bd l t child day l.length
  obtain ⟨i, hi⟩ : ∃ i, i = rsn l t child day := ⟨_, rfl⟩
  rw [show knw l t child day = fMe l i by rw [hi]; rfl]
  rw [← hi] at hbd
  have HI := Lib.hid hi; clear hi
  go_enter Try.func74, Try.ntmps74
  go_wp2_with fail
  refine (rreason_any l t child day hlen A c B _ hR).mono ?_
  rintro e w' ⟨rfl, rfl⟩
  rw [← HI.out]
  by_cases h0 : i < 0
  · go_wp2
    go_ret
    exact ⟨ret_int (by unfold fMe; rw [if_pos h0]), rfl⟩
  · obtain ⟨k, rfl⟩ := Int.eq_ofNat_of_zero_le (show 0 ≤ i by omega)
    obtain ⟨ad, rfl, hab, c0, c1, c2, c3, c4⟩ := hR.at_ (k := k) (by omega)
    go_wp2
    go_ret
    exact ⟨ret_int (by unfold fMe; rw [if_neg (by omega)]; rfl), rfl⟩

end Go.Proofs.Ytoopmancobfjeaa
