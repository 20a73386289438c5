/-
  Walks: what is paid for a child and a day.
-/
import Derived.Test.YtoopmancobfjeaaS
namespace Go.Proofs.Ytoopmancobfjeaa
set_option linter.unusedVariables false
set_option linter.unusedSimpArgs false
open Go.RowKit

set_option maxRecDepth 100000 in
set_option maxHeartbeats 400000 in
theorem price_any (m : Int) (p : List Int) (hp : 9 ≤ p.length) (h0 : 0 ≤ m) (h9 : m ≤ 9) (A : Option Addr) (c b : Nat) (w : World) (hc : w.cell? ⟨b, 0, none⟩ = some (.slice A p.length c)) (hR : RN w A p) :
    Calls Try.prog 96 #[.int .i64 m, .pointer (some ⟨b, 0, none⟩)] w fun e w' => e = .returned (.int .i64 (priceI p m)) ∧ w = w' := by
  by_cases hm : m = 0
  · subst hm
    go_enter Try.func96, Try.ntmps96
    go_wp2
    go_ret
    exact ⟨ret_int (by simp [priceI]), rfl⟩
  · have hm1 : (m == 0) = false := by simp [hm]
    have hpr : priceI p m = gi p (m.toNat - 1) := by unfold priceI; rw [if_neg hm]; congr 1; omega
    rw [hpr]
    obtain ⟨ad, rfl, hab, c0⟩ := hR.at_ (k := m.toNat - 1) (by omega)
    have hi0 : 0 ≤ m - 1 := by omega
    have hi1 : m - 1 < (p.length : Int) := by omega
    clear hpr hm
    go_enter Try.func96, Try.ntmps96
    go_wp2
    go_ret
    exact ⟨rfl, rfl⟩

set_option maxRecDepth 100000 in
set_option maxHeartbeats 400000 in
theorem rprice_any (m : Int) (p : List Int) (hp : 9 ≤ p.length) (h0 : 0 ≤ m) (h9 : m ≤ 9) (A : Option Addr) (c : Nat) (w : World) (hR : RN w A p) :
    Calls Try.prog 97 #[.slice A p.length c, .int .i64 m] w fun e w' => e = .returned (.int .i64 (priceI p m)) ∧ w = w' := by
  by_cases hm : m = 0
  · subst hm
    go_enter Try.func97, Try.ntmps97
    go_wp2
    go_ret
    exact ⟨ret_int (by simp [priceI]), rfl⟩
  · have hm1 : (m == 0) = false := by simp [hm]
    have hpr : priceI p m = gi p (m.toNat - 1) := by unfold priceI; rw [if_neg hm]; congr 1; omega
    rw [hpr]
    obtain ⟨ad, rfl, hab, c0⟩ := hR.at_ (k := m.toNat - 1) (by omega)
    have hi0 : 0 ≤ m - 1 := by omega
    have hi1 : m - 1 < (p.length : Int) := by omega
    clear hpr hm
    go_enter Try.func97, Try.ntmps97
    go_wp2
    go_ret
    exact ⟨rfl, rfl⟩

theorem bG_len {p : List Int} {cut : Int} (h : bG p cut = true) : 9 ≤ p.length ∧ p.length ≤ 9 ∧ 0 ≤ cut ∧ cut ≤ 10000 := by
  obtain ⟨h1, _, h3, h4⟩ := (bG_iff _ _).1 h; omega

set_option maxRecDepth 100000 in
set_option maxHeartbeats 1600000 in
theorem pay_any (l : List Fact) (r : List Sp) (p : List Int) (cut c d : Int) (hV : Vld l) (hg : bG p cut = true) (hr : r.length ≤ 60) (hd : 0 ≤ d) (hd2 : d ≤ 999) (A1 A2 A3 : Option Addr) (c1 c2 c3 B : Nat) (hc1 : l.length ≤ c1) (w : World) (h1 : RF w B A1 l) (h2 : RS w A2 r) (h3 : RN w A3 p) :
    Calls Try.prog 80 #[.slice A1 l.length c1, .slice A2 r.length c2, .slice A3 p.length c3, .int .i64 cut, .int .i64 c, .int .i64 d] w fun e w' => e = .returned (.int .i64 (payI l r p cut c d)) ∧ Below w.heap.size w w' := by
  obtain ⟨g1, g2, g3, g4⟩ := bG_len hg
  obtain ⟨P, hP⟩ : ∃ P, P = payI l r p cut c d := ⟨_, rfl⟩
  rw [← hP]
  have HP := Lib.hid hP; clear hP
  have hb0 : Below w.heap.size w (w.alloc (.cells #[.slice A3 p.length c3] 53)) := (Below.refl _ _).alloc (Nat.le_refl _) _
  go_enter Try.func80, Try.ntmps80
  go_wp2_with fail
  refine (free_any r c d A2 c2 _ (h2.below hb0) (by omega)).mono ?_
  rintro e w1 ⟨rfl, hb1⟩
  obtain ⟨bc, bf, bz, hbl⟩ := blk_facts hb1 (by simp)
  have bc0 : w1.cell? ⟨w.heap.size, 0, none⟩ = some (.slice A3 p.length c3) := by rw [bc]; rfl
  clear hb0 hb1 bc bf
  cases hf : freeB r c d with
  | true =>
    have hk : P = 0 := by rw [HP.out, payI, if_pos hf]
    have HK := Lib.hid hk; clear hk
    go_wp2
    go_ret
    exact ⟨ret_int (by rw [HK.out]), hbl⟩
  | false =>
    have hk : P = max (priceI p (knw l (d * 1440 - cut) c d)) (priceI p (knw l 1440000 c d)) := by rw [HP.out, payI, if_neg (by rw [hf]; simp)]
    have HK := Lib.hid hk; clear hk
    have hfld := field_found
    have hfld2 := field_meal
    have k1 := knw_bd hV (d * 1440 - cut) c d
    have k2 := knw_bd hV 1440000 c d
    go_wp2_with fail
    refine (reason_any l (d * 1440 - cut) c d hV A1 c1 B hc1 _ (h1.below hbl)).mono ?_
    rintro e w2 ⟨rfl, hb2⟩
    have bc2 := (hb2.cell (p := ⟨w.heap.size, 0, none⟩) bz).trans bc0
    have hbl2 := hbl.trans (hb2.mono hbl.size)
    have bz2 : w.heap.size < w2.heap.size := Nat.lt_of_lt_of_le bz hb2.size
    clear hb2 bc0 hbl
    unfold foundV
    rw [show fMe l (rsn l (d * 1440 - cut) c d) = knw l (d * 1440 - cut) c d from rfl]
    go_wp2_with fail
    refine (price_any _ p g1 k1.1 k1.2 A3 c3 w.heap.size _ bc2 (h3.below hbl2)).mono ?_
    rintro e w3 ⟨rfl, rfl⟩
    go_wp2_with fail
    refine (reason_any l 1440000 c d hV A1 c1 B hc1 _ (h1.below hbl2)).mono ?_
    rintro e w3 ⟨rfl, hb3⟩
    have bc3 := (hb3.cell (p := ⟨w.heap.size, 0, none⟩) bz2).trans bc2
    have hbl3 := hbl2.trans (hb3.mono hbl2.size)
    clear hb3 bc2
    unfold foundV
    rw [show fMe l (rsn l 1440000 c d) = knw l 1440000 c d from rfl]
    go_wp2_with fail
    refine (price_any _ p g1 k2.1 k2.2 A3 c3 w.heap.size _ bc3 (h3.below hbl3)).mono ?_
    rintro e w4 ⟨rfl, rfl⟩
    go_wp2
    all_goals
      go_ret
      exact ⟨ret_int (by rw [HK.out]; omega), hbl3⟩

set_option maxRecDepth 100000 in
set_option maxHeartbeats 1600000 in
theorem rpay_any (l : List Fact) (r : List Sp) (p : List Int) (cut c d : Int) (hV : Vld l) (hg : bG p cut = true) (hr : r.length ≤ 60) (hd : 0 ≤ d) (hd2 : d ≤ 999) (A1 A2 A3 : Option Addr) (c1 c2 c3 B : Nat) (w : World) (h1 : RF w B A1 l) (h2 : RS w A2 r) (h3 : RN w A3 p) :
    Calls Try.prog 82 #[.slice A1 l.length c1, .slice A2 r.length c2, .slice A3 p.length c3, .int .i64 cut, .int .i64 c, .int .i64 d] w fun e w' => e = .returned (.int .i64 (payI l r p cut c d)) ∧ w = w' := by
  obtain ⟨g1, g2, g3, g4⟩ := bG_len hg
  have hll := hV.len
  obtain ⟨P, hP⟩ : ∃ P, P = payI l r p cut c d := ⟨_, rfl⟩
  rw [← hP]
  have HP := Lib.hid hP; clear hP
  go_enter Try.func82, Try.ntmps82
  go_wp2_with fail
  refine (rfree_any r c d A2 c2 _ h2 (by omega)).mono ?_
  rintro e w1 ⟨rfl, rfl⟩
  cases hf : freeB r c d with
  | true =>
    have hk : P = 0 := by rw [HP.out, payI, if_pos hf]
    have HK := Lib.hid hk; clear hk
    go_wp2
    go_ret
    exact ⟨ret_int (by rw [HK.out]), rfl⟩
  | false =>
    have hk : P = max (priceI p (knw l (d * 1440 - cut) c d)) (priceI p (knw l 1440000 c d)) := by rw [HP.out, payI, if_neg (by rw [hf]; simp)]
    have HK := Lib.hid hk; clear hk
    have k1 := knw_bd hV (d * 1440 - cut) c d
    have k2 := knw_bd hV 1440000 c d
    go_wp2_with fail
    refine (rknown_any l (d * 1440 - cut) c d (by omega) A1 c1 B _ h1).mono ?_
    rintro e w2 ⟨rfl, hw2⟩
    subst hw2
    go_wp2_with fail
    refine (rknown_any l 1440000 c d (by omega) A1 c1 B _ h1).mono ?_
    rintro e w3 ⟨rfl, hw3⟩
    subst hw3
    go_wp2_with fail
    refine (rprice_any _ p g1 k1.1 k1.2 A3 c3 _ h3).mono ?_
    rintro e w4 ⟨rfl, rfl⟩
    go_wp2_with fail
    refine (rprice_any _ p g1 k2.1 k2.2 A3 c3 _ h3).mono ?_
    rintro e w4 ⟨rfl, rfl⟩
    go_wp2
    all_goals
      go_ret
      exact ⟨ret_int (by rw [HK.out]; omega), rfl⟩

end Go.Proofs.Ytoopmancobfjeaa
