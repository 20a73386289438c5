/-
  The walk of the law OrderBills.
-/
import Derived.Test.YtoopmancobfjeaaPaysW
import Derived.Test.YtoopmancobfjeaaV
namespace Go.Proofs.Ytoopmancobfjeaa
set_option linter.unusedVariables false
set_option linter.unusedSimpArgs false
open Go.RowKit

theorem billE_ok {l : List Fact} {r : List Sp} {p : List Int} {cut c f t : Int} (h : billE l r p cut c f t = 0) : bE l r p cut = 0 ∧ inB c 0 99 = true ∧ 0 ≤ f ∧ f ≤ t ∧ t ≤ 1000 := by
  unfold billE at h
  by_cases h1 : bE l r p cut = 0
  · rw [if_neg (by simp [h1])] at h
    cases h2 : inB c 0 99 with
    | false => rw [h2] at h; cases h
    | true =>
      cases h3 : daysB f t with
      | false => rw [h2, h3] at h; cases h
      | true => have := of_decide_eq_true h3; exact ⟨h1, rfl, this⟩
  · rw [if_pos h1] at h; exact absurd h h1
theorem billE_of {l : List Fact} {r : List Sp} {p : List Int} {cut c f t : Int} (h1 : bE l r p cut = 0) (h2 : inB c 0 99 = true) (h3 : 0 ≤ f ∧ f ≤ t ∧ t ≤ 1000) : billE l r p cut c f t = 0 := by
  unfold billE
  rw [if_neg (by simp [h1]), h2, show daysB f t = true from decide_eq_true h3]; rfl
theorem bill_add (l : List Fact) (r : List Sp) (p : List Int) (cut c f m t : Int) (h1 : billE l r p cut c f m = 0) (h2 : billE l r p cut c m t = 0) :
    billE l r p cut c f t = 0 ∧ billR l r p cut c f m + billR l r p cut c m t = billR l r p cut c f t := by
  obtain ⟨a1, a2, a3, a4, a5⟩ := billE_ok h1
  obtain ⟨b1, b2, b3, b4, b5⟩ := billE_ok h2
  have h3 := billE_of a1 a2 (show 0 ≤ f ∧ f ≤ t ∧ t ≤ 1000 by omega)
  refine ⟨h3, ?_⟩
  unfold billR
  rw [if_pos h1, if_pos h2, if_pos h3, show (t - f).toNat = (m - f).toNat + (t - m).toNat by omega, billTo_add, show f + (((m - f).toNat : Nat) : Int) = m by omega]
theorem billR_bd (l : List Fact) (r : List Sp) (p : List Int) (cut c f t : Int) : 0 ≤ billR l r p cut c f t ∧ billR l r p cut c f t ≤ 10000000 := by
  unfold billR
  by_cases h : billE l r p cut c f t = 0
  · rw [if_pos h]
    obtain ⟨a1, a2, a3, a4, a5⟩ := billE_ok h
    obtain ⟨v1, v2, v3⟩ := bE_ok a1
    have := billTo_bd (Vld.of v1) (r := r) v3 c f (t - f).toNat
    omega
  · rw [if_neg h]; omega

set_option maxRecDepth 100000 in
set_option maxHeartbeats 3200000 in
theorem orderBills_any (l : List Fact) (r : List Sp) (p : List Int) (cut c f m t : Int) (A1 A2 A3 : Option Addr) (c1 c2 c3 B : Nat) (hc1 : l.length ≤ c1) (w : World) (h1 : RF w B A1 l) (h2 : RS w A2 r) (h3 : RN w A3 p) :
    Calls Try.prog 13 #[.slice A1 l.length c1, .agg #[.slice A2 r.length c2, .slice A3 p.length c3, .int .i64 cut], .agg #[.int .i64 c, .int .i64 f, .int .i64 m, .int .i64 t]] w fun e w' => e = .returned (.bool true) ∧ Below w.heap.size w w' := by
  have hx0 : Below (w.heap.size + 2) ((w.alloc (.cells #[.slice A2 r.length c2, .slice A3 p.length c3, .int .i64 cut] 66)).alloc (.cells #[.int .i64 c, .int .i64 f, .int .i64 m, .int .i64 t] 70)) ((w.alloc (.cells #[.slice A2 r.length c2, .slice A3 p.length c3, .int .i64 cut] 66)).alloc (.cells #[.int .i64 c, .int .i64 f, .int .i64 m, .int .i64 t] 70)) := Below.refl _ _
  obtain ⟨bx, bY, _, hb0⟩ := two_blk hx0 (by omega)
  go_enter Try.func13, Try.ntmps13
  go_wp2_with fail
  refine (long_any l A1 c1 _).mono ?_
  rintro e w1 ⟨rfl, rfl⟩
  by_cases h200 : 200 < l.length
  · have d1 : decide (200 < l.length) = true := decide_eq_true h200
    go_wp2_with fail
    refine (known_any _).mono ?_
    rintro e w2 ⟨rfl, hb2⟩
    go_wp2
    go_ret
    exact ⟨rfl, hb0.trans (hb2.mono hb0.size)⟩
  · have d1 : decide (200 < l.length) = false := decide_eq_false h200
    have hl : l.length ≤ 1000000000 := by omega
    by_cases hr200 : 200 < r.length
    · go_wp2_with fail
      refine (known_any _).mono ?_
      rintro e w2 ⟨rfl, hb2⟩
      go_wp2
      go_ret
      exact ⟨rfl, hb0.trans (hb2.mono hb0.size)⟩
    · have hrl : r.length ≤ 1000000000 := by omega
      by_cases hp100 : 100 < p.length
      · go_wp2_with fail
        refine (known_any _).mono ?_
        rintro e w2 ⟨rfl, hb2⟩
        go_wp2
        go_ret
        exact ⟨rfl, hb0.trans (hb2.mono hb0.size)⟩
      · have hpl : p.length ≤ 1000000000 := by omega
        go_wp2_with fail
        refine (billX_any l r p cut c f t hl hrl hpl A1 A2 A3 c1 c2 c3 B hc1 _ (h1.below hb0) (h2.below hb0) (h3.below hb0)).mono ?_
        rintro e w2 ⟨rfl, hc2⟩
        have hx1 := hx0.trans (hc2.mono (by have := hx0.size; simp at this; omega))
        clear bx bY hc2
        obtain ⟨bx, bY, _, hb1⟩ := two_blk hx1 (by omega)
        go_wp2_with fail
        refine (rbillX_any l r p cut c f t hl hrl hpl A1 A2 A3 c1 c2 c3 B _ (h1.below hb1) (h2.below hb1) (h3.below hb1)).mono ?_
        rintro e w3 ⟨rfl, hc3⟩
        have hx2 := hx1.trans (hc3.mono (by have := hx1.size; simp at this; omega))
        clear bx bY hc3
        obtain ⟨bx, bY, _, hb2⟩ := two_blk hx2 (by omega)
        go_wp2_with fail
        refine (billX_any l r p cut c f m hl hrl hpl A1 A2 A3 c1 c2 c3 B hc1 _ (h1.below hb2) (h2.below hb2) (h3.below hb2)).mono ?_
        rintro e w4 ⟨rfl, hc4⟩
        have hx3 := hx2.trans (hc4.mono (by have := hx2.size; simp at this; omega))
        clear bx bY hc4
        obtain ⟨bx, bY, _, hb3⟩ := two_blk hx3 (by omega)
        go_wp2_with fail
        refine (billX_any l r p cut c m t hl hrl hpl A1 A2 A3 c1 c2 c3 B hc1 _ (h1.below hb3) (h2.below hb3) (h3.below hb3)).mono ?_
        rintro e w5 ⟨rfl, hc5⟩
        have hx4 := hx3.trans (hc5.mono (by have := hx3.size; simp at this; omega))
        clear bx bY hc5
        obtain ⟨bx, bY, _, hb4⟩ := two_blk hx4 (by omega)
        have hadd := bill_add l r p cut c f m t
        have HADD := Lib.hid hadd; clear hadd
        have q1 := billR_bd l r p cut c f m
        have q2 := billR_bd l r p cut c m t
        clear bx bY
        by_cases e1 : billE l r p cut c f m = 0
        · by_cases e2 : billE l r p cut c m t = 0
          · obtain ⟨e3, e4⟩ := HADD.out e1 e2
            have E1 : (billE l r p cut c f m != 0) = false := by simp [e1]
            have E2 : (billE l r p cut c m t != 0) = false := by simp [e2]
            have E3 : (billE l r p cut c f t == 0) = true := by simp [e3]
            have E4 : (billR l r p cut c f m + billR l r p cut c m t == billR l r p cut c f t) = true := by simp [e4]
            clear e1 e2 e3 e4
            go_wp2_with fail
            refine (known_any _).mono ?_
            rintro e w6 ⟨rfl, hb6⟩
            go_wp2
            go_ret
            exact ⟨rfl, hb4.trans (hb6.mono hb4.size)⟩
          · have E1 : (billE l r p cut c f m != 0) = false := by simp [e1]
            have E2 : (billE l r p cut c m t != 0) = true := by simp [e2]
            clear e1 e2
            go_wp2_with fail
            refine (known_any _).mono ?_
            rintro e w6 ⟨rfl, hb6⟩
            go_wp2
            go_ret
            exact ⟨rfl, hb4.trans (hb6.mono hb4.size)⟩
        · have E1 : (billE l r p cut c f m != 0) = true := by simp [e1]
          clear e1
          go_wp2_with fail
          refine (known_any _).mono ?_
          rintro e w6 ⟨rfl, hb6⟩
          go_wp2
          go_ret
          exact ⟨rfl, hb4.trans (hb6.mono hb4.size)⟩

end Go.Proofs.Ytoopmancobfjeaa
