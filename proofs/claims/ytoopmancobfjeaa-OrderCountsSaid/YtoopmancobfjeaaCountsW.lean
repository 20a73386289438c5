/-
  The walk of the law OrderCounts.
-/
import Derived.Test.YtoopmancobfjeaaK
namespace Go.Proofs.Ytoopmancobfjeaa
set_option linter.unusedVariables false
set_option linter.unusedSimpArgs false
open Go.RowKit

theorem count_adds {l : List Fact} {t f u m b : Int} (h1 : cE l f b m = 0) (h2 : cE l b u m = 0) : cE l f u m = 0 ∧ countR l t f b m + countR l t b u m = countR l t f u m := by
  obtain ⟨-, p1, p2, p3, p4, p5⟩ := cE_ok h1
  obtain ⟨-, q1, q2, q3, q4, q5⟩ := cE_ok h2
  have hv := (askd_ok h1).1
  have h3 : cE l f u m = 0 := by
    rw [cE_other, if_neg (by simp [hv]), if_pos ⟨inB_true.2 ⟨p1, p2⟩, by omega, by omega, by omega⟩]
  refine ⟨h3, ?_⟩
  unfold countR
  rw [if_pos h1, if_pos h2, if_pos h3]
  have e1 : (u - f).toNat = (b - f).toNat + (u - b).toNat := by omega
  have e2 : f.toNat + (b - f).toNat = b.toNat := by omega
  rw [e1, countN_split, e2]
  omega
theorem countR_bd (l : List Fact) (t f u m : Int) : 0 ≤ countR l t f u m ∧ countR l t f u m ≤ 100000 := by
  unfold countR
  split
  · rename_i h
    obtain ⟨-, -, -, _, _, _⟩ := cE_ok h
    have := countN_le l t m f.toNat (u - f).toNat (by omega)
    omega
  · omega

set_option maxRecDepth 100000 in
set_option maxHeartbeats 1600000 in
theorem orderCounts_any (l : List Fact) (t f u m b : Int) (A : Option Addr) (c B : Nat) (hc : l.length ≤ c) (w : World) (hR : RF w B A l) :
    Calls Try.prog 5 #[.slice A l.length c, .agg #[.int .i64 t, .int .i64 f, .int .i64 u, .int .i64 m], .int .i64 b] w fun e w' => e = .returned (.bool true) ∧ Below w.heap.size w w' := by
  go_enter Try.func5, Try.ntmps5
  go_wp2_with fail
  refine (long_any l A c _).mono ?_
  rintro e w1 ⟨rfl, rfl⟩
  have hb0 : Below w.heap.size w (w.alloc (.cells #[.int .i64 t, .int .i64 f, .int .i64 u, .int .i64 m] 38)) := (Below.refl _ _).alloc (Nat.le_refl _) _
  by_cases h200 : 200 < l.length
  · have h2 : decide (200 < l.length) = true := decide_eq_true h200
    go_wp2_with fail
    refine (known_any _).mono ?_
    rintro e w2 ⟨rfl, hb2⟩
    go_wp2
    go_ret
    exact ⟨rfl, hb0.trans (hb2.mono hb0.size)⟩
  · have h2 : decide (200 < l.length) = false := decide_eq_false h200
    have hl : l.length ≤ 1000000000 := by omega
    go_wp2_with fail
    · refine (known_any _).mono ?_
      rintro e w2 ⟨rfl, hb2⟩
      go_wp2
      go_ret
      exact ⟨rfl, hb0.trans (hb2.mono hb0.size)⟩
    · refine (countX_any l t f u m hl A c B hc _ (hR.below hb0)).mono ?_
      rintro e w2 ⟨rfl, hb2⟩
      have hx2 : Below (w.heap.size + 1) (w.alloc (.cells #[.int .i64 t, .int .i64 f, .int .i64 u, .int .i64 m] 38)) w2 := by simpa using hb2
      obtain ⟨bx, _, _, hb2'⟩ := blk_facts hx2 (by omega)
      clear hb2
      go_wp2_with fail
      refine (rcountX_any l t f u m hl A c B _ (hR.below hb2')).mono ?_
      rintro e w3 ⟨rfl, hb3⟩
      have hx3 := hx2.trans (hb3.mono (by have := hx2.size; simp at this; omega))
      clear bx hb3
      obtain ⟨bx, _, _, hb3'⟩ := blk_facts hx3 (by omega)
      go_wp2_with fail
      refine (countX_any l t f b m hl A c B hc _ (hR.below hb3')).mono ?_
      rintro e w4 ⟨rfl, hb4⟩
      have hx4 := hx3.trans (hb4.mono (by have := hx3.size; simp at this; omega))
      clear bx hb4
      obtain ⟨bx, _, _, hb4'⟩ := blk_facts hx4 (by omega)
      go_wp2_with fail
      refine (countX_any l t b u m hl A c B hc _ (hR.below hb4')).mono ?_
      rintro e w5 ⟨rfl, hb5⟩
      have hb5' := hb4'.trans (hb5.mono hb4'.size)
      clear bx hb5 hx2 hx3 hx4 hb2' hb3' hb4' hb0
      by_cases h1 : cE l f b m = 0
      · by_cases h2 : cE l b u m = 0
        · obtain ⟨h3, h4⟩ := count_adds (t := t) h1 h2
          have n1 : (cE l f b m != 0) = false := by simp [h1]
          have n2 : (cE l b u m != 0) = false := by simp [h2]
          have n3 : (cE l f u m == 0) = true := by simp [h3]
          have bd1 := countR_bd l t f b m
          have bd2 := countR_bd l t b u m
          have n4 : (countR l t f b m + countR l t b u m == countR l t f u m) = true := by simp [h4]
          clear h1 h2 h3 h4
          go_wp2_with fail
          refine (known_any _).mono ?_
          rintro e w6 ⟨rfl, hb6⟩
          go_wp2
          go_ret
          exact ⟨rfl, hb5'.trans (hb6.mono hb5'.size)⟩
        · have n1 : (cE l f b m != 0) = false := by simp [h1]
          have n2 : (cE l b u m != 0) = true := by simp [h2]
          clear h1 h2
          go_wp2_with fail
          refine (known_any _).mono ?_
          rintro e w6 ⟨rfl, hb6⟩
          go_wp2
          go_ret
          exact ⟨rfl, hb5'.trans (hb6.mono hb5'.size)⟩
      · have n1 : (cE l f b m != 0) = true := by simp [h1]
        clear h1
        go_wp2_with fail
        refine (known_any _).mono ?_
        rintro e w6 ⟨rfl, hb6⟩
        go_wp2
        go_ret
        exact ⟨rfl, hb5'.trans (hb6.mono hb5'.size)⟩

end Go.Proofs.Ytoopmancobfjeaa
