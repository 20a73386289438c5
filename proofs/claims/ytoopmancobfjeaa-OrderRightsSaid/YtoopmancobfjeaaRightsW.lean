/-
  The walk of the law OrderRights.
-/
import Derived.Test.YtoopmancobfjeaaRv
namespace Go.Proofs.Ytoopmancobfjeaa
set_option linter.unusedVariables false
set_option linter.unusedSimpArgs false
open Go.RowKit

set_option maxRecDepth 100000 in
set_option maxHeartbeats 1000000 in
theorem freeX_any (r : List Sp) (c d : Int) (A : Option Addr) (cp : Nat) (w : World) (hR : RS w A r) (hl : r.length ≤ 1000000000) :
    Calls Try.prog 50 #[.slice A r.length cp, .int .i64 c, .int .i64 d] w fun e w' => e = .returned (.tuple #[.bool (frR r c d), .int .i64 (frE r c d)]) ∧ Below w.heap.size w w' := by
  obtain ⟨E, hE⟩ : ∃ E, E = frE r c d := ⟨_, rfl⟩
  obtain ⟨R, hRR⟩ : ∃ R, R = frR r c d := ⟨_, rfl⟩
  rw [← hE, ← hRR]
  have HE := Lib.hid hE
  have HR := Lib.hid hRR
  clear hE hRR
  go_enter Try.func50, Try.ntmps50
  go_wp2_with fail
  refine (vrights_any r A cp _ hR hl).mono ?_
  rintro e w1 ⟨rfl, hb1⟩
  by_cases hv : vrt r = 0
  · have hv1 : (vrt r != 0) = false := by simp [hv]
    cases hi : inB c 0 99 with
    | true =>
      cases hj : inB d 0 999 with
      | true =>
        have hE1 : E = 0 := by rw [HE.out, frE, if_neg (by simp [hv]), hi, hj]; rfl
        have hR1 : R = freeB r c d := by rw [HR.out, frR, if_pos (by rw [← HE.out, hE1])]
        have HE1 := Lib.hid hE1
        have HR1 := Lib.hid hR1
        clear hE1 hR1 hv
        go_wp2_with (first | (go_at_call 58; refine (isChild_any _ _).mono ?_; rintro e w' ⟨rfl, hw'⟩; subst hw'; rw [hi]) | (go_at_call 72; refine (isDay_any _ _).mono ?_; rintro e w' ⟨rfl, hw'⟩; subst hw'; rw [hj]))
        refine (free_any r c d A cp _ (hR.below hb1) hl).mono ?_
        rintro e w2 ⟨rfl, hb2⟩
        go_wp2
        go_ret2
        exact ⟨ret2 (by rw [HR1.out] <;> rfl) (by rw [HE1.out] <;> rfl), hb1.trans (hb2.mono hb1.size)⟩
      | false =>
        have hE1 : E = 1 := by rw [HE.out, frE, if_neg (by simp [hv]), hi, hj]; rfl
        have hR1 : R = false := by rw [HR.out, frR, if_neg (by rw [← HE.out, hE1]; simp)]
        have HE1 := Lib.hid hE1
        have HR1 := Lib.hid hR1
        clear hE1 hR1 hv
        go_wp2_with (first | (go_at_call 58; refine (isChild_any _ _).mono ?_; rintro e w' ⟨rfl, hw'⟩; subst hw'; rw [hi]) | (go_at_call 72; refine (isDay_any _ _).mono ?_; rintro e w' ⟨rfl, hw'⟩; subst hw'; rw [hj]))
        go_ret2
        exact ⟨ret2 (by rw [HR1.out] <;> rfl) (by rw [HE1.out] <;> rfl), hb1⟩
    | false =>
      have hE1 : E = 1 := by rw [HE.out, frE, if_neg (by simp [hv]), hi]; rfl
      have hR1 : R = false := by rw [HR.out, frR, if_neg (by rw [← HE.out, hE1]; simp)]
      have HE1 := Lib.hid hE1
      have HR1 := Lib.hid hR1
      clear hE1 hR1 hv
      go_wp2_with (first | (go_at_call 58; refine (isChild_any _ _).mono ?_; rintro e w' ⟨rfl, hw'⟩; subst hw'; rw [hi]))
      go_ret2
      exact ⟨ret2 (by rw [HR1.out] <;> rfl) (by rw [HE1.out] <;> rfl), hb1⟩
  · have hv1 : (vrt r != 0) = true := by simp [hv]
    have hE1 : E = vrt r := by rw [HE.out, frE, if_pos hv]
    have hR1 : R = false := by rw [HR.out, frR, if_neg (by rw [← HE.out, hE1]; exact hv)]
    have HE1 := Lib.hid hE1
    have HR1 := Lib.hid hR1
    clear hE1 hR1 hv
    go_wp2
    go_ret2
    exact ⟨ret2 (by rw [HR1.out] <;> rfl) (by rw [HE1.out] <;> rfl), hb1⟩

set_option maxRecDepth 100000 in
set_option maxHeartbeats 1000000 in
theorem rfreeX_any (r : List Sp) (c d : Int) (A : Option Addr) (cp : Nat) (w : World) (hR : RS w A r) (hl : r.length ≤ 1000000000) :
    Calls Try.prog 51 #[.slice A r.length cp, .int .i64 c, .int .i64 d] w fun e w' => e = .returned (.tuple #[.bool (frR r c d), .int .i64 (frE r c d)]) ∧ Below w.heap.size w w' := by
  obtain ⟨E, hE⟩ : ∃ E, E = frE r c d := ⟨_, rfl⟩
  obtain ⟨R, hRR⟩ : ∃ R, R = frR r c d := ⟨_, rfl⟩
  rw [← hE, ← hRR]
  have HE := Lib.hid hE
  have HR := Lib.hid hRR
  clear hE hRR
  go_enter Try.func51, Try.ntmps51
  go_wp2_with fail
  refine (rvrights_any r A cp _ hR hl).mono ?_
  rintro e w1 ⟨rfl, hb1⟩
  by_cases hv : vrt r = 0
  · have hv1 : (vrt r != 0) = false := by simp [hv]
    cases hi : inB c 0 99 with
    | true =>
      cases hj : inB d 0 999 with
      | true =>
        have hE1 : E = 0 := by rw [HE.out, frE, if_neg (by simp [hv]), hi, hj]; rfl
        have hR1 : R = freeB r c d := by rw [HR.out, frR, if_pos (by rw [← HE.out, hE1])]
        have HE1 := Lib.hid hE1
        have HR1 := Lib.hid hR1
        clear hE1 hR1 hv
        go_wp2_with (go_at_call 67; refine (within_any _ _ _ _).mono ?_; rintro e w' ⟨rfl, hw'⟩; subst hw'; first | rw [hi] | rw [hj])
        refine (rfree_any r c d A cp _ (hR.below hb1) hl).mono ?_
        rintro e w2 ⟨rfl, rfl⟩
        go_wp2
        go_ret2
        exact ⟨ret2 (by rw [HR1.out] <;> rfl) (by rw [HE1.out] <;> rfl), hb1⟩
      | false =>
        have hE1 : E = 1 := by rw [HE.out, frE, if_neg (by simp [hv]), hi, hj]; rfl
        have hR1 : R = false := by rw [HR.out, frR, if_neg (by rw [← HE.out, hE1]; simp)]
        have HE1 := Lib.hid hE1
        have HR1 := Lib.hid hR1
        clear hE1 hR1 hv
        go_wp2_with (go_at_call 67; refine (within_any _ _ _ _).mono ?_; rintro e w' ⟨rfl, hw'⟩; subst hw'; first | rw [hi] | rw [hj])
        go_ret2
        exact ⟨ret2 (by rw [HR1.out] <;> rfl) (by rw [HE1.out] <;> rfl), hb1⟩
    | false =>
      have hE1 : E = 1 := by rw [HE.out, frE, if_neg (by simp [hv]), hi]; rfl
      have hR1 : R = false := by rw [HR.out, frR, if_neg (by rw [← HE.out, hE1]; simp)]
      have HE1 := Lib.hid hE1
      have HR1 := Lib.hid hR1
      clear hE1 hR1 hv
      go_wp2_with (go_at_call 67; refine (within_any _ _ _ _).mono ?_; rintro e w' ⟨rfl, hw'⟩; subst hw'; rw [hi])
      go_ret2
      exact ⟨ret2 (by rw [HR1.out] <;> rfl) (by rw [HE1.out] <;> rfl), hb1⟩
  · have hv1 : (vrt r != 0) = true := by simp [hv]
    have hE1 : E = vrt r := by rw [HE.out, frE, if_pos hv]
    have hR1 : R = false := by rw [HR.out, frR, if_neg (by rw [← HE.out, hE1]; exact hv)]
    have HE1 := Lib.hid hE1
    have HR1 := Lib.hid hR1
    clear hE1 hR1 hv
    go_wp2
    go_ret2
    exact ⟨ret2 (by rw [HR1.out] <;> rfl) (by rw [HE1.out] <;> rfl), hb1⟩

theorem rights_free {r : List Sp} {c d : Int} (h : frE r c d = 0) (hl : (rgL r c).length ≤ r.length) : frE (rgL r c) c d = 0 ∧ frR (rgL r c) c d = frR r c d := by
  have hv : vrt r = 0 := by
    by_cases g : vrt r = 0
    · exact g
    · rw [frE, if_pos g] at h; exact h
  have hij : (inB c 0 99 && inB d 0 999) = true := by
    cases g : (inB c 0 99 && inB d 0 999) with
    | true => rfl
    | false => rw [frE, if_neg (by simp [hv]), g] at h; cases h
  obtain ⟨hi, hj⟩ := Bool.and_eq_true_iff.1 hij
  have hc := inB_true.1 hi
  have hd := inB_true.1 hj
  have hg : rgE r c = 0 := by rw [rgE, if_neg (by simp [hv]), if_pos hi]
  have hU : rgL r c = dTo c (fun d => freeB r c d) 1000 := by rw [rgL, if_pos hg]
  obtain ⟨⟨n1, n1'⟩, n2, n3⟩ := dTo_ok c (fun d => freeB r c d) 1000
  rw [← hU] at n1 n1' n2 n3
  obtain ⟨h60, _⟩ := vrt_ok hv
  have hvU : vrt (rgL r c) = 0 := by
    unfold vrt
    rw [if_neg (by omega), if_pos]
    refine (rtAll_iff _ _).2 fun i hi => (rtB_iff _).2 ?_
    have hm : gs (rgL r c) i ∈ rgL r c := by rw [← gs_getElem _ i hi]; exact List.getElem_mem hi
    obtain ⟨p1, p2⟩ := n1' _ hm
    have p3 := n3 _ hm
    have p4 := (n2 (gs (rgL r c) i).un).1 ⟨_, hm, Int.le_refl _, p2⟩
    exact ⟨by omega, by omega, p4.1, p2, by omega⟩
  have e0 : frE (rgL r c) c d = 0 := by rw [frE, if_neg (by simp [hvU]), hi, hj]; rfl
  refine ⟨e0, ?_⟩
  rw [frR, if_pos e0, frR, if_pos h, Bool.eq_iff_iff, freeB_iff]
  constructor
  · rintro ⟨x, hx, _, h1, h2⟩
    exact ((n2 d).1 ⟨x, hx, h1, h2⟩).2.2
  · intro h1
    obtain ⟨x, hx, h2, h3⟩ := (n2 d).2 ⟨by omega, by omega, h1⟩
    exact ⟨x, hx, (n1' x hx).1, h2, h3⟩

set_option maxRecDepth 100000 in
set_option maxHeartbeats 2000000 in
theorem orderRights_any (r : List Sp) (t c d : Int) (A : Option Addr) (cp : Nat) (w : World) (hR : RS w A r) :
    Calls Try.prog 14 #[.slice A r.length cp, .agg #[.int .i64 t, .int .i64 c, .int .i64 d]] w fun e w' => e = .returned (.bool true) ∧ Below w.heap.size w w' := by
  have hx0 : Below (w.heap.size + 1) (w.alloc (.cells #[.int .i64 t, .int .i64 c, .int .i64 d] 24)) (w.alloc (.cells #[.int .i64 t, .int .i64 c, .int .i64 d] 24)) := Below.refl _ _
  obtain ⟨bx, _, _, hb0⟩ := blk_facts hx0 (by omega)
  go_enter Try.func14, Try.ntmps14
  by_cases h200 : 200 < r.length
  · go_wp2_with fail
    refine (known_any _).mono ?_
    rintro e w2 ⟨rfl, hb2⟩
    go_wp2
    go_ret
    exact ⟨rfl, hb0.trans (hb2.mono hb0.size)⟩
  · have hl : r.length ≤ 1000000 := by omega
    go_wp2_with fail
    refine (freeX_any r c d A cp _ (hR.below hb0) (by omega)).mono ?_
    rintro e w1 ⟨rfl, hb1⟩
    have hx1 := hx0.trans (hb1.mono (by simp))
    clear bx hb1 hb0
    obtain ⟨bx, _, _, hb⟩ := blk_facts hx1 (by omega)
    go_wp2_with fail
    refine (rfreeX_any r c d A cp _ (hR.below hb) (by omega)).mono ?_
    rintro e w2 ⟨rfl, hb2⟩
    have hx2 := hx1.trans (hb2.mono (by have := hx1.size; simp at this; omega))
    clear bx hb2 hb hx1
    obtain ⟨bx, _, _, hb⟩ := blk_facts hx2 (by omega)
    go_wp2_with fail
    refine (rights_any r c A cp _ (hR.below hb) hl).mono ?_
    rintro e w3 ⟨⟨A3, k3, rfl, own3, hb3⟩, hlen⟩
    have hx3 := hx2.trans (hb3.mono (by have := hx2.size; simp at this; omega))
    clear bx hb3 hb hx2
    obtain ⟨bx, _, _, hb⟩ := blk_facts hx3 (by omega)
    have u3 := own3.reads
    obtain ⟨U, hU⟩ : ∃ U, U = rgL r c := ⟨_, rfl⟩
    rw [← hU] at u3 hlen ⊢
    have HU := Lib.hid hU
    clear hU own3
    go_wp2_with fail
    refine (rrights_any r c A cp _ (hR.below hb) (by omega)).mono ?_
    rintro e w4 ⟨A4, k4, rfl, own4, hb4⟩
    have hx4 := hx3.trans (hb4.mono (by have := hx3.size; simp at this; omega))
    have u4 := own4.reads
    replace u3 := u3.below hb4
    rw [← HU.out] at u4 ⊢
    clear bx hb4 hb hx3 own4
    obtain ⟨bx, _, _, hb⟩ := blk_facts hx4 (by omega)
    go_wp2_with fail
    refine (vrights_any r A cp _ (hR.below hb) (by omega)).mono ?_
    rintro e w5 ⟨rfl, hb5⟩
    have hx5 := hx4.trans (hb5.mono (by have := hx4.size; simp at this; omega))
    replace u3 := u3.below hb5
    replace u4 := u4.below hb5
    clear bx hb5 hb hx4
    obtain ⟨bx, _, _, hb⟩ := blk_facts hx5 (by omega)
    go_wp2_with fail
    refine (rvrights_any r A cp _ (hR.below hb) (by omega)).mono ?_
    rintro e w6 ⟨rfl, hb6⟩
    have hx6 := hx5.trans (hb6.mono (by have := hx5.size; simp at this; omega))
    replace u3 := u3.below hb6
    replace u4 := u4.below hb6
    clear bx hb6 hb hx5
    obtain ⟨bx, _, _, hb⟩ := blk_facts hx6 (by omega)
    go_wp2_with fail
    refine (sameRights_any U U A3 A4 k3 k4 _ u3 u4 (by omega) (by omega)).mono ?_
    rintro e w7 ⟨rfl, hb7⟩
    have hx7 := hx6.trans (hb7.mono (by have := hx6.size; simp at this; omega))
    replace u3 := u3.below hb7
    rw [show decide (U = U) = true by simp]
    clear bx hb7 hb hx6 u4
    obtain ⟨bx, _, _, hb⟩ := blk_facts hx7 (by omega)
    by_cases hE : frE r c d = 0
    · have hE1 : (frE r c d != 0) = false := by simp [hE]
      obtain ⟨e1, e2⟩ := rights_free hE (by rw [← HU.out]; exact hlen)
      rw [← HU.out] at e1 e2
      clear hE
      go_wp2_with fail
      refine (freeX_any U c d A3 k3 _ u3 (by omega)).mono ?_
      rintro e w8 ⟨rfl, hb8⟩
      rw [e1, e2]
      have hb9 := hb.trans (hb8.mono hb.size)
      go_wp2_with fail
      refine (known_any _).mono ?_
      rintro e w9 ⟨rfl, hb10⟩
      go_wp2
      go_ret
      exact ⟨rfl, hb9.trans (hb10.mono hb9.size)⟩
    · have hE1 : (frE r c d != 0) = true := by simp [hE]
      clear hE
      go_wp2_with fail
      refine (known_any _).mono ?_
      rintro e w9 ⟨rfl, hb10⟩
      go_wp2
      go_ret
      exact ⟨rfl, hb.trans (hb10.mono hb.size)⟩
end Go.Proofs.Ytoopmancobfjeaa
