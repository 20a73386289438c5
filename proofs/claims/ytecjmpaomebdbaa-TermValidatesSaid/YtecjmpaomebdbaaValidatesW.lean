/-
  The walk of the law TermValidates.
-/
import Derived.Test.YtecjmpaomebdbaaAb
import Derived.Test.YtecjmpaomebdbaaT
namespace Go.Proofs.Ytecjmpaomebdbaa
set_option linter.unusedVariables false
set_option linter.unusedSimpArgs false
open Go.RowKit

structure R4 (w : World) (Ao Ap A1 A2 : Option Addr) (t : Tm) : Prop where
  o : RN w Ao t.rest
  p : RN w Ap t.clo
  a : RN w A1 t.rest
  b : RN w A2 t.clo
theorem R4.below {w w' : World} {Ao Ap A1 A2 : Option Addr} {t : Tm} (h : R4 w Ao Ap A1 A2 t) (hb : Below w.heap.size w w') : R4 w' Ao Ap A1 A2 t := ⟨h.o.below hb, h.p.below hb, h.a.below hb, h.b.below hb⟩

set_option maxRecDepth 100000 in
set_option maxHeartbeats 1000000 in
theorem termValidates_any (t : Tm) (A1 A2 : Option Addr) (c1 c2 : Nat) (c : Cy) (d : Int) (w : World) (h1 : RN w A1 t.rest) (h2 : RN w A2 t.clo) :
    Calls Try.prog 7 #[.agg #[.int .i64 t.len, .slice A1 t.rest.length c1, .slice A2 t.clo.length c2], .agg #[.int .i64 c.n, .int .i64 c.f, .int .i64 c.k], .int .i64 d] w fun e w' => e = .returned (.bool true) ∧ Below w.heap.size w w' := by
  have hy : Below w.heap.size w ((w.alloc (.cells #[.int .i64 t.len, .slice A1 t.rest.length c1, .slice A2 t.clo.length c2] 24)).alloc (.cells #[.int .i64 c.n, .int .i64 c.f, .int .i64 c.k] 26)) := ((Below.refl _ _).alloc (Nat.le_refl _) _).alloc (by simp) _
  have b0 : Box ((w.alloc (.cells #[.int .i64 t.len, .slice A1 t.rest.length c1, .slice A2 t.clo.length c2] 24)).alloc (.cells #[.int .i64 c.n, .int .i64 c.f, .int .i64 c.k] 26)) w.heap.size #[.int .i64 t.len, .slice A1 t.rest.length c1, .slice A2 t.clo.length c2] := (Box.new w _ _).alloc _
  have b1 : Box ((w.alloc (.cells #[.int .i64 t.len, .slice A1 t.rest.length c1, .slice A2 t.clo.length c2] 24)).alloc (.cells #[.int .i64 c.n, .int .i64 c.f, .int .i64 c.k] 26)) (w.heap.size + 1) #[.int .i64 c.n, .int .i64 c.f, .int .i64 c.k] := (Box.new (w.alloc (.cells #[.int .i64 t.len, .slice A1 t.rest.length c1, .slice A2 t.clo.length c2] 24)) _ _).at' (by simp)
  replace h1 := h1.below hy
  replace h2 := h2.below hy
  go_enter Try.func7, Try.ntmps7
  go_wp2_with fail
  refine (long_any t A1 A2 c1 c2 _).mono ?_
  rintro e w1 ⟨rfl, hb1⟩
  replace b0 := b0.below hb1; replace b1 := b1.below hb1; replace h1 := h1.below hb1; replace h2 := h2.below hb1; replace hy := hy.trans (hb1.mono hy.size)
  clear hb1
  cases hlg : longB t with
  | true =>
    have xx0 := b0.cell; have nn0 := b0.lt; have xx1 := b1.cell; have nn1 := b1.lt
    go_wp2_with fail
    clear xx0 nn0 xx1 nn1
    refine (known_any _).mono ?_
    rintro e w2 ⟨rfl, hb2⟩
    go_wp2
    go_ret
    exact ⟨rfl, hy.trans (hb2.mono hy.size)⟩
  | false =>
    obtain ⟨l1, l2⟩ := longB_no hlg
    have xx0 := b0.cell; have nn0 := b0.lt; have xx1 := b1.cell; have nn1 := b1.lt
    go_wp2_with fail
    clear xx0 nn0 xx1 nn1
    refine (copy_any t A1 A2 c1 c2 _ h1 h2 (by omega) (by omega)).mono ?_
    rintro e w2 ⟨Ao, co, Ap, cp, rfl, owno, ownp, hb2⟩
    replace b0 := b0.below hb2; replace b1 := b1.below hb2; replace h1 := h1.below hb2; replace h2 := h2.below hb2; replace hy := hy.trans (hb2.mono hy.size)
    clear hb2
    have ro := RN.of_own owno
    have rp := RN.of_own ownp
    clear owno ownp
    have xx0 := b0.cell; have nn0 := b0.lt; have xx1 := b1.cell; have nn1 := b1.lt
    go_wp2_with fail
    clear xx0 nn0 xx1 nn1
    have b2 : Box (w2.alloc (.cells #[.int .i64 t.len, .slice Ao t.rest.length co, .slice Ap t.clo.length cp] 24)) w2.heap.size #[.int .i64 t.len, .slice Ao t.rest.length co, .slice Ap t.clo.length cp] := Box.new w2 _ _
    replace b0 := b0.alloc (.cells #[.int .i64 t.len, .slice Ao t.rest.length co, .slice Ap t.clo.length cp] 24); replace b1 := b1.alloc (.cells #[.int .i64 t.len, .slice Ao t.rest.length co, .slice Ap t.clo.length cp] 24); replace h1 := h1.alloc (.cells #[.int .i64 t.len, .slice Ao t.rest.length co, .slice Ap t.clo.length cp] 24); replace h2 := h2.alloc (.cells #[.int .i64 t.len, .slice Ao t.rest.length co, .slice Ap t.clo.length cp] 24); replace ro := ro.alloc (.cells #[.int .i64 t.len, .slice Ao t.rest.length co, .slice Ap t.clo.length cp] 24); replace rp := rp.alloc (.cells #[.int .i64 t.len, .slice Ao t.rest.length co, .slice Ap t.clo.length cp] 24); replace hy := hy.alloc hy.size (.cells #[.int .i64 t.len, .slice Ao t.rest.length co, .slice Ap t.clo.length cp] 24)
    refine (isOpen_any d t Ao Ap co cp _ ro rp (by omega) (by omega)).mono ?_
    rintro e w3 ⟨rfl, hb3⟩
    replace b0 := b0.below hb3; replace b1 := b1.below hb3; replace b2 := b2.below hb3; replace h1 := h1.below hb3; replace h2 := h2.below hb3; replace ro := ro.below hb3; replace rp := rp.below hb3; replace hy := hy.trans (hb3.mono hy.size)
    clear hb3
    have xx0 := b0.cell; have nn0 := b0.lt; have xx1 := b1.cell; have nn1 := b1.lt; have xx2 := b2.cell; have nn2 := b2.lt
    go_wp2_with fail
    clear xx0 nn0 xx1 nn1 xx2 nn2
    refine (risOpen_any d t A1 A2 c1 c2 _ h1 h2 (by omega) (by omega)).mono ?_
    rintro e w4 ⟨rfl, hb4⟩
    replace b0 := b0.below hb4; replace b1 := b1.below hb4; replace b2 := b2.below hb4; replace h1 := h1.below hb4; replace h2 := h2.below hb4; replace ro := ro.below hb4; replace rp := rp.below hb4; replace hy := hy.trans (hb4.mono hy.size)
    clear hb4
    have hs2 := b2.lt; have hs1 := b1.lt; have hs0 := b0.lt
    have xx0 := b0.cell; have nn0 := b0.lt; have xx1 := b1.cell; have nn1 := b1.lt; have xx2 := b2.cell; have nn2 := b2.lt
    go_wp2_with fail
    clear xx0 nn0 xx1 nn1 xx2 nn2
    have y0 : w4.cell? ⟨w.heap.size, 0, none⟩ = some (.int .i64 t.len) := (b0.cell 0).trans rfl
    have y1 : w4.cell? ⟨w.heap.size, 1, none⟩ = some (.slice A1 t.rest.length c1) := (b0.cell 1).trans rfl
    have y2 : w4.cell? ⟨w.heap.size, 2, none⟩ = some (.slice A2 t.clo.length c2) := (b0.cell 2).trans rfl
    have y3 : w4.cell? ⟨w.heap.size + 1, 0, none⟩ = some (.int .i64 c.n) := (b1.cell 0).trans rfl
    have y4 : w4.cell? ⟨w.heap.size + 1, 1, none⟩ = some (.int .i64 c.f) := (b1.cell 1).trans rfl
    have y5 : w4.cell? ⟨w.heap.size + 1, 2, none⟩ = some (.int .i64 c.k) := (b1.cell 2).trans rfl
    have y6 : w4.cell? ⟨w2.heap.size, 0, none⟩ = some (.int .i64 t.len) := (b2.cell 0).trans rfl
    have y7 : w4.cell? ⟨w2.heap.size, 1, none⟩ = some (.slice Ao t.rest.length co) := (b2.cell 1).trans rfl
    have y8 : w4.cell? ⟨w2.heap.size, 2, none⟩ = some (.slice Ap t.clo.length cp) := (b2.cell 2).trans rfl
    have kk : R4 w4.drew Ao Ap A1 A2 t := ⟨ro, rp, h1, h2⟩
    clear b0 b1 b2 ro rp h1 h2
    go_region_held3 (fun w' => w'.cell? ⟨w.heap.size, 0, none⟩ = some (.int .i64 t.len) ∧ w'.cell? ⟨w.heap.size, 1, none⟩ = some (.slice A1 t.rest.length c1) ∧ w'.cell? ⟨w.heap.size, 2, none⟩ = some (.slice A2 t.clo.length c2) ∧ w'.cell? ⟨w.heap.size + 1, 0, none⟩ = some (.int .i64 c.n) ∧ w'.cell? ⟨w.heap.size + 1, 1, none⟩ = some (.int .i64 c.f) ∧ w'.cell? ⟨w.heap.size + 1, 2, none⟩ = some (.int .i64 c.k) ∧ w'.cell? ⟨w2.heap.size, 0, none⟩ = some (.int .i64 t.len) ∧ w'.cell? ⟨w2.heap.size, 1, none⟩ = some (.slice Ao t.rest.length co) ∧ w'.cell? ⟨w2.heap.size, 2, none⟩ = some (.slice Ap t.clo.length cp))
      (first | go_keep | (go_split_ands; refine ⟨?_, ?_, ?_, ?_, ?_, ?_, ?_, ?_, ?_⟩ <;> (rw [hbF.cell (by first | omega | (simp; omega))]; go_keep)) | (go_split_ands; refine ⟨?_, ?_, ?_, ?_, ?_, ?_, ?_, ?_, ?_⟩ <;> (rw [hbE.cell (by first | omega | (simp; omega))]; go_keep)) | (go_split_ands; refine ⟨?_, ?_, ?_, ?_, ?_, ?_, ?_, ?_, ?_⟩ <;> (rw [hbD.cell (by first | omega | (simp; omega))]; go_keep)) | (go_split_ands; refine ⟨?_, ?_, ?_, ?_, ?_, ?_, ?_, ?_, ?_⟩ <;> (rw [hbC.cell (by first | omega | (simp; omega))]; go_keep)) | (go_split_ands; refine ⟨?_, ?_, ?_, ?_, ?_, ?_, ?_, ?_, ?_⟩ <;> (rw [hbB.cell (by first | omega | (simp; omega))]; go_keep)) | (go_split_ands; refine ⟨?_, ?_, ?_, ?_, ?_, ?_, ?_, ?_, ?_⟩ <;> (rw [hbA.cell (by first | omega | (simp; omega))]; go_keep)))
      (first | (go_at_call 23; refine (tvalidate_any t Ao Ap co cp _ kk.o kk.p (by omega) (by omega)).mono ?_; rintro e wA ⟨rfl, hbA⟩; have hsA : w4.heap.size ≤ wA.heap.size := hbA.size; have kkA := kk.below hbA) | (go_at_call 35; refine (rtvalidate_any t A1 A2 c1 c2 _ kkA.a kkA.b (by omega) (by omega)).mono ?_; rintro e wB ⟨rfl, hbB⟩; have hsB : w4.heap.size ≤ wB.heap.size := Nat.le_trans hsA hbB.size; have kkB := kkA.below hbB) | (go_at_call 24; refine (cvalidate_any c _).mono ?_; rintro e wC ⟨rfl, hbC⟩; have hsC : w4.heap.size ≤ wC.heap.size := Nat.le_trans hsB hbC.size; have kkC := kkB.below hbC) | (go_at_call 36; refine (rcvalidate_any c _).mono ?_; rintro e wD ⟨rfl, hbD⟩; have hsD : w4.heap.size ≤ wD.heap.size := Nat.le_trans hsC hbD.size; have kkD := kkC.below hbD) | (go_at_call 30; refine (same_any t t Ao Ap A1 A2 co cp c1 c2 _ kkD.o kkD.p kkD.a kkD.b (by omega) (by omega) (by omega) (by omega)).mono ?_; rintro e wE ⟨rfl, hbE⟩; rw [sameB_refl]; have hsE : w4.heap.size ≤ wE.heap.size := Nat.le_trans hsD hbE.size; have kkE := kkD.below hbE) | (go_at_call 18; refine (known_any _).mono ?_; rintro e wF ⟨rfl, hbF⟩; have hsF : w4.heap.size ≤ wF.heap.size := Nat.le_trans hsE hbF.size; have kkF := kkE.below hbF))
    go_wp2_with fail
    go_ret
    exact ⟨rfl, hy.trans (((((((Below.refl w4.heap.size w4).drew.trans hbA).trans (hbB.mono hsA)).trans (hbC.mono hsB)).trans (hbD.mono hsC)).trans (hbE.mono hsD)).trans (hbF.mono hsE) |>.mono hy.size)⟩
end Go.Proofs.Ytecjmpaomebdbaa
