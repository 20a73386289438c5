/-
  The walk of the law TermTexts.
-/
import Derived.Test.YtlnmmkgeahlohaaDoorTxJ
import Derived.Test.YtlnmmkgeahlohaaDoorAb
namespace Go.Proofs.YtlnmmkgeahlohaaDoor
set_option linter.unusedVariables false
set_option linter.unusedSimpArgs false
open Go.RowKit

theorem prT_len (s : List UInt8) : (prT s).rest.length ≤ 1000 ∧ (prT s).clo.length ≤ 1000 := by
  unfold prT
  by_cases h : prE s = 0
  · rw [if_pos h]
    unfold prE at h
    split at h
    · cases h
    · split at h
      · rename_i p hp
        split at h
        · rename_i hq
          have hok := TmOk.of hq.1
          have q2 := isSet_len hok.rest (by omega)
          have q3 := hok.clo60
          exact ⟨by show p.tm.rest.length ≤ 1000; omega, by show p.tm.clo.length ≤ 1000; omega⟩
        · cases h
      · cases h
  · rw [if_neg h]; simp
theorem back_fmt {t : Tm} (h : tE t = 0) : (fmtS t).length ≤ 100000 ∧ prT (fmtS t) = t ∧ prE (fmtS t) = 0 := by
  have hok := TmOk.of h
  have hl := fmt_len hok
  obtain ⟨p, hp, hq⟩ := pT_fmt hok
  have hS : fmtS t = fmtT t := if_pos h
  have hE : prE (fmtS t) = 0 := by
    rw [hS, prE, if_neg (by omega), hp]
    simp only [hq]
    rw [if_pos ⟨h, trivial⟩]
  refine ⟨by rw [hS]; omega, ?_, hE⟩
  rw [prT, if_pos hE, hS, hp]
  exact hq

theorem Env.alloc {w : World} (h : Env w) (o : Obj) : Env (w.alloc o) := h.below ((Below.refl _ _).alloc (Nat.le_refl _) o)
set_option maxRecDepth 100000 in
set_option maxHeartbeats 1000000 in
theorem termTexts_any (t : Tm) (A1 A2 : Option Addr) (c1 c2 : Nat) (s : List UInt8) (hsz : s.length ≤ 9223372036854775807) (w : World) (hE : Env w) (h1 : RN w A1 t.rest) (h2 : RN w A2 t.clo) :
    Calls Tryd.prog 3 #[.agg #[.int .i64 t.len, .slice A1 t.rest.length c1, .slice A2 t.clo.length c2], St s] w fun e w' => e = .returned (.bool true) ∧ Below w.heap.size w w' := by
  obtain ⟨X, hX⟩ : ∃ X, X = prT s := ⟨_, rfl⟩
  obtain ⟨E, hE1⟩ : ∃ E, E = prE s := ⟨_, rfl⟩
  have hXl := prT_len s
  have hpa := fun W (h : Env W) (hl : s.length ≤ 100000) => parse_any s hl W h
  have hpb := fun W (hl : s.length ≤ 100000) => rparse_any s hl W
  rw [← (read_same s).1, ← (read_same s).2, ← hX, ← hE1] at hpb
  rw [← hX, ← hE1] at hpa
  rw [← hX] at hXl
  have HPA := Lib.hid hpa
  have HPB := Lib.hid hpb
  clear hpa hpb hX hE1
  have hy : Below w.heap.size w (w.alloc (.cells #[.int .i64 t.len, .slice A1 t.rest.length c1, .slice A2 t.clo.length c2] 24)) := (Below.refl _ _).alloc (Nat.le_refl _) _
  have b0 : Box (w.alloc (.cells #[.int .i64 t.len, .slice A1 t.rest.length c1, .slice A2 t.clo.length c2] 24)) w.heap.size #[.int .i64 t.len, .slice A1 t.rest.length c1, .slice A2 t.clo.length c2] := Box.new w _ _
  replace h1 := h1.below hy
  replace h2 := h2.below hy
  replace hE := hE.below hy
  go_enter Tryd.func3, Tryd.ntmps3
  go_wp2_with fail
  refine (long_any t A1 A2 c1 c2 _).mono ?_
  rintro e w1 ⟨rfl, hb1⟩
  replace b0 := b0.below hb1; replace h1 := h1.below hb1; replace h2 := h2.below hb1; replace hE := hE.below hb1; replace hy := hy.trans (hb1.mono hy.size)
  clear hb1
  cases hlg : longB t with
  | true =>
    have xx0 := b0.cell; have nn0 := b0.lt
    go_wp2_with fail
    clear xx0 nn0
    refine (known_any _).mono ?_
    rintro e w2 ⟨rfl, hb2⟩
    go_wp2
    go_ret
    exact ⟨rfl, hy.trans (hb2.mono hy.size)⟩
  | false =>
    obtain ⟨l1, l2⟩ := longB_no hlg
    by_cases hbig : 5000 < s.length
    · have hbig2 : decide ((5000 : Int) < (s.length : Int)) = true := by simp; omega
      have xx0 := b0.cell; have nn0 := b0.lt
      go_wp2_with fail
      clear xx0 nn0
      refine (known_any _).mono ?_
      rintro e w2 ⟨rfl, hb2⟩
      go_wp2
      go_ret
      exact ⟨rfl, hy.trans (hb2.mono hy.size)⟩
    have hbig2 : decide ((5000 : Int) < (s.length : Int)) = false := by simp; omega
    have xx0 := b0.cell; have nn0 := b0.lt
    go_wp2_with fail
    clear xx0 nn0
    refine (format_any t A1 A2 c1 c2 _ hE h1 h2 (by omega) (by omega)).mono ?_
    rintro e w2 ⟨rfl, hb2⟩
    replace b0 := b0.below hb2; replace h1 := h1.below hb2; replace h2 := h2.below hb2; replace hE := hE.below hb2; replace hy := hy.trans (hb2.mono hy.size)
    clear hb2
    have xx0 := b0.cell; have nn0 := b0.lt
    go_wp2_with fail
    clear xx0 nn0
    refine (rformat_any t A1 A2 c1 c2 _ h1 h2 (by omega) (by omega)).mono ?_
    rintro e w3 ⟨rfl, hb3⟩
    replace b0 := b0.below hb3; replace h1 := h1.below hb3; replace h2 := h2.below hb3; replace hE := hE.below hb3; replace hy := hy.trans (hb3.mono hy.size)
    clear hb3
    have xx0 := b0.cell; have nn0 := b0.lt
    go_wp2_with fail
    clear xx0 nn0
    refine (HPA.out _ hE (by omega)).mono ?_
    rintro e w4 ⟨Ax, cAx, Ay, cAy, rfl, rx, ry, hb4⟩
    replace b0 := b0.below hb4; replace h1 := h1.below hb4; replace h2 := h2.below hb4; replace hE := hE.below hb4; replace hy := hy.trans (hb4.mono hy.size)
    clear hb4
    have xx0 := b0.cell; have nn0 := b0.lt
    go_wp2_with fail
    clear xx0 nn0
    have b1 : Box (w4.alloc (.cells #[.int .i64 X.len, .slice Ax X.rest.length cAx, .slice Ay X.clo.length cAy] 24)) w4.heap.size #[.int .i64 X.len, .slice Ax X.rest.length cAx, .slice Ay X.clo.length cAy] := Box.new w4 _ _
    replace b0 := b0.alloc (.cells #[.int .i64 X.len, .slice Ax X.rest.length cAx, .slice Ay X.clo.length cAy] 24); replace h1 := h1.alloc (.cells #[.int .i64 X.len, .slice Ax X.rest.length cAx, .slice Ay X.clo.length cAy] 24); replace h2 := h2.alloc (.cells #[.int .i64 X.len, .slice Ax X.rest.length cAx, .slice Ay X.clo.length cAy] 24); replace hE := hE.alloc (.cells #[.int .i64 X.len, .slice Ax X.rest.length cAx, .slice Ay X.clo.length cAy] 24); replace rx := rx.alloc (.cells #[.int .i64 X.len, .slice Ax X.rest.length cAx, .slice Ay X.clo.length cAy] 24); replace ry := ry.alloc (.cells #[.int .i64 X.len, .slice Ax X.rest.length cAx, .slice Ay X.clo.length cAy] 24); replace hy := hy.alloc hy.size (.cells #[.int .i64 X.len, .slice Ax X.rest.length cAx, .slice Ay X.clo.length cAy] 24)
    refine (HPB.out _ (by omega)).mono ?_
    rintro e w5 ⟨Az, cAz, Au, cAu, rfl, rz, ru, hb5⟩
    replace b0 := b0.below hb5; replace b1 := b1.below hb5; replace h1 := h1.below hb5; replace h2 := h2.below hb5; replace hE := hE.below hb5; replace rx := rx.below hb5; replace ry := ry.below hb5; replace hy := hy.trans (hb5.mono hy.size)
    clear hb5
    have xx0 := b0.cell; have nn0 := b0.lt; have xx1 := b1.cell; have nn1 := b1.lt
    go_wp2_with fail
    clear xx0 nn0 xx1 nn1
    have b2 : Box (w5.alloc (.cells #[.int .i64 X.len, .slice Az X.rest.length cAz, .slice Au X.clo.length cAu] 24)) w5.heap.size #[.int .i64 X.len, .slice Az X.rest.length cAz, .slice Au X.clo.length cAu] := Box.new w5 _ _
    replace b0 := b0.alloc (.cells #[.int .i64 X.len, .slice Az X.rest.length cAz, .slice Au X.clo.length cAu] 24); replace b1 := b1.alloc (.cells #[.int .i64 X.len, .slice Az X.rest.length cAz, .slice Au X.clo.length cAu] 24); replace h1 := h1.alloc (.cells #[.int .i64 X.len, .slice Az X.rest.length cAz, .slice Au X.clo.length cAu] 24); replace h2 := h2.alloc (.cells #[.int .i64 X.len, .slice Az X.rest.length cAz, .slice Au X.clo.length cAu] 24); replace hE := hE.alloc (.cells #[.int .i64 X.len, .slice Az X.rest.length cAz, .slice Au X.clo.length cAu] 24); replace rx := rx.alloc (.cells #[.int .i64 X.len, .slice Az X.rest.length cAz, .slice Au X.clo.length cAu] 24); replace ry := ry.alloc (.cells #[.int .i64 X.len, .slice Az X.rest.length cAz, .slice Au X.clo.length cAu] 24); replace rz := rz.alloc (.cells #[.int .i64 X.len, .slice Az X.rest.length cAz, .slice Au X.clo.length cAu] 24); replace ru := ru.alloc (.cells #[.int .i64 X.len, .slice Az X.rest.length cAz, .slice Au X.clo.length cAu] 24); replace hy := hy.alloc hy.size (.cells #[.int .i64 X.len, .slice Az X.rest.length cAz, .slice Au X.clo.length cAu] 24)
    refine (same_any X X Ax Ay Az Au cAx cAy cAz cAu _ rx ry rz ru (by omega) (by omega) (by omega) (by omega)).mono ?_
    rintro e w6 ⟨rfl, hb6⟩
    replace b0 := b0.below hb6; replace b1 := b1.below hb6; replace b2 := b2.below hb6; replace h1 := h1.below hb6; replace h2 := h2.below hb6; replace hE := hE.below hb6; replace rx := rx.below hb6; replace ry := ry.below hb6; replace rz := rz.below hb6; replace ru := ru.below hb6; replace hy := hy.trans (hb6.mono hy.size)
    clear hb6
    rw [sameB_refl]
    clear rx ry rz ru
    have hs4 := b1.lt; have hs5 := b2.lt; have hs0 := b0.lt
    clear b1 b2
    by_cases h0 : tE t = 0
    · have hb := back_fmt h0
      have h0' : (tE t != 0) = false := by simp [h0]
      have hpa := fun W (h : Env W) => parse_any (fmtS t) hb.1 W h
      rw [hb.2.1, hb.2.2] at hpa
      have H0 := Lib.hid h0
      have HPC := Lib.hid hpa
      clear hpa hb h0
      have xx0 := b0.cell; have nn0 := b0.lt
      go_wp2_with fail
      clear xx0 nn0
      refine (HPC.out _ hE).mono ?_
      rintro e w7 ⟨Ax, cAx, Ay, cAy, rfl, rx, ry, hb7⟩
      replace b0 := b0.below hb7; replace h1 := h1.below hb7; replace h2 := h2.below hb7; replace hE := hE.below hb7; replace hy := hy.trans (hb7.mono hy.size)
      clear hb7
      have xx0 := b0.cell; have nn0 := b0.lt
      go_wp2_with fail
      clear xx0 nn0
      have b1 : Box (w7.alloc (.cells #[.int .i64 t.len, .slice Ax t.rest.length cAx, .slice Ay t.clo.length cAy] 24)) w7.heap.size #[.int .i64 t.len, .slice Ax t.rest.length cAx, .slice Ay t.clo.length cAy] := Box.new w7 _ _
      replace b0 := b0.alloc (.cells #[.int .i64 t.len, .slice Ax t.rest.length cAx, .slice Ay t.clo.length cAy] 24); replace h1 := h1.alloc (.cells #[.int .i64 t.len, .slice Ax t.rest.length cAx, .slice Ay t.clo.length cAy] 24); replace h2 := h2.alloc (.cells #[.int .i64 t.len, .slice Ax t.rest.length cAx, .slice Ay t.clo.length cAy] 24); replace hE := hE.alloc (.cells #[.int .i64 t.len, .slice Ax t.rest.length cAx, .slice Ay t.clo.length cAy] 24); replace rx := rx.alloc (.cells #[.int .i64 t.len, .slice Ax t.rest.length cAx, .slice Ay t.clo.length cAy] 24); replace ry := ry.alloc (.cells #[.int .i64 t.len, .slice Ax t.rest.length cAx, .slice Ay t.clo.length cAy] 24); replace hy := hy.alloc hy.size (.cells #[.int .i64 t.len, .slice Ax t.rest.length cAx, .slice Ay t.clo.length cAy] 24)
      refine (same_any t t Ax Ay A1 A2 cAx cAy c1 c2 _ rx ry h1 h2 (by omega) (by omega) (by omega) (by omega)).mono ?_
      rintro e w8 ⟨rfl, hb8⟩
      replace b0 := b0.below hb8; replace b1 := b1.below hb8; replace h1 := h1.below hb8; replace h2 := h2.below hb8; replace hE := hE.below hb8; replace rx := rx.below hb8; replace ry := ry.below hb8; replace hy := hy.trans (hb8.mono hy.size)
      clear hb8
      rw [sameB_refl]
      have xx0 := b0.cell; have nn0 := b0.lt; have xx1 := b1.cell; have nn1 := b1.lt
      go_wp2_with fail
      clear xx0 nn0 xx1 nn1
      refine (known_any _).mono ?_
      rintro e w9 ⟨rfl, hb9⟩
      go_wp2
      go_ret
      exact ⟨rfl, hy.trans (hb9.mono hy.size)⟩
    · have h0' : (tE t != 0) = true := by simp [h0]
      have hfl : (fmtS t).length ≤ 100000 := by rw [show fmtS t = [] from if_neg h0]; simp
      clear h0
      have xx0 := b0.cell; have nn0 := b0.lt
      go_wp2_with fail
      clear xx0 nn0
      refine (parse_any (fmtS t) hfl _ hE).mono ?_
      rintro e w7 ⟨Ax, cAx, Ay, cAy, rfl, rx, ry, hb7⟩
      replace b0 := b0.below hb7; replace h1 := h1.below hb7; replace h2 := h2.below hb7; replace hE := hE.below hb7; replace hy := hy.trans (hb7.mono hy.size)
      clear hb7
      have xx0 := b0.cell; have nn0 := b0.lt
      go_wp2_with fail
      clear xx0 nn0
      replace b0 := b0.alloc (.cells #[.int .i64 (prT (fmtS t)).len, .slice Ax (prT (fmtS t)).rest.length cAx, .slice Ay (prT (fmtS t)).clo.length cAy] 24); replace h1 := h1.alloc (.cells #[.int .i64 (prT (fmtS t)).len, .slice Ax (prT (fmtS t)).rest.length cAx, .slice Ay (prT (fmtS t)).clo.length cAy] 24); replace h2 := h2.alloc (.cells #[.int .i64 (prT (fmtS t)).len, .slice Ax (prT (fmtS t)).rest.length cAx, .slice Ay (prT (fmtS t)).clo.length cAy] 24); replace hE := hE.alloc (.cells #[.int .i64 (prT (fmtS t)).len, .slice Ax (prT (fmtS t)).rest.length cAx, .slice Ay (prT (fmtS t)).clo.length cAy] 24); replace hy := hy.alloc hy.size (.cells #[.int .i64 (prT (fmtS t)).len, .slice Ax (prT (fmtS t)).rest.length cAx, .slice Ay (prT (fmtS t)).clo.length cAy] 24)
      refine (known_any _).mono ?_
      rintro e w9 ⟨rfl, hb9⟩
      go_wp2
      go_ret
      exact ⟨rfl, hy.trans (hb9.mono hy.size)⟩
end Go.Proofs.YtlnmmkgeahlohaaDoor
