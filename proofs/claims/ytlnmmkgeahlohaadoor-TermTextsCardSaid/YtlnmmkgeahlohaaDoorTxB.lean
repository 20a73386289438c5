/-
  Walks: the document's text of a term.
-/
import Derived.Test.YtlnmmkgeahlohaaDoorTxA
namespace Go.Proofs.YtlnmmkgeahlohaaDoor
set_option linter.unusedVariables false
set_option linter.unusedSimpArgs false
open Go.RowKit

def fmtS (t : Tm) : List UInt8 := if tE t = 0 then fmtT t else []
theorem fmt_eq (t : Tm) : fmtT t = [116, 101, 114, 109, 32] ++ dgI t.len ++ [32, 114, 101, 115, 116] ++ Lib.joinTail [32] (t.rest.map dgI) ++ [32, 99, 108, 111, 115, 101, 100] ++ Lib.joinTail [32] (t.clo.map dgI) := by
  unfold fmtT wordsT
  rw [Lib.join_cons, jt_cons, jt_cons, jt_app, jt_cons]
  simp [wTerm, wRest, wClosed]
theorem small_rest {t : Tm} (h : TmOk t) : small t.rest := fun k hk => by
  have := isSet_at h.rest hk
  omega
theorem small_clo {t : Tm} (h : TmOk t) : small t.clo := fun k hk => by
  have := isSet_at h.clo hk
  have := h.len2
  omega
theorem fmt_len {t : Tm} (h : TmOk t) : (fmtT t).length ≤ 1000 := by
  have h1 := jt_len t.rest fun x hx => (small_mem (small_rest h) x hx).2
  have h2 := jt_len t.clo fun x hx => (small_mem (small_clo h) x hx).2
  have h3 := dg_len4 h.len2
  have h4 := h.rest7
  have h5 := h.clo60
  have h6 := isSet_len h.rest (by omega)
  rw [fmt_eq]
  simp only [List.length_append, List.length_cons, List.length_nil]
  omega
set_option maxRecDepth 100000 in
set_option maxHeartbeats 1600000 in
theorem rformat_any (t : Tm) (A1 A2 : Option Addr) (c1 c2 : Nat) (w : World) (h1 : RN w A1 t.rest) (h2 : RN w A2 t.clo) (hl1 : t.rest.length ≤ 1000000) (hl2 : t.clo.length ≤ 1000000) :
    Calls Tryd.prog 7 #[.agg #[.int .i64 t.len, .slice A1 t.rest.length c1, .slice A2 t.clo.length c2]] w fun e w' => e = .returned (.tuple #[St (fmtS t), .int .i64 (tE t)]) ∧ Below w.heap.size w w' := by
  have hx0 : Below (w.heap.size + 1) (w.alloc (.cells #[.int .i64 t.len, .slice A1 t.rest.length c1, .slice A2 t.clo.length c2] 24)) (w.alloc (.cells #[.int .i64 t.len, .slice A1 t.rest.length c1, .slice A2 t.clo.length c2] 24)) := Below.refl _ _
  obtain ⟨_, _, _, hb0⟩ := blk_facts hx0 (by omega)
  go_enter Tryd.func7, Tryd.ntmps7
  go_wp2_with fail
  refine (rtvalidate_any t A1 A2 c1 c2 _ (h1.below hb0) (h2.below hb0) (by omega) (by omega)).mono ?_
  rintro e w1 ⟨rfl, hb1⟩
  have hx1 := hx0.trans (hb1.mono (by simp))
  clear hb1
  obtain ⟨bx, _, _, hb1⟩ := blk_facts hx1 (by omega)
  by_cases h0 : tE t = 0
  · have hok := TmOk.of h0
    have hS : fmtS t = fmtT t := if_pos h0
    rw [h0]
    have r1 := h1.below hb1
    have r2 := h2.below hb1
    have hv := fmt_eq t
    have q0 : 0 ≤ t.len := by have := hok.len1; omega
    have q1 := dg_len4 hok.len2
    have q2 := jt_len t.rest fun x hx => (small_mem (small_rest hok) x hx).2
    have q3 := jt_len t.clo fun x hx => (small_mem (small_clo hok) x hx).2
    have cA := fun n => digits_any t.len.toNat (w1.drewN n) (by have := hok.len2; omega)
    rw [show ((t.len.toNat : Nat) : Int) = t.len by omega] at cA
    have cB := fun n => numbers_any t.rest (small_rest hok) A1 c1 (w1.drewN n) (r1.below (below_drewN (Below.refl _ _) n)) hl1
    have cC := fun n => numbers_any t.clo (small_clo hok) A2 c2 (w1.drewN n) (r2.below (below_drewN (Below.refl _ _) n)) hl2
    rw [hv] at hS
    obtain ⟨D, hD⟩ : ∃ D, D = Lib.decDigits t.len.toNat := ⟨_, rfl⟩
    rw [← hD] at cA
    rw [show dgI t.len = D by rw [hD]; rfl] at q1 hS
    obtain ⟨X, hX⟩ : ∃ X, X = Lib.joinTail [32] (t.rest.map dgI) := ⟨_, rfl⟩
    rw [← hX] at cB q2 hS
    obtain ⟨Y, hY⟩ : ∃ Y, Y = Lib.joinTail [32] (t.clo.map dgI) := ⟨_, rfl⟩
    rw [← hY] at cC q3 hS
    have HS := Lib.hid hS
    have H0 := Lib.hid h0
    clear hv hD hX hY hS h0 hok
    have g1 : ¬ 9223372036854775807 < 5 + D.length := by omega
    have g2 : ¬ 9223372036854775807 < 5 + D.length + 5 := by omega
    have g3 : ¬ 9223372036854775807 < 5 + D.length + 5 + X.length := by omega
    have g4 : ¬ 9223372036854775807 < 5 + D.length + 5 + X.length + 7 := by omega
    have g5 : ¬ 9223372036854775807 < 5 + D.length + 5 + X.length + 7 + Y.length := by omega
    go_wp2_with fail
    go_quiet ((first | (go_at_call 17; (with_reducible exact Calls.quiet_of_same (cA _))) | (go_at_call 18; (with_reducible exact Calls.quiet_of_same (cB _))) | (go_at_call 18; (with_reducible exact Calls.quiet_of_same (cC _)))))
    go_wp2
    go_ret2
    exact ⟨ret2 (by rw [st_app, st_app, st_app, st_app, st_app, HS.out]; rfl) (by rw [H0.out]; rfl), below_drewN hb1 _⟩
  · have hS : fmtS t = [] := if_neg h0
    have HS := Lib.hid hS
    clear hS
    go_wp2
    go_ret2
    exact ⟨by rw [HS.out]; rfl, hb1⟩
end Go.Proofs.YtlnmmkgeahlohaaDoor
