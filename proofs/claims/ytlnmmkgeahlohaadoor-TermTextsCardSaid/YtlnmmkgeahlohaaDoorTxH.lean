/-
  Walks: the program's text of a term.
-/
import Derived.Test.YtlnmmkgeahlohaaDoorTxG
namespace Go.Proofs.YtlnmmkgeahlohaaDoor
set_option linter.unusedVariables false
set_option linter.unusedSimpArgs false
open Go.RowKit

theorem OwnS.lit (w : World) (ws : List Wd) (cs : Array Value) (hcs : cs = (strs ws).toArray) (hl : ws.length ≤ 1000) : OwnS (w.alloc (.cells cs 9)) w.heap.size (some ⟨w.heap.size, 0, none⟩) ws.length ws := by
  have h0 : (w.alloc (.cells cs 9)).ownsRow w.heap.size 9 1 (.slice (some ⟨w.heap.size, 0, none⟩) ws.length ws.length) ws.length cs.toList := World.ownsRow_lit w cs ws.length (Nat.le_refl _) (by unfold maxLen; omega) (by rw [hcs]; simp [strs])
  rw [hcs] at h0 ⊢
  exact h0
def w1 (t : Tm) (k : Nat) : List Wd := [wTerm, dgI t.len, wRest] ++ (t.rest.take k).map dgI
def w2 (t : Tm) (k : Nat) : List Wd := [wTerm, dgI t.len, wRest] ++ t.rest.map dgI ++ [wClosed] ++ (t.clo.take k).map dgI
theorem w1_succ (t : Tm) {k : Nat} (hk : k < t.rest.length) : w1 t (k + 1) = w1 t k ++ [dgI (gi t.rest k)] := by unfold w1; rw [take_gi' hk]; simp
theorem w2_succ (t : Tm) {k : Nat} (hk : k < t.clo.length) : w2 t (k + 1) = w2 t k ++ [dgI (gi t.clo k)] := by unfold w2; rw [take_gi' hk]; simp
theorem w1_len (t : Tm) (k : Nat) (hk : k ≤ t.rest.length) : (w1 t k).length = 3 + k := by simp [w1]; omega
theorem w2_len (t : Tm) (k : Nat) (hk : k ≤ t.clo.length) : (w2 t k).length = 4 + t.rest.length + k := by simp [w2]; omega
theorem w2_zero (t : Tm) : w2 t 0 = w1 t t.rest.length ++ [wClosed] := by simp [w1, w2]
theorem w2_all (t : Tm) : w2 t t.clo.length = wordsT t := by simp [w2, wordsT]
set_option maxRecDepth 100000 in
set_option maxHeartbeats 1000000 in
theorem format_any (t : Tm) (A1 A2 : Option Addr) (c1 c2 : Nat) (w : World) (hE : Env w) (h1 : RN w A1 t.rest) (h2 : RN w A2 t.clo) (hl1 : t.rest.length ≤ 1000000) (hl2 : t.clo.length ≤ 1000000) :
    Calls Tryd.prog 6 #[.agg #[.int .i64 t.len, .slice A1 t.rest.length c1, .slice A2 t.clo.length c2]] w fun e w' => e = .returned (.tuple #[St (fmtS t), .int .i64 (tE t)]) ∧ Below w.heap.size w w' := by
  have b0 : Box (w.alloc (.cells #[.int .i64 t.len, .slice A1 t.rest.length c1, .slice A2 t.clo.length c2] 24)) w.heap.size #[.int .i64 t.len, .slice A1 t.rest.length c1, .slice A2 t.clo.length c2] := Box.new _ _ _
  have hy : Below w.heap.size w (w.alloc (.cells #[.int .i64 t.len, .slice A1 t.rest.length c1, .slice A2 t.clo.length c2] 24)) := (Below.refl _ _).alloc (Nat.le_refl _) _
  go_enter Tryd.func6, Tryd.ntmps6
  go_wp2_with fail
  refine (tvalidate_any t A1 A2 c1 c2 _ (h1.below hy) (h2.below hy) (by omega) (by omega)).mono ?_
  rintro e wa ⟨rfl, hb⟩
  replace b0 := b0.below hb
  replace hy := hy.trans (hb.mono hy.size)
  clear hb
  by_cases h0 : tE t = 0
  · have hok := TmOk.of h0
    have hS : fmtS t = fmtT t := if_pos h0
    have hj := fmt_len hok
    have q0 := hok.len1
    have q1 := hok.len2
    have q2 := isSet_len hok.rest (by omega)
    have q3 := hok.clo60
    have q4 := small_rest hok
    have q5 := small_clo hok
    have h0' : (tE t != 0) = false := by simp [h0]
    have HS := Lib.hid hS
    have H0 := Lib.hid h0
    clear hS h0 hok
    have y0 := b0.cell 0; have y1 := b0.cell 1; have y2 := b0.cell 2
    simp only [List.getElem?_toArray, List.getElem?_cons_zero, List.getElem?_cons_succ] at y0 y1 y2
    go_wp2_with fail
    refine (itoa_any t.len (by omega) (by omega) _ (hE.below hy)).mono ?_
    rintro e wb ⟨rfl, hb⟩
    replace b0 := b0.below hb
    replace hy := hy.trans (hb.mono hy.size)
    clear hb y0 y1 y2
    have hblt := b0.lt
    have own0 := OwnS.lit wb [wTerm, dgI t.len, wRest] #[St wTerm, St (dgI t.len), St wRest] (by simp [strs]) (by simp)
    replace own0 : OwnS (wb.alloc (.cells #[.string ⟨#[116, 101, 114, 109]⟩, St (dgI t.len), .string ⟨#[114, 101, 115, 116]⟩] 9)) wb.heap.size (some ⟨wb.heap.size, 0, none⟩) 3 [wTerm, dgI t.len, wRest] := own0
    replace b0 := b0.alloc (.cells #[.string ⟨#[116, 101, 114, 109]⟩, St (dgI t.len), .string ⟨#[114, 101, 115, 116]⟩] 9)
    have hyb := hy.alloc hy.size (.cells #[.string ⟨#[116, 101, 114, 109]⟩, St (dgI t.len), .string ⟨#[114, 101, 115, 116]⟩] 9)
    have hbs := hy.size
    clear hy
    have y0 := b0.cell 0; have y1 := b0.cell 1; have y2 := b0.cell 2
    simp only [List.getElem?_toArray, List.getElem?_cons_zero, List.getElem?_cons_succ] at y0 y1 y2
    go_wp2
    go_loopw [5, 22] (fun o x wr => ∃ k : Nat, k ≤ t.rest.length ∧ x = .int .i64 k ∧ ∃ A' c', o = .slice A' (w1 t k).length c' ∧ OwnS wr wb.heap.size A' c' (w1 t k) ∧ Box wr w.heap.size #[.int .i64 t.len, .slice A1 t.rest.length c1, .slice A2 t.clo.length c2] ∧ Below w.heap.size w wr ∧ wb.heap.size ≤ wr.heap.size) (fun _ x _ => t.rest.length - (intOf x).toNat)
    case atStart => exact ⟨0, by omega, rfl, _, _, rfl, own0, b0, hyb, by simp⟩
    case round =>
      clear own0 b0 hyb y0 y1 y2
      obtain ⟨k, hk, rfl, A', c', rfl, own, b0, hy, hbd⟩ := hrel
      have hwl : (w1 t k).length ≤ 100 := by rw [w1_len t k hk]; omega
      by_cases hlt : k < t.rest.length
      · obtain ⟨ad, rfl, hab, e0⟩ := (h1.below hy).at_ hlt
        obtain ⟨s1, s2⟩ := q4 k hlt
        have hs := w1_succ t hlt
        have HS1 := Lib.hid hs
        clear hs
        go_wp2_with fail
        refine (itoa_any (gi t.rest k) (by omega) (by omega) _ (hE.below hy)).mono ?_
        rintro e wd ⟨rfl, hb⟩
        replace b0 := b0.below hb
        replace hy := hy.trans (hb.mono hy.size)
        replace own := own.kept hb
        replace hbd := Nat.le_trans hbd hb.size
        clear hb e0
        go_wp2_with (at_builtin; refine wpList_app1 rfl _ _ rfl Tryd.underlying45 info_str rfl (by omega) rfl own rfl rfl (by simp [Value.oneCell']) (by omega) (by omega) (by omega) ?_; intro A'' c'' w3 own3 hb3)
        go_roundw
        case rel =>
          have hx := hb3 _ (Nat.le_refl _)
          exact ⟨k + 1, by omega, by go_num, A'', c'', by rw [HS1.out, List.length_append]; rfl, OwnS.snoc own3 rfl HS1.out, BoxUp b0 hx hblt, hy.trans (hx.mono (by omega)), Nat.le_trans hbd hx.size⟩
        case measure => simp [intOf]; omega
      · have hkl : k = t.rest.length := by omega
        subst hkl
        have hz := w2_zero t
        have HZ := Lib.hid hz
        clear hz
        go_wp2_with (at_builtin; refine wpList_app1 rfl _ _ rfl Tryd.underlying45 info_str rfl (by omega) rfl own rfl rfl (by simp [Value.oneCell']) (by omega) (by omega) (by omega) ?_; intro A0 c0 w3 own3 hb3; have b3 := BoxUp b0 (hb3 _ (Nat.le_refl _)) hblt; have z2 := b3.cell 2; simp only [List.getElem?_toArray, List.getElem?_cons_zero, List.getElem?_cons_succ] at z2)
        have hx := hb3 _ (Nat.le_refl _)
        go_loopw [5, 38] (fun o x wr => ∃ k : Nat, k ≤ t.clo.length ∧ x = .int .i64 k ∧ ∃ A' c', o = .slice A' (w2 t k).length c' ∧ OwnS wr wb.heap.size A' c' (w2 t k) ∧ Box wr w.heap.size #[.int .i64 t.len, .slice A1 t.rest.length c1, .slice A2 t.clo.length c2] ∧ Below w.heap.size w wr ∧ wb.heap.size ≤ wr.heap.size) (fun _ x _ => t.clo.length - (intOf x).toNat)
        case atStart => exact ⟨0, by omega, rfl, A0, c0, by rw [HZ.out, List.length_append]; rfl, OwnS.snoc own3 rfl HZ.out, BoxUp b0 hx hblt, hy.trans (hx.mono (by omega)), Nat.le_trans hbd hx.size⟩
        case round =>
          clear own own3 hb3 hx b0 hy b3 z2 hbd
          obtain ⟨k, hk, rfl, A', c', rfl, own, b0, hy, hbd⟩ := hrel
          have hwl : (w2 t k).length ≤ 100 := by rw [w2_len t k hk]; omega
          by_cases hlt : k < t.clo.length
          · obtain ⟨ad, rfl, hab, e0⟩ := (h2.below hy).at_ hlt
            obtain ⟨s1, s2⟩ := q5 k hlt
            have hs := w2_succ t hlt
            have HS1 := Lib.hid hs
            clear hs
            go_wp2_with fail
            refine (itoa_any (gi t.clo k) (by omega) (by omega) _ (hE.below hy)).mono ?_
            rintro e wd ⟨rfl, hb⟩
            replace b0 := b0.below hb
            replace hy := hy.trans (hb.mono hy.size)
            replace own := own.kept hb
            replace hbd := Nat.le_trans hbd hb.size
            clear hb e0
            go_wp2_with (at_builtin; refine wpList_app1 rfl _ _ rfl Tryd.underlying45 info_str rfl (by omega) rfl own rfl rfl (by simp [Value.oneCell']) (by omega) (by omega) (by omega) ?_; intro A'' c'' w3 own3 hb3)
            go_roundw
            case rel =>
              have hx := hb3 _ (Nat.le_refl _)
              exact ⟨k + 1, by omega, by go_num, A'', c'', by rw [HS1.out, List.length_append]; rfl, OwnS.snoc own3 rfl HS1.out, BoxUp b0 hx hblt, hy.trans (hx.mono (by omega)), Nat.le_trans hbd hx.size⟩
            case measure => simp [intOf]; omega
          · have hkl : k = t.clo.length := by omega
            subst hkl
            have hjn := join_any (w2 t t.clo.length) (by simp [w2]) (by omega) (by rw [w2_all]; show (fmtT t).length ≤ _; omega) A' c' wb.heap.size wr own
            rw [show Lib.join (w2 t t.clo.length) [32] = fmtT t by rw [w2_all]; rfl] at hjn
            go_wp2_with fail
            refine hjn.mono ?_
            rintro e wf ⟨rfl, hb⟩
            go_wp2
            go_ret2
            exact ⟨ret2 (by rw [HS.out]; rfl) (by rw [H0.out]; rfl), hy.trans (hb.mono hy.size)⟩
  · have hS : fmtS t = [] := if_neg h0
    have h0' : (tE t != 0) = true := by simp [h0]
    have HS := Lib.hid hS
    clear hS
    go_wp2
    go_ret2
    exact ⟨by rw [HS.out]; rfl, hy⟩
end Go.Proofs.YtlnmmkgeahlohaaDoor
