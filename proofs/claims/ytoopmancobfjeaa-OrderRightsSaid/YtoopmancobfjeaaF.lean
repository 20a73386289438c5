/-
  Walks: equal lists of spans; the reference's spans.
-/
import Derived.Test.YtoopmancobfjeaaE
namespace Go.Proofs.Ytoopmancobfjeaa
set_option linter.unusedVariables false
set_option linter.unusedSimpArgs false
open Go.RowKit

theorem neq_span (a b c a' b' c' : Int) (w : World) : (binOp .neq 81 (.agg #[.int .i64 a, .int .i64 b, .int .i64 c]) (.agg #[.int .i64 a', .int .i64 b', .int .i64 c'])).run Try.prog w = .ok (.bool (!(a == a' && (b == b' && c == c')))) w := by
  have hS : Try.prog.underlying 81 = some (.struct (Try.prog.fieldsOf 81)) := by kernel_rfl
  have hp : Try.prog.stoodInHeld 81 = false := by kernel_rfl
  have u3 := Try.underlying3
  have a3 := Try.isAgg3
  have z3 := Try.sizeOf3
  rw [run_neq_struct, show (10000 : Nat) = 9999 + 1 from rfl, run_equalIn_agg w 9999 81 _ _ hS hp]
  simp only [Program.fieldsOf, Try.underlying81]
  go_simp
  by_cases h1 : a = a' <;> by_cases h2 : b = b' <;> by_cases h3 : c = c' <;> simp [h1, h2, h3]

/-- The slice (A, n = l.length) reads as the spans l. -/
def RS (w : World) (A : Option Addr) (l : List Sp) : Prop := Reads w w.heap.size 3 A l.length (cellsS l)
section
variable {w w' : World} {base c : Nat} {A : Option Addr} {l : List Sp}
theorem RS.below (h : RS w A l) (hb : Below w.heap.size w w') : RS w' A l := (Reads.below' h hb (Nat.le_refl _)).more hb.size
theorem RS.of_own (h : OwnS w base A c l) : RS w A l := Reads.of_own h
theorem RS.at_ (h : RS w A l) {k : Nat} (hk : k < l.length) : ∃ ad, A = some ad ∧ (ad.add (k * 3)).block < w.heap.size ∧ w.cell? (ad.add (k * 3)) = some (.int .i64 (gs l k).fr) ∧
    w.cell? ⟨(ad.add (k * 3)).block, (ad.add (k * 3)).off + 1, none⟩ = some (.int .i64 (gs l k).un) ∧ w.cell? ⟨(ad.add (k * 3)).block, (ad.add (k * 3)).off + 2, none⟩ = some (.int .i64 (gs l k).me) := by
  obtain ⟨ad, e, hb, hc⟩ := h.2 (by omega)
  have hs := fun j => addr_succ ad (k * 3) j
  exact ⟨ad, e, by rw [block_of_add]; exact hb, hc (k * 3 + 0) _ (cellsS_at l k 0 hk (by omega)), (hs 0) ▸ hc _ _ (cellsS_at l k 1 hk (by omega)), (hs 1) ▸ hc _ _ (cellsS_at l k 2 hk (by omega))⟩
end

def eqTo (l m : List Sp) (k : Nat) : Prop := ∀ i, i < k → gs l i = gs m i
theorem eqTo_all {l m : List Sp} (hlen : l.length = m.length) (h : eqTo l m l.length) : l = m := by
  apply List.ext_getElem hlen
  intro i h1 h2
  have := h i h1
  simpa [gs, h1, h2] using this
theorem sp_ne {a b : Sp} (h : (!(a.fr == b.fr && (a.un == b.un && a.me == b.me))) = true) : a ≠ b := by
  rintro rfl; simp at h
theorem sp_eq {a b : Sp} (h : (!(a.fr == b.fr && (a.un == b.un && a.me == b.me))) = false) : a = b := by
  cases a; cases b; simp at h; simp [h]

set_option maxHeartbeats 800000 in
theorem sameSpans_any (l m : List Sp) (A A' : Option Addr) (c c' : Nat) (w : World) (hl : RS w A l) (hm : RS w A' m) (hb : l.length ≤ 1000000000) (hb' : m.length ≤ 1000000000) :
    Calls Try.prog 19 #[.slice A l.length c, .slice A' m.length c'] w fun e w' => e = .returned (.bool (decide (l = m))) ∧ Below w.heap.size w w' := by
  have hneq := neq_span
  by_cases hlen : l.length = m.length
  · have hlen' : ((l.length : Int) != (m.length : Int)) = false := by simp [hlen]
    have HL := Lib.hid hlen; clear hlen
    go_enter Try.func19, Try.ntmps19
    go_wp2
    go_loopw [5] (fun x wr => ∃ k : Nat, k ≤ l.length ∧ x = .int .i64 k ∧ eqTo l m k ∧ Below w.heap.size w wr) (fun x _ => l.length - (intOf x).toNat)
    case atStart => exact ⟨0, by omega, rfl, fun i hi => by omega, Below.refl _ _⟩
    case round =>
      obtain ⟨k, hk, rfl, he, hbl⟩ := hrel
      by_cases hlt : k < l.length
      · have hlt' : k < m.length := by rw [← HL.out]; exact hlt
        obtain ⟨ad, rfl, hab, c0, c1, c2⟩ := (hl.below hbl).at_ hlt
        obtain ⟨ad', rfl, hab', d0, d1, d2⟩ := (hm.below hbl).at_ hlt'
        cases hq : (!((gs l k).fr == (gs m k).fr && ((gs l k).un == (gs m k).un && (gs l k).me == (gs m k).me))) with
        | true =>
          have hne := sp_ne hq
          have HNE := Lib.hid hne; clear hne
          go_wp2_with fail
          go_quiet (fail)
          go_wp2
          go_ret
          exact ⟨ret_bool (by symm; rw [decide_eq_false_iff_not]; intro e; exact HNE.out (by rw [e])), below_drewN hbl _⟩
        | false =>
          have heq := sp_eq hq
          have HEQ := Lib.hid heq; clear heq
          go_wp2_with fail
          go_quiet (fail)
          go_wp2
          go_roundw
          case rel => exact ⟨k + 1, by omega, by go_num, fun i hi => by
            by_cases e : i = k
            · subst e; exact HEQ.out
            · exact he i (by omega), below_drewN hbl _⟩
          case measure => simp [intOf]; omega
      · obtain rfl : k = l.length := by omega
        go_wp2
        go_ret
        exact ⟨ret_bool (by symm; rw [decide_eq_true_eq]; exact eqTo_all HL.out he), hbl⟩
  · have hlen' : ((l.length : Int) != (m.length : Int)) = true := by simp; omega
    have HL := Lib.hid hlen; clear hlen
    go_enter Try.func19, Try.ntmps19
    go_wp2
    go_ret
    exact ⟨ret_bool (by symm; rw [decide_eq_false_iff_not]; intro e; exact HL.out (by rw [e])), Below.refl _ _⟩

def rM (l : List Fact) (t c : Int) (d : Nat) : Int := knw l t c d
def rP (l : List Fact) (b t c : Int) (d : Nat) : Bool := !(knw l t c d == knw l b c d)
theorem rspans_eq (l : List Fact) (b t c : Int) : spTo (rM l t c) (rP l b t c) 1000 = changedL l b t c :=
  spTo_congr _ _ _ _ _ fun i _ => ⟨rfl, by
    unfold rP; rw [Bool.eq_iff_iff]; simp
    exact ⟨fun h e => h e.symm, fun h e => h e.symm⟩⟩

set_option maxRecDepth 100000 in
set_option maxHeartbeats 1600000 in
theorem rspans_any (l : List Fact) (b t child : Int) (hl : l.length ≤ 1000000000) (A0 : Option Addr) (c0 B : Nat) (w : World) (hR : RF w B A0 l) :
    Calls Try.prog 65 #[.slice A0 l.length c0, .int .i64 b, .int .i64 t, .int .i64 child] w fun e w' =>
      ∃ A c, e = .returned (.slice A (changedL l b t child).length c) ∧ OwnS w' w.heap.size A c (changedL l b t child) ∧ Below w.heap.size w w' := by
  rw [← rspans_eq]
  obtain ⟨M, hM⟩ : ∃ M, M = rM l t child := ⟨_, rfl⟩
  obtain ⟨P, hP⟩ : ∃ P, P = rP l b t child := ⟨_, rfl⟩
  rw [← hM, ← hP]
  have HMM := Lib.hid hM; clear hM
  have HPP := Lib.hid hP; clear hP
  go_enter Try.func65, Try.ntmps65
  go_wp2
  go_loopw [9, 10] (fun o x wr => ∃ k : Nat, k ≤ 1000 ∧ x = .int .i64 k ∧ ∃ A c, o = .slice A (spTo M P k).length c ∧ OwnS wr w.heap.size A c (spTo M P k) ∧ Below w.heap.size w wr) (fun _ x _ => 1000 - (intOf x).toNat)
  case atStart => exact ⟨0, by omega, rfl, none, 0, rfl, World.ownsRow_nil _ _ _ _, Below.refl _ _⟩
  case round =>
    obtain ⟨k, hk, rfl, A, c, rfl, own, hbl⟩ := hrel
    by_cases hlt : k < 1000
    · have hll := spTo_len M P k
      obtain ⟨L, hL⟩ : ∃ L, L = spTo M P k := ⟨_, rfl⟩
      rw [← hL] at own hll ⊢
      have HL := Lib.hid hL; clear hL
      have hmk : M k = knw l t child k := by rw [HMM.out]; rfl
      have hpk : P k = !(knw l t child k == knw l b child k) := by rw [HPP.out]; rfl
      cases hq : (knw l t child k == knw l b child k) with
      | true =>
        have hs := spTo_skip M P k (by rw [hpk, hq]; rfl)
        have HS := Lib.hid hs; clear hs
        clear hmk hpk
        go_wp2_with (go_at_call 74; refine (rknown_any l _ _ _ hl A0 c0 B _ (hR.below hbl)).mono ?_; rintro e w' ⟨rfl, rfl⟩)
        go_roundw
        case rel => exact ⟨k + 1, by omega, by go_num, A, c, by rw [HS.out, HL.out], by rw [HS.out, ← HL.out]; exact own, hbl⟩
        case measure => simp [intOf]; omega
      | false =>
        have HP := Lib.hid (show P k = true by rw [hpk, hq]; rfl)
        have HK := Lib.hid hmk; clear hmk hpk
        by_cases hl0 : 0 < L.length
        · obtain ⟨gb, rfl, hgb1, hgb2, hcs, hfz⟩ := own.last hl0
          obtain ⟨d0, d1, d2⟩ := hcs (L.length - 1) (by omega)
          clear hcs
          by_cases hu : (gs L (L.length - 1)).un = k
          · by_cases hm : (gs L (L.length - 1)).me = knw l t child k
            · have hn := spTo_more M P k HP.out (by rw [← HL.out]; exact ⟨hl0, hu, by rw [hm, HK.out]⟩)
              rw [← HL.out] at hn
              have HN := Lib.hid hn; clear hn
              have hu' : ((gs L (L.length - 1)).un == (k : Int)) = true := by simp [hu]
              have hm' : ((gs L (L.length - 1)).me == knw l t child k) = true := by simp [hm]
              have hub : 0 ≤ (gs L (L.length - 1)).un ∧ (gs L (L.length - 1)).un ≤ 1000 := by omega
              have own2 := own.longer (L.length - 1) (by omega) ((gs L (L.length - 1)).un + 1)
              clear hu hm
              go_wp2_with (go_at_call 74; refine (rknown_any l _ _ _ hl A0 c0 B _ (hR.below hbl)).mono ?_; rintro e w' ⟨rfl, rfl⟩)
              go_roundw
              case rel => exact ⟨k + 1, by omega, by go_num, _, c, by rw [HN.out, List.length_set], by rw [HN.out]; exact own2, hbl.setCell (by exact hgb1) _⟩
              case measure => simp [intOf]; omega
            · have hn := spTo_new M P k HP.out (by rw [← HL.out]; rintro ⟨h1, h2, h3⟩; exact hm (by rw [h3, HK.out]))
              rw [← HL.out] at hn
              have HN := Lib.hid hn; clear hn
              have hbs := hbl.size
              have hu' : ((gs L (L.length - 1)).un == (k : Int)) = true := by simp [hu]
              have hm' : ((gs L (L.length - 1)).me == knw l t child k) = false := by simp [hm]
              clear hu hm
              go_wp2_with (first | (go_at_call 74; refine (rknown_any l _ _ _ hl A0 c0 B _ (hR.below hbl)).mono ?_; rintro e w' ⟨rfl, rfl⟩) | (at_builtin; refine wpList_app1 rfl _ _ rfl Try.underlying27 info_span rfl (by omega) rfl own rfl rfl (by simp [Value.oneCell']) (by omega) (by omega) (by omega) ?_; intro A' c' w2 own2 hb2))
              have hbl2 := hbl.trans (hb2 _ (Nat.le_refl _))
              clear own hb2
              go_wp2
              go_roundw
              case rel => exact ⟨k + 1, by omega, by go_num, A', c', by rw [HN.out, List.length_append]; rfl, by rw [HN.out, HK.out]; unfold OwnS; rw [List.length_append, cellsS_append]; exact own2, hbl2⟩
              case measure => simp [intOf]; omega
          · have hn := spTo_new M P k HP.out (by rw [← HL.out]; rintro ⟨h1, h2, h3⟩; exact hu h2)
            rw [← HL.out] at hn
            have HN := Lib.hid hn; clear hn
            have hbs := hbl.size
            have hu' : ((gs L (L.length - 1)).un == (k : Int)) = false := by simp [hu]
            clear hu
            go_wp2_with (first | (go_at_call 74; refine (rknown_any l _ _ _ hl A0 c0 B _ (hR.below hbl)).mono ?_; rintro e w' ⟨rfl, rfl⟩) | (at_builtin; refine wpList_app1 rfl _ _ rfl Try.underlying27 info_span rfl (by omega) rfl own rfl rfl (by simp [Value.oneCell']) (by omega) (by omega) (by omega) ?_; intro A' c' w2 own2 hb2))
            have hbl2 := hbl.trans (hb2 _ (Nat.le_refl _))
            clear own hb2
            go_wp2
            go_roundw
            case rel => exact ⟨k + 1, by omega, by go_num, A', c', by rw [HN.out, List.length_append]; rfl, by rw [HN.out, HK.out]; unfold OwnS; rw [List.length_append, cellsS_append]; exact own2, hbl2⟩
            case measure => simp [intOf]; omega
        · have hn := spTo_new M P k HP.out (by rw [← HL.out]; rintro ⟨h1, h2, h3⟩; exact hl0 h1)
          rw [← HL.out] at hn
          have HN := Lib.hid hn; clear hn
          have hbs := hbl.size
          have hl0' : decide (0 < L.length) = false := decide_eq_false hl0
          go_wp2_with (first | (go_at_call 74; refine (rknown_any l _ _ _ hl A0 c0 B _ (hR.below hbl)).mono ?_; rintro e w' ⟨rfl, rfl⟩) | (at_builtin; refine wpList_app1 rfl _ _ rfl Try.underlying27 info_span rfl (by omega) rfl own rfl rfl (by simp [Value.oneCell']) (by omega) (by omega) (by omega) ?_; intro A' c' w2 own2 hb2))
          have hbl2 := hbl.trans (hb2 _ (Nat.le_refl _))
          clear own hb2
          go_wp2
          go_roundw
          case rel => exact ⟨k + 1, by omega, by go_num, A', c', by rw [HN.out, List.length_append]; rfl, by rw [HN.out, HK.out]; unfold OwnS; rw [List.length_append, cellsS_append]; exact own2, hbl2⟩
          case measure => simp [intOf]; omega
    · obtain rfl : k = 1000 := by omega
      go_wp2
      go_ret
      exact ⟨A, c, rfl, own, hbl⟩

end Go.Proofs.Ytoopmancobfjeaa
