/-
  Walks: spans.
-/
import Derived.Test.YtoopmancobfjeaaC
namespace Go.Proofs.Ytoopmancobfjeaa
set_option linter.unusedVariables false
set_option linter.unusedSimpArgs false
open Go.RowKit

def Sp.vals (s : Sp) : List Value := [.int .i64 s.fr, .int .i64 s.un, .int .i64 s.me]
def cellsS (l : List Sp) : List Value := l.flatMap Sp.vals
theorem cellsS_cons (s : Sp) (l : List Sp) : cellsS (s :: l) = s.vals ++ cellsS l := by simp [cellsS]
theorem cellsS_append (l r : List Sp) : cellsS (l ++ r) = cellsS l ++ cellsS r := by simp [cellsS]
theorem cellsS_length (l : List Sp) : (cellsS l).length = l.length * 3 := by
  induction l with
  | nil => rfl
  | cons f l ih => rw [cellsS_cons, List.length_append, ih]; simp [Sp.vals]; omega
theorem cellsS_at (l : List Sp) (k j : Nat) (hk : k < l.length) (hj : j < 3) : (cellsS l)[k * 3 + j]? = (gs l k).vals[j]? := by
  induction l generalizing k with
  | nil => simp at hk
  | cons f l ih =>
    rw [cellsS_cons]
    cases k with
    | zero => rw [List.getElem?_append_left (by simp [Sp.vals]; omega)]; simp [gs]
    | succ k =>
      rw [List.getElem?_append_right (by simp [Sp.vals]; omega)]
      have : (k + 1) * 3 + j - f.vals.length = k * 3 + j := by simp [Sp.vals]; omega
      rw [this, ih k (by simpa using hk)]
      simp [gs]
theorem cellsS_set (l : List Sp) (k : Nat) (v : Int) (hk : k < l.length) : cellsS (l.set k ⟨(gs l k).fr, v, (gs l k).me⟩) = (cellsS l).set (k * 3 + 1) (.int .i64 v) := by
  induction l generalizing k with
  | nil => simp at hk
  | cons f l ih =>
    cases k with
    | zero => simp [cellsS, gs, Sp.vals]
    | succ k =>
      have e : (f :: l).set (k + 1) ⟨(gs (f :: l) (k + 1)).fr, v, (gs (f :: l) (k + 1)).me⟩ = f :: l.set k ⟨(gs l k).fr, v, (gs l k).me⟩ := by simp [gs]
      rw [e, cellsS_cons, cellsS_cons, ih k (by simpa using hk), List.set_append_right _ _ (by simp [Sp.vals]; omega)]
      congr 2
      simp [Sp.vals]; omega

/-- The slice (A, c) of the call's own holds the spans l. -/
def OwnS (w : World) (base : Nat) (A : Option Addr) (c : Nat) (l : List Sp) : Prop := w.ownsRow base 81 3 (.slice A l.length c) l.length (cellsS l)
section
variable {w w' : World} {base c : Nat} {A : Option Addr} {l : List Sp}
theorem OwnS.kept (h : OwnS w base A c l) (hb : Below w.heap.size w w') : OwnS w' base A c l := own_below h hb fun k hk => (World.ownsRow.lt h k hk).2
theorem OwnS.last (h : OwnS w base A c l) (hl : 0 < l.length) : ∃ gb, A = some ⟨gb, 0, none⟩ ∧ base ≤ gb ∧ gb < w.heap.size ∧
    (∀ k, k < l.length → w.cell? ⟨gb, k * 3, none⟩ = some (.int .i64 (gs l k).fr) ∧ w.cell? ⟨gb, k * 3 + 1, none⟩ = some (.int .i64 (gs l k).un) ∧ w.cell? ⟨gb, k * 3 + 2, none⟩ = some (.int .i64 (gs l k).me)) ∧ (∀ j, w.frozen? ⟨gb, j, none⟩ = false) := by
  rcases h.2 with ⟨_, h2⟩ | ⟨gb, cap, cur, h1, hbg, hg, _⟩
  · omega
  · injection h1 with h1 h2 h3
    subst h1
    have hc := fun j hj => World.ownsRow.cellAt h j hj
    refine ⟨gb, rfl, hbg, (Array.getElem?_eq_some_iff.1 hg).1, fun k hk => ⟨?_, ?_, ?_⟩, fun j => World.ownsRow.frozenAt h j⟩
    · rw [hc _ (by omega)]; exact cellsS_at l k 0 hk (by omega)
    · rw [hc _ (by omega)]; exact cellsS_at l k 1 hk (by omega)
    · rw [hc _ (by omega)]; exact cellsS_at l k 2 hk (by omega)
theorem OwnS.longer {gb : Nat} (h : OwnS w base (some ⟨gb, 0, none⟩) c l) (k : Nat) (hk : k < l.length) (v : Int) :
    OwnS (w.setCell ⟨gb, k * 3 + 1, none⟩ (.int .i64 v)) base (some ⟨gb, 0, none⟩) c (l.set k ⟨(gs l k).fr, v, (gs l k).me⟩) := by
  unfold OwnS
  rw [List.length_set, cellsS_set l k v hk]
  exact (World.ownsRow.stored h _ _).1
end

theorem enter_ordered (args : Array Value) (W : World) : (callFunc 91 args).run Try.prog W = .ok (.enter 91 args) W := by kernel_rfl
theorem enter_changed (args : Array Value) (W : World) : (callFunc 64 args).run Try.prog W = .ok (.enter 64 args) W := by kernel_rfl
set_option maxRecDepth 100000 in
set_option maxHeartbeats 1600000 in
theorem spans_any (ms : List Int) (p : Nat → Bool) (g : Nat) (lb : Array Value) (hcf : ∀ args W, (callFunc g args).run Try.prog W = .ok (.enter g args) W) (gm : Nat) (w : World) (hgm : gm < w.heap.size) (hms : ∀ k, k < 1000 → w.cell? ⟨gm, k, none⟩ = some (.int .i64 (gi ms k)))
    (hm0 : ∀ k, 0 ≤ gi ms k ∧ gi ms k ≤ 1000)
    (hclo : ∀ W k, k < 1000 → Below w.heap.size w W → Calls Try.prog g (#[.int .i64 (k : Nat)] ++ lb) W fun e W' => e = .returned (.bool (p k)) ∧ Below W.heap.size W W') :
    Calls Try.prog 63 #[.slice (some ⟨gm, 0, none⟩) 1000 1000, .func (.func g) #[] lb] w fun e w' =>
      ∃ A c, e = .returned (.slice A (spTo (fun k => gi ms k) p 1000).length c) ∧ OwnS w' w.heap.size A c (spTo (fun k => gi ms k) p 1000) ∧ Below w.heap.size w w' := by
  have HM := Lib.hid hms; clear hms
  have HC := Lib.hid hclo; clear hclo
  have H0 := Lib.hid hm0; clear hm0
  go_enter Try.func63, Try.ntmps63
  go_wp2
  go_loopw [5, 11] (fun o x wr => ∃ k : Nat, k ≤ 1000 ∧ x = .int .i64 k ∧ ∃ A c, o = .slice A (spTo (fun k => gi ms k) p k).length c ∧ OwnS wr w.heap.size A c (spTo (fun k => gi ms k) p k) ∧ Below w.heap.size w wr) (fun _ x _ => 1000 - (intOf x).toNat)
  case atStart => exact ⟨0, by omega, rfl, none, 0, rfl, World.ownsRow_nil _ _ _ _, Below.refl _ _⟩
  case round =>
    obtain ⟨k, hk, rfl, A, c, rfl, own, hbl⟩ := hrel
    by_cases hlt : k < 1000
    · have hcell := (hbl.cell (p := ⟨gm, k, none⟩) hgm).trans (HM.out k hlt)
      have hll := spTo_len (fun k => gi ms k) p k
      go_wp2_with fail
      refine (HC.out _ k hlt hbl).mono ?_
      rintro e w1 ⟨rfl, hb1⟩
      have own1 := own.kept hb1
      have hbl1 := hbl.trans (hb1.mono hbl.size)
      clear own hcell hb1
      obtain ⟨L, hL⟩ : ∃ L, L = spTo (fun k => gi ms k) p k := ⟨_, rfl⟩
      rw [← hL] at own1 hll ⊢
      have HL := Lib.hid hL; clear hL
      cases hp : p k with
      | false =>
        have hs := spTo_skip (fun k => gi ms k) p k hp
        have HS := Lib.hid hs; clear hs
        go_wp2
        go_roundw
        case rel => exact ⟨k + 1, by omega, by go_num, A, c, by rw [HS.out, HL.out], by rw [HS.out, ← HL.out]; exact own1, hbl1⟩
        case measure => simp [intOf]; omega
      | true =>
        have hml := H0.out k
        have HP := Lib.hid hp; clear hp
        by_cases hl0 : 0 < L.length
        · obtain ⟨gb, rfl, hgb1, hgb2, hcs, hfz⟩ := own1.last hl0
          obtain ⟨d0, d1, d2⟩ := hcs (L.length - 1) (by omega)
          clear hcs
          by_cases hu : (gs L (L.length - 1)).un = k
          · by_cases hm : (gs L (L.length - 1)).me = gi ms k
            · have hn := spTo_more (fun k => gi ms k) p k HP.out (by rw [← HL.out]; exact ⟨hl0, hu, hm⟩)
              rw [← HL.out] at hn
              have HN := Lib.hid hn; clear hn
              have hu' : ((gs L (L.length - 1)).un == (k : Int)) = true := by simp [hu]
              have hm' : ((gs L (L.length - 1)).me == gi ms k) = true := by simp [hm]
              have hub : 0 ≤ (gs L (L.length - 1)).un ∧ (gs L (L.length - 1)).un ≤ 1000 := by omega
              have own2 := own1.longer (L.length - 1) (by omega) ((gs L (L.length - 1)).un + 1)
              clear hu hm
              go_wp2
              go_roundw
              case rel => exact ⟨k + 1, by omega, by go_num, _, c, by rw [HN.out, List.length_set], by rw [HN.out]; exact own2, hbl1.setCell (by exact hgb1) _⟩
              case measure => simp [intOf]; omega
            · have hn := spTo_new (fun k => gi ms k) p k HP.out (by rw [← HL.out]; rintro ⟨h1, h2, h3⟩; exact hm h3)
              rw [← HL.out] at hn
              have HN := Lib.hid hn; clear hn
              have hbs := hbl1.size
              have hu' : ((gs L (L.length - 1)).un == (k : Int)) = true := by simp [hu]
              have hm' : ((gs L (L.length - 1)).me == gi ms k) = false := by simp [hm]
              clear hu hm
              go_wp2_with (at_builtin; refine wpList_app1 rfl _ _ rfl Try.underlying27 info_span rfl (by omega) rfl own1 rfl rfl (by simp [Value.oneCell']) (by omega) (by omega) (by omega) ?_; intro A' c' w2 own2 hb2)
              have hbl2 := hbl1.trans (hb2 _ (Nat.le_refl _))
              clear own1 hb2
              go_wp2
              go_roundw
              case rel => exact ⟨k + 1, by omega, by go_num, A', c', by rw [HN.out, List.length_append]; rfl, by rw [HN.out]; unfold OwnS; rw [List.length_append, cellsS_append]; exact own2, hbl2⟩
              case measure => simp [intOf]; omega
          · have hn := spTo_new (fun k => gi ms k) p k HP.out (by rw [← HL.out]; rintro ⟨h1, h2, h3⟩; exact hu h2)
            rw [← HL.out] at hn
            have HN := Lib.hid hn; clear hn
            have hbs := hbl1.size
            have hu' : ((gs L (L.length - 1)).un == (k : Int)) = false := by simp [hu]
            clear hu
            go_wp2_with (at_builtin; refine wpList_app1 rfl _ _ rfl Try.underlying27 info_span rfl (by omega) rfl own1 rfl rfl (by simp [Value.oneCell']) (by omega) (by omega) (by omega) ?_; intro A' c' w2 own2 hb2)
            have hbl2 := hbl1.trans (hb2 _ (Nat.le_refl _))
            clear own1 hb2
            go_wp2
            go_roundw
            case rel => exact ⟨k + 1, by omega, by go_num, A', c', by rw [HN.out, List.length_append]; rfl, by rw [HN.out]; unfold OwnS; rw [List.length_append, cellsS_append]; exact own2, hbl2⟩
            case measure => simp [intOf]; omega
        · have hn := spTo_new (fun k => gi ms k) p k HP.out (by rw [← HL.out]; rintro ⟨h1, h2, h3⟩; exact hl0 h1)
          rw [← HL.out] at hn
          have HN := Lib.hid hn; clear hn
          have hbs := hbl1.size
          have hl0' : decide (0 < L.length) = false := decide_eq_false hl0
          go_wp2_with (at_builtin; refine wpList_app1 rfl _ _ rfl Try.underlying27 info_span rfl (by omega) rfl own1 rfl rfl (by simp [Value.oneCell']) (by omega) (by omega) (by omega) ?_; intro A' c' w2 own2 hb2)
          have hbl2 := hbl1.trans (hb2 _ (Nat.le_refl _))
          clear own1 hb2
          go_wp2
          go_roundw
          case rel => exact ⟨k + 1, by omega, by go_num, A', c', by rw [HN.out, List.length_append]; rfl, by rw [HN.out]; unfold OwnS; rw [List.length_append, cellsS_append]; exact own2, hbl2⟩
          case measure => simp [intOf]; omega
    · obtain rfl : k = 1000 := by omega
      go_wp2
      go_ret
      exact ⟨A, c, rfl, own, hbl⟩

end Go.Proofs.Ytoopmancobfjeaa
