/-
  Words for memory: rights of the call's own; their copies; whether two lists of rights are equal.
-/
import Derived.Test.YtoopmancobfjeaaRp
import Derived.Test.YtoopmancobfjeaaL
namespace Go.Proofs.Ytoopmancobfjeaa
set_option linter.unusedVariables false
set_option linter.unusedSimpArgs false
open Go.RowKit

theorem info_right : (Try.prog.info? 105).map (fun i => (i.zero, i.size, i.bytes)) = some (some (.agg #[.int .i64 0, .int .i64 0, .int .i64 0]), 3, 24) := by kernel_rfl
theorem neq_right (a b c a' b' c' : Int) (w : World) : (binOp .neq 105 (.agg #[.int .i64 a, .int .i64 b, .int .i64 c]) (.agg #[.int .i64 a', .int .i64 b', .int .i64 c'])).run Try.prog w = .ok (.bool (!(a == a' && (b == b' && c == c')))) w := by
  have hS : Try.prog.underlying 105 = some (.struct (Try.prog.fieldsOf 105)) := by kernel_rfl
  have hp : Try.prog.stoodInHeld 105 = false := by kernel_rfl
  have u3 := Try.underlying3
  have a3 := Try.isAgg3
  have z3 := Try.sizeOf3
  rw [run_neq_struct, show (10000 : Nat) = 9999 + 1 from rfl, run_equalIn_agg w 9999 105 _ _ hS hp]
  simp only [Program.fieldsOf, Try.underlying105]
  go_simp
  by_cases h1 : a = a' <;> by_cases h2 : b = b' <;> by_cases h3 : c = c' <;> simp [h1, h2, h3]

set_option maxHeartbeats 800000 in
theorem sameRights_any (l m : List Sp) (A A' : Option Addr) (c c' : Nat) (w : World) (hl : RS w A l) (hm : RS w A' m) (hb : l.length ≤ 1000000000) (hb' : m.length ≤ 1000000000) :
    Calls Try.prog 56 #[.slice A l.length c, .slice A' m.length c'] w fun e w' => e = .returned (.bool (decide (l = m))) ∧ Below w.heap.size w w' := by
  have hneq := neq_right
  by_cases hlen : l.length = m.length
  · have hlen' : ((l.length : Int) != (m.length : Int)) = false := by simp [hlen]
    have HL := Lib.hid hlen; clear hlen
    go_enter Try.func56, Try.ntmps56
    go_wp2
    go_loopw [5] (fun x wr => ∃ k : Nat, k ≤ l.length ∧ x = .int .i64 k ∧ eqTo l m k ∧ Below w.heap.size w wr) (fun x _ => l.length - (intOf x).toNat)
    case atStart => exact ⟨0, by omega, rfl, fun i hi => by omega, Below.refl _ _⟩
    case round =>
      obtain ⟨k, hk, rfl, he, hbl⟩ := hrel
      by_cases hlt : k < l.length
      · have hlt' : k < m.length := by rw [← HL.out]; exact hlt
        obtain ⟨ad, rfl, hab, c0, c1, c2⟩ := (hl.below hbl).at_ hlt
        obtain ⟨ad', rfl, hab', d0, d1, d2⟩ := (hm.below hbl).at_ hlt'
        cases hq : (!((gs l k).fr == (gs m k).fr && ((gs l k).un == (gs m k).un && (gs l k).me == (gs m k).me))) with
        | true =>
          have hne := sp_ne hq
          have HNE := Lib.hid hne; clear hne
          go_wp2_with fail
          go_quiet (fail)
          go_wp2
          go_ret
          exact ⟨ret_bool (by symm; rw [decide_eq_false_iff_not]; intro e; exact HNE.out (by rw [e])), below_drewN hbl _⟩
        | false =>
          have heq := sp_eq hq
          have HEQ := Lib.hid heq; clear heq
          go_wp2_with fail
          go_quiet (fail)
          go_wp2
          go_roundw
          case rel => exact ⟨k + 1, by omega, by go_num, fun i hi => by
            by_cases e : i = k
            · subst e; exact HEQ.out
            · exact he i (by omega), below_drewN hbl _⟩
          case measure => simp [intOf]; omega
      · obtain rfl : k = l.length := by omega
        go_wp2
        go_ret
        exact ⟨ret_bool (by symm; rw [decide_eq_true_eq]; exact eqTo_all HL.out he), hbl⟩
  · have hlen' : ((l.length : Int) != (m.length : Int)) = true := by simp; omega
    have HL := Lib.hid hlen; clear hlen
    go_enter Try.func56, Try.ntmps56
    go_wp2
    go_ret
    exact ⟨ret_bool (by symm; rw [decide_eq_false_iff_not]; intro e; exact HL.out (by rw [e])), Below.refl _ _⟩


theorem cellsS_one (l : List Sp) : ∀ u ∈ cellsS l, u.oneCell' = true := by
  intro u hu
  obtain ⟨f, _, hf⟩ := List.mem_flatMap.1 hu
  simp only [Sp.vals, List.mem_cons, List.not_mem_nil, or_false] at hf
  rcases hf with rfl | rfl | rfl <;> rfl
theorem cellsS_set2 (l : List Sp) (k : Nat) (v : Int) (hk : k < l.length) : cellsS (l.set k ⟨(gs l k).fr, (gs l k).un, v⟩) = (cellsS l).set (k * 3 + 2) (.int .i64 v) := by
  induction l generalizing k with
  | nil => simp at hk
  | cons f l ih =>
    cases k with
    | zero => simp [cellsS, gs, Sp.vals]
    | succ k =>
      have e : (f :: l).set (k + 1) ⟨(gs (f :: l) (k + 1)).fr, (gs (f :: l) (k + 1)).un, v⟩ = f :: l.set k ⟨(gs l k).fr, (gs l k).un, v⟩ := by simp [gs]
      rw [e, cellsS_cons, cellsS_cons, ih k (by simpa using hk), List.set_append_right _ _ (by simp [Sp.vals]; omega)]
      congr 2
      simp [Sp.vals]; omega
/-- The slice (A, c) of the call's own holds the rights l. -/
def OwnR (w : World) (base : Nat) (A : Option Addr) (c : Nat) (l : List Sp) : Prop := w.ownsRow base 105 3 (.slice A l.length c) l.length (cellsS l)
section
variable {w w' : World} {base c : Nat} {A : Option Addr} {l : List Sp}
theorem OwnR.kept (h : OwnR w base A c l) (hb : Below w.heap.size w w') : OwnR w' base A c l := own_below h hb fun k hk => (World.ownsRow.lt h k hk).2
theorem OwnR.reads (h : OwnR w base A c l) : RS w A l := Reads.of_own h
theorem OwnR.last (h : OwnR w base A c l) (hl : 0 < l.length) : ∃ gb, A = some ⟨gb, 0, none⟩ ∧ base ≤ gb ∧ gb < w.heap.size ∧
    (∀ k, k < l.length → w.cell? ⟨gb, k * 3, none⟩ = some (.int .i64 (gs l k).fr) ∧ w.cell? ⟨gb, k * 3 + 1, none⟩ = some (.int .i64 (gs l k).un) ∧ w.cell? ⟨gb, k * 3 + 2, none⟩ = some (.int .i64 (gs l k).me)) ∧ (∀ j, w.frozen? ⟨gb, j, none⟩ = false) := by
  rcases h.2 with ⟨_, h2⟩ | ⟨gb, cap, cur, h1, hbg, hg, _⟩
  · omega
  · injection h1 with h1 h2 h3
    subst h1
    have hc := fun j hj => World.ownsRow.cellAt h j hj
    refine ⟨gb, rfl, hbg, (Array.getElem?_eq_some_iff.1 hg).1, fun k hk => ⟨?_, ?_, ?_⟩, fun j => World.ownsRow.frozenAt h j⟩
    · rw [hc _ (by omega)]; exact cellsS_at l k 0 hk (by omega)
    · rw [hc _ (by omega)]; exact cellsS_at l k 1 hk (by omega)
    · rw [hc _ (by omega)]; exact cellsS_at l k 2 hk (by omega)
theorem OwnR.longer {gb : Nat} (h : OwnR w base (some ⟨gb, 0, none⟩) c l) (k : Nat) (hk : k < l.length) (v : Int) :
    OwnR (w.setCell ⟨gb, k * 3 + 2, none⟩ (.int .i64 v)) base (some ⟨gb, 0, none⟩) c (l.set k ⟨(gs l k).fr, (gs l k).un, v⟩) := by
  unfold OwnR
  rw [List.length_set, cellsS_set2 l k v hk]
  exact (World.ownsRow.stored h _ _).1
end

set_option maxRecDepth 100000 in
set_option maxHeartbeats 800000 in
theorem clonR_any (l : List Sp) (hl : l.length ≤ 1000000000) (A : Option Addr) (c : Nat) (w : World) (hR : RS w A l) :
    Calls Try.prog 86 #[.slice A l.length c] w fun e w' => ∃ A' c', e = .returned (.slice A' l.length c') ∧ OwnR w' w.heap.size A' c' l ∧ Below w.heap.size w w' := by
  have hnil := fun W a n c => Lib.run_eql_slice_nil (P := Try.prog) W 64 105 a n c 0 0 Try.underlying64
  cases A with
  | none =>
    have hl0 : l = [] := by
      apply List.eq_nil_of_length_eq_zero
      rcases Nat.eq_zero_or_pos l.length with h | h
      · exact h
      · obtain ⟨ad, h1, _⟩ := hR.2 h; cases h1
    subst hl0
    go_enter Try.func86, Try.ntmps86
    go_wp2
    go_ret
    exact ⟨none, 0, rfl, World.ownsRow_nil _ _ _ _, Below.refl _ _⟩
  | some a =>
    obtain ⟨i0, hi0, hz0, hz1, hz2⟩ := info_parts info_right
    go_enter Try.func86, Try.ntmps86
    have h0 : (w.alloc (.cells #[] 105)).ownsRow w.heap.size 105 3 (.slice (some ⟨w.heap.size, 0, none⟩) 0 0) 0 [] := World.ownsRow_lit w #[] 0 (Nat.le_refl _) (by unfold maxLen; omega) rfl
    have hb0 : Below w.heap.size w (w.alloc (.cells #[] 105)) := (Below.refl _ _).alloc (Nat.le_refl _) _
    go_wp2_with (at_builtin; refine wpList_append_any _ rfl _ _ 64 rfl w.heap.size 105 i0 _ 3 24 Try.underlying64 hi0 hz0 hz1 hz2 rfl (by omega) _ 0 [] rfl h0 _ (some a) l.length c (cellsS l) rfl (hR.below hb0) (cellsS_one l) (by unfold maxLen; omega) (by omega) hb0.size ?_; intro v' w2 own2 hg2 hat2)
    obtain ⟨A', c', rfl⟩ := own_shape own2
    go_wp2
    go_ret
    rw [Nat.zero_add, List.nil_append] at own2
    exact ⟨A', c', by rw [Nat.zero_add]; rfl, own2, hb0.grown hg2 hb0.size (fun k hk => by have e : (some w.heap.size : Option Nat) = some k := hk; cases e; exact Nat.le_refl _)⟩
end Go.Proofs.Ytoopmancobfjeaa
