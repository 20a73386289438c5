/-
  Walks: a copy of a table; a table that is spoilt; the walk of the law OrderAdds.
-/
import Derived.Test.YtoopmancobfjeaaAa
import Derived.Test.YtoopmancobfjeaaTellsW
namespace Go.Proofs.Ytoopmancobfjeaa
set_option linter.unusedVariables false
set_option linter.unusedSimpArgs false
open Go.RowKit

set_option maxRecDepth 100000 in
set_option maxHeartbeats 800000 in
theorem copied_any (l : List Fact) (hl : l.length ≤ 1000000000) (A : Option Addr) (c B : Nat) (w : World) (hR : RF w B A l) :
    Calls Try.prog 24 #[.slice A l.length c] w fun e w' => ∃ A' c', e = .returned (.slice A' l.length c') ∧ OwnF w' w.heap.size A' c' l ∧ Below w.heap.size w w' := by
  obtain ⟨i0, hi0, hz0, hz1, hz2⟩ := info_parts info_fact
  go_enter Try.func24, Try.ntmps24
  have h0 : (w.alloc (.cells #[] 43)).ownsRow w.heap.size 43 5 (.slice (some ⟨w.heap.size, 0, none⟩) 0 0) 0 [] := World.ownsRow_lit w #[] 0 (Nat.le_refl _) (by unfold maxLen; omega) rfl
  have hb0 : Below w.heap.size w (w.alloc (.cells #[] 43)) := (Below.refl _ _).alloc (Nat.le_refl _) _
  go_wp2_with (at_builtin; refine wpList_append_any _ rfl _ _ 22 rfl w.heap.size 43 i0 _ 5 40 Try.underlying22 hi0 hz0 hz1 hz2 rfl (by omega) _ 0 [] rfl h0 B A l.length c (cellsF l) rfl (hR.below hb0).2 (cellsF_one l) (by unfold maxLen; omega) (by omega) hb0.size ?_; intro v' w2 own2 hg2 hat2)
  obtain ⟨A', c', rfl⟩ := own_shape own2
  go_wp2
  go_ret
  rw [Nat.zero_add, List.nil_append] at own2
  exact ⟨A', c', by rw [Nat.zero_add]; rfl, own2, hb0.grown hg2 hb0.size (fun k hk => by have e : (some w.heap.size : Option Nat) = some k := hk; cases e; exact Nat.le_refl _)⟩

set_option maxRecDepth 100000 in
set_option maxHeartbeats 800000 in
theorem spoil_any (n : Nat) (hn : n ≤ 1000000000) (xs : List Value) (A : Option Addr) (c base : Nat) (w : World) (own : w.ownsRow base 43 5 (.slice A n c) n xs) :
    Calls Try.prog 30 #[.slice A n c] w fun e w' => e = .returned (.tuple #[]) ∧ Below base w w' := by
  go_enter Try.func30, Try.ntmps30
  go_wp2
  go_loopw [2] (fun x wr => ∃ k : Nat, k ≤ n ∧ x = .int .i64 k ∧ (∃ ys, wr.ownsRow base 43 5 (.slice A n c) n ys) ∧ Below base w wr) (fun x _ => n - (intOf x).toNat)
  case atStart => exact ⟨0, by omega, rfl, ⟨xs, own⟩, Below.refl _ _⟩
  case round =>
    clear own
    obtain ⟨k, hk, rfl, ⟨ys, own⟩, hbl⟩ := hrel
    by_cases hlt : k < n
    · rcases own.2 with ⟨_, h2⟩ | ⟨gb, cap, cur, h1, hbg, hg, _⟩
      · omega
      · injection h1 with h1 h2 h3
        subst h1
        clear h3
        have hlen := own.1
        have hc := World.ownsRow.cellAt own (k * 5) (by omega)
        have hz := World.ownsRow.frozenAt own (k * 5)
        have hs : ys[k * 5]? = some (ys[k * 5]'(by omega)) := List.getElem?_eq_getElem (by omega)
        rw [hs] at hc
        obtain ⟨v0, hv0⟩ : ∃ v0, v0 = ys[k * 5]'(by omega) := ⟨_, rfl⟩
        rw [← hv0] at hc
        have own2 := (World.ownsRow.stored own (k * 5) (.int .i64 (-1))).1
        clear hs hv0 hg h2 own
        have HL := Lib.hid hlen
        clear hlen
        go_wp2
        go_roundw
        case rel => exact ⟨k + 1, by omega, by go_num, ⟨_, own2⟩, hbl.setCell (by exact hbg) _⟩
        case measure => simp [intOf]; omega
    · go_wp2
      go_end0
      exact ⟨rfl, hbl⟩

theorem addR_le (l : List Fact) (f : Fact) : (addR l f).length ≤ l.length + 1 := by
  unfold addR; split <;> simp

set_option maxRecDepth 100000 in
set_option maxHeartbeats 3200000 in
theorem orderAdds_any (l : List Fact) (f : Fact) (A : Option Addr) (c B : Nat) (hc : l.length ≤ c) (w : World) (hR : RF w B A l) :
    Calls Try.prog 6 #[.slice A l.length c, .agg #[.int .i64 f.at_, .int .i64 f.ch, .int .i64 f.fr, .int .i64 f.un, .int .i64 f.me]] w fun e w' => e = .returned (.bool true) ∧ Below w.heap.size w w' := by
  have hx0 : Below (w.heap.size + 1) (w.alloc (.cells #[.int .i64 f.at_, .int .i64 f.ch, .int .i64 f.fr, .int .i64 f.un, .int .i64 f.me] 43)) (w.alloc (.cells #[.int .i64 f.at_, .int .i64 f.ch, .int .i64 f.fr, .int .i64 f.un, .int .i64 f.me] 43)) := Below.refl _ _
  obtain ⟨_, _, _, hy0⟩ := blk_facts hx0 (by omega)
  go_enter Try.func6, Try.ntmps6
  go_wp2_with fail
  refine (long_any l A c _).mono ?_
  rintro e w1 ⟨rfl, rfl⟩
  by_cases h200 : 200 < l.length
  · have h2 : decide (200 < l.length) = true := decide_eq_true h200
    go_wp2_with fail
    refine (known_any _).mono ?_
    rintro e w2 ⟨rfl, hb2⟩
    go_wp2
    go_ret
    exact ⟨rfl, hy0.trans (hb2.mono hy0.size)⟩
  · have h2 : decide (200 < l.length) = false := decide_eq_false h200
    have hl9 : l.length ≤ 1000000000 := by omega
    have hl8 : l.length ≤ 100000000 := by omega
    go_wp2_with fail
    refine (copied_any l hl9 A c B _ (hR.below hy0)).mono ?_
    rintro e w2 ⟨A0, c0, rfl, own0, hb2⟩
    have hx2 := box_step hx0 hb2
    clear hb2 hx0 hy0
    obtain ⟨bx, _, _, hy2⟩ := blk_facts hx2 (by omega)
    go_wp2_with fail
    refine (addX_any l f hl8 A0 c0 _ _ own0.reads).mono ?_
    rintro e w3 ⟨A1, c1, rfl, own1, hb3⟩
    have hx3 := box_step hx2 hb3
    have own03 := own0.kept hb3
    have hlt0 := fun k hk => (World.ownsRow.lt own0 k hk).2
    have HLT := Lib.hid hlt0
    have hbs : w2.heap.size ≤ w3.heap.size := hb3.size
    clear bx hb3 hx2 own0 hlt0
    obtain ⟨bx, _, _, hy3⟩ := blk_facts hx3 (by omega)
    go_wp2_with fail
    refine (raddX_any l f hl8 A c B _ (hR.below hy3)).mono ?_
    rintro e w4 ⟨A2, c2, rfl, own2, hb4⟩
    have hx4 := box_step hx3 hb4
    have own04 := own03.kept hb4
    have own14 := own1.kept hb4
    clear bx hb4 hx3 own03 own1
    obtain ⟨bx, _, _, hy4⟩ := blk_facts hx4 (by omega)
    have hRl := addR_le l f
    go_wp2_with fail
    refine (validate_any l A c B _ (hR.below hy4) hl9).mono ?_
    rintro e w5 ⟨rfl, hb5⟩
    have own05 := own04.kept hb5
    have own15 := own14.kept hb5
    have own25 := own2.kept hb5
    have hy5 := hy4.trans (hb5.mono hy4.size)
    clear bx hb5 hx4 hy4 own04 own14 own2
    go_wp2_with fail
    refine (rvalidate_any l A c B _ (hR.below hy5) hl9).mono ?_
    rintro e w6 ⟨rfl, hb6⟩
    have own06 := own05.kept hb6
    have own16 := own15.kept hb6
    have own26 := own25.kept hb6
    have hy6 := hy5.trans (hb6.mono hy5.size)
    clear hb6 hy5 own05 own15 own25
    go_wp2_with fail
    refine (sameFacts_any (addR l f) (addR l f) _ _ _ _ _ _ _ own16.reads own26.reads (by omega) (by omega)).mono ?_
    rintro e w7 ⟨rfl, hb7⟩
    rw [show decide (addR l f = addR l f) = true by simp]
    have own07 := own06.kept hb7
    have own17 := own16.kept hb7
    have hy7 := hy6.trans (hb7.mono hy6.size)
    clear hb7 hy6 own06 own16 own26
    go_wp2_with fail
    refine (spoil_any _ (by omega) _ _ _ _ _ own17).mono ?_
    rintro e w8 ⟨rfl, hb8⟩
    have own08 : OwnF w8 _ A0 c0 l := own_below own07 hb8 HLT.out
    have hy8 := hy7.trans (hb8.mono hy2.size)
    clear hb8 hy7 own07 own17
    go_wp2_with fail
    refine (sameFacts_any l l _ _ _ _ _ _ _ own08.reads (hR.below hy8) hl9 hl9).mono ?_
    rintro e w9 ⟨rfl, hb9⟩
    rw [show decide (l = l) = true by simp]
    have hy9 := hy8.trans (hb9.mono hy8.size)
    clear hb9 hy8 own08
    go_wp2_with fail
    refine (known_any _).mono ?_
    rintro e w10 ⟨rfl, hb10⟩
    go_wp2
    go_ret
    exact ⟨rfl, hy9.trans (hb10.mono hy9.size)⟩

end Go.Proofs.Ytoopmancobfjeaa
