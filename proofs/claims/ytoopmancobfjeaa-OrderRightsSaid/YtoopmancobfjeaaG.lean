/-
  Walks: the reference's Spans and Changed; what the law checks besides.
-/
import Derived.Test.YtoopmancobfjeaaF
namespace Go.Proofs.Ytoopmancobfjeaa
set_option linter.unusedVariables false
set_option linter.unusedSimpArgs false
open Go.RowKit

theorem rordered_any (l : List Fact) (t child : Int) (hV : Vld l) (A0 : Option Addr) (c0 B : Nat) (w : World) (hR : RF w B A0 l) :
    Calls Try.prog 61 #[.slice A0 l.length c0, .int .i64 t, .int .i64 child] w fun e w' =>
      ∃ A c, e = .returned (.slice A (spansL l t child).length c) ∧ OwnS w' w.heap.size A c (spansL l t child) ∧ Below w.heap.size w w' := by
  have hl : l.length ≤ 1000000000 := by have := hV.len; omega
  rw [← spansL_changed hV]
  go_enter Try.func61, Try.ntmps61
  go_wp2_with fail
  refine (rspans_any l (-1) t child hl A0 c0 B _ hR).mono ?_
  rintro e w2 ⟨A', c', rfl, own2, hb2⟩
  go_wp2
  go_ret
  exact ⟨A', c', rfl, own2, hb2⟩

theorem askd_zero (l : List Fact) (child : Int) : askd l (inB child 0 99 && inB 0 0 999) = askd l (inB child 0 99) := by
  have : inB 0 0 999 = true := by decide
  rw [this, Bool.and_true]

set_option maxHeartbeats 400000 in
theorem rspansX_any (l : List Fact) (t child : Int) (hl : l.length ≤ 1000000000) (A : Option Addr) (c B : Nat) (w : World) (hR : RF w B A l) :
    Calls Try.prog 18 #[.slice A l.length c, .int .i64 t, .int .i64 child] w (RetSp w (spansR l t child) (askd l (inB child 0 99))) := by
  go_enter Try.func18, Try.ntmps18
  go_wp2_with fail
  refine (rasked_any l _ _ A c B _ hR hl).mono ?_
  rintro e w1 ⟨rfl, hb1⟩
  rw [askd_zero]
  by_cases h0 : askd l (inB child 0 99) = 0
  · have hV := Vld.of (askd_ok h0).1
    have HZ := Lib.hid h0
    rw [h0]; clear h0
    go_wp2_with fail
    refine (rordered_any l t child hV A c B _ (hR.below hb1)).mono ?_
    rintro e w2 ⟨A', c', rfl, own2, hb2⟩
    have hs : spansR l t child = spansL l t child := by unfold spansR; rw [if_pos HZ.out]
    go_wp2
    go_ret2
    exact ⟨A', c', ret2 (by rw [hs]; rfl) (by rw [HZ.out]; rfl), by rw [hs]; exact own_base own2 hb1.size, hb1.trans (hb2.mono hb1.size)⟩
  · have h1 : (askd l (inB child 0 99) != 0) = true := by simp [h0]
    have HZ := Lib.hid h0; clear h0
    have hs : spansR l t child = [] := by unfold spansR; rw [if_neg HZ.out]
    go_wp2
    go_ret2
    exact ⟨none, 0, by rw [hs]; rfl, by rw [hs]; exact World.ownsRow_nil _ _ _ _, hb1⟩

set_option maxHeartbeats 400000 in
theorem rchangedX_any (l : List Fact) (b t child : Int) (hl : l.length ≤ 1000000000) (A : Option Addr) (c B : Nat) (w : World) (hR : RF w B A l) :
    Calls Try.prog 21 #[.slice A l.length c, .int .i64 b, .int .i64 t, .int .i64 child] w (RetSp w (changedR l b t child) (askd l (inB child 0 99))) := by
  go_enter Try.func21, Try.ntmps21
  go_wp2_with fail
  refine (rasked_any l _ _ A c B _ hR hl).mono ?_
  rintro e w1 ⟨rfl, hb1⟩
  rw [askd_zero]
  by_cases h0 : askd l (inB child 0 99) = 0
  · have HZ := Lib.hid h0
    rw [h0]; clear h0
    go_wp2_with fail
    refine (rspans_any l b t child hl A c B _ (hR.below hb1)).mono ?_
    rintro e w2 ⟨A', c', rfl, own2, hb2⟩
    have hs : changedR l b t child = changedL l b t child := by unfold changedR; rw [if_pos HZ.out]
    go_wp2
    go_ret2
    exact ⟨A', c', ret2 (by rw [hs]; rfl) (by rw [HZ.out]; rfl), by rw [hs]; exact own_base own2 hb1.size, hb1.trans (hb2.mono hb1.size)⟩
  · have h1 : (askd l (inB child 0 99) != 0) = true := by simp [h0]
    have HZ := Lib.hid h0; clear h0
    have hs : changedR l b t child = [] := by unfold changedR; rw [if_neg HZ.out]
    go_wp2
    go_ret2
    exact ⟨none, 0, by rw [hs]; rfl, by rw [hs]; exact World.ownsRow_nil _ _ _ _, hb1⟩

theorem long_any (l : List Fact) (A : Option Addr) (c : Nat) (w : World) : Calls Try.prog 15 #[.slice A l.length c] w fun e w' => e = .returned (.bool (decide (200 < l.length))) ∧ w' = w := by
  go_enter Try.func15, Try.ntmps15
  go_wp2
  go_ret
  exact ⟨ret_bool (by rw [decide_eq_decide]; omega), rfl⟩

/-- The chapter's example. -/
def exL : List Fact := [⟨10, 1, 0, 5, 2⟩, ⟨20, 1, 3, 4, 0⟩]
theorem ex_spans : spansR exL 20 1 = [⟨0, 3, 2⟩, ⟨4, 5, 2⟩] := by decide +kernel
theorem ex_changed : changedR exL 15 20 1 = [⟨3, 4, 0⟩] := by decide +kernel
theorem ex_asked : askd exL (inB 1 0 99) = 0 := by decide +kernel

theorem RS.lit {w w' : World} {n : Nat} (l : List Sp) (cs : Array Value) (hcs : cs = (cellsS l).toArray) (hb : Below n (w.alloc (.cells cs 81)) w') (hn : w.heap.size < n) : RS w' (some ⟨w.heap.size, 0, none⟩) l := by
  obtain ⟨h1, _, h3, _⟩ := blk_facts hb hn
  refine ⟨by rw [cellsS_length], fun _ => ⟨_, rfl, h3, fun j u hu => ?_⟩⟩
  have hadd : (⟨w.heap.size, 0, none⟩ : Addr).add j = ⟨w.heap.size, j, none⟩ := by unfold Addr.add; split <;> simp_all
  rw [hadd, h1, hcs]
  simpa using hu
theorem RF.lit {w w' : World} {n : Nat} (l : List Fact) (cs : Array Value) (hcs : cs = (cellsF l).toArray) (hb : Below n (w.alloc (.cells cs 43)) w') (hn : w.heap.size < n) : RF w' (w.heap.size + 1) (some ⟨w.heap.size, 0, none⟩) l := by
  obtain ⟨h1, _, h3, _⟩ := blk_facts hb hn
  refine ⟨h3, by rw [cellsF_length], fun _ => ⟨_, rfl, by simp, fun j u hu => ?_⟩⟩
  have hadd : (⟨w.heap.size, 0, none⟩ : Addr).add j = ⟨w.heap.size, j, none⟩ := by unfold Addr.add; split <;> simp_all
  rw [hadd, h1, hcs]
  simpa using hu

set_option maxRecDepth 100000 in
set_option maxHeartbeats 800000 in
theorem known_any (w : World) : Calls Try.prog 16 #[] w fun e w' => e = .returned (.bool true) ∧ Below w.heap.size w w' := by
  go_enter Try.func16, Try.ntmps16
  go_wp2_with fail
  have hR := RF.lit (w := w) (n := w.heap.size + 1) exL #[.int .i64 10, .int .i64 1, .int .i64 0, .int .i64 5, .int .i64 2, .int .i64 20, .int .i64 1, .int .i64 3, .int .i64 4, .int .i64 0] rfl (Below.refl _ _) (by omega)
  have hb0 : Below w.heap.size w (w.alloc (.cells #[.int .i64 10, .int .i64 1, .int .i64 0, .int .i64 5, .int .i64 2, .int .i64 20, .int .i64 1, .int .i64 3, .int .i64 4, .int .i64 0] 43)) := (Below.refl _ _).alloc (Nat.le_refl _) _
  obtain ⟨W, hW⟩ : ∃ W, W = w.alloc (.cells #[.int .i64 10, .int .i64 1, .int .i64 0, .int .i64 5, .int .i64 2, .int .i64 20, .int .i64 1, .int .i64 3, .int .i64 4, .int .i64 0] 43) := ⟨_, rfl⟩
  rw [← hW] at hR hb0 ⊢
  clear hW
  refine (spansX_any exL 20 1 (by decide) _ 2 _ (by decide) W hR).mono ?_
  rw [ex_spans, ex_asked]
  rintro e w1 ⟨A, c, rfl, own, hb1⟩
  have hb1' := hb0.trans (hb1.mono hb0.size)
  go_wp2_with fail
  refine (changedX_any exL 15 20 1 (by decide) _ 2 _ (by decide) _ (hR.below hb1)).mono ?_
  rw [ex_changed, ex_asked]
  rintro e w2 ⟨A', c', rfl, own', hb2⟩
  have hb2' := hb1'.trans (hb2.mono hb1'.size)
  have own2 := own.kept hb2
  have hs := RS.of_own own2
  have hs' := RS.of_own own'
  clear own own' own2 hR hb0 hb1 hb2 hb1'
  go_wp2_with fail
  refine (sameSpans_any [⟨0, 3, 2⟩, ⟨4, 5, 2⟩] [⟨0, 3, 2⟩, ⟨4, 5, 2⟩] _ _ _ _ _ (hs.below ((Below.refl _ _).alloc (Nat.le_refl _) _)) (RS.lit (n := w2.heap.size + 1) [⟨0, 3, 2⟩, ⟨4, 5, 2⟩] _ rfl (Below.refl _ _) (by omega)) (by decide) (by decide)).mono ?_
  rintro e w3 ⟨rfl, hb3⟩
  rw [show decide (([⟨0, 3, 2⟩, ⟨4, 5, 2⟩] : List Sp) = [⟨0, 3, 2⟩, ⟨4, 5, 2⟩]) = true by decide]
  have hb3' := hb2'.trans (((Below.refl w.heap.size w2).alloc hb2'.size _).trans (hb3.mono (by have := hb2'.size; simp; omega)))
  have hs3 := (hs'.below ((Below.refl _ _).alloc (Nat.le_refl _) _)).below hb3
  clear hs hs' hb2' hb3
  go_wp2_with fail
  refine (sameSpans_any [⟨3, 4, 0⟩] [⟨3, 4, 0⟩] _ _ _ _ _ (hs3.below ((Below.refl _ _).alloc (Nat.le_refl _) _)) (RS.lit (n := w3.heap.size + 1) [⟨3, 4, 0⟩] _ rfl (Below.refl _ _) (by omega)) (by decide) (by decide)).mono ?_
  rintro e w4 ⟨rfl, hb4⟩
  rw [show decide (([⟨3, 4, 0⟩] : List Sp) = [⟨3, 4, 0⟩]) = true by decide]
  have hb4' := hb3'.trans (((Below.refl w.heap.size w3).alloc hb3'.size _).trans (hb4.mono (by have := hb3'.size; simp; omega)))
  go_wp2
  go_ret
  exact ⟨rfl, hb4'⟩

end Go.Proofs.Ytoopmancobfjeaa
