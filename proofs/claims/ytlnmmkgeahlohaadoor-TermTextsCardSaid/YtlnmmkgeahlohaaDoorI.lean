/-
  Walks: what the laws check besides.
-/
import Derived.Test.YtlnmmkgeahlohaaDoorH
namespace Go.Proofs.YtlnmmkgeahlohaaDoor
set_option linter.unusedVariables false
set_option linter.unusedSimpArgs false
open Go.RowKit

theorem RN.lit {w w' : World} {n : Nat} (l : List Int) (cs : Array Value) (hcs : cs = (ints l).toArray) (hb : Below n (w.alloc (.cells cs 3)) w') (hn : w.heap.size < n) : RN w' (some ⟨w.heap.size, 0, none⟩) l := by
  obtain ⟨h1, _, h3, _⟩ := blk_facts hb hn
  refine ⟨by simp [ints], fun _ => ⟨_, rfl, h3, fun j u hu => ?_⟩⟩
  have hadd : (⟨w.heap.size, 0, none⟩ : Addr).add j = ⟨w.heap.size, j, none⟩ := by unfold Addr.add; split <;> simp_all
  rw [hadd, h1, hcs]
  simpa using hu
theorem RL.lit {w w' : World} {n : Nat} (l : List Ln) (cs : Array Value) (hcs : cs = (cellsL l).toArray) (hb : Below n (w.alloc (.cells cs 41)) w') (hn : w.heap.size < n) : RL w' (some ⟨w.heap.size, 0, none⟩) l := by
  obtain ⟨h1, _, h3, _⟩ := blk_facts hb hn
  refine ⟨by rw [cellsL_length], fun _ => ⟨_, rfl, h3, fun j u hu => ?_⟩⟩
  have hadd : (⟨w.heap.size, 0, none⟩ : Addr).add j = ⟨w.heap.size, j, none⟩ := by unfold Addr.add; split <;> simp_all
  rw [hadd, h1, hcs]
  simpa using hu

def exT : Tm := ⟨14, [5, 6], [2]⟩
def exC : Cy := ⟨3, 0, 1⟩
def exL : List Ln := [⟨2, 3⟩, ⟨3, 5⟩]
theorem ex_menuR : menuR exT exC 3 = 0 := by decide +kernel
theorem ex_menuE : menuE exT exC 3 = 0 := by decide +kernel
theorem ex_slvE : slvE exL = 0 := by decide +kernel
theorem ex_lc : lcTo exL 2 = 15 := by decide +kernel
theorem ex_sol : Sol exL 2 8 := ⟨by decide +kernel, by unfold Has; decide +kernel⟩
theorem ex_solve {a m : Int} {ok : Bool} (h : SRel exL a m ok) : a = 8 ∧ m = 15 ∧ ok = true := by
  rcases h with ⟨_, h2, ⟨x, hx, h3⟩, h4⟩ | ⟨h1, _⟩
  · rw [h2, h3, h4, show exL.length = 2 from rfl, ex_lc, Sol.uniq hx ex_sol]; simp
  · exact absurd ex_sol.2 (h1 ex_slvE 8)

set_option maxRecDepth 100000 in
set_option maxHeartbeats 800000 in
theorem known_any (w : World) : Calls Tryd.prog 5 #[] w fun e w' => e = .returned (.bool true) ∧ Below w.heap.size w w' := by
  have h1 : RN (((w.alloc (.cells #[.int .i64 5, .int .i64 6] 3)).alloc (.cells #[.int .i64 2] 3)).alloc (.cells #[.int .i64 14, .slice (some ⟨w.heap.size, 0, none⟩) 2 2, .slice (some ⟨w.heap.size + 1, 0, none⟩) 1 1] 24)) (some ⟨w.heap.size, 0, none⟩) [5, 6] :=
    RN.lit (n := w.heap.size + 1) [5, 6] _ rfl ((((Below.refl _ _).alloc (by simp) _).alloc (by simp) _)) (by omega)
  have h2 : RN (((w.alloc (.cells #[.int .i64 5, .int .i64 6] 3)).alloc (.cells #[.int .i64 2] 3)).alloc (.cells #[.int .i64 14, .slice (some ⟨w.heap.size, 0, none⟩) 2 2, .slice (some ⟨w.heap.size + 1, 0, none⟩) 1 1] 24)) (some ⟨w.heap.size + 1, 0, none⟩) [2] := by
    have := RN.lit (w := w.alloc (.cells #[.int .i64 5, .int .i64 6] 3)) (n := w.heap.size + 2) [2] #[.int .i64 2] rfl ((Below.refl _ _).alloc (by simp) (.cells #[.int .i64 14, .slice (some ⟨w.heap.size, 0, none⟩) 2 2, .slice (some ⟨w.heap.size + 1, 0, none⟩) 1 1] 24)) (by simp)
    simpa using this
  have hb0 : Below w.heap.size w (((w.alloc (.cells #[.int .i64 5, .int .i64 6] 3)).alloc (.cells #[.int .i64 2] 3)).alloc (.cells #[.int .i64 14, .slice (some ⟨w.heap.size, 0, none⟩) 2 2, .slice (some ⟨w.heap.size + 1, 0, none⟩) 1 1] 24)) :=
    (((Below.refl _ _).alloc (Nat.le_refl _) _).alloc (by simp) _).alloc (by simp; omega) _
  go_enter Tryd.func5, Tryd.ntmps5
  go_wp2_with fail
  obtain ⟨W, hW⟩ : ∃ W, W = ((w.alloc (.cells #[.int .i64 5, .int .i64 6] 3)).alloc (.cells #[.int .i64 2] 3)).alloc (.cells #[.int .i64 14, .slice (some ⟨w.heap.size, 0, none⟩) 2 2, .slice (some ⟨w.heap.size + 1, 0, none⟩) 1 1] 24) := ⟨_, rfl⟩
  rw [← hW] at h1 h2 hb0 ⊢
  clear hW
  refine (menu_any exC 3 exT _ _ 2 1 W h1 h2 (by decide) (by decide)).mono ?_
  rintro e w1 ⟨rfl, hb1⟩
  rw [ex_menuR, ex_menuE]
  have hy1 := hb0.trans (hb1.mono hb0.size)
  clear h1 h2 hb0 hb1
  go_wp2_with fail
  refine (solve_any exL (by decide) _ 2 _ (RL.lit (n := w1.heap.size + 1) exL _ rfl (Below.refl _ _) (by omega))).mono ?_
  rintro e w2 ⟨a, m, ok, rfl, hs, hb2⟩
  obtain ⟨rfl, rfl, rfl⟩ := ex_solve hs
  rw [ex_slvE]
  have hy2 := hy1.trans ((((Below.refl w.heap.size w1).alloc hy1.size _)).trans (hb2.mono (by have := hy1.size; simp; omega)))
  clear hs hb2 hy1
  go_wp2
  go_ret
  exact ⟨rfl, hy2⟩

end Go.Proofs.YtlnmmkgeahlohaaDoor
