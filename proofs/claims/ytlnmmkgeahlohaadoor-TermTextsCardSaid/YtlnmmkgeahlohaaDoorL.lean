/-
  The walk of the law TermTurns.
-/
import Derived.Test.YtlnmmkgeahlohaaDoorK
namespace Go.Proofs.YtlnmmkgeahlohaaDoor
set_option linter.unusedVariables false
set_option linter.unusedSimpArgs false
open Go.RowKit

/-! ### boxes -/
/-- Block g holds just the cells cs, and can be written. -/
structure Box (w : World) (g : Nat) (cs : Array Value) : Prop where
  lt : g < w.heap.size
  cell : ∀ j, w.cell? ⟨g, j, none⟩ = cs[j]?
  free : ∀ j, w.frozen? ⟨g, j, none⟩ = false
theorem Box.below {w w' : World} {g : Nat} {cs : Array Value} (h : Box w g cs) (hb : Below w.heap.size w w') : Box w' g cs :=
  ⟨Nat.lt_of_lt_of_le h.lt hb.size, fun j => (hb.cell (p := ⟨g, j, none⟩) h.lt).trans (h.cell j), fun j => (hb.frozen (p := ⟨g, j, none⟩) h.lt).trans (h.free j)⟩
theorem Box.new (w : World) (t : TypeId) (cs : Array Value) : Box (w.alloc (.cells cs t)) w.heap.size cs :=
  ⟨by simp, fun j => by simp [World.cell?_alloc_at], fun j => by simp [go_sem]⟩
theorem Box.alloc {w : World} {g : Nat} {cs : Array Value} (h : Box w g cs) (o : Obj) : Box (w.alloc o) g cs := h.below ((Below.refl _ _).alloc (Nat.le_refl _) _)
theorem Box.at' {w : World} {g g' : Nat} {cs : Array Value} (h : Box w g cs) (e : g = g') : Box w g' cs := e ▸ h

theorem neq_cycle (a b c a' b' c' : Int) (w : World) : (binOp .neq 37 (.agg #[.int .i64 a, .int .i64 b, .int .i64 c]) (.agg #[.int .i64 a', .int .i64 b', .int .i64 c'])).run Tryd.prog w = .ok (.bool (!(a == a' && (b == b' && c == c')))) w := by
  have hS : Tryd.prog.underlying 37 = some (.struct (Tryd.prog.fieldsOf 37)) := by kernel_rfl
  have hp : Tryd.prog.stoodInHeld 37 = false := by kernel_rfl
  have u3 := Tryd.underlying3
  have a3 := Tryd.isAgg3
  have z3 := Tryd.sizeOf3
  rw [run_neq_struct, show (10000 : Nat) = 9999 + 1 from rfl, run_equalIn_agg w 9999 37 _ _ hS hp]
  simp only [Program.fieldsOf, Tryd.underlying37]
  go_simp
  by_cases h1 : a = a'
  · by_cases h2 : b = b'
    · by_cases h3 : c = c' <;> simp [h1, h2, h3]
    · simp [h1, h2]
  · simp [h1]

/-! ### plain -/
theorem turn_ok {c : Cy} (hc : CyOk c) (b : Int) : CyOk (turnC c b) ∧ (turnC c b).n = c.n ∧ (turnC c b).f = (c.f + b % c.n) % c.n ∧ (turnC c b).k = c.k := by
  rw [turn_yes hc.to]
  have h1 := hc.n1
  exact ⟨⟨h1, hc.n2, Int.emod_nonneg _ (by omega), Int.emod_lt_of_pos _ (by omega), hc.k⟩, rfl, rfl, rfl⟩
theorem turn_st {t : Tm} {c : Cy} (hc : CyOk c) (b : Int) (d : Nat) : stB t (turnC c b) d = stB t c d := by unfold stB; rw [(turn_ok hc b).2.2.2]
theorem turn_mn {t : Tm} {c : Cy} (hc : CyOk c) (b : Int) (d : Nat) (ho : opB t d = true) : mnAt t (turnC c b) d = (mnAt t c d + b.tmod c.n + c.n) % c.n := by
  have h1 := hc.n1
  rw [mnAt_open ho, mnAt_open ho, (turn_ok hc b).2.1, (turn_ok hc b).2.2.1, cnt_congr _ (stB t c) d (fun i _ => turn_st hc b i), Int.emod_add_emod, Int.add_emod_right]
  obtain ⟨e1, _, _⟩ := tmod_cases b c.n h1
  have e2 : ∀ z : Int, (z + b.tmod c.n) % c.n = (z + b % c.n) % c.n := fun z => by
    rcases e1 with e | e <;> rw [e]
    rw [← Int.add_sub_assoc, Int.sub_emod, Int.emod_self]; simp
  rw [e2, Int.emod_add_emod]
  congr 1; omega
theorem turn_menuE {t : Tm} {c : Cy} (hc : CyOk c) (b d : Int) : menuE t (turnC c b) d = menuE t c d := by
  unfold menuE bE; rw [(turn_ok hc b).1.to, hc.to]
theorem turn_menuR {t : Tm} {c : Cy} (hc : CyOk c) (b d : Int) (h : menuE t c d = 0) : menuR t (turnC c b) d = (menuR t c d + b.tmod c.n + c.n) % c.n ∧ 0 ≤ menuR t c d ∧ menuR t c d < c.n := by
  have ho : opB t d.toNat = true := by
    unfold menuE at h
    by_cases h1 : bE t c = 0
    · rw [if_neg (by simp [h1])] at h
      cases hi : inB d 0 (t.len - 1) with
      | false => rw [hi] at h; cases h
      | true =>
        have hd := inB_true.1 hi
        have e : ((d.toNat : Nat) : Int) = d := by omega
        rw [e]
        cases ho : opB t d with
        | false => rw [hi, ho] at h; cases h
        | true => rfl
    · rw [if_pos h1] at h; exact absurd h h1
  rw [menuR_yes h, menuR_yes (by rw [turn_menuE hc]; exact h)]
  exact ⟨turn_mn hc b _ ho, (mnAt_nonneg hc _).2 ho, (mnAt_bd hc _).2⟩

theorem Box.drewN {w : World} {g : Nat} {cs : Array Value} (h : Box w g cs) (n : Nat) : Box (w.drewN n) g cs := ⟨h.lt, h.cell, h.free⟩
theorem Box.ne {w : World} {g : Nat} {cs : Array Value} (h : Box w g cs) : ¬ g = w.heap.size := Nat.ne_of_lt h.lt
theorem RN.drewN {w : World} {A : Option Addr} {l : List Int} (h : RN w A l) (n : Nat) : RN (w.drewN n) A l := h
theorem RN.alloc {w : World} {A : Option Addr} {l : List Int} (h : RN w A l) (o : Obj) : RN (w.alloc o) A l := h.below ((Below.refl _ _).alloc (Nat.le_refl _) _)
end Go.Proofs.YtlnmmkgeahlohaaDoor
