import Derived.Test.YtiapkffihpgdcaaGreatDoorPk18
import Derived.Test.YtiapkffihpgdcaaGreatDoorPk26
/-
  Walks: the office is locked for a question (the program).
-/
namespace Go.Proofs.YtiapkffihpgdcaaGreatDoor
set_option linter.unusedVariables false
set_option linter.unusedSimpArgs false
open Go.RowKit Go.MuLone

theorem lock_restore {w w1 w' : World} {g : Nat} (h0 : w.cell? ⟨g, 0, none⟩ = some (.int .i32 0)) (h1 : w1 = w.setCell ⟨g, 0, none⟩ (.int .i32 1)) (hb : Below w1.heap.size w1 w') : Below w.heap.size w (w'.setCell ⟨g, 0, none⟩ (.int .i32 0)) := by
  subst h1
  rw [set_size] at hb
  refine ⟨hb.os, hb.tape, hb.output, by have := hb.size; rw [set_size] at this ⊢; exact this, fun k hk => ?_⟩
  by_cases e : k = g
  · subst e
    have hk' := hb.block k hk
    unfold World.cell? at h0
    cases hw : w.heap[k]? with
    | none => simp [hw] at h0
    | some o =>
      cases o with
      | cells c t fr =>
        simp [hw] at h0
        have h2 : (w.setCell ⟨k, 0, none⟩ (.int .i32 1)).heap[k]? = some (.cells (c.setIfInBounds 0 (.int .i32 1)) t fr) := by simp [World.setCell, Array.getElem?_modify, hw]
        rw [h2] at hk'
        have h3 : (w'.setCell ⟨k, 0, none⟩ (.int .i32 0)).heap[k]? = some (.cells ((c.setIfInBounds 0 (.int .i32 1)).setIfInBounds 0 (.int .i32 0)) t fr) := by simp [World.setCell, Array.getElem?_modify, hk']
        rw [h3]
        have h4 : (c.setIfInBounds 0 (.int .i32 1)).setIfInBounds 0 (.int .i32 0) = c := by
          apply Array.ext_getElem?
          intro i
          by_cases hi : i = 0
          · subst hi
            obtain ⟨hlt, _⟩ := Array.getElem?_eq_some_iff.1 h0
            rw [h0]; simp [hlt]
          · simp [Array.getElem?_setIfInBounds, Ne.symm hi]
        rw [h4]
      | _ => simp [hw] at h0
  · rw [set_other _ _ _ _ e, hb.block k hk, set_other _ _ _ _ e]
section
variable {N : Nat} {w : World} {F : Nat → Prop} {g : Nat} {h : Hd} {s : Of}
theorem PO.lock (hP : PO 0 N w F g h s) {w1 : World} (h1 : w1 = w.setCell ⟨g, 0, none⟩ (.int .i32 1)) : PO 1 N w1 F g h s := by
  subst h1
  exact hP.cell 0 (.int .i32 1) (by omega) (L' := 1) (s' := s) rfl ⟨rfl, rfl, rfl⟩ ⟨rfl, rfl, rfl, rfl, rfl, rfl, rfl⟩ hP.ok
theorem PO.unlock (hP : PO 1 N w F g h s) : PO 0 N (w.setCell ⟨g, 0, none⟩ (.int .i32 0)) F g h s :=
  hP.cell 0 (.int .i32 0) (by omega) (L' := 0) (s' := s) rfl ⟨rfl, rfl, rfl⟩ ⟨rfl, rfl, rfl, rfl, rfl, rfl, rfl⟩ hP.ok
theorem EnvZ.lock (hE : EnvZ w) (hg : 7 ≤ g) {w1 : World} (h1 : w1 = w.setCell ⟨g, 0, none⟩ (.int .i32 1)) : EnvZ w1 := by
  subst h1
  exact hE.of (set_other _ _ _ _ (by omega)) (set_other _ _ _ _ (by omega)) (by rw [set_size]; exact Nat.le_refl _)
end
/-- What a locked question leaves: its value in the world w2, in which the lock is then let go. -/
def RetL (E : Int) (Z : Value) (g : Nat) (w : World) (Q : Value → World → Prop) (e : Ending) (w' : World) : Prop :=
  ∃ v w2, e = .returned (.tuple #[if E = 0 then v else Z, .int .i64 E]) ∧ Q v w2 ∧ w' = w2.setCell ⟨g, 0, none⟩ (.int .i32 0) ∧ Below w.heap.size (w.setCell ⟨g, 0, none⟩ (.int .i32 1)) w2 ∧ Below w.heap.size w w'
set_option maxRecDepth 100000 in
set_option maxHeartbeats 800000 in
theorem lockedInt_any {N : Nat} {w : World} {F : Nat → Prop} {g : Nat} {h : Hd} {s : Of} (hP : PO 0 N w F g h s) {K : FuncId} {caps : Array Value} {E : Int} {Q : Value → World → Prop} (hK : ∀ args w, (callFunc K args).run Tryz.prog w = .ok (.enter K args) w)
    (hC : Calls Tryz.prog K caps (w.setCell ⟨g, 0, none⟩ (.int .i32 1)) fun e w' => ∃ v, e = .returned (.tuple #[v, .int .i64 E]) ∧ Q v w' ∧ Below w.heap.size (w.setCell ⟨g, 0, none⟩ (.int .i32 1)) w') :
    Calls Tryz.prog 70 #[.pointer (some ⟨g, 0, none⟩), .func (.func K) #[] caps] w (RetL E (.int .i64 0) g w Q) := by
  have h0 := hP.cLk
  have f0 := hP.box.free 0
  have hgl := hP.gl
  have HC := Lib.hid hC
  clear hC
  by_cases hE : E = 0
  · have hE' : (E != 0) = false := by simp [hE]
    have HE := Lib.hid hE; clear hE
    go_enter_defers Tryz.func70, Tryz.ntmps70
    go_wp2_with (first | (go_at_call 78; refine (lock_free muLib ⟨g, 0, none⟩ _ h0 f0).mono ?_; rintro e w' ⟨rfl, rfl⟩))
    refine HC.out.mono ?_
    rintro e w2 ⟨v, rfl, hq, hb2⟩
    have hg2 : g < w2.heap.size := Nat.lt_of_lt_of_le hgl (by have := hb2.size; rw [set_size] at this; exact this)
    have c2 : w2.cell? ⟨g, 0, none⟩ = some (.int .i32 1) := (hb2.cell (p := ⟨g, 0, none⟩) hgl).trans (World.cell?_setCell_same w ⟨g, 0, none⟩ (.int .i32 1) h0)
    have f2 : w2.frozen? ⟨g, 0, none⟩ = false := (hb2.frozen (p := ⟨g, 0, none⟩) hgl).trans (by rw [World.frozen?_setCell]; exact f0)
    have hB := lock_restore h0 rfl (by rw [set_size]; exact hb2)
    clear h0 f0
    go_wp2_with fail
    refine leaves_cons (f := 79) (args := #[.pointer (some ⟨g, 0, none⟩)]) (by simp) (by simp [go_sem]) ?_
    refine (unlock_deferred muLib ⟨g, 0, none⟩ .returning _ c2 f2).mono ?_
    rintro e u' w'' ⟨rfl, rfl, rfl⟩
    exact ⟨_, results_tmp2 rfl _ _ _, v, w2, by rw [if_pos HE.out, HE.out] <;> rfl, hq, rfl, hb2, hB⟩
  · have hE' : (E != 0) = true := by simp [hE]
    have HE := Lib.hid hE; clear hE
    go_enter_defers Tryz.func70, Tryz.ntmps70
    go_wp2_with (first | (go_at_call 78; refine (lock_free muLib ⟨g, 0, none⟩ _ h0 f0).mono ?_; rintro e w' ⟨rfl, rfl⟩))
    refine HC.out.mono ?_
    rintro e w2 ⟨v, rfl, hq, hb2⟩
    have hg2 : g < w2.heap.size := Nat.lt_of_lt_of_le hgl (by have := hb2.size; rw [set_size] at this; exact this)
    have c2 : w2.cell? ⟨g, 0, none⟩ = some (.int .i32 1) := (hb2.cell (p := ⟨g, 0, none⟩) hgl).trans (World.cell?_setCell_same w ⟨g, 0, none⟩ (.int .i32 1) h0)
    have f2 : w2.frozen? ⟨g, 0, none⟩ = false := (hb2.frozen (p := ⟨g, 0, none⟩) hgl).trans (by rw [World.frozen?_setCell]; exact f0)
    have hB := lock_restore h0 rfl (by rw [set_size]; exact hb2)
    clear h0 f0
    go_wp2_with fail
    refine leaves_cons (f := 79) (args := #[.pointer (some ⟨g, 0, none⟩)]) (by simp) (by simp [go_sem]) ?_
    refine (unlock_deferred muLib ⟨g, 0, none⟩ .returning _ c2 f2).mono ?_
    rintro e u' w'' ⟨rfl, rfl, rfl⟩
    exact ⟨_, results_tmp2 rfl _ _ _, v, w2, by rw [if_neg HE.out] <;> rfl, hq, rfl, hb2, hB⟩
theorem lockedInt_nil {w : World} {K : Value} :
    Calls Tryz.prog 70 #[.pointer none, K] w fun e w' => e = .returned (.tuple #[.int .i64 0, .int .i64 1]) ∧ w' = w := by
  go_enter_defers Tryz.func70, Tryz.ntmps70
  go_wp2_with fail
  exact ⟨_, results_tmp2 rfl _ _ _, rfl, rfl⟩
set_option maxRecDepth 100000 in
set_option maxHeartbeats 800000 in
theorem lockedStr_any {N : Nat} {w : World} {F : Nat → Prop} {g : Nat} {h : Hd} {s : Of} (hP : PO 0 N w F g h s) {K : FuncId} {caps : Array Value} {E : Int} {Q : Value → World → Prop} (hK : ∀ args w, (callFunc K args).run Tryz.prog w = .ok (.enter K args) w)
    (hC : Calls Tryz.prog K caps (w.setCell ⟨g, 0, none⟩ (.int .i32 1)) fun e w' => ∃ v, e = .returned (.tuple #[v, .int .i64 E]) ∧ Q v w' ∧ Below w.heap.size (w.setCell ⟨g, 0, none⟩ (.int .i32 1)) w') :
    Calls Tryz.prog 72 #[.pointer (some ⟨g, 0, none⟩), .func (.func K) #[] caps] w (RetL E (St []) g w Q) := by
  have h0 := hP.cLk
  have f0 := hP.box.free 0
  have hgl := hP.gl
  have HC := Lib.hid hC
  clear hC
  by_cases hE : E = 0
  · have hE' : (E != 0) = false := by simp [hE]
    have HE := Lib.hid hE; clear hE
    go_enter_defers Tryz.func72, Tryz.ntmps72
    go_wp2_with (first | (go_at_call 78; refine (lock_free muLib ⟨g, 0, none⟩ _ h0 f0).mono ?_; rintro e w' ⟨rfl, rfl⟩))
    refine HC.out.mono ?_
    rintro e w2 ⟨v, rfl, hq, hb2⟩
    have hg2 : g < w2.heap.size := Nat.lt_of_lt_of_le hgl (by have := hb2.size; rw [set_size] at this; exact this)
    have c2 : w2.cell? ⟨g, 0, none⟩ = some (.int .i32 1) := (hb2.cell (p := ⟨g, 0, none⟩) hgl).trans (World.cell?_setCell_same w ⟨g, 0, none⟩ (.int .i32 1) h0)
    have f2 : w2.frozen? ⟨g, 0, none⟩ = false := (hb2.frozen (p := ⟨g, 0, none⟩) hgl).trans (by rw [World.frozen?_setCell]; exact f0)
    have hB := lock_restore h0 rfl (by rw [set_size]; exact hb2)
    clear h0 f0
    go_wp2_with fail
    refine leaves_cons (f := 79) (args := #[.pointer (some ⟨g, 0, none⟩)]) (by simp) (by simp [go_sem]) ?_
    refine (unlock_deferred muLib ⟨g, 0, none⟩ .returning _ c2 f2).mono ?_
    rintro e u' w'' ⟨rfl, rfl, rfl⟩
    exact ⟨_, results_tmp2 rfl _ _ _, v, w2, by rw [if_pos HE.out, HE.out] <;> rfl, hq, rfl, hb2, hB⟩
  · have hE' : (E != 0) = true := by simp [hE]
    have HE := Lib.hid hE; clear hE
    go_enter_defers Tryz.func72, Tryz.ntmps72
    go_wp2_with (first | (go_at_call 78; refine (lock_free muLib ⟨g, 0, none⟩ _ h0 f0).mono ?_; rintro e w' ⟨rfl, rfl⟩))
    refine HC.out.mono ?_
    rintro e w2 ⟨v, rfl, hq, hb2⟩
    have hg2 : g < w2.heap.size := Nat.lt_of_lt_of_le hgl (by have := hb2.size; rw [set_size] at this; exact this)
    have c2 : w2.cell? ⟨g, 0, none⟩ = some (.int .i32 1) := (hb2.cell (p := ⟨g, 0, none⟩) hgl).trans (World.cell?_setCell_same w ⟨g, 0, none⟩ (.int .i32 1) h0)
    have f2 : w2.frozen? ⟨g, 0, none⟩ = false := (hb2.frozen (p := ⟨g, 0, none⟩) hgl).trans (by rw [World.frozen?_setCell]; exact f0)
    have hB := lock_restore h0 rfl (by rw [set_size]; exact hb2)
    clear h0 f0
    go_wp2_with fail
    refine leaves_cons (f := 79) (args := #[.pointer (some ⟨g, 0, none⟩)]) (by simp) (by simp [go_sem]) ?_
    refine (unlock_deferred muLib ⟨g, 0, none⟩ .returning _ c2 f2).mono ?_
    rintro e u' w'' ⟨rfl, rfl, rfl⟩
    exact ⟨_, results_tmp2 rfl _ _ _, v, w2, by rw [if_neg HE.out] <;> rfl, hq, rfl, hb2, hB⟩
theorem lockedStr_nil {w : World} {K : Value} :
    Calls Tryz.prog 72 #[.pointer none, K] w fun e w' => e = .returned (.tuple #[St [], .int .i64 1]) ∧ w' = w := by
  go_enter_defers Tryz.func72, Tryz.ntmps72
  go_wp2_with fail
  exact ⟨_, results_tmp2 rfl _ _ _, rfl, rfl⟩
set_option maxRecDepth 100000 in
set_option maxHeartbeats 800000 in
theorem lockedFa_any {N : Nat} {w : World} {F : Nat → Prop} {g : Nat} {h : Hd} {s : Of} (hP : PO 0 N w F g h s) {K : FuncId} {caps : Array Value} {E : Int} {Q : Value → World → Prop} (hK : ∀ args w, (callFunc K args).run Tryz.prog w = .ok (.enter K args) w)
    (hC : Calls Tryz.prog K caps (w.setCell ⟨g, 0, none⟩ (.int .i32 1)) fun e w' => ∃ v, e = .returned (.tuple #[v, .int .i64 E]) ∧ Q v w' ∧ Below w.heap.size (w.setCell ⟨g, 0, none⟩ (.int .i32 1)) w') :
    Calls Tryz.prog 75 #[.pointer (some ⟨g, 0, none⟩), .func (.func K) #[] caps] w (RetL E (.slice none 0 0) g w Q) := by
  have h0 := hP.cLk
  have f0 := hP.box.free 0
  have hgl := hP.gl
  have HC := Lib.hid hC
  clear hC
  by_cases hE : E = 0
  · have hE' : (E != 0) = false := by simp [hE]
    have HE := Lib.hid hE; clear hE
    go_enter_defers Tryz.func75, Tryz.ntmps75
    go_wp2_with (first | (go_at_call 78; refine (lock_free muLib ⟨g, 0, none⟩ _ h0 f0).mono ?_; rintro e w' ⟨rfl, rfl⟩))
    refine HC.out.mono ?_
    rintro e w2 ⟨v, rfl, hq, hb2⟩
    have hg2 : g < w2.heap.size := Nat.lt_of_lt_of_le hgl (by have := hb2.size; rw [set_size] at this; exact this)
    have c2 : w2.cell? ⟨g, 0, none⟩ = some (.int .i32 1) := (hb2.cell (p := ⟨g, 0, none⟩) hgl).trans (World.cell?_setCell_same w ⟨g, 0, none⟩ (.int .i32 1) h0)
    have f2 : w2.frozen? ⟨g, 0, none⟩ = false := (hb2.frozen (p := ⟨g, 0, none⟩) hgl).trans (by rw [World.frozen?_setCell]; exact f0)
    have hB := lock_restore h0 rfl (by rw [set_size]; exact hb2)
    clear h0 f0
    go_wp2_with fail
    refine leaves_cons (f := 79) (args := #[.pointer (some ⟨g, 0, none⟩)]) (by simp) (by simp [go_sem]) ?_
    refine (unlock_deferred muLib ⟨g, 0, none⟩ .returning _ c2 f2).mono ?_
    rintro e u' w'' ⟨rfl, rfl, rfl⟩
    exact ⟨_, results_tmp2 rfl _ _ _, v, w2, by rw [if_pos HE.out, HE.out] <;> rfl, hq, rfl, hb2, hB⟩
  · have hE' : (E != 0) = true := by simp [hE]
    have HE := Lib.hid hE; clear hE
    go_enter_defers Tryz.func75, Tryz.ntmps75
    go_wp2_with (first | (go_at_call 78; refine (lock_free muLib ⟨g, 0, none⟩ _ h0 f0).mono ?_; rintro e w' ⟨rfl, rfl⟩))
    refine HC.out.mono ?_
    rintro e w2 ⟨v, rfl, hq, hb2⟩
    have hg2 : g < w2.heap.size := Nat.lt_of_lt_of_le hgl (by have := hb2.size; rw [set_size] at this; exact this)
    have c2 : w2.cell? ⟨g, 0, none⟩ = some (.int .i32 1) := (hb2.cell (p := ⟨g, 0, none⟩) hgl).trans (World.cell?_setCell_same w ⟨g, 0, none⟩ (.int .i32 1) h0)
    have f2 : w2.frozen? ⟨g, 0, none⟩ = false := (hb2.frozen (p := ⟨g, 0, none⟩) hgl).trans (by rw [World.frozen?_setCell]; exact f0)
    have hB := lock_restore h0 rfl (by rw [set_size]; exact hb2)
    clear h0 f0
    go_wp2_with fail
    refine leaves_cons (f := 79) (args := #[.pointer (some ⟨g, 0, none⟩)]) (by simp) (by simp [go_sem]) ?_
    refine (unlock_deferred muLib ⟨g, 0, none⟩ .returning _ c2 f2).mono ?_
    rintro e u' w'' ⟨rfl, rfl, rfl⟩
    exact ⟨_, results_tmp2 rfl _ _ _, v, w2, by rw [if_neg HE.out] <;> rfl, hq, rfl, hb2, hB⟩
theorem lockedFa_nil {w : World} {K : Value} :
    Calls Tryz.prog 75 #[.pointer none, K] w fun e w' => e = .returned (.tuple #[.slice none 0 0, .int .i64 1]) ∧ w' = w := by
  go_enter_defers Tryz.func75, Tryz.ntmps75
  go_wp2_with fail
  exact ⟨_, results_tmp2 rfl _ _ _, rfl, rfl⟩
set_option maxRecDepth 100000 in
set_option maxHeartbeats 800000 in
theorem lockedKd_any {N : Nat} {w : World} {F : Nat → Prop} {g : Nat} {h : Hd} {s : Of} (hP : PO 0 N w F g h s) {K : FuncId} {caps : Array Value} {E : Int} {Q : Value → World → Prop} (hK : ∀ args w, (callFunc K args).run Tryz.prog w = .ok (.enter K args) w)
    (hC : Calls Tryz.prog K caps (w.setCell ⟨g, 0, none⟩ (.int .i32 1)) fun e w' => ∃ v, e = .returned (.tuple #[v, .int .i64 E]) ∧ Q v w' ∧ Below w.heap.size (w.setCell ⟨g, 0, none⟩ (.int .i32 1)) w') :
    Calls Tryz.prog 82 #[.pointer (some ⟨g, 0, none⟩), .func (.func K) #[] caps] w (RetL E (.slice none 0 0) g w Q) := by
  have h0 := hP.cLk
  have f0 := hP.box.free 0
  have hgl := hP.gl
  have HC := Lib.hid hC
  clear hC
  by_cases hE : E = 0
  · have hE' : (E != 0) = false := by simp [hE]
    have HE := Lib.hid hE; clear hE
    go_enter_defers Tryz.func82, Tryz.ntmps82
    go_wp2_with (first | (go_at_call 78; refine (lock_free muLib ⟨g, 0, none⟩ _ h0 f0).mono ?_; rintro e w' ⟨rfl, rfl⟩))
    refine HC.out.mono ?_
    rintro e w2 ⟨v, rfl, hq, hb2⟩
    have hg2 : g < w2.heap.size := Nat.lt_of_lt_of_le hgl (by have := hb2.size; rw [set_size] at this; exact this)
    have c2 : w2.cell? ⟨g, 0, none⟩ = some (.int .i32 1) := (hb2.cell (p := ⟨g, 0, none⟩) hgl).trans (World.cell?_setCell_same w ⟨g, 0, none⟩ (.int .i32 1) h0)
    have f2 : w2.frozen? ⟨g, 0, none⟩ = false := (hb2.frozen (p := ⟨g, 0, none⟩) hgl).trans (by rw [World.frozen?_setCell]; exact f0)
    have hB := lock_restore h0 rfl (by rw [set_size]; exact hb2)
    clear h0 f0
    go_wp2_with fail
    refine leaves_cons (f := 79) (args := #[.pointer (some ⟨g, 0, none⟩)]) (by simp) (by simp [go_sem]) ?_
    refine (unlock_deferred muLib ⟨g, 0, none⟩ .returning _ c2 f2).mono ?_
    rintro e u' w'' ⟨rfl, rfl, rfl⟩
    exact ⟨_, results_tmp2 rfl _ _ _, v, w2, by rw [if_pos HE.out, HE.out] <;> rfl, hq, rfl, hb2, hB⟩
  · have hE' : (E != 0) = true := by simp [hE]
    have HE := Lib.hid hE; clear hE
    go_enter_defers Tryz.func82, Tryz.ntmps82
    go_wp2_with (first | (go_at_call 78; refine (lock_free muLib ⟨g, 0, none⟩ _ h0 f0).mono ?_; rintro e w' ⟨rfl, rfl⟩))
    refine HC.out.mono ?_
    rintro e w2 ⟨v, rfl, hq, hb2⟩
    have hg2 : g < w2.heap.size := Nat.lt_of_lt_of_le hgl (by have := hb2.size; rw [set_size] at this; exact this)
    have c2 : w2.cell? ⟨g, 0, none⟩ = some (.int .i32 1) := (hb2.cell (p := ⟨g, 0, none⟩) hgl).trans (World.cell?_setCell_same w ⟨g, 0, none⟩ (.int .i32 1) h0)
    have f2 : w2.frozen? ⟨g, 0, none⟩ = false := (hb2.frozen (p := ⟨g, 0, none⟩) hgl).trans (by rw [World.frozen?_setCell]; exact f0)
    have hB := lock_restore h0 rfl (by rw [set_size]; exact hb2)
    clear h0 f0
    go_wp2_with fail
    refine leaves_cons (f := 79) (args := #[.pointer (some ⟨g, 0, none⟩)]) (by simp) (by simp [go_sem]) ?_
    refine (unlock_deferred muLib ⟨g, 0, none⟩ .returning _ c2 f2).mono ?_
    rintro e u' w'' ⟨rfl, rfl, rfl⟩
    exact ⟨_, results_tmp2 rfl _ _ _, v, w2, by rw [if_neg HE.out] <;> rfl, hq, rfl, hb2, hB⟩
theorem lockedKd_nil {w : World} {K : Value} :
    Calls Tryz.prog 82 #[.pointer none, K] w fun e w' => e = .returned (.tuple #[.slice none 0 0, .int .i64 1]) ∧ w' = w := by
  go_enter_defers Tryz.func82, Tryz.ntmps82
  go_wp2_with fail
  exact ⟨_, results_tmp2 rfl _ _ _, rfl, rfl⟩
set_option maxRecDepth 100000 in
set_option maxHeartbeats 800000 in
theorem lockedIs_any {N : Nat} {w : World} {F : Nat → Prop} {g : Nat} {h : Hd} {s : Of} (hP : PO 0 N w F g h s) {K : FuncId} {caps : Array Value} {E : Int} {Q : Value → World → Prop} (hK : ∀ args w, (callFunc K args).run Tryz.prog w = .ok (.enter K args) w)
    (hC : Calls Tryz.prog K caps (w.setCell ⟨g, 0, none⟩ (.int .i32 1)) fun e w' => ∃ v, e = .returned (.tuple #[v, .int .i64 E]) ∧ Q v w' ∧ Below w.heap.size (w.setCell ⟨g, 0, none⟩ (.int .i32 1)) w') :
    Calls Tryz.prog 102 #[.pointer (some ⟨g, 0, none⟩), .func (.func K) #[] caps] w (RetL E (.slice none 0 0) g w Q) := by
  have h0 := hP.cLk
  have f0 := hP.box.free 0
  have hgl := hP.gl
  have HC := Lib.hid hC
  clear hC
  by_cases hE : E = 0
  · have hE' : (E != 0) = false := by simp [hE]
    have HE := Lib.hid hE; clear hE
    go_enter_defers Tryz.func102, Tryz.ntmps102
    go_wp2_with (first | (go_at_call 78; refine (lock_free muLib ⟨g, 0, none⟩ _ h0 f0).mono ?_; rintro e w' ⟨rfl, rfl⟩))
    refine HC.out.mono ?_
    rintro e w2 ⟨v, rfl, hq, hb2⟩
    have hg2 : g < w2.heap.size := Nat.lt_of_lt_of_le hgl (by have := hb2.size; rw [set_size] at this; exact this)
    have c2 : w2.cell? ⟨g, 0, none⟩ = some (.int .i32 1) := (hb2.cell (p := ⟨g, 0, none⟩) hgl).trans (World.cell?_setCell_same w ⟨g, 0, none⟩ (.int .i32 1) h0)
    have f2 : w2.frozen? ⟨g, 0, none⟩ = false := (hb2.frozen (p := ⟨g, 0, none⟩) hgl).trans (by rw [World.frozen?_setCell]; exact f0)
    have hB := lock_restore h0 rfl (by rw [set_size]; exact hb2)
    clear h0 f0
    go_wp2_with fail
    refine leaves_cons (f := 79) (args := #[.pointer (some ⟨g, 0, none⟩)]) (by simp) (by simp [go_sem]) ?_
    refine (unlock_deferred muLib ⟨g, 0, none⟩ .returning _ c2 f2).mono ?_
    rintro e u' w'' ⟨rfl, rfl, rfl⟩
    exact ⟨_, results_tmp2 rfl _ _ _, v, w2, by rw [if_pos HE.out, HE.out] <;> rfl, hq, rfl, hb2, hB⟩
  · have hE' : (E != 0) = true := by simp [hE]
    have HE := Lib.hid hE; clear hE
    go_enter_defers Tryz.func102, Tryz.ntmps102
    go_wp2_with (first | (go_at_call 78; refine (lock_free muLib ⟨g, 0, none⟩ _ h0 f0).mono ?_; rintro e w' ⟨rfl, rfl⟩))
    refine HC.out.mono ?_
    rintro e w2 ⟨v, rfl, hq, hb2⟩
    have hg2 : g < w2.heap.size := Nat.lt_of_lt_of_le hgl (by have := hb2.size; rw [set_size] at this; exact this)
    have c2 : w2.cell? ⟨g, 0, none⟩ = some (.int .i32 1) := (hb2.cell (p := ⟨g, 0, none⟩) hgl).trans (World.cell?_setCell_same w ⟨g, 0, none⟩ (.int .i32 1) h0)
    have f2 : w2.frozen? ⟨g, 0, none⟩ = false := (hb2.frozen (p := ⟨g, 0, none⟩) hgl).trans (by rw [World.frozen?_setCell]; exact f0)
    have hB := lock_restore h0 rfl (by rw [set_size]; exact hb2)
    clear h0 f0
    go_wp2_with fail
    refine leaves_cons (f := 79) (args := #[.pointer (some ⟨g, 0, none⟩)]) (by simp) (by simp [go_sem]) ?_
    refine (unlock_deferred muLib ⟨g, 0, none⟩ .returning _ c2 f2).mono ?_
    rintro e u' w'' ⟨rfl, rfl, rfl⟩
    exact ⟨_, results_tmp2 rfl _ _ _, v, w2, by rw [if_neg HE.out] <;> rfl, hq, rfl, hb2, hB⟩
theorem lockedIs_nil {w : World} {K : Value} :
    Calls Tryz.prog 102 #[.pointer none, K] w fun e w' => e = .returned (.tuple #[.slice none 0 0, .int .i64 1]) ∧ w' = w := by
  go_enter_defers Tryz.func102, Tryz.ntmps102
  go_wp2_with fail
  exact ⟨_, results_tmp2 rfl _ _ _, rfl, rfl⟩
set_option maxRecDepth 100000 in
set_option maxHeartbeats 800000 in
theorem lockedDs_any {N : Nat} {w : World} {F : Nat → Prop} {g : Nat} {h : Hd} {s : Of} (hP : PO 0 N w F g h s) {K : FuncId} {caps : Array Value} {E : Int} {Q : Value → World → Prop} (hK : ∀ args w, (callFunc K args).run Tryz.prog w = .ok (.enter K args) w)
    (hC : Calls Tryz.prog K caps (w.setCell ⟨g, 0, none⟩ (.int .i32 1)) fun e w' => ∃ v, e = .returned (.tuple #[v, .int .i64 E]) ∧ Q v w' ∧ Below w.heap.size (w.setCell ⟨g, 0, none⟩ (.int .i32 1)) w') :
    Calls Tryz.prog 117 #[.pointer (some ⟨g, 0, none⟩), .func (.func K) #[] caps] w (RetL E (.slice none 0 0) g w Q) := by
  have h0 := hP.cLk
  have f0 := hP.box.free 0
  have hgl := hP.gl
  have HC := Lib.hid hC
  clear hC
  by_cases hE : E = 0
  · have hE' : (E != 0) = false := by simp [hE]
    have HE := Lib.hid hE; clear hE
    go_enter_defers Tryz.func117, Tryz.ntmps117
    go_wp2_with (first | (go_at_call 78; refine (lock_free muLib ⟨g, 0, none⟩ _ h0 f0).mono ?_; rintro e w' ⟨rfl, rfl⟩))
    refine HC.out.mono ?_
    rintro e w2 ⟨v, rfl, hq, hb2⟩
    have hg2 : g < w2.heap.size := Nat.lt_of_lt_of_le hgl (by have := hb2.size; rw [set_size] at this; exact this)
    have c2 : w2.cell? ⟨g, 0, none⟩ = some (.int .i32 1) := (hb2.cell (p := ⟨g, 0, none⟩) hgl).trans (World.cell?_setCell_same w ⟨g, 0, none⟩ (.int .i32 1) h0)
    have f2 : w2.frozen? ⟨g, 0, none⟩ = false := (hb2.frozen (p := ⟨g, 0, none⟩) hgl).trans (by rw [World.frozen?_setCell]; exact f0)
    have hB := lock_restore h0 rfl (by rw [set_size]; exact hb2)
    clear h0 f0
    go_wp2_with fail
    refine leaves_cons (f := 79) (args := #[.pointer (some ⟨g, 0, none⟩)]) (by simp) (by simp [go_sem]) ?_
    refine (unlock_deferred muLib ⟨g, 0, none⟩ .returning _ c2 f2).mono ?_
    rintro e u' w'' ⟨rfl, rfl, rfl⟩
    exact ⟨_, results_tmp2 rfl _ _ _, v, w2, by rw [if_pos HE.out, HE.out] <;> rfl, hq, rfl, hb2, hB⟩
  · have hE' : (E != 0) = true := by simp [hE]
    have HE := Lib.hid hE; clear hE
    go_enter_defers Tryz.func117, Tryz.ntmps117
    go_wp2_with (first | (go_at_call 78; refine (lock_free muLib ⟨g, 0, none⟩ _ h0 f0).mono ?_; rintro e w' ⟨rfl, rfl⟩))
    refine HC.out.mono ?_
    rintro e w2 ⟨v, rfl, hq, hb2⟩
    have hg2 : g < w2.heap.size := Nat.lt_of_lt_of_le hgl (by have := hb2.size; rw [set_size] at this; exact this)
    have c2 : w2.cell? ⟨g, 0, none⟩ = some (.int .i32 1) := (hb2.cell (p := ⟨g, 0, none⟩) hgl).trans (World.cell?_setCell_same w ⟨g, 0, none⟩ (.int .i32 1) h0)
    have f2 : w2.frozen? ⟨g, 0, none⟩ = false := (hb2.frozen (p := ⟨g, 0, none⟩) hgl).trans (by rw [World.frozen?_setCell]; exact f0)
    have hB := lock_restore h0 rfl (by rw [set_size]; exact hb2)
    clear h0 f0
    go_wp2_with fail
    refine leaves_cons (f := 79) (args := #[.pointer (some ⟨g, 0, none⟩)]) (by simp) (by simp [go_sem]) ?_
    refine (unlock_deferred muLib ⟨g, 0, none⟩ .returning _ c2 f2).mono ?_
    rintro e u' w'' ⟨rfl, rfl, rfl⟩
    exact ⟨_, results_tmp2 rfl _ _ _, v, w2, by rw [if_neg HE.out] <;> rfl, hq, rfl, hb2, hB⟩
theorem lockedDs_nil {w : World} {K : Value} :
    Calls Tryz.prog 117 #[.pointer none, K] w fun e w' => e = .returned (.tuple #[.slice none 0 0, .int .i64 1]) ∧ w' = w := by
  go_enter_defers Tryz.func117, Tryz.ntmps117
  go_wp2_with fail
  exact ⟨_, results_tmp2 rfl _ _ _, rfl, rfl⟩
set_option maxRecDepth 100000 in
set_option maxHeartbeats 800000 in
theorem lockedBo_any {N : Nat} {w : World} {F : Nat → Prop} {g : Nat} {h : Hd} {s : Of} (hP : PO 0 N w F g h s) {K : FuncId} {caps : Array Value} {E : Int} {Q : Value → World → Prop} (hK : ∀ args w, (callFunc K args).run Tryz.prog w = .ok (.enter K args) w)
    (hC : Calls Tryz.prog K caps (w.setCell ⟨g, 0, none⟩ (.int .i32 1)) fun e w' => ∃ v, e = .returned (.tuple #[v, .int .i64 E]) ∧ Q v w' ∧ Below w.heap.size (w.setCell ⟨g, 0, none⟩ (.int .i32 1)) w') :
    Calls Tryz.prog 143 #[.pointer (some ⟨g, 0, none⟩), .func (.func K) #[] caps] w (RetL E (.bool false) g w Q) := by
  have h0 := hP.cLk
  have f0 := hP.box.free 0
  have hgl := hP.gl
  have HC := Lib.hid hC
  clear hC
  by_cases hE : E = 0
  · have hE' : (E != 0) = false := by simp [hE]
    have HE := Lib.hid hE; clear hE
    go_enter_defers Tryz.func143, Tryz.ntmps143
    go_wp2_with (first | (go_at_call 78; refine (lock_free muLib ⟨g, 0, none⟩ _ h0 f0).mono ?_; rintro e w' ⟨rfl, rfl⟩))
    refine HC.out.mono ?_
    rintro e w2 ⟨v, rfl, hq, hb2⟩
    have hg2 : g < w2.heap.size := Nat.lt_of_lt_of_le hgl (by have := hb2.size; rw [set_size] at this; exact this)
    have c2 : w2.cell? ⟨g, 0, none⟩ = some (.int .i32 1) := (hb2.cell (p := ⟨g, 0, none⟩) hgl).trans (World.cell?_setCell_same w ⟨g, 0, none⟩ (.int .i32 1) h0)
    have f2 : w2.frozen? ⟨g, 0, none⟩ = false := (hb2.frozen (p := ⟨g, 0, none⟩) hgl).trans (by rw [World.frozen?_setCell]; exact f0)
    have hB := lock_restore h0 rfl (by rw [set_size]; exact hb2)
    clear h0 f0
    go_wp2_with fail
    refine leaves_cons (f := 79) (args := #[.pointer (some ⟨g, 0, none⟩)]) (by simp) (by simp [go_sem]) ?_
    refine (unlock_deferred muLib ⟨g, 0, none⟩ .returning _ c2 f2).mono ?_
    rintro e u' w'' ⟨rfl, rfl, rfl⟩
    exact ⟨_, results_tmp2 rfl _ _ _, v, w2, by rw [if_pos HE.out, HE.out] <;> rfl, hq, rfl, hb2, hB⟩
  · have hE' : (E != 0) = true := by simp [hE]
    have HE := Lib.hid hE; clear hE
    go_enter_defers Tryz.func143, Tryz.ntmps143
    go_wp2_with (first | (go_at_call 78; refine (lock_free muLib ⟨g, 0, none⟩ _ h0 f0).mono ?_; rintro e w' ⟨rfl, rfl⟩))
    refine HC.out.mono ?_
    rintro e w2 ⟨v, rfl, hq, hb2⟩
    have hg2 : g < w2.heap.size := Nat.lt_of_lt_of_le hgl (by have := hb2.size; rw [set_size] at this; exact this)
    have c2 : w2.cell? ⟨g, 0, none⟩ = some (.int .i32 1) := (hb2.cell (p := ⟨g, 0, none⟩) hgl).trans (World.cell?_setCell_same w ⟨g, 0, none⟩ (.int .i32 1) h0)
    have f2 : w2.frozen? ⟨g, 0, none⟩ = false := (hb2.frozen (p := ⟨g, 0, none⟩) hgl).trans (by rw [World.frozen?_setCell]; exact f0)
    have hB := lock_restore h0 rfl (by rw [set_size]; exact hb2)
    clear h0 f0
    go_wp2_with fail
    refine leaves_cons (f := 79) (args := #[.pointer (some ⟨g, 0, none⟩)]) (by simp) (by simp [go_sem]) ?_
    refine (unlock_deferred muLib ⟨g, 0, none⟩ .returning _ c2 f2).mono ?_
    rintro e u' w'' ⟨rfl, rfl, rfl⟩
    exact ⟨_, results_tmp2 rfl _ _ _, v, w2, by rw [if_neg HE.out] <;> rfl, hq, rfl, hb2, hB⟩
theorem lockedBo_nil {w : World} {K : Value} :
    Calls Tryz.prog 143 #[.pointer none, K] w fun e w' => e = .returned (.tuple #[.bool false, .int .i64 1]) ∧ w' = w := by
  go_enter_defers Tryz.func143, Tryz.ntmps143
  go_wp2_with fail
  exact ⟨_, results_tmp2 rfl _ _ _, rfl, rfl⟩
end Go.Proofs.YtiapkffihpgdcaaGreatDoor
/-
  Walks: an order is done (the program's office).
-/
namespace Go.Proofs.YtiapkffihpgdcaaGreatDoor
set_option linter.unusedVariables false
set_option linter.unusedSimpArgs false
open Go.RowKit Go.MuLone

/-- What the program's library asks of the world. -/
structure EnvA (w : World) : Prop where
  z : EnvZ w
  err : w.cell? ⟨0, 0, none⟩ = some (.iface 278 (.agg #[.pointer (some ⟨7, 149, none⟩)]))
theorem EnvA.off {M : Nat → Prop} {w w' : World} (h : EnvA w) (ho : Off M w w') (hM : ∀ k, M k → 7 ≤ k) : EnvA w' := by
  have hs := h.z.size
  have hb : ∀ k, k < 7 → w'.heap[k]? = w.heap[k]? := fun k hk => ho.block k (by omega) (fun e => by have := hM k e; omega)
  exact ⟨h.z.of (hb 1 (by omega)) (hb 3 (by omega)) ho.size, (World.cell?_of_block (w := w) (a := ⟨0, 0, none⟩) (hb 0 (by omega))).trans h.err⟩
theorem EnvA.below {w w' : World} (h : EnvA w) (hb : Below w.heap.size w w') : EnvA w' := h.off (M := fun _ => False) (.of_below hb) (fun _ e => e.elim)
section
variable {N : Nat} {w : World} {F : Nat → Prop} {g : Nat} {h : Hd} {s : Of}
theorem PO.f7 {L : Int} (hP : PO L N w F g h s) : ∀ k, F k → 7 ≤ k := fun k hk => (hP.lo k hk).1
theorem do_nil (txt : Wd) (w : World) : Calls Tryz.prog 25 #[.pointer none, St txt] w fun e w' => e = .returned (.int .i64 1) ∧ w = w' := by
  go_enter_defers Tryz.func25, Tryz.ntmps25
  go_wp2_with fail
  exact ⟨_, results_tmp rfl _ _ _, rfl, rfl⟩
set_option maxRecDepth 100000 in
set_option maxHeartbeats 3200000 in
theorem Do_any (hP : PO 0 N w F g h s) (hE : EnvA w) (hN : N < 1000000000) (txt : Wd) (ht : txt.length ≤ 1000000000) :
    Calls Tryz.prog 25 #[.pointer (some ⟨g, 0, none⟩), St txt] w (RetO 0 (N + 1) w F g (doE s txt) (doS s txt)) := by
  have h0 := hP.cLk
  have f0 := hP.box.free 0
  have hg7 := (hP.lo g hP.gF).1
  obtain ⟨w1, hw1⟩ : ∃ w1, w1 = w.setCell ⟨g, 0, none⟩ (.int .i32 1) := ⟨_, rfl⟩
  have hP1 := hP.lock hw1
  have ho1 : Off F w w1 := by rw [hw1]; exact (Off.refl F w).setCell (.inl hP.gF) _
  have hE1 := hE.off ho1 hP.f7
  obtain ⟨w2, hw2⟩ : ∃ w2, w1.alloc (.cells #[.int .i64 0] 146) = w2 := ⟨_, rfl⟩
  have hb2 : Below w1.heap.size w1 w2 := by rw [← hw2]; exact (Below.refl _ _).alloc (Nat.le_refl _) _
  have b2 : Box w2 w1.heap.size #[.int .i64 0] := by rw [← hw2]; exact Box.new _ _ _
  have hP2 := hP1.below hb2
  have hE2 := hE1.below hb2
  have hcon := do_any hP2 hE2.z hN txt ht
  obtain ⟨D, hD⟩ : ∃ D, D = doE s txt := ⟨_, rfl⟩
  obtain ⟨T, hT⟩ : ∃ T, T = doS s txt := ⟨_, rfl⟩
  rw [← hD, ← hT] at hcon ⊢
  clear hD hT
  have HC := Lib.hid hcon
  clear hcon
  go_enter_defers Tryz.func25, Tryz.ntmps25
  go_wp2_with (first | (go_at_call 78; refine (lock_free muLib ⟨g, 0, none⟩ _ h0 f0).mono ?_; rintro e w' ⟨rfl, hw⟩; rw [← hw1] at hw; subst hw))
  have hww : ((w.setCell ⟨g, 0, none⟩ (.int .i32 1)).alloc (.cells #[.int .i64 0] 146)) = w2 := by rw [← hw2, hw1]
  rw [hww]
  have hsz1 : w'.heap.size = w.heap.size := by rw [hw1, set_size]
  rw [hsz1] at b2
  have ho2 : Off F w w2 := ho1.trans (F' := F) (.of_below hb2) (fun k hk => .inl hk)
  have hlo := hP.lo
  have hgF := hP.gF
  clear hww hw2 hw1 hP1 hE1 h0 f0 hsz1
  refine HC.out.mono ?_
  rintro e w3 hr
  have he3 := hr.1
  subst he3
  obtain ⟨-, ho3, h4, hP3⟩ := hr
  have b3 := b2.off ho3 (fun hk => by have := (hlo _ hk).2; omega)
  have hE3 := hE2.off ho3 hP.f7
  have hs2 : w.heap.size < w2.heap.size := b2.lt
  have ho23 : Off F w w3 := ho2.trans ho3 (fun k hk => .inl hk)
  have hs3 := ho3.size
  have c3 := hP3.cLk
  have f3 := hP3.box.free 0
  have hgl3 := hP3.gl
  by_cases hz : D = 0
  · subst hz
    have hz0 : erV 0 = .nilIface := rfl
    rw [hz0]
    go_wp2_with (go_at_call 80; (with_reducible refine (as_nil _ _).mono ?_); rintro e w4 ⟨rfl, hw4⟩; subst hw4)
    refine leaves_cons (f := 79) (args := #[.pointer (some ⟨g, 0, none⟩)]) (by simp) (by simp [go_sem]) ?_
    refine (unlock_deferred muLib ⟨g, 0, none⟩ .returning _ c3 f3).mono ?_
    rintro e u' w'' ⟨rfl, rfl, rfl⟩
    have hP5 := hP3.unlock
    refine ⟨_, results_tmp rfl _ _ _, rfl, ho23.setCell (.inl hgF) _, h4, hP5.wide (fun k hk => ?_) (grown_lo hP (by rw [set_size]; omega))⟩
    rcases hk with hk | hk
    · exact .inl hk
    · exact .inr ⟨by omega, by rw [set_size]; exact hk.2⟩
  · have hz' := hz
    have HZ := Lib.hid hz
    rw [erV_no hz]
    have x3 := b3.cell 0
    have y3 := b3.free 0
    simp only [List.getElem?_toArray, List.getElem?_cons_zero, List.getElem?_cons_succ] at x3
    have hass := as_hit D ⟨w.heap.size, 0, none⟩ (.int .i64 0) w3 hE3.err x3 y3
    obtain ⟨wa, hwa⟩ : ∃ wa, wa = ((((w3.alloc (.cells #[.pointer (some ⟨w.heap.size, 0, none⟩)] 151)).alloc (.cells #[.pointer (some ⟨7, 151, none⟩), .pointer (some ⟨w3.heap.size, 0, none⟩), .int .u64 150] 229)).alloc (.cells #[.pointer (some ⟨7, 151, none⟩), .pointer (some ⟨w3.heap.size, 0, none⟩), .int .u64 150] 229)).alloc (.cells #[.int .i64 D] 146)) := ⟨_, rfl⟩
    rw [← hwa] at hass
    have hba : Below w3.heap.size w3 wa := by rw [hwa]; exact ((((Below.refl _ _).alloc (Nat.le_refl _) _).alloc (by simp) _).alloc (by simp; omega) _).alloc (by simp; omega) _
    have ba := b3.below hba
    have hPa := hP3.below hba
    obtain ⟨wb, hwb⟩ : ∃ wb, wb = wa.setCell ⟨w.heap.size, 0, none⟩ (.int .i64 D) := ⟨_, rfl⟩
    rw [← hwb] at hass
    have bb : Box wb w.heap.size #[.int .i64 D] := by rw [hwb]; exact ba.set 0 (.int .i64 D) (by simp)
    have hob : Off (fun k => k = w.heap.size) wa wb := by rw [hwb]; exact (Off.refl (fun k => k = w.heap.size) wa).setCell (p := ⟨w.heap.size, 0, none⟩) (.inl rfl) _
    have hPb := hPa.off hob (fun k hk e => by
      subst e
      rcases hk with hk | hk
      · have := (hlo _ hk).2; omega
      · omega)
    have hoa : Off F w wa := ho23.then_below (hba.mono (Nat.le_refl _))
    have hobb : Off F w wb := hoa.trans hob (fun k hk => .inr (by omega))
    have x5 := bb.cell 0
    simp only [List.getElem?_toArray, List.getElem?_cons_zero, List.getElem?_cons_succ] at x5
    have c5 := hPb.cLk
    have f5 := hPb.box.free 0
    have HA := Lib.hid hass
    clear hass hwa hwb hz hz' x3 y3 c3 f3 b3 ba bb b2
    go_wp2_with (go_at_call 80; (with_reducible refine HA.out.mono ?_); rintro e w4 ⟨rfl, hw4⟩; subst hw4)
    refine leaves_cons (f := 79) (args := #[.pointer (some ⟨g, 0, none⟩)]) (by simp) (by simp [go_sem]) ?_
    refine (unlock_deferred muLib ⟨g, 0, none⟩ .returning _ c5 f5).mono ?_
    rintro e u' w'' ⟨rfl, rfl, rfl⟩
    have hP5 := hPb.unlock
    have hsb := hob.size
    have hsa := hba.size
    refine ⟨_, results_tmp rfl _ _ _, rfl, hobb.setCell (.inl hgF) _, h4, hP5.wide (fun k hk => ?_) (grown_lo hP (by rw [set_size]; omega))⟩
    rcases hk with hk | hk
    · exact .inl hk
    · exact .inr ⟨by omega, by rw [set_size]; omega⟩
end
end Go.Proofs.YtiapkffihpgdcaaGreatDoor
