/-
  Walks: the first day on which two menus meet.
-/
import Derived.Test.YtlnmmkgeahlohaaDoorJ
import Derived.Deep.RegionHeld3
namespace Go.Proofs.YtlnmmkgeahlohaaDoor
set_option linter.unusedVariables false
set_option linter.unusedSimpArgs false
open Go.RowKit

/-! ### plain -/
def firstTo (p : Nat → Bool) : Nat → Option Nat
  | 0 => none
  | k + 1 => match firstTo p k with
    | some d => some d
    | none => if p k then some k else none
theorem firstTo_none (p : Nat → Bool) : ∀ k, (∀ i, i < k → p i = false) → firstTo p k = none
  | 0, _ => rfl
  | k + 1, h => by simp only [firstTo]; rw [firstTo_none p k fun i hi => h i (by omega)]; simp [h k (by omega)]
theorem firstTo_some (p : Nat → Bool) (d : Nat) (hd : p d = true) (hm : ∀ i, i < d → p i = false) : ∀ k, d < k → firstTo p k = some d
  | 0, h => by omega
  | k + 1, h => by
    simp only [firstTo]
    by_cases e : d = k
    · subst e; rw [firstTo_none p d hm]; simp [hd]
    · rw [firstTo_some p d hd hm k (by omega)]
theorem firstTo_spec (p : Nat → Bool) : ∀ k, (firstTo p k = none ∧ ∀ i, i < k → p i = false) ∨ ∃ d, firstTo p k = some d ∧ d < k ∧ p d = true ∧ ∀ i, i < d → p i = false
  | 0 => .inl ⟨rfl, fun i hi => by omega⟩
  | k + 1 => by
    rcases firstTo_spec p k with ⟨h1, h2⟩ | ⟨d, h1, h2, h3, h4⟩
    · cases hp : p k with
      | true => exact .inr ⟨k, by simp [firstTo, h1, hp], by omega, hp, h2⟩
      | false =>
        refine .inl ⟨by simp [firstTo, h1, hp], fun i hi => ?_⟩
        by_cases e : i = k
        · subst e; exact hp
        · exact h2 i (by omega)
    · exact .inr ⟨d, by simp [firstTo, h1], by omega, h3, h4⟩
def meetB (t : Tm) (a b : Cy) (x y : Int) (d : Nat) : Bool := (mnAt t a d == x) && (mnAt t b d == y)
def togE (t : Tm) (a b : Cy) (x y : Int) : Int := if bE t a ≠ 0 then bE t a else if cE b ≠ 0 then cE b else if inB x 0 (a.n - 1) && inB y 0 (b.n - 1) then 0 else 1
def togO (t : Tm) (a b : Cy) (x y : Int) : Option Nat := if togE t a b x y = 0 then firstTo (meetB t a b x y) t.len.toNat else none
def togR (t : Tm) (a b : Cy) (x y : Int) : Int := match togO t a b x y with | some d => d | none => 0
def togB (t : Tm) (a b : Cy) (x y : Int) : Bool := (togO t a b x y).isSome
theorem tog_no {t : Tm} {a b : Cy} {x y : Int} (h : ¬ togE t a b x y = 0) : togR t a b x y = 0 ∧ togB t a b x y = false := by unfold togR togB togO; rw [if_neg h]; exact ⟨rfl, rfl⟩
theorem tog_none {t : Tm} {a b : Cy} {x y : Int} (h : firstTo (meetB t a b x y) t.len.toNat = none) : togR t a b x y = 0 ∧ togB t a b x y = false := by
  unfold togR togB togO; rw [h]; split <;> simp_all
theorem tog_some {t : Tm} {a b : Cy} {x y : Int} {d : Nat} (hE : togE t a b x y = 0) (h : firstTo (meetB t a b x y) t.len.toNat = some d) : togR t a b x y = d ∧ togB t a b x y = true := by
  unfold togR togB togO; rw [if_pos hE, h]; exact ⟨rfl, rfl⟩

/-! ### memory -/
theorem three_blk {w wr : World} {cs1 cs2 cs3 : Array Value} {t1 t2 t3 : TypeId} {n : Nat} (hb : Below n (((w.alloc (.cells cs1 t1)).alloc (.cells cs2 t2)).alloc (.cells cs3 t3)) wr) (hn : w.heap.size + 2 < n) :
    (∀ j, wr.cell? ⟨w.heap.size, j, none⟩ = cs1[j]?) ∧ (∀ j, wr.cell? ⟨w.heap.size + 1, j, none⟩ = cs2[j]?) ∧ (∀ j, wr.cell? ⟨w.heap.size + 2, j, none⟩ = cs3[j]?) ∧ w.heap.size + 2 < wr.heap.size ∧ Below w.heap.size w wr := by
  refine ⟨fun j => ?_, fun j => ?_, fun j => ?_, by have := hb.size; simp at this; omega, ((((Below.refl _ _).alloc (Nat.le_refl _) _).alloc (by simp) _).alloc (by simp; omega) _).trans (hb.mono (by omega))⟩
  · rw [hb.cell (p := ⟨w.heap.size, j, none⟩) (by show w.heap.size < n; omega), World.cell?_alloc_lt _ _ _ (by simp; omega), World.cell?_alloc_lt _ _ _ (by simp)]; simp [World.cell?_alloc_at]
  · rw [hb.cell (p := ⟨w.heap.size + 1, j, none⟩) (by show w.heap.size + 1 < n; omega), World.cell?_alloc_lt _ _ _ (by simp), World.cell?_alloc_at _ _ _ _ (by simp)]
  · rw [hb.cell (p := ⟨w.heap.size + 2, j, none⟩) hn, World.cell?_alloc_at _ _ _ _ (by simp)]
theorem three_step {w w1 w2 : World} {cs cs' cs'' : Array Value} {t t' t'' : TypeId} (hx : Below (w.heap.size + 3) (((w.alloc (.cells cs t)).alloc (.cells cs' t')).alloc (.cells cs'' t'')) w1) (hb : Below w1.heap.size w1 w2) : Below (w.heap.size + 3) (((w.alloc (.cells cs t)).alloc (.cells cs' t')).alloc (.cells cs'' t'')) w2 :=
  hx.trans (hb.mono (by have := hx.size; simp at this; omega))

theorem menusR_any (t : Tm) (c : Cy) (A1 A2 : Option Addr) (c1 c2 : Nat) (w : World) (h1 : RN w A1 t.rest) (h2 : RN w A2 t.clo) (hok : TmOk t) (hcy : CyOk c) :
    Calls Tryd.prog 27 #[.agg #[.int .i64 t.len, .slice A1 t.rest.length c1, .slice A2 t.clo.length c2], .agg #[.int .i64 c.n, .int .i64 c.f, .int .i64 c.k]] w fun e w' => ∃ A c', e = .returned (.slice A (mnL t c).length c') ∧ RN w' A (mnL t c) ∧ Below w.heap.size w w' :=
  (menus_any t c A1 A2 c1 c2 w h1 h2 hok hcy).mono fun e w' ⟨g, n, he, own, hb⟩ => ⟨some ⟨g, 0, none⟩, n, by rw [own.1]; exact he, RN.of_own own.own, hb⟩
end Go.Proofs.YtlnmmkgeahlohaaDoor
