/-
  Walks: how often each menu is served, how many are lost.
-/
import Derived.Test.YtlnmmkgeahlohaaDoorO
namespace Go.Proofs.YtlnmmkgeahlohaaDoor
set_option linter.unusedVariables false
set_option linter.unusedSimpArgs false
open Go.RowKit

theorem menusB_any (t : Tm) (c : Cy) (A1 A2 : Option Addr) (c1 c2 : Nat) (w : World) (h1 : RN w A1 t.rest) (h2 : RN w A2 t.clo) (hok : TmOk t) (hcy : CyOk c) :
    Calls Tryd.prog 27 #[.agg #[.int .i64 t.len, .slice A1 t.rest.length c1, .slice A2 t.clo.length c2], .agg #[.int .i64 c.n, .int .i64 c.f, .int .i64 c.k]] w fun e w' => ∃ A c', e = .returned (.slice A (mnL t c).length c') ∧ RN w' A (mnL t c) ∧ (∀ ad, A = some ad → w.heap.size ≤ ad.block) ∧ Below w.heap.size w w' :=
  (menus_any t c A1 A2 c1 c2 w h1 h2 hok hcy).mono fun e w' ⟨g, n, he, own, hb⟩ => ⟨some ⟨g, 0, none⟩, n, by rw [own.1]; exact he, RN.of_own own.own, (fun ad e => by injection e with e; subst e; exact own.lt.1), hb⟩
theorem RN.far {w : World} {A : Option Addr} {l : List Int} (h : RN w A l) {p : Addr} (hp : ∀ ad, A = some ad → ad.block ≠ p.block) (v : Value) : RN (w.setCell p v) A l := by
  refine ⟨h.1, fun hn => ?_⟩
  obtain ⟨ad, e, hb, hc⟩ := h.2 hn
  refine ⟨ad, e, by simpa [World.setCell] using hb, fun j u hu => ?_⟩
  rw [World.cell?_setCell_other _ _ _ _ (fun e2 => hp ad e (by rw [← block_of_add ad j, ← e2]))]
  exact hc j u hu

end Go.Proofs.YtlnmmkgeahlohaaDoor
