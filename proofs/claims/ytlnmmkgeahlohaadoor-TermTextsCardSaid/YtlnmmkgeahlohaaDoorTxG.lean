/-
  Walks: the program's text of a term.
-/
import Derived.Test.YtlnmmkgeahlohaaDoorTxF
import Derived.Test.YtlnmmkgeahlohaaDoorTxS
namespace Go.Proofs.YtlnmmkgeahlohaaDoor
set_option linter.unusedVariables false
set_option linter.unusedSimpArgs false
open Go.RowKit

theorem below_grow' (B : Nat) (w : World) (q : Nat) (os : Array Obj) (hB : B ≤ w.heap.size) : Below B w (Go.Sort.grow (w.drewN q) os) :=
  ⟨rfl, rfl, rfl, by first | (simp [Go.Sort.grow]; done) | (simp [Go.Sort.grow]; omega), fun i hi => by
    show ((w.drewN q).heap ++ os)[i]? = _
    rw [Array.getElem?_append_left (by show i < w.heap.size; omega)]
    rfl⟩
theorem var_below {w w' : World} {n : String} {cs : Array Value} (h : w.var? Tryd.prog n = some cs) (hb : Below w.heap.size w w') : w'.var? Tryd.prog n = some cs := by
  unfold World.var? at h ⊢
  cases hg : Tryd.prog.globalNamed n with
  | none => rw [hg] at h; cases h
  | some g =>
    rw [hg] at h
    simp only [Option.bind_some] at h ⊢
    have hlt : g < w.heap.size := by
      rcases Nat.lt_or_ge g w.heap.size with h' | h'
      · exact h'
      · rw [Array.getElem?_eq_none h'] at h; cases h
    rw [hb.block g hlt]
    exact h
/-- What the program's texts ask of the world. -/
structure Env (w : World) : Prop where
  tab : Lib.TabIs Tryd.prog w "internal/strconv.uint64pow10" .u64 Lib.pow10Tab
  ml : ∃ m : Int, w.cell? ⟨3, 0, none⟩ = some (.int .i64 m)
  es : ∃ tp p, w.var? Tryd.prog "strconv.ErrSyntax" = some #[.iface tp p]
  er : ∃ tp p, w.var? Tryd.prog "strconv.ErrRange" = some #[.iface tp p]
theorem Env.below {w w' : World} (h : Env w) (hb : Below w.heap.size w w') : Env w' := by
  obtain ⟨h1, ⟨m, h2⟩, ⟨a, b, h3⟩, ⟨c, d, h4⟩⟩ := h
  exact ⟨var_below (show w.var? _ _ = _ from h1) hb, ⟨m, (hb.cell (World.block_lt_of_cell? w _ h2)).trans h2⟩, ⟨a, b, var_below h3 hb⟩, ⟨c, d, var_below h4 hb⟩⟩
theorem itoa_any (x : Int) (h0 : 0 ≤ x) (h1 : x ≤ 1000) (w : World) (hE : Env w) : Calls Tryd.prog 14 #[.int .i64 x] w fun e w' => e = .returned (St (dgI x)) ∧ Below w.heap.size w w' := by
  refine (Tryd.strconv_Itoa x (by omega) (by omega) w hE.tab).mono ?_
  rintro e w' ⟨rfl, k, os, rfl⟩
  refine ⟨?_, below_grow' _ _ _ _ (Nat.le_refl _)⟩
  rw [show Lib.itoa x = dgI x by unfold Lib.itoa dgI; rw [if_neg (by omega)]]
theorem join_any (ws : List Wd) (hn : ws ≠ []) (hl : ws.length ≤ 100000) (hj : (Lib.join ws [32]).length ≤ 100000) (A : Option Addr) (c B : Nat) (w : World) (own : OwnS w B A c ws) :
    Calls Tryd.prog 15 #[.slice A ws.length c, St [32]] w fun e w' => e = .returned (St (Lib.join ws [32])) ∧ Below w.heap.size w w' := by
  have hpos : 0 < ws.length := List.length_pos_iff.2 hn
  have hlt : ∀ k, (Value.slice A ws.length c).ownBlock = some k → k < w.heap.size := fun k hk => (own.lt k hk).2
  have hR : RS w A ws := RS.of_own own
  rcases own.2 with ⟨_, h2⟩ | ⟨g, cap, cur, h1, hb, hg, hcap, hm, hs, ht⟩
  · omega
  · injection h1 with e1 e2 e3
    subst e1; subst e3
    have hx : (ws.map fun x => (⟨x.toArray⟩ : ByteArray)).map (·.data.toList) = ws := by simp [List.map_map, Function.comp_def]
    have hgl := hlt g rfl
    have := Tryd.strings_Join g 0 c (ws.map fun x => ⟨x.toArray⟩) ⟨[32].toArray⟩ w (fun j x hj' => by
      obtain ⟨hj1, rfl⟩ := List.getElem?_eq_some_iff.1 hj'
      simp only [List.length_map] at hj1
      obtain ⟨ad, e, _, e0⟩ := hR.at_ hj1
      cases e
      simp only [List.getElem_map]
      rw [← e0]
      congr 1
      unfold Addr.add
      split <;> simp_all) hgl (by simp; omega) (by simpa using hcap) (by rw [hx]; show (Lib.join ws [32]).length ≤ _; omega)
    rw [List.length_map, hx] at this
    exact this
end Go.Proofs.YtlnmmkgeahlohaaDoor
