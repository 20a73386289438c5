import Derived.Test.YtiapkffihpgdcaaGreatDoorPk27
import Derived.Test.YtiapkffihpgdcaaGreatDoorPkRow
import Derived.Lib.LaidTab
import Derived.Lib.LaidU8
import Derived.LaidHandle
import Derived.Shelf.Vars
import Derived.Lay
/-
  What the rows over the office share: the world's shape handed on to the walk; what the program's library asks of the world, out of the listed variables and that shape; a world that meets the condition.
-/
namespace Go.Proofs.YtiapkffihpgdcaaGreatDoor
set_option linter.unusedVariables false
set_option linter.unusedSimpArgs false
open Go.ChangeShapes Go.WideShapes Go.ChangeAt Go.RowKit Go.Deep Go.Joins

theorem handed_shaped {H : Type} {enc : TypeId × Value → H} {a : Assume} {C : Checked} {os : Os} {f : FuncId} {fn : Func} {s : ChangeSpec} {conds : List PathCond} {apart fresh handsOn again : Bool} {X : World → Array Value → Prop}
    (hX : ∀ (w w' : World) (args : Array Value), w.heap = w'.heap → X w args → X w' args)
    (own : ownKnob C.prog.godebug = none) (started : os.Started) (noInit : C.prog.inits.idxOf? f = none) (hfn : C.prog.funcs[f]? = some fn)
    (start : ∃ (w : World) (tape : Tape) (i : Input), w.os = os ∧ (w.forCall tape i).Shaped C.prog ∧ i.vars = [] ∧ Input.okWide C.prog (w.forCall tape i) .any w.heap.size f i ∧
      ((s.pre enc C.prog fn conds apart (w.forCall tape i).memory i.args ∧ X (w.forCall tape i).memory i.args) ∧ sizedMet enc C.prog fn (OpenSpec.ofChange s) apart (w.forCall tape i).memory i.args) ∧ a.holds C.prog (lone (Frame.enter C.prog f i.args .normal) [] (w.forCall tape i)))
    (walk : ∀ (W : World) (base : Nat) (args : Array Value) (ds gs : List (DataW H)) (before : List MemPlace),
      (∀ (j : Nat) t v, fn.params[j]? = some t → args[j]? = some v → Value.okWide C.prog W .any base t v) → DataW.Whole enc C.prog fn.params.toList s.vars apart W args.toList ds gs before → W.ShapedOpen C.prog → X W args →
      Calls C.prog f args W fun e W' => ∃ v, e = .returned v ∧ s.post enc C.prog fn apart fresh handsOn again W args v W') :
    ReturnsInHanded a C os f .any (fun w args => (s.pre enc C.prog fn conds apart w args ∧ X w args) ∧ sizedMet enc C.prog fn (OpenSpec.ofChange s) apart w args) (s.post enc C.prog fn apart fresh handsOn again) := by
  refine returnsInHanded_of_calls own started noInit start ?_
  rintro w tape i - hsh - ⟨_, _, _, g, hg, _, _, _, _, hval⟩ ⟨⟨⟨ds, gs, before, hw, -⟩, hx⟩, -⟩ -
  obtain rfl : g = fn := Option.some.inj (hg.symm.trans hfn)
  refine (walk (w.forCall tape i) w.heap.size i.args ds gs before hval (DataW.Whole.of_heap (by rfl) hw) hsh (hX _ _ _ (by rfl) hx)).mono fun e W' hh => ?_
  obtain ⟨v, he, hp⟩ := hh
  subst he
  exact ChangeSpec.post_blind hp

theorem tab_of_reads {W : World} {name : String} {k : IntKind} {zs : List Int} {g : Nat} {t e : TypeId} {n : Nat} (hg : Tryz.prog.globalNamed name = some g) (hty : (Tryz.prog.globals[g]?).map (·.type) = some t)
    (ht : Tryz.prog.underlying t = some (.array n e)) (he : Tryz.prog.underlying e = some (.int k)) (hce : Tryz.prog.cellsOf e = 1) (hct : Tryz.prog.cellsOf t = n) (h : Lib.VarReads Tryz.prog W name (Lib.tabData k zs)) : Lib.TabIs Tryz.prog W name k zs := by
  obtain ⟨g', t', cs, fuel, p, hg', ht', hv, hd⟩ := h
  obtain rfl := Option.some.inj (hg.symm.trans hg')
  obtain rfl := Option.some.inj (hty.symm.trans ht')
  unfold Lib.TabIs
  rw [hv, ← Lib.cells_of_tab ht he hce hct hd]

/-- The listed variables that hold plain data. -/
noncomputable def plainL : List (String × DataW Unit) := [("math/bits.deBruijn32tab", Rows.laid_math_bits_deBruijn32tab), ("math/bits.deBruijn64tab", Rows.laid_math_bits_deBruijn64tab), ("unicode/utf8.acceptRanges", Rows.laid_unicode_utf8_acceptRanges), ("unicode/utf8.first", Rows.laid_unicode_utf8_first)]
theorem et_at : Tryz.prog.globalNamed "errors.errorType" = some 0 := by kernel_rfl
theorem rt_at : (Tryz.prog.cutTypes.find? (·.1 == "internal/reflectlite.rtype")).map (·.2) = some 278 := by kernel_rfl
theorem one_row : ((List.range Tryz.prog.types.size).filter fun t => Tryz.prog.rowNamed t [101, 114, 114, 111, 114]) = [149] := by kernel_rfl
theorem plain_met {W : World} {L Lp : List (String × DataW Unit)} (hL : (L.filter fun x => x.2.handleName?.isNone) = Lp) (hH : (L.filter fun x => x.2.handleName?.isSome) = [("errors.errorType", Rows.laid_errors_errorType)]) (h : laidMetH Tryz.prog L W) :
    laidMet Tryz.prog Lp W ∧ handlesMet Tryz.prog [("errors.errorType", Rows.laid_errors_errorType)] W := by
  unfold laidMetH at h
  rw [hH] at h
  rw [hL] at h
  exact h
theorem err_of {W : World} (h : handlesMet Tryz.prog [("errors.errorType", Rows.laid_errors_errorType)] W) : W.cell? ⟨0, 0, none⟩ = some (.iface 278 (.agg #[.pointer (some ⟨7, 149, none⟩)])) := by
  obtain ⟨name, u, ty, e1, e2, e3, e4, e5⟩ := h _ (List.mem_singleton.2 rfl)
  have en : name = [101, 114, 114, 111, 114] := (Option.some.inj e1).symm
  subst en
  obtain rfl := Option.some.inj (rt_at.symm.trans e2)
  have hm : ty ∈ (List.range Tryz.prog.types.size).filter fun t => Tryz.prog.rowNamed t [101, 114, 114, 111, 114] := List.mem_filter.2 ⟨List.mem_range.2 e3, e4⟩
  rw [one_row] at hm
  obtain rfl := List.mem_singleton.1 hm
  have hh : typeHandle Tryz.prog 149 = .pointer (some ⟨7, 149, none⟩) := by kernel_rfl
  rw [hh] at e5
  simpa using World.var?_cell et_at e5 0
theorem max_of_shaped9 {W : World} (h : W.ShapedOpen Tryz.prog) : ∃ m : Int, W.cell? ⟨1, 0, none⟩ = some (.int .i64 m) :=
  cell_of_shapedOpen_int h (g := 1) (t := 3) (zero := #[.int .i64 0]) (of_decide_eq_true (by kernel_rfl)) (by kernel_rfl) rfl (by kernel_rfl) (by kernel_rfl) Tryz.underlying3
theorem tab64_data : (Lib.tabData .u8 (Lib.deBruijn64tab.map Int.ofNat) : DataW Unit) = Rows.laid_math_bits_deBruijn64tab := by kernel_rfl
theorem size_of_reads {W : World} {d : DataW Unit} (h : Lib.VarReads Tryz.prog W "unicode/utf8.acceptRanges" d) : 7 ≤ W.heap.size := by
  obtain ⟨g', t', cs, fuel, p, hg', ht', hv, hd⟩ := h
  have hg : Tryz.prog.globalNamed "unicode/utf8.acceptRanges" = some 6 := by kernel_rfl
  unfold World.var? at hv
  rw [hg, Option.bind_some] at hv
  cases hw : W.heap[6]? with
  | none => rw [hw] at hv; cases hv
  | some o => obtain ⟨hlt, _⟩ := Array.getElem?_eq_some_iff.1 hw; omega
theorem env_of {W : World} {Lp : List (String × DataW Unit)} (h : laidMet Tryz.prog Lp W) (m1 : ("math/bits.deBruijn64tab", Rows.laid_math_bits_deBruijn64tab) ∈ Lp) (m2 : ("unicode/utf8.acceptRanges", Rows.laid_unicode_utf8_acceptRanges) ∈ Lp)
    (hh : handlesMet Tryz.prog [("errors.errorType", Rows.laid_errors_errorType)] W) (hs : W.ShapedOpen Tryz.prog) : EnvA W := by
  refine ⟨⟨max_of_shaped9 hs, ?_, size_of_reads (Lib.laidMet.reads h m2)⟩, err_of hh⟩
  have hr := Lib.laidMet.reads h m1
  rw [← tab64_data] at hr
  have ht := tab_of_reads (g := 3) (t := 335) (e := 5) (n := 64) (by kernel_rfl) (by kernel_rfl) Tryz.underlying335 Tryz.underlying5 (by kernel_rfl) (by kernel_rfl) hr
  intro j hj
  have hc := World.var?_cell (g := 3) (by kernel_rfl) ht j
  rw [hc]
  simp [List.getElem?_map, List.getD_eq_getElem?_getD, List.getElem?_eq_getElem hj]
/-- A world in which the type's handle lies. -/
noncomputable def wit0 (os : Os) : World :=
  let w0 := World.holding Tryz.prog os ⟨#[], #[], []⟩
  { w0 with heap := w0.heap.modify 0 fun
      | .cells _ t frozen => .cells #[.iface 278 (.agg #[.pointer (some ⟨7, 149, none⟩)])] t frozen
      | o => o }
noncomputable def witW (os : Os) (L : List (String × DataW Unit)) : World := (wit0 os).layVars Tryz.prog L
theorem witW_met {os : Os} {L : List (String × DataW Unit)} (args : Array Value) (hf : (wit0 os).layFits Tryz.prog L [] = true) (hi : (wit0 os).layIfaces Tryz.prog L (witW os L) = true) :
    laidMet Tryz.prog L ((witW os L).forCall (fun _ _ => 0) ⟨#[], args, []⟩).memory := by
  have e1 : (L.filter fun x => (L.map (·.1)).contains x.1) = L := List.filter_eq_self.2 fun x hx => List.contains_iff_mem.2 (List.mem_map.2 ⟨x, hx, rfl⟩)
  have e2 : (L.filter fun x => !(L.map (·.1)).contains x.1) = [] := List.filter_eq_nil_iff.2 fun x hx => by rw [List.contains_iff_mem.2 (List.mem_map.2 ⟨x, hx, rfl⟩)]; simp
  have h : laidMet Tryz.prog L (witW os L) := laidMet_layVars (w0 := wit0 os) (L.map (·.1)) [] (by rw [e1]; rfl) (by rw [e1]; exact hf) (by rw [e1]; exact hi) (by rw [e2]; exact LaidIn.none)
  exact h.of_heap (by simp [World.memory, World.forCall, Input.heap])
end Go.Proofs.YtiapkffihpgdcaaGreatDoor
