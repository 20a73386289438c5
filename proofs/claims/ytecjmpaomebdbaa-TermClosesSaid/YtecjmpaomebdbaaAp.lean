/-
  Words for memory: an append of a slice from whatever source (the law is the guide's, from its pages of words to copy); slices.Clone of numbers; a slice of the call's own of lines.
-/
import Derived.Test.YtecjmpaomebdbaaAllP
import Derived.Maps.AppendAt
import Derived.RegionTactic
import Derived.OwnWalk
import Derived.Lib.SliceRun
namespace Go.Proofs.Ytecjmpaomebdbaa
set_option linter.unusedVariables false
set_option linter.unusedSimpArgs false
open Go.RowKit

/-! ### an append from whatever source -/
section
variable {P : Program} (w : World)

theorem run_append_of_nil (base : Nat) (t ty e : TypeId) (i : TypeInfo) (size : Nat) (ht : P.underlying t = some (.slice e)) (hi : P.info? e = some i)
    (v : Value) (n : Nat) (xs : List Value) (hown : w.ownsRow base e size v n xs) (c : Nat) : (Builtin.append_ #[t, t] ty #[v, .slice none 0 c]).run P w = .ok v w := by
  rcases hown.2 with ⟨rfl, rfl⟩ | ⟨g, cap, cur, rfl, _, _, hnc, _⟩
  · simp [Builtin.append_, run_underlying ht, sizeOf, typeInfo, hi, Builtin.lenOf, Builtin.firstCells]
  · simp [Builtin.append_, run_underlying ht, sizeOf, typeInfo, hi, Builtin.lenOf, Builtin.firstCells, hnc, storeCells]

theorem run_append_any (base : Nat) (t ty e : TypeId) (i : TypeInfo) (z : Value) (size bytes : Nat) (ht : P.underlying t = some (.slice e)) (hi : P.info? e = some i) (hz : i.zero = some z)
    (hsize : i.size = size) (hby : i.bytes = bytes) (hzs : z.cells.size = size) (hsz : 0 < size)
    (v : Value) (n : Nat) (xs : List Value) (hown : w.ownsRow base e size v n xs)
    (B : Nat) (A : Option Addr) (m c : Nat) (news : List Value) (hr : Reads w B size A m news) (h1 : ∀ u ∈ news, u.oneCell' = true)
    (h63 : n + m ≤ maxLen) (hbytes : (n + m) * bytes ≤ 140737488355328) (hbase : base ≤ w.heap.size) :
    ∃ v' w', (Builtin.append_ #[t, t] ty #[v, .slice A m c]).run P w = .ok v' w' ∧ w'.ownsRow base e size v' (n + m) (xs ++ news) ∧ w.grownBy w' v.ownBlock ∧
      (v'.ownBlock = v.ownBlock ∨ v'.ownBlock = some w.heap.size) := by
  rcases A with _ | ad
  · have hm : m = 0 := by
      rcases Nat.eq_zero_or_pos m with h0 | h0
      · exact h0
      · obtain ⟨ad, h, _⟩ := hr.2 h0
        cases h
    subst hm
    have hn : news = [] := List.eq_nil_of_length_eq_zero (by simpa using hr.1)
    subst hn
    exact ⟨v, w, run_append_of_nil w base t ty e i size ht hi v n xs hown c, by simpa using hown, World.grownBy.refl w _, .inl rfl⟩
  · have hcells : ∀ j u, news[j]? = some u → w.cell? (ad.add j) = some u := by
      intro j u hu
      rcases Nat.eq_zero_or_pos m with h0 | h0
      · subst h0
        have hn : news = [] := List.eq_nil_of_length_eq_zero (by simpa using hr.1)
        subst hn
        simp at hu
      · obtain ⟨ad', h, _, hc⟩ := hr.2 h0
        injection h with h
        subst h
        exact hc j u hu
    obtain ⟨v', w', hrun, h2, h3, _, h5⟩ := run_append_own_at (P := P) w base t ty e i z size bytes ht hi hz hsize hby hzs hsz v n xs hown ad m c news hr.1 hcells h1 h63 hbytes hbase
    exact ⟨v', w', hrun, h2, h3, h5⟩

theorem wp_append_any {o : Oper} {a : Act} {K : Act → World → Prop} {Q : Exit → Act → World → Prop} (s x : Operand) (t : TypeId)
    (ho : o.op = .call { callee := .builtin .append, args := #[s, x], argTypes := #[t, t] })
    (base : Nat) (e : TypeId) (i : TypeInfo) (z : Value) (size bytes : Nat) (ht : P.underlying t = some (.slice e)) (hi : P.info? e = some i) (hz : i.zero = some z)
    (hsize : i.size = size) (hby : i.bytes = bytes) (hzs : z.cells.size = size) (hsz : 0 < size)
    (v : Value) (n : Nat) (xs : List Value) (hs : a.eval s = v) (hown : w.ownsRow base e size v n xs)
    (B : Nat) (A : Option Addr) (m c : Nat) (news : List Value) (hx : a.eval x = .slice A m c) (hr : Reads w B size A m news) (h1 : ∀ u ∈ news, u.oneCell' = true)
    (h63 : n + m ≤ maxLen) (hbytes : (n + m) * bytes ≤ 140737488355328) (hbase : base ≤ w.heap.size)
    (h : ∀ v' w', w'.ownsRow base e size v' (n + m) (xs ++ news) → w.grownBy w' v.ownBlock → (v'.ownBlock = v.ownBlock ∨ v'.ownBlock = some w.heap.size) → K (a.put o.dst v') w') : o.wp P a w K Q := by
  obtain ⟨v', w', hrun, h2, h3, h4⟩ := run_append_any (P := P) w base t o.type e i z size bytes ht hi hz hsize hby hzs hsz v n xs hown B A m c news hr h1 h63 hbytes hbase
  unfold Oper.wp execOp
  simp only [ho, resolve, invoke, builtin, Sem.run_bind, Sem.run_pure, Result.andThen_ok, List.map_toArray, List.map_cons, List.map_nil, hs, hx, hrun]
  exact h v' w' h2 h3 h4

theorem wpList_append_any {ops : Array Oper} {rest : List Oper} {o : Oper} {a : Act} {Q : Exit → Act → World → Prop} (hgd : o.guard = none) (s x : Operand) (t : TypeId)
    (ho : o.op = .call { callee := .builtin .append, args := #[s, x], argTypes := #[t, t] })
    (base : Nat) (e : TypeId) (i : TypeInfo) (z : Value) (size bytes : Nat) (ht : P.underlying t = some (.slice e)) (hi : P.info? e = some i) (hz : i.zero = some z)
    (hsize : i.size = size) (hby : i.bytes = bytes) (hzs : z.cells.size = size) (hsz : 0 < size)
    (v : Value) (n : Nat) (xs : List Value) (hs : a.eval s = v) (hown : w.ownsRow base e size v n xs)
    (B : Nat) (A : Option Addr) (m c : Nat) (news : List Value) (hx : a.eval x = .slice A m c) (hr : Reads w B size A m news) (h1 : ∀ u ∈ news, u.oneCell' = true)
    (h63 : n + m ≤ maxLen) (hbytes : (n + m) * bytes ≤ 140737488355328) (hbase : base ≤ w.heap.size)
    (h : ∀ v' w', w'.ownsRow base e size v' (n + m) (xs ++ news) → w.grownBy w' v.ownBlock → (v'.ownBlock = v.ownBlock ∨ v'.ownBlock = some w.heap.size) → wpList P ops Q rest (a.put o.dst v') w') : wpList P ops Q (o :: rest) a w :=
  wpList_plain hgd fun _ hK => wp_append_any w s x t ho base e i z size bytes ht hi hz hsize hby hzs hsz v n xs hs hown B A m c news hx hr h1 h63 hbytes hbase fun v' w' h2 h3 h4 => hK _ _ (h v' w' h2 h3 h4)

theorem step_append_any {ops : Array Oper} {o : Oper} {a : Act} {K : Act → World → Prop} {Q : Exit → Act → World → Prop} {E : Prop} (hgd : o.guard = none) (s x : Operand) (t : TypeId)
    (ho : o.op = .call { callee := .builtin .append, args := #[s, x], argTypes := #[t, t] })
    (base : Nat) (e : TypeId) (i : TypeInfo) (z : Value) (size bytes : Nat) (ht : P.underlying t = some (.slice e)) (hi : P.info? e = some i) (hz : i.zero = some z)
    (hsize : i.size = size) (hby : i.bytes = bytes) (hzs : z.cells.size = size) (hsz : 0 < size)
    (v : Value) (n : Nat) (xs : List Value) (hs : a.eval s = v) (hown : w.ownsRow base e size v n xs)
    (B : Nat) (A : Option Addr) (m c : Nat) (news : List Value) (hx : a.eval x = .slice A m c) (hr : Reads w B size A m news) (h1 : ∀ u ∈ news, u.oneCell' = true)
    (h63 : n + m ≤ maxLen) (hbytes : (n + m) * bytes ≤ 140737488355328) (hbase : base ≤ w.heap.size)
    (h : ∀ v' w', w'.ownsRow base e size v' (n + m) (xs ++ news) → w.grownBy w' v.ownBlock → (v'.ownBlock = v.ownBlock ∨ v'.ownBlock = some w.heap.size) → K (a.put o.dst v') w') :
    if Region.wanted o (yielded ops a.tmps) = true then Oper.wp P o a w K Q else E := by
  have hw : Region.wanted o (yielded ops a.tmps) = true := by simp [Region.wanted, hgd]
  rw [if_pos hw]
  exact wp_append_any w s x t ho base e i z size bytes ht hi hz hsize hby hzs hsz v n xs hs hown B A m c news hx hr h1 h63 hbytes hbase h
end



theorem ints_one (l : List Int) : ∀ u ∈ ints l, u.oneCell' = true := by
  intro u hu
  obtain ⟨f, _, rfl⟩ := List.mem_map.1 hu
  rfl
set_option maxRecDepth 100000 in
set_option maxHeartbeats 800000 in
theorem clone_any (l : List Int) (hl : l.length ≤ 1000000000) (A : Option Addr) (c : Nat) (w : World) (hR : RN w A l) :
    Calls Try.prog 64 #[.slice A l.length c] w fun e w' => ∃ A' c', e = .returned (.slice A' l.length c') ∧ OwnN w' w.heap.size A' c' l ∧ Below w.heap.size w w' := by
  have hnil := fun W a n c => Lib.run_eql_slice_nil (P := Try.prog) W 22 3 a n c 0 0 Try.underlying22
  cases A with
  | none =>
    have hl0 : l = [] := by
      apply List.eq_nil_of_length_eq_zero
      rcases Nat.eq_zero_or_pos l.length with h | h
      · exact h
      · obtain ⟨ad, h1, _⟩ := hR.2 h; cases h1
    subst hl0
    go_enter Try.func64, Try.ntmps64
    go_wp2
    go_ret
    exact ⟨none, 0, rfl, World.ownsRow_nil _ _ _ _, Below.refl _ _⟩
  | some a =>
    obtain ⟨i0, hi0, hz0, hz1, hz2⟩ := info_parts info_int
    go_enter Try.func64, Try.ntmps64
    have h0 : (w.alloc (.cells #[] 3)).ownsRow w.heap.size 3 1 (.slice (some ⟨w.heap.size, 0, none⟩) 0 0) 0 [] := World.ownsRow_lit w #[] 0 (Nat.le_refl _) (by unfold maxLen; omega) rfl
    have hb0 : Below w.heap.size w (w.alloc (.cells #[] 3)) := (Below.refl _ _).alloc (Nat.le_refl _) _
    go_wp2_with (at_builtin; refine wpList_append_any _ rfl _ _ 22 rfl w.heap.size 3 i0 _ 1 8 Try.underlying22 hi0 hz0 hz1 hz2 rfl (by omega) _ 0 [] rfl h0 _ (some a) l.length c (ints l) rfl (hR.below hb0) (ints_one l) (by unfold maxLen; omega) (by omega) hb0.size ?_; intro v' w2 own2 hg2 hat2)
    obtain ⟨A', c', rfl⟩ := own_shape own2
    go_wp2
    go_ret
    rw [Nat.zero_add, List.nil_append] at own2
    exact ⟨A', c', by rw [Nat.zero_add]; rfl, own2, hb0.grown hg2 hb0.size (fun k hk => by have e : (some w.heap.size : Option Nat) = some k := hk; cases e; exact Nat.le_refl _)⟩

/-! ### own lines -/
theorem info_line : (Try.prog.info? 50).map (fun i => (i.zero, i.size, i.bytes)) = some (some (.agg #[.int .i64 0, .int .i64 0]), 2, 16) := by kernel_rfl
theorem cellsL_one (l : List Ln) : ∀ u ∈ cellsL l, u.oneCell' = true := by
  intro u hu
  obtain ⟨f, _, hf⟩ := List.mem_flatMap.1 hu
  simp only [Ln.vals, List.mem_cons, List.not_mem_nil, or_false] at hf
  rcases hf with rfl | rfl <;> rfl
theorem cellsL_set (l : List Ln) (k : Nat) (n : Int) (hk : k < l.length) : cellsL (l.set k ⟨n, (gl l k).m⟩) = (cellsL l).set (k * 2) (.int .i64 n) := by
  induction l generalizing k with
  | nil => simp at hk
  | cons f l ih =>
    cases k with
    | zero => simp [cellsL, Ln.vals, gl]
    | succ k =>
      have e := ih k (by simpa using hk)
      have eg : (gl (f :: l) (k + 1)) = gl l k := by simp [gl]
      rw [List.set_cons_succ, eg, cellsL_cons, cellsL_cons, e, List.set_append_right _ _ (by simp [Ln.vals]; omega)]
      congr 2
      simp [Ln.vals]; omega
def lsetTo (l : List Ln) (n : Int) : Nat → List Ln
  | 0 => l
  | k + 1 => (lsetTo l n k).set k ⟨n, (gl (lsetTo l n k) k).m⟩
theorem lsetTo_len (l : List Ln) (n : Int) (k : Nat) : (lsetTo l n k).length = l.length := by
  induction k with
  | zero => rfl
  | succ k ih => simp [lsetTo, ih]
theorem lsetTo_at (l : List Ln) (n : Int) (k i : Nat) (hi : i < l.length) : gl (lsetTo l n k) i = if i < k then ⟨n, (gl l i).m⟩ else gl l i := by
  induction k with
  | zero => simp [lsetTo]
  | succ k ih =>
    have hl := lsetTo_len l n k
    by_cases e : i = k
    · subst e
      have ih' : gl (lsetTo l n i) i = gl l i := by simpa using ih
      simp [lsetTo, ih']
      simp [gl, hl, hi]
    · have : gl (lsetTo l n (k + 1)) i = gl (lsetTo l n k) i := by
        simp [lsetTo, gl, List.getElem?_set, show ¬ k = i by omega]
      rw [this, ih]
      by_cases h : i < k
      · rw [if_pos h, if_pos (by omega)]
      · rw [if_neg h, if_neg (by omega)]
theorem lsetTo_all (l : List Ln) (n : Int) : lsetTo l n l.length = setR l n := by
  apply List.ext_getElem (by rw [lsetTo_len, setR_len])
  intro i h1 h2
  rw [gl_getElem _ i h1, gl_getElem _ i h2, lsetTo_at l n _ i (by rw [lsetTo_len] at h1; exact h1), setR_at l n (by rw [lsetTo_len] at h1; exact h1), if_pos (by rw [lsetTo_len] at h1; exact h1)]
/-- The slice of the call's own at block g holds the lines l. -/
def OwnL (w : World) (base : Nat) (A : Option Addr) (c : Nat) (l : List Ln) : Prop := w.ownsRow base 50 2 (.slice A l.length c) l.length (cellsL l)
theorem OwnL.kept {w w' : World} {base c : Nat} {A : Option Addr} {l : List Ln} (h : OwnL w base A c l) (hb : Below w.heap.size w w') : OwnL w' base A c l := own_below h hb fun k hk => (World.ownsRow.lt h k hk).2
theorem OwnL.reads {w : World} {base c : Nat} {A : Option Addr} {l : List Ln} (h : OwnL w base A c l) : RL w A l := Reads.of_own h
theorem OwnL.at_ {w : World} {base c : Nat} {A : Option Addr} {l : List Ln} (h : OwnL w base A c l) {k : Nat} (hk : k < l.length) : ∃ g, A = some ⟨g, 0, none⟩ ∧ base ≤ g ∧ g < w.heap.size ∧ w.cell? ⟨g, k * 2, none⟩ = some (.int .i64 (gl l k).r) ∧ w.frozen? ⟨g, k * 2, none⟩ = false ∧
    ∀ n : Int, OwnL (w.setCell ⟨g, k * 2, none⟩ (.int .i64 n)) base A c (l.set k ⟨n, (gl l k).m⟩) := by
  rcases h.2 with ⟨h1, h2⟩ | ⟨g, cap, cur, h1, hbg, hg, hrest⟩
  · omega
  · injection h1 with h1 _ hc
    subst h1
    subst hc
    have hlt := World.ownsRow.lt h g rfl
    refine ⟨g, rfl, hlt.1, hlt.2, ?_, World.ownsRow.frozenAt h _, fun n => ?_⟩
    · have e := World.ownsRow.cellAt h (k * 2) (by omega)
      rw [e]
      have := cellsL_at l k 0 hk (by omega)
      rw [show k * 2 + 0 = k * 2 by omega] at this
      rw [this]; rfl
    · have e := (World.ownsRow.stored h (k * 2) (.int .i64 n)).1
      unfold OwnL
      rw [List.length_set, cellsL_set l k n hk]
      exact e
end Go.Proofs.Ytecjmpaomebdbaa
