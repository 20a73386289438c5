import Derived.Test.YtiapkffihpgdcaaGreatDoorPk1
import Derived.Test.YtiapkffihpgdcaaGreatDoorPk5
import Derived.Maps.AppendAt
import Derived.RegionTactic
import Derived.OwnWalk
import Derived.Lib.SliceRun
/-
  Words for memory: an append of a slice from whatever source (the law is the guide's, from its pages of words to copy); slices.Clone of numbers; a slice of the call's own of lines.
-/
namespace Go.Proofs.YtiapkffihpgdcaaGreatDoor
set_option linter.unusedVariables false
set_option linter.unusedSimpArgs false
open Go.RowKit

/-! ### an append from whatever source -/
section
variable {P : Program} (w : World)

theorem run_append_of_nil (base : Nat) (t ty e : TypeId) (i : TypeInfo) (size : Nat) (ht : P.underlying t = some (.slice e)) (hi : P.info? e = some i)
    (v : Value) (n : Nat) (xs : List Value) (hown : w.ownsRow base e size v n xs) (c : Nat) : (Builtin.append_ #[t, t] ty #[v, .slice none 0 c]).run P w = .ok v w := by
  rcases hown.2 with ⟨rfl, rfl⟩ | ⟨g, cap, cur, rfl, _, _, hnc, _⟩
  · simp [Builtin.append_, run_underlying ht, sizeOf, typeInfo, hi, Builtin.lenOf, Builtin.firstCells]
  · simp [Builtin.append_, run_underlying ht, sizeOf, typeInfo, hi, Builtin.lenOf, Builtin.firstCells, hnc, storeCells]

theorem run_append_any (base : Nat) (t ty e : TypeId) (i : TypeInfo) (z : Value) (size bytes : Nat) (ht : P.underlying t = some (.slice e)) (hi : P.info? e = some i) (hz : i.zero = some z)
    (hsize : i.size = size) (hby : i.bytes = bytes) (hzs : z.cells.size = size) (hsz : 0 < size)
    (v : Value) (n : Nat) (xs : List Value) (hown : w.ownsRow base e size v n xs)
    (B : Nat) (A : Option Addr) (m c : Nat) (news : List Value) (hr : Reads w B size A m news) (h1 : ∀ u ∈ news, u.oneCell' = true)
    (h63 : n + m ≤ maxLen) (hbytes : (n + m) * bytes ≤ 140737488355328) (hbase : base ≤ w.heap.size) :
    ∃ v' w', (Builtin.append_ #[t, t] ty #[v, .slice A m c]).run P w = .ok v' w' ∧ w'.ownsRow base e size v' (n + m) (xs ++ news) ∧ w.grownBy w' v.ownBlock ∧
      (v'.ownBlock = v.ownBlock ∨ v'.ownBlock = some w.heap.size) := by
  rcases A with _ | ad
  · have hm : m = 0 := by
      rcases Nat.eq_zero_or_pos m with h0 | h0
      · exact h0
      · obtain ⟨ad, h, _⟩ := hr.2 h0
        cases h
    subst hm
    have hn : news = [] := List.eq_nil_of_length_eq_zero (by simpa using hr.1)
    subst hn
    exact ⟨v, w, run_append_of_nil w base t ty e i size ht hi v n xs hown c, by simpa using hown, World.grownBy.refl w _, .inl rfl⟩
  · have hcells : ∀ j u, news[j]? = some u → w.cell? (ad.add j) = some u := by
      intro j u hu
      rcases Nat.eq_zero_or_pos m with h0 | h0
      · subst h0
        have hn : news = [] := List.eq_nil_of_length_eq_zero (by simpa using hr.1)
        subst hn
        simp at hu
      · obtain ⟨ad', h, _, hc⟩ := hr.2 h0
        injection h with h
        subst h
        exact hc j u hu
    obtain ⟨v', w', hrun, h2, h3, _, h5⟩ := run_append_own_at (P := P) w base t ty e i z size bytes ht hi hz hsize hby hzs hsz v n xs hown ad m c news hr.1 hcells h1 h63 hbytes hbase
    exact ⟨v', w', hrun, h2, h3, h5⟩

theorem wp_append_any {o : Oper} {a : Act} {K : Act → World → Prop} {Q : Exit → Act → World → Prop} (s x : Operand) (t : TypeId)
    (ho : o.op = .call { callee := .builtin .append, args := #[s, x], argTypes := #[t, t] })
    (base : Nat) (e : TypeId) (i : TypeInfo) (z : Value) (size bytes : Nat) (ht : P.underlying t = some (.slice e)) (hi : P.info? e = some i) (hz : i.zero = some z)
    (hsize : i.size = size) (hby : i.bytes = bytes) (hzs : z.cells.size = size) (hsz : 0 < size)
    (v : Value) (n : Nat) (xs : List Value) (hs : a.eval s = v) (hown : w.ownsRow base e size v n xs)
    (B : Nat) (A : Option Addr) (m c : Nat) (news : List Value) (hx : a.eval x = .slice A m c) (hr : Reads w B size A m news) (h1 : ∀ u ∈ news, u.oneCell' = true)
    (h63 : n + m ≤ maxLen) (hbytes : (n + m) * bytes ≤ 140737488355328) (hbase : base ≤ w.heap.size)
    (h : ∀ v' w', w'.ownsRow base e size v' (n + m) (xs ++ news) → w.grownBy w' v.ownBlock → (v'.ownBlock = v.ownBlock ∨ v'.ownBlock = some w.heap.size) → K (a.put o.dst v') w') : o.wp P a w K Q := by
  obtain ⟨v', w', hrun, h2, h3, h4⟩ := run_append_any (P := P) w base t o.type e i z size bytes ht hi hz hsize hby hzs hsz v n xs hown B A m c news hr h1 h63 hbytes hbase
  unfold Oper.wp execOp
  simp only [ho, resolve, invoke, builtin, Sem.run_bind, Sem.run_pure, Result.andThen_ok, List.map_toArray, List.map_cons, List.map_nil, hs, hx, hrun]
  exact h v' w' h2 h3 h4

theorem wpList_append_any {ops : Array Oper} {rest : List Oper} {o : Oper} {a : Act} {Q : Exit → Act → World → Prop} (hgd : o.guard = none) (s x : Operand) (t : TypeId)
    (ho : o.op = .call { callee := .builtin .append, args := #[s, x], argTypes := #[t, t] })
    (base : Nat) (e : TypeId) (i : TypeInfo) (z : Value) (size bytes : Nat) (ht : P.underlying t = some (.slice e)) (hi : P.info? e = some i) (hz : i.zero = some z)
    (hsize : i.size = size) (hby : i.bytes = bytes) (hzs : z.cells.size = size) (hsz : 0 < size)
    (v : Value) (n : Nat) (xs : List Value) (hs : a.eval s = v) (hown : w.ownsRow base e size v n xs)
    (B : Nat) (A : Option Addr) (m c : Nat) (news : List Value) (hx : a.eval x = .slice A m c) (hr : Reads w B size A m news) (h1 : ∀ u ∈ news, u.oneCell' = true)
    (h63 : n + m ≤ maxLen) (hbytes : (n + m) * bytes ≤ 140737488355328) (hbase : base ≤ w.heap.size)
    (h : ∀ v' w', w'.ownsRow base e size v' (n + m) (xs ++ news) → w.grownBy w' v.ownBlock → (v'.ownBlock = v.ownBlock ∨ v'.ownBlock = some w.heap.size) → wpList P ops Q rest (a.put o.dst v') w') : wpList P ops Q (o :: rest) a w :=
  wpList_plain hgd fun _ hK => wp_append_any w s x t ho base e i z size bytes ht hi hz hsize hby hzs hsz v n xs hs hown B A m c news hx hr h1 h63 hbytes hbase fun v' w' h2 h3 h4 => hK _ _ (h v' w' h2 h3 h4)

theorem step_append_any {ops : Array Oper} {o : Oper} {a : Act} {K : Act → World → Prop} {Q : Exit → Act → World → Prop} {E : Prop} (hgd : o.guard = none) (s x : Operand) (t : TypeId)
    (ho : o.op = .call { callee := .builtin .append, args := #[s, x], argTypes := #[t, t] })
    (base : Nat) (e : TypeId) (i : TypeInfo) (z : Value) (size bytes : Nat) (ht : P.underlying t = some (.slice e)) (hi : P.info? e = some i) (hz : i.zero = some z)
    (hsize : i.size = size) (hby : i.bytes = bytes) (hzs : z.cells.size = size) (hsz : 0 < size)
    (v : Value) (n : Nat) (xs : List Value) (hs : a.eval s = v) (hown : w.ownsRow base e size v n xs)
    (B : Nat) (A : Option Addr) (m c : Nat) (news : List Value) (hx : a.eval x = .slice A m c) (hr : Reads w B size A m news) (h1 : ∀ u ∈ news, u.oneCell' = true)
    (h63 : n + m ≤ maxLen) (hbytes : (n + m) * bytes ≤ 140737488355328) (hbase : base ≤ w.heap.size)
    (h : ∀ v' w', w'.ownsRow base e size v' (n + m) (xs ++ news) → w.grownBy w' v.ownBlock → (v'.ownBlock = v.ownBlock ∨ v'.ownBlock = some w.heap.size) → K (a.put o.dst v') w') :
    if Region.wanted o (yielded ops a.tmps) = true then Oper.wp P o a w K Q else E := by
  have hw : Region.wanted o (yielded ops a.tmps) = true := by simp [Region.wanted, hgd]
  rw [if_pos hw]
  exact wp_append_any w s x t ho base e i z size bytes ht hi hz hsize hby hzs hsz v n xs hs hown B A m c news hx hr h1 h63 hbytes hbase h
end



theorem ints_one (l : List Int) : ∀ u ∈ ints l, u.oneCell' = true := by
  intro u hu
  obtain ⟨f, _, rfl⟩ := List.mem_map.1 hu
  rfl
set_option maxRecDepth 100000 in
set_option maxHeartbeats 800000 in
theorem clone_any (l : List Int) (hl : l.length ≤ 1000000000) (A : Option Addr) (c : Nat) (w : World) (hR : RN w A l) :
    Calls Tryz.prog 154 #[.slice A l.length c] w fun e w' => ∃ A' c', e = .returned (.slice A' l.length c') ∧ OwnN w' w.heap.size A' c' l ∧ Below w.heap.size w w' := by
  have hnil := fun W a n c => Lib.run_eql_slice_nil (P := Tryz.prog) W 22 3 a n c 0 0 Tryz.underlying22
  cases A with
  | none =>
    have hl0 : l = [] := by
      apply List.eq_nil_of_length_eq_zero
      rcases Nat.eq_zero_or_pos l.length with h | h
      · exact h
      · obtain ⟨ad, h1, _⟩ := hR.2 h; cases h1
    subst hl0
    go_enter Tryz.func154, Tryz.ntmps154
    go_wp2
    go_ret
    exact ⟨none, 0, rfl, World.ownsRow_nil _ _ _ _, Below.refl _ _⟩
  | some a =>
    obtain ⟨i0, hi0, hz0, hz1, hz2⟩ := info_parts info_int
    go_enter Tryz.func154, Tryz.ntmps154
    have h0 : (w.alloc (.cells #[] 3)).ownsRow w.heap.size 3 1 (.slice (some ⟨w.heap.size, 0, none⟩) 0 0) 0 [] := World.ownsRow_lit w #[] 0 (Nat.le_refl _) (by unfold maxLen; omega) rfl
    have hb0 : Below w.heap.size w (w.alloc (.cells #[] 3)) := (Below.refl _ _).alloc (Nat.le_refl _) _
    go_wp2_with (at_builtin; refine wpList_append_any _ rfl _ _ 22 rfl w.heap.size 3 i0 _ 1 8 Tryz.underlying22 hi0 hz0 hz1 hz2 rfl (by omega) _ 0 [] rfl h0 _ (some a) l.length c (ints l) rfl (hR.below hb0) (ints_one l) (by unfold maxLen; omega) (by omega) hb0.size ?_; intro v' w2 own2 hg2 hat2)
    obtain ⟨A', c', rfl⟩ := own_shape own2
    go_wp2
    go_ret
    rw [Nat.zero_add, List.nil_append] at own2
    exact ⟨A', c', by rw [Nat.zero_add]; rfl, own2, hb0.grown hg2 hb0.size (fun k hk => by have e : (some w.heap.size : Option Nat) = some k := hk; cases e; exact Nat.le_refl _)⟩

/-! ### own lines -/
theorem cellsL_one (l : List Ln) : ∀ u ∈ cellsL l, u.oneCell' = true := by
  intro u hu
  obtain ⟨f, _, hf⟩ := List.mem_flatMap.1 hu
  simp only [Ln.vals, List.mem_cons, List.not_mem_nil, or_false] at hf
  rcases hf with rfl | rfl <;> rfl
theorem cellsL_set (l : List Ln) (k : Nat) (n : Int) (hk : k < l.length) : cellsL (l.set k ⟨n, (gl l k).m⟩) = (cellsL l).set (k * 2) (.int .i64 n) := by
  induction l generalizing k with
  | nil => simp at hk
  | cons f l ih =>
    cases k with
    | zero => simp [cellsL, Ln.vals, gl]
    | succ k =>
      have e := ih k (by simpa using hk)
      have eg : (gl (f :: l) (k + 1)) = gl l k := by simp [gl]
      rw [List.set_cons_succ, eg, cellsL_cons, cellsL_cons, e, List.set_append_right _ _ (by simp [Ln.vals]; omega)]
      congr 2
      simp [Ln.vals]; omega
def lsetTo (l : List Ln) (n : Int) : Nat → List Ln
  | 0 => l
  | k + 1 => (lsetTo l n k).set k ⟨n, (gl (lsetTo l n k) k).m⟩
theorem lsetTo_len (l : List Ln) (n : Int) (k : Nat) : (lsetTo l n k).length = l.length := by
  induction k with
  | zero => rfl
  | succ k ih => simp [lsetTo, ih]
theorem lsetTo_at (l : List Ln) (n : Int) (k i : Nat) (hi : i < l.length) : gl (lsetTo l n k) i = if i < k then ⟨n, (gl l i).m⟩ else gl l i := by
  induction k with
  | zero => simp [lsetTo]
  | succ k ih =>
    have hl := lsetTo_len l n k
    by_cases e : i = k
    · subst e
      have ih' : gl (lsetTo l n i) i = gl l i := by simpa using ih
      simp [lsetTo, ih']
      simp [gl, hl, hi]
    · have : gl (lsetTo l n (k + 1)) i = gl (lsetTo l n k) i := by
        simp [lsetTo, gl, List.getElem?_set, show ¬ k = i by omega]
      rw [this, ih]
      by_cases h : i < k
      · rw [if_pos h, if_pos (by omega)]
      · rw [if_neg h, if_neg (by omega)]
theorem lsetTo_all (l : List Ln) (n : Int) : lsetTo l n l.length = setR l n := by
  apply List.ext_getElem (by rw [lsetTo_len, setR_len])
  intro i h1 h2
  rw [gl_getElem _ i h1, gl_getElem _ i h2, lsetTo_at l n _ i (by rw [lsetTo_len] at h1; exact h1), setR_at l n (by rw [lsetTo_len] at h1; exact h1), if_pos (by rw [lsetTo_len] at h1; exact h1)]
end Go.Proofs.YtiapkffihpgdcaaGreatDoor
/-
  The plain mathematics of the tables of orders: no program in sight.
-/
namespace Go.Proofs.YtiapkffihpgdcaaGreatDoor
set_option linter.unusedVariables false
set_option linter.unusedSimpArgs false

/-- A fact of a table. -/
structure Fact where
  at_ : Int
  ch : Int
  fr : Int
  un : Int
  me : Int
instance : DecidableEq Fact := fun a b =>
  if h : a.at_ = b.at_ ∧ a.ch = b.ch ∧ a.fr = b.fr ∧ a.un = b.un ∧ a.me = b.me then isTrue (by cases a; cases b; simp_all) else isFalse (by rintro rfl; simp at h)
def gf (l : List Fact) (k : Nat) : Fact := l.getD k ⟨0, 0, 0, 0, 0⟩
theorem gf_getElem (l : List Fact) (k : Nat) (h : k < l.length) : l[k] = gf l k := by simp [gf, h]
theorem gf_take (l : List Fact) (n k : Nat) (h : k < n) : gf (l.take n) k = gf l k := by simp [gf, h]
theorem gf_mem (l : List Fact) (k : Nat) (h : k < l.length) : gf l k ∈ l := by rw [← gf_getElem l k h]; exact List.getElem_mem h

def rightN (a c f t m : Int) : Bool := decide (0 ≤ a ∧ a ≤ 1440000 ∧ 0 ≤ c ∧ c ≤ 99 ∧ 0 ≤ f ∧ f < t ∧ t ≤ 1000 ∧ 0 ≤ m ∧ m ≤ 9)
def rightB (f : Fact) : Bool := rightN f.at_ f.ch f.fr f.un f.me
theorem right_iff (f : Fact) : rightB f = true ↔ 0 ≤ f.at_ ∧ f.at_ ≤ 1440000 ∧ 0 ≤ f.ch ∧ f.ch ≤ 99 ∧ 0 ≤ f.fr ∧ f.fr < f.un ∧ f.un ≤ 1000 ∧ 0 ≤ f.me ∧ f.me ≤ 9 := by simp [rightB, rightN]

/-- Validate, behind facts of which the last is written at prev. -/
def vG (prev : Int) : List Fact → Int
  | [] => 0
  | f :: r => if rightB f then (if f.at_ < prev then 7 else vG f.at_ r) else 1
def vld (l : List Fact) : Int := if 60 < l.length then 4 else vG (-1) l
def prv (l : List Fact) (k : Nat) : Int := if k = 0 then -1 else (gf l (k - 1)).at_
theorem prv_zero (l : List Fact) : prv l 0 = -1 := by simp [prv]
theorem prv_pos (l : List Fact) (k : Nat) (h : 0 < k) : prv l k = (gf l (k - 1)).at_ := by unfold prv; rw [if_neg (by omega)]
theorem right_at (f : Fact) (h : rightB f = true) : 0 ≤ f.at_ := by have := (right_iff f).1 h; omega
theorem vG_step (l : List Fact) (k : Nat) (hk : k < l.length) :
    vG (prv l k) (l.drop k) = if rightB (gf l k) then (if (gf l k).at_ < prv l k then 7 else vG (prv l (k + 1)) (l.drop (k + 1))) else 1 := by
  rw [List.drop_eq_getElem_cons hk, gf_getElem l k hk]
  simp only [vG]
  rw [prv_pos l (k + 1) (by omega)]
  rfl
theorem vld_wrong (l : List Fact) (k : Nat) (hk : k < l.length) (h60 : ¬ 60 < l.length) (hv : vG (-1) l = vG (prv l k) (l.drop k)) (hr : rightB (gf l k) = false) : vld l = 1 := by
  unfold vld; rw [if_neg h60, hv, vG_step l k hk, if_neg (by rw [hr]; simp)]
theorem vld_order (l : List Fact) (k : Nat) (hk : k < l.length) (h60 : ¬ 60 < l.length) (hv : vG (-1) l = vG (prv l k) (l.drop k)) (hr : rightB (gf l k) = true) (hkp : 0 < k) (hp : (gf l k).at_ < (gf l (k - 1)).at_) : vld l = 7 := by
  unfold vld; rw [if_neg h60, hv, vG_step l k hk, if_pos hr, prv_pos l k hkp, if_pos hp]
theorem vld_next (l : List Fact) (k : Nat) (hk : k < l.length) (hv : vG (-1) l = vG (prv l k) (l.drop k)) (hr : rightB (gf l k) = true) (hp : 0 < k → (gf l (k - 1)).at_ ≤ (gf l k).at_) : vG (-1) l = vG (prv l (k + 1)) (l.drop (k + 1)) := by
  rw [hv, vG_step l k hk, if_pos hr, if_neg]
  by_cases h0 : 0 < k
  · rw [prv_pos l k h0]; have := hp h0; omega
  · have : k = 0 := by omega
    subst this; have := right_at _ hr; rw [prv_zero]; omega
theorem vld_end (l : List Fact) (k : Nat) (hk : ¬ k < l.length) (h60 : ¬ 60 < l.length) (hv : vG (-1) l = vG (prv l k) (l.drop k)) : vld l = 0 := by
  unfold vld; rw [if_neg h60, hv, List.drop_eq_nil_of_le (by omega)]; rfl

/-- What validity gives. -/
structure Vld (l : List Fact) : Prop where
  len : l.length ≤ 60
  right : ∀ i, i < l.length → rightB (gf l i) = true
  sorted : ∀ i j, i ≤ j → j < l.length → (gf l i).at_ ≤ (gf l j).at_
theorem vG_right : ∀ (l : List Fact) (p : Int), vG p l = 0 → (∀ i, i < l.length → rightB (gf l i) = true) ∧ (∀ i, i < l.length → p ≤ (gf l i).at_) ∧ (∀ i j, i ≤ j → j < l.length → (gf l i).at_ ≤ (gf l j).at_)
  | [], _, _ => ⟨by simp, by simp, by simp⟩
  | f :: r, p, h => by
    simp only [vG] at h
    split at h
    · rename_i hr
      split at h
      · cases h
      · rename_i hp
        obtain ⟨h1, h2, h3⟩ := vG_right r f.at_ h
        have g0 : gf (f :: r) 0 = f := rfl
        have gs : ∀ i, gf (f :: r) (i + 1) = gf r i := fun i => by simp [gf]
        refine ⟨fun i hi => ?_, fun i hi => ?_, fun i j hij hj => ?_⟩
        · cases i with
          | zero => exact hr
          | succ i => rw [gs]; exact h1 i (by simpa using hi)
        · cases i with
          | zero => rw [g0]; omega
          | succ i => rw [gs]; have := h2 i (by simpa using hi); omega
        · cases i with
          | zero =>
            cases j with
            | zero => exact Int.le_refl _
            | succ j => rw [gs, g0]; exact h2 j (by simpa using hj)
          | succ i =>
            cases j with
            | zero => omega
            | succ j => rw [gs, gs]; exact h3 i j (by omega) (by simpa using hj)
    · cases h
theorem Vld.of {l : List Fact} (h : vld l = 0) : Vld l := by
  unfold vld at h
  split at h
  · cases h
  · obtain ⟨h1, _, h3⟩ := vG_right l _ h
    exact ⟨by omega, h1, h3⟩
theorem vG_of : ∀ (l : List Fact) (p : Int), (∀ i, i < l.length → rightB (gf l i) = true) → (∀ i, i < l.length → p ≤ (gf l i).at_) → (∀ i j, i ≤ j → j < l.length → (gf l i).at_ ≤ (gf l j).at_) → vG p l = 0
  | [], _, _, _, _ => rfl
  | f :: r, p, h1, h2, h3 => by
    have g0 : gf (f :: r) 0 = f := rfl
    have gs : ∀ i, gf (f :: r) (i + 1) = gf r i := fun i => by simp [gf]
    simp only [vG]
    have hr : rightB f = true := by have := h1 0 (by simp); rwa [g0] at this
    have hp : ¬ f.at_ < p := by have := h2 0 (by simp); rw [g0] at this; omega
    rw [if_pos hr, if_neg hp]
    refine vG_of r _ (fun i hi => ?_) (fun i hi => ?_) (fun i j hij hj => ?_)
    · rw [← gs]; exact h1 _ (by simpa using hi)
    · have := h3 0 (i + 1) (by omega) (by simpa using hi); rw [gs, g0] at this; exact this
    · rw [← gs, ← gs]; exact h3 _ _ (by omega) (by simpa using hj)
theorem Vld.to {l : List Fact} (h : Vld l) : vld l = 0 := by
  unfold vld
  rw [if_neg (by have := h.len; omega)]
  exact vG_of l _ h.right (fun i hi => by have := right_at _ (h.right i hi); omega) h.sorted

/-- What asked returns. -/
def askd (l : List Fact) (b : Bool) : Int := if vld l ≠ 0 then vld l else if b then 0 else 1

theorem askd_ok {l : List Fact} {b : Bool} (h : askd l b = 0) : vld l = 0 ∧ b = true := by
  unfold askd at h
  split at h
  · rename_i hv; exact absurd h hv
  · rename_i hv
    cases b
    · cases h
    · exact ⟨by simpa using hv, rfl⟩
/-- A fact tells about a minute, a child and a day. -/
def covN (ch fr un c d : Int) : Bool := decide (ch = c ∧ fr ≤ d ∧ d < un)
def covB (f : Fact) (c d : Int) : Bool := covN f.ch f.fr f.un c d
theorem covB_iff (f : Fact) (c d : Int) : covB f c d = true ↔ f.ch = c ∧ f.fr ≤ d ∧ d < f.un := by simp [covB, covN]
theorem covB_not (f : Fact) (c d : Int) : covB f c d = false ↔ ¬ (f.ch = c ∧ f.fr ≤ d ∧ d < f.un) := by rw [← covB_iff]; simp
def hit (f : Fact) (t c d : Int) : Bool := decide (f.at_ ≤ t) && covB f c d
def rsnTo (l : List Fact) (t c d : Int) : Nat → Int
  | 0 => -1
  | k + 1 => if hit (gf l k) t c d then (k : Int) else rsnTo l t c d k
def rsn (l : List Fact) (t c d : Int) : Int := rsnTo l t c d l.length
def fAt (l : List Fact) (i : Int) : Int := if i < 0 then 0 else (gf l i.toNat).at_
def fCh (l : List Fact) (i : Int) : Int := if i < 0 then 0 else (gf l i.toNat).ch
def fFr (l : List Fact) (i : Int) : Int := if i < 0 then 0 else (gf l i.toNat).fr
def fUn (l : List Fact) (i : Int) : Int := if i < 0 then 0 else (gf l i.toNat).un
def fMe (l : List Fact) (i : Int) : Int := if i < 0 then 0 else (gf l i.toNat).me
def knw (l : List Fact) (t c d : Int) : Int := fMe l (rsn l t c d)
theorem rsnTo_bd (l : List Fact) (t c d : Int) (k : Nat) : -1 ≤ rsnTo l t c d k ∧ rsnTo l t c d k < k := by
  induction k with
  | zero => simp [rsnTo]
  | succ k ih => simp only [rsnTo]; split <;> omega
theorem rsnTo_hit (l : List Fact) (t c d : Int) (k : Nat) (h : hit (gf l k) t c d = true) : rsnTo l t c d (k + 1) = k := by simp only [rsnTo, h, if_true]
theorem rsnTo_miss (l : List Fact) (t c d : Int) (k : Nat) (h : hit (gf l k) t c d = false) : rsnTo l t c d (k + 1) = rsnTo l t c d k := by simp [rsnTo, h]
theorem rsnTo_of_none (l : List Fact) (t c d : Int) (n : Nat) : ∀ m, (∀ i, n ≤ i → i < n + m → hit (gf l i) t c d = false) → rsnTo l t c d (n + m) = rsnTo l t c d n
  | 0, _ => rfl
  | m + 1, h => by rw [← Nat.add_assoc, rsnTo_miss _ _ _ _ _ (h _ (by omega) (by omega)), rsnTo_of_none l t c d n m (fun i h1 h2 => h i h1 (by omega))]

/-- How many facts are written at a minute: the first ones, if the table is sorted. -/
def IsCut (l : List Fact) (t : Int) (n : Nat) : Prop := n ≤ l.length ∧ (∀ i, i < n → (gf l i).at_ ≤ t) ∧ (∀ i, n ≤ i → i < l.length → t < (gf l i).at_)
theorem rsn_cut {l : List Fact} {t : Int} {n : Nat} (h : IsCut l t n) (c d : Int) : rsn l t c d = rsnTo l t c d n := by
  obtain ⟨m, hm⟩ := Nat.le.dest h.1
  unfold rsn
  rw [← hm]
  refine rsnTo_of_none l t c d n m fun i h1 h2 => ?_
  have := h.2.2 i h1 (by omega)
  simp [hit]; omega

/-! ### days -/
def dayTo (l : List Fact) (t c : Int) (k : Nat) : List Int := (List.range 1000).map fun (d : Nat) => fMe l (rsnTo l t c d k)
def dayIn (l : List Fact) (t c : Int) (k : Nat) (x : Int) : List Int := (List.range 1000).map fun (d : Nat) => if (d : Int) < x then fMe l (rsnTo l t c d (k + 1)) else fMe l (rsnTo l t c d k)
def dayL (l : List Fact) (t c : Int) : List Int := (List.range 1000).map fun (d : Nat) => knw l t c d
theorem dayTo_length (l : List Fact) (t c : Int) (k : Nat) : (dayTo l t c k).length = 1000 := by simp [dayTo]
theorem dayIn_length (l : List Fact) (t c : Int) (k : Nat) (x : Int) : (dayIn l t c k x).length = 1000 := by simp [dayIn]
theorem dayL_length (l : List Fact) (t c : Int) : (dayL l t c).length = 1000 := by simp [dayL]
theorem dayTo_zero (l : List Fact) (t c : Int) : dayTo l t c 0 = List.replicate 1000 0 := by
  rw [List.eq_replicate_iff]
  refine ⟨by simp [dayTo], fun b hb => ?_⟩
  obtain ⟨d, _, rfl⟩ := List.mem_map.1 hb
  simp [rsnTo, fMe]
theorem dayTo_cut {l : List Fact} {t : Int} {n : Nat} (h : IsCut l t n) (c : Int) : dayTo l t c n = dayL l t c := by
  unfold dayTo dayL knw
  apply List.map_congr_left
  intro d _
  rw [rsn_cut h]
theorem dayTo_other (l : List Fact) (t c : Int) (k : Nat) (h : (gf l k).ch ≠ c) : dayTo l t c (k + 1) = dayTo l t c k := by
  unfold dayTo
  apply List.map_congr_left
  intro d _
  rw [rsnTo_miss]
  simp [hit, covB, covN, h]
theorem dayIn_start (l : List Fact) (t c : Int) (k : Nat) : dayIn l t c k (gf l k).fr = dayTo l t c k := by
  unfold dayIn dayTo
  apply List.map_congr_left
  intro d _
  by_cases h : (d : Int) < (gf l k).fr
  · rw [if_pos h, rsnTo_miss]
    simp [hit, covB, covN]; intros; omega
  · rw [if_neg h]
theorem dayIn_end (l : List Fact) (t c : Int) (k : Nat) (x : Int) (h : (gf l k).un ≤ x) : dayIn l t c k x = dayTo l t c (k + 1) := by
  unfold dayIn dayTo
  apply List.map_congr_left
  intro d _
  by_cases hd : (d : Int) < x
  · rw [if_pos hd]
  · rw [if_neg hd, rsnTo_miss]
    simp [hit, covB, covN]; intros; omega
theorem dayIn_next (l : List Fact) (t c : Int) (k x : Nat) (h0 : (gf l k).at_ ≤ t) (h1 : (gf l k).ch = c) (h2 : (gf l k).fr ≤ x) (h3 : (x : Int) < (gf l k).un) (_hx : x < 1000) :
    (dayIn l t c k x).set x (gf l k).me = dayIn l t c k (x + 1) := by
  apply List.ext_getElem
  · simp [dayIn]
  · intro j hj1 hj2
    have hj : j < 1000 := by simpa [dayIn] using hj2
    rw [List.getElem_set]
    by_cases e : x = j
    · subst e
      rw [if_pos rfl]
      simp only [dayIn, List.getElem_map, List.getElem_range]
      rw [if_pos (by omega), rsnTo_hit]
      · unfold fMe; rw [if_neg (by omega)]; rfl
      · simp [hit, covB, covN]; omega
    · rw [if_neg e]
      simp only [dayIn, List.getElem_map, List.getElem_range]
      by_cases h : (j : Int) < x
      · rw [if_pos h, if_pos (by omega)]
      · rw [if_neg h, if_neg (by omega)]

/-! ### spans -/
structure Sp where
  fr : Int
  un : Int
  me : Int
instance : DecidableEq Sp := fun a b =>
  if h : a.fr = b.fr ∧ a.un = b.un ∧ a.me = b.me then isTrue (by cases a; cases b; simp_all) else isFalse (by rintro rfl; simp at h)
def gs (l : List Sp) (k : Nat) : Sp := l.getD k ⟨0, 0, 0⟩
/-- A day more. -/
def spAdd (out : List Sp) (d m : Int) : List Sp :=
  if 0 < out.length ∧ (gs out (out.length - 1)).un = d ∧ (gs out (out.length - 1)).me = m then out.set (out.length - 1) ⟨(gs out (out.length - 1)).fr, (gs out (out.length - 1)).un + 1, (gs out (out.length - 1)).me⟩
  else out ++ [⟨d, d + 1, m⟩]
def spTo (m : Nat → Int) (p : Nat → Bool) : Nat → List Sp
  | 0 => []
  | k + 1 => if p k then spAdd (spTo m p k) k (m k) else spTo m p k
theorem spAdd_len (out : List Sp) (d m : Int) : (spAdd out d m).length ≤ out.length + 1 := by unfold spAdd; split <;> simp
theorem spTo_len (m : Nat → Int) (p : Nat → Bool) (k : Nat) : (spTo m p k).length ≤ k := by
  induction k with
  | zero => simp [spTo]
  | succ k ih =>
    simp only [spTo]
    split
    · have := spAdd_len (spTo m p k) k (m k); omega
    · omega
theorem spTo_skip (m : Nat → Int) (p : Nat → Bool) (k : Nat) (h : p k = false) : spTo m p (k + 1) = spTo m p k := by simp [spTo, h]
theorem spTo_more (m : Nat → Int) (p : Nat → Bool) (k : Nat) (h : p k = true) (h2 : 0 < (spTo m p k).length ∧ (gs (spTo m p k) ((spTo m p k).length - 1)).un = k ∧ (gs (spTo m p k) ((spTo m p k).length - 1)).me = m k) :
    spTo m p (k + 1) = (spTo m p k).set ((spTo m p k).length - 1) ⟨(gs (spTo m p k) ((spTo m p k).length - 1)).fr, (gs (spTo m p k) ((spTo m p k).length - 1)).un + 1, (gs (spTo m p k) ((spTo m p k).length - 1)).me⟩ := by
  simp only [spTo, h, if_true, spAdd]
  rw [if_pos h2]
theorem spTo_new (m : Nat → Int) (p : Nat → Bool) (k : Nat) (h : p k = true) (h2 : ¬ (0 < (spTo m p k).length ∧ (gs (spTo m p k) ((spTo m p k).length - 1)).un = k ∧ (gs (spTo m p k) ((spTo m p k).length - 1)).me = m k)) :
    spTo m p (k + 1) = spTo m p k ++ [⟨k, k + 1, m k⟩] := by
  simp only [spTo, h, if_true, spAdd]
  rw [if_neg h2]
theorem spTo_congr (m m' : Nat → Int) (p p' : Nat → Bool) (k : Nat) (h : ∀ i, i < k → m i = m' i ∧ p i = p' i) : spTo m p k = spTo m' p' k := by
  induction k with
  | zero => rfl
  | succ k ih => simp only [spTo]; rw [ih fun i hi => h i (by omega), (h k (by omega)).1, (h k (by omega)).2]

def spansL (l : List Fact) (t c : Int) : List Sp := spTo (fun d => knw l t c d) (fun d => decide (0 < knw l t c d)) 1000
def changedL (l : List Fact) (b t c : Int) : List Sp := spTo (fun d => knw l t c d) (fun d => decide (knw l b c d ≠ knw l t c d)) 1000
theorem fMe_bd {l : List Fact} (h : Vld l) (i : Int) (hi : i < l.length) : 0 ≤ fMe l i ∧ fMe l i ≤ 9 := by
  unfold fMe
  split
  · omega
  · have := (right_iff _).1 (h.right i.toNat (by omega)); omega
theorem knw_bd {l : List Fact} (h : Vld l) (t c d : Int) : 0 ≤ knw l t c d ∧ knw l t c d ≤ 9 := by
  have := rsnTo_bd l t c d l.length
  exact fMe_bd h _ this.2
theorem knw_early {l : List Fact} (h : Vld l) (t c d : Int) (ht : t < 0) : knw l t c d = 0 := by
  have hc : IsCut l t 0 := ⟨by omega, by intro i hi; omega, fun i _ hi => by have := right_at _ (h.right i hi); omega⟩
  unfold knw
  rw [rsn_cut hc]
  simp [rsnTo, fMe]
theorem spansL_changed {l : List Fact} (h : Vld l) (t c : Int) : changedL l (-1) t c = spansL l t c := by
  refine spTo_congr _ _ _ _ _ fun i _ => ⟨rfl, ?_⟩
  rw [knw_early h (-1) c i (by omega)]
  have := knw_bd h t c i
  rw [decide_eq_decide]; omega

end Go.Proofs.YtiapkffihpgdcaaGreatDoor
