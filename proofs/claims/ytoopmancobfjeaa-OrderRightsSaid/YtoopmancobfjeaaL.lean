/-
  Walks: equal tables, copies of tables, History, Until. (The law on an append from whatever source is the guide's, from its pages of words to copy.)
-/
import Derived.Test.YtoopmancobfjeaaK
import Derived.Maps.AppendAt
import Derived.RegionTactic
import Derived.OwnWalk
import Derived.Lib.SliceRun
namespace Go.Proofs.Ytoopmancobfjeaa
set_option linter.unusedVariables false
set_option linter.unusedSimpArgs false
open Go.RowKit

theorem info_fact : (Try.prog.info? 43).map (fun i => (i.zero, i.size, i.bytes)) = some (some (.agg #[.int .i64 0, .int .i64 0, .int .i64 0, .int .i64 0, .int .i64 0]), 5, 40) := by kernel_rfl

theorem neq_fact (a b c d f a' b' c' d' f' : Int) (w : World) : (binOp .neq 43 (.agg #[.int .i64 a, .int .i64 b, .int .i64 c, .int .i64 d, .int .i64 f]) (.agg #[.int .i64 a', .int .i64 b', .int .i64 c', .int .i64 d', .int .i64 f'])).run Try.prog w = .ok (.bool (!(a == a' && (b == b' && (c == c' && (d == d' && f == f')))))) w := by
  have hS : Try.prog.underlying 43 = some (.struct (Try.prog.fieldsOf 43)) := by kernel_rfl
  have hp : Try.prog.stoodInHeld 43 = false := by kernel_rfl
  have u3 := Try.underlying3
  have a3 := Try.isAgg3
  have z3 := Try.sizeOf3
  rw [run_neq_struct, show (10000 : Nat) = 9999 + 1 from rfl, run_equalIn_agg w 9999 43 _ _ hS hp]
  simp only [Program.fieldsOf, Try.underlying43]
  go_simp
  by_cases h1 : a = a'
  · by_cases h2 : b = b'
    · by_cases h3 : c = c'
      · by_cases h4 : d = d' <;> by_cases h5 : f = f' <;> simp [h1, h2, h3, h4, h5]
      · simp [h1, h2, h3]
    · simp [h1, h2]
  · simp [h1]

def factEq (a b : Fact) : Bool := a.at_ == b.at_ && (a.ch == b.ch && (a.fr == b.fr && (a.un == b.un && a.me == b.me)))
theorem fact_ne {a b : Fact} (h : (!factEq a b) = true) : a ≠ b := by
  rintro rfl; simp [factEq] at h
theorem fact_eq {a b : Fact} (h : (!factEq a b) = false) : a = b := by
  cases a; cases b; simp [factEq] at h; simp [h]
def eqFn (l m : List Fact) (k : Nat) : Prop := ∀ i, i < k → gf l i = gf m i
theorem eqFn_all {l m : List Fact} (hlen : l.length = m.length) (h : eqFn l m l.length) : l = m := by
  apply List.ext_getElem hlen
  intro i h1 h2
  rw [gf_getElem l i h1, gf_getElem m i h2]
  exact h i h1

set_option maxRecDepth 100000 in
set_option maxHeartbeats 1600000 in
theorem sameFacts_any (l m : List Fact) (A A' : Option Addr) (c c' B B' : Nat) (w : World) (hl : RF w B A l) (hm : RF w B' A' m) (hb : l.length ≤ 1000000000) (hb' : m.length ≤ 1000000000) :
    Calls Try.prog 29 #[.slice A l.length c, .slice A' m.length c'] w fun e w' => e = .returned (.bool (decide (l = m))) ∧ Below w.heap.size w w' := by
  have hneq := neq_fact
  by_cases hlen : l.length = m.length
  · have hlen' : ((l.length : Int) != (m.length : Int)) = false := by simp [hlen]
    have HL := Lib.hid hlen; clear hlen
    go_enter Try.func29, Try.ntmps29
    go_wp2
    go_loopw [5] (fun x wr => ∃ k : Nat, k ≤ l.length ∧ x = .int .i64 k ∧ eqFn l m k ∧ Below w.heap.size w wr) (fun x _ => l.length - (intOf x).toNat)
    case atStart => exact ⟨0, by omega, rfl, fun i hi => by omega, Below.refl _ _⟩
    case round =>
      obtain ⟨k, hk, rfl, he, hbl⟩ := hrel
      by_cases hlt : k < l.length
      · have hlt' : k < m.length := by rw [← HL.out]; exact hlt
        obtain ⟨ad, rfl, hab, c0, c1, c2, c3, c4⟩ := (hl.below hbl).at_ hlt
        obtain ⟨ad', rfl, hab', d0, d1, d2, d3, d4⟩ := (hm.below hbl).at_ hlt'
        cases hq : (!factEq (gf l k) (gf m k)) with
        | true =>
          have hne := fact_ne hq
          have HNE := Lib.hid hne; clear hne
          unfold factEq at hq
          go_wp2_with fail
          go_quiet (fail)
          go_wp2
          go_ret
          exact ⟨ret_bool (by symm; rw [decide_eq_false_iff_not]; intro e; exact HNE.out (by rw [e])), below_drewN hbl _⟩
        | false =>
          have heq := fact_eq hq
          have HEQ := Lib.hid heq; clear heq
          unfold factEq at hq
          go_wp2_with fail
          go_quiet (fail)
          go_wp2
          go_roundw
          case rel => exact ⟨k + 1, by omega, by go_num, fun i hi => by
            by_cases e : i = k
            · subst e; exact HEQ.out
            · exact he i (by omega), below_drewN hbl _⟩
          case measure => simp [intOf]; omega
      · obtain rfl : k = l.length := by omega
        go_wp2
        go_ret
        exact ⟨ret_bool (by symm; rw [decide_eq_true_eq]; exact eqFn_all HL.out he), hbl⟩
  · have hlen' : ((l.length : Int) != (m.length : Int)) = true := by simp; omega
    have HL := Lib.hid hlen; clear hlen
    go_enter Try.func29, Try.ntmps29
    go_wp2
    go_ret
    exact ⟨ret_bool (by symm; rw [decide_eq_false_iff_not]; intro e; exact HL.out (by rw [e])), Below.refl _ _⟩

/-! ### an append from whatever source -/
section
variable {P : Program} (w : World)

theorem run_append_of_nil (base : Nat) (t ty e : TypeId) (i : TypeInfo) (size : Nat) (ht : P.underlying t = some (.slice e)) (hi : P.info? e = some i)
    (v : Value) (n : Nat) (xs : List Value) (hown : w.ownsRow base e size v n xs) (c : Nat) : (Builtin.append_ #[t, t] ty #[v, .slice none 0 c]).run P w = .ok v w := by
  rcases hown.2 with ⟨rfl, rfl⟩ | ⟨g, cap, cur, rfl, _, _, hnc, _⟩
  · simp [Builtin.append_, run_underlying ht, sizeOf, typeInfo, hi, Builtin.lenOf, Builtin.firstCells]
  · simp [Builtin.append_, run_underlying ht, sizeOf, typeInfo, hi, Builtin.lenOf, Builtin.firstCells, hnc, storeCells]

theorem run_append_any (base : Nat) (t ty e : TypeId) (i : TypeInfo) (z : Value) (size bytes : Nat) (ht : P.underlying t = some (.slice e)) (hi : P.info? e = some i) (hz : i.zero = some z)
    (hsize : i.size = size) (hby : i.bytes = bytes) (hzs : z.cells.size = size) (hsz : 0 < size)
    (v : Value) (n : Nat) (xs : List Value) (hown : w.ownsRow base e size v n xs)
    (B : Nat) (A : Option Addr) (m c : Nat) (news : List Value) (hr : Reads w B size A m news) (h1 : ∀ u ∈ news, u.oneCell' = true)
    (h63 : n + m ≤ maxLen) (hbytes : (n + m) * bytes ≤ 140737488355328) (hbase : base ≤ w.heap.size) :
    ∃ v' w', (Builtin.append_ #[t, t] ty #[v, .slice A m c]).run P w = .ok v' w' ∧ w'.ownsRow base e size v' (n + m) (xs ++ news) ∧ w.grownBy w' v.ownBlock ∧
      (v'.ownBlock = v.ownBlock ∨ v'.ownBlock = some w.heap.size) := by
  rcases A with _ | ad
  · have hm : m = 0 := by
      rcases Nat.eq_zero_or_pos m with h0 | h0
      · exact h0
      · obtain ⟨ad, h, _⟩ := hr.2 h0
        cases h
    subst hm
    have hn : news = [] := List.eq_nil_of_length_eq_zero (by simpa using hr.1)
    subst hn
    exact ⟨v, w, run_append_of_nil w base t ty e i size ht hi v n xs hown c, by simpa using hown, World.grownBy.refl w _, .inl rfl⟩
  · have hcells : ∀ j u, news[j]? = some u → w.cell? (ad.add j) = some u := by
      intro j u hu
      rcases Nat.eq_zero_or_pos m with h0 | h0
      · subst h0
        have hn : news = [] := List.eq_nil_of_length_eq_zero (by simpa using hr.1)
        subst hn
        simp at hu
      · obtain ⟨ad', h, _, hc⟩ := hr.2 h0
        injection h with h
        subst h
        exact hc j u hu
    obtain ⟨v', w', hrun, h2, h3, _, h5⟩ := run_append_own_at (P := P) w base t ty e i z size bytes ht hi hz hsize hby hzs hsz v n xs hown ad m c news hr.1 hcells h1 h63 hbytes hbase
    exact ⟨v', w', hrun, h2, h3, h5⟩

theorem wp_append_any {o : Oper} {a : Act} {K : Act → World → Prop} {Q : Exit → Act → World → Prop} (s x : Operand) (t : TypeId)
    (ho : o.op = .call { callee := .builtin .append, args := #[s, x], argTypes := #[t, t] })
    (base : Nat) (e : TypeId) (i : TypeInfo) (z : Value) (size bytes : Nat) (ht : P.underlying t = some (.slice e)) (hi : P.info? e = some i) (hz : i.zero = some z)
    (hsize : i.size = size) (hby : i.bytes = bytes) (hzs : z.cells.size = size) (hsz : 0 < size)
    (v : Value) (n : Nat) (xs : List Value) (hs : a.eval s = v) (hown : w.ownsRow base e size v n xs)
    (B : Nat) (A : Option Addr) (m c : Nat) (news : List Value) (hx : a.eval x = .slice A m c) (hr : Reads w B size A m news) (h1 : ∀ u ∈ news, u.oneCell' = true)
    (h63 : n + m ≤ maxLen) (hbytes : (n + m) * bytes ≤ 140737488355328) (hbase : base ≤ w.heap.size)
    (h : ∀ v' w', w'.ownsRow base e size v' (n + m) (xs ++ news) → w.grownBy w' v.ownBlock → (v'.ownBlock = v.ownBlock ∨ v'.ownBlock = some w.heap.size) → K (a.put o.dst v') w') : o.wp P a w K Q := by
  obtain ⟨v', w', hrun, h2, h3, h4⟩ := run_append_any (P := P) w base t o.type e i z size bytes ht hi hz hsize hby hzs hsz v n xs hown B A m c news hr h1 h63 hbytes hbase
  unfold Oper.wp execOp
  simp only [ho, resolve, invoke, builtin, Sem.run_bind, Sem.run_pure, Result.andThen_ok, List.map_toArray, List.map_cons, List.map_nil, hs, hx, hrun]
  exact h v' w' h2 h3 h4

theorem wpList_append_any {ops : Array Oper} {rest : List Oper} {o : Oper} {a : Act} {Q : Exit → Act → World → Prop} (hgd : o.guard = none) (s x : Operand) (t : TypeId)
    (ho : o.op = .call { callee := .builtin .append, args := #[s, x], argTypes := #[t, t] })
    (base : Nat) (e : TypeId) (i : TypeInfo) (z : Value) (size bytes : Nat) (ht : P.underlying t = some (.slice e)) (hi : P.info? e = some i) (hz : i.zero = some z)
    (hsize : i.size = size) (hby : i.bytes = bytes) (hzs : z.cells.size = size) (hsz : 0 < size)
    (v : Value) (n : Nat) (xs : List Value) (hs : a.eval s = v) (hown : w.ownsRow base e size v n xs)
    (B : Nat) (A : Option Addr) (m c : Nat) (news : List Value) (hx : a.eval x = .slice A m c) (hr : Reads w B size A m news) (h1 : ∀ u ∈ news, u.oneCell' = true)
    (h63 : n + m ≤ maxLen) (hbytes : (n + m) * bytes ≤ 140737488355328) (hbase : base ≤ w.heap.size)
    (h : ∀ v' w', w'.ownsRow base e size v' (n + m) (xs ++ news) → w.grownBy w' v.ownBlock → (v'.ownBlock = v.ownBlock ∨ v'.ownBlock = some w.heap.size) → wpList P ops Q rest (a.put o.dst v') w') : wpList P ops Q (o :: rest) a w :=
  wpList_plain hgd fun _ hK => wp_append_any w s x t ho base e i z size bytes ht hi hz hsize hby hzs hsz v n xs hs hown B A m c news hx hr h1 h63 hbytes hbase fun v' w' h2 h3 h4 => hK _ _ (h v' w' h2 h3 h4)

theorem step_append_any {ops : Array Oper} {o : Oper} {a : Act} {K : Act → World → Prop} {Q : Exit → Act → World → Prop} {E : Prop} (hgd : o.guard = none) (s x : Operand) (t : TypeId)
    (ho : o.op = .call { callee := .builtin .append, args := #[s, x], argTypes := #[t, t] })
    (base : Nat) (e : TypeId) (i : TypeInfo) (z : Value) (size bytes : Nat) (ht : P.underlying t = some (.slice e)) (hi : P.info? e = some i) (hz : i.zero = some z)
    (hsize : i.size = size) (hby : i.bytes = bytes) (hzs : z.cells.size = size) (hsz : 0 < size)
    (v : Value) (n : Nat) (xs : List Value) (hs : a.eval s = v) (hown : w.ownsRow base e size v n xs)
    (B : Nat) (A : Option Addr) (m c : Nat) (news : List Value) (hx : a.eval x = .slice A m c) (hr : Reads w B size A m news) (h1 : ∀ u ∈ news, u.oneCell' = true)
    (h63 : n + m ≤ maxLen) (hbytes : (n + m) * bytes ≤ 140737488355328) (hbase : base ≤ w.heap.size)
    (h : ∀ v' w', w'.ownsRow base e size v' (n + m) (xs ++ news) → w.grownBy w' v.ownBlock → (v'.ownBlock = v.ownBlock ∨ v'.ownBlock = some w.heap.size) → K (a.put o.dst v') w') :
    if Region.wanted o (yielded ops a.tmps) = true then Oper.wp P o a w K Q else E := by
  have hw : Region.wanted o (yielded ops a.tmps) = true := by simp [Region.wanted, hgd]
  rw [if_pos hw]
  exact wp_append_any w s x t ho base e i z size bytes ht hi hz hsize hby hzs hsz v n xs hs hown B A m c news hx hr h1 h63 hbytes hbase h
end


/-- The slice (A, c) of the call's own holds the facts l. -/
def OwnF (w : World) (base : Nat) (A : Option Addr) (c : Nat) (l : List Fact) : Prop := w.ownsRow base 43 5 (.slice A l.length c) l.length (cellsF l)
theorem OwnF.kept {w w' : World} {base c : Nat} {A : Option Addr} {l : List Fact} (h : OwnF w base A c l) (hb : Below w.heap.size w w') : OwnF w' base A c l := own_below h hb fun k hk => (World.ownsRow.lt h k hk).2
theorem OwnF.reads {w : World} {base c : Nat} {A : Option Addr} {l : List Fact} (h : OwnF w base A c l) : RF w w.heap.size A l := ⟨Nat.le_refl _, Reads.of_own h⟩
theorem OwnF.cap {w : World} {base c : Nat} {A : Option Addr} {l : List Fact} (h : OwnF w base A c l) : l.length ≤ c := by
  rcases h.2 with ⟨h1, h2⟩ | ⟨g, cap, cur, h1, _, _, h4, _⟩
  · omega
  · injection h1 with _ _ h1; omega
theorem OwnF.snoc {w : World} {base c n : Nat} {A : Option Addr} {l l' : List Fact} {f : Fact} (h : w.ownsRow base 43 5 (.slice A (n + 1) c) (n + 1) (cellsF l ++ f.vals)) (hn : n = l.length) (hl : l' = l ++ [f]) : OwnF w base A c l' := by
  subst hn
  have e1 : (l ++ [f]).length = l.length + 1 := by simp
  have e2 : cellsF (l ++ [f]) = cellsF l ++ f.vals := by simp [cellsF]
  rw [hl]
  unfold OwnF
  rw [e1, e2]
  exact h
theorem RF.reads {w : World} {B : Nat} {A : Option Addr} {l : List Fact} (h : RF w B A l) : Reads w B 5 A l.length (cellsF l) := h.2
theorem cellsF_one (l : List Fact) : ∀ u ∈ cellsF l, u.oneCell' = true := by
  intro u hu
  obtain ⟨f, _, hf⟩ := List.mem_flatMap.1 hu
  simp only [Fact.vals, List.mem_cons, List.not_mem_nil, or_false] at hf
  rcases hf with rfl | rfl | rfl | rfl | rfl <;> rfl

set_option maxRecDepth 100000 in
set_option maxHeartbeats 800000 in
theorem clone_any (l : List Fact) (hl : l.length ≤ 1000000000) (A : Option Addr) (c B : Nat) (w : World) (hR : RF w B A l) :
    Calls Try.prog 69 #[.slice A l.length c] w fun e w' => ∃ A' c', e = .returned (.slice A' l.length c') ∧ OwnF w' w.heap.size A' c' l ∧ Below w.heap.size w w' := by
  have hnil := fun W a n c => Lib.run_eql_slice_nil (P := Try.prog) W 22 43 a n c 0 0 Try.underlying22
  cases A with
  | none =>
    have hl0 : l = [] := by
      apply List.eq_nil_of_length_eq_zero
      rcases Nat.eq_zero_or_pos l.length with h | h
      · exact h
      · obtain ⟨ad, h1, _⟩ := hR.2.2 h; cases h1
    subst hl0
    go_enter Try.func69, Try.ntmps69
    go_wp2
    go_ret
    exact ⟨none, 0, rfl, World.ownsRow_nil _ _ _ _, Below.refl _ _⟩
  | some a =>
    obtain ⟨i0, hi0, hz0, hz1, hz2⟩ := info_parts info_fact
    go_enter Try.func69, Try.ntmps69
    have h0 : (w.alloc (.cells #[] 43)).ownsRow w.heap.size 43 5 (.slice (some ⟨w.heap.size, 0, none⟩) 0 0) 0 [] := World.ownsRow_lit w #[] 0 (Nat.le_refl _) (by unfold maxLen; omega) rfl
    have hb0 : Below w.heap.size w (w.alloc (.cells #[] 43)) := (Below.refl _ _).alloc (Nat.le_refl _) _
    go_wp2_with (at_builtin; refine wpList_append_any _ rfl _ _ 22 rfl w.heap.size 43 i0 _ 5 40 Try.underlying22 hi0 hz0 hz1 hz2 rfl (by omega) _ 0 [] rfl h0 B (some a) l.length c (cellsF l) rfl (hR.below hb0).2 (cellsF_one l) (by unfold maxLen; omega) (by omega) hb0.size ?_; intro v' w2 own2 hg2 hat2)
    obtain ⟨A', c', rfl⟩ := own_shape own2
    go_wp2
    go_ret
    rw [Nat.zero_add, List.nil_append] at own2
    exact ⟨A', c', by rw [Nat.zero_add]; rfl, own2, hb0.grown hg2 hb0.size (fun k hk => by have e : (some w.heap.size : Option Nat) = some k := hk; cases e; exact Nat.le_refl _)⟩

/-! ### Until -/
def untTo (l : List Fact) (t : Int) : Nat → List Fact
  | 0 => []
  | k + 1 => if (gf l k).at_ ≤ t then untTo l t k ++ [gf l k] else untTo l t k
theorem untTo_yes (l : List Fact) (t : Int) (k : Nat) (h : (gf l k).at_ ≤ t) : untTo l t (k + 1) = untTo l t k ++ [gf l k] := by simp [untTo, h]
theorem untTo_no (l : List Fact) (t : Int) (k : Nat) (h : ¬ (gf l k).at_ ≤ t) : untTo l t (k + 1) = untTo l t k := by simp [untTo, h]
theorem untTo_le (l : List Fact) (t : Int) (k : Nat) : (untTo l t k).length ≤ k := by
  induction k with
  | zero => simp [untTo]
  | succ k ih =>
    simp only [untTo]; split
    · rw [List.length_append]; simp; omega
    · omega
theorem untTo_cut {l : List Fact} {t : Int} {n : Nat} (h : IsCut l t n) : ∀ k, k ≤ l.length → untTo l t k = (l.take n).take k
  | 0, _ => by simp [untTo]
  | k + 1, hk => by
    have ih := untTo_cut h k (by omega)
    by_cases hkn : k < n
    · rw [untTo_yes l t k (h.2.1 k hkn), ih, List.take_succ_eq_append_getElem (by rw [List.length_take]; omega)]
      congr 2
      simp [gf, show k < l.length by omega]
    · have e : ∀ j, n ≤ j → (l.take n).take j = l.take n := fun j hj => List.take_of_length_le (by rw [List.length_take]; omega)
      rw [untTo_no l t k (by have := h.2.2 k (by omega) (by omega); omega), ih, e k (by omega), e (k + 1) (by omega)]
def untilR (l : List Fact) (t : Int) : List Fact := if vld l = 0 then untTo l t l.length else []
def RetF (w0 : World) (L : List Fact) (er : Int) (e : Ending) (w' : World) : Prop :=
  ∃ A c, e = .returned (.tuple #[.slice A L.length c, .int .i64 er]) ∧ OwnF w' w0.heap.size A c L ∧ Below w0.heap.size w0 w'

set_option maxRecDepth 100000 in
set_option maxHeartbeats 800000 in
theorem untilX_any (l : List Fact) (t : Int) (hl : l.length ≤ 1000000000) (A : Option Addr) (c B : Nat) (hc : l.length ≤ c) (w : World) (hR : RF w B A l) :
    Calls Try.prog 44 #[.slice A l.length c, .int .i64 t] w (RetF w (untilR l t) (vld l)) := by
  obtain ⟨L, hL⟩ : ∃ L, L = untilR l t := ⟨_, rfl⟩
  rw [← hL]
  have HL := Lib.hid hL; clear hL
  go_enter Try.func44, Try.ntmps44
  go_wp2_with fail
  refine (validate_any l A c B _ hR hl).mono ?_
  rintro e w1 ⟨rfl, hb1⟩
  by_cases hv : vld l = 0
  · have hV := Vld.of hv
    have hv1 : (vld l != 0) = false := by simp [hv]
    have hLL : L = untTo l t l.length := by rw [HL.out, untilR, if_pos hv]
    have HLL := Lib.hid hLL; clear hLL
    have HV := Lib.hid hv; clear hv
    go_wp2_with fail
    refine (until_any l t hV A c B hc _ (hR.below hb1)).mono ?_
    rintro e w2 ⟨n, hcut, rfl, hb2⟩
    have hb2' := hb1.trans (hb2.mono hb1.size)
    have hn := hcut.1
    have hll : L = l.take n := by rw [HLL.out, untTo_cut hcut l.length (Nat.le_refl _), List.take_of_length_le (by rw [List.length_take]; omega)]
    have hlen : (l.take n).length = n := by rw [List.length_take]; omega
    have hR2 := (hR.below hb2').take hn (fun _ => rfl)
    have hcl := clone_any (l.take n) (by omega) A n B w2 hR2
    rw [hlen] at hcl
    have HC := Lib.hid hcl; clear hcl hR2 hb2
    have HLT := Lib.hid hll; clear hll
    have HLEN := Lib.hid hlen; clear hlen
    go_wp2_with fail
    refine HC.out.mono ?_
    rintro e w3 ⟨A', c', rfl, own3, hb3⟩
    go_wp2
    go_ret2
    exact ⟨A', c', ret2 (by rw [HLT.out, HLEN.out]; rfl) (by rw [HV.out]; rfl), by rw [HLT.out]; exact own_base own3 hb2'.size, hb2'.trans (hb3.mono hb2'.size)⟩
  · have hv1 : (vld l != 0) = true := by simp [hv]
    have hLL : L = [] := by rw [HL.out, untilR, if_neg hv]
    have HLL := Lib.hid hLL; clear hLL hv
    go_wp2
    go_ret2
    exact ⟨none, 0, ret2 (by rw [HLL.out]; rfl) rfl, by rw [HLL.out]; exact World.ownsRow_nil _ _ _ _, hb1⟩

set_option maxRecDepth 100000 in
set_option maxHeartbeats 1600000 in
theorem runtilX_any (l : List Fact) (t : Int) (hl : l.length ≤ 100000000) (A0 : Option Addr) (c0 B : Nat) (w : World) (hR : RF w B A0 l) :
    Calls Try.prog 45 #[.slice A0 l.length c0, .int .i64 t] w (RetF w (untilR l t) (vld l)) := by
  obtain ⟨L, hL⟩ : ∃ L, L = untilR l t := ⟨_, rfl⟩
  rw [← hL]
  have HL := Lib.hid hL; clear hL
  go_enter Try.func45, Try.ntmps45
  go_wp2_with fail
  refine (rvalidate_any l A0 c0 B _ hR (by omega)).mono ?_
  rintro e w1 ⟨rfl, hb1⟩
  by_cases hv : vld l = 0
  · have hv1 : (vld l != 0) = false := by simp [hv]
    have hLL : L = untTo l t l.length := by rw [HL.out, untilR, if_pos hv]
    have HLL := Lib.hid hLL; clear hLL
    have HV := Lib.hid hv; clear hv
    go_wp2
    go_loopw [7, 8] (fun o x wr => ∃ k : Nat, k ≤ l.length ∧ x = .int .i64 k ∧ ∃ A c, o = .slice A (untTo l t k).length c ∧ OwnF wr w.heap.size A c (untTo l t k) ∧ Below w.heap.size w wr) (fun _ x _ => l.length - (intOf x).toNat)
    case atStart => exact ⟨0, by omega, rfl, none, 0, rfl, World.ownsRow_nil _ _ _ _, hb1⟩
    case round =>
      obtain ⟨k, hk, rfl, A, c, rfl, own, hbl⟩ := hrel
      by_cases hlt : k < l.length
      · obtain ⟨ad, rfl, hab, c0', c1, c2, c3, c4⟩ := (hR.below hbl).at_ (k := k) (by omega)
        have hll := untTo_le l t k
        have hbs := hbl.size
        by_cases hat : (gf l k).at_ ≤ t
        · have hs := untTo_yes l t k hat
          have HS := Lib.hid hs; clear hs
          go_wp2_with (at_builtin; refine wpList_app1 rfl _ _ rfl Try.underlying22 info_fact rfl (by omega) rfl own rfl rfl (by simp [Value.oneCell']) (by omega) (by omega) (by omega) ?_; intro A' c' w2 own2 hb2)
          go_roundw
          case rel => exact ⟨k + 1, by omega, by go_num, A', c', by rw [HS.out, List.length_append]; rfl, OwnF.snoc own2 rfl HS.out, hbl.trans (hb2 _ (Nat.le_refl _))⟩
          case measure => simp [intOf]; omega
        · have hs := untTo_no l t k hat
          have HS := Lib.hid hs; clear hs
          go_wp2
          go_roundw
          case rel => exact ⟨k + 1, by omega, by go_num, A, c, by rw [HS.out], by rw [HS.out]; exact own, hbl⟩
          case measure => simp [intOf]; omega
      · have hkl : k = l.length := by omega
        have HKL := Lib.hid hkl; clear hkl
        go_wp2
        go_ret2
        exact ⟨A, c, ret2 (by rw [HLL.out, ← HKL.out]; rfl) (by rw [HV.out]; rfl), by rw [HLL.out, ← HKL.out]; exact own, hbl⟩
  · have hv1 : (vld l != 0) = true := by simp [hv]
    have hLL : L = [] := by rw [HL.out, untilR, if_neg hv]
    have HLL := Lib.hid hLL; clear hLL hv
    go_wp2
    go_ret2
    exact ⟨none, 0, ret2 (by rw [HLL.out]; rfl) rfl, by rw [HLL.out]; exact World.ownsRow_nil _ _ _ _, hb1⟩

end Go.Proofs.Ytoopmancobfjeaa
