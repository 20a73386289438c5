/-
  Walks: a table with one more fact; a copy that is spoilt.
-/
import Derived.Test.YtoopmancobfjeaaO
import Derived.Deep.RegionHeld3
namespace Go.Proofs.Ytoopmancobfjeaa
set_option linter.unusedVariables false
set_option linter.unusedSimpArgs false
open Go.RowKit

def addR (l : List Fact) (f : Fact) : List Fact := if vld l = 0 ∧ vld (l ++ [f]) = 0 then l ++ [f] else []
def addE (l : List Fact) (f : Fact) : Int := if vld l ≠ 0 then vld l else vld (l ++ [f])
theorem cellsF_snoc (l : List Fact) (f : Fact) : cellsF (l ++ [f]) = cellsF l ++ f.vals := by simp [cellsF]
theorem OwnF.more {w : World} {base c : Nat} {A : Option Addr} {l : List Fact} {f : Fact} (h : w.ownsRow base 43 5 (.slice A (l.length + 1) c) (l.length + 1) (cellsF l ++ f.vals)) : OwnF w base A c (l ++ [f]) := OwnF.snoc h rfl rfl

theorem RF.drew {w : World} {B : Nat} {A : Option Addr} {l : List Fact} (h : RF w B A l) : RF w.drew B A l := h
theorem RF.alloc {w : World} {B : Nat} {A : Option Addr} {l : List Fact} (h : RF w B A l) (o : Obj) : RF (w.alloc o) B A l := h.below ((Below.refl _ _).alloc (Nat.le_refl _) _)
theorem heap_at {W : World} {o : Obj} {g : Nat} (e : g = W.heap.size) : (W.alloc o).heap[g]? = some o := by subst e; exact heap_alloc_new _ _
theorem heap_before {W : World} {o o' : Obj} {g : Nat} (h : W.heap[g]? = some o') : (W.alloc o).heap[g]? = some o' := by
  rw [heap_alloc_old _ _ (Array.getElem?_eq_some_iff.1 h).1]; exact h
theorem step_app_lit {W : World} {ops : Array Oper} {o : Oper} {a : Act} {K : Act → World → Prop} {Q : Exit → Act → World → Prop} {E : Prop} (hgd : o.guard = none) (s x : Operand)
    (ho : o.op = .call { callee := .builtin .append, args := #[s, x], argTypes := #[22, 22] }) (base : Nat) {g : Nat} (hs : a.eval s = .slice (some ⟨g, 0, none⟩) 0 0) (hg : W.heap[g]? = some (.cells #[] 43 (0, 0)))
    {B : Nat} {A : Option Addr} {c : Nat} {l : List Fact} (hx : a.eval x = .slice A l.length c) (hR : RF W B A l) (hl : l.length ≤ 100000000) (hbase : base ≤ g)
    (h : ∀ A' c' w', OwnF w' base A' c' l → Below base W w' → (∀ k j, k ≠ g → k < W.heap.size → w'.cell? ⟨k, j, none⟩ = W.cell? ⟨k, j, none⟩) → K (a.put o.dst (.slice A' l.length c')) w') :
    if Region.wanted o (yielded ops a.tmps) = true then Oper.wp Try.prog o a W K Q else E := by
  obtain ⟨i0, hi0, hz0, hz1, hz2⟩ := info_parts info_fact
  have hgs : g < W.heap.size := (Array.getElem?_eq_some_iff.1 hg).1
  have hown : W.ownsRow base 43 5 (.slice (some ⟨g, 0, none⟩) 0 0) 0 [] := ⟨rfl, .inr ⟨g, 0, #[], rfl, hbase, hg, Nat.le_refl _, by unfold maxLen; omega, rfl, rfl⟩⟩
  refine step_append_any W hgd s x _ ho base _ i0 _ 5 40 Try.underlying22 hi0 hz0 hz1 hz2 rfl (by omega) _ 0 [] hs hown B A l.length c (cellsF l) hx hR.2 (cellsF_one l) (by unfold maxLen; omega) (by omega) (by omega) ?_
  intro v' w' own' hgr hat
  obtain ⟨A', c', rfl⟩ := own_shape own'
  rw [Nat.zero_add, List.nil_append] at own'
  rw [Nat.zero_add]
  refine h A' c' w' own' ((Below.refl _ _).grown hgr (by omega) (fun k hk => by simp [Value.ownBlock] at hk; omega)) (fun k j hk hlt => ?_)
  exact hgr.cell_far ⟨k, j, none⟩ hlt (by simp [Value.ownBlock]; exact hk)
theorem news_far {W w2 : World} {k : Nat} {cs : Array Value} {t : TypeId} (hb : W.heap[k]? = some (.cells cs t (0, 0))) (hf : ∀ j, w2.cell? ⟨k, j, none⟩ = W.cell? ⟨k, j, none⟩) : ∀ j u, cs.toList[j]? = some u → w2.cell? ((⟨k, 0, none⟩ : Addr).add j) = some u := by
  intro j u hu
  have := World.news_of_block hb j u hu
  have hadd : (⟨k, 0, none⟩ : Addr).add j = ⟨k, j, none⟩ := by unfold Addr.add; split <;> simp_all
  rw [hadd] at this ⊢
  rw [hf]; exact this

set_option maxRecDepth 100000 in
set_option maxHeartbeats 1600000 in
theorem addX_any (l : List Fact) (f : Fact) (hl : l.length ≤ 100000000) (A : Option Addr) (c B : Nat) (w : World) (hR : RF w B A l) :
    Calls Try.prog 25 #[.slice A l.length c, .agg #[.int .i64 f.at_, .int .i64 f.ch, .int .i64 f.fr, .int .i64 f.un, .int .i64 f.me]] w (RetF w (addR l f) (addE l f)) := by
  obtain ⟨R, hRR⟩ : ∃ R, R = addR l f := ⟨_, rfl⟩
  obtain ⟨E, hE⟩ : ∃ E, E = addE l f := ⟨_, rfl⟩
  rw [← hRR, ← hE]
  have HR := Lib.hid hRR
  have HE := Lib.hid hE
  clear hRR hE
  have hx0 : Below (w.heap.size + 1) (w.alloc (.cells #[.int .i64 f.at_, .int .i64 f.ch, .int .i64 f.fr, .int .i64 f.un, .int .i64 f.me] 43)) (w.alloc (.cells #[.int .i64 f.at_, .int .i64 f.ch, .int .i64 f.fr, .int .i64 f.un, .int .i64 f.me] 43)) := Below.refl _ _
  obtain ⟨bx, _, _, hy0⟩ := blk_facts hx0 (by omega)
  go_enter Try.func25, Try.ntmps25
  go_wp2_with fail
  refine (validate_any l A c B _ (hR.below hy0) (by omega)).mono ?_
  rintro e w1 ⟨rfl, hb1⟩
  have hx1 := hx0.trans (hb1.mono (by simp))
  clear bx hb1
  obtain ⟨bx, _, bz, hy1⟩ := blk_facts hx1 (by omega)
  by_cases hv : vld l = 0
  · have hv1 : (vld l != 0) = false := by simp [hv]
    have HV := Lib.hid hv
    have q0 : w1.cell? ⟨w.heap.size, 0, none⟩ = some (.int .i64 f.at_) := by rw [bx]; rfl
    have q1 : w1.cell? ⟨w.heap.size, 1, none⟩ = some (.int .i64 f.ch) := by rw [bx]; rfl
    have q2 : w1.cell? ⟨w.heap.size, 2, none⟩ = some (.int .i64 f.fr) := by rw [bx]; rfl
    have q3 : w1.cell? ⟨w.heap.size, 3, none⟩ = some (.int .i64 f.un) := by rw [bx]; rfl
    have q4 : w1.cell? ⟨w.heap.size, 4, none⟩ = some (.int .i64 f.me) := by rw [bx]; rfl
    have hR1 := hR.below hy1
    clear hv bx hx0 hy0 hx1
    go_wp2_with fail
    go_cut [7] (fun s wx => ∃ A' c', s = .slice A' (l.length + 1) c' ∧ OwnF wx w.heap.size A' c' (l ++ [f]) ∧ Below w.heap.size w wx)
    case first =>
      go_region_held3 (fun w' => w'.cell? ⟨w.heap.size, 0, none⟩ = some (.int .i64 f.at_) ∧ w'.cell? ⟨w.heap.size, 1, none⟩ = some (.int .i64 f.ch) ∧ w'.cell? ⟨w.heap.size, 2, none⟩ = some (.int .i64 f.fr) ∧ w'.cell? ⟨w.heap.size, 3, none⟩ = some (.int .i64 f.un) ∧ w'.cell? ⟨w.heap.size, 4, none⟩ = some (.int .i64 f.me))
        (first | go_keep | (go_split_ands; refine ⟨?_, ?_, ?_, ?_, ?_⟩ <;> (rw [(hb3 _ (Nat.le_refl _)).cell (by simp; omega)]; go_keep)) | (go_split_ands; refine ⟨?_, ?_, ?_, ?_, ?_⟩ <;> (rw [hb2.cell (by simp; omega)]; go_keep)))
        (first
          | (go_at_call 69; refine (clone_any l (by omega) A c B _ ?_).mono ?_; (repeat (first | exact hR1 | refine RF.drew ?_ | refine RF.alloc ?_ _)); rintro e w2 ⟨A', c', rfl, own2, hb2⟩)
          | (refine step_app2 (by rfl) _ _ (by rfl) Try.underlying22 info_fact rfl (by omega) (by rfl) (World.ownsRow.alloc own2 (.cells #[.int .i64 f.at_, .int .i64 f.ch, .int .i64 f.fr, .int .i64 f.un, .int .i64 f.me] 43)) (news := f.vals) ⟨w2.heap.size, 0, none⟩ (by rfl) (by rfl) (World.news_of_block (cs := #[.int .i64 f.at_, .int .i64 f.ch, .int .i64 f.fr, .int .i64 f.un, .int .i64 f.me]) (t := 43) (fr := (0, 0)) (heap_alloc_new w2 _)) (by simp [Fact.vals, Value.oneCell']) (by omega) (by omega) (by have := hb2.size; simp at this ⊢; omega) ?_; intro A3 c3 w3 own3 hb3 hk3)
          | (refine step_app2 (by rfl) _ _ (by rfl) Try.underlying22 info_fact rfl (by omega) (by rfl) own2 (news := f.vals) ⟨w1.heap.size, 0, none⟩ (by rfl) (by rfl) (fun j u hu => (hb2.cell (by rw [block_of_add]; simp)).trans (World.news_of_block (w := w1.drew.alloc (.cells #[.int .i64 f.at_, .int .i64 f.ch, .int .i64 f.fr, .int .i64 f.un, .int .i64 f.me] 43)) (cs := #[.int .i64 f.at_, .int .i64 f.ch, .int .i64 f.fr, .int .i64 f.un, .int .i64 f.me]) (t := 43) (fr := (0, 0)) (heap_alloc_new w1.drew _) j u hu)) (by simp [Fact.vals, Value.oneCell']) (by omega) (by omega) (by have := hb2.size; simp at this ⊢; omega) ?_; intro A3 c3 w3 own3 hb3 hk3))
      · go_wp2_with fail
        go_meet
        exact ⟨A3, c3, rfl, OwnF.more (own_base own3 (by exact hy1.size)), hy1.drew.trans ((hb2.mono (by simp; omega)).trans ((((Below.refl _ _).alloc (by have := hb2.size; simp at this; omega) _)).trans (hb3 w.heap.size (by simp; omega))))⟩
      · go_wp2_with fail
        go_meet
        exact ⟨A3, c3, rfl, OwnF.more (own_base own3 (by simp; omega)), hy1.trans (((Below.refl _ _).drew.alloc (by exact hy1.size) _).trans ((hb2.mono (by simp; omega)).trans (hb3 w.heap.size (by simp; omega))))⟩
    case rest =>
      obtain ⟨A3, c3, rfl, own, hbl⟩ := hcut
      have hl1 : (l ++ [f]).length = l.length + 1 := by simp
      have hva := validate_any (l ++ [f]) A3 c3 _ _ own.reads (by omega)
      rw [hl1] at hva
      have HVA := Lib.hid hva
      have HL1 := Lib.hid hl1
      clear hva hl1
      go_wp2_with fail
      refine HVA.out.mono ?_
      rintro e w4 ⟨rfl, hb4⟩
      have hy4 := hbl.trans (hb4.mono hbl.size)
      have own4 := own.kept hb4
      have hEv : E = vld (l ++ [f]) := by rw [HE.out, addE, if_neg (by rw [HV.out]; simp)]
      by_cases hv2 : vld (l ++ [f]) = 0
      · have hv3 : (vld (l ++ [f]) != 0) = false := by simp [hv2]
        have hRv : R = l ++ [f] := by rw [HR.out, addR, if_pos ⟨HV.out, hv2⟩]
        have HEV := Lib.hid (hEv.trans hv2)
        have HRV := Lib.hid hRv
        clear hEv hv2 hRv
        go_wp2
        go_ret2
        exact ⟨A3, c3, ret2 (by rw [HRV.out, HL1.out]; rfl) (by rw [HEV.out]; rfl), by rw [HRV.out]; exact own4, hy4⟩
      · have hv3 : (vld (l ++ [f]) != 0) = true := by simp [hv2]
        have hRv : R = [] := by rw [HR.out, addR, if_neg (by rintro ⟨_, h⟩; exact hv2 h)]
        have HEV := Lib.hid hEv
        have HRV := Lib.hid hRv
        clear hEv hv2 hRv
        go_wp2
        go_ret2
        exact ⟨none, 0, ret2 (by rw [HRV.out]; rfl) (by rw [HEV.out]; rfl), by rw [HRV.out]; exact World.ownsRow_nil _ _ _ _, hy4⟩
  · have hv1 : (vld l != 0) = true := by simp [hv]
    have hEv : E = vld l := by rw [HE.out, addE, if_pos hv]
    have hRv : R = [] := by rw [HR.out, addR, if_neg (by rintro ⟨h, _⟩; exact hv h)]
    have HEV := Lib.hid hEv
    have HRV := Lib.hid hRv
    clear hEv hv hRv
    go_wp2
    go_ret2
    exact ⟨none, 0, ret2 (by rw [HRV.out]; rfl) (by rw [HEV.out]; rfl), by rw [HRV.out]; exact World.ownsRow_nil _ _ _ _, hy1⟩

set_option maxRecDepth 100000 in
set_option maxHeartbeats 1600000 in
theorem raddX_any (l : List Fact) (f : Fact) (hl : l.length ≤ 100000000) (A : Option Addr) (c B : Nat) (w : World) (hR : RF w B A l) :
    Calls Try.prog 26 #[.slice A l.length c, .agg #[.int .i64 f.at_, .int .i64 f.ch, .int .i64 f.fr, .int .i64 f.un, .int .i64 f.me]] w (RetF w (addR l f) (addE l f)) := by
  obtain ⟨R, hRR⟩ : ∃ R, R = addR l f := ⟨_, rfl⟩
  obtain ⟨E, hE⟩ : ∃ E, E = addE l f := ⟨_, rfl⟩
  rw [← hRR, ← hE]
  have HR := Lib.hid hRR
  have HE := Lib.hid hE
  clear hRR hE
  have hx0 : Below (w.heap.size + 1) (w.alloc (.cells #[.int .i64 f.at_, .int .i64 f.ch, .int .i64 f.fr, .int .i64 f.un, .int .i64 f.me] 43)) (w.alloc (.cells #[.int .i64 f.at_, .int .i64 f.ch, .int .i64 f.fr, .int .i64 f.un, .int .i64 f.me] 43)) := Below.refl _ _
  obtain ⟨bx, _, _, hy0⟩ := blk_facts hx0 (by omega)
  go_enter Try.func26, Try.ntmps26
  go_wp2_with fail
  refine (rvalidate_any l A c B _ (hR.below hy0) (by omega)).mono ?_
  rintro e w1 ⟨rfl, hb1⟩
  have hx1 := hx0.trans (hb1.mono (by simp))
  clear bx hb1
  obtain ⟨bx, _, bz, hy1⟩ := blk_facts hx1 (by omega)
  by_cases hv : vld l = 0
  · have hv1 : (vld l != 0) = false := by simp [hv]
    have HV := Lib.hid hv
    have q0 : w1.cell? ⟨w.heap.size, 0, none⟩ = some (.int .i64 f.at_) := by rw [bx]; rfl
    have q1 : w1.cell? ⟨w.heap.size, 1, none⟩ = some (.int .i64 f.ch) := by rw [bx]; rfl
    have q2 : w1.cell? ⟨w.heap.size, 2, none⟩ = some (.int .i64 f.fr) := by rw [bx]; rfl
    have q3 : w1.cell? ⟨w.heap.size, 3, none⟩ = some (.int .i64 f.un) := by rw [bx]; rfl
    have q4 : w1.cell? ⟨w.heap.size, 4, none⟩ = some (.int .i64 f.me) := by rw [bx]; rfl
    have hR1 := hR.below hy1
    clear hv bx hx0 hy0 hx1
    go_wp2_with fail
    go_cut [7] (fun s wx => ∃ A' c', s = .slice A' (l.length + 1) c' ∧ OwnF wx w.heap.size A' c' (l ++ [f]) ∧ Below w.heap.size w wx)
    case first =>
      go_region_held3 (fun w' => w'.cell? ⟨w.heap.size, 0, none⟩ = some (.int .i64 f.at_) ∧ w'.cell? ⟨w.heap.size, 1, none⟩ = some (.int .i64 f.ch) ∧ w'.cell? ⟨w.heap.size, 2, none⟩ = some (.int .i64 f.fr) ∧ w'.cell? ⟨w.heap.size, 3, none⟩ = some (.int .i64 f.un) ∧ w'.cell? ⟨w.heap.size, 4, none⟩ = some (.int .i64 f.me))
        (first | go_keep | (go_split_ands; refine ⟨?_, ?_, ?_, ?_, ?_⟩ <;> (rw [(hb3 _ (Nat.le_refl _)).cell (by simp; omega)]; go_keep)) | (go_split_ands; refine ⟨?_, ?_, ?_, ?_, ?_⟩ <;> (rw [hfar2 _ _ (by omega) (by simp; omega)]; go_keep)))
        (first
          | (refine step_app_lit (by rfl) _ _ (by rfl) w1.heap.size (g := w1.heap.size) (by rfl) (by first | exact heap_at (by simp) | exact heap_before (heap_at (by simp))) (B := B) (A := A) (c := c) (l := l) (by rfl) (by (repeat (first | exact hR1 | refine RF.drew ?_ | refine RF.alloc ?_ _))) hl (by omega) ?_; intro A2 c2 w2 own2 hb2 hfar2)
          | (refine step_app_lit (by rfl) _ _ (by rfl) w1.heap.size (g := w1.heap.size + 1) (by rfl) (by first | exact heap_at (by simp) | exact heap_before (heap_at (by simp))) (B := B) (A := A) (c := c) (l := l) (by rfl) (by (repeat (first | exact hR1 | refine RF.drew ?_ | refine RF.alloc ?_ _))) hl (by omega) ?_; intro A2 c2 w2 own2 hb2 hfar2)
          | (refine step_app2 (by rfl) _ _ (by rfl) Try.underlying22 info_fact rfl (by omega) (by rfl) (World.ownsRow.alloc own2 (.cells #[.int .i64 f.at_, .int .i64 f.ch, .int .i64 f.fr, .int .i64 f.un, .int .i64 f.me] 43)) (news := f.vals) ⟨w2.heap.size, 0, none⟩ (by rfl) (by rfl) (World.news_of_block (cs := #[.int .i64 f.at_, .int .i64 f.ch, .int .i64 f.fr, .int .i64 f.un, .int .i64 f.me]) (t := 43) (fr := (0, 0)) (heap_alloc_new w2 _)) (by simp [Fact.vals, Value.oneCell']) (by omega) (by omega) (by have := hb2.size; simp at this ⊢; omega) ?_; intro A3 c3 w3 own3 hb3 hk3)
          | (refine step_app2 (by rfl) _ _ (by rfl) Try.underlying22 info_fact rfl (by omega) (by rfl) own2 (news := f.vals) ⟨w1.heap.size + 1, 0, none⟩ (by rfl) (by rfl) (news_far (cs := #[.int .i64 f.at_, .int .i64 f.ch, .int .i64 f.fr, .int .i64 f.un, .int .i64 f.me]) (t := 43) (by first | exact heap_at (by simp) | exact heap_before (heap_at (by simp))) (fun j => hfar2 (w1.heap.size + 1) j (by omega) (by simp <;> omega))) (by simp [Fact.vals, Value.oneCell']) (by omega) (by omega) (by have := hb2.size; simp at this ⊢; omega) ?_; intro A3 c3 w3 own3 hb3 hk3)
          | (refine step_app2 (by rfl) _ _ (by rfl) Try.underlying22 info_fact rfl (by omega) (by rfl) own2 (news := f.vals) ⟨w1.heap.size, 0, none⟩ (by rfl) (by rfl) (news_far (cs := #[.int .i64 f.at_, .int .i64 f.ch, .int .i64 f.fr, .int .i64 f.un, .int .i64 f.me]) (t := 43) (by first | exact heap_at (by simp) | exact heap_before (heap_at (by simp))) (fun j => hfar2 (w1.heap.size) j (by omega) (by simp <;> omega))) (by simp [Fact.vals, Value.oneCell']) (by omega) (by omega) (by have := hb2.size; simp at this ⊢; omega) ?_; intro A3 c3 w3 own3 hb3 hk3))
      · go_wp2_with fail
        go_meet
        exact ⟨A3, c3, rfl, OwnF.more (own_base own3 (by exact hy1.size)), hy1.trans ((((Below.refl _ _).alloc hy1.size _).drew).trans ((hb2.mono hy1.size).trans ((((Below.refl _ _).alloc (by have := hb2.size; simp at this; omega) _)).trans (hb3 w.heap.size (by exact hy1.size)))))⟩
      · go_wp2_with fail
        go_meet
        exact ⟨A3, c3, rfl, OwnF.more (own_base own3 (by exact hy1.size)), hy1.trans (((((Below.refl _ _).alloc hy1.size _).alloc (by simp; omega) _).drew).trans ((hb2.mono hy1.size).trans (hb3 w.heap.size (by exact hy1.size))))⟩
      · go_wp2_with fail
        go_meet
        exact ⟨A3, c3, rfl, OwnF.more (own_base own3 (by exact hy1.size)), hy1.trans (((((Below.refl _ _).alloc hy1.size _).alloc (by simp; omega) _).drew).trans ((hb2.mono hy1.size).trans (hb3 w.heap.size (by exact hy1.size))))⟩
    case rest =>
      obtain ⟨A3, c3, rfl, own, hbl⟩ := hcut
      have hl1 : (l ++ [f]).length = l.length + 1 := by simp
      have hva := rvalidate_any (l ++ [f]) A3 c3 _ _ own.reads (by omega)
      rw [hl1] at hva
      have HVA := Lib.hid hva
      have HL1 := Lib.hid hl1
      clear hva hl1
      go_wp2_with fail
      refine HVA.out.mono ?_
      rintro e w4 ⟨rfl, hb4⟩
      have hy4 := hbl.trans (hb4.mono hbl.size)
      have own4 := own.kept hb4
      have hEv : E = vld (l ++ [f]) := by rw [HE.out, addE, if_neg (by rw [HV.out]; simp)]
      by_cases hv2 : vld (l ++ [f]) = 0
      · have hv3 : (vld (l ++ [f]) != 0) = false := by simp [hv2]
        have hRv : R = l ++ [f] := by rw [HR.out, addR, if_pos ⟨HV.out, hv2⟩]
        have HEV := Lib.hid (hEv.trans hv2)
        have HRV := Lib.hid hRv
        clear hEv hv2 hRv
        go_wp2
        go_ret2
        exact ⟨A3, c3, ret2 (by rw [HRV.out, HL1.out]; rfl) (by rw [HEV.out]; rfl), by rw [HRV.out]; exact own4, hy4⟩
      · have hv3 : (vld (l ++ [f]) != 0) = true := by simp [hv2]
        have hRv : R = [] := by rw [HR.out, addR, if_neg (by rintro ⟨_, h⟩; exact hv2 h)]
        have HEV := Lib.hid hEv
        have HRV := Lib.hid hRv
        clear hEv hv2 hRv
        go_wp2
        go_ret2
        exact ⟨none, 0, ret2 (by rw [HRV.out]; rfl) (by rw [HEV.out]; rfl), by rw [HRV.out]; exact World.ownsRow_nil _ _ _ _, hy4⟩
  · have hv1 : (vld l != 0) = true := by simp [hv]
    have hEv : E = vld l := by rw [HE.out, addE, if_pos hv]
    have hRv : R = [] := by rw [HR.out, addR, if_neg (by rintro ⟨h, _⟩; exact hv h)]
    have HEV := Lib.hid hEv
    have HRV := Lib.hid hRv
    clear hEv hv hRv
    go_wp2
    go_ret2
    exact ⟨none, 0, ret2 (by rw [HRV.out]; rfl) (by rw [HEV.out]; rfl), by rw [HRV.out]; exact World.ownsRow_nil _ _ _ _, hy1⟩

end Go.Proofs.Ytoopmancobfjeaa
