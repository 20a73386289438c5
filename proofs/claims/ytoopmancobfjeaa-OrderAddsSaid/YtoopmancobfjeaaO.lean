/-
  Walks: the reference's Compact.
-/
import Derived.Test.YtoopmancobfjeaaN
namespace Go.Proofs.Ytoopmancobfjeaa
set_option linter.unusedVariables false
set_option linter.unusedSimpArgs false
open Go.RowKit

/-- As wpList_app2, in a region that draws its order: the world is whatever it is. -/
theorem step_app2 {P : Program} {W : World} {ops : Array Oper} {o : Oper} {a : Act} {K : Act → World → Prop} {Q : Exit → Act → World → Prop} {E : Prop} (hgd : o.guard = none) (s x : Operand) {t e : TypeId}
    (ho : o.op = .call { callee := .builtin .append, args := #[s, x], argTypes := #[t, t] }) {z : Value} {size bytes : Nat} (ht : P.underlying t = some (.slice e))
    (hinfo : (P.info? e).map (fun i => (i.zero, i.size, i.bytes)) = some (some z, size, bytes)) (hzs : z.cells.size = size) (hsz : 0 < size)
    {base : Nat} {A : Option Addr} {n c : Nat} {xs : List Value} (hs : a.eval s = .slice A n c) (hown : W.ownsRow base e size (.slice A n c) n xs)
    {news : List Value} (ad : Addr) (hx : a.eval x = .slice (some ad) 1 1) (hl : news.length = size) (hnews : ∀ j u, news[j]? = some u → W.cell? (ad.add j) = some u) (h1 : ∀ u ∈ news, u.oneCell' = true)
    (hn : n + 1 ≤ 1000000000) (hbytes : bytes ≤ 1000) (hbase : base ≤ W.heap.size)
    (h : ∀ A' c' w', w'.ownsRow base e size (.slice A' (n + 1) c') (n + 1) (xs ++ news) → (∀ B, B ≤ base → Below B W w') →
      (∀ (b2 e2 s2 n2 : Nat) (v2 : Value) (xs2 : List Value), W.ownsRow b2 e2 s2 v2 n2 xs2 → e2 ≠ e → w'.ownsRow b2 e2 s2 v2 n2 xs2) → K (a.put o.dst (.slice A' (n + 1) c')) w') :
    if Region.wanted o (yielded ops a.tmps) = true then Oper.wp P o a W K Q else E := by
  have hw : Region.wanted o (yielded ops a.tmps) = true := by simp [Region.wanted, hgd]
  rw [if_pos hw]
  obtain ⟨i, hi, hz0, hz1, hz2⟩ := info_parts hinfo
  have hb : (n + 1) * bytes ≤ 140737488355328 := by
    have : (n + 1) * bytes ≤ 1000000000 * 1000 := Nat.mul_le_mul hn hbytes
    omega
  refine wp_append_own W s x t ho base e i z size bytes ht hi hz0 hz1 hz2 hzs hsz _ n xs hs hown ad 1 1 news hx (by omega) hnews h1 (by unfold maxLen; omega) hb hbase ?_
  intro v' w' hown' hg _
  obtain ⟨A', c', hv⟩ := own_shape hown'
  rw [hv] at hown' ⊢
  refine h A' c' w' hown' (fun B hB => ?_) (fun b2 e2 s2 n2 v2 xs2 h2 hne => ?_)
  · exact (Below.refl B W).grown hg (by omega) (fun k hk => by have := hown.lt k hk; omega)
  · exact h2.kept hg (own_ne h2 hown hne)

theorem spn_cells {w : World} {base c gb j : Nat} {S : List Sp} (h : OwnS w base (some ⟨gb, 0, none⟩) c S) (hj : j < S.length) :
    w.cell? ⟨gb, j * 3, none⟩ = some (.int .i64 (gs S j).fr) ∧ w.cell? ⟨gb, j * 3 + 1, none⟩ = some (.int .i64 (gs S j).un) ∧ w.cell? ⟨gb, j * 3 + 2, none⟩ = some (.int .i64 (gs S j).me) := by
  obtain ⟨gb', e, _, _, hc, _⟩ := h.last (by omega)
  cases e
  exact hc j hj

def namedTo (l : List Fact) (c : Int) : Nat → Bool
  | 0 => false
  | k + 1 => namedTo l c k || ((gf l k).ch == c)
theorem namedTo_iff (l : List Fact) (c : Int) (k : Nat) : namedTo l c k = true ↔ ∃ i, i < k ∧ (gf l i).ch = c := by
  induction k with
  | zero => simp [namedTo]
  | succ k ih =>
    simp only [namedTo, Bool.or_eq_true, ih, beq_iff_eq]
    constructor
    · rintro (⟨i, hi, h⟩ | h)
      · exact ⟨i, by omega, h⟩
      · exact ⟨k, by omega, h⟩
    · rintro ⟨i, hi, h⟩
      by_cases e : i = k
      · subst e; exact .inr h
      · exact .inl ⟨i, by omega, h⟩

set_option maxRecDepth 100000 in
set_option maxHeartbeats 400000 in
theorem named_any (l : List Fact) (child : Int) (hl : l.length ≤ 1000000000) (A : Option Addr) (c B : Nat) (w : World) (hR : RF w B A l) :
    Calls Try.prog 76 #[.slice A l.length c, .int .i64 child] w fun e w' => e = .returned (.bool (namedTo l child l.length)) ∧ w = w' := by
  obtain ⟨N, hN⟩ : ∃ N, N = namedTo l child l.length := ⟨_, rfl⟩
  rw [← hN]
  have HN := Lib.hid hN; clear hN
  go_enter Try.func76, Try.ntmps76
  go_wp2
  go_loop [5] (fun x => ∃ k : Nat, k ≤ l.length ∧ x = .int .i64 k ∧ Hid (namedTo l child k = false)) (fun x => l.length - (intOf x).toNat)
  case atStart => exact ⟨0, by omega, rfl, rfl⟩
  case round =>
    obtain ⟨k, hk, rfl, HK⟩ := hrel
    by_cases hlt : k < l.length
    · obtain ⟨ad, rfl, hab, c0, c1, c2, c3, c4⟩ := hR.at_ hlt
      cases hq : ((gf l k).ch == child) with
      | true =>
        have hy : N = true := by rw [HN.out, namedTo_iff]; exact ⟨k, hlt, by simpa using hq⟩
        have HY := Lib.hid hy; clear hy
        go_wp2
        go_ret
        exact ⟨ret_bool (by rw [HY.out]), rfl⟩
      | false =>
        have hnx : namedTo l child (k + 1) = false := by simp only [namedTo, HK.out, hq]; rfl
        have HNX := Lib.hid hnx; clear hnx
        go_wp2
        go_round
        case rel => exact ⟨k + 1, by omega, by go_num, HNX⟩
        case measure => simp [intOf]; omega
    · have hy : N = false := by rw [HN.out, show l.length = k by omega]; exact HK.out
      have HY := Lib.hid hy; clear hy
      go_wp2
      go_ret
      exact ⟨ret_bool (by rw [HY.out]), rfl⟩

theorem spans_unnamed {l : List Fact} {c : Int} (h : namedTo l c l.length = false) (t : Int) : spansL l t c = [] := by
  have h0 : ∀ d : Int, knw l t c d = 0 := by
    intro d
    refine knw_of_hits (fun i hi hh => ?_) (.inr rfl)
    have : namedTo l c l.length = true := (namedTo_iff _ _ _).2 ⟨i, hi, by
      simp only [hit, Bool.and_eq_true, covB_iff] at hh; exact hh.2.1⟩
    rw [h] at this; cases this
  have key : ∀ k, spTo (fun d => knw l t c d) (fun d => decide (0 < knw l t c d)) k = [] := by
    intro k
    induction k with
    | zero => rfl
    | succ k ih => rw [spTo_skip _ _ _ (by rw [h0]; rfl), ih]
  exact key 1000

set_option maxRecDepth 100000 in
set_option maxHeartbeats 1600000 in
theorem rcompactX_any (l : List Fact) (t : Int) (hl : l.length ≤ 100000000) (A0 : Option Addr) (c0 B : Nat) (w : World) (hR : RF w B A0 l) :
    Calls Try.prog 39 #[.slice A0 l.length c0, .int .i64 t] w (RetF w (cpR l t) (cpE l t)) := by
  obtain ⟨L, hL⟩ : ∃ L, L = cpR l t := ⟨_, rfl⟩
  obtain ⟨E, hE⟩ : ∃ E, E = cpE l t := ⟨_, rfl⟩
  rw [← hL, ← hE]
  have h1 : ¬ vld l = 0 → E = vld l ∧ L = [] := fun h => by
    have e1 : E = vld l := by rw [hE, cpE, if_neg h]
    exact ⟨e1, by rw [hL, cpR, if_neg (by rw [← hE, e1]; exact h)]⟩
  obtain ⟨M, hM⟩ : ∃ M, M = cpTo l t 100 := ⟨_, rfl⟩
  have h2 : vld l = 0 → 60 < M.length → E = 4 ∧ L = [] := fun h h' => by
    have e1 : E = 4 := by rw [hE, cpE, if_pos h, ← hM, if_pos h']
    exact ⟨e1, by rw [hL, cpR, if_neg (by rw [← hE, e1]; decide)]⟩
  have h3 : vld l = 0 → ¬ 60 < M.length → E = 0 ∧ L = M := fun h h' => by
    have e1 : E = 0 := by rw [hE, cpE, if_pos h, ← hM, if_neg h']
    exact ⟨e1, by rw [hL, cpR, if_pos (by rw [← hE, e1]), hM]⟩
  have H1 := Lib.hid h1
  have H2 := Lib.hid h2
  have H3 := Lib.hid h3
  have HM := Lib.hid hM
  clear h1 h2 h3 hL hE hM
  go_enter Try.func39, Try.ntmps39
  go_wp2_with fail
  refine (rvalidate_any l A0 c0 B _ hR (by omega)).mono ?_
  rintro e w1 ⟨rfl, hb1⟩
  by_cases hv : vld l = 0
  · have hV := Vld.of hv
    have hv1 : (vld l != 0) = false := by simp [hv]
    have HV := Lib.hid hv; clear hv
    go_wp2
    go_loopw [7, 8] (fun o x wr => ∃ k : Nat, k ≤ 100 ∧ x = .int .i64 k ∧ ∃ A c, o = .slice A (cpTo l t k).length c ∧ OwnF wr w.heap.size A c (cpTo l t k) ∧ Below w.heap.size w wr) (fun _ x _ => 100 - (intOf x).toNat)
    case atStart => exact ⟨0, by omega, rfl, none, 0, rfl, World.ownsRow_nil _ _ _ _, hb1⟩
    case round =>
      obtain ⟨k, hk, rfl, A, c, rfl, own, hbl⟩ := hrel
      obtain ⟨wo, rfl⟩ : ∃ wo : World, wo = wr := ⟨_, rfl⟩
      have hcl := cpTo_le l t k
      by_cases hlt : k < 100
      · have hnext : cpTo l t (k + 1) = cpTo l t k ++ (spansL l t k).map (cpFact k) := rfl
        have HNX := Lib.hid hnext
        clear hnext
        go_wp2_with fail
        refine (named_any l k (by omega) A0 c0 B _ (hR.below hbl)).mono ?_
        rintro e w2 ⟨rfl, rfl⟩
        cases hnm : namedTo l k l.length with
        | false =>
          have hsp := spans_unnamed hnm t
          have hsame : cpTo l t (k + 1) = cpTo l t k := by rw [HNX.out, hsp]; simp
          have HSAME := Lib.hid hsame
          clear hnm hsp hsame HNX
          go_wp2
          go_roundw
          case rel => exact ⟨k + 1, by omega, by go_num, A, c, by rw [HSAME.out], by rw [HSAME.out]; exact own, hbl⟩
          case measure => simp [intOf]; omega
        | true =>
          clear hnm
          go_wp2_with fail
          refine (rordered_any l t k hV A0 c0 B _ (hR.below hbl)).mono ?_
          rintro e w2 ⟨A2, c2, rfl, own2, hb2⟩
          have own3 := own.kept hb2
          have hbl2 := hbl.trans (hb2.mono hbl.size)
          clear own hb2 hbl
          have hsl := spansL_le l t k
          obtain ⟨S, hS⟩ : ∃ S, S = spansL l t k := ⟨_, rfl⟩
          rw [← hS] at own2 hsl HNX ⊢
          clear hS
          obtain ⟨C, hC⟩ : ∃ C, C = cpTo l t k := ⟨_, rfl⟩
          rw [← hC] at own3 hcl HNX ⊢
          clear hC
          go_wp2
          go_loopw [7, 10] (fun o y wi => ∃ j : Nat, j ≤ S.length ∧ y = .int .i64 j ∧ ∃ A c n, o = .slice A n c ∧ n = C.length + j ∧ OwnF wi w.heap.size A c (C ++ (S.take j).map (cpFact k)) ∧ OwnS wi wo.heap.size A2 c2 S ∧ Below w.heap.size w wi) (fun _ y _ => S.length - (intOf y).toNat)
          case atStart => exact ⟨0, by omega, rfl, A, c, _, rfl, rfl, by simpa using own3, own2, hbl2⟩
          case round =>
            clear own3 own2 hbl2
            obtain ⟨j, hj, rfl, A3, c3, n, rfl, hn, own, own2, hbl⟩ := hrel
            have hlen : (C ++ (S.take j).map (cpFact k)).length = C.length + j := by simp; omega
            by_cases hjl : j < S.length
            · obtain ⟨gb, rfl, hgb1, hgb2, hcs, -⟩ := own2.last (by omega)
              obtain ⟨d0, d1, d2⟩ := hcs j hjl
              clear hcs
              have hbs := hbl.size
              have own' := own
              unfold OwnF at own'
              rw [hlen, ← hn] at own'
              have hnb : n ≤ 200000 := by omega
              have HLEN := Lib.hid hlen
              have HN := Lib.hid hn
              clear hlen hn own
              have q0 : (0 : Int) ≤ (j : Int) := Int.natCast_nonneg _
              have q1 : (j : Int) < (S.length : Int) := by omega
              go_wp2_with fail
              go_region_held3 (fun w' => w'.cell? ⟨gb, j * 3, none⟩ = some (.int .i64 (gs S j).fr) ∧ w'.cell? ⟨gb, j * 3 + 1, none⟩ = some (.int .i64 (gs S j).un) ∧ w'.cell? ⟨gb, j * 3 + 2, none⟩ = some (.int .i64 (gs S j).me))
                (first | go_keep | (exact spn_cells (hk3 _ _ _ _ _ _ (World.ownsRow.drew (World.ownsRow.alloc own2 _)) (by decide)) hjl))
                ((refine step_app2 (by rfl) _ _ (by rfl) Try.underlying22 info_fact rfl (by omega) (by rfl) ((World.ownsRow.alloc own' (.cells #[.int .i64 0, .int .i64 (k : Nat), .int .i64 (gs S j).fr, .int .i64 (gs S j).un, .int .i64 (gs S j).me] 43)).drew) (news := (cpFact k (gs S j)).vals) ⟨wr.heap.size, 0, none⟩ (by rfl) (by rfl) (World.news_of_block (cs := #[.int .i64 0, .int .i64 (k : Nat), .int .i64 (gs S j).fr, .int .i64 (gs S j).un, .int .i64 (gs S j).me]) (t := 43) (fr := (0, 0)) (heap_alloc_new wr _)) (by simp [Fact.vals, Value.oneCell']) (by omega) (by omega) (by simp; omega) ?_; intro A' c' w3 own3 hb3 hk3))
              have hb4 := hbl.trans (((Below.refl w.heap.size wr).alloc hbs _).drew.trans (hb3 w.heap.size (Nat.le_refl _)))
              have own4 : OwnS w3 wo.heap.size (some ⟨gb, 0, none⟩) c2 S := hk3 _ _ _ _ _ _ (World.ownsRow.drew (World.ownsRow.alloc own2 _)) (by decide)
              go_wp2
              go_roundw
              case rel => exact ⟨j + 1, by omega, by go_num, A', c', n + 1, rfl, by have := HN.out; omega, by rw [cells_map_take _ _ _ hjl, ← List.append_assoc]; exact OwnF.snoc own3 (by rw [HLEN.out, HN.out]) rfl, own4, hb4⟩
              case measure => simp [intOf]; omega
            · have hjS : S.take j = S := List.take_of_length_le (by omega)
              rw [hjS] at own
              have HN := Lib.hid hn
              have HLEN := Lib.hid hlen
              clear hn hlen hjS
              go_wp2
              go_roundw
              case rel => exact ⟨k + 1, by omega, by go_num, A3, c3, by rw [HNX.out, List.length_append, List.length_map, HN.out]; congr 1; omega, by rw [HNX.out]; exact own, hbl⟩
              case measure => simp [intOf]; omega
      · have hkM : cpTo l t k = M := by rw [HM.out, show k = 100 by omega]
        rw [hkM] at own hcl ⊢
        clear hkM
        by_cases hbig : 60 < M.length
        · have HX := Lib.hid (H2.out HV.out hbig)
          go_wp2
          go_ret2
          exact ⟨none, 0, ret2 (by rw [HX.out.2]; rfl) (by rw [HX.out.1]; rfl), by rw [HX.out.2]; exact World.ownsRow_nil _ _ _ _, hbl⟩
        · have HX := Lib.hid (H3.out HV.out hbig)
          go_wp2
          go_ret2
          exact ⟨A, c, ret2 (by rw [HX.out.2]; rfl) (by rw [HX.out.1]; rfl), by rw [HX.out.2]; exact own, hbl⟩
  · have hv1 : (vld l != 0) = true := by simp [hv]
    have HX := Lib.hid (H1.out hv)
    clear hv
    go_wp2
    go_ret2
    exact ⟨none, 0, ret2 (by rw [HX.out.2]; rfl) (by rw [HX.out.1]; rfl), by rw [HX.out.2]; exact World.ownsRow_nil _ _ _ _, hb1⟩

end Go.Proofs.Ytoopmancobfjeaa
