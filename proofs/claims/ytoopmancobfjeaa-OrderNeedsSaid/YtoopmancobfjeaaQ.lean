/-
  Walks: the reference's Needless; without needless facts the same is known.
-/
import Derived.Test.YtoopmancobfjeaaP
namespace Go.Proofs.Ytoopmancobfjeaa
set_option linter.unusedVariables false
set_option linter.unusedSimpArgs false
open Go.RowKit

theorem RF.drewN {w : World} {B : Nat} {A : Option Addr} {l : List Fact} (h : RF w B A l) (n : Nat) : RF (w.drewN n) B A l := h.below (below_drewN (Below.refl _ _) n)

set_option maxRecDepth 100000 in
set_option maxHeartbeats 1600000 in
theorem rneedlessX_any (l : List Fact) (hl : l.length ≤ 100000000) (A0 : Option Addr) (c0 B : Nat) (w : World) (hR : RF w B A0 l) :
    Calls Try.prog 41 #[.slice A0 l.length c0] w (RetIn w (neR l) (vld l)) := by
  obtain ⟨L, hL⟩ : ∃ L, L = neR l := ⟨_, rfl⟩
  rw [← hL]
  have HL := Lib.hid hL; clear hL
  go_enter Try.func41, Try.ntmps41
  go_wp2_with fail
  refine (rvalidate_any l A0 c0 B _ hR (by omega)).mono ?_
  rintro e w1 ⟨rfl, hb1⟩
  by_cases hv : vld l = 0
  · have hV := Vld.of hv
    have hlen := hV.len
    have hv1 : (vld l != 0) = false := by simp [hv]
    have hLL : L = neTo l l.length := by rw [HL.out, neR, if_pos hv]
    have HLL := Lib.hid hLL; clear hLL
    have HV := Lib.hid hv; clear hv
    go_wp2
    go_loopw [5, 6] (fun o x wr => ∃ k : Nat, k ≤ l.length ∧ x = .int .i64 k ∧ ∃ A c, o = .slice A (neTo l k).length c ∧ OwnN wr w.heap.size A c (neTo l k) ∧ Below w.heap.size w wr) (fun _ x _ => l.length - (intOf x).toNat)
    case atStart => exact ⟨0, by omega, rfl, none, 0, rfl, World.ownsRow_nil _ _ _ _, hb1⟩
    case round =>
      obtain ⟨k, hk, rfl, A, c, rfl, own, hbl⟩ := hrel
      obtain ⟨wo, rfl⟩ : ∃ wo : World, wo = wr := ⟨_, rfl⟩
      have hnl := neTo_le l k
      by_cases hlt : k < l.length
      · obtain ⟨ad, rfl, hab, c0', c1, c2, c3, c4⟩ := (hR.below hbl).at_ hlt
        obtain ⟨q1, q2, q3, q4, q5, q6, q7, q8, q9⟩ := (right_iff _).1 (hV.right k hlt)
        clear q1 q2 q3 q4 q8 q9
        go_wp2
        go_loopw [7, 8] (fun u y wi => ∃ n : Nat, n ≤ ((gf l k).un - (gf l k).fr).toNat ∧ ∃ (b : Bool) (d : Int), u = .bool b ∧ y = .int .i64 d ∧ (gf l k).fr ≤ d ∧ d ≤ (gf l k).un ∧ Hid (d = (gf l k).fr + n) ∧ Hid (b = usedTo l k n) ∧ Below wo.heap.size wo wi)
          (fun _ y _ => 1000 - (intOf y).toNat)
        case atStart => exact ⟨0, by omega, false, (gf l k).fr, rfl, rfl, by omega, by omega, by show (gf l k).fr = _ + ((0 : Nat) : Int); omega, rfl, Below.refl _ _⟩
        case round =>
          clear c0' c1 c2 c3 c4 hab
          obtain ⟨n, hn, b, d, rfl, rfl, hd1, hd2, HD, HB, hx⟩ := hrel
          have hbi := hbl.trans (hx.mono hbl.size)
          obtain ⟨ad', e', hab, c0', c1, c2, c3, c4⟩ := (hR.below hbi).at_ hlt
          cases e'
          by_cases hdu : d < (gf l k).un
          · cases b with
            | false =>
              have hd0 : 0 ≤ d := by omega
              have q10 : (0 : Int) ≤ (k : Int) := Int.natCast_nonneg _
              have q11 : (k : Int) < (l.length : Int) := by omega
              have hnx : usedTo l k (n + 1) = (rsn l (gf l k).at_ (gf l k).ch d == (k : Int)) := by
                simp only [usedTo]; rw [← HB.out, Bool.false_or, isRsn, ← HD.out]
              have HNX := Lib.hid hnx
              clear hnx
              go_wp2_with fail
              go_quiet ((go_at_call 75; exact Calls.quiet_of_same (rreason_any l _ _ _ (by omega) (some ad) c0 B _ ((hR.below hbi).drewN _))))
              go_wp2
              go_roundw
              case rel => exact ⟨n + 1, by have := HD.out; omega, _, d + 1, rfl, by go_num, by omega, by omega, by have := HD.out; show d + 1 = _ + ((n + 1 : Nat) : Int); omega, HNX.out.symm, below_drewN hx _⟩
              case measure => simp [intOf]; omega
            | true =>
              have hu := usedTo_uB (HB.out.symm) hn
              have hs := neTo_yes l k hu
              have HS := Lib.hid hs; clear hs hu
              go_wp2
              go_roundw
              case rel => exact ⟨k + 1, by omega, by go_num, A, c, by rw [HS.out], by rw [HS.out]; exact own.kept hx, hbi⟩
              case measure => simp [intOf]; omega
          · have hnN : n = ((gf l k).un - (gf l k).fr).toNat := by have := HD.out; omega
            have hub : b = uB l k := by rw [HB.out, hnN]; rfl
            have HUB := Lib.hid hub
            clear hnN hub
            have own2 := own.kept hx
            have hbs := hbi.size
            cases b with
            | true =>
              have hs := neTo_yes l k HUB.out.symm
              have HS := Lib.hid hs; clear hs
              go_wp2
              go_roundw
              case rel => exact ⟨k + 1, by omega, by go_num, A, c, by rw [HS.out], by rw [HS.out]; exact own2, hbi⟩
              case measure => simp [intOf]; omega
            | false =>
              have hs := neTo_no l k HUB.out.symm
              have HS := Lib.hid hs; clear hs
              go_wp2_with (at_builtin; refine wpList_app1 rfl _ _ rfl Try.underlying53 info_int rfl (by omega) rfl own2 rfl rfl (by simp [Value.oneCell']) (by omega) (by omega) (by omega) ?_; intro A' c' w3 own3 hb3)
              go_roundw
              case rel => exact ⟨k + 1, by omega, by go_num, A', c', by rw [HS.out, List.length_append]; rfl, OwnN.snoc own3 rfl HS.out, hbi.trans (hb3 _ (Nat.le_refl _))⟩
              case measure => simp [intOf]; omega
      · have hkl : k = l.length := by omega
        have HKL := Lib.hid hkl; clear hkl
        go_wp2
        go_ret2
        exact ⟨A, c, ret2 (by rw [HLL.out, ← HKL.out]; rfl) (by rw [HV.out]; rfl), by rw [HLL.out, ← HKL.out]; exact own, hbl⟩
  · have hv1 : (vld l != 0) = true := by simp [hv]
    have hLL : L = [] := by rw [HL.out, neR, if_neg hv]
    have HLL := Lib.hid hLL; clear hLL hv
    go_wp2
    go_ret2
    exact ⟨none, 0, ret2 (by rw [HLL.out]; rfl) rfl, by rw [HLL.out]; exact World.ownsRow_nil _ _ _ _, hb1⟩

/-! ### plain -/
def restTo (l : List Fact) : Nat → List Fact
  | 0 => []
  | k + 1 => if uB l k then restTo l k ++ [gf l k] else restTo l k
theorem restTo_yes (l : List Fact) (k : Nat) (h : uB l k = true) : restTo l (k + 1) = restTo l k ++ [gf l k] := by simp [restTo, h]
theorem restTo_no (l : List Fact) (k : Nat) (h : uB l k = false) : restTo l (k + 1) = restTo l k := by simp [restTo, h]
theorem restTo_le (l : List Fact) (k : Nat) : (restTo l k).length ≤ k := by
  induction k with
  | zero => simp [restTo]
  | succ k ih =>
    simp only [restTo]; split
    · rw [List.length_append]; simp; omega
    · omega
theorem gf_append_left (a b : List Fact) (i : Nat) (h : i < a.length) : gf (a ++ b) i = gf a i := by simp [gf, h, List.getElem?_append_left h]
theorem gf_append_last (a : List Fact) (f : Fact) : gf (a ++ [f]) a.length = f := by simp [gf]
theorem restTo_mem (l : List Fact) (k : Nat) : ∀ i, i < (restTo l k).length → ∃ j, j < k ∧ gf (restTo l k) i = gf l j := by
  induction k with
  | zero => intro i hi; simp [restTo] at hi
  | succ k ih =>
    intro i hi
    cases hq : uB l k with
    | true =>
      rw [restTo_yes l k hq] at hi ⊢
      by_cases e : i < (restTo l k).length
      · rw [gf_append_left _ _ _ e]
        obtain ⟨j, h1, h2⟩ := ih i e
        exact ⟨j, by omega, h2⟩
      · have e' : i = (restTo l k).length := by simp at hi; omega
        rw [e', gf_append_last]
        exact ⟨k, by omega, rfl⟩
    | false =>
      rw [restTo_no l k hq] at hi ⊢
      obtain ⟨j, h1, h2⟩ := ih i hi
      exact ⟨j, by omega, h2⟩
theorem restTo_sorted {l : List Fact} (hV : Vld l) (k : Nat) (hk : k ≤ l.length) : ∀ i j, i ≤ j → j < (restTo l k).length → (gf (restTo l k) i).at_ ≤ (gf (restTo l k) j).at_ := by
  induction k with
  | zero => intro i j _ hj; simp [restTo] at hj
  | succ k ih =>
    intro i j hij hj
    cases hq : uB l k with
    | true =>
      rw [restTo_yes l k hq] at hj ⊢
      by_cases ej : j < (restTo l k).length
      · rw [gf_append_left _ _ _ ej, gf_append_left _ _ _ (by omega)]
        exact ih (by omega) i j hij ej
      · have e' : j = (restTo l k).length := by simp at hj; omega
        rw [e', gf_append_last]
        by_cases ei : i < (restTo l k).length
        · rw [gf_append_left _ _ _ ei]
          obtain ⟨m, h1, h2⟩ := restTo_mem l k i ei
          rw [h2]; exact hV.sorted m k (by omega) (by omega)
        · have : i = (restTo l k).length := by omega
          rw [this, gf_append_last]; exact Int.le_refl _
    | false =>
      rw [restTo_no l k hq] at hj ⊢
      exact ih (by omega) i j hij hj
theorem rest_valid {l : List Fact} (hV : Vld l) : Vld (restTo l l.length) := by
  refine ⟨by have := restTo_le l l.length; have := hV.len; omega, fun i hi => ?_, restTo_sorted hV _ (Nat.le_refl _)⟩
  obtain ⟨j, h1, h2⟩ := restTo_mem l l.length i hi
  rw [h2]; exact hV.right j h1
theorem restTo_tail (l : List Fact) (k : Nat) : ∀ n, ∃ s : List Fact, restTo l (k + n) = restTo l k ++ s ∧ ∀ f ∈ s, ∃ j, k ≤ j ∧ j < k + n ∧ f = gf l j
  | 0 => ⟨[], by simp, by simp⟩
  | n + 1 => by
    obtain ⟨s, h1, h2⟩ := restTo_tail l k n
    cases hq : uB l (k + n) with
    | true =>
      refine ⟨s ++ [gf l (k + n)], by rw [← Nat.add_assoc, restTo_yes l _ hq, h1, List.append_assoc], fun f hf => ?_⟩
      rcases List.mem_append.1 hf with hf | hf
      · obtain ⟨j, a, b, c⟩ := h2 f hf
        exact ⟨j, a, by omega, c⟩
      · simp only [List.mem_singleton] at hf
        exact ⟨k + n, by omega, by omega, hf⟩
    | false =>
      refine ⟨s, by rw [← Nat.add_assoc, restTo_no l _ hq, h1], fun f hf => ?_⟩
      obtain ⟨j, a, b, c⟩ := h2 f hf
      exact ⟨j, a, by omega, c⟩
/-- The last fact that tells. -/
theorem rsn_spec (l : List Fact) (t c d : Int) (k : Nat) : (rsnTo l t c d k = -1 ∧ ∀ i, i < k → hit (gf l i) t c d = false) ∨ (∃ i, i < k ∧ rsnTo l t c d k = (i : Nat) ∧ hit (gf l i) t c d = true ∧ ∀ j, i < j → j < k → hit (gf l j) t c d = false) := by
  induction k with
  | zero => exact .inl ⟨rfl, fun i hi => by omega⟩
  | succ k ih =>
    cases hq : hit (gf l k) t c d with
    | true => exact .inr ⟨k, by omega, rsnTo_hit _ _ _ _ _ hq, hq, fun j h1 h2 => by omega⟩
    | false =>
      rw [rsnTo_miss _ _ _ _ _ hq]
      rcases ih with ⟨a, b⟩ | ⟨i, a, b, c', d'⟩
      · refine .inl ⟨a, fun i hi => ?_⟩
        by_cases e : i = k
        · subst e; exact hq
        · exact b i (by omega)
      · refine .inr ⟨i, by omega, b, c', fun j h1 h2 => ?_⟩
        by_cases e : j = k
        · subst e; exact hq
        · exact d' j h1 (by omega)
theorem knw_last (a s : List Fact) (f : Fact) (t c d : Int) (hf : hit f t c d = true) (hs : ∀ g ∈ s, hit g t c d = false) : knw (a ++ f :: s) t c d = f.me := by
  have e0 : gf (a ++ f :: s) a.length = f := by simp [gf]
  have h1 : rsn (a ++ f :: s) t c d = a.length := by
    unfold rsn
    have e : (a ++ f :: s).length = (a.length + 1) + s.length := by simp; omega
    rw [e, rsnTo_of_none _ _ _ _ _ s.length, rsnTo_hit _ _ _ _ _ (by rw [e0]; exact hf)]
    intro i h1 h2
    refine hs _ ?_
    have e2 : gf (a ++ f :: s) i = s[i - (a.length + 1)]'(by omega) := by
      have h3 : (a ++ f :: s)[i]? = s[i - (a.length + 1)]? := by
        rw [List.getElem?_append_right (by omega)]
        have : i - a.length = (i - (a.length + 1)) + 1 := by omega
        rw [this, List.getElem?_cons_succ]
      simp only [gf, List.getD]
      rw [h3, List.getElem?_eq_getElem (by omega)]
      rfl
    rw [e2]; exact List.getElem_mem _
  unfold knw fMe
  rw [h1, if_neg (by omega), Int.toNat_natCast, e0]
theorem used_of_rsn {l : List Fact} (hV : Vld l) {t c d : Int} {i : Nat} (hi : i < l.length) (hh : hit (gf l i) t c d = true) (hlast : ∀ j, i < j → j < l.length → hit (gf l j) t c d = false) : uB l i = true := by
  simp only [hit, Bool.and_eq_true, covB_iff, decide_eq_true_eq] at hh
  obtain ⟨h1, h2, h3, h4⟩ := hh
  have hr : rsn l (gf l i).at_ (gf l i).ch d = i := by
    have key := rsn_spec l (gf l i).at_ (gf l i).ch d l.length
    have hself : hit (gf l i) (gf l i).at_ (gf l i).ch d = true := Bool.and_eq_true_iff.2 ⟨decide_eq_true (Int.le_refl _), (covB_iff _ _ _).2 ⟨rfl, h3, h4⟩⟩
    rcases key with ⟨_, b⟩ | ⟨j, a, b, c', d'⟩
    · rw [b i hi] at hself; cases hself
    · have hji : j = i := by
        rcases Nat.lt_trichotomy j i with h | h | h
        · rw [d' i h hi] at hself; cases hself
        · exact h
        · exfalso
          have hx := hlast j h a
          simp only [hit, Bool.and_eq_true, covB_iff, decide_eq_true_eq] at c'
          obtain ⟨k1, k2, k3, k4⟩ := c'
          have : hit (gf l j) t c d = true := Bool.and_eq_true_iff.2 ⟨decide_eq_true (Int.le_trans k1 h1), (covB_iff _ _ _).2 ⟨by rw [k2, h2], k3, k4⟩⟩
          rw [hx] at this; cases this
      unfold rsn; rw [b, hji]
  refine (usedTo_iff _ _ _).2 ⟨(d - (gf l i).fr).toNat, by omega, ?_⟩
  unfold isRsn
  rw [show (gf l i).fr + ((d - (gf l i).fr).toNat : Int) = d by omega, hr]
  simp
theorem rest_same {l : List Fact} (hV : Vld l) (t c d : Int) : knw (restTo l l.length) t c d = knw l t c d := by
  rcases rsn_spec l t c d l.length with ⟨a, b⟩ | ⟨i, a, b, hh, hl⟩
  · have h1 : knw l t c d = 0 := by unfold knw rsn; rw [a]; simp [fMe]
    rw [h1]
    refine knw_of_hits (fun i hi hh => ?_) (.inr rfl)
    obtain ⟨j, h2, h3⟩ := restTo_mem l l.length i hi
    rw [h3, b j h2] at hh; cases hh
  · have h1 : knw l t c d = (gf l i).me := by unfold knw rsn; rw [b]; unfold fMe; rw [if_neg (by omega), Int.toNat_natCast]
    have hu := used_of_rsn hV a hh hl
    obtain ⟨n, hn⟩ := Nat.le.dest (show i + 1 ≤ l.length by omega)
    obtain ⟨s, e1, e2⟩ := restTo_tail l (i + 1) n
    rw [h1, ← hn, e1, restTo_yes l i hu, List.append_assoc]
    refine knw_last _ _ _ _ _ _ hh fun g hg => ?_
    obtain ⟨j, j1, j2, rfl⟩ := e2 g hg
    exact hl j (by omega) (by omega)
theorem rest_known {l : List Fact} (h : vld l = 0) (t c d : Int) : knownR (restTo l l.length) t c d = knownR l t c d ∧ askE (restTo l l.length) c d = askE l c d := by
  have hV := Vld.of h
  have hv2 := (rest_valid hV).to
  have ha : askE (restTo l l.length) c d = askE l c d := by unfold askE askd; rw [h, hv2]
  refine ⟨?_, ha⟩
  unfold knownR
  rw [ha, rest_same hV]
theorem neTo_tail (l : List Fact) (k : Nat) : ∀ n, ∃ s : List Int, neTo l (k + n) = neTo l k ++ s ∧ ∀ y ∈ s, (k : Int) ≤ y
  | 0 => ⟨[], by simp, by simp⟩
  | n + 1 => by
    obtain ⟨s, h1, h2⟩ := neTo_tail l k n
    cases hq : uB l (k + n) with
    | true => exact ⟨s, by rw [← Nat.add_assoc, neTo_yes l _ hq, h1], h2⟩
    | false =>
      refine ⟨s ++ [((k + n : Nat) : Int)], by rw [← Nat.add_assoc, neTo_no l _ hq, h1, List.append_assoc], fun y hy => ?_⟩
      rcases List.mem_append.1 hy with hy | hy
      · exact h2 y hy
      · simp only [List.mem_singleton] at hy; omega
/-- At the place behind the needless ones before k stands k, if it is needless, and else nothing or a greater number. -/
theorem ne_at {l : List Fact} {k : Nat} (hk : k < l.length) : (uB l k = false → (neTo l k).length < (neTo l l.length).length ∧ gi (neTo l l.length) (neTo l k).length = k) ∧
    (uB l k = true → (neTo l k).length < (neTo l l.length).length → gi (neTo l l.length) (neTo l k).length ≠ k) := by
  obtain ⟨n, hn⟩ := Nat.le.dest (show k + 1 ≤ l.length by omega)
  obtain ⟨s, h1, h2⟩ := neTo_tail l (k + 1) n
  rw [← hn, h1]
  constructor
  · intro hq
    rw [neTo_no l k hq]
    refine ⟨by simp, ?_⟩
    simp [gi]
  · intro hq
    rw [neTo_yes l k hq]
    intro hlt he
    have hs : 0 < s.length := by simp at hlt; omega
    have e : gi (neTo l k ++ s) (neTo l k).length = s[0] := by simp [gi, hs]
    have := h2 s[0] (List.getElem_mem _)
    rw [e] at he
    omega

end Go.Proofs.Ytoopmancobfjeaa
