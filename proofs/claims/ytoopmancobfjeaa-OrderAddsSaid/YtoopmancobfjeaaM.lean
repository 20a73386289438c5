/-
  Walks: History; by the facts up to a minute the same is known.
-/
import Derived.Test.YtoopmancobfjeaaL
namespace Go.Proofs.Ytoopmancobfjeaa
set_option linter.unusedVariables false
set_option linter.unusedSimpArgs false
open Go.RowKit

def histTo (l : List Fact) (child day : Int) : Nat → List Fact
  | 0 => []
  | k + 1 => if covB (gf l k) child day then histTo l child day k ++ [gf l k] else histTo l child day k
theorem histTo_yes (l : List Fact) (c d : Int) (k : Nat) (h : covB (gf l k) c d = true) : histTo l c d (k + 1) = histTo l c d k ++ [gf l k] := by simp [histTo, h]
theorem histTo_no (l : List Fact) (c d : Int) (k : Nat) (h : covB (gf l k) c d = false) : histTo l c d (k + 1) = histTo l c d k := by simp [histTo, h]
theorem histTo_le (l : List Fact) (c d : Int) (k : Nat) : (histTo l c d k).length ≤ k := by
  induction k with
  | zero => simp [histTo]
  | succ k ih =>
    simp only [histTo]; split
    · rw [List.length_append]; simp; omega
    · omega
def histR (l : List Fact) (c d : Int) : List Fact := if askE l c d = 0 then histTo l c d l.length else []

set_option maxRecDepth 100000 in
set_option maxHeartbeats 1600000 in
theorem historyX_any (l : List Fact) (child day : Int) (hl : l.length ≤ 100000000) (A0 : Option Addr) (c0 B : Nat) (w : World) (hR : RF w B A0 l) :
    Calls Try.prog 42 #[.slice A0 l.length c0, .int .i64 child, .int .i64 day] w (RetF w (histR l child day) (askE l child day)) := by
  obtain ⟨E, hE⟩ : ∃ E, E = askE l child day := ⟨_, rfl⟩
  have HE1 : Hid (askd l (inB child 0 99 && inB day 0 999) = E) := hE.symm
  obtain ⟨L, hL⟩ : ∃ L, L = histR l child day := ⟨_, rfl⟩
  rw [← hL, ← hE]
  have hneg : ¬ E = 0 → L = [] := fun h0 => by rw [hL, histR, if_neg (fun h => h0 (hE.trans h))]
  have hpos : E = 0 → L = histTo l child day l.length := fun h0 => by rw [hL, histR, if_pos (hE.symm.trans h0)]
  have HNEG := Lib.hid hneg
  have HPOS := Lib.hid hpos
  clear hneg hpos hL hE
  go_enter Try.func42, Try.ntmps42
  go_wp2_with fail
  refine (isChild_any _ _).mono ?_
  rintro e w0 ⟨rfl, rfl⟩
  obtain ⟨b1, hb1⟩ : ∃ b, b = inB child 0 99 := ⟨_, rfl⟩
  rw [← hb1]
  rw [← hb1] at HE1
  clear hb1
  cases b1 with
  | true =>
    go_wp2_with (go_at_call 72; refine (isDay_any _ _).mono ?_; rintro e w' ⟨rfl, rfl⟩)
    refine (asked_any l _ A0 c0 B _ hR (by omega)).mono ?_
    rintro e w1 ⟨rfl, hb1⟩
    rw [show inB day 0 999 = (true && inB day 0 999) by simp, HE1.out]
    by_cases h0 : E = 0
    · have hLL := HPOS.out h0
      have HLL := Lib.hid hLL
      have hE0 : (E != 0) = false := by simp [h0]
      have H0 := Lib.hid h0
      clear h0 hLL
      go_wp2
      go_loopw [9, 25] (fun o x wr => ∃ k : Nat, k ≤ l.length ∧ x = .int .i64 k ∧ ∃ A c, o = .slice A (histTo l child day k).length c ∧ OwnF wr w'.heap.size A c (histTo l child day k) ∧ Below w'.heap.size w' wr) (fun _ x _ => l.length - (intOf x).toNat)
      case atStart => exact ⟨0, by omega, rfl, none, 0, rfl, World.ownsRow_nil _ _ _ _, hb1⟩
      case round =>
        obtain ⟨k, hk, rfl, A, c, rfl, own, hbl⟩ := hrel
        by_cases hlt : k < l.length
        · obtain ⟨ad, rfl, hab, c0', c1, c2, c3, c4⟩ := (hR.below hbl).at_ (k := k) (by omega)
          have hll := histTo_le l child day k
          go_wp2_with fail
          refine (covers_any _ _ _ _ _ _ _ _).mono ?_
          rintro e w2 ⟨rfl, hb2⟩
          obtain ⟨⟨b0, b1, b2, b3, b4⟩, hz2, hb2'⟩ := box5 hb2 (by simp)
          have own2 := own.kept hb2'
          have hbl2 := hbl.trans (hb2'.mono hbl.size)
          have hbs := hbl2.size
          clear c0' c1 c2 c3 c4 hb2 own hb2'
          cases hq : covB (gf l k) child day with
          | true =>
            have hq' : covN (gf l k).ch (gf l k).fr (gf l k).un child day = true := hq
            have hs := histTo_yes l child day k hq
            have HS := Lib.hid hs; clear hs
            go_wp2_with (at_builtin; refine wpList_app1 rfl _ _ rfl Try.underlying22 info_fact rfl (by omega) rfl own2 rfl rfl (by simp [Value.oneCell']) (by omega) (by omega) (by omega) ?_; intro A' c' w3 own3 hb3)
            go_roundw
            case rel => exact ⟨k + 1, by omega, by go_num, A', c', by rw [HS.out, List.length_append]; rfl, OwnF.snoc own3 rfl HS.out, hbl2.trans (hb3 _ (Nat.le_refl _))⟩
            case measure => simp [intOf]; omega
          | false =>
            have hq' : covN (gf l k).ch (gf l k).fr (gf l k).un child day = false := hq
            have hs := histTo_no l child day k hq
            have HS := Lib.hid hs; clear hs
            go_wp2
            go_roundw
            case rel => exact ⟨k + 1, by omega, by go_num, A, c, by rw [HS.out], by rw [HS.out]; exact own2, hbl2⟩
            case measure => simp [intOf]; omega
        · have hkl : k = l.length := by omega
          have HKL := Lib.hid hkl; clear hkl
          go_wp2
          go_ret2
          exact ⟨A, c, ret2 (by rw [HLL.out, ← HKL.out]; rfl) (by rw [H0.out]; rfl), by rw [HLL.out, ← HKL.out]; exact own, hbl⟩
    · have hE0 : (E != 0) = true := by simp [h0]
      have HN := Lib.hid (HNEG.out h0)
      clear h0
      go_wp2
      go_ret2
      exact ⟨none, 0, ret2 (by rw [HN.out]; rfl) rfl, by rw [HN.out]; exact World.ownsRow_nil _ _ _ _, hb1⟩
  | false =>
    go_wp2_with fail
    refine (asked_any l _ A0 c0 B _ hR (by omega)).mono ?_
    rintro e w1 ⟨rfl, hb1⟩
    rw [show askd l false = E by rw [← HE1.out]; rfl]
    have h0 : ¬ E = 0 := by rw [← HE1.out]; intro h; have := (askd_ok h).2; simp at this
    have hE0 : (E != 0) = true := by simp [h0]
    have HN := Lib.hid (HNEG.out h0)
    clear h0
    go_wp2
    go_ret2
    exact ⟨none, 0, ret2 (by rw [HN.out]; rfl) rfl, by rw [HN.out]; exact World.ownsRow_nil _ _ _ _, hb1⟩

set_option maxRecDepth 100000 in
set_option maxHeartbeats 1600000 in
theorem rhistoryX_any (l : List Fact) (child day : Int) (hl : l.length ≤ 100000000) (A0 : Option Addr) (c0 B : Nat) (w : World) (hR : RF w B A0 l) :
    Calls Try.prog 43 #[.slice A0 l.length c0, .int .i64 child, .int .i64 day] w (RetF w (histR l child day) (askE l child day)) := by
  obtain ⟨E, hE⟩ : ∃ E, E = askE l child day := ⟨_, rfl⟩
  have HE1 : Hid (askd l (inB child 0 99 && inB day 0 999) = E) := hE.symm
  obtain ⟨L, hL⟩ : ∃ L, L = histR l child day := ⟨_, rfl⟩
  rw [← hL, ← hE]
  have hneg : ¬ E = 0 → L = [] := fun h0 => by rw [hL, histR, if_neg (fun h => h0 (hE.trans h))]
  have hpos : E = 0 → L = histTo l child day l.length := fun h0 => by rw [hL, histR, if_pos (hE.symm.trans h0)]
  have HNEG := Lib.hid hneg
  have HPOS := Lib.hid hpos
  clear hneg hpos hL hE
  go_enter Try.func43, Try.ntmps43
  go_wp2_with fail
  refine (rasked_any l _ _ A0 c0 B _ hR (by omega)).mono ?_
  rintro e w1 ⟨rfl, hb1⟩
  rw [HE1.out]
  by_cases h0 : E = 0
  · have hLL := HPOS.out h0
    have HLL := Lib.hid hLL
    have hE0 : (E != 0) = false := by simp [h0]
    have H0 := Lib.hid h0
    clear h0 hLL
    go_wp2
    go_loopw [9, 10] (fun o x wr => ∃ k : Nat, k ≤ l.length ∧ x = .int .i64 k ∧ ∃ A c, o = .slice A (histTo l child day k).length c ∧ OwnF wr w.heap.size A c (histTo l child day k) ∧ Below w.heap.size w wr) (fun _ x _ => l.length - (intOf x).toNat)
    case atStart => exact ⟨0, by omega, rfl, none, 0, rfl, World.ownsRow_nil _ _ _ _, hb1⟩
    case round =>
      obtain ⟨k, hk, rfl, A, c, rfl, own, hbl⟩ := hrel
      by_cases hlt : k < l.length
      · obtain ⟨ad, rfl, hab, c0', c1, c2, c3, c4⟩ := (hR.below hbl).at_ (k := k) (by omega)
        have hll := histTo_le l child day k
        have hbs := hbl.size
        cases hq : covB (gf l k) child day with
        | true =>
          obtain ⟨q1, q2, q3⟩ := (covB_iff _ _ _).1 hq
          have q1' : ((gf l k).ch == child) = true := by simp [q1]
          have hs := histTo_yes l child day k hq
          have HS := Lib.hid hs; clear hs q1 hq
          go_wp2_with (at_builtin; refine wpList_app1 rfl _ _ rfl Try.underlying22 info_fact rfl (by omega) rfl own rfl rfl (by simp [Value.oneCell']) (by omega) (by omega) (by omega) ?_; intro A' c' w3 own3 hb3)
          go_roundw
          case rel => exact ⟨k + 1, by omega, by go_num, A', c', by rw [HS.out, List.length_append]; rfl, OwnF.snoc own3 rfl HS.out, hbl.trans (hb3 _ (Nat.le_refl _))⟩
          case measure => simp [intOf]; omega
        | false =>
          have hs := histTo_no l child day k hq
          have hn := (covB_not _ _ _).1 hq
          have HS := Lib.hid hs
          have HN := Lib.hid hn
          clear hs hn hq
          go_wp2
          all_goals first
            | exact absurd ⟨‹_›, ‹_›, ‹_›⟩ HN.out
            | (go_roundw
               case rel => exact ⟨k + 1, by omega, by go_num, A, c, by rw [HS.out], by rw [HS.out]; exact own, hbl⟩
               case measure => simp [intOf]; omega)
      · have hkl : k = l.length := by omega
        have HKL := Lib.hid hkl; clear hkl
        go_wp2
        go_ret2
        exact ⟨A, c, ret2 (by rw [HLL.out, ← HKL.out]; rfl) (by rw [H0.out]; rfl), by rw [HLL.out, ← HKL.out]; exact own, hbl⟩
  · have hE0 : (E != 0) = true := by simp [h0]
    have HN := Lib.hid (HNEG.out h0)
    clear h0
    go_wp2
    go_ret2
    exact ⟨none, 0, ret2 (by rw [HN.out]; rfl) rfl, by rw [HN.out]; exact World.ownsRow_nil _ _ _ _, hb1⟩

/-! ### plain: by the facts up to a minute the same is known -/
theorem cut_exists {l : List Fact} (hV : Vld l) (t : Int) : ∃ n, IsCut l t n := by
  have key : ∀ k, k ≤ l.length → ∃ n, n ≤ k ∧ (∀ i, i < n → (gf l i).at_ ≤ t) ∧ (∀ i, n ≤ i → i < k → t < (gf l i).at_) := by
    intro k
    induction k with
    | zero => intro _; exact ⟨0, Nat.le_refl _, fun i hi => by omega, fun i h1 h2 => by omega⟩
    | succ k ih =>
      intro hk
      obtain ⟨n, h1, h2, h3⟩ := ih (by omega)
      by_cases hq : (gf l k).at_ ≤ t
      · exact ⟨k + 1, Nat.le_refl _, fun i hi => Int.le_trans (hV.sorted i k (by omega) (by omega)) hq, fun i a b => by omega⟩
      · refine ⟨n, by omega, h2, fun i a b => ?_⟩
        by_cases e : i = k
        · subst e; omega
        · exact h3 i a (by omega)
  obtain ⟨n, h1, h2, h3⟩ := key l.length (Nat.le_refl _)
  exact ⟨n, h1, h2, h3⟩
theorem rsnTo_congr (l m : List Fact) (t c d : Int) (k : Nat) (h : ∀ i, i < k → gf l i = gf m i) : rsnTo l t c d k = rsnTo m t c d k := by
  induction k with
  | zero => rfl
  | succ k ih => simp only [rsnTo]; rw [ih fun i hi => h i (by omega), h k (by omega)]
theorem Vld.take {l : List Fact} (hV : Vld l) (n : Nat) : Vld (l.take n) := by
  have e : ∀ i, i < (l.take n).length → gf (l.take n) i = gf l i ∧ i < l.length := fun i hi => by
    rw [List.length_take] at hi
    exact ⟨gf_take l n i (by omega), by omega⟩
  refine ⟨by rw [List.length_take]; have := hV.len; omega, fun i hi => ?_, fun i j hij hj => ?_⟩
  · rw [(e i hi).1]; exact hV.right i (e i hi).2
  · rw [(e i (by omega)).1, (e j hj).1]; exact hV.sorted i j hij (e j hj).2
theorem until_same {l : List Fact} (h : vld l = 0) (t c d : Int) : knownR (untilR l t) t c d = knownR l t c d ∧ askE (untilR l t) c d = askE l c d ∧ (untilR l t).length ≤ 60 := by
  have hV := Vld.of h
  obtain ⟨n, hcut⟩ := cut_exists hV t
  have hu : untilR l t = l.take n := by
    have e := untTo_cut hcut l.length (Nat.le_refl _)
    rw [untilR, if_pos h, e, List.take_of_length_le (by rw [List.length_take]; omega)]
  have hv2 := (hV.take n).to
  have hlen : (l.take n).length = n := by rw [List.length_take]; have := hcut.1; omega
  have ha : askE (l.take n) c d = askE l c d := by unfold askE askd; rw [h, hv2]
  have hr : rsn (l.take n) t c d = rsn l t c d := by
    rw [rsn_cut hcut]
    unfold rsn
    rw [hlen]
    exact rsnTo_congr _ _ _ _ _ _ fun i hi => gf_take l n i hi
  have hk : knw (l.take n) t c d = knw l t c d := by
    unfold knw
    rw [hr]
    have hb := rsnTo_bd l t c d n
    rw [rsn_cut hcut]
    unfold fMe
    split
    · rfl
    · rw [gf_take l n _ (by omega)]
  rw [hu]
  refine ⟨?_, ha, by have := hV.len; rw [List.length_take]; omega⟩
  unfold knownR
  rw [ha, hk]

end Go.Proofs.Ytoopmancobfjeaa
