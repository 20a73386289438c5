import Derived.Test.YtiapkffihpgdcaaGreatDoorPk5
import Derived.Test.YtiapkffihpgdcaaGreatDoorPk6
import Derived.WalkKit
import Derived.WalkSpells
import Derived.WalkLawsBesides
import Derived.Handy
import Derived.Deep.QuietTactic
import Derived.BigQuiet
import Derived.Lib.Hide
import Derived.Below
import Derived.Laws.OwnMore
import Derived.Deep.AppendLies
import Derived.Deep.Draws
import Derived.Deep.DeepMust
import Derived.Deep.DeepFit
import Derived.Deep.LoopGhost
import Derived.Deep.DeepCutAuto
/-
  The plain mathematics of tables of orders, the rest.
-/
namespace Go.Proofs.YtiapkffihpgdcaaGreatDoor
set_option linter.unusedVariables false
set_option linter.unusedSimpArgs false

def stretchB (f t : Int) : Bool := decide (0 ≤ f ∧ f < t ∧ t ≤ 1000)
def leq1 (a t : Int) : Int := if a ≤ t then -1 else 1
theorem leq1_yes {a t : Int} (h : a ≤ t) : leq1 a t = -1 := by unfold leq1; rw [if_pos h]
theorem leq1_no {a t : Int} (h : t < a) : leq1 a t = 1 := by unfold leq1; rw [if_neg (by omega)]
/-- How far the search has come. -/
def SrchO (l : List Fact) (t : Int) (i j : Nat) : Prop := (∀ m, m < i → (gf l m).at_ ≤ t) ∧ (∀ m, j ≤ m → m < l.length → t < (gf l m).at_)
theorem gi_dayL (l : List Fact) (t c : Int) (k : Nat) (hk : k < 1000) : gi (dayL l t c) k = knw l t c k := by simp [gi, dayL, hk]
theorem gi_dayL_bd {l : List Fact} (hV : Vld l) (t c : Int) (k : Nat) : 0 ≤ gi (dayL l t c) k ∧ gi (dayL l t c) k ≤ 1000 := by
  by_cases hk : k < 1000
  · rw [gi_dayL l t c k hk]; have := knw_bd hV t c k; omega
  · have : gi (dayL l t c) k = 0 := by simp only [gi, List.getD]; rw [List.getElem?_eq_none (by rw [dayL_length]; omega)]; rfl
    omega
theorem spansL_dayL (l : List Fact) (t c : Int) : spTo (fun k => gi (dayL l t c) k) (fun k => decide (0 < gi (dayL l t c) k)) 1000 = spansL l t c :=
  spTo_congr _ _ _ _ _ fun i hi => by simp only [gi_dayL l t c i hi]; exact ⟨trivial, trivial⟩
theorem changedL_dayL (l : List Fact) (b t c : Int) : spTo (fun k => gi (dayL l t c) k) (fun k => gi (dayL l b c) k != gi (dayL l t c) k) 1000 = changedL l b t c :=
  spTo_congr _ _ _ _ _ fun i hi => by
    simp only [gi_dayL l t c i hi, gi_dayL l b c i hi]
    exact ⟨trivial, by rw [Bool.eq_iff_iff]; simp⟩
def spansR (l : List Fact) (t child : Int) : List Sp := if askd l (inB child 0 99) = 0 then spansL l t child else []
def changedR (l : List Fact) (b t child : Int) : List Sp := if askd l (inB child 0 99) = 0 then changedL l b t child else []
def eqTo (l m : List Sp) (k : Nat) : Prop := ∀ i, i < k → gs l i = gs m i
theorem eqTo_all {l m : List Sp} (hlen : l.length = m.length) (h : eqTo l m l.length) : l = m := by
  apply List.ext_getElem hlen
  intro i h1 h2
  have := h i h1
  simpa [gs, h1, h2] using this
theorem sp_ne {a b : Sp} (h : (!(a.fr == b.fr && (a.un == b.un && a.me == b.me))) = true) : a ≠ b := by
  rintro rfl; simp at h
theorem sp_eq {a b : Sp} (h : (!(a.fr == b.fr && (a.un == b.un && a.me == b.me))) = false) : a = b := by
  cases a; cases b; simp at h; simp [h]
def rM (l : List Fact) (t c : Int) (d : Nat) : Int := knw l t c d
def rP (l : List Fact) (b t c : Int) (d : Nat) : Bool := !(knw l t c d == knw l b c d)
theorem rspans_eq (l : List Fact) (b t c : Int) : spTo (rM l t c) (rP l b t c) 1000 = changedL l b t c :=
  spTo_congr _ _ _ _ _ fun i _ => ⟨rfl, by
    unfold rP; rw [Bool.eq_iff_iff]; simp
    exact ⟨fun h e => h e.symm, fun h e => h e.symm⟩⟩
theorem askd_zero (l : List Fact) (child : Int) : askd l (inB child 0 99 && inB 0 0 999) = askd l (inB child 0 99) := by
  have : inB 0 0 999 = true := by decide
  rw [this, Bool.and_true]
/-- The chapter's example. -/
def exLO : List Fact := [⟨10, 1, 0, 5, 2⟩, ⟨20, 1, 3, 4, 0⟩]
theorem ex_spans : spansR exLO 20 1 = [⟨0, 3, 2⟩, ⟨4, 5, 2⟩] := by decide +kernel
theorem ex_changed : changedR exLO 15 20 1 = [⟨3, 4, 0⟩] := by decide +kernel
theorem ex_asked : askd exLO (inB 1 0 99) = 0 := by decide +kernel
/-- The error of a table, a child and a day. -/
def askE (l : List Fact) (child day : Int) : Int := askd l (inB child 0 99 && inB day 0 999)
theorem askE_ok {l : List Fact} {child day : Int} (h : askE l child day = 0) : Vld l ∧ 0 ≤ child ∧ child ≤ 99 ∧ 0 ≤ day ∧ day ≤ 999 := by
  obtain ⟨h1, h2⟩ := askd_ok h
  rw [Bool.and_eq_true] at h2
  have := inB_true.1 h2.1
  have := inB_true.1 h2.2
  exact ⟨Vld.of h1, by omega, by omega, by omega, by omega⟩
def knownR (l : List Fact) (t child day : Int) : Int := if askE l child day = 0 then knw l t child day else 0
def reasonR (l : List Fact) (t child day : Int) : Int := if askE l child day = 0 ∧ 0 ≤ rsn l t child day then rsn l t child day else 0
def reasonB (l : List Fact) (t child day : Int) : Bool := decide (askE l child day = 0 ∧ 0 ≤ rsn l t child day)
def sumN (f : Nat → Nat) : Nat → Nat
  | 0 => 0
  | k + 1 => sumN f k + f k
theorem sumN_congr (f g : Nat → Nat) (n : Nat) (h : ∀ i, i < n → f i = g i) : sumN f n = sumN g n := by
  induction n with
  | zero => rfl
  | succ n ih => simp only [sumN]; rw [ih fun i hi => h i (by omega), h n (by omega)]
theorem sumN_add (f g : Nat → Nat) (n : Nat) : sumN (fun i => f i + g i) n = sumN f n + sumN g n := by
  induction n with
  | zero => rfl
  | succ n ih => simp only [sumN]; omega
theorem sumN_zero (n : Nat) : sumN (fun _ => 0) n = 0 := by
  induction n with
  | zero => rfl
  | succ n ih => simp only [sumN]; omega
theorem sumN_le (f : Nat → Nat) (b n : Nat) (h : ∀ i, i < n → f i ≤ b) : sumN f n ≤ n * b := by
  induction n with
  | zero => simp [sumN]
  | succ n ih =>
    have h1 := ih fun i hi => h i (by omega)
    have h2 := h n (by omega)
    simp only [sumN]; rw [Nat.add_mul]; omega
theorem sumN_swap (h : Nat → Nat → Nat) (a b : Nat) : sumN (fun i => sumN (fun j => h i j) b) a = sumN (fun j => sumN (fun i => h i j) a) b := by
  induction a with
  | zero => simp only [sumN]; exact (sumN_zero b).symm
  | succ a ih => simp only [sumN]; rw [ih, ← sumN_add]
theorem sumN_split (f : Nat → Nat) (a b : Nat) : sumN f (a + b) = sumN f a + sumN (fun j => f (a + j)) b := by
  induction b with
  | zero => rfl
  | succ b ih => rw [← Nat.add_assoc]; simp only [sumN]; rw [ih]; omega
def hasM (l : List Fact) (t m : Int) (c d : Nat) : Bool := knw l t c d == m
def one (b : Bool) : Nat := if b then 1 else 0
theorem one_le (b : Bool) : one b ≤ 1 := by unfold one; split <;> omega
/-- The children who have the meal on the day, of the first k. -/
def chTo (l : List Fact) (t m : Int) (d : Nat) : Nat → List Int
  | 0 => []
  | k + 1 => if hasM l t m k d then chTo l t m d k ++ [(k : Int)] else chTo l t m d k
theorem chTo_yes (l : List Fact) (t m : Int) (d k : Nat) (h : hasM l t m k d = true) : chTo l t m d (k + 1) = chTo l t m d k ++ [(k : Int)] := by simp [chTo, h]
theorem chTo_no (l : List Fact) (t m : Int) (d k : Nat) (h : hasM l t m k d = false) : chTo l t m d (k + 1) = chTo l t m d k := by simp [chTo, h]
theorem chTo_len (l : List Fact) (t m : Int) (d k : Nat) : (chTo l t m d k).length = sumN (fun c => one (hasM l t m c d)) k := by
  induction k with
  | zero => rfl
  | succ k ih =>
    cases hq : hasM l t m k d with
    | true => simp [chTo, sumN, hq, ih, show one true = 1 from rfl]
    | false => simp [chTo, sumN, hq, ih, show one false = 0 from rfl]
theorem chTo_le (l : List Fact) (t m : Int) (d k : Nat) : (chTo l t m d k).length ≤ k := by
  rw [chTo_len]; have := sumN_le (fun c => one (hasM l t m c d)) 1 k (fun i _ => one_le _); omega
def rowN (l : List Fact) (t m : Int) (f c k : Nat) : Nat := sumN (fun j => one (hasM l t m c (f + j))) k
def countN (l : List Fact) (t m : Int) (f n : Nat) : Nat := sumN (fun c => rowN l t m f c n) 100
theorem rowN_le (l : List Fact) (t m : Int) (f c k : Nat) : rowN l t m f c k ≤ k := by
  have := sumN_le (fun j => one (hasM l t m c (f + j))) 1 k (fun i _ => one_le _); unfold rowN; omega
theorem countN_days (l : List Fact) (t m : Int) (f n : Nat) : sumN (fun j => (chTo l t m (f + j) 100).length) n = countN l t m f n := by
  unfold countN rowN
  rw [sumN_swap]
  exact sumN_congr _ _ _ fun j _ => chTo_len l t m (f + j) 100
theorem countN_split (l : List Fact) (t m : Int) (f a b : Nat) : countN l t m f (a + b) = countN l t m f a + countN l t m (f + a) b := by
  unfold countN
  rw [← sumN_add]
  refine sumN_congr _ _ _ fun c _ => ?_
  unfold rowN
  rw [sumN_split]
  congr 1
  refine sumN_congr _ _ _ fun j _ => ?_
  rw [Nat.add_assoc]
def chE (l : List Fact) (day m : Int) : Int := askd l (inB day 0 999 && inB m 0 9)
def childR (l : List Fact) (t day m : Int) : List Int := if chE l day m = 0 then chTo l t m day.toNat 100 else []
theorem chE_ok {l : List Fact} {day m : Int} (h : chE l day m = 0) : Vld l ∧ 0 ≤ day ∧ day ≤ 999 ∧ 0 ≤ m ∧ m ≤ 9 := by
  obtain ⟨h1, h2⟩ := askd_ok h
  rw [Bool.and_eq_true] at h2
  have := inB_true.1 h2.1
  have := inB_true.1 h2.2
  exact ⟨Vld.of h1, by omega, by omega, by omega, by omega⟩
theorem chE_other (l : List Fact) (day m : Int) : chE l day m = if askd l (inB 0 0 99 && inB day 0 999) ≠ 0 then askd l (inB 0 0 99 && inB day 0 999) else if inB m 0 9 then 0 else 1 := by
  have h1 : inB 0 0 99 = true := by decide
  rw [h1, Bool.true_and]
  unfold chE askd
  cases inB day 0 999 <;> cases inB m 0 9 <;> by_cases hv : vld l = 0 <;> simp [hv]
def cEO (l : List Fact) (f u m : Int) : Int := askd l (inB m 0 9 && decide (0 ≤ f ∧ f ≤ u ∧ u ≤ 1000))
def countR (l : List Fact) (t f u m : Int) : Int := if cEO l f u m = 0 then (countN l t m f.toNat (u - f).toNat : Nat) else 0
theorem cE_ok {l : List Fact} {f u m : Int} (h : cEO l f u m = 0) : Vld l ∧ 0 ≤ m ∧ m ≤ 9 ∧ 0 ≤ f ∧ f ≤ u ∧ u ≤ 1000 := by
  obtain ⟨h1, h2⟩ := askd_ok h
  rw [Bool.and_eq_true, decide_eq_true_eq] at h2
  have := inB_true.1 h2.1
  exact ⟨Vld.of h1, by omega, by omega, by omega, by omega, by omega⟩
theorem countN_le (l : List Fact) (t m : Int) (f n : Nat) (hn : n ≤ 1000) : countN l t m f n ≤ 100000 := by
  have := sumN_le (fun c => rowN l t m f c n) 1000 100 (fun c _ => by have := rowN_le l t m f c n; omega)
  unfold countN; omega
/-- The first k children's meals. -/
def cntTo (l : List Fact) (t m : Int) (f n k : Nat) : Nat := sumN (fun c => rowN l t m f c n) k
theorem cntTo_le (l : List Fact) (t m : Int) (f n k : Nat) : cntTo l t m f n k ≤ k * n := sumN_le _ n k fun c _ => rowN_le l t m f c n
theorem rowN_succ (l : List Fact) (t m : Int) (f c k : Nat) : rowN l t m f c (k + 1) = rowN l t m f c k + one (hasM l t m c (f + k)) := rfl
theorem cntTo_succ (l : List Fact) (t m : Int) (f n k : Nat) : cntTo l t m f n (k + 1) = cntTo l t m f n k + rowN l t m f k n := rfl
theorem cE_other (l : List Fact) (f u m : Int) : cEO l f u m = if vld l ≠ 0 then vld l else if inB m 0 9 = true ∧ 0 ≤ f ∧ f ≤ u ∧ u ≤ 1000 then 0 else 1 := by
  unfold cEO askd
  by_cases hv : vld l = 0
  · simp only [hv, ne_eq, not_true_eq_false, if_false]
    by_cases hg : inB m 0 9 = true ∧ 0 ≤ f ∧ f ≤ u ∧ u ≤ 1000
    · rw [if_pos hg, if_pos (by rw [hg.1, decide_eq_true hg.2]; rfl)]
    · rw [if_neg hg, if_neg]
      rw [Bool.and_eq_true, decide_eq_true_eq]; exact hg
  · simp only [ne_eq, hv, not_false_eq_true, if_true]
def factEq (a b : Fact) : Bool := a.at_ == b.at_ && (a.ch == b.ch && (a.fr == b.fr && (a.un == b.un && a.me == b.me)))
theorem fact_ne {a b : Fact} (h : (!factEq a b) = true) : a ≠ b := by
  rintro rfl; simp [factEq] at h
theorem fact_eq {a b : Fact} (h : (!factEq a b) = false) : a = b := by
  cases a; cases b; simp [factEq] at h; simp [h]
def eqFn (l m : List Fact) (k : Nat) : Prop := ∀ i, i < k → gf l i = gf m i
theorem eqFn_all {l m : List Fact} (hlen : l.length = m.length) (h : eqFn l m l.length) : l = m := by
  apply List.ext_getElem hlen
  intro i h1 h2
  rw [gf_getElem l i h1, gf_getElem m i h2]
  exact h i h1
def untTo (l : List Fact) (t : Int) : Nat → List Fact
  | 0 => []
  | k + 1 => if (gf l k).at_ ≤ t then untTo l t k ++ [gf l k] else untTo l t k
theorem untTo_yes (l : List Fact) (t : Int) (k : Nat) (h : (gf l k).at_ ≤ t) : untTo l t (k + 1) = untTo l t k ++ [gf l k] := by simp [untTo, h]
theorem untTo_no (l : List Fact) (t : Int) (k : Nat) (h : ¬ (gf l k).at_ ≤ t) : untTo l t (k + 1) = untTo l t k := by simp [untTo, h]
theorem untTo_le (l : List Fact) (t : Int) (k : Nat) : (untTo l t k).length ≤ k := by
  induction k with
  | zero => simp [untTo]
  | succ k ih =>
    simp only [untTo]; split
    · rw [List.length_append]; simp; omega
    · omega
theorem untTo_cut {l : List Fact} {t : Int} {n : Nat} (h : IsCut l t n) : ∀ k, k ≤ l.length → untTo l t k = (l.take n).take k
  | 0, _ => by simp [untTo]
  | k + 1, hk => by
    have ih := untTo_cut h k (by omega)
    by_cases hkn : k < n
    · rw [untTo_yes l t k (h.2.1 k hkn), ih, List.take_succ_eq_append_getElem (by rw [List.length_take]; omega)]
      congr 2
      simp [gf, show k < l.length by omega]
    · have e : ∀ j, n ≤ j → (l.take n).take j = l.take n := fun j hj => List.take_of_length_le (by rw [List.length_take]; omega)
      rw [untTo_no l t k (by have := h.2.2 k (by omega) (by omega); omega), ih, e k (by omega), e (k + 1) (by omega)]
def untilR (l : List Fact) (t : Int) : List Fact := if vld l = 0 then untTo l t l.length else []
def histTo (l : List Fact) (child day : Int) : Nat → List Fact
  | 0 => []
  | k + 1 => if covB (gf l k) child day then histTo l child day k ++ [gf l k] else histTo l child day k
theorem histTo_yes (l : List Fact) (c d : Int) (k : Nat) (h : covB (gf l k) c d = true) : histTo l c d (k + 1) = histTo l c d k ++ [gf l k] := by simp [histTo, h]
theorem histTo_no (l : List Fact) (c d : Int) (k : Nat) (h : covB (gf l k) c d = false) : histTo l c d (k + 1) = histTo l c d k := by simp [histTo, h]
theorem histTo_le (l : List Fact) (c d : Int) (k : Nat) : (histTo l c d k).length ≤ k := by
  induction k with
  | zero => simp [histTo]
  | succ k ih =>
    simp only [histTo]; split
    · rw [List.length_append]; simp; omega
    · omega
def histR (l : List Fact) (c d : Int) : List Fact := if askE l c d = 0 then histTo l c d l.length else []
theorem cut_exists {l : List Fact} (hV : Vld l) (t : Int) : ∃ n, IsCut l t n := by
  have key : ∀ k, k ≤ l.length → ∃ n, n ≤ k ∧ (∀ i, i < n → (gf l i).at_ ≤ t) ∧ (∀ i, n ≤ i → i < k → t < (gf l i).at_) := by
    intro k
    induction k with
    | zero => intro _; exact ⟨0, Nat.le_refl _, fun i hi => by omega, fun i h1 h2 => by omega⟩
    | succ k ih =>
      intro hk
      obtain ⟨n, h1, h2, h3⟩ := ih (by omega)
      by_cases hq : (gf l k).at_ ≤ t
      · exact ⟨k + 1, Nat.le_refl _, fun i hi => Int.le_trans (hV.sorted i k (by omega) (by omega)) hq, fun i a b => by omega⟩
      · refine ⟨n, by omega, h2, fun i a b => ?_⟩
        by_cases e : i = k
        · subst e; omega
        · exact h3 i a (by omega)
  obtain ⟨n, h1, h2, h3⟩ := key l.length (Nat.le_refl _)
  exact ⟨n, h1, h2, h3⟩
theorem rsnTo_congr (l m : List Fact) (t c d : Int) (k : Nat) (h : ∀ i, i < k → gf l i = gf m i) : rsnTo l t c d k = rsnTo m t c d k := by
  induction k with
  | zero => rfl
  | succ k ih => simp only [rsnTo]; rw [ih fun i hi => h i (by omega), h k (by omega)]
theorem Vld.take {l : List Fact} (hV : Vld l) (n : Nat) : Vld (l.take n) := by
  have e : ∀ i, i < (l.take n).length → gf (l.take n) i = gf l i ∧ i < l.length := fun i hi => by
    rw [List.length_take] at hi
    exact ⟨gf_take l n i (by omega), by omega⟩
  refine ⟨by rw [List.length_take]; have := hV.len; omega, fun i hi => ?_, fun i j hij hj => ?_⟩
  · rw [(e i hi).1]; exact hV.right i (e i hi).2
  · rw [(e i (by omega)).1, (e j hj).1]; exact hV.sorted i j hij (e j hj).2
theorem until_same {l : List Fact} (h : vld l = 0) (t c d : Int) : knownR (untilR l t) t c d = knownR l t c d ∧ askE (untilR l t) c d = askE l c d ∧ (untilR l t).length ≤ 60 := by
  have hV := Vld.of h
  obtain ⟨n, hcut⟩ := cut_exists hV t
  have hu : untilR l t = l.take n := by
    have e := untTo_cut hcut l.length (Nat.le_refl _)
    rw [untilR, if_pos h, e, List.take_of_length_le (by rw [List.length_take]; omega)]
  have hv2 := (hV.take n).to
  have hlen : (l.take n).length = n := by rw [List.length_take]; have := hcut.1; omega
  have ha : askE (l.take n) c d = askE l c d := by unfold askE askd; rw [h, hv2]
  have hr : rsn (l.take n) t c d = rsn l t c d := by
    rw [rsn_cut hcut]
    unfold rsn
    rw [hlen]
    exact rsnTo_congr _ _ _ _ _ _ fun i hi => gf_take l n i hi
  have hk : knw (l.take n) t c d = knw l t c d := by
    unfold knw
    rw [hr]
    have hb := rsnTo_bd l t c d n
    rw [rsn_cut hcut]
    unfold fMe
    split
    · rfl
    · rw [gf_take l n _ (by omega)]
  rw [hu]
  refine ⟨?_, ha, by have := hV.len; rw [List.length_take]; omega⟩
  unfold knownR
  rw [ha, hk]
def cpFact (k : Nat) (s : Sp) : Fact := ⟨0, k, s.fr, s.un, s.me⟩
def cpTo (l : List Fact) (t : Int) : Nat → List Fact
  | 0 => []
  | k + 1 => cpTo l t k ++ (spansL l t k).map (cpFact k)
theorem spansL_le (l : List Fact) (t c : Int) : (spansL l t c).length ≤ 1000 := spTo_len _ _ _
theorem cpTo_le (l : List Fact) (t : Int) (k : Nat) : (cpTo l t k).length ≤ k * 1000 := by
  induction k with
  | zero => simp [cpTo]
  | succ k ih => have := spansL_le l t k; simp only [cpTo, List.length_append, List.length_map]; omega
def cpE (l : List Fact) (t : Int) : Int := if vld l = 0 then (if 60 < (cpTo l t 100).length then 4 else 0) else vld l
def cpR (l : List Fact) (t : Int) : List Fact := if cpE l t = 0 then cpTo l t 100 else []
theorem sp_cover (m : Nat → Int) (p : Nat → Bool) (k : Nat) :
    (∀ s ∈ spTo m p k, 0 ≤ s.fr ∧ s.fr < s.un ∧ s.un ≤ k ∧ ∀ d : Nat, s.fr ≤ d → (d : Int) < s.un → p d = true ∧ m d = s.me) ∧
    (∀ d, d < k → p d = true → ∃ s ∈ spTo m p k, s.fr ≤ d ∧ (d : Int) < s.un) := by
  induction k with
  | zero => exact ⟨by simp [spTo], by intro d hd; omega⟩
  | succ k ih =>
    obtain ⟨i1, i2⟩ := ih
    by_cases hp : p k = true
    · by_cases hc : 0 < (spTo m p k).length ∧ (gs (spTo m p k) ((spTo m p k).length - 1)).un = k ∧ (gs (spTo m p k) ((spTo m p k).length - 1)).me = m k
      · rw [spTo_more m p k hp hc]
        obtain ⟨h0, hu, hm⟩ := hc
        have hlast : gs (spTo m p k) ((spTo m p k).length - 1) ∈ spTo m p k := by
          have : (spTo m p k)[(spTo m p k).length - 1]'(by omega) = gs (spTo m p k) ((spTo m p k).length - 1) := by
            simp only [gs]; exact (List.getElem_eq_getD _)
          rw [← this]; exact List.getElem_mem _
        obtain ⟨j1, j2, j3, j4⟩ := i1 _ hlast
        constructor
        · intro s hs
          rcases List.mem_or_eq_of_mem_set hs with hs | rfl
          · obtain ⟨a1, a2, a3, a4⟩ := i1 s hs
            exact ⟨a1, a2, by omega, a4⟩
          · refine ⟨j1, Int.lt_trans j2 (Int.lt_succ _), by show _ + 1 ≤ _; omega, fun d h1 h2 => ?_⟩
            by_cases e : d = k
            · subst e; exact ⟨hp, hm.symm⟩
            · have h2' : (d : Int) < (gs (spTo m p k) ((spTo m p k).length - 1)).un + 1 := h2
              have h1' : (gs (spTo m p k) ((spTo m p k).length - 1)).fr ≤ d := h1
              exact j4 d h1' (by omega)
        · intro d hd hpd
          by_cases e : d = k
          · subst e
            refine ⟨_, List.mem_set (by omega) _, ?_, ?_⟩
            · show (gs (spTo m p d) ((spTo m p d).length - 1)).fr ≤ _; omega
            · show _ < (gs (spTo m p d) ((spTo m p d).length - 1)).un + 1; omega
          · obtain ⟨s, hs, h1, h2⟩ := i2 d (by omega) hpd
            obtain ⟨i, hi, rfl⟩ := List.getElem_of_mem hs
            by_cases ei : i = (spTo m p k).length - 1
            · refine ⟨_, List.mem_set (by omega) _, ?_, ?_⟩
              · have : gs (spTo m p k) ((spTo m p k).length - 1) = (spTo m p k)[i] := by subst ei; simp only [gs]; exact (List.getElem_eq_getD _).symm
                rw [this]; exact h1
              · have : gs (spTo m p k) ((spTo m p k).length - 1) = (spTo m p k)[i] := by subst ei; simp only [gs]; exact (List.getElem_eq_getD _).symm
                show _ < (gs (spTo m p k) ((spTo m p k).length - 1)).un + 1
                rw [this]; omega
            · refine ⟨(spTo m p k)[i], ?_, h1, h2⟩
              have : ((spTo m p k).set ((spTo m p k).length - 1) ⟨(gs (spTo m p k) ((spTo m p k).length - 1)).fr, (gs (spTo m p k) ((spTo m p k).length - 1)).un + 1, (gs (spTo m p k) ((spTo m p k).length - 1)).me⟩)[i]'(by simpa using hi) = (spTo m p k)[i] := by
                rw [List.getElem_set_ne (by omega)]
              rw [← this]; exact List.getElem_mem _
      · rw [spTo_new m p k hp hc]
        constructor
        · intro s hs
          rcases List.mem_append.1 hs with hs | hs
          · obtain ⟨a1, a2, a3, a4⟩ := i1 s hs
            exact ⟨a1, a2, by omega, a4⟩
          · simp only [List.mem_singleton] at hs
            subst hs
            refine ⟨by show (0 : Int) ≤ k; omega, by show (k : Int) < k + 1; omega, by show (k : Int) + 1 ≤ _; omega, fun d h1 h2 => ?_⟩
            have h1' : (k : Int) ≤ d := h1
            have h2' : (d : Int) < k + 1 := h2
            have e : d = k := by omega
            subst e; exact ⟨hp, rfl⟩
        · intro d hd hpd
          by_cases e : d = k
          · subst e
            exact ⟨⟨d, d + 1, m d⟩, by simp, Int.le_refl _, by show (d : Int) < d + 1; omega⟩
          · obtain ⟨s, hs, h1, h2⟩ := i2 d (by omega) hpd
            exact ⟨s, List.mem_append_left _ hs, h1, h2⟩
    · have hp' : p k = false := by simpa using hp
      rw [spTo_skip m p k hp']
      constructor
      · intro s hs
        obtain ⟨a1, a2, a3, a4⟩ := i1 s hs
        exact ⟨a1, a2, by omega, a4⟩
      · intro d hd hpd
        by_cases e : d = k
        · subst e; rw [hp'] at hpd; cases hpd
        · exact i2 d (by omega) hpd
theorem cp_mem {l : List Fact} {t : Int} : ∀ (n : Nat) (f : Fact), f ∈ cpTo l t n ↔ ∃ k : Nat, k < n ∧ ∃ s ∈ spansL l t k, f = cpFact k s
  | 0, f => by simp [cpTo]
  | n + 1, f => by
    rw [cpTo, List.mem_append, cp_mem n f, List.mem_map]
    constructor
    · rintro (⟨k, hk, s, hs, rfl⟩ | ⟨s, hs, rfl⟩)
      · exact ⟨k, by omega, s, hs, rfl⟩
      · exact ⟨n, by omega, s, hs, rfl⟩
    · rintro ⟨k, hk, s, hs, rfl⟩
      by_cases e : k = n
      · subst e; exact .inr ⟨s, hs, rfl⟩
      · exact .inl ⟨k, by omega, s, hs, rfl⟩
theorem cp_valid {l : List Fact} (hV : Vld l) {t : Int} (hlen : (cpTo l t 100).length ≤ 60) : Vld (cpTo l t 100) := by
  have key : ∀ i, i < (cpTo l t 100).length → ∃ k : Nat, k < 100 ∧ ∃ s ∈ spansL l t k, gf (cpTo l t 100) i = cpFact k s := fun i hi => (cp_mem 100 _).1 (gf_mem _ i hi)
  refine ⟨hlen, fun i hi => ?_, fun i j hij hj => ?_⟩
  · obtain ⟨k, hk, s, hs, e⟩ := key i hi
    rw [e, right_iff]
    obtain ⟨a1, a2, a3, a4⟩ := (sp_cover _ _ 1000).1 s hs
    have hb := a4 s.fr.toNat (by omega) (by omega)
    have hkb := knw_bd hV t k (s.fr.toNat : Nat)
    rw [hb.2] at hkb
    simp only [cpFact]
    omega
  · obtain ⟨k, hk, s, hs, e⟩ := key i (by omega)
    obtain ⟨k', hk', s', hs', e'⟩ := key j hj
    rw [e, e']; simp [cpFact]
/-- The last fact of those that meet a test: its meal, if all that meet it have one meal. -/
theorem knw_of_hits {x : List Fact} {t c d m : Int} (h1 : ∀ i, i < x.length → hit (gf x i) t c d = true → (gf x i).me = m) (h2 : (∃ i, i < x.length ∧ hit (gf x i) t c d = true) ∨ m = 0) : knw x t c d = m := by
  have key : ∀ k, k ≤ x.length → (rsnTo x t c d k = -1 ∧ ∀ i, i < k → hit (gf x i) t c d = false) ∨ (∃ i, i < k ∧ rsnTo x t c d k = (i : Nat) ∧ hit (gf x i) t c d = true) := by
    intro k
    induction k with
    | zero => intro _; exact .inl ⟨rfl, fun i hi => by omega⟩
    | succ k ih =>
      intro hk
      cases hq : hit (gf x k) t c d with
      | true => exact .inr ⟨k, by omega, rsnTo_hit _ _ _ _ _ hq, hq⟩
      | false =>
        rw [rsnTo_miss _ _ _ _ _ hq]
        rcases ih (by omega) with ⟨a, b⟩ | ⟨i, a, b, c'⟩
        · refine .inl ⟨a, fun i hi => ?_⟩
          by_cases e : i = k
          · subst e; exact hq
          · exact b i (by omega)
        · exact .inr ⟨i, by omega, b, c'⟩
  unfold knw rsn
  rcases key x.length (Nat.le_refl _) with ⟨a, b⟩ | ⟨i, a, b, c'⟩
  · rw [a]
    rcases h2 with ⟨i, hi, hh⟩ | rfl
    · rw [b i hi] at hh; cases hh
    · simp [fMe]
  · rw [b]
    unfold fMe
    rw [if_neg (by omega), Int.toNat_natCast]
    exact h1 i a c'
theorem cp_same {l : List Fact} (hV : Vld l) (t : Int) {c d : Int} (hc0 : 0 ≤ c) (hc1 : c ≤ 99) (hd0 : 0 ≤ d) (hd1 : d ≤ 999) : knw (cpTo l t 100) 0 c d = knw l t c d := by
  obtain ⟨cn, rfl⟩ := Int.eq_ofNat_of_zero_le hc0
  obtain ⟨dn, rfl⟩ := Int.eq_ofNat_of_zero_le hd0
  have hb := knw_bd hV t cn dn
  refine knw_of_hits (fun i hi hh => ?_) ?_
  · obtain ⟨k, hk, s, hs, e⟩ := (cp_mem 100 _).1 (gf_mem _ i hi)
    rw [e] at hh ⊢
    simp only [hit, Bool.and_eq_true, covB_iff, cpFact] at hh
    obtain ⟨-, h1, h2, h3⟩ := hh
    have hk' : k = cn := by omega
    subst hk'
    exact ((sp_cover _ _ 1000).1 s hs).2.2.2 dn h2 h3 |>.2.symm
  · by_cases h0 : knw l t cn dn = 0
    · exact .inr h0
    · left
      obtain ⟨s, hs, h1, h2⟩ := (sp_cover (fun d => knw l t cn d) (fun d => decide (0 < knw l t cn d)) 1000).2 dn (by omega) (by simp; omega)
      have hm : cpFact cn s ∈ cpTo l t 100 := (cp_mem 100 _).2 ⟨cn, by omega, s, hs, rfl⟩
      obtain ⟨i, hi, e⟩ := List.getElem_of_mem hm
      refine ⟨i, hi, ?_⟩
      rw [← gf_getElem _ i hi, e]
      exact Bool.and_eq_true_iff.2 ⟨decide_eq_true (Int.le_refl _), (covB_iff _ _ _).2 ⟨rfl, h1, h2⟩⟩
theorem cells_map_take (L : List Sp) (k j : Nat) (hj : j < L.length) : (L.take (j + 1)).map (cpFact k) = (L.take j).map (cpFact k) ++ [cpFact k (gs L j)] := by
  rw [List.take_succ_eq_append_getElem hj, List.map_append]
  simp [gs, hj]
def namedTo (l : List Fact) (c : Int) : Nat → Bool
  | 0 => false
  | k + 1 => namedTo l c k || ((gf l k).ch == c)
theorem namedTo_iff (l : List Fact) (c : Int) (k : Nat) : namedTo l c k = true ↔ ∃ i, i < k ∧ (gf l i).ch = c := by
  induction k with
  | zero => simp [namedTo]
  | succ k ih =>
    simp only [namedTo, Bool.or_eq_true, ih, beq_iff_eq]
    constructor
    · rintro (⟨i, hi, h⟩ | h)
      · exact ⟨i, by omega, h⟩
      · exact ⟨k, by omega, h⟩
    · rintro ⟨i, hi, h⟩
      by_cases e : i = k
      · subst e; exact .inr h
      · exact .inl ⟨i, by omega, h⟩
theorem spans_unnamed {l : List Fact} {c : Int} (h : namedTo l c l.length = false) (t : Int) : spansL l t c = [] := by
  have h0 : ∀ d : Int, knw l t c d = 0 := by
    intro d
    refine knw_of_hits (fun i hi hh => ?_) (.inr rfl)
    have : namedTo l c l.length = true := (namedTo_iff _ _ _).2 ⟨i, hi, by
      simp only [hit, Bool.and_eq_true, covB_iff] at hh; exact hh.2.1⟩
    rw [h] at this; cases this
  have key : ∀ k, spTo (fun d => knw l t c d) (fun d => decide (0 < knw l t c d)) k = [] := by
    intro k
    induction k with
    | zero => rfl
    | succ k ih => rw [spTo_skip _ _ _ (by rw [h0]; rfl), ih]
  exact key 1000
def rtN (c f u : Int) : Bool := decide (0 ≤ c ∧ c ≤ 99 ∧ 0 ≤ f ∧ f < u ∧ u ≤ 1000)
def rtB (s : Sp) : Bool := rtN s.fr s.un s.me
theorem rtB_iff (s : Sp) : rtB s = true ↔ 0 ≤ s.fr ∧ s.fr ≤ 99 ∧ 0 ≤ s.un ∧ s.un < s.me ∧ s.me ≤ 1000 := by simp [rtB, rtN]
def rtAll (r : List Sp) : Nat → Bool
  | 0 => true
  | k + 1 => rtAll r k && rtB (gs r k)
theorem rtAll_iff (r : List Sp) (k : Nat) : rtAll r k = true ↔ ∀ i, i < k → rtB (gs r i) = true := by
  induction k with
  | zero => simp [rtAll]
  | succ k ih =>
    simp only [rtAll, Bool.and_eq_true, ih]
    constructor
    · rintro ⟨h1, h2⟩ i hi
      by_cases e : i = k
      · subst e; exact h2
      · exact h1 i (by omega)
    · intro h; exact ⟨fun i hi => h i (by omega), h k (by omega)⟩
def vrt (r : List Sp) : Int := if 60 < r.length then 4 else if rtAll r r.length then 0 else 1
theorem vrt_ok {r : List Sp} (h : vrt r = 0) : r.length ≤ 60 ∧ ∀ i, i < r.length → rtB (gs r i) = true := by
  unfold vrt at h
  by_cases h6 : 60 < r.length
  · rw [if_pos h6] at h; cases h
  · rw [if_neg h6] at h
    cases ha : rtAll r r.length with
    | true => exact ⟨by omega, (rtAll_iff _ _).1 ha⟩
    | false => rw [ha] at h; cases h
def tellB (s : Sp) (c d : Int) : Bool := decide (s.fr = c ∧ s.un ≤ d ∧ d < s.me)
def tellN (ch f u c d : Int) : Bool := decide (ch = c ∧ f ≤ d ∧ d < u)
def frTo (r : List Sp) (c d : Int) : Nat → Bool
  | 0 => false
  | k + 1 => frTo r c d k || tellN (gs r k).fr (gs r k).un (gs r k).me c d
theorem frTo_iff (r : List Sp) (c d : Int) (k : Nat) : frTo r c d k = true ↔ ∃ i, i < k ∧ tellN (gs r i).fr (gs r i).un (gs r i).me c d = true := by
  induction k with
  | zero => simp [frTo]
  | succ k ih =>
    simp only [frTo, Bool.or_eq_true, ih]
    constructor
    · rintro (⟨i, hi, h⟩ | h)
      · exact ⟨i, by omega, h⟩
      · exact ⟨k, by omega, h⟩
    · rintro ⟨i, hi, h⟩
      by_cases e : i = k
      · subst e; exact .inr h
      · exact .inl ⟨i, by omega, h⟩
def freeB (r : List Sp) (c d : Int) : Bool := frTo r c d r.length
def prAll (p : List Int) : Nat → Bool
  | 0 => true
  | k + 1 => prAll p k && inB (gi p k) 0 10000
theorem prAll_iff (p : List Int) (k : Nat) : prAll p k = true ↔ ∀ i, i < k → inB (gi p i) 0 10000 = true := by
  induction k with
  | zero => simp [prAll]
  | succ k ih =>
    simp only [prAll, Bool.and_eq_true, ih]
    constructor
    · rintro ⟨h1, h2⟩ i hi
      by_cases e : i = k
      · subst e; exact h2
      · exact h1 i (by omega)
    · intro h; exact ⟨fun i hi => h i (by omega), h k (by omega)⟩
def bG (p : List Int) (cut : Int) : Bool := decide (p.length = 9) && (prAll p p.length && inB cut 0 10000)
def bEO (l : List Fact) (r : List Sp) (p : List Int) (cut : Int) : Int := if vld l ≠ 0 then vld l else if vrt r ≠ 0 then vrt r else if bG p cut then 0 else 1
theorem bG_iff (p : List Int) (cut : Int) : bG p cut = true ↔ p.length = 9 ∧ (∀ i, i < p.length → inB (gi p i) 0 10000 = true) ∧ 0 ≤ cut ∧ cut ≤ 10000 := by
  simp only [bG, Bool.and_eq_true, decide_eq_true_eq, prAll_iff, inB_true]
theorem bE_okO {l : List Fact} {r : List Sp} {p : List Int} {cut : Int} (h : bEO l r p cut = 0) : vld l = 0 ∧ vrt r = 0 ∧ bG p cut = true := by
  unfold bEO at h
  by_cases h1 : vld l = 0
  · rw [if_neg (by simp [h1])] at h
    by_cases h2 : vrt r = 0
    · rw [if_neg (by simp [h2])] at h
      cases hb : bG p cut with
      | true => exact ⟨h1, h2, rfl⟩
      | false => rw [hb] at h; cases h
    · rw [if_pos h2] at h; exact absurd h h2
  · rw [if_pos h1] at h; exact absurd h h1
def priceI (p : List Int) (m : Int) : Int := if m = 0 then 0 else gi p (m - 1).toNat
def payI (l : List Fact) (r : List Sp) (p : List Int) (cut c d : Int) : Int := if freeB r c d then 0 else max (priceI p (knw l (d * 1440 - cut) c d)) (priceI p (knw l 1440000 c d))
theorem priceI_bd {p : List Int} {cut : Int} (h : bG p cut = true) (m : Int) (h0 : 0 ≤ m) (h9 : m ≤ 9) : 0 ≤ priceI p m ∧ priceI p m ≤ 10000 := by
  unfold priceI
  split
  · omega
  · obtain ⟨h1, h2, _⟩ := (bG_iff _ _).1 h
    have := inB_true.1 (h2 (m - 1).toNat (by omega))
    omega
theorem payI_bd {l : List Fact} (hV : Vld l) {r : List Sp} {p : List Int} {cut : Int} (h : bG p cut = true) (c d : Int) : 0 ≤ payI l r p cut c d ∧ payI l r p cut c d ≤ 10000 := by
  unfold payI
  split
  · omega
  · have a := knw_bd hV (d * 1440 - cut) c d
    have b := knw_bd hV 1440000 c d
    have := priceI_bd h _ a.1 a.2
    have := priceI_bd h _ b.1 b.2
    omega
theorem bG_len {p : List Int} {cut : Int} (h : bG p cut = true) : 9 ≤ p.length ∧ p.length ≤ 9 ∧ 0 ≤ cut ∧ cut ≤ 10000 := by
  obtain ⟨h1, _, h3, h4⟩ := (bG_iff _ _).1 h; omega
def payE (l : List Fact) (r : List Sp) (p : List Int) (cut c d : Int) : Int := if bEO l r p cut ≠ 0 then bEO l r p cut else if inB c 0 99 && inB d 0 999 then 0 else 1
def payR (l : List Fact) (r : List Sp) (p : List Int) (cut c d : Int) : Int := if payE l r p cut c d = 0 then payI l r p cut c d else 0
def daysB (f t : Int) : Bool := decide (0 ≤ f ∧ f ≤ t ∧ t ≤ 1000)
def billE (l : List Fact) (r : List Sp) (p : List Int) (cut c f t : Int) : Int := if bEO l r p cut ≠ 0 then bEO l r p cut else if inB c 0 99 && daysB f t then 0 else 1
def billTo (l : List Fact) (r : List Sp) (p : List Int) (cut c f : Int) : Nat → Int
  | 0 => 0
  | k + 1 => billTo l r p cut c f k + payI l r p cut c (f + k)
def billR (l : List Fact) (r : List Sp) (p : List Int) (cut c f t : Int) : Int := if billE l r p cut c f t = 0 then billTo l r p cut c f (t - f).toNat else 0
theorem billTo_bd {l : List Fact} (hV : Vld l) {r : List Sp} {p : List Int} {cut : Int} (h : bG p cut = true) (c f : Int) (k : Nat) : 0 ≤ billTo l r p cut c f k ∧ billTo l r p cut c f k ≤ k * 10000 := by
  induction k with
  | zero => simp [billTo]
  | succ k ih => have := payI_bd hV (r := r) h c (f + k); simp only [billTo]; omega
theorem billTo_add (l : List Fact) (r : List Sp) (p : List Int) (cut c f : Int) (a b : Nat) : billTo l r p cut c f (a + b) = billTo l r p cut c f a + billTo l r p cut c (f + a) b := by
  induction b with
  | zero => simp [billTo]
  | succ b ih =>
    rw [← Nat.add_assoc]; simp only [billTo]; rw [ih]
    rw [show f + ((a + b : Nat) : Int) = f + (a : Int) + (b : Int) by omega]; omega
theorem payE_split (l : List Fact) (r : List Sp) (p : List Int) (cut c d : Int) (bb : Int) (b : bEO l r p cut = bb) : payE l r p cut c d = if bb ≠ 0 then bb else if inB c 0 99 && inB d 0 999 then 0 else 1 := by subst b; rfl
theorem billE_split (l : List Fact) (r : List Sp) (p : List Int) (cut c f t : Int) (bb : Int) (b : bEO l r p cut = bb) : billE l r p cut c f t = if bb ≠ 0 then bb else if inB c 0 99 && daysB f t then 0 else 1 := by subst b; rfl
def addR (l : List Fact) (f : Fact) : List Fact := if vld l = 0 ∧ vld (l ++ [f]) = 0 then l ++ [f] else []
def addE (l : List Fact) (f : Fact) : Int := if vld l ≠ 0 then vld l else vld (l ++ [f])

end Go.Proofs.YtiapkffihpgdcaaGreatDoor
/-
  Base: what all the texts of this seat import; words for memory (from the guide's pages of words to copy); facts as five cells.
-/
namespace Go.Proofs.YtiapkffihpgdcaaGreatDoor
set_option linter.unusedVariables false
set_option linter.unusedSimpArgs false
open Go.RowKit

section
variable {w w' : World} {B B' size n : Nat} {A : Option Addr} {xs : List Value}
end

def Fact.vals (f : Fact) : List Value := [.int .i64 f.at_, .int .i64 f.ch, .int .i64 f.fr, .int .i64 f.un, .int .i64 f.me]
def cellsF (l : List Fact) : List Value := l.flatMap Fact.vals

theorem cellsF_cons (f : Fact) (l : List Fact) : cellsF (f :: l) = f.vals ++ cellsF l := by simp [cellsF]
theorem cellsF_length (l : List Fact) : (cellsF l).length = l.length * 5 := by
  induction l with
  | nil => rfl
  | cons f l ih => rw [cellsF_cons, List.length_append, ih]; simp [Fact.vals]; omega
theorem cellsF_at (l : List Fact) (k j : Nat) (hk : k < l.length) (hj : j < 5) : (cellsF l)[k * 5 + j]? = (gf l k).vals[j]? := by
  induction l generalizing k with
  | nil => simp at hk
  | cons f l ih =>
    rw [cellsF_cons]
    cases k with
    | zero => rw [List.getElem?_append_left (by simp [Fact.vals]; omega)]; simp [gf]
    | succ k =>
      rw [List.getElem?_append_right (by simp [Fact.vals]; omega)]
      have : (k + 1) * 5 + j - f.vals.length = k * 5 + j := by simp [Fact.vals]; omega
      rw [this, ih k (by simpa using hk)]
      simp [gf]

/-- The slice (A, n = l.length) reads as the table l, below B. -/
def RF (w : World) (B : Nat) (A : Option Addr) (l : List Fact) : Prop := B ≤ w.heap.size ∧ Reads w B 5 A l.length (cellsF l)
theorem RF.below {w w' : World} {B : Nat} {A : Option Addr} {l : List Fact} (h : RF w B A l) (hb : Below w.heap.size w w') : RF w' B A l := ⟨Nat.le_trans h.1 hb.size, Reads.below' h.2 hb h.1⟩
theorem cellsF_take (l : List Fact) (n : Nat) (j : Nat) (u : Value) (h : (cellsF (l.take n))[j]? = some u) : (cellsF l)[j]? = some u := by
  have e : cellsF l = cellsF (l.take n) ++ cellsF (l.drop n) := by simp only [cellsF]; rw [← List.flatMap_append, List.take_append_drop]
  rw [e, List.getElem?_append_left (List.getElem?_eq_some_iff.1 h).1]
  exact h
theorem RF.take {w : World} {B : Nat} {A A' : Option Addr} {l : List Fact} (h : RF w B A l) {n : Nat} (hn : n ≤ l.length) (hA : 0 < n → A' = A) : RF w B A' (l.take n) := by
  refine ⟨h.1, by rw [cellsF_length], fun hp => ?_⟩
  rw [List.length_take] at hp
  obtain ⟨ad, e, hb, hc⟩ := h.2.2 (by omega)
  exact ⟨ad, by rw [hA (by omega), e], hb, fun j u hu => hc j u (cellsF_take l n j u hu)⟩
/-- Five cells, as the walk spells them. -/
def FCells' (w : World) (p : Addr) (a b c d e : Value) : Prop :=
  w.cell? p = some a ∧ w.cell? ⟨p.block, p.off + 1, none⟩ = some b ∧ w.cell? ⟨p.block, p.off + 2, none⟩ = some c ∧ w.cell? ⟨p.block, p.off + 3, none⟩ = some d ∧ w.cell? ⟨p.block, p.off + 4, none⟩ = some e
/-- The five cells of the fact k, as the walk spells them. -/
def FCells (w : World) (p : Addr) (f : Fact) : Prop :=
  w.cell? p = some (.int .i64 f.at_) ∧ w.cell? ⟨p.block, p.off + 1, none⟩ = some (.int .i64 f.ch) ∧ w.cell? ⟨p.block, p.off + 2, none⟩ = some (.int .i64 f.fr) ∧
    w.cell? ⟨p.block, p.off + 3, none⟩ = some (.int .i64 f.un) ∧ w.cell? ⟨p.block, p.off + 4, none⟩ = some (.int .i64 f.me)
theorem RF.at_ {w : World} {B : Nat} {A : Option Addr} {l : List Fact} (h : RF w B A l) {k : Nat} (hk : k < l.length) :
    ∃ ad, A = some ad ∧ (ad.add (k * 5)).block < w.heap.size ∧ FCells w (ad.add (k * 5)) (gf l k) := by
  obtain ⟨ad, e, hb, hc⟩ := h.2.2 (by omega)
  have hs := fun j => addr_succ ad (k * 5) j
  exact ⟨ad, e, by rw [block_of_add]; have := h.1; omega, hc (k * 5 + 0) _ (cellsF_at l k 0 hk (by omega)), (hs 0) ▸ hc _ _ (cellsF_at l k 1 hk (by omega)), (hs 1) ▸ hc _ _ (cellsF_at l k 2 hk (by omega)), (hs 2) ▸ hc _ _ (cellsF_at l k 3 hk (by omega)), (hs 3) ▸ hc _ _ (cellsF_at l k 4 hk (by omega))⟩
theorem FCells.below {w w' : World} {p : Addr} {f : Fact} (h : FCells w p f) {B : Nat} (hb : Below B w w') (hp : p.block < B) : FCells w' p f := by
  obtain ⟨h0, h1, h2, h3, h4⟩ := h
  exact ⟨(hb.cell hp).trans h0, (hb.cell (by exact hp)).trans h1, (hb.cell (by exact hp)).trans h2, (hb.cell (by exact hp)).trans h3, (hb.cell (by exact hp)).trans h4⟩

/-- Behind a call, at a new block of five cells. -/
theorem box5 {w w1 : World} {a b c d e : Value} {t : TypeId} {n : Nat} (hb : Below n (w.alloc (.cells #[a, b, c, d, e] t)) w1) (hn : n = w.heap.size + 1) :
    FCells' w1 ⟨w.heap.size, 0, none⟩ a b c d e ∧ w.heap.size < w1.heap.size ∧ Below w.heap.size w w1 := by
  subst hn
  have h1 : ∀ j, w1.cell? ⟨w.heap.size, j, none⟩ = (w.alloc (.cells #[a, b, c, d, e] t)).cell? ⟨w.heap.size, j, none⟩ := fun j => hb.cell (by simp)
  refine ⟨⟨by rw [h1]; simp [World.cell?_alloc_at], by rw [h1]; simp [World.cell?_alloc_at], by rw [h1]; simp [World.cell?_alloc_at], by rw [h1]; simp [World.cell?_alloc_at], by rw [h1]; simp [World.cell?_alloc_at]⟩, by have := hb.size; simp at this; omega, ?_⟩
  exact ((Below.refl _ _).alloc (Nat.le_refl _) _).trans (hb.mono (by omega))

end Go.Proofs.YtiapkffihpgdcaaGreatDoor
