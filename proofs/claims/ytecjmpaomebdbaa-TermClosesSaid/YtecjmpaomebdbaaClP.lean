/-
  Plain: a day closed, a day open again.
-/
import Derived.Test.YtecjmpaomebdbaaPlain
namespace Go.Proofs.Ytecjmpaomebdbaa
set_option linter.unusedVariables false
set_option linter.unusedSimpArgs false

theorem set_asc {l : List Int} {n : Int} (h : isSet l n = true) : l.Pairwise (· < ·) ∧ ∀ x ∈ l, 0 ≤ x ∧ x < n := by
  refine ⟨List.pairwise_iff_getElem.2 fun i j hi hj hij => ?_, fun x hx => ?_⟩
  · rw [gi_getElem l i hi, gi_getElem l j hj]; exact isSet_lt h i j hij hj
  · obtain ⟨i, hi, rfl⟩ := List.mem_iff_getElem.1 hx
    rw [gi_getElem l i hi]; exact isSet_at h hi
theorem asc_set {l : List Int} {n : Int} (h1 : l.Pairwise (· < ·)) (h2 : ∀ x ∈ l, 0 ≤ x ∧ x < n) : isSet l n = true := by
  refine (setTo_iff _ _ _).2 fun k hk => (setOk_iff _ _ _).2 ?_
  have h3 := h2 _ (gi_mem l k hk)
  refine ⟨h3.1, h3.2, ?_⟩
  by_cases e : k = 0
  · exact .inl e
  · refine .inr ?_
    have := List.pairwise_iff_getElem.1 h1 (k - 1) k (by omega) hk (by omega)
    rwa [gi_getElem, gi_getElem] at this
theorem asc_ext : ∀ {l m : List Int}, l.Pairwise (· < ·) → m.Pairwise (· < ·) → (∀ x, x ∈ l ↔ x ∈ m) → l = m
  | [], [], _, _, _ => rfl
  | [], b :: m, _, _, h => absurd ((h b).2 (by simp)) (by simp)
  | a :: l, [], _, _, h => absurd ((h a).1 (by simp)) (by simp)
  | a :: l, b :: m, h1, h2, h => by
    rw [List.pairwise_cons] at h1 h2
    have hab : a = b := by
      have ha := (h a).1 (by simp)
      have hb := (h b).2 (by simp)
      rw [List.mem_cons] at ha hb
      rcases ha with e | ha
      · exact e
      · rcases hb with e | hb
        · exact e.symm
        · have := h1.1 b hb; have := h2.1 a ha; omega
    subst hab
    congr 1
    refine asc_ext h1.2 h2.2 fun x => ?_
    have := h x
    simp only [List.mem_cons] at this
    constructor
    · intro hx
      have h3 := h1.1 x hx
      rcases this.1 (.inr hx) with e | e
      · omega
      · exact e
    · intro hx
      have h3 := h2.1 x hx
      rcases this.2 (.inr hx) with e | e
      · omega
      · exact e

/-- the numbers below so many of which p holds -/
def fromB (p : Int → Bool) : Nat → List Int
  | 0 => []
  | k + 1 => fromB p k ++ (if p k then [(k : Int)] else [])
theorem fromB_yes {p : Int → Bool} {k : Nat} (h : p k = true) : fromB p (k + 1) = fromB p k ++ [(k : Int)] := by simp [fromB, h]
theorem fromB_no {p : Int → Bool} {k : Nat} (h : p k = false) : fromB p (k + 1) = fromB p k := by simp [fromB, h]
theorem fromB_mem (p : Int → Bool) (x : Int) : ∀ k, x ∈ fromB p k ↔ 0 ≤ x ∧ x < k ∧ p x = true
  | 0 => by simp [fromB]; omega
  | k + 1 => by
    have ih := fromB_mem p x k
    cases hp : p k with
    | true =>
      rw [fromB_yes hp, List.mem_append, ih]
      simp only [List.mem_cons, List.not_mem_nil, or_false]
      constructor
      · rintro (⟨h1, h2, h3⟩ | rfl)
        · exact ⟨h1, by omega, h3⟩
        · exact ⟨by omega, by omega, hp⟩
      · rintro ⟨h1, h2, h3⟩
        by_cases e : x = k
        · exact .inr e
        · exact .inl ⟨h1, by omega, h3⟩
    | false =>
      rw [fromB_no hp, ih]
      constructor
      · rintro ⟨h1, h2, h3⟩; exact ⟨h1, by omega, h3⟩
      · rintro ⟨h1, h2, h3⟩
        by_cases e : x = k
        · subst e; rw [hp] at h3; cases h3
        · exact ⟨h1, by omega, h3⟩
theorem fromB_asc (p : Int → Bool) : ∀ k, (fromB p k).Pairwise (· < ·)
  | 0 => by simp [fromB]
  | k + 1 => by
    have ih := fromB_asc p k
    cases hp : p k with
    | true =>
      rw [fromB_yes hp, List.pairwise_append]
      refine ⟨ih, by simp, fun a ha b hb => ?_⟩
      have := (fromB_mem p a k).1 ha
      simp at hb
      omega
    | false => rw [fromB_no hp]; exact ih
theorem fromB_len (p : Int → Bool) (k : Nat) : (fromB p k).length ≤ k := by
  induction k with
  | zero => simp [fromB]
  | succ k ih =>
    cases hp : p k with
    | true => rw [fromB_yes hp]; simp; omega
    | false => rw [fromB_no hp]; omega

def addD (l : List Int) (d n : Int) : List Int := fromB (fun x => x == d || hasB l x) n.toNat
def subD (l : List Int) (d : Int) : List Int := l.filter (· != d)
def clE (t : Tm) (d : Int) : Int := if qE t d ≠ 0 then qE t d else if hasB t.clo d then 12 else if t.clo.length = 60 then 4 else 0
def clT (t : Tm) (d : Int) : Tm := if clE t d = 0 then ⟨t.len, t.rest, addD t.clo d t.len⟩ else ⟨0, [], []⟩
def reE (t : Tm) (d : Int) : Int := if qE t d ≠ 0 then qE t d else if hasB t.clo d then 0 else 12
def reT (t : Tm) (d : Int) : Tm := if reE t d = 0 then ⟨t.len, t.rest, subD t.clo d⟩ else ⟨0, [], []⟩
theorem clE_ok {t : Tm} {d : Int} (h : clE t d = 0) : TmOk t ∧ 0 ≤ d ∧ d < t.len ∧ hasB t.clo d = false ∧ t.clo.length ≠ 60 := by
  unfold clE at h
  by_cases h1 : qE t d = 0
  · rw [if_neg (by simp [h1])] at h
    obtain ⟨a, b, c⟩ := qE_ok h1
    cases h2 : hasB t.clo d with
    | true => rw [h2] at h; cases h
    | false =>
      rw [h2] at h
      by_cases h3 : t.clo.length = 60
      · rw [if_neg (by simp), if_pos h3] at h; cases h
      · exact ⟨a, b, c, rfl, h3⟩
  · rw [if_pos h1] at h; exact absurd h h1
theorem reE_ok {t : Tm} {d : Int} (h : reE t d = 0) : TmOk t ∧ 0 ≤ d ∧ d < t.len ∧ hasB t.clo d = true := by
  unfold reE at h
  by_cases h1 : qE t d = 0
  · rw [if_neg (by simp [h1])] at h
    obtain ⟨a, b, c⟩ := qE_ok h1
    cases h2 : hasB t.clo d with
    | true => exact ⟨a, b, c, rfl⟩
    | false => rw [h2] at h; cases h
  · rw [if_pos h1] at h; exact absurd h h1
theorem qE_of {t : Tm} (h : TmOk t) {d : Int} (h1 : 0 ≤ d) (h2 : d < t.len) : qE t d = 0 := by
  unfold qE
  rw [if_neg (by simp [h.to]), if_pos (inB_true.2 ⟨h1, by omega⟩)]
theorem addD_mem (l : List Int) (d n : Int) (hn : 0 ≤ n) (x : Int) : x ∈ addD l d n ↔ 0 ≤ x ∧ x < n ∧ (x = d ∨ x ∈ l) := by
  rw [addD, fromB_mem, ← hasB_mem]
  simp only [Bool.or_eq_true, beq_iff_eq]
  rw [show ((n.toNat : Nat) : Int) = n by omega]
theorem subD_mem (l : List Int) (d x : Int) : x ∈ subD l d ↔ x ∈ l ∧ x ≠ d := by simp [subD]
theorem addD_set {l : List Int} {n : Int} (d : Int) (hn : 0 ≤ n) : isSet (addD l d n) n = true := asc_set (fromB_asc _ _) fun x hx => by
  have := (addD_mem l d n hn x).1 hx; exact ⟨this.1, this.2.1⟩
theorem subD_set {l : List Int} {n : Int} (h : isSet l n = true) (d : Int) : isSet (subD l d) n = true := by
  obtain ⟨h1, h2⟩ := set_asc h
  exact asc_set (h1.filter _) fun x hx => h2 x ((subD_mem l d x).1 hx).1

/-- one more, one less -/
theorem cut_add {l : List Int} {d n : Int} {i : Nat} (hs : isSet l n = true) (hc : CutI l d i) (h0 : 0 ≤ d) (h1 : d < n) (hh : hasB l d = false) : l.take i ++ d :: l.drop i = addD l d n := by
  obtain ⟨ha, hb⟩ := set_asc hs
  have hd : ¬ d ∈ l := fun h => by rw [← hasB_mem, hh] at h; cases h
  have hlo : ∀ x ∈ l.take i, x < d := fun x hx => by
    obtain ⟨j, hj, rfl⟩ := List.mem_iff_getElem.1 hx
    have hji : j < i := by rw [List.length_take] at hj; omega
    have hjl : j < l.length := by rw [List.length_take] at hj; omega
    rw [List.getElem_take, gi_getElem l j hjl]; exact hc.2.1 j hji
  have hhi : ∀ x ∈ l.drop i, d < x := fun x hx => by
    have hxl : x ∈ l := List.mem_of_mem_drop hx
    obtain ⟨j, hj, rfl⟩ := List.mem_iff_getElem.1 hx
    have hjl : i + j < l.length := by rw [List.length_drop] at hj; omega
    rw [List.getElem_drop, gi_getElem l _ hjl] at hxl ⊢
    have := hc.2.2 (i + j) (by omega) hjl
    by_cases e : gi l (i + j) = d
    · rw [e] at hxl; exact absurd hxl hd
    · omega
  refine asc_ext ?_ (fromB_asc _ _) fun x => ?_
  · rw [List.pairwise_append]
    refine ⟨ha.sublist (List.take_sublist _ _), List.pairwise_cons.2 ⟨hhi, ha.sublist (List.drop_sublist _ _)⟩, fun a hx1 b h2 => ?_⟩
    rcases List.mem_cons.1 h2 with rfl | h2
    · exact hlo a hx1
    · have := hlo a hx1; have := hhi b h2; omega
  · have e := addD_mem l d n (by omega) x
    rw [e, List.mem_append, List.mem_cons]
    have hm : x ∈ l ↔ x ∈ l.take i ∨ x ∈ l.drop i := by rw [← List.mem_append, List.take_append_drop]
    rw [hm]
    constructor
    · rintro (h | rfl | h)
      · have := hb x (hm.2 (.inl h)); exact ⟨this.1, this.2, .inr (.inl h)⟩
      · exact ⟨h0, h1, .inl rfl⟩
      · have := hb x (hm.2 (.inr h)); exact ⟨this.1, this.2, .inr (.inr h)⟩
    · rintro ⟨_, _, rfl | h | h⟩
      · exact .inr (.inl rfl)
      · exact .inl h
      · exact .inr (.inr h)
theorem cut_sub {l : List Int} {d n : Int} {i : Nat} (hs : isSet l n = true) (hc : CutI l d i) (hh : hasB l d = true) : i < l.length ∧ l.take i ++ l.drop (i + 1) = subD l d := by
  obtain ⟨hi, he⟩ := (hc.has hs).1 hh
  refine ⟨hi, ?_⟩
  obtain ⟨ha, hb⟩ := set_asc hs
  have hsp : l = l.take i ++ d :: l.drop (i + 1) := by
    rw [← he, ← gi_getElem l i hi, List.getElem_cons_drop, List.take_append_drop]
  have hp := ha
  rw [hsp, List.pairwise_append, List.pairwise_cons] at hp
  obtain ⟨_, ⟨hp2, _⟩, hp3⟩ := hp
  have e : subD l d = subD (l.take i ++ d :: l.drop (i + 1)) d := by rw [← hsp]
  rw [e, subD, List.filter_append, List.filter_cons_of_neg (by simp)]
  rw [List.filter_eq_self.2 (fun x hx => by have := hp3 x hx d (by simp); simp; omega), List.filter_eq_self.2 (fun x hx => by have := hp2 x hx; simp; omega)]

/-! ### one undoes the other -/
theorem clT_yes {t : Tm} {d : Int} (h : clE t d = 0) : clT t d = ⟨t.len, t.rest, addD t.clo d t.len⟩ := by rw [clT, if_pos h]
theorem clT_no {t : Tm} {d : Int} (h : ¬ clE t d = 0) : clT t d = ⟨0, [], []⟩ := by rw [clT, if_neg h]
theorem reT_yes {t : Tm} {d : Int} (h : reE t d = 0) : reT t d = ⟨t.len, t.rest, subD t.clo d⟩ := by rw [reT, if_pos h]
theorem reT_no {t : Tm} {d : Int} (h : ¬ reE t d = 0) : reT t d = ⟨0, [], []⟩ := by rw [reT, if_neg h]
theorem addD_len {l : List Int} {d n : Int} (hs : isSet l n = true) (h0 : 0 ≤ d) (h1 : d < n) (hh : hasB l d = false) : (addD l d n).length = l.length + 1 := by
  have hp : (d :: l).Perm (addD l d n) := by
    obtain ⟨ha, hb⟩ := set_asc hs
    have hd : ¬ d ∈ l := fun h => by rw [← hasB_mem, hh] at h; cases h
    refine (List.perm_ext_iff_of_nodup ?_ ?_).2 fun x => ?_
    · exact List.nodup_cons.2 ⟨hd, ha.imp fun h => by omega⟩
    · exact (fromB_asc _ _).imp fun h => by omega
    · rw [addD_mem l d n (by omega), List.mem_cons]
      constructor
      · rintro (rfl | h)
        · exact ⟨h0, h1, .inl rfl⟩
        · exact ⟨(hb x h).1, (hb x h).2, .inr h⟩
      · rintro ⟨_, _, h⟩; exact h
  have := hp.length_eq
  simpa using this.symm
theorem clT_ok {t : Tm} {d : Int} (h : clE t d = 0) : TmOk (clT t d) := by
  obtain ⟨ht, h0, h1, hh, h60⟩ := clE_ok h
  have hl := addD_len ht.clo h0 h1 hh
  have := ht.clo60
  have := ht.len1
  rw [clT_yes h]
  exact ⟨ht.len1, ht.len2, ht.rest, ht.rest7, by show (addD _ _ _).length ≤ 60; omega, addD_set d (by omega)⟩
theorem reT_ok {t : Tm} {d : Int} (h : reE t d = 0) : TmOk (reT t d) := by
  obtain ⟨ht, h0, h1, hh⟩ := reE_ok h
  have := List.length_filter_le (fun x : Int => x != d) t.clo
  have := ht.clo60
  rw [reT_yes h]
  exact ⟨ht.len1, ht.len2, ht.rest, ht.rest7, by show (subD _ _).length ≤ 60; unfold subD; omega, subD_set ht.clo d⟩
theorem cl_re {t : Tm} {d : Int} (h : clE t d = 0) : reE (clT t d) d = 0 ∧ reT (clT t d) d = t := by
  obtain ⟨ht, h0, h1, hh, h60⟩ := clE_ok h
  have hk := clT_ok h
  have hd : ¬ d ∈ t.clo := fun h => by rw [← hasB_mem, hh] at h; cases h
  obtain ⟨ha, hb⟩ := set_asc ht.clo
  have e1 : reE (clT t d) d = 0 := by
    unfold reE
    rw [if_neg (by rw [qE_of hk h0 (by rw [clT_yes h]; exact h1)]; simp), if_pos]
    rw [hasB_mem, clT_yes h]
    exact (addD_mem _ _ _ (by omega) _).2 ⟨h0, h1, .inl rfl⟩
  refine ⟨e1, ?_⟩
  rw [reT_yes e1, clT_yes h]
  cases t with
  | mk len rest clo =>
    simp only [Tm.mk.injEq, true_and]
    refine asc_ext ((fromB_asc _ _).filter _) ha fun x => ?_
    rw [subD_mem, addD_mem _ _ _ (by simp at h1; omega)]
    constructor
    · rintro ⟨⟨_, _, h | h⟩, h3⟩
      · exact absurd h h3
      · exact h
    · intro h3
      exact ⟨⟨(hb x h3).1, (hb x h3).2, .inr h3⟩, fun e => hd (e ▸ h3)⟩
theorem re_cl {t : Tm} {d : Int} (h : reE t d = 0) : clE (reT t d) d = 0 ∧ clT (reT t d) d = t := by
  obtain ⟨ht, h0, h1, hh⟩ := reE_ok h
  have hk := reT_ok h
  have hd := (hasB_mem _ _).1 hh
  obtain ⟨ha, hb⟩ := set_asc ht.clo
  have hlen : (subD t.clo d).length < t.clo.length := by
    unfold subD
    rw [List.length_filter_lt_length_iff_exists]
    exact ⟨d, hd, by simp⟩
  have h60 := ht.clo60
  have e1 : clE (reT t d) d = 0 := by
    unfold clE
    have hn : hasB (reT t d).clo d = false := by
      cases hq : hasB (reT t d).clo d with
      | false => rfl
      | true => rw [hasB_mem, reT_yes h] at hq; exact absurd rfl ((subD_mem _ _ _).1 hq).2
    rw [if_neg (by rw [qE_of hk h0 (by rw [reT_yes h]; exact h1)]; simp), hn, if_neg (by simp), if_neg]
    rw [reT_yes h]; show ¬ (subD _ _).length = 60; omega
  refine ⟨e1, ?_⟩
  rw [clT_yes e1, reT_yes h]
  cases t with
  | mk len rest clo =>
    simp only [Tm.mk.injEq, true_and]
    refine asc_ext (fromB_asc _ _) ha fun x => ?_
    rw [addD_mem _ _ _ (by simp at h1; omega), subD_mem]
    constructor
    · rintro ⟨_, _, rfl | h⟩
      · exact hd
      · exact h.1
    · intro h3
      refine ⟨(hb x h3).1, (hb x h3).2, ?_⟩
      by_cases e : x = d
      · exact .inl e
      · exact .inr ⟨h3, e⟩
end Go.Proofs.Ytecjmpaomebdbaa
