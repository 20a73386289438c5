/-
  The plain mathematics of terms and cycles: no program in sight.
-/
namespace Go.Proofs.YtlnmmkgeahlohaaDoor
set_option linter.unusedVariables false
set_option linter.unusedSimpArgs false

def gi (l : List Int) (k : Nat) : Int := l.getD k 0
theorem gi_getElem (l : List Int) (k : Nat) (h : k < l.length) : l[k] = gi l k := by simp [gi, h]
theorem gi_mem (l : List Int) (k : Nat) (h : k < l.length) : gi l k ∈ l := by rw [← gi_getElem l k h]; exact List.getElem_mem h
def inB (n lo hi : Int) : Bool := decide (lo ≤ n ∧ n ≤ hi)
theorem inB_true {n lo hi : Int} : inB n lo hi = true ↔ lo ≤ n ∧ n ≤ hi := by simp [inB]
theorem inB_false {n lo hi : Int} : inB n lo hi = false ↔ ¬ (lo ≤ n ∧ n ≤ hi) := by simp only [inB, decide_eq_false_iff_not]

/-! ### sets -/
def setOk (l : List Int) (n : Int) (k : Nat) : Bool := decide (0 ≤ gi l k ∧ gi l k < n ∧ (k = 0 ∨ gi l (k - 1) < gi l k))
def setTo (l : List Int) (n : Int) : Nat → Bool
  | 0 => true
  | k + 1 => setTo l n k && setOk l n k
def isSet (l : List Int) (n : Int) : Bool := setTo l n l.length
theorem setOk_iff (l : List Int) (n : Int) (k : Nat) : setOk l n k = true ↔ 0 ≤ gi l k ∧ gi l k < n ∧ (k = 0 ∨ gi l (k - 1) < gi l k) := by simp only [setOk, decide_eq_true_eq]
theorem setOk_not (l : List Int) (n : Int) (k : Nat) : setOk l n k = false ↔ ¬ (0 ≤ gi l k ∧ gi l k < n ∧ (k = 0 ∨ gi l (k - 1) < gi l k)) := by simp only [setOk, decide_eq_false_iff_not]
theorem setTo_iff (l : List Int) (n : Int) (k : Nat) : setTo l n k = true ↔ ∀ i, i < k → setOk l n i = true := by
  induction k with
  | zero => simp [setTo]
  | succ k ih =>
    simp only [setTo, Bool.and_eq_true, ih]
    constructor
    · rintro ⟨h1, h2⟩ i hi
      by_cases e : i = k
      · subst e; exact h2
      · exact h1 i (by omega)
    · intro h; exact ⟨fun i hi => h i (by omega), h k (by omega)⟩
theorem isSet_bad {l : List Int} {n : Int} {k : Nat} (hk : k < l.length) (h : setOk l n k = false) : isSet l n = false := by
  cases hs : isSet l n with
  | false => rfl
  | true => rw [(setTo_iff _ _ _).1 hs k hk] at h; cases h
theorem isSet_at {l : List Int} {n : Int} (h : isSet l n = true) {k : Nat} (hk : k < l.length) : 0 ≤ gi l k ∧ gi l k < n := by
  have := (setOk_iff _ _ _).1 ((setTo_iff _ _ _).1 h k hk); exact ⟨this.1, this.2.1⟩
theorem isSet_step {l : List Int} {n : Int} (h : isSet l n = true) {k : Nat} (hk : k + 1 < l.length) : gi l k < gi l (k + 1) := by
  have := (setOk_iff _ _ _).1 ((setTo_iff _ _ _).1 h (k + 1) hk)
  rcases this.2.2 with h0 | h0
  · omega
  · simpa using h0
theorem isSet_lt {l : List Int} {n : Int} (h : isSet l n = true) (i : Nat) : ∀ j, i < j → j < l.length → gi l i < gi l j
  | 0, h1, _ => by omega
  | j + 1, h1, h2 => by
    have hs := isSet_step h h2
    by_cases e : i = j
    · subst e; exact hs
    · have := isSet_lt h i j (by omega) (by omega); omega
theorem isSet_ge {l : List Int} {n : Int} (h : isSet l n = true) : ∀ k, k < l.length → (k : Int) ≤ gi l k
  | 0, hk => by have := isSet_at h hk; simpa using this.1
  | k + 1, hk => by have := isSet_ge h k (by omega); have := isSet_step h hk; omega
theorem isSet_len {l : List Int} {n : Int} (h : isSet l n = true) (hn : 0 ≤ n) : (l.length : Int) ≤ n := by
  by_cases e : l.length = 0
  · omega
  · have := isSet_ge h (l.length - 1) (by omega); have := isSet_at h (k := l.length - 1) (by omega); omega

def hasTo (l : List Int) (x : Int) : Nat → Bool
  | 0 => false
  | k + 1 => hasTo l x k || (gi l k == x)
def hasB (l : List Int) (x : Int) : Bool := hasTo l x l.length
theorem hasTo_iff (l : List Int) (x : Int) (k : Nat) : hasTo l x k = true ↔ ∃ i, i < k ∧ gi l i = x := by
  induction k with
  | zero => simp [hasTo]
  | succ k ih =>
    simp only [hasTo, Bool.or_eq_true, ih, beq_iff_eq]
    constructor
    · rintro (⟨i, hi, h⟩ | h)
      · exact ⟨i, by omega, h⟩
      · exact ⟨k, by omega, h⟩
    · rintro ⟨i, hi, h⟩
      by_cases e : i = k
      · subst e; exact .inr h
      · exact .inl ⟨i, by omega, h⟩
theorem hasB_iff (l : List Int) (x : Int) : hasB l x = true ↔ ∃ i, i < l.length ∧ gi l i = x := hasTo_iff l x _
theorem hasB_mem (l : List Int) (x : Int) : hasB l x = true ↔ x ∈ l := by
  rw [hasB_iff]
  constructor
  · rintro ⟨i, hi, rfl⟩; exact gi_mem l i hi
  · intro h
    obtain ⟨i, hi, he⟩ := List.mem_iff_getElem.1 h
    exact ⟨i, hi, by rw [← gi_getElem l i hi]; exact he⟩
theorem hasB_at {l : List Int} {k : Nat} (hk : k < l.length) : hasB l (gi l k) = true := (hasB_iff _ _).2 ⟨k, hk, rfl⟩

/-- How many numbers of an ascending list are below x. -/
def CutI (l : List Int) (x : Int) (n : Nat) : Prop := n ≤ l.length ∧ (∀ i, i < n → gi l i < x) ∧ (∀ i, n ≤ i → i < l.length → x ≤ gi l i)
theorem CutI.has {l : List Int} {x : Int} {n : Nat} {b : Int} (h : CutI l x n) (hs : isSet l b = true) : hasB l x = true ↔ n < l.length ∧ gi l n = x := by
  rw [hasB_iff]
  constructor
  · rintro ⟨i, hi, e⟩
    have h1 : n ≤ i := by
      rcases Nat.lt_or_ge i n with hlt | hge
      · have := h.2.1 i hlt; omega
      · exact hge
    have h2 := h.2.2 n (Nat.le_refl _) (by omega)
    rcases Nat.lt_or_eq_of_le h1 with hlt | heq
    · have := isSet_lt hs n i hlt hi; omega
    · subst heq; exact ⟨hi, e⟩
  · rintro ⟨h1, h2⟩; exact ⟨n, h1, h2⟩

/-! ### terms and cycles -/
structure Tm where
  len : Int
  rest : List Int
  clo : List Int
structure Cy where
  n : Int
  f : Int
  k : Int
def tE (t : Tm) : Int :=
  if inB t.len 1 1000 && (isSet t.rest 7 && !(decide (t.rest.length = 7))) then (if 60 < t.clo.length then 4 else if isSet t.clo t.len then 0 else 1) else 1
def cE (c : Cy) : Int := if inB c.n 1 40 && (inB c.f 0 (c.n - 1) && (c.k == 0 || c.k == 1)) then 0 else 1
def bE (t : Tm) (c : Cy) : Int := if tE t ≠ 0 then tE t else cE c
structure TmOk (t : Tm) : Prop where
  len1 : 1 ≤ t.len
  len2 : t.len ≤ 1000
  rest : isSet t.rest 7 = true
  rest7 : t.rest.length ≠ 7
  clo60 : t.clo.length ≤ 60
  clo : isSet t.clo t.len = true
structure CyOk (c : Cy) : Prop where
  n1 : 1 ≤ c.n
  n2 : c.n ≤ 40
  f0 : 0 ≤ c.f
  f1 : c.f < c.n
  k : c.k = 0 ∨ c.k = 1
theorem TmOk.of {t : Tm} (h : tE t = 0) : TmOk t := by
  unfold tE at h
  cases h1 : inB t.len 1 1000 with
  | false => rw [h1] at h; cases h
  | true =>
    cases h2 : isSet t.rest 7 with
    | false => rw [h1, h2] at h; cases h
    | true =>
      by_cases h3 : t.rest.length = 7
      · rw [h1, h2, decide_eq_true h3] at h; cases h
      · rw [h1, h2, decide_eq_false h3] at h
        simp only [Bool.not_false, Bool.and_self, if_true] at h
        by_cases h4 : 60 < t.clo.length
        · rw [if_pos h4] at h; cases h
        · rw [if_neg h4] at h
          cases h5 : isSet t.clo t.len with
          | false => rw [h5] at h; cases h
          | true => have := inB_true.1 h1; exact ⟨this.1, this.2, h2, h3, by omega, h5⟩
theorem TmOk.to {t : Tm} (h : TmOk t) : tE t = 0 := by
  unfold tE
  rw [inB_true.2 ⟨h.len1, h.len2⟩, h.rest, decide_eq_false h.rest7, if_pos (show (true && (true && !false)) = true from rfl), if_neg (by have := h.clo60; omega), if_pos h.clo]
theorem CyOk.of {c : Cy} (h : cE c = 0) : CyOk c := by
  unfold cE at h
  cases h1 : inB c.n 1 40 with
  | false => rw [h1] at h; cases h
  | true =>
    cases h2 : inB c.f 0 (c.n - 1) with
    | false => rw [h1, h2] at h; cases h
    | true =>
      cases h3 : (c.k == 0 || c.k == 1) with
      | false => rw [h1, h2, h3] at h; cases h
      | true =>
        have a := inB_true.1 h1
        have b := inB_true.1 h2
        exact ⟨a.1, a.2, b.1, by omega, by simpa using h3⟩
theorem CyOk.to {c : Cy} (h : CyOk c) : cE c = 0 := by
  unfold cE
  have hk : (c.k == 0 || c.k == 1) = true := by have := h.k; simpa using this
  rw [inB_true.2 ⟨h.n1, h.n2⟩, inB_true.2 ⟨h.f0, by have := h.f1; omega⟩, hk]; rfl
theorem bE_ok {t : Tm} {c : Cy} (h : bE t c = 0) : TmOk t ∧ CyOk c := by
  unfold bE at h
  by_cases h1 : tE t = 0
  · rw [if_neg (by simp [h1])] at h; exact ⟨TmOk.of h1, CyOk.of h⟩
  · rw [if_pos h1] at h; exact absurd h h1
theorem bE_of {t : Tm} {c : Cy} (h1 : TmOk t) (h2 : CyOk c) : bE t c = 0 := by
  unfold bE; rw [if_neg (by simp [h1.to])]; exact h2.to

/-! ### school days -/
def wkB (t : Tm) (d : Int) : Bool := !hasB t.rest (d % 7)
def opB (t : Tm) (d : Int) : Bool := wkB t d && !hasB t.clo d
def cnt (p : Nat → Bool) : Nat → Nat
  | 0 => 0
  | k + 1 => cnt p k + if p k then 1 else 0
theorem cnt_yes (p : Nat → Bool) (k : Nat) (h : p k = true) : cnt p (k + 1) = cnt p k + 1 := by simp [cnt, h]
theorem cnt_no (p : Nat → Bool) (k : Nat) (h : p k = false) : cnt p (k + 1) = cnt p k := by simp [cnt, h]
theorem cnt_le (p : Nat → Bool) (k : Nat) : cnt p k ≤ k := by
  induction k with
  | zero => simp [cnt]
  | succ k ih => simp only [cnt]; split <;> omega
theorem cnt_congr (p q : Nat → Bool) (k : Nat) (h : ∀ i, i < k → p i = q i) : cnt p k = cnt q k := by
  induction k with
  | zero => rfl
  | succ k ih => simp only [cnt]; rw [ih fun i hi => h i (by omega), h k (by omega)]
theorem cnt_mono (p : Nat → Bool) (a : Nat) : ∀ b, a ≤ b → cnt p a ≤ cnt p b
  | 0, h => by have : a = 0 := by omega
               subst this; exact Nat.le_refl _
  | b + 1, h => by
    by_cases e : a = b + 1
    · subst e; exact Nat.le_refl _
    · have := cnt_mono p a b (by omega); simp only [cnt]; omega
/-- The menu's step at a day. -/
def stB (t : Tm) (c : Cy) (d : Nat) : Bool := opB t d || (c.k == 1 && wkB t d)
theorem stB_ref (t : Tm) (c : Cy) (hc : CyOk c) (d : Nat) : stB t c d = ((c.k == 0 && opB t d) || (c.k == 1 && wkB t d)) := by
  unfold stB opB
  rcases hc.k with h | h <;> rw [h] <;> cases wkB t d <;> cases hasB t.clo d <;> rfl
def mnAt (t : Tm) (c : Cy) (d : Nat) : Int := if opB t d then (c.f + cnt (stB t c) d) % c.n else -1
theorem mnAt_open {t : Tm} {c : Cy} {d : Nat} (h : opB t d = true) : mnAt t c d = (c.f + cnt (stB t c) d) % c.n := by simp [mnAt, h]
theorem mnAt_shut {t : Tm} {c : Cy} {d : Nat} (h : opB t d = false) : mnAt t c d = -1 := by simp [mnAt, h]
theorem mnAt_bd {t : Tm} {c : Cy} (hc : CyOk c) (d : Nat) : -1 ≤ mnAt t c d ∧ mnAt t c d < c.n := by
  unfold mnAt
  have h1 := hc.n1
  split
  · have := Int.emod_nonneg (c.f + cnt (stB t c) d) (show c.n ≠ 0 by omega); have := Int.emod_lt_of_pos (c.f + cnt (stB t c) d) (show 0 < c.n by omega); omega
  · omega
theorem mnAt_nonneg {t : Tm} {c : Cy} (hc : CyOk c) (d : Nat) : 0 ≤ mnAt t c d ↔ opB t d = true := by
  cases h : opB t d with
  | true =>
    rw [mnAt_open h]
    have h1 := hc.n1
    have := Int.emod_nonneg (c.f + cnt (stB t c) d) (show c.n ≠ 0 by omega); simp [this]
  | false => rw [mnAt_shut h]; simp
/-- The menus of the first k days, and -1 or 0 behind. -/
def mnTo (t : Tm) (c : Cy) (n k : Nat) : List Int := (List.range n).map fun d => if d < k then mnAt t c d else 0
def mnL (t : Tm) (c : Cy) : List Int := (List.range t.len.toNat).map (mnAt t c)
theorem mnL_length (t : Tm) (c : Cy) : (mnL t c).length = t.len.toNat := by simp [mnL]
theorem mnL_at (t : Tm) (c : Cy) (d : Nat) (h : d < t.len.toNat) : gi (mnL t c) d = mnAt t c d := by simp [gi, mnL, h]
theorem mnTo_length (t : Tm) (c : Cy) (n k : Nat) : (mnTo t c n k).length = n := by simp [mnTo]
theorem mnTo_zero (t : Tm) (c : Cy) (n : Nat) : mnTo t c n 0 = List.replicate n 0 := by
  rw [List.eq_replicate_iff]
  refine ⟨by simp [mnTo], fun b hb => ?_⟩
  obtain ⟨d, _, rfl⟩ := List.mem_map.1 hb
  simp
theorem mnTo_full (t : Tm) (c : Cy) (n : Nat) (h : n = t.len.toNat) : mnTo t c n n = mnL t c := by
  subst h
  unfold mnTo mnL
  apply List.map_congr_left
  intro d hd
  rw [if_pos (List.mem_range.1 hd)]
theorem mnTo_set (t : Tm) (c : Cy) (n k : Nat) (_h : k < n) : (mnTo t c n k).set k (mnAt t c k) = mnTo t c n (k + 1) := by
  apply List.ext_getElem
  · simp [mnTo]
  · intro j h1 h2
    have hj : j < n := by simpa [mnTo] using h2
    rw [List.getElem_set]
    by_cases e : k = j
    · subst e
      simp [mnTo]
    · rw [if_neg e]
      simp only [mnTo, List.getElem_map, List.getElem_range]
      by_cases hlt : j < k
      · rw [if_pos hlt, if_pos (by omega)]
      · rw [if_neg hlt, if_neg (by omega)]
theorem set_twice (l : List Int) (k : Nat) (a b : Int) : (l.set k a).set k b = l.set k b := by simp
theorem next_mod {f s n : Int} (_hn : 1 ≤ n) : ((f + s) % n + 1) % n = (f + (s + 1)) % n := by
  rw [Int.emod_add_emod, Int.add_assoc]

/-! ### the answers -/
def qE (t : Tm) (d : Int) : Int := if tE t ≠ 0 then tE t else if inB d 0 (t.len - 1) then 0 else 1
theorem qE_ok {t : Tm} {d : Int} (h : qE t d = 0) : TmOk t ∧ 0 ≤ d ∧ d < t.len := by
  unfold qE at h
  by_cases h1 : tE t = 0
  · rw [if_neg (by simp [h1])] at h
    cases h2 : inB d 0 (t.len - 1) with
    | false => rw [h2] at h; cases h
    | true => have := inB_true.1 h2; exact ⟨TmOk.of h1, this.1, by omega⟩
  · rw [if_pos h1] at h; exact absurd h h1
def menuE (t : Tm) (c : Cy) (d : Int) : Int := if bE t c ≠ 0 then bE t c else if inB d 0 (t.len - 1) then (if opB t d then 0 else 13) else 1
def menuR (t : Tm) (c : Cy) (d : Int) : Int := if menuE t c d = 0 then mnAt t c d.toNat else 0

end Go.Proofs.YtlnmmkgeahlohaaDoor
