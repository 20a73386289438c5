/-
  Plain: a term's text, and how a text is read.
-/
import Derived.Test.YtlnmmkgeahlohaaDoorPlain
import Derived.Lib.ItoaNum
import Derived.Lib.Join
import Derived.Lib.AtoiAll
import Derived.KernelRfl
namespace Go.Proofs.YtlnmmkgeahlohaaDoor
set_option linter.unusedVariables false
set_option linter.unusedSimpArgs false

abbrev Wd := List UInt8
def wTerm : Wd := [116, 101, 114, 109]
def wRest : Wd := [114, 101, 115, 116]
def wClosed : Wd := [99, 108, 111, 115, 101, 100]
def free (w : Wd) : Prop := ∀ b ∈ w, b ≠ 32
/-- the words of a text, cut at blanks -/
def wds : List UInt8 → List Wd
  | [] => [[]]
  | b :: r => if b = 32 then [] :: wds r else match wds r with
    | [] => [[b]]
    | w :: ws => (b :: w) :: ws
theorem wds_ne (l : List UInt8) : wds l ≠ [] := by
  cases l with
  | nil => simp [wds]
  | cons b r =>
    unfold wds
    split
    · simp
    · split <;> simp
theorem wds_free {w : Wd} (h : free w) : wds w = [w] := by
  induction w with
  | nil => rfl
  | cons b r ih =>
    have hb : b ≠ 32 := h b (by simp)
    have ih := ih fun x hx => h x (by simp [hx])
    simp [wds, hb, ih]
theorem wds_cut {w : Wd} (h : free w) (r : List UInt8) : wds (w ++ 32 :: r) = w :: wds r := by
  induction w with
  | nil => simp [wds]
  | cons b w ih =>
    have hb : b ≠ 32 := h b (by simp)
    have ih := ih fun x hx => h x (by simp [hx])
    rw [List.cons_append]
    simp only [wds, if_neg hb, ih]
theorem join_two (a b : Wd) (r : List Wd) : Lib.join (a :: b :: r) [32] = a ++ 32 :: Lib.join (b :: r) [32] := by
  rw [Lib.join_cons, Lib.join_cons]
  simp [Lib.joinTail]
theorem wds_join : ∀ {ws : List Wd}, ws ≠ [] → (∀ w ∈ ws, free w) → wds (Lib.join ws [32]) = ws
  | [], h, _ => absurd rfl h
  | [w], _, h => by rw [Lib.join_one]; exact wds_free (h w (by simp))
  | a :: b :: r, _, h => by
    rw [join_two, wds_cut (h a (by simp)), wds_join (by simp) (fun w hw => h w (by simp at hw ⊢; exact .inr hw))]

/-! ### numerals -/
def dg4 (n : Nat) : Wd :=
  if n < 10 then [UInt8.ofNat (48 + n)]
  else if n < 100 then [UInt8.ofNat (48 + n / 10), UInt8.ofNat (48 + n % 10)]
  else if n < 1000 then [UInt8.ofNat (48 + n / 100), UInt8.ofNat (48 + n / 10 % 10), UInt8.ofNat (48 + n % 10)]
  else [UInt8.ofNat (48 + n / 1000), UInt8.ofNat (48 + n / 100 % 10), UInt8.ofNat (48 + n / 10 % 10), UInt8.ofNat (48 + n % 10)]
theorem dg_small {n : Nat} (h : n < 10) : Lib.decDigits n = [UInt8.ofNat (48 + n)] := by rw [Lib.decDigits, dif_pos h]
theorem dg_big {n : Nat} (h : ¬ n < 10) : Lib.decDigits n = Lib.decDigits (n / 10) ++ [UInt8.ofNat (48 + n % 10)] := by rw [Lib.decDigits, dif_neg h]
theorem dg_four {n : Nat} (h : n < 10000) : Lib.decDigits n = dg4 n := by
  unfold dg4
  by_cases h1 : n < 10
  · rw [if_pos h1, dg_small h1]
  · rw [if_neg h1, dg_big h1]
    by_cases h2 : n < 100
    · rw [if_pos h2, dg_small (by omega)]; rfl
    · rw [if_neg h2, dg_big (n := n / 10) (by omega), Nat.div_div_eq_div_mul]
      by_cases h3 : n < 1000
      · rw [if_pos h3, dg_small (by omega)]; rfl
      · rw [if_neg h3, dg_big (n := n / (10 * 10)) (by omega), Nat.div_div_eq_div_mul, dg_small (by omega)]; rfl
/-- how the document reads a word -/
def numTo : Wd → Nat → Nat → Option Nat
  | [], _, n => some n
  | b :: r, i, n => if b.toNat < 48 ∨ 57 < b.toNat ∨ i = 9 then none else numTo r (i + 1) (10 * n + (b.toNat - 48))
def numW (w : Wd) : Int := match numTo w 0 0 with
  | none => -1
  | some n => if w = [] ∨ Lib.decDigits n ≠ w then -1 else n
def goodB (n : Nat) : Bool := decide (Lib.atoiAll (dg4 n) = .ok (n : Int)) && (decide (numTo (dg4 n) 0 0 = some n) && (decide (dg4 n ≠ []) && (decide (dg4 n ≠ wRest) && (decide (dg4 n ≠ wClosed) && (dg4 n).all fun b => decide (b ≠ 32)))))
theorem good_all : (List.range 1001).all goodB = true := by decide +kernel
theorem good_of {n : Nat} (h : n ≤ 1000) : Lib.atoiAll (Lib.decDigits n) = .ok (n : Int) ∧ numW (Lib.decDigits n) = n ∧ Lib.decDigits n ≠ wRest ∧ Lib.decDigits n ≠ wClosed ∧ free (Lib.decDigits n) := by
  have hg := List.all_eq_true.1 good_all n (by simp; omega)
  unfold goodB at hg
  simp only [Bool.and_eq_true, decide_eq_true_eq] at hg
  obtain ⟨h1, h2, h3, h4, h5, h6⟩ := hg
  rw [dg_four (by omega)]
  refine ⟨h1, ?_, h4, h5, fun b hb => by simpa using List.all_eq_true.1 h6 b hb⟩
  unfold numW
  rw [h2]
  simp only
  rw [if_neg (by rintro (h | h); exact h3 h; exact h (dg_four (by omega)))]

/-! ### a term's text -/
def dgI (x : Int) : Wd := Lib.decDigits x.toNat
def wordsT (t : Tm) : List Wd := wTerm :: dgI t.len :: wRest :: (t.rest.map dgI ++ wClosed :: t.clo.map dgI)
def fmtT (t : Tm) : List UInt8 := Lib.join (wordsT t) [32]
theorem free_words {t : Tm} (h : TmOk t) : ∀ w ∈ wordsT t, free w := by
  have h1 := h.len1
  have h2 := h.len2
  have hr : ∀ x ∈ t.rest, 0 ≤ x ∧ x ≤ 1000 := fun x hx => by
    obtain ⟨i, hi, rfl⟩ := List.mem_iff_getElem.1 hx
    rw [gi_getElem _ i hi]
    have := isSet_at h.rest hi
    omega
  have hc : ∀ x ∈ t.clo, 0 ≤ x ∧ x ≤ 1000 := fun x hx => by
    obtain ⟨i, hi, rfl⟩ := List.mem_iff_getElem.1 hx
    rw [gi_getElem _ i hi]
    have := isSet_at h.clo hi
    omega
  intro w hw
  simp only [wordsT, List.mem_cons, List.mem_append, List.mem_map] at hw
  rcases hw with rfl | rfl | rfl | ⟨x, hx, rfl⟩ | rfl | ⟨x, hx, rfl⟩
  · show ∀ b ∈ wTerm, b ≠ 32; decide
  · exact (good_of (n := t.len.toNat) (by omega)).2.2.2.2
  · show ∀ b ∈ wRest, b ≠ 32; decide
  · have := hr x hx; exact (good_of (n := x.toNat) (by omega)).2.2.2.2
  · show ∀ b ∈ wClosed, b ≠ 32; decide
  · have := hc x hx; exact (good_of (n := x.toNat) (by omega)).2.2.2.2
theorem wds_fmt {t : Tm} (h : TmOk t) : wds (fmtT t) = wordsT t := wds_join (by simp [wordsT]) (free_words h)

/-! ### reading: the program's way -/
structure PS where
  sel : Nat
  one : List Int
  rest : List Int
  clo : List Int
def PS.push (p : PS) (n : Int) : PS := if p.sel = 0 then ⟨p.sel, p.one ++ [n], p.rest, p.clo⟩ else if p.sel = 1 then ⟨p.sel, p.one, p.rest ++ [n], p.clo⟩ else ⟨p.sel, p.one, p.rest, p.clo ++ [n]⟩
def pstep (p : PS) (w : Wd) : Option PS :=
  if w = wRest then some ⟨1, p.one, p.rest, p.clo⟩ else if w = wClosed then some ⟨2, p.one, p.rest, p.clo⟩ else
  match Lib.atoiAll w with
  | .ok n => some (p.push n)
  | _ => none
def pL : PS → List Wd → Option PS
  | p, [] => some p
  | p, w :: ws => match pstep p w with
    | some q => pL q ws
    | none => none
theorem pL_app (p : PS) (a b : List Wd) : pL p (a ++ b) = match pL p a with
    | some q => pL q b
    | none => none := by
  induction a generalizing p with
  | nil => rfl
  | cons w a ih =>
    simp only [List.cons_append, pL]
    cases pstep p w with
    | none => rfl
    | some q => exact ih q
def PS.tm (p : PS) : Tm := ⟨if p.one.length = 1 then gi p.one 0 else 0, p.rest, p.clo⟩
def p0 : PS := ⟨0, [], [], []⟩
def pT (text : List UInt8) : Option PS := pL p0 (wds text).tail
theorem pstep_num {p : PS} {x : Int} (h0 : 0 ≤ x) (h1 : x ≤ 1000) : pstep p (dgI x) = some (p.push x) := by
  obtain ⟨g1, _, g2, g3, _⟩ := good_of (n := x.toNat) (by omega)
  unfold pstep dgI
  rw [if_neg g2, if_neg g3, g1]
  simp only [Option.some.injEq]
  congr 1
  omega
theorem pL_nums : ∀ (l : List Int) (p : PS), (∀ x ∈ l, 0 ≤ x ∧ x ≤ 1000) → p.sel = 1 ∨ p.sel = 2 → pL p (l.map dgI) = some (if p.sel = 1 then ⟨p.sel, p.one, p.rest ++ l, p.clo⟩ else ⟨p.sel, p.one, p.rest, p.clo ++ l⟩)
  | [], p, _, h => by rcases h with h | h <;> simp [pL, h] <;> cases p <;> simp_all
  | x :: l, p, hl, h => by
    have hx := hl x (by simp)
    simp only [List.map_cons, pL, pstep_num hx.1 hx.2]
    rcases h with h | h
    · rw [pL_nums l (p.push x) (fun y hy => hl y (by simp [hy])) (by simp [PS.push, h])]
      simp [PS.push, h]
    · rw [pL_nums l (p.push x) (fun y hy => hl y (by simp [hy])) (by simp [PS.push, h])]
      simp [PS.push, h]
theorem pT_fmt {t : Tm} (h : TmOk t) : ∃ p, pT (fmtT t) = some p ∧ p.tm = t := by
  have h1 := h.len1
  have h2 := h.len2
  have hr : ∀ x ∈ t.rest, 0 ≤ x ∧ x ≤ 1000 := fun x hx => by
    obtain ⟨i, hi, rfl⟩ := List.mem_iff_getElem.1 hx
    rw [gi_getElem _ i hi]
    have := isSet_at h.rest hi
    omega
  have hc : ∀ x ∈ t.clo, 0 ≤ x ∧ x ≤ 1000 := fun x hx => by
    obtain ⟨i, hi, rfl⟩ := List.mem_iff_getElem.1 hx
    rw [gi_getElem _ i hi]
    have := isSet_at h.clo hi
    omega
  have e0 : pstep p0 (dgI t.len) = some ⟨0, [t.len], [], []⟩ := by rw [pstep_num (by omega) (by omega)]; rfl
  have e1 : pstep ⟨0, [t.len], [], []⟩ wRest = some ⟨1, [t.len], [], []⟩ := by unfold pstep; rw [if_pos rfl]
  have e2 := pL_nums t.rest ⟨1, [t.len], [], []⟩ hr (.inl rfl)
  have e3 : pstep ⟨1, [t.len], t.rest, []⟩ wClosed = some ⟨2, [t.len], t.rest, []⟩ := by unfold pstep; rw [if_neg (by decide), if_pos rfl]
  have e4 := pL_nums t.clo ⟨2, [t.len], t.rest, []⟩ hc (.inr rfl)
  refine ⟨⟨2, [t.len], t.rest, t.clo⟩, ?_, by cases t; simp [PS.tm, gi]⟩
  unfold pT
  rw [wds_fmt h]
  simp only [wordsT, List.tail_cons, pL, e0, e1]
  rw [pL_app, e2]
  simp only [if_true, List.nil_append, pL, e3]
  rw [e4]
  simp

/-! ### reading: the document's way -/
structure RPS where
  part : Nat
  len : Int
  rest : List Int
  clo : List Int
def rstep (p : RPS) (i : Nat) (w : Wd) : RPS :=
  if i = 1 then ⟨p.part, numW w, p.rest, p.clo⟩
  else if w = wRest ∨ w = wClosed then ⟨p.part + 1, p.len, p.rest, p.clo⟩
  else if p.part = 1 then ⟨p.part, p.len, p.rest ++ [numW w], p.clo⟩
  else ⟨p.part, p.len, p.rest, p.clo ++ [numW w]⟩
def rL : RPS → Nat → List Wd → RPS
  | p, _, [] => p
  | p, i, w :: ws => rL (rstep p i w) (i + 1) ws
theorem rL_app (p : RPS) (i : Nat) (a b : List Wd) : rL p i (a ++ b) = rL (rL p i a) (i + a.length) b := by
  induction a generalizing p i with
  | nil => rfl
  | cons w a ih =>
    simp only [List.cons_append, rL, List.length_cons]
    rw [ih]
    congr 1
    omega
def r0 : RPS := ⟨0, 0, [], []⟩
def rT (text : List UInt8) : RPS := rL r0 1 (wds text).tail
def RPS.tm (p : RPS) : Tm := ⟨p.len, p.rest, p.clo⟩
theorem rL_nums : ∀ (l : List Int) (p : RPS) (i : Nat), (∀ x ∈ l, 0 ≤ x ∧ x ≤ 1000) → 2 ≤ i → rL p i (l.map dgI) = if p.part = 1 then ⟨p.part, p.len, p.rest ++ l, p.clo⟩ else ⟨p.part, p.len, p.rest, p.clo ++ l⟩
  | [], p, i, _, h => by cases p; simp [rL]
  | x :: l, p, i, hl, h => by
    have hx := hl x (by simp)
    obtain ⟨_, g1, g2, g3, _⟩ := good_of (n := x.toNat) (by omega)
    have hs : rstep p i (dgI x) = if p.part = 1 then ⟨p.part, p.len, p.rest ++ [x], p.clo⟩ else ⟨p.part, p.len, p.rest, p.clo ++ [x]⟩ := by
      unfold rstep dgI
      rw [if_neg (by omega), if_neg (by rintro (h | h); exact g2 h; exact g3 h), g1, show ((x.toNat : Nat) : Int) = x by omega]
    simp only [List.map_cons, rL, hs]
    rw [rL_nums l _ (i + 1) (fun y hy => hl y (by simp [hy])) (by omega)]
    by_cases hp : p.part = 1 <;> simp [hp]
theorem rT_fmt {t : Tm} (h : TmOk t) : (rT (fmtT t)).tm = t := by
  have h1 := h.len1
  have h2 := h.len2
  have hr : ∀ x ∈ t.rest, 0 ≤ x ∧ x ≤ 1000 := fun x hx => by
    obtain ⟨i, hi, rfl⟩ := List.mem_iff_getElem.1 hx
    rw [gi_getElem _ i hi]
    have := isSet_at h.rest hi
    omega
  have hc : ∀ x ∈ t.clo, 0 ≤ x ∧ x ≤ 1000 := fun x hx => by
    obtain ⟨i, hi, rfl⟩ := List.mem_iff_getElem.1 hx
    rw [gi_getElem _ i hi]
    have := isSet_at h.clo hi
    omega
  obtain ⟨_, g1, _, _, _⟩ := good_of (n := t.len.toNat) (by omega)
  have e0 : rstep r0 1 (dgI t.len) = ⟨0, t.len, [], []⟩ := by
    unfold rstep dgI; rw [if_pos rfl, g1, show ((t.len.toNat : Nat) : Int) = t.len by omega]; rfl
  have e1 : rstep ⟨0, t.len, [], []⟩ (1 + 1) wRest = ⟨1, t.len, [], []⟩ := by unfold rstep; rw [if_neg (by omega), if_pos (.inl rfl)]
  have e2 := rL_nums t.rest ⟨1, t.len, [], []⟩ (1 + 1 + 1) hr (by omega)
  have e3 : ∀ i, 2 ≤ i → rstep ⟨1, t.len, t.rest, []⟩ i wClosed = ⟨2, t.len, t.rest, []⟩ := fun i hi => by unfold rstep; rw [if_neg (by omega), if_pos (.inr rfl)]
  unfold rT
  rw [wds_fmt h]
  simp only [wordsT, List.tail_cons, rL, e0, e1]
  rw [rL_app, e2]
  simp only [if_true, List.nil_append, rL]
  rw [e3 _ (by omega), rL_nums t.clo _ _ hc (by omega)]
  cases t
  simp [RPS.tm]

/-! ### the answers -/
def prE (text : List UInt8) : Int := if 4000 < text.length then 4 else match pT text with
  | some p => if tE p.tm = 0 ∧ fmtT p.tm = text then 0 else 3
  | none => 3
def prT (text : List UInt8) : Tm := if prE text = 0 then (match pT text with | some p => p.tm | none => ⟨0, [], []⟩) else ⟨0, [], []⟩
def rrE (text : List UInt8) : Int := if 4000 < text.length then 4 else if tE (rT text).tm = 0 ∧ fmtT (rT text).tm = text then 0 else 3
def rrT (text : List UInt8) : Tm := if rrE text = 0 then (rT text).tm else ⟨0, [], []⟩
theorem read_same (text : List UInt8) : prE text = rrE text ∧ prT text = rrT text := by
  have hE : prE text = rrE text := by
    unfold prE rrE
    by_cases h4 : 4000 < text.length
    · rw [if_pos h4, if_pos h4]
    · rw [if_neg h4, if_neg h4]
      by_cases hr : tE (rT text).tm = 0 ∧ fmtT (rT text).tm = text
      · obtain ⟨p, hp, he⟩ := pT_fmt (TmOk.of hr.1)
        rw [hr.2] at hp
        rw [if_pos hr, hp]
        simp only
        rw [if_pos (by rw [he]; exact hr)]
      · rw [if_neg hr]
        cases hp : pT text with
        | none => rfl
        | some p =>
          simp only
          by_cases hq : tE p.tm = 0 ∧ fmtT p.tm = text
          · have := rT_fmt (TmOk.of hq.1)
            rw [hq.2] at this
            exact absurd (by rw [this]; exact hq) hr
          · rw [if_neg hq]
  refine ⟨hE, ?_⟩
  unfold prT rrT
  rw [hE]
  by_cases h0 : rrE text = 0
  · rw [if_pos h0, if_pos h0]
    have hr : tE (rT text).tm = 0 ∧ fmtT (rT text).tm = text := by
      unfold rrE at h0
      by_cases h4 : 4000 < text.length
      · rw [if_pos h4] at h0; cases h0
      · rw [if_neg h4] at h0
        by_cases hr : tE (rT text).tm = 0 ∧ fmtT (rT text).tm = text
        · exact hr
        · rw [if_neg hr] at h0; cases h0
    obtain ⟨p, hp, he⟩ := pT_fmt (TmOk.of hr.1)
    rw [hr.2] at hp
    rw [hp]
    exact he
  · rw [if_neg h0, if_neg h0]
end Go.Proofs.YtlnmmkgeahlohaaDoor
