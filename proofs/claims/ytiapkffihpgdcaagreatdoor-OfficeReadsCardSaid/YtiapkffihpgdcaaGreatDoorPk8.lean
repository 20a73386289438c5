import Derived.Test.YtiapkffihpgdcaaGreatDoorPk1
import Derived.Test.YtiapkffihpgdcaaGreatDoorPk2
import Derived.Test.YtiapkffihpgdcaaGreatDoorPk5
import Derived.Test.YtiapkffihpgdcaaGreatDoorPk7
import Derived.Lib.ItoaNum
import Derived.Lib.Join
import Derived.Lib.AtoiAll
import Derived.KernelRfl
import Derived.Deep.RegionLaw
import Derived.Deep.AppendLies
/-
  Plain: a term's text, and how a text is read.
-/
namespace Go.Proofs.YtiapkffihpgdcaaGreatDoor
set_option linter.unusedVariables false
set_option linter.unusedSimpArgs false

abbrev Wd := List UInt8
def wTerm : Wd := [116, 101, 114, 109]
def wRest : Wd := [114, 101, 115, 116]
def wClosed : Wd := [99, 108, 111, 115, 101, 100]
def free (w : Wd) : Prop := ∀ b ∈ w, b ≠ 32
/-- the words of a text, cut at blanks -/
def wds : List UInt8 → List Wd
  | [] => [[]]
  | b :: r => if b = 32 then [] :: wds r else match wds r with
    | [] => [[b]]
    | w :: ws => (b :: w) :: ws
theorem wds_ne (l : List UInt8) : wds l ≠ [] := by
  cases l with
  | nil => simp [wds]
  | cons b r =>
    unfold wds
    split
    · simp
    · split <;> simp
theorem wds_free {w : Wd} (h : free w) : wds w = [w] := by
  induction w with
  | nil => rfl
  | cons b r ih =>
    have hb : b ≠ 32 := h b (by simp)
    have ih := ih fun x hx => h x (by simp [hx])
    simp [wds, hb, ih]
theorem wds_cut {w : Wd} (h : free w) (r : List UInt8) : wds (w ++ 32 :: r) = w :: wds r := by
  induction w with
  | nil => simp [wds]
  | cons b w ih =>
    have hb : b ≠ 32 := h b (by simp)
    have ih := ih fun x hx => h x (by simp [hx])
    rw [List.cons_append]
    simp only [wds, if_neg hb, ih]
theorem join_two (a b : Wd) (r : List Wd) : Lib.join (a :: b :: r) [32] = a ++ 32 :: Lib.join (b :: r) [32] := by
  rw [Lib.join_cons, Lib.join_cons]
  simp [Lib.joinTail]
theorem wds_join : ∀ {ws : List Wd}, ws ≠ [] → (∀ w ∈ ws, free w) → wds (Lib.join ws [32]) = ws
  | [], h, _ => absurd rfl h
  | [w], _, h => by rw [Lib.join_one]; exact wds_free (h w (by simp))
  | a :: b :: r, _, h => by
    rw [join_two, wds_cut (h a (by simp)), wds_join (by simp) (fun w hw => h w (by simp at hw ⊢; exact .inr hw))]

/-! ### numerals -/
def dg4 (n : Nat) : Wd :=
  if n < 10 then [UInt8.ofNat (48 + n)]
  else if n < 100 then [UInt8.ofNat (48 + n / 10), UInt8.ofNat (48 + n % 10)]
  else if n < 1000 then [UInt8.ofNat (48 + n / 100), UInt8.ofNat (48 + n / 10 % 10), UInt8.ofNat (48 + n % 10)]
  else [UInt8.ofNat (48 + n / 1000), UInt8.ofNat (48 + n / 100 % 10), UInt8.ofNat (48 + n / 10 % 10), UInt8.ofNat (48 + n % 10)]
theorem dg_small {n : Nat} (h : n < 10) : Lib.decDigits n = [UInt8.ofNat (48 + n)] := by rw [Lib.decDigits, dif_pos h]
theorem dg_big {n : Nat} (h : ¬ n < 10) : Lib.decDigits n = Lib.decDigits (n / 10) ++ [UInt8.ofNat (48 + n % 10)] := by rw [Lib.decDigits, dif_neg h]
theorem dg_four {n : Nat} (h : n < 10000) : Lib.decDigits n = dg4 n := by
  unfold dg4
  by_cases h1 : n < 10
  · rw [if_pos h1, dg_small h1]
  · rw [if_neg h1, dg_big h1]
    by_cases h2 : n < 100
    · rw [if_pos h2, dg_small (by omega)]; rfl
    · rw [if_neg h2, dg_big (n := n / 10) (by omega), Nat.div_div_eq_div_mul]
      by_cases h3 : n < 1000
      · rw [if_pos h3, dg_small (by omega)]; rfl
      · rw [if_neg h3, dg_big (n := n / (10 * 10)) (by omega), Nat.div_div_eq_div_mul, dg_small (by omega)]; rfl
/-- how the document reads a word -/
def numTo : Wd → Nat → Nat → Option Nat
  | [], _, n => some n
  | b :: r, i, n => if b.toNat < 48 ∨ 57 < b.toNat ∨ i = 9 then none else numTo r (i + 1) (10 * n + (b.toNat - 48))
def numW (w : Wd) : Int := match numTo w 0 0 with
  | none => -1
  | some n => if w = [] ∨ Lib.decDigits n ≠ w then -1 else n
def goodB (n : Nat) : Bool := decide (Lib.atoiAll (dg4 n) = .ok (n : Int)) && (decide (numTo (dg4 n) 0 0 = some n) && (decide (dg4 n ≠ []) && (decide (dg4 n ≠ wRest) && (decide (dg4 n ≠ wClosed) && (dg4 n).all fun b => decide (b ≠ 32)))))
theorem good_all : (List.range 1001).all goodB = true := by decide +kernel
theorem good_of {n : Nat} (h : n ≤ 1000) : Lib.atoiAll (Lib.decDigits n) = .ok (n : Int) ∧ numW (Lib.decDigits n) = n ∧ Lib.decDigits n ≠ wRest ∧ Lib.decDigits n ≠ wClosed ∧ free (Lib.decDigits n) := by
  have hg := List.all_eq_true.1 good_all n (by simp; omega)
  unfold goodB at hg
  simp only [Bool.and_eq_true, decide_eq_true_eq] at hg
  obtain ⟨h1, h2, h3, h4, h5, h6⟩ := hg
  rw [dg_four (by omega)]
  refine ⟨h1, ?_, h4, h5, fun b hb => by simpa using List.all_eq_true.1 h6 b hb⟩
  unfold numW
  rw [h2]
  simp only
  rw [if_neg (by rintro (h | h); exact h3 h; exact h (dg_four (by omega)))]

/-! ### a term's text -/
def dgI (x : Int) : Wd := Lib.decDigits x.toNat
def wordsT (t : Tm) : List Wd := wTerm :: dgI t.len :: wRest :: (t.rest.map dgI ++ wClosed :: t.clo.map dgI)
def fmtT (t : Tm) : List UInt8 := Lib.join (wordsT t) [32]
theorem free_words {t : Tm} (h : TmOk t) : ∀ w ∈ wordsT t, free w := by
  have h1 := h.len1
  have h2 := h.len2
  have hr : ∀ x ∈ t.rest, 0 ≤ x ∧ x ≤ 1000 := fun x hx => by
    obtain ⟨i, hi, rfl⟩ := List.mem_iff_getElem.1 hx
    rw [gi_getElem _ i hi]
    have := isSet_at h.rest hi
    omega
  have hc : ∀ x ∈ t.clo, 0 ≤ x ∧ x ≤ 1000 := fun x hx => by
    obtain ⟨i, hi, rfl⟩ := List.mem_iff_getElem.1 hx
    rw [gi_getElem _ i hi]
    have := isSet_at h.clo hi
    omega
  intro w hw
  simp only [wordsT, List.mem_cons, List.mem_append, List.mem_map] at hw
  rcases hw with rfl | rfl | rfl | ⟨x, hx, rfl⟩ | rfl | ⟨x, hx, rfl⟩
  · show ∀ b ∈ wTerm, b ≠ 32; decide
  · exact (good_of (n := t.len.toNat) (by omega)).2.2.2.2
  · show ∀ b ∈ wRest, b ≠ 32; decide
  · have := hr x hx; exact (good_of (n := x.toNat) (by omega)).2.2.2.2
  · show ∀ b ∈ wClosed, b ≠ 32; decide
  · have := hc x hx; exact (good_of (n := x.toNat) (by omega)).2.2.2.2
theorem wds_fmt {t : Tm} (h : TmOk t) : wds (fmtT t) = wordsT t := wds_join (by simp [wordsT]) (free_words h)

/-! ### reading: the program's way -/
structure PS where
  sel : Nat
  one : List Int
  rest : List Int
  clo : List Int
def PS.push (p : PS) (n : Int) : PS := if p.sel = 0 then ⟨p.sel, p.one ++ [n], p.rest, p.clo⟩ else if p.sel = 1 then ⟨p.sel, p.one, p.rest ++ [n], p.clo⟩ else ⟨p.sel, p.one, p.rest, p.clo ++ [n]⟩
def pstep (p : PS) (w : Wd) : Option PS :=
  if w = wRest then some ⟨1, p.one, p.rest, p.clo⟩ else if w = wClosed then some ⟨2, p.one, p.rest, p.clo⟩ else
  match Lib.atoiAll w with
  | .ok n => some (p.push n)
  | _ => none
def pL : PS → List Wd → Option PS
  | p, [] => some p
  | p, w :: ws => match pstep p w with
    | some q => pL q ws
    | none => none
theorem pL_app (p : PS) (a b : List Wd) : pL p (a ++ b) = match pL p a with
    | some q => pL q b
    | none => none := by
  induction a generalizing p with
  | nil => rfl
  | cons w a ih =>
    simp only [List.cons_append, pL]
    cases pstep p w with
    | none => rfl
    | some q => exact ih q
def PS.tm (p : PS) : Tm := ⟨if p.one.length = 1 then gi p.one 0 else 0, p.rest, p.clo⟩
def p0 : PS := ⟨0, [], [], []⟩
def pT (text : List UInt8) : Option PS := pL p0 (wds text).tail
theorem pstep_num {p : PS} {x : Int} (h0 : 0 ≤ x) (h1 : x ≤ 1000) : pstep p (dgI x) = some (p.push x) := by
  obtain ⟨g1, _, g2, g3, _⟩ := good_of (n := x.toNat) (by omega)
  unfold pstep dgI
  rw [if_neg g2, if_neg g3, g1]
  simp only [Option.some.injEq]
  congr 1
  omega
theorem pL_nums : ∀ (l : List Int) (p : PS), (∀ x ∈ l, 0 ≤ x ∧ x ≤ 1000) → p.sel = 1 ∨ p.sel = 2 → pL p (l.map dgI) = some (if p.sel = 1 then ⟨p.sel, p.one, p.rest ++ l, p.clo⟩ else ⟨p.sel, p.one, p.rest, p.clo ++ l⟩)
  | [], p, _, h => by rcases h with h | h <;> simp [pL, h] <;> cases p <;> simp_all
  | x :: l, p, hl, h => by
    have hx := hl x (by simp)
    simp only [List.map_cons, pL, pstep_num hx.1 hx.2]
    rcases h with h | h
    · rw [pL_nums l (p.push x) (fun y hy => hl y (by simp [hy])) (by simp [PS.push, h])]
      simp [PS.push, h]
    · rw [pL_nums l (p.push x) (fun y hy => hl y (by simp [hy])) (by simp [PS.push, h])]
      simp [PS.push, h]
theorem pT_fmt {t : Tm} (h : TmOk t) : ∃ p, pT (fmtT t) = some p ∧ p.tm = t := by
  have h1 := h.len1
  have h2 := h.len2
  have hr : ∀ x ∈ t.rest, 0 ≤ x ∧ x ≤ 1000 := fun x hx => by
    obtain ⟨i, hi, rfl⟩ := List.mem_iff_getElem.1 hx
    rw [gi_getElem _ i hi]
    have := isSet_at h.rest hi
    omega
  have hc : ∀ x ∈ t.clo, 0 ≤ x ∧ x ≤ 1000 := fun x hx => by
    obtain ⟨i, hi, rfl⟩ := List.mem_iff_getElem.1 hx
    rw [gi_getElem _ i hi]
    have := isSet_at h.clo hi
    omega
  have e0 : pstep p0 (dgI t.len) = some ⟨0, [t.len], [], []⟩ := by rw [pstep_num (by omega) (by omega)]; rfl
  have e1 : pstep ⟨0, [t.len], [], []⟩ wRest = some ⟨1, [t.len], [], []⟩ := by unfold pstep; rw [if_pos rfl]
  have e2 := pL_nums t.rest ⟨1, [t.len], [], []⟩ hr (.inl rfl)
  have e3 : pstep ⟨1, [t.len], t.rest, []⟩ wClosed = some ⟨2, [t.len], t.rest, []⟩ := by unfold pstep; rw [if_neg (by decide), if_pos rfl]
  have e4 := pL_nums t.clo ⟨2, [t.len], t.rest, []⟩ hc (.inr rfl)
  refine ⟨⟨2, [t.len], t.rest, t.clo⟩, ?_, by cases t; simp [PS.tm, gi]⟩
  unfold pT
  rw [wds_fmt h]
  simp only [wordsT, List.tail_cons, pL, e0, e1]
  rw [pL_app, e2]
  simp only [if_true, List.nil_append, pL, e3]
  rw [e4]
  simp

/-! ### reading: the document's way -/
structure RPS where
  part : Nat
  len : Int
  rest : List Int
  clo : List Int
def rstep (p : RPS) (i : Nat) (w : Wd) : RPS :=
  if i = 1 then ⟨p.part, numW w, p.rest, p.clo⟩
  else if w = wRest ∨ w = wClosed then ⟨p.part + 1, p.len, p.rest, p.clo⟩
  else if p.part = 1 then ⟨p.part, p.len, p.rest ++ [numW w], p.clo⟩
  else ⟨p.part, p.len, p.rest, p.clo ++ [numW w]⟩
def rL : RPS → Nat → List Wd → RPS
  | p, _, [] => p
  | p, i, w :: ws => rL (rstep p i w) (i + 1) ws
theorem rL_app (p : RPS) (i : Nat) (a b : List Wd) : rL p i (a ++ b) = rL (rL p i a) (i + a.length) b := by
  induction a generalizing p i with
  | nil => rfl
  | cons w a ih =>
    simp only [List.cons_append, rL, List.length_cons]
    rw [ih]
    congr 1
    omega
def r0 : RPS := ⟨0, 0, [], []⟩
def rT (text : List UInt8) : RPS := rL r0 1 (wds text).tail
def RPS.tm (p : RPS) : Tm := ⟨p.len, p.rest, p.clo⟩
theorem rL_nums : ∀ (l : List Int) (p : RPS) (i : Nat), (∀ x ∈ l, 0 ≤ x ∧ x ≤ 1000) → 2 ≤ i → rL p i (l.map dgI) = if p.part = 1 then ⟨p.part, p.len, p.rest ++ l, p.clo⟩ else ⟨p.part, p.len, p.rest, p.clo ++ l⟩
  | [], p, i, _, h => by cases p; simp [rL]
  | x :: l, p, i, hl, h => by
    have hx := hl x (by simp)
    obtain ⟨_, g1, g2, g3, _⟩ := good_of (n := x.toNat) (by omega)
    have hs : rstep p i (dgI x) = if p.part = 1 then ⟨p.part, p.len, p.rest ++ [x], p.clo⟩ else ⟨p.part, p.len, p.rest, p.clo ++ [x]⟩ := by
      unfold rstep dgI
      rw [if_neg (by omega), if_neg (by rintro (h | h); exact g2 h; exact g3 h), g1, show ((x.toNat : Nat) : Int) = x by omega]
    simp only [List.map_cons, rL, hs]
    rw [rL_nums l _ (i + 1) (fun y hy => hl y (by simp [hy])) (by omega)]
    by_cases hp : p.part = 1 <;> simp [hp]
theorem rT_fmt {t : Tm} (h : TmOk t) : (rT (fmtT t)).tm = t := by
  have h1 := h.len1
  have h2 := h.len2
  have hr : ∀ x ∈ t.rest, 0 ≤ x ∧ x ≤ 1000 := fun x hx => by
    obtain ⟨i, hi, rfl⟩ := List.mem_iff_getElem.1 hx
    rw [gi_getElem _ i hi]
    have := isSet_at h.rest hi
    omega
  have hc : ∀ x ∈ t.clo, 0 ≤ x ∧ x ≤ 1000 := fun x hx => by
    obtain ⟨i, hi, rfl⟩ := List.mem_iff_getElem.1 hx
    rw [gi_getElem _ i hi]
    have := isSet_at h.clo hi
    omega
  obtain ⟨_, g1, _, _, _⟩ := good_of (n := t.len.toNat) (by omega)
  have e0 : rstep r0 1 (dgI t.len) = ⟨0, t.len, [], []⟩ := by
    unfold rstep dgI; rw [if_pos rfl, g1, show ((t.len.toNat : Nat) : Int) = t.len by omega]; rfl
  have e1 : rstep ⟨0, t.len, [], []⟩ (1 + 1) wRest = ⟨1, t.len, [], []⟩ := by unfold rstep; rw [if_neg (by omega), if_pos (.inl rfl)]
  have e2 := rL_nums t.rest ⟨1, t.len, [], []⟩ (1 + 1 + 1) hr (by omega)
  have e3 : ∀ i, 2 ≤ i → rstep ⟨1, t.len, t.rest, []⟩ i wClosed = ⟨2, t.len, t.rest, []⟩ := fun i hi => by unfold rstep; rw [if_neg (by omega), if_pos (.inr rfl)]
  unfold rT
  rw [wds_fmt h]
  simp only [wordsT, List.tail_cons, rL, e0, e1]
  rw [rL_app, e2]
  simp only [if_true, List.nil_append, rL]
  rw [e3 _ (by omega), rL_nums t.clo _ _ hc (by omega)]
  cases t
  simp [RPS.tm]

/-! ### the answers -/
def prE (text : List UInt8) : Int := if 4000 < text.length then 4 else match pT text with
  | some p => if tE p.tm = 0 ∧ fmtT p.tm = text then 0 else 3
  | none => 3
def prT (text : List UInt8) : Tm := if prE text = 0 then (match pT text with | some p => p.tm | none => ⟨0, [], []⟩) else ⟨0, [], []⟩
def rrE (text : List UInt8) : Int := if 4000 < text.length then 4 else if tE (rT text).tm = 0 ∧ fmtT (rT text).tm = text then 0 else 3
def rrT (text : List UInt8) : Tm := if rrE text = 0 then (rT text).tm else ⟨0, [], []⟩
theorem read_same (text : List UInt8) : prE text = rrE text ∧ prT text = rrT text := by
  have hE : prE text = rrE text := by
    unfold prE rrE
    by_cases h4 : 4000 < text.length
    · rw [if_pos h4, if_pos h4]
    · rw [if_neg h4, if_neg h4]
      by_cases hr : tE (rT text).tm = 0 ∧ fmtT (rT text).tm = text
      · obtain ⟨p, hp, he⟩ := pT_fmt (TmOk.of hr.1)
        rw [hr.2] at hp
        rw [if_pos hr, hp]
        simp only
        rw [if_pos (by rw [he]; exact hr)]
      · rw [if_neg hr]
        cases hp : pT text with
        | none => rfl
        | some p =>
          simp only
          by_cases hq : tE p.tm = 0 ∧ fmtT p.tm = text
          · have := rT_fmt (TmOk.of hq.1)
            rw [hq.2] at this
            exact absurd (by rw [this]; exact hq) hr
          · rw [if_neg hq]
  refine ⟨hE, ?_⟩
  unfold prT rrT
  rw [hE]
  by_cases h0 : rrE text = 0
  · rw [if_pos h0, if_pos h0]
    have hr : tE (rT text).tm = 0 ∧ fmtT (rT text).tm = text := by
      unfold rrE at h0
      by_cases h4 : 4000 < text.length
      · rw [if_pos h4] at h0; cases h0
      · rw [if_neg h4] at h0
        by_cases hr : tE (rT text).tm = 0 ∧ fmtT (rT text).tm = text
        · exact hr
        · rw [if_neg hr] at h0; cases h0
    obtain ⟨p, hp, he⟩ := pT_fmt (TmOk.of hr.1)
    rw [hr.2] at hp
    rw [hp]
    exact he
  · rw [if_neg h0, if_neg h0]
end Go.Proofs.YtiapkffihpgdcaaGreatDoor
/-
  Walks: the document's digits and numbers in words.
-/
namespace Go.Proofs.YtiapkffihpgdcaaGreatDoor
set_option linter.unusedVariables false
set_option linter.unusedSimpArgs false
open Go.RowKit

/-- A text as a value. -/
abbrev St (l : List UInt8) : Value := .string ⟨l.toArray⟩
theorem dig_piece {i : Nat} (h : i < 10) : (ByteArray.extract ⟨#[48, 49, 50, 51, 52, 53, 54, 55, 56, 57]⟩ i (i + 1)) = ⟨(Lib.decDigits i).toArray⟩ := by
  rw [Lib.decDigits_one h]
  have : ∀ j : Fin 10, (ByteArray.extract ⟨#[48, 49, 50, 51, 52, 53, 54, 55, 56, 57]⟩ j.val (j.val + 1)) = ⟨#[UInt8.ofNat (48 + j.val)]⟩ := by decide +kernel
  exact this ⟨i, h⟩
theorem st_app (a b : List UInt8) : (⟨a.toArray⟩ : ByteArray) ++ ⟨b.toArray⟩ = ⟨(a ++ b).toArray⟩ := by
  apply ByteArray.ext
  simp
theorem dg_len : ∀ n : Nat, (Lib.decDigits n).length ≤ n + 1 := by
  intro n
  induction n using Nat.strongRecOn with
  | _ n ih =>
    by_cases h : n < 10
    · rw [Lib.decDigits_one h]; simp
    · rw [dg_big h]
      have := ih (n / 10) (by omega)
      simp
      omega
theorem dg_len4 {x : Int} (h : x ≤ 1000) : (dgI x).length ≤ 4 := by
  unfold dgI
  rw [dg_four (by omega)]
  unfold dg4
  split
  · simp
  · split
    · simp
    · split <;> simp
theorem jt_cons (a : Wd) (r : List Wd) : Lib.joinTail [32] (a :: r) = 32 :: (a ++ Lib.joinTail [32] r) := by simp [Lib.joinTail]
theorem jt_app (a b : List Wd) : Lib.joinTail [32] (a ++ b) = Lib.joinTail [32] a ++ Lib.joinTail [32] b := by simp [Lib.joinTail]
theorem jt_len : ∀ (l : List Int), (∀ x ∈ l, x ≤ 1000) → (Lib.joinTail [32] (l.map dgI)).length ≤ 5 * l.length
  | [], _ => by simp [Lib.joinTail]
  | x :: l, h => by
    rw [List.map_cons, jt_cons]
    have h1 := dg_len4 (h x (by simp))
    have h2 := jt_len l fun y hy => h y (by simp [hy])
    simp only [List.length_cons, List.length_append]
    omega
def small (l : List Int) : Prop := ∀ k, k < l.length → 0 ≤ gi l k ∧ gi l k ≤ 1000
theorem small_mem {l : List Int} (h : small l) : ∀ x ∈ l, 0 ≤ x ∧ x ≤ 1000 := fun x hx => by
  obtain ⟨i, hi, rfl⟩ := List.mem_iff_getElem.1 hx
  rw [gi_getElem _ i hi]
  exact h i hi
theorem take_gi' {l : List Int} {k : Nat} (h : k < l.length) : l.take (k + 1) = l.take k ++ [gi l k] := by
  rw [List.take_add_one]; simp [gi, h]
end Go.Proofs.YtiapkffihpgdcaaGreatDoor
/-
  Walks: the document's words and numbers read.
-/
namespace Go.Proofs.YtiapkffihpgdcaaGreatDoor
set_option linter.unusedVariables false
set_option linter.unusedSimpArgs false
open Go.RowKit

theorem info_str : (Tryz.prog.info? 9).map (fun i => (i.zero, i.size, i.bytes)) = some (some (.string ⟨#[]⟩), 1, 16) := by kernel_rfl
def strs (l : List Wd) : List Value := l.map fun x => St x
/-- The slice (A, c) of the call's own holds the texts l. -/
def OwnS (w : World) (base : Nat) (A : Option Addr) (c : Nat) (l : List Wd) : Prop := w.ownsRow base 9 1 (.slice A l.length c) l.length (strs l)
theorem OwnS.kept {w w' : World} {base c : Nat} {A : Option Addr} {l : List Wd} (h : OwnS w base A c l) (hb : Below w.heap.size w w') : OwnS w' base A c l := own_below h hb fun k hk => (World.ownsRow.lt h k hk).2
theorem OwnS.snoc {w : World} {base c n : Nat} {A : Option Addr} {l l' : List Wd} {x : Wd} (h : w.ownsRow base 9 1 (.slice A (n + 1) c) (n + 1) (strs l ++ [St x])) (hn : n = l.length) (hl : l' = l ++ [x]) : OwnS w base A c l' := by
  subst hn
  have e1 : (l ++ [x]).length = l.length + 1 := by simp
  have e2 : strs (l ++ [x]) = strs l ++ [St x] := by simp [strs]
  rw [hl]
  unfold OwnS
  rw [e1, e2]
  exact h
/-- The slice (A, n = l.length) reads as the texts l. -/
def RS (w : World) (A : Option Addr) (l : List Wd) : Prop := Reads w w.heap.size 1 A l.length (strs l)
section
variable {w w' : World} {base c : Nat} {A : Option Addr} {l : List Wd}
theorem RS.below (h : RS w A l) (hb : Below w.heap.size w w') : RS w' A l := (Reads.below' h hb (Nat.le_refl _)).more hb.size
theorem RS.of_own (h : OwnS w base A c l) : RS w A l := Reads.of_own h
theorem RS.at_ (h : RS w A l) {k : Nat} (hk : k < l.length) : ∃ ad, A = some ad ∧ (ad.add k).block < w.heap.size ∧ w.cell? (ad.add k) = some (St l[k]) := by
  obtain ⟨ad, e, hb, hc⟩ := h.2 (by omega)
  exact ⟨ad, e, by rw [block_of_add]; exact hb, hc k _ (by simp [strs, hk])⟩
end
theorem st_cut (l : List UInt8) (a b : Nat) : ByteArray.extract ⟨l.toArray⟩ a b = ⟨((l.drop a).take (b - a)).toArray⟩ := by
  apply ByteArray.ext
  simp [ByteArray.data_extract, List.extract_toArray]
theorem st_size (s : List UInt8) : ByteArray.size ⟨s.toArray⟩ = s.length := by simp [ByteArray.size]
theorem st_get (s : List UInt8) (k : Nat) (h : k < ByteArray.size ⟨s.toArray⟩) : (⟨s.toArray⟩ : ByteArray)[k]'h = s[k]'(by rw [st_size] at h; exact h) := by
  simp [ByteArray.getElem_eq_getElem_data]
theorem wds_len : ∀ s : List UInt8, (wds s).length ≤ s.length + 1
  | [] => by simp [wds]
  | b :: r => by
    have := wds_len r
    unfold wds
    split
    · simp; omega
    · split
      · simp
      · rename_i h; rw [h] at this; simp at this ⊢; omega
theorem free_cut {s : List UInt8} {f k : Nat} (h : ∀ i, f ≤ i → i < k → ∀ b, s[i]? = some b → b ≠ 32) : free ((s.drop f).take (k - f)) := by
  intro b hb
  obtain ⟨i, hi, rfl⟩ := List.mem_iff_getElem.1 hb
  simp only [List.length_take, List.length_drop] at hi
  refine h (f + i) (by omega) (by omega) _ ?_
  rw [List.getElem_take, List.getElem_drop]
  exact List.getElem?_eq_getElem _
theorem cut_at {s : List UInt8} {f k : Nat} (hf : f ≤ k) (hk : k < s.length) (hb : s[k]? = some 32) : s.drop f = (s.drop f).take (k - f) ++ 32 :: s.drop (k + 1) := by
  have h1 : s.drop f = (s.drop f).take (k - f) ++ (s.drop f).drop (k - f) := (List.take_append_drop _ _).symm
  rw [List.drop_drop, show f + (k - f) = k by omega] at h1
  rw [List.drop_eq_getElem_cons hk] at h1
  rw [List.getElem?_eq_getElem hk] at hb
  rw [Option.some.inj hb] at h1
  exact h1
/-- What Words knows: the words before the place f, no blank from f to k. -/
def WI (s : List UInt8) (f k : Nat) (l : List Wd) : Prop := f ≤ k ∧ l ++ wds (s.drop f) = wds s ∧ ∀ i, f ≤ i → i < k → ∀ b, s[i]? = some b → b ≠ 32
theorem WI.blank {s : List UInt8} {f k : Nat} {l : List Wd} (h : WI s f k l) (hk : k < s.length) (hb : s[k]? = some 32) : WI s (k + 1) (k + 1) (l ++ [(s.drop f).take (k - f)]) := by
  refine ⟨Nat.le_refl _, ?_, fun i h1 h2 => by omega⟩
  rw [← h.2.1]
  have e := congrArg wds (cut_at h.1 hk hb)
  rw [wds_cut (free_cut h.2.2)] at e
  rw [e]
  simp
theorem WI.next {s : List UInt8} {f k : Nat} {l : List Wd} (h : WI s f k l) (hb : s[k]? ≠ some 32) : WI s f (k + 1) l := by
  refine ⟨by have := h.1; omega, h.2.1, fun i h1 h2 b e => ?_⟩
  by_cases hi : i = k
  · subst hi; intro hb'; subst hb'; exact hb e
  · exact h.2.2 i h1 (by omega) b e
theorem WI.fin {s : List UInt8} {f : Nat} {l : List Wd} (h : WI s f s.length l) : l ++ [(s.drop f).take (s.length - f)] = wds s := by
  have hf := free_cut h.2.2
  rw [← h.2.1]
  rw [show (s.drop f).take (s.length - f) = s.drop f from List.take_of_length_le (by simp)] at hf ⊢
  rw [wds_free hf]
end Go.Proofs.YtiapkffihpgdcaaGreatDoor
/-
  Walks: the document's reading of a number.
-/
namespace Go.Proofs.YtiapkffihpgdcaaGreatDoor
set_option linter.unusedVariables false
set_option linter.unusedSimpArgs false
open Go.RowKit

/-- What Number knows at the place k. -/
def NI (s : Wd) (k n : Nat) : Prop := numTo s 0 0 = numTo (s.drop k) k n ∧ k ≤ 9 ∧ n < 10 ^ k
theorem NI.next {s : Wd} {k n : Nat} (h : NI s k n) (hk : k < s.length) (h1 : 48 ≤ s[k].toNat) (h2 : s[k].toNat ≤ 57) (h9 : k ≠ 9) : NI s (k + 1) (10 * n + (s[k].toNat - 48)) := by
  refine ⟨?_, by have := h.2.1; omega, ?_⟩
  · rw [h.1, List.drop_eq_getElem_cons hk]
    show (if _ then _ else _) = _
    rw [if_neg (by omega)]
  · have := h.2.2
    rw [Nat.pow_succ]
    omega
theorem NI.bad {s : Wd} {k n : Nat} (h : NI s k n) (hk : k < s.length) (h1 : s[k].toNat < 48 ∨ 57 < s[k].toNat ∨ k = 9) : numW s = -1 := by
  unfold numW
  rw [h.1, List.drop_eq_getElem_cons hk]
  simp only [numTo]
  rw [if_pos h1]
theorem NI.fin {s : Wd} {n : Nat} (h : NI s s.length n) : numW s = if s = [] ∨ Lib.decDigits n ≠ s then -1 else (n : Int) := by
  unfold numW
  rw [h.1, List.drop_length]
  rfl
theorem NI.lt {s : Wd} {k n : Nat} (h : NI s k n) : n < 1000000000 := Nat.lt_of_lt_of_le h.2.2 (Nat.le_trans (Nat.pow_le_pow_right (by omega) h.2.1) (Nat.le_refl _))
end Go.Proofs.YtiapkffihpgdcaaGreatDoor
/-
  Words for memory: two lists of the call's own behind a term's cell; an append in a region, and what it leaves alone.
-/
namespace Go.Proofs.YtiapkffihpgdcaaGreatDoor
set_option linter.unusedVariables false
set_option linter.unusedSimpArgs false
open Go.RowKit

def apart (v v' : Value) : Prop := ∀ k, v.ownBlock = some k → v'.ownBlock = some k → False
theorem apart.symm {v v' : Value} (h : apart v v') : apart v' v := fun k a b => h k b a
theorem apart.ne {v v' : Value} (h : apart v v') : v.ownBlock = none ∨ v.ownBlock ≠ v'.ownBlock := by
  cases e : v.ownBlock with
  | none => exact .inl rfl
  | some k => exact .inr fun e' => h k e e'.symm
theorem apart_nil (v : Value) (c : Nat) : apart (.slice none 0 c) v := fun k a _ => by simp [Value.ownBlock] at a
section
variable {P : Program} {W : World} {ops : Array Oper} {o : Oper} {a : Act} {K : Act → World → Prop} {Q : Exit → Act → World → Prop} {E : Prop} {rest : List Oper}
  {t e : TypeId} {z : Value} {size bytes base n c : Nat} {A : Option Addr} {xs news : List Value}
/-- What an append of one element says of the call's other slices. -/
def Kept (W : World) (w' : World) (v v' : Value) : Prop := ∀ (b2 e2 s2 n2 : Nat) (v2 : Value) (xs2 : List Value), W.ownsRow b2 e2 s2 v2 n2 xs2 → apart v2 v → w'.ownsRow b2 e2 s2 v2 n2 xs2 ∧ apart v2 v'
theorem step_app4 (hgd : o.guard = none) (s x : Operand)
    (ho : o.op = .call { callee := .builtin .append, args := #[s, x], argTypes := #[t, t] }) (ht : P.underlying t = some (.slice e))
    (hinfo : (P.info? e).map (fun i => (i.zero, i.size, i.bytes)) = some (some z, size, bytes)) (hzs : z.cells.size = size) (hsz : 0 < size)
    (hs : a.eval s = .slice A n c) (hown : W.ownsRow base e size (.slice A n c) n xs)
    (ad : Addr) (hx : a.eval x = .slice (some ad) 1 1) (hl : news.length = size) (hnews : ∀ j u, news[j]? = some u → W.cell? (ad.add j) = some u) (h1 : ∀ u ∈ news, u.oneCell' = true)
    (hn : n + 1 ≤ 1000000000) (hbytes : bytes ≤ 1000) (hbase : base ≤ W.heap.size)
    (h : ∀ A' c' w', w'.ownsRow base e size (.slice A' (n + 1) c') (n + 1) (xs ++ news) → (∀ B, B ≤ base → Below B W w') → Kept W w' (.slice A n c) (.slice A' (n + 1) c') → K (a.put o.dst (.slice A' (n + 1) c')) w') :
    if Region.wanted o (yielded ops a.tmps) = true then Oper.wp P o a W K Q else E := by
  obtain ⟨i, hi, hz0, hz1, hz2⟩ := info_parts hinfo
  have hb : (n + 1) * bytes ≤ 140737488355328 := by
    have : (n + 1) * bytes ≤ 1000000000 * 1000 := Nat.mul_le_mul hn hbytes
    omega
  refine step_append_lies W hgd s x t ho base e i z size bytes ht hi hz0 hz1 hz2 hzs hsz _ n xs hs hown ad 1 1 news hx (by omega) hnews h1 (by omega) (by unfold maxLen; omega) hb hbase _ rfl ?_
  intro g cap w' hown' hg hat hlt
  refine h _ _ w' hown' (fun B hB => ?_) (fun b2 e2 s2 n2 v2 xs2 h2 hne => ⟨h2.kept hg hne.ne, ?_⟩)
  · exact (Below.refl B W).grown hg (by omega) (fun k hk => by have := hown.lt k hk; omega)
  · intro k k1 k2
    simp only [Value.ownBlock, Option.some.injEq] at k2
    subst k2
    rcases hat with hat | hat
    · exact hne _ k1 hat
    · have := (h2.lt _ k1).2
      omega
theorem wpList_app4 (hgd : o.guard = none) (s x : Operand)
    (ho : o.op = .call { callee := .builtin .append, args := #[s, x], argTypes := #[t, t] }) (ht : P.underlying t = some (.slice e))
    (hinfo : (P.info? e).map (fun i => (i.zero, i.size, i.bytes)) = some (some z, size, bytes)) (hzs : z.cells.size = size) (hsz : 0 < size)
    (hs : a.eval s = .slice A n c) (hown : W.ownsRow base e size (.slice A n c) n xs)
    (ad : Addr) (hx : a.eval x = .slice (some ad) 1 1) (hl : news.length = size) (hnews : ∀ j u, news[j]? = some u → W.cell? (ad.add j) = some u) (h1 : ∀ u ∈ news, u.oneCell' = true)
    (hn : n + 1 ≤ 1000000000) (hbytes : bytes ≤ 1000) (hbase : base ≤ W.heap.size)
    (h : ∀ A' c' w', w'.ownsRow base e size (.slice A' (n + 1) c') (n + 1) (xs ++ news) → (∀ B, B ≤ base → Below B W w') → Kept W w' (.slice A n c) (.slice A' (n + 1) c') → wpList P ops Q rest (a.put o.dst (.slice A' (n + 1) c')) w') :
    wpList P ops Q (o :: rest) a W := by
  obtain ⟨i, hi, hz0, hz1, hz2⟩ := info_parts hinfo
  have hb : (n + 1) * bytes ≤ 140737488355328 := by
    have : (n + 1) * bytes ≤ 1000000000 * 1000 := Nat.mul_le_mul hn hbytes
    omega
  refine wpList_append_lies W hgd s x t ho base e i z size bytes ht hi hz0 hz1 hz2 hzs hsz _ n xs hs hown ad 1 1 news hx (by omega) hnews h1 (by omega) (by unfold maxLen; omega) hb hbase _ rfl ?_
  intro g cap w' hown' hg hat hlt
  refine h _ _ w' hown' (fun B hB => ?_) (fun b2 e2 s2 n2 v2 xs2 h2 hne => ⟨h2.kept hg hne.ne, ?_⟩)
  · exact (Below.refl B W).grown hg (by omega) (fun k hk => by have := hown.lt k hk; omega)
  · intro k k1 k2
    simp only [Value.ownBlock, Option.some.injEq] at k2
    subst k2
    rcases hat with hat | hat
    · exact hne _ k1 hat
    · have := (h2.lt _ k1).2
      omega
end
theorem BoxUp {w w' : World} {g B : Nat} {cs : Array Value} (h : Box w g cs) (hb : Below B w w') (hB : g < B) : Box w' g cs :=
  ⟨Nat.lt_of_lt_of_le h.lt hb.size, fun j => (hb.cell (p := ⟨g, j, none⟩) hB).trans (h.cell j), fun j => (hb.frozen (p := ⟨g, j, none⟩) hB).trans (h.free j)⟩
theorem BoxSet {w : World} {g : Nat} {cs : Array Value} (h : Box w g cs) (i : Nat) (hi : i < cs.size) (v : Value) : Box (w.setCell ⟨g, i, none⟩ v) g (cs.setIfInBounds i v) := by
  refine ⟨by have := h.lt; simpa [World.setCell] using this, fun j => ?_, fun j => by rw [World.frozen?_setCell]; exact h.free j⟩
  by_cases e : j = i
  · subst e
    rw [World.cell?_setCell_same' _ _ _ (by rw [h.cell j]; simp [hi])]
    simp [hi]
  · rw [World.cell?_setCell_other _ _ _ _ (by simp <;> omega), h.cell j, Array.getElem?_setIfInBounds_ne (by omega)]
theorem BoxFar {w : World} {g : Nat} {cs : Array Value} {p : Addr} (h : Box w g cs) (hp : g ≠ p.block) (v : Value) : Box (w.setCell p v) g cs := by
  refine ⟨by have := h.lt; simpa [World.setCell] using this, fun j => ?_, fun j => by rw [World.frozen?_setCell]; exact h.free j⟩
  rw [World.cell?_setCell_other _ _ _ _ (fun e => hp (by rw [e]))]
  exact h.cell j
theorem BoxThree {w : World} {g : Nat} {a b c : Value} (h : Box w g #[a, b, c]) (x y z : Value) :
    (((w.setCell ⟨g, 0, none⟩ x).setCell ⟨g, 1, none⟩ y).setCell ⟨g, 2, none⟩ z).cell? ⟨g, 0, none⟩ = some x ∧ (((w.setCell ⟨g, 0, none⟩ x).setCell ⟨g, 1, none⟩ y).setCell ⟨g, 2, none⟩ z).cell? ⟨g, 1, none⟩ = some y ∧ (((w.setCell ⟨g, 0, none⟩ x).setCell ⟨g, 1, none⟩ y).setCell ⟨g, 2, none⟩ z).cell? ⟨g, 2, none⟩ = some z := by
  have := ((BoxSet (BoxSet (BoxSet h 0 (by simp) x) 1 (by simp) y) 2 (by simp) z).cell)
  exact ⟨this 0, this 1, this 2⟩

/-- A term's cell at the block b, and behind the place B the two lists of the call's own that it points to. -/
structure PB (wr : World) (B b : Nat) (n : Int) (A1 : Option Addr) (c1 : Nat) (r : List Int) (A2 : Option Addr) (c2 : Nat) (q : List Int) : Prop where
  lt : b < B
  box : Box wr b #[.int .i64 n, .slice A1 r.length c1, .slice A2 q.length c2]
  o1 : wr.ownsRow B 3 1 (.slice A1 r.length c1) r.length (ints r)
  o2 : wr.ownsRow B 3 1 (.slice A2 q.length c2) q.length (ints q)
  ap : apart (.slice A1 r.length c1) (.slice A2 q.length c2)
section
variable {wr wX w7 : World} {B b : Nat} {n : Int} {A1 A2 A3 : Option Addr} {c1 c2 c3 : Nat} {r q : List Int}
theorem ints_snoc (r : List Int) (x : Int) : ints (r ++ [x]) = ints r ++ [.int .i64 x] := by simp [ints]
theorem PB.below (h : PB wr B b n A1 c1 r A2 c2 q) (hb : Below wr.heap.size wr wX) : PB wX B b n A1 c1 r A2 c2 q :=
  ⟨h.lt, h.box.below hb, own_below h.o1 hb fun k hk => (h.o1.lt k hk).2, own_below h.o2 hb fun k hk => (h.o2.lt k hk).2, h.ap⟩
theorem PB.setN (h : PB wr B b n A1 c1 r A2 c2 q) (m : Int) : PB (wr.setCell ⟨b, 0, none⟩ (.int .i64 m)) B b m A1 c1 r A2 c2 q :=
  ⟨h.lt, BoxSet h.box 0 (by simp) _, ownsRow_setCell_below h.o1 h.lt _, ownsRow_setCell_below h.o2 h.lt _, h.ap⟩
theorem PB.push1 (h : PB wr B b n A1 c1 r A2 c2 q) (x : Int) (hX : Below wr.heap.size wr wX) (own7 : w7.ownsRow B 3 1 (.slice A3 (r.length + 1) c3) (r.length + 1) (ints r ++ [.int .i64 x])) (hb7 : Below B wX w7)
    (hk : Kept wX w7 (.slice A1 r.length c1) (.slice A3 (r.length + 1) c3)) : PB (w7.setCell ⟨b, 1, none⟩ (.slice A3 (r.length + 1) c3)) B b n A3 c3 (r ++ [x]) A2 c2 q := by
  have g := h.below hX
  obtain ⟨k1, k2⟩ := hk _ _ _ _ _ _ g.o2 h.ap.symm
  have hl : (r ++ [x]).length = r.length + 1 := by simp
  refine ⟨h.lt, ?_, ?_, ownsRow_setCell_below k1 h.lt _, ?_⟩
  · rw [hl]; exact BoxSet (BoxUp g.box hb7 h.lt) 1 (by simp) _
  · rw [hl, ints_snoc]; exact ownsRow_setCell_below own7 h.lt _
  · rw [hl]; exact k2.symm
theorem PB.push2 (h : PB wr B b n A1 c1 r A2 c2 q) (x : Int) (hX : Below wr.heap.size wr wX) (own7 : w7.ownsRow B 3 1 (.slice A3 (q.length + 1) c3) (q.length + 1) (ints q ++ [.int .i64 x])) (hb7 : Below B wX w7)
    (hk : Kept wX w7 (.slice A2 q.length c2) (.slice A3 (q.length + 1) c3)) : PB (w7.setCell ⟨b, 2, none⟩ (.slice A3 (q.length + 1) c3)) B b n A1 c1 r A3 c3 (q ++ [x]) := by
  have g := h.below hX
  obtain ⟨k1, k2⟩ := hk _ _ _ _ _ _ g.o1 h.ap
  have hl : (q ++ [x]).length = q.length + 1 := by simp
  refine ⟨h.lt, ?_, ownsRow_setCell_below k1 h.lt _, ?_, ?_⟩
  · rw [hl]; exact BoxSet (BoxUp g.box hb7 h.lt) 2 (by simp) _
  · rw [hl, ints_snoc]; exact ownsRow_setCell_below own7 h.lt _
  · rw [hl]; exact k2
end

/-! ### the document's reading, word by word -/
def rk (ws : List Wd) (k : Nat) : RPS := rL r0 1 (ws.tail.take (k - 1))
theorem rk_one (ws : List Wd) : rk ws 1 = r0 := by simp [rk, rL]
theorem rk_step (ws : List Wd) {k : Nat} (h1 : 1 ≤ k) (hk : k < ws.length) : rk ws (k + 1) = rstep (rk ws k) k ws[k] := by
  unfold rk
  have hl : k - 1 < ws.tail.length := by simp; omega
  have e : ws.tail.take (k + 1 - 1) = ws.tail.take (k - 1) ++ [ws[k]] := by
    rw [show k + 1 - 1 = (k - 1) + 1 by omega, List.take_succ_eq_append_getElem hl]
    congr 2
    rw [List.getElem_tail]
    congr 1
    omega
  rw [e, rL_app, List.length_take, Nat.min_eq_left (by omega)]
  show rstep _ _ _ = _
  congr 1
  omega
theorem rk_fin (ws : List Wd) (h : 1 ≤ ws.length) : rk ws ws.length = rL r0 1 ws.tail := by
  unfold rk
  rw [List.take_of_length_le (by simp)]
end Go.Proofs.YtiapkffihpgdcaaGreatDoor
/-
  Words for memory: what lies outside a set of blocks; lists that lie inside it.
-/
namespace Go.Proofs.YtiapkffihpgdcaaGreatDoor
set_option linter.unusedVariables false
set_option linter.unusedSimpArgs false
open Go.RowKit

/-- Outside the blocks of F the world w' is as w was. -/
structure Off (F : Nat → Prop) (w w' : World) : Prop where
  os : w'.os = w.os
  tape : w'.tape = w.tape
  output : w'.output = w.output
  size : w.heap.size ≤ w'.heap.size
  block : ∀ k, k < w.heap.size → ¬ F k → w'.heap[k]? = w.heap[k]?
theorem Off.of_below {F : Nat → Prop} {w w' : World} (h : Below w.heap.size w w') : Off F w w' := ⟨h.os, h.tape, h.output, h.size, fun k hk _ => h.block k hk⟩
theorem Off.refl (F : Nat → Prop) (w : World) : Off F w w := .of_below (Below.refl _ _)
theorem Off.trans {F F' : Nat → Prop} {a b c : World} (h : Off F a b) (h' : Off F' b c) (hF : ∀ k, F' k → F k ∨ a.heap.size ≤ k) : Off F a c :=
  ⟨h'.os.trans h.os, h'.tape.trans h.tape, h'.output.trans h.output, Nat.le_trans h.size h'.size, fun k hk hn => (h'.block k (Nat.lt_of_lt_of_le hk h.size) (fun e => by rcases hF k e with x | x; exact hn x; omega)).trans (h.block k hk hn)⟩
theorem Off.mono {F F' : Nat → Prop} {w w' : World} (h : Off F w w') (hF : ∀ k, F k → F' k) : Off F' w w' := ⟨h.os, h.tape, h.output, h.size, fun k hk hn => h.block k hk fun e => hn (hF k e)⟩
theorem Off.then_below {F : Nat → Prop} {a b c : World} (h : Off F a b) (h' : Below b.heap.size b c) : Off F a c := h.trans (F' := fun _ => False) (.of_below h') (fun _ e => e.elim)
theorem Off.setCell {F : Nat → Prop} {a b : World} (h : Off F a b) {p : Addr} (hp : F p.block ∨ a.heap.size ≤ p.block) (u : Value) : Off F a (b.setCell p u) :=
  h.trans (F' := fun k => k = p.block) ⟨rfl, rfl, rfl, by simp [World.setCell], fun k _ hn => Below.heap_setCell _ _ _ _ hn⟩ (fun k e => by subst e; exact hp)
theorem Off.grown {F : Nat → Prop} {a b c : World} {row : Option Nat} (h : Off F a b) (hg : b.grownBy c row) (hp : ∀ k, row = some k → F k ∨ a.heap.size ≤ k) : Off F a c :=
  h.trans (F' := fun k => row = some k) ⟨hg.os, hg.tape, hg.output, hg.size, fun k hk hn => hg.block k hk (fun e => hn e.symm)⟩ hp
theorem Off.to_below {F : Nat → Prop} {w w' : World} {B : Nat} (h : Off F w w') (hF : ∀ k, F k → B ≤ k) (hB : B ≤ w.heap.size) : Below B w w' :=
  ⟨h.os, h.tape, h.output, h.size, fun k hk => h.block k (Nat.lt_of_lt_of_le hk hB) (fun e => by have := hF k e; omega)⟩
theorem Off.cell {F : Nat → Prop} {w w' : World} (h : Off F w w') {p : Addr} (hp : p.block < w.heap.size) (hn : ¬ F p.block) : w'.cell? p = w.cell? p := World.cell?_of_block (w := w) (h.block p.block hp hn)
theorem Off.frozen {F : Nat → Prop} {w w' : World} (h : Off F w w') {p : Addr} (hp : p.block < w.heap.size) (hn : ¬ F p.block) : w'.frozen? p = w.frozen? p := World.frozen?_of_block (w := w) (h.block p.block hp hn)

/-- The list reads so, and lies in F. -/
def ReadsF (F : Nat → Prop) (w : World) (size : Nat) (A : Option Addr) (n : Nat) (xs : List Value) : Prop := Reads w w.heap.size size A n xs ∧ ∀ ad, A = some ad → 0 < n → F ad.block
section
variable {F F' : Nat → Prop} {w w' : World} {size n : Nat} {A : Option Addr} {xs : List Value}
theorem ReadsF.off (h : ReadsF F w size A n xs) (ho : Off F' w w') (hd : ∀ k, F k → ¬ F' k) : ReadsF F w' size A n xs :=
  ⟨⟨h.1.1, fun hn => by
    obtain ⟨ad, e, hb, hc⟩ := h.1.2 hn
    exact ⟨ad, e, Nat.lt_of_lt_of_le hb ho.size, fun j u hu => (ho.cell (by rw [block_of_add]; exact hb) (by rw [block_of_add]; exact hd _ (h.2 ad e hn))).trans (hc j u hu)⟩⟩, h.2⟩
theorem ReadsF.below (h : ReadsF F w size A n xs) (hb : Below w.heap.size w w') : ReadsF F w' size A n xs := ⟨(h.1.below' hb (Nat.le_refl _)).more hb.size, h.2⟩
theorem ReadsF.mono (h : ReadsF F w size A n xs) (hF : ∀ k, F k → F' k) : ReadsF F' w size A n xs := ⟨h.1, fun ad e hn => hF _ (h.2 ad e hn)⟩
end
/-- A block's cells, known and free, across a change outside it. -/
theorem Box.off {F : Nat → Prop} {w w' : World} {g : Nat} {cs : Array Value} (h : Box w g cs) (ho : Off F w w') (hn : ¬ F g) : Box w' g cs :=
  ⟨Nat.lt_of_lt_of_le h.lt ho.size, fun j => (ho.cell h.lt hn).trans (h.cell j), fun j => (ho.frozen h.lt hn).trans (h.free j)⟩
theorem own_off {F : Nat → Prop} {w w' : World} {base e size n : Nat} {v : Value} {xs : List Value} (h : w.ownsRow base e size v n xs) (ho : Off F w w') (hd : ∀ k, v.ownBlock = some k → ¬ F k) : w'.ownsRow base e size v n xs := by
  refine ⟨h.1, ?_⟩
  rcases h.2 with hn | ⟨g, cap, cur, rfl, hbg, hh, rest⟩
  · exact .inl hn
  · exact .inr ⟨g, cap, cur, rfl, hbg, (ho.block g (Array.getElem?_eq_some_iff.1 hh).1 (hd g rfl)).trans hh, rest⟩
theorem ReadsF.of_own {F : Nat → Prop} {w : World} {base e size n : Nat} {A : Option Addr} {c : Nat} {xs : List Value} (h : w.ownsRow base e size (.slice A n c) n xs) (hF : ∀ k, (Value.slice A n c).ownBlock = some k → F k) : ReadsF F w size A n xs := by
  refine ⟨Reads.of_own h, fun ad e hn => ?_⟩
  subst e
  exact hF _ rfl
end Go.Proofs.YtiapkffihpgdcaaGreatDoor
