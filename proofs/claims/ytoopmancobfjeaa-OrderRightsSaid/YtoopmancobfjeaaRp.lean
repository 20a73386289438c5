/-
  Plain: rights brought together: the merged intervals and the runs of days are one normal form.
-/
import Derived.Test.YtoopmancobfjeaaR
namespace Go.Proofs.Ytoopmancobfjeaa
set_option linter.unusedVariables false
set_option linter.unusedSimpArgs false
open Go.RowKit

theorem gs_getElem (l : List Sp) (k : Nat) (h : k < l.length) : l[k] = gs l k := by simp [gs, h]
/-- a right's day -/
def cov (L : List Sp) (d : Int) : Prop := ∃ x ∈ L, x.un ≤ d ∧ d < x.me
/-- apart, ascending, none empty, all of one child -/
def NF (ch : Int) (L : List Sp) : Prop := L.Pairwise (fun a b => a.me < b.un) ∧ ∀ x ∈ L, x.fr = ch ∧ x.un < x.me
theorem cov_cons {a : Sp} {L : List Sp} {d : Int} : cov (a :: L) d ↔ (a.un ≤ d ∧ d < a.me) ∨ cov L d := by
  constructor
  · rintro ⟨x, hx, h⟩
    rcases List.mem_cons.1 hx with rfl | hx
    · exact .inl h
    · exact .inr ⟨x, hx, h⟩
  · rintro (h | ⟨x, hx, h⟩)
    · exact ⟨a, by simp, h⟩
    · exact ⟨x, by simp [hx], h⟩
theorem cov_app {L M : List Sp} {d : Int} : cov (L ++ M) d ↔ cov L d ∨ cov M d := by
  constructor
  · rintro ⟨x, hx, h⟩
    rcases List.mem_append.1 hx with hx | hx
    · exact .inl ⟨x, hx, h⟩
    · exact .inr ⟨x, hx, h⟩
  · rintro (⟨x, hx, h⟩ | ⟨x, hx, h⟩)
    · exact ⟨x, List.mem_append.2 (.inl hx), h⟩
    · exact ⟨x, List.mem_append.2 (.inr hx), h⟩
theorem cov_one {a : Sp} {d : Int} : cov [a] d ↔ a.un ≤ d ∧ d < a.me := by
  rw [cov_cons]
  constructor
  · rintro (h | ⟨x, hx, _⟩)
    · exact h
    · simp at hx
  · exact .inl
theorem nf_ext (ch : Int) : ∀ {L M : List Sp}, NF ch L → NF ch M → (∀ d, cov L d ↔ cov M d) → L = M
  | [], [], _, _, _ => rfl
  | [], b :: M, _, h2, h => by
    have hb := (h2.2 b (by simp)).2
    obtain ⟨x, hx, _⟩ := (h b.un).2 ⟨b, by simp, by omega, hb⟩
    simp at hx
  | a :: L, [], h1, _, h => by
    have ha := (h1.2 a (by simp)).2
    obtain ⟨x, hx, _⟩ := (h a.un).1 ⟨a, by simp, by omega, ha⟩
    simp at hx
  | a :: L, b :: M, h1, h2, h => by
    obtain ⟨p1, e1⟩ := h1
    obtain ⟨p2, e2⟩ := h2
    rw [List.pairwise_cons] at p1 p2
    have ha := e1 a (by simp)
    have hb := e2 b (by simp)
    have hL : ∀ d, cov L d → a.me < d := by
      rintro d ⟨x, hx, h3, h4⟩
      have := p1.1 x hx; omega
    have hM : ∀ d, cov M d → b.me < d := by
      rintro d ⟨x, hx, h3, h4⟩
      have := p2.1 x hx; omega
    have q1 : b.un ≤ a.un := by
      rcases cov_cons.1 ((h a.un).1 (cov_cons.2 (.inl ⟨by omega, ha.2⟩))) with h3 | h3
      · exact h3.1
      · have := hM _ h3; omega
    have q2 : a.un ≤ b.un := by
      rcases cov_cons.1 ((h b.un).2 (cov_cons.2 (.inl ⟨by omega, hb.2⟩))) with h3 | h3
      · exact h3.1
      · have := hL _ h3; omega
    have q3 : b.me ≤ a.me := by
      rcases Int.lt_or_le a.me b.me with hlt | hle
      · rcases cov_cons.1 ((h a.me).2 (cov_cons.2 (.inl ⟨by omega, hlt⟩))) with h3 | h3
        · omega
        · have := hL _ h3; omega
      · exact hle
    have q4 : a.me ≤ b.me := by
      rcases Int.lt_or_le b.me a.me with hlt | hle
      · rcases cov_cons.1 ((h b.me).1 (cov_cons.2 (.inl ⟨by omega, hlt⟩))) with h3 | h3
        · omega
        · have := hM _ h3; omega
      · exact hle
    have hab : a = b := by
      cases a; cases b
      simp only [Sp.mk.injEq]
      exact ⟨ha.1.trans hb.1.symm, by simp at q1 q2; omega, by simp at q3 q4; omega⟩
    subst hab
    congr 1
    refine nf_ext ch ⟨p1.2, fun x hx => e1 x (by simp [hx])⟩ ⟨p2.2, fun x hx => e2 x (by simp [hx])⟩ fun d => ?_
    constructor
    · intro h3
      have h4 := hL d h3
      rcases cov_cons.1 ((h d).1 (cov_cons.2 (.inr h3))) with h5 | h5
      · omega
      · exact h5
    · intro h3
      have h4 := hM d h3
      rcases cov_cons.1 ((h d).2 (cov_cons.2 (.inr h3))) with h5 | h5
      · omega
      · exact h5

/-- the last of a list -/
def lastS (o : List Sp) : Sp := gs o (o.length - 1)
theorem split_last {o : List Sp} (h : 0 < o.length) : ∃ P, o = P ++ [lastS o] ∧ P.length = o.length - 1 := by
  refine ⟨o.take (o.length - 1), ?_, by rw [List.length_take]; omega⟩
  have e : lastS o = o[o.length - 1]'(by omega) := by unfold lastS; rw [gs_getElem]
  rw [e]
  have := List.take_append_getElem (l := o) (i := o.length - 1) (by omega)
  rw [this, show o.length - 1 + 1 = o.length by omega, List.take_length]
theorem set_last (P : List Sp) (y z : Sp) (n : Nat) (hn : n = P.length) : (P ++ [y]).set n z = P ++ [z] := by
  subst hn; simp

/-- one more interval -/
def mstep (o : List Sp) (x : Sp) : List Sp :=
  if 0 < o.length ∧ x.un ≤ (lastS o).me then o.set (o.length - 1) ⟨(lastS o).fr, (lastS o).un, if (lastS o).me < x.me then x.me else (lastS o).me⟩ else o ++ [x]
def mTo (S : List Sp) : Nat → List Sp
  | 0 => []
  | k + 1 => mstep (mTo S k) (gs S k)
/-- one more day -/
def dstep (ch : Int) (fr : Int → Bool) (o : List Sp) (d : Nat) : List Sp :=
  if fr d then (if 0 < o.length ∧ (lastS o).me = d then o.set (o.length - 1) ⟨(lastS o).fr, (lastS o).un, (lastS o).me + 1⟩ else o ++ [⟨ch, d, d + 1⟩]) else o
def dTo (ch : Int) (fr : Int → Bool) : Nat → List Sp
  | 0 => []
  | k + 1 => dstep ch fr (dTo ch fr k) k

theorem nf_app {ch : Int} {P : List Sp} {y : Sp} : NF ch (P ++ [y]) ↔ NF ch P ∧ (∀ a ∈ P, a.me < y.un) ∧ y.fr = ch ∧ y.un < y.me := by
  unfold NF
  rw [List.pairwise_append]
  constructor
  · rintro ⟨⟨h1, _, h2⟩, h3⟩
    exact ⟨⟨h1, fun x hx => h3 x (by simp [hx])⟩, fun a ha => h2 a ha y (by simp), h3 y (by simp)⟩
  · rintro ⟨⟨h1, h3⟩, h2, h4⟩
    refine ⟨⟨h1, by simp, fun a ha b hb => ?_⟩, fun x hx => ?_⟩
    · simp at hb; subst hb; exact h2 a ha
    · rcases List.mem_append.1 hx with hx | hx
      · exact h3 x hx
      · simp at hx; subst hx; exact h4
theorem mstep_ok {ch : Int} {o : List Sp} {x : Sp} (h : NF ch o) (hx1 : x.fr = ch) (hx2 : x.un < x.me) (hs : ∀ y ∈ o, y.un ≤ x.un) :
    NF ch (mstep o x) ∧ (∀ d, cov (mstep o x) d ↔ cov o d ∨ (x.un ≤ d ∧ d < x.me)) ∧ ∀ y ∈ mstep o x, y.un ≤ x.un := by
  unfold mstep
  by_cases hc : 0 < o.length ∧ x.un ≤ (lastS o).me
  · rw [if_pos hc]
    obtain ⟨P, hP, hl⟩ := split_last hc.1
    obtain ⟨y, hy⟩ : ∃ y, y = lastS o := ⟨_, rfl⟩
    rw [← hy] at hP hc ⊢
    subst hP
    rw [set_last P y _ _ hl.symm]
    obtain ⟨n1, n2, n3, n4⟩ := nf_app.1 h
    have hyx := hs y (by simp)
    have hm : (if y.me < x.me then x.me else y.me) = max y.me x.me := by rw [Int.max_def]; split <;> split <;> omega
    rw [hm]
    refine ⟨nf_app.2 ⟨n1, n2, n3, ?_⟩, fun d => ?_, fun z hz => ?_⟩
    · show y.un < max y.me x.me; omega
    · rw [cov_app, cov_app, cov_one, cov_one]
      show cov P d ∨ (y.un ≤ d ∧ d < max y.me x.me) ↔ _
      have h1 := hc.2
      constructor
      · rintro (h3 | h3)
        · exact .inl (.inl h3)
        · by_cases h4 : d < y.me
          · exact .inl (.inr ⟨h3.1, h4⟩)
          · exact .inr (by omega)
      · rintro ((h3 | h3) | h3)
        · exact .inl h3
        · exact .inr (by omega)
        · exact .inr (by omega)
    · rcases List.mem_append.1 hz with hz | hz
      · exact hs z (by simp [hz])
      · simp at hz; subst hz; exact hyx
  · rw [if_neg hc]
    refine ⟨nf_app.2 ⟨h, fun a ha => ?_, hx1, hx2⟩, fun d => by rw [cov_app, cov_one], fun z hz => ?_⟩
    · have h0 : 0 < o.length := List.length_pos_of_mem ha
      obtain ⟨P, hP, hl⟩ := split_last h0
      have hlt : (lastS o).me < x.un := by
        rcases Int.lt_or_le (lastS o).me x.un with h3 | h3
        · exact h3
        · exact absurd ⟨h0, h3⟩ hc
      obtain ⟨y, hy⟩ : ∃ y, y = lastS o := ⟨_, rfl⟩
      rw [← hy] at hP hlt
      subst hP
      obtain ⟨n1, n2, n3, n4⟩ := nf_app.1 h
      rcases List.mem_append.1 ha with ha | ha
      · have := n2 a ha; omega
      · simp at ha; subst ha; exact hlt
    · rcases List.mem_append.1 hz with hz | hz
      · exact hs z hz
      · simp at hz; subst hz; exact Int.le_refl _
theorem mTo_ok {ch : Int} {S : List Sp} (h1 : ∀ i, i < S.length → (gs S i).fr = ch ∧ (gs S i).un < (gs S i).me) (h2 : ∀ i j, i < j → j < S.length → (gs S i).un ≤ (gs S j).un) :
    ∀ k, k ≤ S.length → NF ch (mTo S k) ∧ (∀ d, cov (mTo S k) d ↔ ∃ i, i < k ∧ (gs S i).un ≤ d ∧ d < (gs S i).me) ∧ ∀ y ∈ mTo S k, ∀ j, k ≤ j → j < S.length → y.un ≤ (gs S j).un
  | 0, _ => ⟨⟨by simp [mTo], by simp [mTo]⟩, fun d => ⟨by rintro ⟨x, hx, _⟩; simp [mTo] at hx, by rintro ⟨i, hi, _⟩; omega⟩, by simp [mTo]⟩
  | k + 1, hk => by
    obtain ⟨i1, i2, i3⟩ := mTo_ok h1 h2 k (by omega)
    obtain ⟨g1, g2⟩ := h1 k (by omega)
    obtain ⟨j1, j2, j3⟩ := mstep_ok i1 g1 g2 (fun y hy => i3 y hy k (Nat.le_refl _) (by omega))
    refine ⟨j1, fun d => ?_, fun y hy j hj hjl => Int.le_trans (j3 y hy) (h2 k j (by omega) hjl)⟩
    show cov (mstep (mTo S k) (gs S k)) d ↔ _
    rw [j2, i2]
    constructor
    · rintro (⟨i, hi, h⟩ | h)
      · exact ⟨i, by omega, h⟩
      · exact ⟨k, by omega, h⟩
    · rintro ⟨i, hi, h⟩
      by_cases e : i = k
      · subst e; exact .inr h
      · exact .inl ⟨i, by omega, h⟩
theorem dTo_ok (ch : Int) (fr : Int → Bool) : ∀ k, NF ch (dTo ch fr k) ∧ (∀ d, cov (dTo ch fr k) d ↔ 0 ≤ d ∧ d < k ∧ fr d = true) ∧ ∀ y ∈ dTo ch fr k, y.me ≤ k
  | 0 => ⟨⟨by simp [dTo], by simp [dTo]⟩, fun d => ⟨by rintro ⟨x, hx, _⟩; simp [dTo] at hx, by rintro ⟨h, h', _⟩; omega⟩, by simp [dTo]⟩
  | k + 1 => by
    obtain ⟨i1, i2, i3⟩ := dTo_ok ch fr k
    show NF ch (dstep ch fr (dTo ch fr k) k) ∧ (∀ d, cov (dstep ch fr (dTo ch fr k) k) d ↔ _) ∧ ∀ y ∈ dstep ch fr (dTo ch fr k) k, _
    generalize dTo ch fr k = o at i1 i2 i3
    unfold dstep
    cases hf : fr k with
    | false =>
      rw [if_neg (by simp)]
      refine ⟨i1, fun d => ?_, fun y hy => by have := i3 y hy; omega⟩
      rw [i2]
      constructor
      · rintro ⟨a, b, c⟩; exact ⟨a, by omega, c⟩
      · rintro ⟨a, b, c⟩
        by_cases e : d = k
        · subst e; rw [hf] at c; cases c
        · exact ⟨a, by omega, c⟩
    | true =>
      rw [if_pos rfl]
      have hd : ∀ d : Int, (0 ≤ d ∧ d < ((k + 1 : Nat) : Int) ∧ fr d = true) ↔ (0 ≤ d ∧ d < k ∧ fr d = true) ∨ d = k := by
        intro d
        constructor
        · rintro ⟨a, b, c⟩
          by_cases e : d = k
          · exact .inr e
          · exact .inl ⟨a, by omega, c⟩
        · rintro (⟨a, b, c⟩ | rfl)
          · exact ⟨a, by omega, c⟩
          · exact ⟨by omega, by omega, hf⟩
      by_cases hc : 0 < o.length ∧ (lastS o).me = k
      · rw [if_pos hc]
        obtain ⟨P, hP, hl⟩ := split_last hc.1
        obtain ⟨y, hy⟩ : ∃ y, y = lastS o := ⟨_, rfl⟩
        rw [← hy] at hP hc ⊢
        subst hP
        rw [set_last P y _ _ hl.symm]
        obtain ⟨n1, n2, n3, n4⟩ := nf_app.1 i1
        have hyk := hc.2
        refine ⟨nf_app.2 ⟨n1, n2, n3, by show y.un < y.me + 1; omega⟩, fun d => ?_, fun z hz => ?_⟩
        · rw [hd, ← i2, cov_app, cov_app, cov_one, cov_one]
          show cov P d ∨ (y.un ≤ d ∧ d < y.me + 1) ↔ _
          constructor
          · rintro (h3 | h3)
            · exact .inl (.inl h3)
            · by_cases h4 : d < y.me
              · exact .inl (.inr ⟨h3.1, h4⟩)
              · exact .inr (by omega)
          · rintro ((h3 | h3) | h3)
            · exact .inl h3
            · exact .inr ⟨h3.1, by omega⟩
            · exact .inr ⟨by omega, by omega⟩
        · rcases List.mem_append.1 hz with hz | hz
          · have := i3 z (by simp [hz]); omega
          · simp at hz; subst hz; show y.me + 1 ≤ _; omega
      · rw [if_neg hc]
        refine ⟨nf_app.2 ⟨i1, fun a ha => ?_, rfl, by show (k : Int) < k + 1; omega⟩, fun d => ?_, fun z hz => ?_⟩
        · show a.me < (k : Int)
          have h0 : 0 < o.length := List.length_pos_of_mem ha
          obtain ⟨P, hP, hl⟩ := split_last h0
          have hlt : (lastS o).me ≠ k := fun h3 => hc ⟨h0, h3⟩
          obtain ⟨y, hy⟩ : ∃ y, y = lastS o := ⟨_, rfl⟩
          rw [← hy] at hP hlt
          subst hP
          obtain ⟨n1, n2, n3, n4⟩ := nf_app.1 i1
          have := i3 y (by simp)
          rcases List.mem_append.1 ha with ha | ha
          · have := n2 a ha; omega
          · simp at ha; subst ha; omega
        · rw [hd, ← i2, cov_app, cov_one]
          show cov o d ∨ ((k : Int) ≤ d ∧ d < k + 1) ↔ _
          constructor
          · rintro (h3 | h3)
            · exact .inl h3
            · exact .inr (by omega)
          · rintro (h3 | h3)
            · exact .inl h3
            · exact .inr (by omega)
        · rcases List.mem_append.1 hz with hz | hz
          · have := i3 z hz; omega
          · simp at hz; subst hz; show (k : Int) + 1 ≤ _; omega
end Go.Proofs.Ytoopmancobfjeaa
