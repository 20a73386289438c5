/-
  Walks: the document's reading of a number.
-/
import Derived.Test.YtlnmmkgeahlohaaDoorTxC
namespace Go.Proofs.YtlnmmkgeahlohaaDoor
set_option linter.unusedVariables false
set_option linter.unusedSimpArgs false
open Go.RowKit

/-- What Number knows at the place k. -/
def NI (s : Wd) (k n : Nat) : Prop := numTo s 0 0 = numTo (s.drop k) k n ∧ k ≤ 9 ∧ n < 10 ^ k
theorem NI.next {s : Wd} {k n : Nat} (h : NI s k n) (hk : k < s.length) (h1 : 48 ≤ s[k].toNat) (h2 : s[k].toNat ≤ 57) (h9 : k ≠ 9) : NI s (k + 1) (10 * n + (s[k].toNat - 48)) := by
  refine ⟨?_, by have := h.2.1; omega, ?_⟩
  · rw [h.1, List.drop_eq_getElem_cons hk]
    show (if _ then _ else _) = _
    rw [if_neg (by omega)]
  · have := h.2.2
    rw [Nat.pow_succ]
    omega
theorem NI.bad {s : Wd} {k n : Nat} (h : NI s k n) (hk : k < s.length) (h1 : s[k].toNat < 48 ∨ 57 < s[k].toNat ∨ k = 9) : numW s = -1 := by
  unfold numW
  rw [h.1, List.drop_eq_getElem_cons hk]
  simp only [numTo]
  rw [if_pos h1]
theorem NI.fin {s : Wd} {n : Nat} (h : NI s s.length n) : numW s = if s = [] ∨ Lib.decDigits n ≠ s then -1 else (n : Int) := by
  unfold numW
  rw [h.1, List.drop_length]
  rfl
theorem NI.lt {s : Wd} {k n : Nat} (h : NI s k n) : n < 1000000000 := Nat.lt_of_lt_of_le h.2.2 (Nat.le_trans (Nat.pow_le_pow_right (by omega) h.2.1) (Nat.le_refl _))
set_option maxRecDepth 100000 in
set_option maxHeartbeats 400000 in
theorem number_any (s : Wd) (hs : s.length ≤ 1000000) (w : World) :
    Calls Tryd.prog 22 #[St s] w fun e w' => e = .returned (.int .i64 (numW s)) ∧ w' = w := by
  obtain ⟨R, hR⟩ : ∃ R, R = numW s := ⟨_, rfl⟩
  rw [← hR]
  have HR := Lib.hid hR
  clear hR
  go_enter Tryd.func22, Tryd.ntmps22
  go_wp2
  go_loop [3, 4] (fun o x => ∃ n k : Nat, k ≤ s.length ∧ x = .int .i64 k ∧ o = .int .i64 n ∧ NI s k n) (fun _ x => s.length - (intOf x).toNat)
  case atStart => exact ⟨0, 0, by omega, rfl, rfl, rfl, by omega, by simp⟩
  case round =>
    obtain ⟨n, k, hk, rfl, rfl, hi⟩ := hrel
    have hlt9 := hi.lt
    have h9 := hi.2.1
    by_cases hlt : k < s.length
    · have hsz : k < ByteArray.size ⟨s.toArray⟩ := by rw [st_size]; exact hlt
      have hg := st_get s k hsz
      obtain ⟨b, hb⟩ : ∃ b, b = ((⟨s.toArray⟩ : ByteArray)[k]'hsz).toNat := ⟨_, rfl⟩
      have hsb : s[k].toNat = b := by rw [hb, hg]
      by_cases c1 : b < 48
      · have hv := HR.out.trans (hi.bad hlt (.inl (by omega)))
        have HV := Lib.hid hv
        rw [hb] at c1
        clear hi hv hb hsb hg
        go_wp2
        go_ret
        exact ⟨ret_int (by rw [HV.out]), rfl⟩
      by_cases c2 : 57 < b
      · have hv := HR.out.trans (hi.bad hlt (.inr (.inl (by omega))))
        have HV := Lib.hid hv
        rw [hb] at c1 c2
        clear hi hv hb hsb hg
        go_wp2
        go_ret
        exact ⟨ret_int (by rw [HV.out]), rfl⟩
      by_cases c3 : k = 9
      · have hv := HR.out.trans (hi.bad hlt (.inr (.inr c3)))
        have HV := Lib.hid hv
        rw [hb] at c1 c2
        have hk9 : ((k : Int) == 9) = true := by simp; omega
        clear hi hv hb hsb hg c3
        go_wp2
        go_ret
        exact ⟨ret_int (by rw [HV.out]), rfl⟩
      · have hn := hi.next hlt (by omega) (by omega) c3
        rw [hsb] at hn
        rw [hb] at c1 c2
        have hk9 : ((k : Int) == 9) = false := by simp; omega
        have hv : ((10 * n + (b - 48) : Nat) : Int) = 10 * (n : Int) + (((((⟨s.toArray⟩ : ByteArray)[k]'hsz).toNat : Nat) : Int) - 48) := by rw [← hb]; omega
        have HV := Lib.hid hv
        clear hi hg hv hsb
        go_wp2
        go_round
        case rel => exact ⟨_, k + 1, by omega, by go_num, by rw [HV.out], hn⟩
        case measure => simp [intOf]; omega
    · have hkl : k = s.length := by omega
      subst hkl
      have hf := HR.out.trans hi.fin
      have hd := digits_any n w (by omega)
      by_cases h0 : s = []
      · have hv := hf.trans (if_pos (.inl h0))
        have HV := Lib.hid hv
        clear hf hv hi
        subst h0
        go_wp2
        go_ret
        exact ⟨ret_int (by rw [HV.out]), rfl⟩
      · have h0' : s.isEmpty = false := by simp [h0]
        have hf' : R = if Lib.decDigits n ≠ s then -1 else (n : Int) := by rw [hf]; simp [h0]
        clear h0 hf
        cases hq : (Lib.decDigits n == s) with
        | true =>
          have hv : R = (n : Int) := by rw [hf', if_neg (by simpa using hq)]
          have HV := Lib.hid hv
          clear hf' hv hi
          go_wp2_with fail
          refine hd.mono ?_
          rintro e w1 ⟨rfl, rfl⟩
          go_wp2
          go_ret
          exact ⟨ret_int (by rw [HV.out]), rfl⟩
        | false =>
          have hv : R = -1 := by rw [hf', if_pos (by simpa using hq)]
          have HV := Lib.hid hv
          clear hf' hv hi
          go_wp2_with fail
          refine hd.mono ?_
          rintro e w1 ⟨rfl, rfl⟩
          go_wp2
          go_ret
          exact ⟨ret_int (by rw [HV.out]), rfl⟩
end Go.Proofs.YtlnmmkgeahlohaaDoor
