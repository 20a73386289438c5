/-
  Walks: the school day with a number, and the next one: the document's, and the code's at whatever term.
-/
import Derived.Test.YtecjmpaomebdbaaV
import Derived.Test.YtecjmpaomebdbaaT
namespace Go.Proofs.Ytecjmpaomebdbaa
set_option linter.unusedVariables false
set_option linter.unusedSimpArgs false
open Go.RowKit

theorem Box.keep {w w' : World} {g n : Nat} {cs : Array Value} (h : Box w g cs) (hb : Below n w w') (hg : g < n) : Box w' g cs :=
  ⟨Nat.lt_of_lt_of_le h.lt hb.size, fun j => (hb.cell (p := ⟨g, j, none⟩) hg).trans (h.cell j), fun j => (hb.frozen (p := ⟨g, j, none⟩) hg).trans (h.free j)⟩

def nthE (t : Tm) (n : Int) : Int := if tE t ≠ 0 then tE t else if 0 ≤ n ∧ n < (dl t 0 t.len.toNat).length then 0 else 5
def nthN (t : Tm) (n : Int) : Int := if nthE t n = 0 then gi (dl t 0 t.len.toNat) n.toNat else 0
def nextE (t : Tm) (d : Int) : Int := if qE t d ≠ 0 then qE t d else if 0 < (dl t d (t.len - d).toNat).length then 0 else 5
def nextN (t : Tm) (d : Int) : Int := if nextE t d = 0 then gi (dl t d (t.len - d).toNat) 0 else 0
theorem nth_is {t : Tm} {n N E : Int} (h0 : tE t = 0) (h : NthOf (dl t 0 t.len.toNat) n N E) : N = nthN t n ∧ E = nthE t n := by
  have e : nthE t n = if 0 ≤ n ∧ n < (dl t 0 t.len.toNat).length then 0 else 5 := by rw [nthE, if_neg (by simp [h0])]
  rcases h with ⟨k, hk, rfl, rfl, rfl⟩ | ⟨hk, rfl, rfl⟩
  · have e' : nthE t k = 0 := by rw [e, if_pos (by omega)]
    exact ⟨by rw [nthN, if_pos e']; rfl, e'.symm⟩
  · have e' : nthE t n = 5 := by rw [e, if_neg (by omega)]
    exact ⟨by rw [nthN, e']; rfl, e'.symm⟩
theorem next_is {t : Tm} {n N E : Int} (h0 : qE t n = 0) (h : NextOf (dl t n (t.len - n).toNat) N E) : N = nextN t n ∧ E = nextE t n := by
  have e : nextE t n = if 0 < (dl t n (t.len - n).toNat).length then 0 else 5 := by rw [nextE, if_neg (by simp [h0])]
  rcases h with ⟨hk, rfl, rfl⟩ | ⟨hk, rfl, rfl⟩
  · have e' : nextE t n = 0 := by rw [e, if_pos (by omega)]
    exact ⟨by rw [nextN, if_pos e'], e'.symm⟩
  · have e' : nextE t n = 5 := by rw [e, if_neg (by omega)]
    exact ⟨by rw [nextN, e']; rfl, e'.symm⟩

theorem dl_bd (t : Tm) (a : Int) : ∀ k i, i < (dl t a k).length → a ≤ gi (dl t a k) i ∧ gi (dl t a k) i < a + k
  | 0, i, h => by simp [dl] at h
  | k + 1, i, h => by
    cases ho : opB t (a + k) with
    | false =>
      rw [dl_no ho] at h ⊢
      have := dl_bd t a k i h
      omega
    | true =>
      rw [dl_yes ho] at h ⊢
      by_cases hi : i < (dl t a k).length
      · have := dl_bd t a k i hi
        rw [show gi (dl t a k ++ [a + k]) i = gi (dl t a k) i by simp [gi, List.getElem?_append_left hi]]
        omega
      · have hi2 : i = (dl t a k).length := by simp at h; omega
        subst hi2
        rw [show gi (dl t a k ++ [a + k]) (dl t a k).length = a + k by simp [gi]]
        omega
theorem next_split (t : Tm) (d : Int) (h0 : 0 ≤ d) (h1 : d ≤ t.len) : ∃ C : Nat, (∀ i, i < C → i < (dl t 0 t.len.toNat).length ∧ gi (dl t 0 t.len.toNat) i < d) ∧ (dl t 0 t.len.toNat).length = C + (dl t d (t.len - d).toNat).length ∧
    (C < (dl t 0 t.len.toNat).length → d ≤ gi (dl t 0 t.len.toNat) C ∧ gi (dl t 0 t.len.toNat) C = gi (dl t d (t.len - d).toNat) 0) := by
  have e : dl t 0 t.len.toNat = dl t 0 d.toNat ++ dl t d (t.len - d).toNat := by
    have := dl_app t 0 d.toNat (t.len - d).toNat
    rw [show d.toNat + (t.len - d).toNat = t.len.toNat by omega, show (0 : Int) + (d.toNat : Int) = d by omega] at this
    exact this
  refine ⟨(dl t 0 d.toNat).length, ?_, by rw [e]; simp, ?_⟩
  · intro i hi
    have := dl_bd t 0 d.toNat i hi
    rw [e]
    refine ⟨by simp; omega, ?_⟩
    rw [show gi (dl t 0 d.toNat ++ dl t d (t.len - d).toNat) i = gi (dl t 0 d.toNat) i by simp [gi, List.getElem?_append_left hi]]
    omega
  · intro hc
    have hz : gi (dl t 0 t.len.toNat) (dl t 0 d.toNat).length = gi (dl t d (t.len - d).toNat) 0 := by rw [e]; simp [gi, List.getElem?_append_right]
    rw [hz]
    have := dl_bd t d (t.len - d).toNat 0 (by rw [e] at hc; simp at hc; omega)
    exact ⟨this.1, rfl⟩

set_option maxRecDepth 100000 in
set_option maxHeartbeats 1000000 in
theorem school_any (t : Tm) (A1 A2 : Option Addr) (c1 c2 : Nat) (w : World) (h1 : RN w A1 t.rest) (h2 : RN w A2 t.clo) (hok : TmOk t) :
    Calls Try.prog 75 #[.agg #[.int .i64 t.len, .slice A1 t.rest.length c1, .slice A2 t.clo.length c2]] w fun r w' => ∃ A c, r = .returned (.slice A (dl t 0 t.len.toNat).length c) ∧ OwnN w' w.heap.size A c (dl t 0 t.len.toNat) ∧ Below w.heap.size w w' := by
  have l1 := hok.len1
  have l2 := hok.len2
  have hy : Below w.heap.size w (w.alloc (.cells #[.int .i64 t.len, .slice A1 t.rest.length c1, .slice A2 t.clo.length c2] 24)) := (Below.refl _ w).alloc (Nat.le_refl _) _
  have b0 : Box (w.alloc (.cells #[.int .i64 t.len, .slice A1 t.rest.length c1, .slice A2 t.clo.length c2] 24)) w.heap.size #[.int .i64 t.len, .slice A1 t.rest.length c1, .slice A2 t.clo.length c2] := Box.new w _ _
  go_enter Try.func75, Try.ntmps75
  go_wp2
  go_loopw [3, 4] (fun o x wr => ∃ k : Nat, k ≤ t.len.toNat ∧ x = .int .i64 k ∧ ∃ A c', o = .slice A (dl t 0 k).length c' ∧ OwnN wr (w.heap.size + 1) A c' (dl t 0 k) ∧ Box wr w.heap.size #[.int .i64 t.len, .slice A1 t.rest.length c1, .slice A2 t.clo.length c2] ∧ Below w.heap.size w wr) (fun _ x _ => t.len.toNat - (intOf x).toNat)
  case atStart => exact ⟨0, by omega, rfl, none, 0, rfl, World.ownsRow_nil _ _ _ _, b0, hy⟩
  case round =>
    clear b0 hy
    obtain ⟨k, hk, rfl, A, c', rfl, own, b0, hy⟩ := hrel
    have hll := dl_len t 0 k
    by_cases hlt : (k : Int) < t.len
    · cases ho : opB t (k : Int) with
      | true =>
        have hs := dl_yes (t := t) (a := 0) (k := k) (by simpa using ho)
        have HS := Lib.hid hs
        clear hs
        have xx0 := b0.cell; have nn0 := b0.lt
        go_wp2_with fail
        clear xx0 nn0
        refine (ropen_any t k A1 A2 c1 c2 _ (h1.below hy) (h2.below hy) hok (by omega) (by omega)).mono ?_
        rintro r w2 ⟨rfl, hb2⟩
        rw [ho]
        replace b0 := b0.below hb2; replace own := own.kept hb2; replace hy := hy.trans (hb2.mono hy.size)
        clear hb2
        have hbs := b0.lt
        go_wp2_with (at_builtin; refine wpList_app1 rfl _ _ rfl Try.underlying22 info_int rfl (by omega) rfl own rfl rfl (by simp [Value.oneCell']) (by omega) (by omega) (by omega) ?_; intro A' c'' w3 own3 hb3)
        go_roundw
        case rel => exact ⟨k + 1, by omega, by go_num, A', c'', by rw [HS.out, List.length_append]; rfl, OwnN.snoc own3 rfl (by rw [HS.out]; simp), b0.keep (hb3 _ (Nat.le_refl _)) (by omega), hy.trans (hb3 _ (by omega))⟩
        case measure => simp [intOf]; omega
      | false =>
        have hs := dl_no (t := t) (a := 0) (k := k) (by simpa using ho)
        have HS := Lib.hid hs
        clear hs
        have xx0 := b0.cell; have nn0 := b0.lt
        go_wp2_with fail
        clear xx0 nn0
        refine (ropen_any t k A1 A2 c1 c2 _ (h1.below hy) (h2.below hy) hok (by omega) (by omega)).mono ?_
        rintro r w2 ⟨rfl, hb2⟩
        rw [ho]
        replace b0 := b0.below hb2; replace own := own.kept hb2; replace hy := hy.trans (hb2.mono hy.size)
        clear hb2
        go_wp2
        go_roundw
        case rel => exact ⟨k + 1, by omega, by go_num, A, c', by rw [HS.out], by rw [HS.out]; exact own, b0, hy⟩
        case measure => simp [intOf]; omega
    · have hkl : k = t.len.toNat := by omega
      have HKL := Lib.hid hkl
      clear hkl
      have xx0 := b0.cell; have nn0 := b0.lt
      go_wp2
      clear xx0 nn0
      go_ret
      exact ⟨A, c', by rw [← HKL.out] <;> rfl, by rw [← HKL.out]; exact own_base own (by omega), hy⟩
set_option maxRecDepth 100000 in
set_option maxHeartbeats 1000000 in
theorem rnth_any (t : Tm) (n : Int) (A1 A2 : Option Addr) (c1 c2 : Nat) (w : World) (h1 : RN w A1 t.rest) (h2 : RN w A2 t.clo) (hl1 : t.rest.length ≤ 1000000000) (hl2 : t.clo.length ≤ 1000000000) :
    Calls Try.prog 48 #[.agg #[.int .i64 t.len, .slice A1 t.rest.length c1, .slice A2 t.clo.length c2], .int .i64 n] w fun r w' => r = .returned (.tuple #[.int .i64 (nthN t n), .int .i64 (nthE t n)]) ∧ Below w.heap.size w w' := by
  obtain ⟨E, hE⟩ : ∃ E, E = nthE t n := ⟨_, rfl⟩
  obtain ⟨N, hN⟩ : ∃ N, N = nthN t n := ⟨_, rfl⟩
  rw [← hE, ← hN]
  rw [nthN, ← hE] at hN
  have HE := Lib.hid hE
  have HN := Lib.hid hN
  clear hE hN
  have hy : Below w.heap.size w (w.alloc (.cells #[.int .i64 t.len, .slice A1 t.rest.length c1, .slice A2 t.clo.length c2] 24)) := (Below.refl _ w).alloc (Nat.le_refl _) _
  have b0 : Box (w.alloc (.cells #[.int .i64 t.len, .slice A1 t.rest.length c1, .slice A2 t.clo.length c2] 24)) w.heap.size #[.int .i64 t.len, .slice A1 t.rest.length c1, .slice A2 t.clo.length c2] := Box.new w _ _
  replace h1 := h1.below hy
  replace h2 := h2.below hy
  go_enter Try.func48, Try.ntmps48
  go_wp2_with fail
  refine (rtvalidate_any t A1 A2 c1 c2 _ h1 h2 hl1 hl2).mono ?_
  rintro r w1 ⟨rfl, hb1⟩
  replace b0 := b0.below hb1; replace h1 := h1.below hb1; replace h2 := h2.below hb1; replace hy := hy.trans (hb1.mono hy.size)
  clear hb1
  by_cases h0 : tE t = 0
  · have h0' : (tE t != 0) = false := by simp [h0]
    have hok := TmOk.of h0
    have hEm : E = if 0 ≤ n ∧ n < (dl t 0 t.len.toNat).length then 0 else 5 := by rw [HE.out, nthE, if_neg (by simp [h0])]
    have HEM := Lib.hid hEm
    have l2 := hok.len2
    have hdl := dl_len t 0 t.len.toNat
    clear h0 hEm
    have xx0 := b0.cell; have nn0 := b0.lt
    go_wp2_with fail
    clear xx0 nn0
    refine (school_any t A1 A2 c1 c2 _ h1 h2 hok).mono ?_
    rintro r w2 ⟨A, c, rfl, own, hb2⟩
    have rl := RN.of_own own
    replace hy := hy.trans (hb2.mono hy.size)
    clear own hb2 b0 h1 h2
    obtain ⟨l, hl⟩ : ∃ l, l = dl t 0 t.len.toNat := ⟨_, rfl⟩
    rw [← hl] at rl hdl ⊢
    have HL := Lib.hid hl
    clear hl
    have hdl' : l.length ≤ 1000 := by omega
    clear hdl
    cases hi : inB n 0 ((l.length : Int) - 1) with
    | false =>
      have hi' := inB_false.1 hi
      have hEv : E = 5 := by rw [HEM.out, if_neg (by rw [← HL.out]; omega)]
      have hNv : N = 0 := by rw [HN.out, if_neg (by rw [hEv]; decide)]
      have HEV := Lib.hid hEv
      have HNV := Lib.hid hNv
      clear hEv hNv hi'
      go_wp2_with (go_at_call 58; refine (within_any _ _ _ _).mono ?_; rintro e w' ⟨rfl, hw'⟩; have hw'' := hw'.symm; clear hw'; subst hw'')
      go_ret2
      exact ⟨ret2 (by rw [HNV.out] <;> rfl) (by rw [HEV.out] <;> rfl), hy⟩
    | true =>
      have hi' := inB_true.1 hi
      obtain ⟨k, rfl⟩ := Int.eq_ofNat_of_zero_le hi'.1
      have hkl : k < l.length := by omega
      have hEv : E = 0 := by rw [HEM.out, if_pos (by rw [← HL.out]; omega)]
      have hNv : N = gi l k := by rw [HN.out, if_pos hEv, HL.out]; rfl
      obtain ⟨ad, rfl, hab, e0⟩ := rl.at_ hkl
      have HEV := Lib.hid hEv
      have HNV := Lib.hid hNv
      clear hEv hNv hi'
      go_wp2_with (go_at_call 58; refine (within_any _ _ _ _).mono ?_; rintro e w' ⟨rfl, hw'⟩; have hw'' := hw'.symm; clear hw'; subst hw'')
      go_ret2
      exact ⟨ret2 (by rw [HNV.out] <;> rfl) (by rw [HEV.out] <;> rfl), hy⟩
  · have h0' : (tE t != 0) = true := by simp [h0]
    have hEv : E = tE t := by rw [HE.out, nthE, if_pos h0]
    have hNv : N = 0 := by rw [HN.out, if_neg (by rw [hEv]; exact h0)]
    have HEV := Lib.hid hEv
    have HNV := Lib.hid hNv
    clear h0 hEv hNv
    have xx0 := b0.cell; have nn0 := b0.lt
    go_wp2
    clear xx0 nn0
    go_ret2
    exact ⟨ret2 (by rw [HNV.out] <;> rfl) (by rw [HEV.out] <;> rfl), hy⟩

set_option maxRecDepth 100000 in
set_option maxHeartbeats 1000000 in
theorem rnext_any (t : Tm) (n : Int) (A1 A2 : Option Addr) (c1 c2 : Nat) (w : World) (h1 : RN w A1 t.rest) (h2 : RN w A2 t.clo) (hl1 : t.rest.length ≤ 1000000000) (hl2 : t.clo.length ≤ 1000000000) :
    Calls Try.prog 50 #[.agg #[.int .i64 t.len, .slice A1 t.rest.length c1, .slice A2 t.clo.length c2], .int .i64 n] w fun r w' => r = .returned (.tuple #[.int .i64 (nextN t n), .int .i64 (nextE t n)]) ∧ Below w.heap.size w w' := by
  obtain ⟨E, hE⟩ : ∃ E, E = nextE t n := ⟨_, rfl⟩
  obtain ⟨N, hN⟩ : ∃ N, N = nextN t n := ⟨_, rfl⟩
  rw [← hE, ← hN]
  rw [nextN, ← hE] at hN
  have HE := Lib.hid hE
  have HN := Lib.hid hN
  clear hE hN
  have hy : Below w.heap.size w (w.alloc (.cells #[.int .i64 t.len, .slice A1 t.rest.length c1, .slice A2 t.clo.length c2] 24)) := (Below.refl _ w).alloc (Nat.le_refl _) _
  have b0 : Box (w.alloc (.cells #[.int .i64 t.len, .slice A1 t.rest.length c1, .slice A2 t.clo.length c2] 24)) w.heap.size #[.int .i64 t.len, .slice A1 t.rest.length c1, .slice A2 t.clo.length c2] := Box.new w _ _
  replace h1 := h1.below hy
  replace h2 := h2.below hy
  go_enter Try.func50, Try.ntmps50
  go_wp2_with fail
  refine (risOpen_any n t A1 A2 c1 c2 _ h1 h2 hl1 hl2).mono ?_
  rintro r w1 ⟨rfl, hb1⟩
  replace b0 := b0.below hb1; replace h1 := h1.below hb1; replace h2 := h2.below hb1; replace hy := hy.trans (hb1.mono hy.size)
  clear hb1
  by_cases h0 : qE t n = 0
  · have h0' : (qE t n != 0) = false := by simp [h0]
    obtain ⟨hok, d0, d1⟩ := qE_ok h0
    have hEm : E = if 0 < (dl t n (t.len - n).toNat).length then 0 else 5 := by rw [HE.out, nextE, if_neg (by simp [h0])]
    have HEM := Lib.hid hEm
    have l2 := hok.len2
    have hdl := dl_len t 0 t.len.toNat
    obtain ⟨C, s1, s2, s3⟩ := next_split t n d0 (by omega)
    clear h0 hEm
    have xx0 := b0.cell; have nn0 := b0.lt
    go_wp2_with fail
    clear xx0 nn0
    refine (school_any t A1 A2 c1 c2 _ h1 h2 hok).mono ?_
    rintro r w2 ⟨A, c, rfl, own, hb2⟩
    have rl := RN.of_own own
    replace hy := hy.trans (hb2.mono hy.size)
    clear own hb2 b0 h1 h2
    obtain ⟨l, hl⟩ : ∃ l, l = dl t 0 t.len.toNat := ⟨_, rfl⟩
    rw [← hl] at rl hdl s1 s2 s3 ⊢
    have hdl' : l.length ≤ 1000 := by omega
    clear hdl hl
    have S1 := Lib.hid s1; have S2 := Lib.hid s2; have S3 := Lib.hid s3
    clear s1 s2 s3
    go_wp2
    go_loop [9] (fun x => ∃ k : Nat, k ≤ l.length ∧ k ≤ C ∧ x = .int .i64 k) (fun x => l.length - (intOf x).toNat)
    case atStart => exact ⟨0, by omega, by omega, rfl⟩
    case round =>
      obtain ⟨k, hk, hkC, rfl⟩ := hrel
      by_cases hlt : k < l.length
      · obtain ⟨ad, rfl, hab, e0⟩ := rl.at_ hlt
        by_cases hc : k < C
        · have hg := (S1.out k hc).2
          go_wp2
          go_round
          case rel => exact ⟨k + 1, by omega, by omega, by go_num⟩
          case measure => simp [intOf]; omega
        · obtain rfl : k = C := by omega
          obtain ⟨q1, q2⟩ := S3.out hlt
          have hEv : E = 0 := by rw [HEM.out, if_pos (by have := S2.out; omega)]
          have hNv : N = gi l k := by rw [HN.out, if_pos hEv, q2]
          have HEV := Lib.hid hEv
          have HNV := Lib.hid hNv
          clear hEv hNv q2
          go_wp2
          go_ret2
          exact ⟨ret2 (by rw [HNV.out] <;> rfl) (by rw [HEV.out] <;> rfl), hy⟩
      · have hEv : E = 5 := by rw [HEM.out, if_neg (by have := S2.out; omega)]
        have hNv : N = 0 := by rw [HN.out, if_neg (by rw [hEv]; decide)]
        have HEV := Lib.hid hEv
        have HNV := Lib.hid hNv
        clear hEv hNv
        go_wp2
        go_ret2
        exact ⟨ret2 (by rw [HNV.out] <;> rfl) (by rw [HEV.out] <;> rfl), hy⟩
  · have h0' : (qE t n != 0) = true := by simp [h0]
    have hEv : E = qE t n := by rw [HE.out, nextE, if_pos h0]
    have hNv : N = 0 := by rw [HN.out, if_neg (by rw [hEv]; exact h0)]
    have HEV := Lib.hid hEv
    have HNV := Lib.hid hNv
    clear h0 hEv hNv
    have xx0 := b0.cell; have nn0 := b0.lt
    go_wp2
    clear xx0 nn0
    go_ret2
    exact ⟨ret2 (by rw [HNV.out] <;> rfl) (by rw [HEV.out] <;> rfl), hy⟩
end Go.Proofs.Ytecjmpaomebdbaa
