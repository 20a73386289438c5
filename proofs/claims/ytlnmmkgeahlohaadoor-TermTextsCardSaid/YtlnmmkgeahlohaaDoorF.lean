/-
  Walks: remainders and greatest common divisors.
-/
import Derived.Test.YtlnmmkgeahlohaaDoorE
import Derived.Test.YtlnmmkgeahlohaaDoorPlainS
import Derived.IntWalk
import Derived.ScopeJumps
import Derived.WalkMore
namespace Go.Proofs.YtlnmmkgeahlohaaDoor
set_option linter.unusedVariables false
set_option linter.unusedSimpArgs false
open Go.RowKit

theorem tmod_cases (n m : Int) (h : 1 ≤ m) : (n.tmod m = n % m ∨ n.tmod m = n % m - m) ∧ 0 ≤ n % m ∧ n % m < m := by
  refine ⟨?_, Int.emod_nonneg n (by omega), Int.emod_lt_of_pos n (by omega)⟩
  rw [Int.tmod_eq_emod]
  split
  · left; simp
  · right; congr 1; omega
theorem tmod_bd (n m : Int) (h : 1 ≤ m) : -m ≤ n.tmod m ∧ n.tmod m < m ∧ (0 ≤ n.tmod m → n.tmod m = n % m) ∧ (n.tmod m < 0 → n.tmod m + m = n % m) := by
  obtain ⟨h1, h2, h3⟩ := tmod_cases n m h
  omega
theorem mod_eq (n m : Int) (h : 1 ≤ m) : (n.tmod m + m) % m = n % m := by
  obtain ⟨h1, h2, h3⟩ := tmod_cases n m h
  rcases h1 with e | e <;> rw [e]
  · rw [Int.add_emod_right, Int.emod_emod_of_dvd _ (Int.dvd_refl m)]
  · rw [Int.sub_add_cancel, Int.emod_emod_of_dvd _ (Int.dvd_refl m)]
theorem mod_any (n m : Int) (w : World) (h1 : 1 ≤ m) (h2 : m ≤ 1000000) :
    Calls Tryd.prog 29 #[.int .i64 n, .int .i64 m] w fun e w' => e = .returned (.int .i64 (n % m)) ∧ w' = w := by
  obtain ⟨b1, b2, -, -⟩ := tmod_bd n m h1
  have hm := mod_eq n m h1
  have HM := Lib.hid hm
  obtain ⟨R, hR⟩ : ∃ R, R = n % m := ⟨_, rfl⟩
  rw [← hR]
  have HR := Lib.hid hR
  clear hm hR
  go_enter Tryd.func29, Tryd.ntmps29
  go_wp2
  go_ret
  exact ⟨ret_int (by rw [HR.out, ← HM.out]), rfl⟩

theorem gcd_hid {p q G : Nat} (h : Hid (p.gcd q = G)) : Hid (q.gcd (p % q) = G) := Lib.hid (by rw [← h.out, Nat.gcd_comm p q, Nat.gcd_rec q p, Nat.gcd_comm])
def GcdPost (g : Nat) (w0 : World) (e : Ending) (w' : World) : Prop := e = .returned (.int .i64 (g : Nat)) ∧ ∃ n, w' = w0.drewN n
set_option maxHeartbeats 800000 in
theorem gcd_any (a b : Nat) (w : World) (ha : a ≤ 1000000000000000000) (hb : b ≤ 1000000000000000000) (h0 : 0 < b) :
    Calls Tryd.prog 28 #[.int .i64 (a : Nat), .int .i64 (b : Nat)] w (GcdPost (a.gcd b) w) := by
  obtain ⟨G, hG⟩ : ∃ G, G = a.gcd b := ⟨_, rfl⟩
  rw [← hG]
  have HG := Lib.hid hG
  clear hG
  go_enter Tryd.func28, Tryd.ntmps28
  go_wp2
  refine wp_scope_jumps 0 (fun a' w' => (∃ n, w' = w.drewN n) ∧ ∃ (p q : Nat) (u2 u3 u5 u6 u7 u8 u9 u10 u11 u12 u13 : Value), a' = { tmps := #[.int .i64 (p : Nat), .int .i64 (q : Nat), u2, u3, .int .i64 0, u5, u6, u7, u8, u9, u10, u11, u12, u13], defers := [] } ∧ p ≤ 1000000000000000000 ∧ q ≤ 1000000000000000000 ∧ 0 < q ∧ Hid (p.gcd q = G)) (fun a' _ => (intOf (a'.tmps.getD 1 undef)).toNat) rfl ?_ ?_
  · obtain ⟨p, rfl⟩ : ∃ p, p = a := ⟨_, rfl⟩
    obtain ⟨q, rfl⟩ : ∃ q, q = b := ⟨_, rfl⟩
    have HPQ : Hid (p.gcd q = G) := HG.out.symm
    have hq0 := h0
    clear h0
    by_cases h0 : p % q = 0
    · have h0' : ((((p % q : Nat)) : Int) == 0) = true := by simp [h0]
      have hv : G = q := by rw [← HPQ.out, Nat.gcd_comm, Nat.gcd_eq_left (Nat.dvd_of_mod_eq_zero h0)]
      have HV := Lib.hid hv
      clear h0 hv
      go_wp2
      go_step3
      go_wp2
      simp only [Exit.jump]
      go_ret
      exact ⟨ret_int (by rw [HV.out]), 0, rfl⟩
    · have h0' : ((((p % q : Nat)) : Int) == 0) = false := by simp; omega
      have hlt := Nat.mod_lt p hq0
      have hp1 : 0 < p % q := by omega
      have HPQ2 := gcd_hid HPQ
      clear h0
      go_wp2
      go_step3
      go_wp2
      go_quiet (fail)
      go_wp2
      go_step3
      exact ⟨rfl, ⟨nq, rfl⟩, q, p % q, _, _, _, _, _, _, _, _, _, _, _, rfl, hb, by omega, hp1, HPQ2⟩
  · rintro a' w' ⟨⟨n, rfl⟩, p, q, u2, u3, u5, u6, u7, u8, u9, u10, u11, u12, u13, rfl, hp, hq, hq0, HPQ⟩
    by_cases h0 : p % q = 0
    · have h0' : ((((p % q : Nat)) : Int) == 0) = true := by simp [h0]
      have hv : G = q := by rw [← HPQ.out, Nat.gcd_comm, Nat.gcd_eq_left (Nat.dvd_of_mod_eq_zero h0)]
      have HV := Lib.hid hv
      clear h0 hv
      go_wp2
      simp only [Exit.jump]
      go_ret
      exact ⟨ret_int (by rw [HV.out]), _, rfl⟩
    · have h0' : ((((p % q : Nat)) : Int) == 0) = false := by simp; omega
      have hlt := Nat.mod_lt p hq0
      have hp1 : 0 < p % q := by omega
      have HPQ2 := gcd_hid HPQ
      clear h0
      go_wp2
      go_quiet (fail)
      go_wp2
      go_step3
      exact ⟨rfl, ⟨⟨n + nq, by rw [World.drewN_drewN]⟩, q, p % q, _, _, _, _, _, _, _, _, _, _, _, rfl, hq, by omega, hp1, HPQ2⟩, by simp [intOf]; omega⟩

end Go.Proofs.YtlnmmkgeahlohaaDoor
