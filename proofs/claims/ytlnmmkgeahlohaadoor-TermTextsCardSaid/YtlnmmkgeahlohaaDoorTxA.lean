/-
  Walks: the document's digits and numbers in words.
-/
import Derived.Test.YtlnmmkgeahlohaaDoorB
import Derived.Test.YtlnmmkgeahlohaaDoorTxP
namespace Go.Proofs.YtlnmmkgeahlohaaDoor
set_option linter.unusedVariables false
set_option linter.unusedSimpArgs false
open Go.RowKit

/-- A text as a value. -/
abbrev St (l : List UInt8) : Value := .string ⟨l.toArray⟩
theorem dig_piece {i : Nat} (h : i < 10) : (ByteArray.extract ⟨#[48, 49, 50, 51, 52, 53, 54, 55, 56, 57]⟩ i (i + 1)) = ⟨(Lib.decDigits i).toArray⟩ := by
  rw [Lib.decDigits_one h]
  have : ∀ j : Fin 10, (ByteArray.extract ⟨#[48, 49, 50, 51, 52, 53, 54, 55, 56, 57]⟩ j.val (j.val + 1)) = ⟨#[UInt8.ofNat (48 + j.val)]⟩ := by decide +kernel
  exact this ⟨i, h⟩
theorem st_app (a b : List UInt8) : (⟨a.toArray⟩ : ByteArray) ++ ⟨b.toArray⟩ = ⟨(a ++ b).toArray⟩ := by
  apply ByteArray.ext
  simp
theorem dg_len : ∀ n : Nat, (Lib.decDigits n).length ≤ n + 1 := by
  intro n
  induction n using Nat.strongRecOn with
  | _ n ih =>
    by_cases h : n < 10
    · rw [Lib.decDigits_one h]; simp
    · rw [dg_big h]
      have := ih (n / 10) (by omega)
      simp
      omega
set_option maxHeartbeats 800000 in
theorem digits_any : ∀ (n : Nat) (w : World), n ≤ 1000000000000 →
    Calls Tryd.prog 17 #[.int .i64 (n : Nat)] w fun e w' => e = .returned (St (Lib.decDigits n)) ∧ w' = w := by
  intro n
  induction n using Nat.strongRecOn with
  | _ n ih =>
    intro w hn
    by_cases h : n < 10
    · have hp := dig_piece h
      have HP := Lib.hid hp
      clear hp ih
      go_enter Tryd.func17, Tryd.ntmps17
      go_wp2
      go_ret
      exact ⟨by rw [HP.out]; rfl, rfl⟩
    · have hd : Lib.decDigits (n / 10) ++ Lib.decDigits (n % 10) = Lib.decDigits n := by
        rw [dg_big h, Lib.decDigits_one (Nat.mod_lt _ (by omega))]
      have HD := Lib.hid hd
      have i1 : ∀ w, Calls Tryd.prog 17 #[.int .i64 ((n : Int) / 10)] w fun e w' => e = .returned (St (Lib.decDigits (n / 10))) ∧ w' = w := fun w => by
        have := ih (n / 10) (by omega) w (by omega)
        rwa [show ((n / 10 : Nat) : Int) = (n : Int) / 10 by omega] at this
      have i2 : ∀ w, Calls Tryd.prog 17 #[.int .i64 ((n : Int) % 10)] w fun e w' => e = .returned (St (Lib.decDigits (n % 10))) ∧ w' = w := fun w => by
        have := ih (n % 10) (by omega) w (by omega)
        rwa [show ((n % 10 : Nat) : Int) = (n : Int) % 10 by omega] at this
      have l1 := dg_len (n / 10)
      have l2 := dg_len (n % 10)
      have hlen : ¬ 9223372036854775807 < (Lib.decDigits (n / 10)).length + (Lib.decDigits (n % 10)).length := by omega
      clear ih hd l1 l2
      go_enter Tryd.func17, Tryd.ntmps17
      go_wp2_with fail
      refine (i1 _).mono ?_
      rintro e w1 ⟨rfl, rfl⟩
      go_wp2_with fail
      refine (i2 _).mono ?_
      rintro e w1 ⟨rfl, rfl⟩
      go_wp2
      go_ret
      exact ⟨by rw [st_app, HD.out]; rfl, rfl⟩

theorem dg_len4 {x : Int} (h : x ≤ 1000) : (dgI x).length ≤ 4 := by
  unfold dgI
  rw [dg_four (by omega)]
  unfold dg4
  split
  · simp
  · split
    · simp
    · split <;> simp
theorem jt_cons (a : Wd) (r : List Wd) : Lib.joinTail [32] (a :: r) = 32 :: (a ++ Lib.joinTail [32] r) := by simp [Lib.joinTail]
theorem jt_app (a b : List Wd) : Lib.joinTail [32] (a ++ b) = Lib.joinTail [32] a ++ Lib.joinTail [32] b := by simp [Lib.joinTail]
theorem jt_len : ∀ (l : List Int), (∀ x ∈ l, x ≤ 1000) → (Lib.joinTail [32] (l.map dgI)).length ≤ 5 * l.length
  | [], _ => by simp [Lib.joinTail]
  | x :: l, h => by
    rw [List.map_cons, jt_cons]
    have h1 := dg_len4 (h x (by simp))
    have h2 := jt_len l fun y hy => h y (by simp [hy])
    simp only [List.length_cons, List.length_append]
    omega
def small (l : List Int) : Prop := ∀ k, k < l.length → 0 ≤ gi l k ∧ gi l k ≤ 1000
theorem small_mem {l : List Int} (h : small l) : ∀ x ∈ l, 0 ≤ x ∧ x ≤ 1000 := fun x hx => by
  obtain ⟨i, hi, rfl⟩ := List.mem_iff_getElem.1 hx
  rw [gi_getElem _ i hi]
  exact h i hi
theorem take_gi' {l : List Int} {k : Nat} (h : k < l.length) : l.take (k + 1) = l.take k ++ [gi l k] := by
  rw [List.take_add_one]; simp [gi, h]
set_option maxHeartbeats 800000 in
theorem numbers_any (l : List Int) (hs : small l) (A : Option Addr) (c : Nat) (w : World) (hl : RN w A l) (hb : l.length ≤ 1000000) :
    Calls Tryd.prog 18 #[.slice A l.length c] w fun e w' => e = .returned (St (Lib.joinTail [32] (l.map dgI))) ∧ w' = w := by
  go_enter Tryd.func18, Tryd.ntmps18
  go_wp2
  go_loop [3, 4] (fun o x => ∃ k : Nat, k ≤ l.length ∧ x = .int .i64 k ∧ o = St (Lib.joinTail [32] ((l.take k).map dgI))) (fun _ x => l.length - (intOf x).toNat)
  case atStart => exact ⟨0, by omega, rfl, rfl⟩
  case round =>
    obtain ⟨k, hk, rfl, rfl⟩ := hrel
    by_cases hlt : k < l.length
    · obtain ⟨ad, rfl, hab, e0⟩ := hl.at_ hlt
      obtain ⟨s1, s2⟩ := hs k hlt
      have hd := digits_any (gi l k).toNat w (by omega)
      rw [show (((gi l k).toNat : Nat) : Int) = gi l k by omega] at hd
      have hv : Lib.joinTail [32] ((l.take (k + 1)).map dgI) = Lib.joinTail [32] ((l.take k).map dgI) ++ ([32] ++ dgI (gi l k)) := by
        rw [take_gi' hlt, List.map_append, jt_app]; simp [Lib.joinTail]
      have HV := Lib.hid hv
      have l1 := jt_len (l.take k) fun x hx => (small_mem hs x (List.mem_of_mem_take hx)).2
      have l2 := dg_len4 s2
      rw [List.length_take] at l1
      obtain ⟨X, hX⟩ : ∃ X, X = Lib.joinTail [32] ((l.take k).map dgI) := ⟨_, rfl⟩
      rw [← hX] at l1 HV ⊢
      obtain ⟨D, hD⟩ : ∃ D, D = Lib.decDigits (gi l k).toNat := ⟨_, rfl⟩
      rw [← hD] at hd
      have hD' : dgI (gi l k) = D := by rw [hD]; rfl
      rw [hD'] at l2 HV
      clear hv hX hD hD'
      have e1 : ¬ 9223372036854775807 < 1 + D.length := by omega
      have e2 : ¬ 9223372036854775807 < X.length + (1 + D.length) := by omega
      go_wp2_with fail
      refine hd.mono ?_
      rintro e w1 ⟨rfl, rfl⟩
      go_wp2
      go_round
      case rel => exact ⟨k + 1, by omega, by go_num, by
        rw [HV.out]
        show Value.string (⟨X.toArray⟩ ++ (⟨[32].toArray⟩ ++ ⟨D.toArray⟩)) = _
        rw [st_app, st_app]⟩
      case measure => simp [intOf]; omega
    · have hkl : k = l.length := by omega
      subst hkl
      rw [List.take_length]
      go_wp2
      go_ret
      exact ⟨rfl, rfl⟩
end Go.Proofs.YtlnmmkgeahlohaaDoor
