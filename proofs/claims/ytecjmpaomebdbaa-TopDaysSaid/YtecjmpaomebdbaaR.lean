/-
  The iterator over the school days: what it hands to whatever loop ranges over it.
-/
import Derived.Test.YtecjmpaomebdbaaC
import Derived.RangeFuncNested
import Derived.RangeFuncBound
import Derived.RangeFuncCalls
import Derived.RangeFuncLeaves
import Derived.Shelf.Abstract
import Derived.Shelf.RegionOpen
import Derived.WalkKit
import Derived.OwnWalkIn
import Derived.TacticsInMore
import Derived.LoopNIn
import Derived.LoopIn
namespace Go.Proofs.Ytecjmpaomebdbaa
set_option linter.unusedVariables false
set_option linter.unusedSimpArgs false
open Go.RowKit Go.Shelf

attribute [local go_sem] Oper.semAt_some

/-- the school days among the first k days from a on -/
def dl (t : Tm) (a : Int) : Nat → List Int
  | 0 => []
  | k + 1 => dl t a k ++ (if opB t (a + k) then [a + k] else [])
theorem dl_yes {t : Tm} {a : Int} {k : Nat} (h : opB t (a + k) = true) : dl t a (k + 1) = dl t a k ++ [a + k] := by simp [dl, h]
theorem dl_no {t : Tm} {a : Int} {k : Nat} (h : opB t (a + k) = false) : dl t a (k + 1) = dl t a k := by simp [dl, h]
theorem dl_len (t : Tm) (a : Int) : ∀ k, (dl t a k).length ≤ k
  | 0 => by simp [dl]
  | k + 1 => by
    have := dl_len t a k
    cases h : opB t (a + k) with
    | true => rw [dl_yes h]; simp; omega
    | false => rw [dl_no h]; omega

/-- what a round keeps: all below n₀, and the iterator's three boxes -/
structure KpD (n₀ B : Nat) (W W' : World) : Prop where
  below : Below n₀ W W'
  box : ∀ b i v, B ≤ b → b < B + 3 → W.cell? ⟨b, i, none⟩ = some v → W'.cell? ⟨b, i, none⟩ = some v
theorem KpD.refl (n₀ B : Nat) (W : World) : KpD n₀ B W W := ⟨Below.refl _ _, fun _ _ _ _ _ h => h⟩
theorem KpD.trans {n₀ B : Nat} {W1 W2 W3 : World} (h : KpD n₀ B W1 W2) (k : KpD n₀ B W2 W3) : KpD n₀ B W1 W3 :=
  ⟨h.below.trans k.below, fun b i v h1 h2 h3 => k.box b i v h1 h2 (h.box b i v h1 h2 h3)⟩
theorem kpd_b {n₀ B : Nat} {w : World} (hn : n₀ ≤ w.heap.size) (hB : B + 3 ≤ w.heap.size) (W : World) (l : Nat) (o o' : Obj) (hl : w.heap.size ≤ l) (h : W.heap[l]? = some o) (h1 : o.isCells = false) (h2 : o.isWalk = false) : KpD n₀ B W (W.putObj l o') :=
  ⟨belowK_b hn W l o o' hl h h1 h2, fun b i v _ hb hc => by
    rw [← hc]; exact (belowK_b (n₀ := B + 3) hB W l o o' hl h h1 h2).cell (p := ⟨b, i, none⟩) hb⟩
theorem KpD.of_below {n₀ B m : Nat} {W W' : World} (h : Below m W W') (h1 : n₀ ≤ m) (h2 : B + 3 ≤ m) : KpD n₀ B W W' :=
  ⟨h.mono h1, fun b i v _ hb hc => by rw [← hc]; exact h.cell (p := ⟨b, i, none⟩) (by show b < m; omega)⟩

/-- the iterator's boxes: the term, the first day, the day behind the last -/
structure ItBox (t : Tm) (A1 A2 : Option Addr) (c1 c2 : Nat) (a e : Int) (B : Nat) (W : World) : Prop where
  b0 : W.cell? ⟨B, 0, none⟩ = some (.int .i64 t.len)
  b1 : W.cell? ⟨B, 1, none⟩ = some (.slice A1 t.rest.length c1)
  b2 : W.cell? ⟨B, 2, none⟩ = some (.slice A2 t.clo.length c2)
  f : W.cell? ⟨B + 1, 0, none⟩ = some (.int .i64 a)
  u : W.cell? ⟨B + 2, 0, none⟩ = some (.int .i64 e)
  lt : B + 3 ≤ W.heap.size
theorem ItBox.kp {t : Tm} {A1 A2 : Option Addr} {c1 c2 : Nat} {a e : Int} {B n₀ : Nat} {W W' : World} (h : ItBox t A1 A2 c1 c2 a e B W) (k : KpD n₀ B W W') : ItBox t A1 A2 c1 c2 a e B W' :=
  ⟨k.box _ _ _ (by omega) (by omega) h.b0, k.box _ _ _ (by omega) (by omega) h.b1, k.box _ _ _ (by omega) (by omega) h.b2, k.box _ _ _ (by omega) (by omega) h.f, k.box _ _ _ (by omega) (by omega) h.u, by have := k.below.size; have := h.lt; omega⟩

set_option maxRecDepth 100000 in
set_option maxHeartbeats 1000000 in
theorem days1_in (n l : Nat) (hn : 1 ≤ n) (t : Tm) (a e : Int) (B : Nat) (A1 A2 : Option Addr) (c1 c2 : Nat) (w0 W : World) (h1 : RN w0 A1 t.rest) (h2 : RN w0 A2 t.clo) (hok : TmOk t) (h0a : 0 ≤ a) (hae : a ≤ e) (he : e ≤ 1000)
    (J Jx : List Int → World → Prop) (hab : AbidesFrom W.heap.size J)
    (hY : ∀ pre x W1, J pre W1 → pre.length < (e - a).toNat → YieldAt Fence.wide (n - 1) Try.prog l #[.int .i64 x] W1 fun r W' =>
      (r = .returned (.bool true) ∧ J (pre ++ [x]) W' ∧ KpD w0.heap.size B W1 W') ∨ (r = .returned (.bool false) ∧ Jx (pre ++ [x]) W'))
    (hW : Below w0.heap.size w0 W) (hb : ItBox t A1 A2 c1 c2 a e B W) (h0 : J [] W) :
    CallsIn Fence.wide n Try.prog 77 #[.func (.yield l) #[] #[], .pointer (some ⟨B + 1, 0, none⟩), .pointer (some ⟨B + 2, 0, none⟩), .pointer (some ⟨B, 0, none⟩)] W fun r W' => (∃ v, r = .returned v) ∧
      ((∃ ys, ys = dl t a (e - a).toNat ∧ J ys W') ∨ (∃ pre, (∃ k, k < (e - a).toNat ∧ opB t (a + k) = true ∧ pre = dl t a k ++ [a + k]) ∧ Jx pre W')) := by
  refine callsIn_of_wp Try.func77 rfl trivial ?_ rfl
  simp only [Try.ntmps77, List.size_toArray, List.length_cons, List.length_nil, Nat.reduceAdd, Nat.reduceSub, Array.replicate_succ, Array.replicate_zero, List.push_toArray, List.append_toArray, List.nil_append, List.cons_append]
  have hbf := hb.f
  gi_wp2
  gi_loopw [5] (fun y wr => ∃ k : Nat, k ≤ (e - a).toNat ∧ y = .int .i64 (a + k) ∧ J (dl t a k) wr ∧ Below w0.heap.size w0 wr ∧ ItBox t A1 A2 c1 c2 a e B wr)
    (fun y _ => (e - intOf y).toNat)
  case atStart => exact ⟨0, Nat.zero_le _, by simp, h0, hW, hb⟩
  case round =>
    obtain ⟨k, hk, rfl, hJ, hwr, hbx⟩ := hrel
    have hu := hbx.u
    have q0 := hbx.b0
    have q1 := hbx.b1
    have q2 := hbx.b2
    by_cases hlt : a + k < e
    · cases ho : opB t (a + k) with
      | true =>
        gi_wp2_with fail
        refine ⟨trivial, ?_⟩
        refine (callsIn_wide.2 (open_any t (a + k) A1 A2 c1 c2 wr (h1.below hwr) (h2.below hwr) hok (by omega) (by omega))).mono ?_
        rintro r w2 ⟨rfl, hb2⟩
        rw [ho]
        have hlt2 := hbx.lt
        have hws := hwr.size
        have kp2 : KpD w0.heap.size B wr w2 := KpD.of_below hb2 hws hlt2
        have hJ2 : J (dl t a k) w2 := hab _ _ _ none hJ ⟨hb2.os, hb2.tape, hb2.output, hb2.size, fun k hk _ => hb2.block k hk⟩ (by simp)
        have hbx2 := hbx.kp kp2
        obtain ⟨fn, tmps, assign, body, hy, hR⟩ := hY _ (a + k) w2 hJ2 (by have := dl_len t a k; omega)
        gi_wp2_with fail
        refine hR.mono ?_
        rintro r W3 (⟨rfl, hJ3, hk3⟩ | ⟨rfl, hJx3⟩)
        · gi_wp2
          go_roundw
          case rel => exact ⟨k + 1, by omega, by rw [Int.natCast_succ, ← Int.add_assoc], by rw [dl_yes ho]; exact hJ3, (hwr.trans kp2.below).trans hk3.below, hbx2.kp hk3⟩
          case measure => simp only [intOf]; omega
        · gi_wp2
          refine bodyPost_ret (results_none rfl _ _ _) rfl ?_
          exact ⟨⟨_, rfl⟩, .inr ⟨_, ⟨k, by omega, ho, rfl⟩, hJx3⟩⟩
      | false =>
        gi_wp2_with fail
        refine ⟨trivial, ?_⟩
        refine (callsIn_wide.2 (open_any t (a + k) A1 A2 c1 c2 wr (h1.below hwr) (h2.below hwr) hok (by omega) (by omega))).mono ?_
        rintro r w2 ⟨rfl, hb2⟩
        rw [ho]
        have hlt2 := hbx.lt
        have hws := hwr.size
        have kp2 : KpD w0.heap.size B wr w2 := KpD.of_below hb2 hws hlt2
        have hJ2 : J (dl t a k) w2 := hab _ _ _ none hJ ⟨hb2.os, hb2.tape, hb2.output, hb2.size, fun k hk _ => hb2.block k hk⟩ (by simp)
        have hbx2 := hbx.kp kp2
        gi_wp2_with fail
        refine ⟨fun _ h => (by cases h), ?_⟩
        gi_wp2
        go_roundw
        case rel => exact ⟨k + 1, by omega, by rw [Int.natCast_succ, ← Int.add_assoc], by rw [dl_no ho]; exact hJ2, hwr.trans kp2.below, hbx2⟩
        case measure => simp only [intOf]; omega
    · obtain rfl : k = (e - a).toNat := by omega
      gi_wp2
      go_end0
      exact ⟨⟨_, rfl⟩, .inl hJ⟩

/-- THE ITERATOR's CONTRACT: all the school days of the stretch, in order; or those up to one of them. -/
theorem days_stops (n : Nat) (hn : 1 ≤ n) (t : Tm) (a e : Int) (B : Nat) (A1 A2 : Option Addr) (c1 c2 : Nat) (w0 w : World) (h1 : RN w0 A1 t.rest) (h2 : RN w0 A2 t.clo) (hok : TmOk t) (h0a : 0 ≤ a) (hae : a ≤ e) (he : e ≤ 1000)
    (hw : Below w0.heap.size w0 w) (hb : ItBox t A1 A2 c1 c2 a e B w) :
    SeqStopsK Fence.wide n Try.prog 77 #[.pointer (some ⟨B + 1, 0, none⟩), .pointer (some ⟨B + 2, 0, none⟩), .pointer (some ⟨B, 0, none⟩)] (fun x : Int => #[Value.int .i64 x]) (KpD w0.heap.size B)
      (fun ys => ys = dl t a (e - a).toNat) (fun pre => ∃ k, k < (e - a).toNat ∧ opB t (a + (k : Nat)) = true ∧ pre = dl t a k ++ [a + k]) (e - a).toNat w := fun l J Jx W hW hJ _ hY h0 =>
  days1_in n l hn t a e B A1 A2 c1 c2 w0 W h1 h2 hok h0a hae he J Jx hJ hY (hw.trans (hW.mono hw.size)) (hb.kp (n₀ := 0) (KpD.of_below hW (Nat.zero_le _) hb.lt)) h0

set_option maxRecDepth 100000 in
set_option maxHeartbeats 400000 in
theorem daysIt_any (t : Tm) (a e : Int) (A1 A2 : Option Addr) (c1 c2 : Nat) (w : World) :
    Calls Try.prog 61 #[.agg #[.int .i64 t.len, .slice A1 t.rest.length c1, .slice A2 t.clo.length c2], .int .i64 a, .int .i64 e] w fun r w' =>
      r = .returned (.func (.func 77) #[] #[.pointer (some ⟨w.heap.size + 1, 0, none⟩), .pointer (some ⟨w.heap.size + 2, 0, none⟩), .pointer (some ⟨w.heap.size, 0, none⟩)]) ∧ Below w.heap.size w w' ∧ ItBox t A1 A2 c1 c2 a e w.heap.size w' := by
  go_enter Try.func61, Try.ntmps61
  go_wp2
  go_ret
  refine ⟨rfl, ?_, ?_⟩
  · exact (((Below.refl _ w).alloc (Nat.le_refl _) _).alloc (by simp) _).alloc (by simp; omega) _
  · constructor <;> simp [go_sem, World.cell?_alloc_at, World.cell?_alloc_lt]
end Go.Proofs.Ytecjmpaomebdbaa
