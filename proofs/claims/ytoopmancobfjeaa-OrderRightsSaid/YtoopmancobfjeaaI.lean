/-
  Walks: the children with a meal, how many there are.
-/
import Derived.Test.YtoopmancobfjeaaH
namespace Go.Proofs.Ytoopmancobfjeaa
set_option linter.unusedVariables false
set_option linter.unusedSimpArgs false
open Go.RowKit

/-! ### plain -/
def sumN (f : Nat → Nat) : Nat → Nat
  | 0 => 0
  | k + 1 => sumN f k + f k
theorem sumN_congr (f g : Nat → Nat) (n : Nat) (h : ∀ i, i < n → f i = g i) : sumN f n = sumN g n := by
  induction n with
  | zero => rfl
  | succ n ih => simp only [sumN]; rw [ih fun i hi => h i (by omega), h n (by omega)]
theorem sumN_add (f g : Nat → Nat) (n : Nat) : sumN (fun i => f i + g i) n = sumN f n + sumN g n := by
  induction n with
  | zero => rfl
  | succ n ih => simp only [sumN]; omega
theorem sumN_zero (n : Nat) : sumN (fun _ => 0) n = 0 := by
  induction n with
  | zero => rfl
  | succ n ih => simp only [sumN]; omega
theorem sumN_le (f : Nat → Nat) (b n : Nat) (h : ∀ i, i < n → f i ≤ b) : sumN f n ≤ n * b := by
  induction n with
  | zero => simp [sumN]
  | succ n ih =>
    have h1 := ih fun i hi => h i (by omega)
    have h2 := h n (by omega)
    simp only [sumN]; rw [Nat.add_mul]; omega
theorem sumN_swap (h : Nat → Nat → Nat) (a b : Nat) : sumN (fun i => sumN (fun j => h i j) b) a = sumN (fun j => sumN (fun i => h i j) a) b := by
  induction a with
  | zero => simp only [sumN]; exact (sumN_zero b).symm
  | succ a ih => simp only [sumN]; rw [ih, ← sumN_add]
theorem sumN_split (f : Nat → Nat) (a b : Nat) : sumN f (a + b) = sumN f a + sumN (fun j => f (a + j)) b := by
  induction b with
  | zero => rfl
  | succ b ih => rw [← Nat.add_assoc]; simp only [sumN]; rw [ih]; omega

def hasM (l : List Fact) (t m : Int) (c d : Nat) : Bool := knw l t c d == m
def one (b : Bool) : Nat := if b then 1 else 0
theorem one_le (b : Bool) : one b ≤ 1 := by unfold one; split <;> omega
/-- The children who have the meal on the day, of the first k. -/
def chTo (l : List Fact) (t m : Int) (d : Nat) : Nat → List Int
  | 0 => []
  | k + 1 => if hasM l t m k d then chTo l t m d k ++ [(k : Int)] else chTo l t m d k
theorem chTo_yes (l : List Fact) (t m : Int) (d k : Nat) (h : hasM l t m k d = true) : chTo l t m d (k + 1) = chTo l t m d k ++ [(k : Int)] := by simp [chTo, h]
theorem chTo_no (l : List Fact) (t m : Int) (d k : Nat) (h : hasM l t m k d = false) : chTo l t m d (k + 1) = chTo l t m d k := by simp [chTo, h]
theorem chTo_len (l : List Fact) (t m : Int) (d k : Nat) : (chTo l t m d k).length = sumN (fun c => one (hasM l t m c d)) k := by
  induction k with
  | zero => rfl
  | succ k ih =>
    cases hq : hasM l t m k d with
    | true => simp [chTo, sumN, hq, ih, show one true = 1 from rfl]
    | false => simp [chTo, sumN, hq, ih, show one false = 0 from rfl]
theorem chTo_le (l : List Fact) (t m : Int) (d k : Nat) : (chTo l t m d k).length ≤ k := by
  rw [chTo_len]; have := sumN_le (fun c => one (hasM l t m c d)) 1 k (fun i _ => one_le _); omega
def rowN (l : List Fact) (t m : Int) (f c k : Nat) : Nat := sumN (fun j => one (hasM l t m c (f + j))) k
def countN (l : List Fact) (t m : Int) (f n : Nat) : Nat := sumN (fun c => rowN l t m f c n) 100
theorem rowN_le (l : List Fact) (t m : Int) (f c k : Nat) : rowN l t m f c k ≤ k := by
  have := sumN_le (fun j => one (hasM l t m c (f + j))) 1 k (fun i _ => one_le _); unfold rowN; omega
theorem countN_days (l : List Fact) (t m : Int) (f n : Nat) : sumN (fun j => (chTo l t m (f + j) 100).length) n = countN l t m f n := by
  unfold countN rowN
  rw [sumN_swap]
  exact sumN_congr _ _ _ fun j _ => chTo_len l t m (f + j) 100
theorem countN_split (l : List Fact) (t m : Int) (f a b : Nat) : countN l t m f (a + b) = countN l t m f a + countN l t m (f + a) b := by
  unfold countN
  rw [← sumN_add]
  refine sumN_congr _ _ _ fun c _ => ?_
  unfold rowN
  rw [sumN_split]
  congr 1
  refine sumN_congr _ _ _ fun j _ => ?_
  rw [Nat.add_assoc]

/-! ### memory -/
/-- The slice (A, c) of the call's own holds the numbers l. -/
def OwnN (w : World) (base : Nat) (A : Option Addr) (c : Nat) (l : List Int) : Prop := w.ownsRow base 3 1 (.slice A l.length c) l.length (ints l)
theorem OwnN.kept {w w' : World} {base c : Nat} {A : Option Addr} {l : List Int} (h : OwnN w base A c l) (hb : Below w.heap.size w w') : OwnN w' base A c l := own_below h hb fun k hk => (World.ownsRow.lt h k hk).2
theorem OwnN.snoc {w : World} {base c n : Nat} {A : Option Addr} {l l' : List Int} {x : Int} (h : w.ownsRow base 3 1 (.slice A (n + 1) c) (n + 1) (ints l ++ [.int .i64 x])) (hn : n = l.length) (hl : l' = l ++ [x]) : OwnN w base A c l' := by
  subst hn
  have e1 : (l ++ [x]).length = l.length + 1 := by simp
  have e2 : ints (l ++ [x]) = ints l ++ [.int .i64 x] := by simp [ints]
  rw [hl]
  unfold OwnN
  rw [e1, e2]
  exact h

set_option maxRecDepth 100000 in
set_option maxHeartbeats 800000 in
theorem rchildren_any (l : List Fact) (t m : Int) (d : Nat) (hl : l.length ≤ 1000000000) (A0 : Option Addr) (c0 B : Nat) (w : World) (hR : RF w B A0 l) :
    Calls Try.prog 68 #[.slice A0 l.length c0, .int .i64 t, .int .i64 (d : Nat), .int .i64 m] w fun e w' =>
      ∃ A c, e = .returned (.slice A (chTo l t m d 100).length c) ∧ OwnN w' w.heap.size A c (chTo l t m d 100) ∧ Below w.heap.size w w' := by
  go_enter Try.func68, Try.ntmps68
  go_wp2
  go_loopw [9, 10] (fun o x wr => ∃ k : Nat, k ≤ 100 ∧ x = .int .i64 k ∧ ∃ A c, o = .slice A (chTo l t m d k).length c ∧ OwnN wr w.heap.size A c (chTo l t m d k) ∧ Below w.heap.size w wr) (fun _ x _ => 100 - (intOf x).toNat)
  case atStart => exact ⟨0, by omega, rfl, none, 0, rfl, World.ownsRow_nil _ _ _ _, Below.refl _ _⟩
  case round =>
    obtain ⟨k, hk, rfl, A, c, rfl, own, hbl⟩ := hrel
    by_cases hlt : k < 100
    · have hll := chTo_le l t m d k
      have hbs := hbl.size
      cases hq : (knw l t k d == m) with
      | true =>
        have hs := chTo_yes l t m d k hq
        have HS := Lib.hid hs; clear hs
        go_wp2_with (first | (go_at_call 74; refine (rknown_any l _ _ _ hl A0 c0 B _ (hR.below hbl)).mono ?_; rintro e w' ⟨rfl, rfl⟩) | (at_builtin; refine wpList_app1 rfl _ _ rfl Try.underlying53 info_int rfl (by omega) rfl own rfl rfl (by simp [Value.oneCell']) (by omega) (by omega) (by omega) ?_; intro A' c' w2 own2 hb2))
        go_roundw
        case rel => exact ⟨k + 1, by omega, by go_num, A', c', by rw [HS.out, List.length_append]; rfl, OwnN.snoc own2 rfl HS.out, hbl.trans (hb2 _ (Nat.le_refl _))⟩
        case measure => simp [intOf]; omega
      | false =>
        have hs := chTo_no l t m d k hq
        have HS := Lib.hid hs; clear hs
        go_wp2_with (first | (go_at_call 74; refine (rknown_any l _ _ _ hl A0 c0 B _ (hR.below hbl)).mono ?_; rintro e w' ⟨rfl, rfl⟩))
        go_roundw
        case rel => exact ⟨k + 1, by omega, by go_num, A, c, by rw [HS.out], by rw [HS.out]; exact own, hbl⟩
        case measure => simp [intOf]; omega
    · obtain rfl : k = 100 := by omega
      go_wp2
      go_ret
      exact ⟨A, c, rfl, own, hbl⟩

end Go.Proofs.Ytoopmancobfjeaa
