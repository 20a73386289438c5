/-
  Walks: the days of a menu, how often each menu is served, how many are lost.
-/
import Derived.Test.YtlnmmkgeahlohaaDoorN
namespace Go.Proofs.YtlnmmkgeahlohaaDoor
set_option linter.unusedVariables false
set_option linter.unusedSimpArgs false
open Go.RowKit

/-! ### plain -/
def daysTo (t : Tm) (c : Cy) (m : Int) : Nat → List Int
  | 0 => []
  | k + 1 => if mnAt t c k == m then daysTo t c m k ++ [(k : Int)] else daysTo t c m k
theorem daysTo_yes {t : Tm} {c : Cy} {m : Int} {k : Nat} (h : (mnAt t c k == m) = true) : daysTo t c m (k + 1) = daysTo t c m k ++ [(k : Int)] := by simp only [daysTo]; rw [if_pos h]
theorem daysTo_no {t : Tm} {c : Cy} {m : Int} {k : Nat} (h : (mnAt t c k == m) = false) : daysTo t c m (k + 1) = daysTo t c m k := by simp only [daysTo]; rw [if_neg (by rw [h]; simp)]
theorem daysTo_len (t : Tm) (c : Cy) (m : Int) (k : Nat) : (daysTo t c m k).length = cnt (fun d => mnAt t c d == m) k := by
  induction k with
  | zero => rfl
  | succ k ih =>
    cases h : (mnAt t c k == m) with
    | true => rw [daysTo_yes h, cnt_yes _ _ h, List.length_append, ih]; rfl
    | false => rw [daysTo_no h, cnt_no _ _ h, ih]
theorem daysTo_le (t : Tm) (c : Cy) (m : Int) (k : Nat) : (daysTo t c m k).length ≤ k := by rw [daysTo_len]; exact cnt_le _ _
def daysE (t : Tm) (c : Cy) (m : Int) : Int := if bE t c ≠ 0 then bE t c else if inB m 0 (c.n - 1) then 0 else 1
def daysR (t : Tm) (c : Cy) (m : Int) : List Int := if daysE t c m = 0 then daysTo t c m t.len.toNat else []
def svTo (t : Tm) (c : Cy) (n k : Nat) : List Int := (List.range n).map fun (m : Nat) => ((cnt (fun d => mnAt t c d == (m : Int)) k : Nat) : Int)
theorem svTo_zero (t : Tm) (c : Cy) (n : Nat) : svTo t c n 0 = List.replicate n 0 := by
  rw [List.eq_replicate_iff]
  refine ⟨by simp [svTo], fun b hb => ?_⟩
  obtain ⟨d, _, rfl⟩ := List.mem_map.1 hb
  simp [cnt]
theorem svTo_length (t : Tm) (c : Cy) (n k : Nat) : (svTo t c n k).length = n := by simp [svTo]
theorem svTo_at (t : Tm) (c : Cy) (n k m : Nat) (h : m < n) : gi (svTo t c n k) m = ((cnt (fun d => mnAt t c d == (m : Int)) k : Nat) : Int) := by simp [gi, svTo, h]
theorem svTo_skip {t : Tm} {c : Cy} {n k : Nat} (h : mnAt t c k < 0) : svTo t c n (k + 1) = svTo t c n k := by
  unfold svTo
  apply List.map_congr_left
  intro m _
  rw [cnt_no _ _ (by rw [beq_eq_false_iff_ne]; omega)]
theorem svTo_more {t : Tm} {c : Cy} {n k m : Nat} (hm : m < n) (h : mnAt t c k = m) : (svTo t c n k).set m (((cnt (fun d => mnAt t c d == (m : Int)) k : Nat) : Int) + 1) = svTo t c n (k + 1) := by
  apply List.ext_getElem
  · simp [svTo]
  · intro j h1 h2
    have hj : j < n := by simpa [svTo] using h2
    rw [List.getElem_set]
    by_cases e : m = j
    · subst e
      rw [if_pos rfl]
      simp only [svTo, List.getElem_map, List.getElem_range]
      rw [cnt_yes _ _ (by rw [h]; simp)]; simp
    · rw [if_neg e]
      simp only [svTo, List.getElem_map, List.getElem_range]
      rw [cnt_no (fun d => mnAt t c d == (j : Int)) k (by simp only [h]; rw [beq_eq_false_iff_ne]; omega)]
def servedR (t : Tm) (c : Cy) : List Int := if bE t c = 0 then svTo t c c.n.toNat t.len.toNat else []
def lostP (t : Tm) (c : Cy) (i : Nat) : Bool := (c.k == 1) && wkB t (gi t.clo i)
def lostR (t : Tm) (c : Cy) : Int := if bE t c = 0 then (cnt (lostP t c) t.clo.length : Nat) else 0
theorem lost_waits {t : Tm} {c : Cy} (h : (c.k == 1) = false) (k : Nat) : cnt (lostP t c) k = 0 := by
  induction k with
  | zero => rfl
  | succ k ih => rw [cnt_no _ _ (by unfold lostP; rw [h]; rfl), ih]
def RetIn (w0 : World) (L : List Int) (er : Int) (e : Ending) (w' : World) : Prop :=
  ∃ A c, e = .returned (.tuple #[.slice A L.length c, .int .i64 er]) ∧ OwnN w' w0.heap.size A c L ∧ Below w0.heap.size w0 w'
theorem made_zero {w : World} {base g n : Nat} (h : w.ownsRow base 3 1 (.slice (some ⟨g, 0, none⟩) n n) n (madeCells (Value.int .i64 0).cells (n * 1)).toList) : OwnI w base g n (List.replicate n 0) :=
  ⟨List.length_replicate, by rw [← madeInts]; exact h⟩

end Go.Proofs.YtlnmmkgeahlohaaDoor
