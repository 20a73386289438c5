import Derived.Test.YtiapkffihpgdcaaGreatDoorPk4
import Derived.Deep.RegionWith
/-
  The walk of the law TermTurns.
-/
namespace Go.Proofs.YtiapkffihpgdcaaGreatDoor
set_option linter.unusedVariables false
set_option linter.unusedSimpArgs false
open Go.RowKit

/-! ### boxes -/
/-- Block g holds just the cells cs, and can be written. -/
structure Box (w : World) (g : Nat) (cs : Array Value) : Prop where
  lt : g < w.heap.size
  cell : ∀ j, w.cell? ⟨g, j, none⟩ = cs[j]?
  free : ∀ j, w.frozen? ⟨g, j, none⟩ = false
theorem Box.below {w w' : World} {g : Nat} {cs : Array Value} (h : Box w g cs) (hb : Below w.heap.size w w') : Box w' g cs :=
  ⟨Nat.lt_of_lt_of_le h.lt hb.size, fun j => (hb.cell (p := ⟨g, j, none⟩) h.lt).trans (h.cell j), fun j => (hb.frozen (p := ⟨g, j, none⟩) h.lt).trans (h.free j)⟩
theorem Box.new (w : World) (t : TypeId) (cs : Array Value) : Box (w.alloc (.cells cs t)) w.heap.size cs :=
  ⟨by simp, fun j => by simp [World.cell?_alloc_at], fun j => by simp [go_sem]⟩
theorem Box.alloc {w : World} {g : Nat} {cs : Array Value} (h : Box w g cs) (o : Obj) : Box (w.alloc o) g cs := h.below ((Below.refl _ _).alloc (Nat.le_refl _) _)
theorem Box.at' {w : World} {g g' : Nat} {cs : Array Value} (h : Box w g cs) (e : g = g') : Box w g' cs := e ▸ h

theorem neq_cycle (a b c a' b' c' : Int) (w : World) : (binOp .neq 26 (.agg #[.int .i64 a, .int .i64 b, .int .i64 c]) (.agg #[.int .i64 a', .int .i64 b', .int .i64 c'])).run Tryz.prog w = .ok (.bool (!(a == a' && (b == b' && c == c')))) w := by
  have hS : Tryz.prog.underlying 26 = some (.struct (Tryz.prog.fieldsOf 26)) := by kernel_rfl
  have hp : Tryz.prog.stoodInHeld 26 = false := by kernel_rfl
  have u3 := Tryz.underlying3
  have a3 := Tryz.isAgg3
  have z3 := Tryz.sizeOf3
  rw [run_neq_struct, show (10000 : Nat) = 9999 + 1 from rfl, run_equalIn_agg w 9999 26 _ _ hS hp]
  simp only [Program.fieldsOf, Tryz.underlying26]
  go_simp
  by_cases h1 : a = a'
  · by_cases h2 : b = b'
    · by_cases h3 : c = c' <;> simp [h1, h2, h3]
    · simp [h1, h2]
  · simp [h1]

/-! ### plain -/
theorem turn_ok {c : Cy} (hc : CyOk c) (b : Int) : CyOk (turnC c b) ∧ (turnC c b).n = c.n ∧ (turnC c b).f = (c.f + b % c.n) % c.n ∧ (turnC c b).k = c.k := by
  rw [turn_yes hc.to]
  have h1 := hc.n1
  exact ⟨⟨h1, hc.n2, Int.emod_nonneg _ (by omega), Int.emod_lt_of_pos _ (by omega), hc.k⟩, rfl, rfl, rfl⟩
theorem turn_st {t : Tm} {c : Cy} (hc : CyOk c) (b : Int) (d : Nat) : stB t (turnC c b) d = stB t c d := by unfold stB; rw [(turn_ok hc b).2.2.2]
theorem turn_mn {t : Tm} {c : Cy} (hc : CyOk c) (b : Int) (d : Nat) (ho : opB t d = true) : mnAt t (turnC c b) d = (mnAt t c d + b.tmod c.n + c.n) % c.n := by
  have h1 := hc.n1
  rw [mnAt_open ho, mnAt_open ho, (turn_ok hc b).2.1, (turn_ok hc b).2.2.1, cnt_congr _ (stB t c) d (fun i _ => turn_st hc b i), Int.emod_add_emod, Int.add_emod_right]
  obtain ⟨e1, _, _⟩ := tmod_cases b c.n h1
  have e2 : ∀ z : Int, (z + b.tmod c.n) % c.n = (z + b % c.n) % c.n := fun z => by
    rcases e1 with e | e <;> rw [e]
    rw [← Int.add_sub_assoc, Int.sub_emod, Int.emod_self]; simp
  rw [e2, Int.emod_add_emod]
  congr 1; omega
theorem turn_menuE {t : Tm} {c : Cy} (hc : CyOk c) (b d : Int) : menuE t (turnC c b) d = menuE t c d := by
  unfold menuE bE; rw [(turn_ok hc b).1.to, hc.to]
theorem turn_menuR {t : Tm} {c : Cy} (hc : CyOk c) (b d : Int) (h : menuE t c d = 0) : menuR t (turnC c b) d = (menuR t c d + b.tmod c.n + c.n) % c.n ∧ 0 ≤ menuR t c d ∧ menuR t c d < c.n := by
  have ho : opB t d.toNat = true := by
    unfold menuE at h
    by_cases h1 : bE t c = 0
    · rw [if_neg (by simp [h1])] at h
      cases hi : inB d 0 (t.len - 1) with
      | false => rw [hi] at h; cases h
      | true =>
        have hd := inB_true.1 hi
        have e : ((d.toNat : Nat) : Int) = d := by omega
        rw [e]
        cases ho : opB t d with
        | false => rw [hi, ho] at h; cases h
        | true => rfl
    · rw [if_pos h1] at h; exact absurd h h1
  rw [menuR_yes h, menuR_yes (by rw [turn_menuE hc]; exact h)]
  exact ⟨turn_mn hc b _ ho, (mnAt_nonneg hc _).2 ho, (mnAt_bd hc _).2⟩

theorem Box.drewN {w : World} {g : Nat} {cs : Array Value} (h : Box w g cs) (n : Nat) : Box (w.drewN n) g cs := ⟨h.lt, h.cell, h.free⟩
theorem Box.ne {w : World} {g : Nat} {cs : Array Value} (h : Box w g cs) : ¬ g = w.heap.size := Nat.ne_of_lt h.lt
theorem RN.drewN {w : World} {A : Option Addr} {l : List Int} (h : RN w A l) (n : Nat) : RN (w.drewN n) A l := h
theorem RN.alloc {w : World} {A : Option Addr} {l : List Int} (h : RN w A l) (o : Obj) : RN (w.alloc o) A l := h.below ((Below.refl _ _).alloc (Nat.le_refl _) _)
end Go.Proofs.YtiapkffihpgdcaaGreatDoor
/-
  Two cycles that run on meet on the days that remainders tell; the walk of the law TermMeets.
-/
namespace Go.Proofs.YtiapkffihpgdcaaGreatDoor
set_option linter.unusedVariables false
set_option linter.unusedSimpArgs false
open Go.RowKit

def allT : Tm := ⟨1000, [], []⟩
def runs (c : Cy) : Cy := ⟨c.n, c.f, 1⟩
def meetL (a b : Cy) (x y : Int) : List Ln := [⟨x - a.f, a.n⟩, ⟨y - b.f, b.n⟩]
theorem allT_op (d : Nat) : opB allT d = true := rfl
theorem allT_st (c : Cy) (d : Nat) : stB allT (runs c) d = true := rfl
theorem allT_cnt (c : Cy) (d : Nat) : cnt (stB allT (runs c)) d = d := by
  induction d with
  | zero => rfl
  | succ d ih => rw [cnt_yes _ _ (allT_st c d), ih]
theorem allT_mn (c : Cy) (d : Nat) : mnAt allT (runs c) d = (c.f + d) % c.n := by
  rw [mnAt_open (allT_op d), allT_cnt]; rfl
theorem rem_iff {n f x : Int} (d : Nat) (h0 : 0 ≤ x) (h1 : x < n) : (f + (d : Int)) % n = x ↔ (d : Int) % n = (x - f) % n := by
  constructor
  · intro h
    rw [← h, Int.emod_sub_emod]
    congr 1; omega
  · intro h
    rw [← Int.add_emod_emod, h, Int.add_emod_emod, show f + (x - f) = x by omega, Int.emod_eq_of_lt h0 h1]
theorem togE_ok {t : Tm} {a b : Cy} {x y : Int} (h : togE t a b x y = 0) : TmOk t ∧ CyOk a ∧ CyOk b ∧ 0 ≤ x ∧ x < a.n ∧ 0 ≤ y ∧ y < b.n := by
  unfold togE at h
  by_cases h1 : bE t a = 0
  · rw [if_neg (by simp [h1])] at h
    by_cases h2 : cE b = 0
    · rw [if_neg (by simp [h2])] at h
      cases i1 : inB x 0 (a.n - 1) with
      | false => rw [i1] at h; cases h
      | true =>
        cases i2 : inB y 0 (b.n - 1) with
        | false => rw [i1, i2] at h; cases h
        | true =>
          obtain ⟨k1, k2⟩ := bE_ok h1
          have j1 := inB_true.1 i1
          have j2 := inB_true.1 i2
          exact ⟨k1, k2, CyOk.of h2, by omega, by omega, by omega, by omega⟩
    · rw [if_pos h2] at h; exact absurd h h2
  · rw [if_pos h1] at h; exact absurd h h1
section
variable {a b : Cy} {x y : Int}
theorem meet_has (hE : togE allT (runs a) (runs b) x y = 0) (d : Nat) : meetB allT (runs a) (runs b) x y d = true ↔ Has (meetL a b x y) 2 d := by
  obtain ⟨-, ca, cb, x0, x1, y0, y1⟩ := togE_ok hE
  have na : 1 ≤ a.n := ca.n1
  have nb : 1 ≤ b.n := cb.n1
  have ea : (d % mN (meetL a b x y) 0 = rN (meetL a b x y) 0) ↔ (d : Int) % a.n = (x - a.f) % a.n := by
    show d % a.n.toNat = ((x - a.f) % a.n).toNat ↔ _
    have h1 := Int.emod_nonneg (x - a.f) (show a.n ≠ 0 by omega)
    have h2 := Int.emod_nonneg (d : Int) (show a.n ≠ 0 by omega)
    have h3 : (((d % a.n.toNat : Nat)) : Int) = (d : Int) % a.n := by rw [Int.natCast_emod, Int.toNat_of_nonneg (by omega)]
    omega
  have eb : (d % mN (meetL a b x y) 1 = rN (meetL a b x y) 1) ↔ (d : Int) % b.n = (y - b.f) % b.n := by
    show d % b.n.toNat = ((y - b.f) % b.n).toNat ↔ _
    have h1 := Int.emod_nonneg (y - b.f) (show b.n ≠ 0 by omega)
    have h2 := Int.emod_nonneg (d : Int) (show b.n ≠ 0 by omega)
    have h3 : (((d % b.n.toNat : Nat)) : Int) = (d : Int) % b.n := by rw [Int.natCast_emod, Int.toNat_of_nonneg (by omega)]
    omega
  unfold meetB
  rw [allT_mn, allT_mn, Bool.and_eq_true, beq_iff_eq, beq_iff_eq, rem_iff d x0 (show x < a.n from x1), rem_iff d y0 (show y < b.n from y1), ← ea, ← eb]
  constructor
  · rintro ⟨h1, h2⟩ i hi
    match i, hi with
    | 0, _ => exact h1
    | 1, _ => exact h2
  · intro h; exact ⟨h 0 (by omega), h 1 (by omega)⟩
theorem meet_slvE (hE : togE allT (runs a) (runs b) x y = 0) : slvE (meetL a b x y) = 0 := by
  obtain ⟨-, ca, cb, x0, x1, y0, y1⟩ := togE_ok hE
  have na : 1 ≤ a.n := ca.n1
  have nb : 1 ≤ b.n := cb.n1
  have na2 : a.n ≤ 40 := ca.n2
  have nb2 : b.n ≤ 40 := cb.n2
  refine slvE_of (by show ¬ 6 < 2; omega) ?_ ?_
  · refine (lnTo_iff _ _).2 fun i hi => ?_
    match i, hi with
    | 0, _ => exact inB_true.2 (show 1 ≤ a.n ∧ a.n ≤ 100000 by omega)
    | 1, _ => exact inB_true.2 (show 1 ≤ b.n ∧ b.n ≤ 100000 by omega)
    | i + 2, hi => exact absurd hi (by show ¬ i + 2 < 2; omega)
  · show ¬ 1099511627776 < ((1 : Nat).lcm a.n.toNat).lcm b.n.toNat
    rw [Nat.lcm_one_left]
    have : a.n.toNat.lcm b.n.toNat ≤ a.n.toNat * b.n.toNat := Nat.div_le_self _ _
    have : a.n.toNat * b.n.toNat ≤ 40 * 40 := Nat.mul_le_mul (by omega) (by omega)
    omega
theorem meet_law (hE : togE allT (runs a) (runs b) x y = 0) {s m : Int} {ok : Bool} (h : SRel (meetL a b x y) s m ok) :
    0 ≤ s ∧ togB allT (runs a) (runs b) x y = (ok && decide (s < 1000)) ∧ (togB allT (runs a) (runs b) x y = true → togR allT (runs a) (runs b) x y = s) := by
  have h2 : (meetL a b x y).length = 2 := rfl
  rcases firstTo_spec (meetB allT (runs a) (runs b) x y) 1000 with ⟨hn, hm⟩ | ⟨d, hs, hd, hp, hm⟩
  · obtain ⟨r1, r2⟩ := tog_none (t := allT) hn
    rw [r1, r2]
    rcases h with ⟨_, e2, ⟨z, hz, e3⟩, _⟩ | ⟨_, e2, e3, _⟩
    · refine ⟨by omega, ?_, by simp⟩
      have : ¬ s < 1000 := fun hlt => by
        have := hm z (by omega)
        rw [(meet_has hE z).2 (by rw [← h2]; exact hz.2)] at this; cases this
      rw [decide_eq_false this, Bool.and_false]
    · rw [e2]; exact ⟨by omega, rfl, by simp⟩
  · obtain ⟨r1, r2⟩ := tog_some (t := allT) hE hs
    rw [r1, r2]
    have hhas := (meet_has hE d).1 hp
    rcases h with ⟨e0, e2, ⟨z, hz, e3⟩, _⟩ | ⟨e1, _⟩
    · have hg := (slvE_ok e0).2.1
      have hzd : z = d % lcTo (meetL a b x y) 2 := hz.uniq (Sol.of_has hg (Nat.le_refl _) hhas)
      have hle : z ≤ d := by rw [hzd]; exact Nat.mod_le _ _
      have hge : ¬ z < d := fun hlt => by
        have := hm z hlt
        rw [(meet_has hE z).2 hz.2] at this; cases this
      have : z = d := by omega
      subst this
      rw [e2, e3]
      exact ⟨by omega, by rw [decide_eq_true (by omega)]; rfl, fun _ => rfl⟩
    · exact absurd hhas (e1 (meet_slvE hE) d)
end

end Go.Proofs.YtiapkffihpgdcaaGreatDoor
/-
  The walk of the law TermTogether.
-/
namespace Go.Proofs.YtiapkffihpgdcaaGreatDoor
set_option linter.unusedVariables false
set_option linter.unusedSimpArgs false
open Go.RowKit

def Three (w : World) (g : Nat) (c : Cy) : Prop := g < w.heap.size ∧ w.cell? ⟨g, 0, none⟩ = some (.int .i64 c.n) ∧ w.cell? ⟨g, 1, none⟩ = some (.int .i64 c.f) ∧ w.cell? ⟨g, 2, none⟩ = some (.int .i64 c.k)
theorem Three.of_box {w : World} {g : Nat} {c : Cy} (h : Box w g #[.int .i64 c.n, .int .i64 c.f, .int .i64 c.k]) : Three w g c := ⟨h.lt, by rw [h.cell]; rfl, by rw [h.cell]; rfl, by rw [h.cell]; rfl⟩
theorem Box.drew {w : World} {g : Nat} {cs : Array Value} (h : Box w g cs) : Box w.drew g cs := ⟨h.lt, h.cell, h.free⟩
theorem Three.below {w w' : World} {g : Nat} {c : Cy} (h : Three w g c) (hb : Below w.heap.size w w') : Three w' g c :=
  ⟨Nat.lt_of_lt_of_le h.1 hb.size, (hb.cell (p := ⟨g, 0, none⟩) h.1).trans h.2.1, (hb.cell (p := ⟨g, 1, none⟩) h.1).trans h.2.2.1, (hb.cell (p := ⟨g, 2, none⟩) h.1).trans h.2.2.2⟩

end Go.Proofs.YtiapkffihpgdcaaGreatDoor
/-
  Walks: the days of a menu, how often each menu is served, how many are lost.
-/
namespace Go.Proofs.YtiapkffihpgdcaaGreatDoor
set_option linter.unusedVariables false
set_option linter.unusedSimpArgs false
open Go.RowKit

/-! ### plain -/
def daysTo (t : Tm) (c : Cy) (m : Int) : Nat → List Int
  | 0 => []
  | k + 1 => if mnAt t c k == m then daysTo t c m k ++ [(k : Int)] else daysTo t c m k
theorem daysTo_yes {t : Tm} {c : Cy} {m : Int} {k : Nat} (h : (mnAt t c k == m) = true) : daysTo t c m (k + 1) = daysTo t c m k ++ [(k : Int)] := by simp only [daysTo]; rw [if_pos h]
theorem daysTo_no {t : Tm} {c : Cy} {m : Int} {k : Nat} (h : (mnAt t c k == m) = false) : daysTo t c m (k + 1) = daysTo t c m k := by simp only [daysTo]; rw [if_neg (by rw [h]; simp)]
theorem daysTo_len (t : Tm) (c : Cy) (m : Int) (k : Nat) : (daysTo t c m k).length = cnt (fun d => mnAt t c d == m) k := by
  induction k with
  | zero => rfl
  | succ k ih =>
    cases h : (mnAt t c k == m) with
    | true => rw [daysTo_yes h, cnt_yes _ _ h, List.length_append, ih]; rfl
    | false => rw [daysTo_no h, cnt_no _ _ h, ih]
theorem daysTo_le (t : Tm) (c : Cy) (m : Int) (k : Nat) : (daysTo t c m k).length ≤ k := by rw [daysTo_len]; exact cnt_le _ _
def daysE (t : Tm) (c : Cy) (m : Int) : Int := if bE t c ≠ 0 then bE t c else if inB m 0 (c.n - 1) then 0 else 1
def daysR (t : Tm) (c : Cy) (m : Int) : List Int := if daysE t c m = 0 then daysTo t c m t.len.toNat else []
def svTo (t : Tm) (c : Cy) (n k : Nat) : List Int := (List.range n).map fun (m : Nat) => ((cnt (fun d => mnAt t c d == (m : Int)) k : Nat) : Int)
theorem svTo_zero (t : Tm) (c : Cy) (n : Nat) : svTo t c n 0 = List.replicate n 0 := by
  rw [List.eq_replicate_iff]
  refine ⟨by simp [svTo], fun b hb => ?_⟩
  obtain ⟨d, _, rfl⟩ := List.mem_map.1 hb
  simp [cnt]
theorem svTo_length (t : Tm) (c : Cy) (n k : Nat) : (svTo t c n k).length = n := by simp [svTo]
theorem svTo_at (t : Tm) (c : Cy) (n k m : Nat) (h : m < n) : gi (svTo t c n k) m = ((cnt (fun d => mnAt t c d == (m : Int)) k : Nat) : Int) := by simp [gi, svTo, h]
theorem svTo_skip {t : Tm} {c : Cy} {n k : Nat} (h : mnAt t c k < 0) : svTo t c n (k + 1) = svTo t c n k := by
  unfold svTo
  apply List.map_congr_left
  intro m _
  rw [cnt_no _ _ (by rw [beq_eq_false_iff_ne]; omega)]
theorem svTo_more {t : Tm} {c : Cy} {n k m : Nat} (hm : m < n) (h : mnAt t c k = m) : (svTo t c n k).set m (((cnt (fun d => mnAt t c d == (m : Int)) k : Nat) : Int) + 1) = svTo t c n (k + 1) := by
  apply List.ext_getElem
  · simp [svTo]
  · intro j h1 h2
    have hj : j < n := by simpa [svTo] using h2
    rw [List.getElem_set]
    by_cases e : m = j
    · subst e
      rw [if_pos rfl]
      simp only [svTo, List.getElem_map, List.getElem_range]
      rw [cnt_yes _ _ (by rw [h]; simp)]; simp
    · rw [if_neg e]
      simp only [svTo, List.getElem_map, List.getElem_range]
      rw [cnt_no (fun d => mnAt t c d == (j : Int)) k (by simp only [h]; rw [beq_eq_false_iff_ne]; omega)]
def servedR (t : Tm) (c : Cy) : List Int := if bE t c = 0 then svTo t c c.n.toNat t.len.toNat else []
def lostP (t : Tm) (c : Cy) (i : Nat) : Bool := (c.k == 1) && wkB t (gi t.clo i)
def lostR (t : Tm) (c : Cy) : Int := if bE t c = 0 then (cnt (lostP t c) t.clo.length : Nat) else 0
theorem lost_waits {t : Tm} {c : Cy} (h : (c.k == 1) = false) (k : Nat) : cnt (lostP t c) k = 0 := by
  induction k with
  | zero => rfl
  | succ k ih => rw [cnt_no _ _ (by unfold lostP; rw [h]; rfl), ih]
def RetIn (w0 : World) (L : List Int) (er : Int) (e : Ending) (w' : World) : Prop :=
  ∃ A c, e = .returned (.tuple #[.slice A L.length c, .int .i64 er]) ∧ OwnN w' w0.heap.size A c L ∧ Below w0.heap.size w0 w'
theorem made_zero {w : World} {base g n : Nat} (h : w.ownsRow base 3 1 (.slice (some ⟨g, 0, none⟩) n n) n (madeCells (Value.int .i64 0).cells (n * 1)).toList) : OwnI w base g n (List.replicate n 0) :=
  ⟨List.length_replicate, by rw [← madeInts]; exact h⟩

set_option maxRecDepth 100000 in
set_option maxHeartbeats 3200000 in
theorem rdays_any (m : Int) (c : Cy) (t : Tm) (A1 A2 : Option Addr) (c1 c2 : Nat) (w : World) (h1 : RN w A1 t.rest) (h2 : RN w A2 t.clo) (hl1 : t.rest.length ≤ 1000000000) (hl2 : t.clo.length ≤ 1000000000) :
    Calls Tryz.prog 133 #[.agg #[.int .i64 t.len, .slice A1 t.rest.length c1, .slice A2 t.clo.length c2], .agg #[.int .i64 c.n, .int .i64 c.f, .int .i64 c.k], .int .i64 m] w (RetIn w (daysR t c m) (daysE t c m)) := by
  obtain ⟨E, hE⟩ : ∃ E, E = daysE t c m := ⟨_, rfl⟩
  obtain ⟨R, hR⟩ : ∃ R, R = daysR t c m := ⟨_, rfl⟩
  rw [← hE, ← hR]
  have HE := Lib.hid hE
  have HR := Lib.hid hR
  clear hE hR
  have hy : Below w.heap.size w ((w.alloc (.cells #[.int .i64 t.len, .slice A1 t.rest.length c1, .slice A2 t.clo.length c2] 24)).alloc (.cells #[.int .i64 c.n, .int .i64 c.f, .int .i64 c.k] 26)) := ((Below.refl _ _).alloc (Nat.le_refl _) _).alloc (by simp) _
  have b0 : Box ((w.alloc (.cells #[.int .i64 t.len, .slice A1 t.rest.length c1, .slice A2 t.clo.length c2] 24)).alloc (.cells #[.int .i64 c.n, .int .i64 c.f, .int .i64 c.k] 26)) w.heap.size #[.int .i64 t.len, .slice A1 t.rest.length c1, .slice A2 t.clo.length c2] := (Box.new w _ _).alloc _
  have b1 : Box ((w.alloc (.cells #[.int .i64 t.len, .slice A1 t.rest.length c1, .slice A2 t.clo.length c2] 24)).alloc (.cells #[.int .i64 c.n, .int .i64 c.f, .int .i64 c.k] 26)) (w.heap.size + 1) #[.int .i64 c.n, .int .i64 c.f, .int .i64 c.k] := (Box.new (w.alloc (.cells #[.int .i64 t.len, .slice A1 t.rest.length c1, .slice A2 t.clo.length c2] 24)) _ _).at' (by simp)
  replace h1 := h1.below hy
  replace h2 := h2.below hy
  go_enter Tryz.func133, Tryz.ntmps133
  go_wp2_with fail
  refine (rboth_any c t A1 A2 c1 c2 _ h1 h2 hl1 hl2).mono ?_
  rintro e w1 ⟨rfl, hb1⟩
  replace b0 := b0.below hb1; replace b1 := b1.below hb1; replace h1 := h1.below hb1; replace h2 := h2.below hb1; replace hy := hy.trans (hb1.mono hy.size)
  clear hb1
  by_cases h0 : bE t c = 0
  · have h0' : (bE t c != 0) = false := by simp [h0]
    obtain ⟨hok, hcy⟩ := bE_ok h0
    have hEm : E = if inB m 0 (c.n - 1) then 0 else 1 := by rw [HE.out, daysE, if_neg (by simp [h0])]
    have HEM := Lib.hid hEm
    have n1 := hcy.n1
    have n2 := hcy.n2
    have ln1 := hok.len1
    have ln2 := hok.len2
    clear h0 hEm
    cases hi : inB m 0 (c.n - 1) with
    | false =>
      have hEv : E = 1 := by rw [HEM.out, hi]; rfl
      have hRv : R = [] := by rw [HR.out, daysR, if_neg (by rw [← HE.out, hEv]; decide)]
      have H1 := Lib.hid hEv
      have H2 := Lib.hid hRv
      clear hEv hRv
      have xx0 := b0.cell; have nn0 := b0.lt; have xx1 := b1.cell; have nn1 := b1.lt
      go_wp2_with (go_at_call 194; refine (within_any _ _ _ _).mono ?_; rintro e w' ⟨rfl, hw'⟩; subst hw')
      clear xx0 nn0 xx1 nn1
      go_ret2
      exact ⟨none, 0, ret2 (by rw [H2.out]; rfl) (by rw [H1.out]; rfl), by rw [H2.out]; exact World.ownsRow_nil _ _ _ _, hy⟩
    | true =>
      have hEv : E = 0 := by rw [HEM.out, hi]; rfl
      have hRv : R = daysTo t c m t.len.toNat := by rw [HR.out, daysR, if_pos (by rw [← HE.out, hEv])]
      have H1 := Lib.hid hEv
      have H2 := Lib.hid hRv
      have hml := mnL_length t c
      have HML := Lib.hid hml
      clear hEv hRv hml
      have xx0 := b0.cell; have nn0 := b0.lt; have xx1 := b1.cell; have nn1 := b1.lt
      go_wp2_with (go_at_call 194; refine (within_any _ _ _ _).mono ?_; rintro e w' ⟨rfl, hw'⟩; have hw'' := hw'.symm; clear hw'; subst hw'')
      clear xx0 nn0 xx1 nn1
      refine (rmenusR_any t c A1 A2 c1 c2 _ h1 h2 hok hcy).mono ?_
      rintro e w2 ⟨Am, cm, rfl, hrn, hb2⟩
      replace hy := hy.trans (hb2.mono hy.size)
      have hz := hy.size
      clear b0 b1 h1 h2 hb2
      go_wp2
      go_loopw [9, 11] (fun o x wr => ∃ k : Nat, k ≤ (mnL t c).length ∧ x = .int .i64 k ∧ ∃ A c', o = .slice A (daysTo t c m k).length c' ∧ OwnN wr w2.heap.size A c' (daysTo t c m k) ∧ Below w2.heap.size w2 wr) (fun _ x _ => (mnL t c).length - (intOf x).toNat)
      case atStart => exact ⟨0, by omega, rfl, none, 0, rfl, World.ownsRow_nil _ _ _ _, Below.refl _ _⟩
      case round =>
        obtain ⟨k, hk, rfl, A, c', rfl, own, hbl⟩ := hrel
        by_cases hlt : k < (mnL t c).length
        · have hq := HML.out
          obtain ⟨ad, rfl, hab, e0⟩ := (hrn.below hbl).at_ hlt
          rw [mnL_at t c k (by omega)] at e0
          have hll := daysTo_le t c m k
          have hkb : k < 1000 := by omega
          have hbs := hbl.size
          clear hq
          cases hq : (mnAt t c k == m) with
          | true =>
            have hs := daysTo_yes hq
            have HS := Lib.hid hs
            clear hs
            go_wp2_with (at_builtin; refine wpList_app1 rfl _ _ rfl Tryz.underlying22 info_int rfl (by omega) rfl own rfl rfl (by simp [Value.oneCell']) (by omega) (by omega) (by omega) ?_; intro A' c'' w3 own3 hb3)
            go_roundw
            case rel => exact ⟨k + 1, by omega, by go_num, A', c'', by rw [HS.out, List.length_append]; rfl, OwnN.snoc own3 rfl HS.out, hbl.trans (hb3 _ (Nat.le_refl _))⟩
            case measure => simp [intOf]; omega
          | false =>
            have hs := daysTo_no hq
            have HS := Lib.hid hs
            clear hs
            go_wp2
            go_roundw
            case rel => exact ⟨k + 1, by omega, by go_num, A, c', by rw [HS.out], by rw [HS.out]; exact own, hbl⟩
            case measure => simp [intOf]; omega
        · have hkl : k = t.len.toNat := by have := HML.out; omega
          have HKL := Lib.hid hkl
          clear hkl
          go_wp2
          go_ret2
          exact ⟨A, c', ret2 (by rw [H2.out, ← HKL.out]; rfl) (by rw [H1.out]; rfl), by rw [H2.out, ← HKL.out]; exact own_base own hz, hy.trans (hbl.mono hz)⟩
  · have h0' : (bE t c != 0) = true := by simp [h0]
    have hEv : E = bE t c := by rw [HE.out, daysE, if_pos h0]
    have hRv : R = [] := by rw [HR.out, daysR, if_neg (by rw [← HE.out, hEv]; exact h0)]
    have H1 := Lib.hid hEv
    have H2 := Lib.hid hRv
    clear hEv hRv h0
    go_wp2
    go_ret2
    exact ⟨none, 0, ret2 (by rw [H2.out]; rfl) (by rw [H1.out]; rfl), by rw [H2.out]; exact World.ownsRow_nil _ _ _ _, hy⟩


end Go.Proofs.YtiapkffihpgdcaaGreatDoor
/-
  Walks: how often each menu is served, how many are lost.
-/
namespace Go.Proofs.YtiapkffihpgdcaaGreatDoor
set_option linter.unusedVariables false
set_option linter.unusedSimpArgs false
open Go.RowKit

theorem menusB_any (t : Tm) (c : Cy) (A1 A2 : Option Addr) (c1 c2 : Nat) (w : World) (h1 : RN w A1 t.rest) (h2 : RN w A2 t.clo) (hok : TmOk t) (hcy : CyOk c) :
    Calls Tryz.prog 127 #[.agg #[.int .i64 t.len, .slice A1 t.rest.length c1, .slice A2 t.clo.length c2], .agg #[.int .i64 c.n, .int .i64 c.f, .int .i64 c.k]] w fun e w' => ∃ A c', e = .returned (.slice A (mnL t c).length c') ∧ RN w' A (mnL t c) ∧ (∀ ad, A = some ad → w.heap.size ≤ ad.block) ∧ Below w.heap.size w w' :=
  (menus_any t c A1 A2 c1 c2 w h1 h2 hok hcy).mono fun e w' ⟨g, n, he, own, hb⟩ => ⟨some ⟨g, 0, none⟩, n, by rw [own.1]; exact he, RN.of_own own.own, (fun ad e => by injection e with e; subst e; exact own.lt.1), hb⟩
theorem rmenusB_any (t : Tm) (c : Cy) (A1 A2 : Option Addr) (c1 c2 : Nat) (w : World) (h1 : RN w A1 t.rest) (h2 : RN w A2 t.clo) (hok : TmOk t) (hcy : CyOk c) :
    Calls Tryz.prog 200 #[.agg #[.int .i64 t.len, .slice A1 t.rest.length c1, .slice A2 t.clo.length c2], .agg #[.int .i64 c.n, .int .i64 c.f, .int .i64 c.k]] w fun e w' => ∃ A c', e = .returned (.slice A (mnL t c).length c') ∧ RN w' A (mnL t c) ∧ (∀ ad, A = some ad → w.heap.size ≤ ad.block) ∧ Below w.heap.size w w' :=
  (rmenus_any t c A1 A2 c1 c2 w h1 h2 hok hcy).mono fun e w' ⟨A, n, c', he, hn, own, hb⟩ => ⟨A, c', by rw [← hn]; exact he, RN.of_own own, (fun ad e => by
    subst e
    rcases own.2 with ⟨h, _⟩ | ⟨g, cap, cur, h, hbg, _⟩
    · injection h with h; cases h
    · injection h with h; injection h with h; subst h; exact hbg), hb⟩
theorem RN.far {w : World} {A : Option Addr} {l : List Int} (h : RN w A l) {p : Addr} (hp : ∀ ad, A = some ad → ad.block ≠ p.block) (v : Value) : RN (w.setCell p v) A l := by
  refine ⟨h.1, fun hn => ?_⟩
  obtain ⟨ad, e, hb, hc⟩ := h.2 hn
  refine ⟨ad, e, by simpa [World.setCell] using hb, fun j u hu => ?_⟩
  rw [World.cell?_setCell_other _ _ _ _ (fun e2 => hp ad e (by rw [← block_of_add ad j, ← e2]))]
  exact hc j u hu

end Go.Proofs.YtiapkffihpgdcaaGreatDoor
/-
  Walks: how many menus are lost; equal lists.
-/
namespace Go.Proofs.YtiapkffihpgdcaaGreatDoor
set_option linter.unusedVariables false
set_option linter.unusedSimpArgs false
open Go.RowKit

set_option maxHeartbeats 800000 in
theorem sameInts_any (l m : List Int) (A A' : Option Addr) (c c' : Nat) (w : World) (hl : RN w A l) (hm : RN w A' m) (hb : l.length ≤ 1000000000) (hb' : m.length ≤ 1000000000) :
    Calls Tryz.prog 107 #[.slice A l.length c, .slice A' m.length c'] w fun e w' => e = .returned (.bool (decide (l = m))) ∧ Below w.heap.size w w' := by
  by_cases hlen : l.length = m.length
  · have hlen' : ((l.length : Int) != (m.length : Int)) = false := by simp [hlen]
    have HL := Lib.hid hlen; clear hlen
    go_enter Tryz.func107, Tryz.ntmps107
    go_wp2
    go_loopw [5] (fun x wr => ∃ k : Nat, k ≤ l.length ∧ x = .int .i64 k ∧ eqIn l m k ∧ Below w.heap.size w wr) (fun x _ => l.length - (intOf x).toNat)
    case atStart => exact ⟨0, by omega, rfl, fun i hi => by omega, Below.refl _ _⟩
    case round =>
      obtain ⟨k, hk, rfl, he, hbl⟩ := hrel
      by_cases hlt : k < l.length
      · have hlt' : k < m.length := by rw [← HL.out]; exact hlt
        obtain ⟨ad, rfl, hab, c0⟩ := (hl.below hbl).at_ hlt
        obtain ⟨ad', rfl, hab', d0⟩ := (hm.below hbl).at_ hlt'
        cases hq : (gi l k != gi m k) with
        | true =>
          have hne : gi l k ≠ gi m k := by simpa using hq
          have HNE := Lib.hid hne; clear hne
          go_wp2_with fail
          go_quiet (fail)
          go_wp2
          go_ret
          exact ⟨ret_bool (by symm; rw [decide_eq_false_iff_not]; intro e; exact HNE.out (by rw [e])), below_drewN hbl _⟩
        | false =>
          have heq : gi l k = gi m k := by simpa using hq
          have HEQ := Lib.hid heq; clear heq
          go_wp2_with fail
          go_quiet (fail)
          go_wp2
          go_roundw
          case rel => exact ⟨k + 1, by omega, by go_num, fun i hi => by
            by_cases e : i = k
            · subst e; exact HEQ.out
            · exact he i (by omega), below_drewN hbl _⟩
          case measure => simp [intOf]; omega
      · obtain rfl : k = l.length := by omega
        go_wp2
        go_ret
        exact ⟨ret_bool (by symm; rw [decide_eq_true_eq]; exact eqIn_all HL.out he), hbl⟩
  · have hlen' : ((l.length : Int) != (m.length : Int)) = true := by simp; omega
    have HL := Lib.hid hlen; clear hlen
    go_enter Tryz.func107, Tryz.ntmps107
    go_wp2
    go_ret
    exact ⟨ret_bool (by symm; rw [decide_eq_false_iff_not]; intro e; exact HL.out (by rw [e])), Below.refl _ _⟩


theorem RN.drew {w : World} {A : Option Addr} {l : List Int} (h : RN w A l) : RN w.drew A l := h

end Go.Proofs.YtiapkffihpgdcaaGreatDoor
/-
  Walks: copies of a term, and whether two are the same.
-/
namespace Go.Proofs.YtiapkffihpgdcaaGreatDoor
set_option linter.unusedVariables false
set_option linter.unusedSimpArgs false
open Go.RowKit

theorem take_gi {l : List Int} {k : Nat} (h : k < l.length) : l.take (k + 1) = l.take k ++ [gi l k] := by
  rw [List.take_add_one]; simp [gi, h]

set_option maxRecDepth 100000 in
set_option maxHeartbeats 1000000 in
theorem copyInts_any (l : List Int) (A : Option Addr) (c : Nat) (w : World) (hl : RN w A l) (hb : l.length ≤ 1000000) :
    Calls Tryz.prog 197 #[.slice A l.length c] w fun e w' => ∃ A' c', e = .returned (.slice A' l.length c') ∧ OwnN w' w.heap.size A' c' l ∧ Below w.heap.size w w' := by
  go_enter Tryz.func197, Tryz.ntmps197
  go_wp2
  go_loopw [3, 4] (fun o x wr => ∃ k : Nat, k ≤ l.length ∧ x = .int .i64 k ∧ ∃ A' c', o = .slice A' (l.take k).length c' ∧ OwnN wr w.heap.size A' c' (l.take k) ∧ Below w.heap.size w wr) (fun _ x _ => l.length - (intOf x).toNat)
  case atStart => exact ⟨0, by omega, rfl, none, 0, rfl, World.ownsRow_nil _ _ _ _, Below.refl _ _⟩
  case round =>
    obtain ⟨k, hk, rfl, A', c', rfl, own, hy⟩ := hrel
    have hll : (l.take k).length = k := by rw [List.length_take]; omega
    by_cases hlt : k < l.length
    · obtain ⟨ad, rfl, hab, e0⟩ := (hl.below hy).at_ hlt
      have hs := take_gi hlt
      have HS := Lib.hid hs
      have hbs := hy.size
      clear hs
      go_wp2_with (at_builtin; refine wpList_app1 rfl _ _ rfl Tryz.underlying22 info_int rfl (by omega) rfl own rfl rfl (by simp [Value.oneCell']) (by omega) (by omega) (by omega) ?_; intro A'' c'' w3 own3 hb3)
      go_roundw
      case rel => exact ⟨k + 1, by omega, by go_num, A'', c'', by rw [HS.out, List.length_append, hll]; rfl, OwnN.snoc own3 rfl (by rw [HS.out]), hy.trans (hb3 _ (Nat.le_refl _))⟩
      case measure => simp [intOf]; omega
    · have hkl : k = l.length := by omega
      subst hkl
      rw [List.take_length] at own ⊢
      go_wp2
      go_ret
      exact ⟨A', c', rfl, own, hy⟩

set_option maxRecDepth 100000 in
set_option maxHeartbeats 1000000 in
theorem copy_any (t : Tm) (A1 A2 : Option Addr) (c1 c2 : Nat) (w : World) (h1 : RN w A1 t.rest) (h2 : RN w A2 t.clo) (hl1 : t.rest.length ≤ 1000000) (hl2 : t.clo.length ≤ 1000000) :
    Calls Tryz.prog 131 #[.agg #[.int .i64 t.len, .slice A1 t.rest.length c1, .slice A2 t.clo.length c2]] w fun e w' => ∃ A c A' c', e = .returned (.agg #[.int .i64 t.len, .slice A t.rest.length c, .slice A' t.clo.length c']) ∧ OwnN w' w.heap.size A c t.rest ∧ OwnN w' w.heap.size A' c' t.clo ∧ Below w.heap.size w w' := by
  obtain ⟨w2, hw2⟩ : ∃ w2, ((w.alloc (.cells #[.int .i64 t.len, .slice A1 t.rest.length c1, .slice A2 t.clo.length c2] 24)).alloc (.cells #[.int .i64 0, .slice none 0 0, .slice none 0 0] 24)) = w2 := ⟨_, rfl⟩
  have hy : Below w.heap.size w w2 := by rw [← hw2]; exact ((Below.refl _ w).alloc (Nat.le_refl _) _).alloc (by simp) _
  have b0 : Box w2 w.heap.size #[.int .i64 t.len, .slice A1 t.rest.length c1, .slice A2 t.clo.length c2] := by rw [← hw2]; exact (Box.new w _ _).alloc _
  have b1 : Box w2 (w.heap.size + 1) #[.int .i64 0, .slice none 0 0, .slice none 0 0] := by rw [← hw2]; exact (Box.new (w.alloc (.cells #[.int .i64 t.len, .slice A1 t.rest.length c1, .slice A2 t.clo.length c2] 24)) _ _).at' (by simp)
  have r1 := h1.below hy
  have r2 := h2.below hy
  have d1 : RN w2.drew A1 t.rest := r1
  have d2 : RN w2.drew A2 t.clo := r2
  have x0 := b0.cell 0; have x1 := b0.cell 1; have x2 := b0.cell 2
  have f0 := b1.free 0; have f1 := b1.free 1; have f2 := b1.free 2
  have b0d := b0.drewN 1
  have b1d := b1.drewN 1
  simp only [List.getElem?_toArray, List.getElem?_cons_zero, List.getElem?_cons_succ] at x0 x1 x2
  have hsz : w.heap.size + 1 < w2.heap.size := b1.lt
  go_enter Tryz.func131, Tryz.ntmps131
  go_wp2_with fail
  go_cut [11] (fun s wx => ∃ A c A' c', wx.cell? ⟨w.heap.size + 1, 0, none⟩ = some (.int .i64 t.len) ∧ wx.cell? ⟨w.heap.size + 1, 1, none⟩ = some (.slice A t.rest.length c) ∧ wx.cell? ⟨w.heap.size + 1, 2, none⟩ = some (.slice A' t.clo.length c') ∧ OwnN wx w2.heap.size A c t.rest ∧ OwnN wx w2.heap.size A' c' t.clo ∧ Below w.heap.size w wx)
  case first =>
    go_region_held3 (fun w' => w'.cell? ⟨w.heap.size, 0, none⟩ = some (.int .i64 t.len) ∧ w'.cell? ⟨w.heap.size, 1, none⟩ = some (.slice A1 t.rest.length c1) ∧ w'.cell? ⟨w.heap.size, 2, none⟩ = some (.slice A2 t.clo.length c2) ∧ w'.frozen? ⟨w.heap.size + 1, 0, none⟩ = false ∧ w'.frozen? ⟨w.heap.size + 1, 1, none⟩ = false ∧ w'.frozen? ⟨w.heap.size + 1, 2, none⟩ = false)
      (first | go_keep | (go_split_ands; refine ⟨?_, ?_, ?_, ?_, ?_, ?_⟩ <;> ((first | rw [hbB.cell (by first | omega | (simp; omega))] | rw [hbB.frozen (by first | omega | (simp; omega))]); go_keep)) | (go_split_ands; refine ⟨?_, ?_, ?_, ?_, ?_, ?_⟩ <;> ((first | rw [hbA.cell (by first | omega | (simp; omega))] | rw [hbA.frozen (by first | omega | (simp; omega))]); go_keep)) | (go_split_ands; refine ⟨?_, ?_, ?_, ?_, ?_, ?_⟩ <;> simp [*, go_sem]))
      (first | (go_at_call 197; (with_reducible refine (copyInts_any t.rest A1 c1 _ d1 (by omega)).mono ?_); rintro e wA ⟨AA, cA, rfl, ownA, hbA⟩; have hsA : w2.heap.size ≤ wA.heap.size := hbA.size) | (go_at_call 197; (with_reducible refine (copyInts_any t.clo A2 c2 _ (d2.below hbA) (by omega)).mono ?_); rintro e wB ⟨AB, cB, rfl, ownB, hbB⟩; have hsB : wA.heap.size ≤ wB.heap.size := hbB.size; have z0B : wB.cell? ⟨w.heap.size + 1, 0, none⟩ = some (.int .i64 0) := (((b1d.below hbA).below hbB).cell 0).trans rfl; have z1B : wB.cell? ⟨w.heap.size + 1, 1, none⟩ = some (.slice none 0 0) := (((b1d.below hbA).below hbB).cell 1).trans rfl; have z2B : wB.cell? ⟨w.heap.size + 1, 2, none⟩ = some (.slice none 0 0) := (((b1d.below hbA).below hbB).cell 2).trans rfl))
    · go_wp2_with fail
      go_meet
      have hz : Below w.heap.size w wB := hy.trans ((((Below.refl w2.heap.size w2).drew.trans hbA).trans (hbB.mono hsA)).mono hy.size)
      have hz3 := ((hz.setCell (p := ⟨w.heap.size + 1, 0, none⟩) (by show w.heap.size ≤ w.heap.size + 1; omega) (.int .i64 t.len)).setCell (p := ⟨w.heap.size + 1, 1, none⟩) (by show w.heap.size ≤ w.heap.size + 1; omega) (.slice AA t.rest.length cA)).setCell (p := ⟨w.heap.size + 1, 2, none⟩) (by show w.heap.size ≤ w.heap.size + 1; omega) (.slice AB t.clo.length cB)
      refine ⟨AA, cA, AB, cB, ?_, ?_, ?_, ?_, ?_, hz3⟩
      · rw [World.cell?_setCell_other _ _ _ _ (by simp), World.cell?_setCell_other _ _ _ _ (by simp), World.cell?_setCell_same' _ _ _ (by rw [z0B]; rfl)]
      · rw [World.cell?_setCell_other _ _ _ _ (by simp), World.cell?_setCell_same' _ _ _ (by rw [World.cell?_setCell_other _ _ _ _ (by simp), z1B]; rfl)]
      · rw [World.cell?_setCell_same' _ _ _ (by rw [World.cell?_setCell_other _ _ _ _ (by simp), World.cell?_setCell_other _ _ _ _ (by simp), z2B]; rfl)]
      · exact ownsRow_setCell_below (ownsRow_setCell_below (ownsRow_setCell_below (ownA.kept hbB) hsz _) hsz _) hsz _
      · exact own_base (ownsRow_setCell_below (ownsRow_setCell_below (ownsRow_setCell_below ownB (show w.heap.size + 1 < wA.heap.size by omega) _) (show w.heap.size + 1 < wA.heap.size by omega) _) (show w.heap.size + 1 < wA.heap.size by omega) _) hsA
  case rest =>
    obtain ⟨A, c, A', c', q0, q1, q2, own1, own2, hb⟩ := hcut
    go_wp2_with fail
    refine bodyPost_ret (v := .agg #[.int .i64 t.len, .slice A t.rest.length c, .slice A' t.clo.length c']) (by simp [results, Tryz.results131, go_sem, q0, q1, q2]) rfl ?_
    exact ⟨A, c, A', c', rfl, own_base own1 (by omega), own_base own2 (by omega), hb⟩
end Go.Proofs.YtiapkffihpgdcaaGreatDoor
/-
  Walks: whether two terms are the same.
-/
namespace Go.Proofs.YtiapkffihpgdcaaGreatDoor
set_option linter.unusedVariables false
set_option linter.unusedSimpArgs false
open Go.RowKit

def sameB (s t : Tm) : Bool := s.len == t.len && (decide (s.rest = t.rest) && decide (s.clo = t.clo))
theorem sameB_refl (t : Tm) : sameB t t = true := by simp [sameB]

end Go.Proofs.YtiapkffihpgdcaaGreatDoor
/-
  Plain: a solution has all remainders; any number has a solution of its own remainders.
-/
namespace Go.Proofs.YtiapkffihpgdcaaGreatDoor
set_option linter.unusedVariables false
set_option linter.unusedSimpArgs false
open Go.RowKit

theorem tmod_same {x r M : Int} (h : x % M = r % M) : (x - r.tmod M).tmod M = 0 := by
  have h1 : M ∣ x - r := Int.dvd_of_emod_eq_zero (Int.emod_eq_emod_iff_emod_sub_eq_zero.1 h)
  have h2 : x - r.tmod M = (x - r) + M * r.tdiv M := by have := Int.mul_tdiv_add_tmod r M; omega
  rw [h2]
  exact Int.tmod_eq_zero_of_dvd (Int.dvd_add h1 (Int.dvd_mul_right _ _))
theorem sol_all {l : List Ln} {a m : Int} (h : slvE l = 0) (hs : SRel l a m true) : 0 ≤ a ∧ a < m ∧ m ≤ 1099511627776 ∧ ∀ i, i < l.length → 1 ≤ (gl l i).m ∧ (gl l i).m ≤ 100000 ∧ m.tmod (gl l i).m = 0 ∧ (a - (gl l i).r.tmod (gl l i).m).tmod (gl l i).m = 0 := by
  obtain ⟨_, hg, hb⟩ := slvE_ok h
  rcases hs with ⟨_, _, ⟨x, hx, rfl⟩, rfl⟩ | hs
  · refine ⟨by omega, by have := hx.1; omega, by omega, fun i hi => ?_⟩
    obtain ⟨g1, g2, g3, g4, g5⟩ := hg i hi
    refine ⟨by omega, by omega, ?_, ?_⟩
    · rw [g3]
      exact Int.tmod_eq_zero_of_dvd (Int.natCast_dvd_natCast.2 (lc_dvd l i l.length hi))
    · apply tmod_same
      have := hx.2 i hi
      rw [← g5, ← this, g3]
      simp
  · cases hs.2.1
/-- the lines with all remainders of one number -/
def setR (l : List Ln) (n : Int) : List Ln := l.map fun x => ⟨n, x.m⟩
theorem setR_len (l : List Ln) (n : Int) : (setR l n).length = l.length := by simp [setR]
theorem setR_at (l : List Ln) (n : Int) {i : Nat} (hi : i < l.length) : gl (setR l n) i = ⟨n, (gl l i).m⟩ := by simp [gl, setR, hi]
theorem setR_lnTo (l : List Ln) (n : Int) : ∀ k, k ≤ l.length → lnTo (setR l n) k = lnTo l k
  | 0, _ => rfl
  | k + 1, h => by simp only [lnTo]; rw [setR_lnTo l n k (by omega), setR_at l n (by omega)]
theorem setR_lc (l : List Ln) (n : Int) : ∀ k, k ≤ l.length → lcTo (setR l n) k = lcTo l k
  | 0, _ => rfl
  | k + 1, h => by simp only [lcTo, mN]; rw [setR_lc l n k (by omega), setR_at l n (by omega)]
theorem setR_slvE (l : List Ln) (n : Int) : slvE (setR l n) = slvE l := by
  unfold slvE; rw [setR_len, setR_lnTo l n _ (Nat.le_refl _), setR_lc l n _ (Nat.le_refl _)]
theorem set_all {l : List Ln} {n b m : Int} {ok : Bool} (h : slvE l = 0) (hs : SRel (setR l n) b m ok) : ok = true ∧ 0 < m ∧ 0 ≤ b ∧ b < m ∧ m ≤ 1099511627776 ∧ (n.tmod m - b).tmod m = 0 := by
  have h' : slvE (setR l n) = 0 := by rw [setR_slvE]; exact h
  obtain ⟨_, hg, hb⟩ := slvE_ok h'
  have hp := lc_pos hg _ (Nat.le_refl _)
  obtain ⟨L, hL⟩ : ∃ L, lcTo (setR l n) (setR l n).length = L := ⟨_, rfl⟩
  have hH : Has (setR l n) (setR l n).length (n % (L : Int)).toNat := by
    intro i hi
    obtain ⟨g1, g2, g3, g4, g5⟩ := hg i hi
    have hd : ((mN (setR l n) i : Nat) : Int) ∣ (L : Int) := by rw [← hL]; exact Int.natCast_dvd_natCast.2 (lc_dvd _ i _ hi)
    have hr : (gl (setR l n) i).r = n := by rw [setR_at l n (by rw [setR_len] at hi; exact hi)]
    have h0 : 0 ≤ n % (L : Int) := Int.emod_nonneg _ (by omega)
    have e1 : (((n % (L : Int)).toNat % mN (setR l n) i : Nat) : Int) = n % (mN (setR l n) i : Nat) := by
      rw [Int.natCast_emod, Int.toNat_of_nonneg h0, Int.emod_emod_of_dvd _ hd]
    have e2 : ((rN (setR l n) i : Nat) : Int) = n % (mN (setR l n) i : Nat) := by rw [g5, hr, g3]
    omega
  rcases hs with ⟨_, rfl, ⟨x, hx, rfl⟩, rfl⟩ | hs
  · have hu : x = (n % (L : Int)).toNat % L := by
      have := Sol.of_has hg (Nat.le_refl _) hH
      rw [hL] at this
      exact hx.uniq this
    have hlt := hx.1
    rw [hL] at hlt hp hb ⊢
    have h0 : 0 ≤ n % (L : Int) := Int.emod_nonneg _ (by omega)
    have h1 : n % (L : Int) < L := Int.emod_lt_of_pos _ (by omega)
    have hx2 : (x : Int) = n % (L : Int) := by
      rw [hu, Nat.mod_eq_of_lt (by omega)]; omega
    refine ⟨rfl, by omega, by omega, by omega, by omega, ?_⟩
    have h3 : (n.tmod (L : Int) - (x : Int)) = -((x : Int) - n.tmod L) := by omega
    have h4 : ((x : Int) - n.tmod L).tmod L = 0 := tmod_same (by rw [hx2, Int.emod_emod_of_dvd _ (Int.dvd_refl _)])
    rw [h3, Int.neg_tmod, h4]; rfl
  · exact absurd hH (hs.1 h' _)
end Go.Proofs.YtiapkffihpgdcaaGreatDoor
