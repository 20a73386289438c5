/-
  Walks: the menus of all days.
-/
import Derived.Test.YtlnmmkgeahlohaaDoorC
namespace Go.Proofs.YtlnmmkgeahlohaaDoor
set_option linter.unusedVariables false
set_option linter.unusedSimpArgs false
open Go.RowKit

def mnR (t : Tm) (c : Cy) (k : Nat) : List Int := (List.range k).map (mnAt t c)
theorem mnR_length (t : Tm) (c : Cy) (k : Nat) : (mnR t c k).length = k := by simp [mnR]
theorem mnR_succ (t : Tm) (c : Cy) (k : Nat) : mnR t c (k + 1) = mnR t c k ++ [mnAt t c k] := by simp [mnR, List.range_succ]
theorem mnR_full (t : Tm) (c : Cy) : mnR t c t.len.toNat = mnL t c := rfl
theorem next_modN {f n : Int} (s : Nat) (hn : 1 ≤ n) : ((f + (s : Nat)) % n + 1) % n = (f + ((s + 1 : Nat) : Int)) % n := by
  rw [next_mod hn]; congr 1
theorem mnTo_open {t : Tm} {c : Cy} {n k : Nat} (h : k < n) (ho : opB t k = true) (u : Int) (hu : u = (c.f + cnt (stB t c) k) % c.n) : ((mnTo t c n k).set k (-1)).set k u = mnTo t c n (k + 1) := by
  rw [set_twice, hu, ← mnAt_open ho, mnTo_set t c n k h]
theorem mnTo_shut {t : Tm} {c : Cy} {n k : Nat} (h : k < n) (ho : opB t k = false) : (mnTo t c n k).set k (-1) = mnTo t c n (k + 1) := by
  rw [← mnAt_shut (c := c) ho, mnTo_set t c n k h]
theorem OwnI.cast {w : World} {base g n : Nat} {xs ys : List Int} (h : OwnI w base g n xs) (e : xs = ys) : OwnI w base g n ys := e ▸ h
theorem OwnI.base {w : World} {base base' g n : Nat} {xs : List Int} (h : OwnI w base g n xs) (hb : base' ≤ base) : OwnI w base' g n xs := ⟨h.1, own_base h.2 hb⟩
theorem made_own {t : Tm} {c : Cy} {w : World} {base g n : Nat} (h : w.ownsRow base 3 1 (.slice (some ⟨g, 0, none⟩) n n) n (madeCells (Value.int .i64 0).cells (n * 1)).toList) : OwnI w base g n (mnTo t c n 0) := by
  rw [mnTo_zero]; exact ⟨List.length_replicate, by rw [← madeInts]; exact h⟩
theorem OwnI.own {w : World} {base g n : Nat} {xs : List Int} (h : OwnI w base g n xs) : OwnN w base (some ⟨g, 0, none⟩) n xs := by
  unfold OwnN; rw [h.1]; exact h.2

set_option maxRecDepth 100000 in
set_option maxHeartbeats 3200000 in
theorem menus_any (t : Tm) (c : Cy) (A1 A2 : Option Addr) (c1 c2 : Nat) (w : World) (h1 : RN w A1 t.rest) (h2 : RN w A2 t.clo) (hok : TmOk t) (hcy : CyOk c) :
    Calls Tryd.prog 27 #[.agg #[.int .i64 t.len, .slice A1 t.rest.length c1, .slice A2 t.clo.length c2], .agg #[.int .i64 c.n, .int .i64 c.f, .int .i64 c.k]] w fun e w' => ∃ g n, e = .returned (.slice (some ⟨g, 0, none⟩) n n) ∧ OwnI w' w.heap.size g n (mnL t c) ∧ Below w.heap.size w w' := by
  obtain ⟨i0, hi, hz0, hz1, hz2⟩ := info_parts info_int
  obtain ⟨n, hn⟩ : ∃ n : Nat, t.len = n := ⟨t.len.toNat, by have := hok.len1; omega⟩
  have hn1 := hok.len1
  have hn2 := hok.len2
  have hnb : n ≤ 1000 := by omega
  have hfn : t.len.toNat = n := by omega
  have HFN := Lib.hid hfn
  have HN := Lib.hid hn
  clear hn hfn
  obtain ⟨m1, m2, f0, f1, -⟩ := id hcy
  have hx0 : Below (w.heap.size + 2) ((w.alloc (.cells #[.int .i64 t.len, .slice A1 t.rest.length c1, .slice A2 t.clo.length c2] 24)).alloc (.cells #[.int .i64 c.n, .int .i64 c.f, .int .i64 c.k] 37)) ((w.alloc (.cells #[.int .i64 t.len, .slice A1 t.rest.length c1, .slice A2 t.clo.length c2] 24)).alloc (.cells #[.int .i64 c.n, .int .i64 c.f, .int .i64 c.k] 37)) := Below.refl _ _
  obtain ⟨bx, bY, _, hb0⟩ := two_blk hx0 (by omega)
  clear bx bY
  go_enter Tryd.func27, Tryd.ntmps27
  go_wp2_with (at_make; refine wpList_make_full _ rfl _ _ 22 rfl (w.heap.size + 2) 3 i0 _ 1 Tryd.underlying22 hi hz0 hz1 .i64 .i64 _ _ n rfl rfl HN.out HN.out (by rw [hz2]; omega) (by unfold maxLen; omega) (by simp) ?_; intro w1 hown1 hg1; have hx1 : Below (w.heap.size + 2) ((w.alloc (.cells #[.int .i64 t.len, .slice A1 t.rest.length c1, .slice A2 t.clo.length c2] 24)).alloc (.cells #[.int .i64 c.n, .int .i64 c.f, .int .i64 c.k] 37)) w1 := hx0.grown hg1 (by simp) (by simp); have own1 : OwnI w1 (w.heap.size + 2) (w.heap.size + 2) n (mnTo t c n 0) := (by simpa using made_own (t := t) (c := c) hown1); clear hown1 hg1 hx0; obtain ⟨bx, bY, _, hb1⟩ := two_blk hx1 (by omega))
  go_loopw [6, 15] (fun a x wr => ∃ k : Nat, k ≤ n ∧ x = .int .i64 k ∧ a = .int .i64 (c.f + cnt (stB t c) k) ∧ OwnI wr (w.heap.size + 2) (w.heap.size + 2) n (mnTo t c n k) ∧ Below (w.heap.size + 2) ((w.alloc (.cells #[.int .i64 t.len, .slice A1 t.rest.length c1, .slice A2 t.clo.length c2] 24)).alloc (.cells #[.int .i64 c.n, .int .i64 c.f, .int .i64 c.k] 37)) wr) (fun _ x _ => n - (intOf x).toNat)
  case atStart => exact ⟨0, by omega, rfl, by simp [cnt], own1, hx1⟩
  case round =>
    clear own1 hx1 bx bY hb1
    obtain ⟨k, hk, rfl, rfl, own, hx⟩ := hrel
    by_cases hlt : k < n
    · have e1 := own.cell k hlt
      have e2 := own.frozen k
      have hcb := cnt_le (stB t c) k
      obtain ⟨bx, bY, _, hb⟩ := two_blk hx (by omega)
      go_wp2_with fail
      have own2 := own.stored k (-1)
      have hx2 := hx.setCell (p := ⟨w.heap.size + 2, k, none⟩) (Nat.le_refl _) (.int .i64 (-1))
      clear own e1 e2 bx bY hb hx
      obtain ⟨bx, bY, _, hb⟩ := two_blk hx2 (by omega)
      refine (open_any t k A1 A2 c1 c2 _ (h1.below hb) (h2.below hb) hok (by omega) (by omega)).mono ?_
      rintro e w3 ⟨rfl, hb3⟩
      have own3 := own2.kept hb3 own2.lt.2
      have hx3 := two_step hx2 hb3
      clear own2 hx2 hb3 bx bY hb
      obtain ⟨bx, bY, _, hb⟩ := two_blk hx3 (by omega)
      cases ho : opB t k with
      | true =>
        have hcy1 := cnt_yes (stB t c) k (by simp [stB, ho])
        have HC := Lib.hid hcy1
        have e1 := own3.cell k hlt
        have e2 := own3.frozen k
        clear hcy1
        go_wp2_with fail
        have own4 := (own3.stored k ((c.f + cnt (stB t c) k) % c.n)).cast (mnTo_open hlt ho _ rfl)
        have hx4 := hx3.setCell (p := ⟨w.heap.size + 2, k, none⟩) (Nat.le_refl _) (.int .i64 ((c.f + cnt (stB t c) k) % c.n))
        clear own3 e1 e2 bx bY hb hx3
        obtain ⟨bx, bY, _, hb⟩ := two_blk hx4 (by omega)
        refine (open_any t k A1 A2 c1 c2 _ (h1.below hb) (h2.below hb) hok (by omega) (by omega)).mono ?_
        rintro e w5 ⟨rfl, hb5⟩
        have own5 := own4.kept hb5 own4.lt.2
        have hx5 := two_step hx4 hb5
        clear own4 hx4 hb5 bx bY hb
        rw [ho]
        obtain ⟨bx, bY, _, hb⟩ := two_blk hx5 (by omega)
        go_wp2
        go_roundw
        case rel => exact ⟨k + 1, by omega, by go_num, by rw [HC.out]; go_num, own5, hx5⟩
        case measure => simp [intOf]; omega
      | false =>
        have own4 := own3.cast (mnTo_shut hlt ho)
        clear own3
        go_wp2_with fail
        refine (open_any t k A1 A2 c1 c2 _ (h1.below hb) (h2.below hb) hok (by omega) (by omega)).mono ?_
        rintro e w5 ⟨rfl, hb5⟩
        have own5 := own4.kept hb5 own4.lt.2
        have hx5 := two_step hx3 hb5
        clear own4 hx3 hb5 bx bY hb
        rw [ho]
        obtain ⟨bx, bY, _, hb⟩ := two_blk hx5 (by omega)
        cases hk1 : (c.k == 1) with
        | false =>
          have hcn := cnt_no (stB t c) k (by simp only [stB, ho, hk1]; rfl)
          have HC := Lib.hid hcn
          clear hcn
          go_wp2
          go_roundw
          case rel => exact ⟨k + 1, by omega, by go_num, by rw [HC.out], own5, hx5⟩
          case measure => simp [intOf]; omega
        | true =>
          go_wp2_with fail
          refine (weekday_any t k A1 A2 c1 c2 _ (h1.below hb) (h2.below hb) hok (by omega) (by omega)).mono ?_
          rintro e w6 ⟨rfl, hb6⟩
          have own6 := own5.kept hb6 own5.lt.2
          have hx6 := two_step hx5 hb6
          clear own5 hx5 hb6 bx bY hb
          obtain ⟨bx, bY, _, hb⟩ := two_blk hx6 (by omega)
          cases hw : wkB t k with
          | false =>
            have hcn := cnt_no (stB t c) k (by simp only [stB, ho, hw, hk1]; rfl)
            have HC := Lib.hid hcn
            clear hcn
            go_wp2
            go_roundw
            case rel => exact ⟨k + 1, by omega, by go_num, by rw [HC.out], own6, hx6⟩
            case measure => simp [intOf]; omega
          | true =>
            have hcn := cnt_yes (stB t c) k (by simp only [stB, ho, hw, hk1]; rfl)
            have HC := Lib.hid hcn
            clear hcn
            go_wp2
            go_roundw
            case rel => exact ⟨k + 1, by omega, by go_num, by rw [HC.out]; go_num, own6, hx6⟩
            case measure => simp [intOf]; omega
    · obtain ⟨bx, bY, _, hb⟩ := two_blk hx (by omega)
      have hkn : n = k := by omega
      have HKN := Lib.hid hkn
      clear hkn
      go_wp2
      go_ret
      exact ⟨w.heap.size + 2, n, rfl, (own.base (by omega)).cast (by rw [← HKN.out]; exact mnTo_full t c n HFN.out.symm), hb⟩

end Go.Proofs.YtlnmmkgeahlohaaDoor
