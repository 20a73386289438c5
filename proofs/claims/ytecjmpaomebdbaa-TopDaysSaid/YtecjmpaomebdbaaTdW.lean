/-
  The walk of TopDays.
-/
import Derived.Test.YtecjmpaomebdbaaTdP
import Derived.Test.YtecjmpaomebdbaaAb
namespace Go.Proofs.Ytecjmpaomebdbaa
set_option linter.unusedVariables false
set_option linter.unusedSimpArgs false
open Go.RowKit

def wkT : Tm := ⟨7, [5, 6], []⟩
theorem wk_cN : cN wkT 0 7 = 5 := by decide
theorem wk_nE : nE wkT 0 7 = 0 := by decide
set_option maxRecDepth 100000 in
set_option maxHeartbeats 1000000 in
theorem weekly_any (w : World) : Calls Try.prog 22 #[] w fun e w' => ∃ g, e = .returned (.agg #[.int .i64 wkT.len, .slice (some ⟨g, 0, none⟩) wkT.rest.length 2, .slice none wkT.clo.length 0]) ∧ RN w' (some ⟨g, 0, none⟩) wkT.rest ∧ Below w.heap.size w w' := by
  go_enter Try.func22, Try.ntmps22
  go_wp2
  refine bodyPost_ret (v := .agg #[.int .i64 7, .slice (some ⟨w.heap.size + 1, 0, none⟩) 2 2, .slice none 0 0]) (by simp [results, Try.results22, go_sem]) rfl ?_
  refine ⟨w.heap.size + 1, rfl, ?_, ((Below.refl _ _).alloc (Nat.le_refl _) _).alloc (by simp) _⟩
  have := RN.lit (w := w.alloc (.cells #[.int .i64 7, .slice (some ⟨w.heap.size + 1, 0, none⟩) 2 2, .slice none 0 0] 24)) (n := w.heap.size + 2) [5, 6] #[.int .i64 5, .int .i64 6] rfl (Below.refl _ _) (by simp)
  simpa [wkT] using this

set_option maxRecDepth 100000 in
set_option maxHeartbeats 8000000 in
theorem topDays_any (t : Tm) (A1 A2 : Option Addr) (c1 c2 : Nat) (c : Cy) (day : Int) (w : World) (h1 : RN w A1 t.rest) (h2 : RN w A2 t.clo) :
    Calls Try.prog 4 #[.agg #[.int .i64 t.len, .slice A1 t.rest.length c1, .slice A2 t.clo.length c2], .agg #[.int .i64 c.n, .int .i64 c.f, .int .i64 c.k], .int .i64 day] w fun e w' => e = .returned (.bool true) ∧ Below w.heap.size w w' := by
  have hy : Below w.heap.size w ((w.alloc (.cells #[.int .i64 t.len, .slice A1 t.rest.length c1, .slice A2 t.clo.length c2] 24)).alloc (.cells #[.int .i64 c.n, .int .i64 c.f, .int .i64 c.k] 26)) := ((Below.refl _ _).alloc (Nat.le_refl _) _).alloc (by simp) _
  have b0 : Box ((w.alloc (.cells #[.int .i64 t.len, .slice A1 t.rest.length c1, .slice A2 t.clo.length c2] 24)).alloc (.cells #[.int .i64 c.n, .int .i64 c.f, .int .i64 c.k] 26)) w.heap.size #[.int .i64 t.len, .slice A1 t.rest.length c1, .slice A2 t.clo.length c2] := (Box.new w _ _).alloc _
  have b1 : Box ((w.alloc (.cells #[.int .i64 t.len, .slice A1 t.rest.length c1, .slice A2 t.clo.length c2] 24)).alloc (.cells #[.int .i64 c.n, .int .i64 c.f, .int .i64 c.k] 26)) (w.heap.size + 1) #[.int .i64 c.n, .int .i64 c.f, .int .i64 c.k] := (Box.new (w.alloc (.cells #[.int .i64 t.len, .slice A1 t.rest.length c1, .slice A2 t.clo.length c2] 24)) _ _).at' (by simp)
  replace h1 := h1.below hy
  replace h2 := h2.below hy
  obtain ⟨i0, hi0, hz0, hz1, hz2⟩ := info_parts info_int
  have HI0 := Lib.hid hi0; have HZ0 := Lib.hid hz0; have HZ1 := Lib.hid hz1; have HZ2 := Lib.hid hz2
  clear hi0 hz0 hz1 hz2
  go_enter Try.func4, Try.ntmps4
  go_wp2_with fail
  refine (weekly_any _).mono ?_
  rintro e w1 ⟨g, rfl, hrg, hb1⟩
  replace b0 := b0.below hb1; replace b1 := b1.below hb1; replace h1 := h1.below hb1; replace h2 := h2.below hb1; replace hy := hy.trans (hb1.mono hy.size)
  clear hb1
  have xx0 := b0.cell; have nn0 := b0.lt; have xx1 := b1.cell; have nn1 := b1.lt
  go_wp2_with fail
  clear xx0 nn0 xx1 nn1
  refine (count_any wkT 0 7 (some ⟨g, 0, none⟩) none 2 0 _ hrg ⟨rfl, fun h => absurd h (by simp [wkT])⟩ (by simp [wkT]) (by simp [wkT])).mono ?_
  rintro e w2 ⟨rfl, hb2⟩
  replace b0 := b0.below hb2; replace b1 := b1.below hb2; replace h1 := h1.below hb2; replace h2 := h2.below hb2; replace hy := hy.trans (hb2.mono hy.size)
  clear hb2
  rw [wk_cN, wk_nE]
  clear hrg
  have xx0 := b0.cell; have nn0 := b0.lt; have xx1 := b1.cell; have nn1 := b1.lt
  go_wp2_with fail
  clear xx0 nn0 xx1 nn1
  refine (long_any t A1 A2 c1 c2 _).mono ?_
  rintro e w3 ⟨rfl, hb3⟩
  replace b0 := b0.below hb3; replace b1 := b1.below hb3; replace h1 := h1.below hb3; replace h2 := h2.below hb3; replace hy := hy.trans (hb3.mono hy.size)
  clear hb3
  cases hlg : longB t with
  | true =>
    go_wp2
    go_ret
    exact ⟨rfl, hy⟩
  | false =>
    obtain ⟨l1, l2⟩ := longB_no hlg
    clear hlg
    have xx0 := b0.cell; have nn0 := b0.lt; have xx1 := b1.cell; have nn1 := b1.lt
    go_wp2_with fail
    clear xx0 nn0 xx1 nn1
    refine (tvalidate_any t A1 A2 c1 c2 _ h1 h2 (by omega) (by omega)).mono ?_
    rintro e w4 ⟨rfl, hb4⟩
    replace b0 := b0.below hb4; replace b1 := b1.below hb4; replace h1 := h1.below hb4; replace h2 := h2.below hb4; replace hy := hy.trans (hb4.mono hy.size)
    clear hb4
    by_cases hT : tE t = 0
    rotate_left
    · have hT1 : (tE t != 0) = true := by simp [hT]
      clear hT
      go_wp2
      go_ret
      exact ⟨rfl, hy⟩
    have hT1 : (tE t != 0) = false := by simp [hT]
    have xx0 := b0.cell; have nn0 := b0.lt; have xx1 := b1.cell; have nn1 := b1.lt
    go_wp2_with fail
    clear xx0 nn0 xx1 nn1
    refine (cvalidate_any c _).mono ?_
    rintro e w5 ⟨rfl, hb5⟩
    replace b0 := b0.below hb5; replace b1 := b1.below hb5; replace h1 := h1.below hb5; replace h2 := h2.below hb5; replace hy := hy.trans (hb5.mono hy.size)
    clear hb5
    by_cases hC : cE c = 0
    rotate_left
    · have hC1 : (cE c != 0) = true := by simp [hC]
      clear hC hT
      go_wp2
      go_ret
      exact ⟨rfl, hy⟩
    have hC1 : (cE c != 0) = false := by simp [hC]
    have hok := TmOk.of hT
    have hcy := CyOk.of hC
    clear hT hC
    have hn1 := hok.len1
    have hn2 := hok.len2
    obtain ⟨n, hn⟩ : ∃ n : Nat, t.len = n := ⟨t.len.toNat, by omega⟩
    have hnb : n ≤ 1000 := by omega
    have hfn : t.len.toNat = n := by omega
    have HFN := Lib.hid hfn
    have HN := Lib.hid hn
    clear hn hfn
    have hx0 := b0.cell; have hl0 := b0.lt; have hx1 := b1.cell; have hl1 := b1.lt
    go_wp2_with (at_make; refine wpList_make_full _ rfl _ _ 22 rfl w5.heap.size 3 i0 _ 1 Try.underlying22 HI0.out HZ0.out HZ1.out .i64 .i64 _ _ n rfl rfl HN.out HN.out (by rw [HZ2.out]; omega) (by unfold maxLen; omega) (Nat.le_refl _) ?_; intro w6 hown6 hg6)
    clear hx0 hl0 hx1 hl1
    have own6 : OwnI w6 w5.heap.size w5.heap.size n (flL n 0) := by rw [flL_zero]; exact made_zero hown6
    have hb6 : Below w5.heap.size w5 w6 := (Below.refl _ _).grown hg6 (Nat.le_refl _) (by simp)
    clear hown6 hg6
    have xx0 := (b0.below hb6).cell; have nn0 := (b0.below hb6).lt; have xx1 := (b1.below hb6).cell; have nn1 := (b1.below hb6).lt
    go_wp2
    clear xx0 nn0 xx1 nn1
    go_loopw [10] (fun x wr => ∃ k : Nat, k ≤ n ∧ x = .int .i64 k ∧ OwnI wr w5.heap.size w5.heap.size n (flL n k) ∧ Below w5.heap.size w5 wr) (fun x _ => n - (intOf x).toNat)
    case atStart => exact ⟨0, by omega, rfl, own6, hb6⟩
    case round =>
      clear own6 hb6
      obtain ⟨k, hk, rfl, own, hb⟩ := hrel
      by_cases hlt : k < n
      · have hlt' : (k : Int) < t.len := by rw [HN.out]; omega
        have e2 := own.frozen k
        have e1 := own.cell k hlt
        have own2 := (own.stored k (-1)).cast (flL_set n k)
        clear own
        have xx0 := (b0.below hb).cell; have nn0 := (b0.below hb).lt; have xx1 := (b1.below hb).cell; have nn1 := (b1.below hb).lt
        go_wp2
        go_roundw
        case rel => exact ⟨k + 1, by omega, by go_num, own2, hb.setCell (p := ⟨w5.heap.size, k, none⟩) (Nat.le_refl _) _⟩
        case measure => simp [intOf]; omega
      · have hlt' : ¬ (k : Int) < t.len := by rw [HN.out]; omega
        have hkn : n = k := by omega
        subst hkn
        have own2 := own.cast (flL_full (t := t) hcy n)
        clear own
        have xx0 := (b0.below hb).cell; have nn0 := (b0.below hb).lt; have xx1 := (b1.below hb).cell; have nn1 := (b1.below hb).lt
        go_wp2
        clear xx0 nn0 xx1 nn1 hlt hlt'
        go_loopw [11] (fun x wr => ∃ k : Nat, (k : Int) ≤ c.n ∧ x = .int .i64 k ∧ OwnI wr w5.heap.size w5.heap.size n (mkL t c k n 0) ∧ Below w5.heap.size w5 wr) (fun x _ => c.n.toNat - (intOf x).toNat)
        case atStart => exact ⟨0, by have := hcy.n1; omega, rfl, own2, hb⟩
        case round =>
          clear own2 hb
          obtain ⟨m, hm, rfl, own, hb⟩ := hrel
          have hn40 := hcy.n2
          by_cases hltm : (m : Int) < c.n
          · obtain ⟨q1, q2⟩ := days_ok hok hcy (m := (m : Int)) (by omega) hltm
            rw [HFN.out] at q2
            have xx0 := (b0.below hb).cell; have nn0 := (b0.below hb).lt; have xx1 := (b1.below hb).cell; have nn1 := (b1.below hb).lt
            go_wp2_with fail
            clear xx0 nn0 xx1 nn1
            refine (days_any m c t A1 A2 c1 c2 _ (h1.below hb) (h2.below hb) (by omega) (by omega)).mono ?_
            rintro e w7 ⟨AD, cD, rfl, ownD, hb7⟩
            rw [q1, q2]
            rw [q2] at ownD
            obtain ⟨D, hD⟩ : ∃ D, D = daysTo t c m n := ⟨_, rfl⟩
            rw [← hD] at ownD ⊢
            have HD := Lib.hid hD
            have hDl : D.length ≤ n := by rw [hD]; exact daysTo_le _ _ _ _
            clear hD q1 q2
            have hgl := own.lt.2
            have hfar : ∀ ad, AD = some ad → ad.block ≠ w5.heap.size := by
              intro ad had
              subst had
              have := World.ownsRow.lt ownD ad.block rfl
              omega
            have rD := RN.of_own ownD
            have own7 := own.kept hb7 hgl
            have hb8 := hb.trans (hb7.mono hb.size)
            clear ownD own hb hb7
            have xx0 := (b0.below hb8).cell; have nn0 := (b0.below hb8).lt; have xx1 := (b1.below hb8).cell; have nn1 := (b1.below hb8).lt
            go_wp2
            clear xx0 nn0 xx1 nn1
            go_loopw [14] (fun y wq => ∃ i : Nat, i ≤ D.length ∧ y = .int .i64 i ∧ OwnI wq w5.heap.size w5.heap.size n (mkL t c m n i) ∧ RN wq AD D ∧ Below w5.heap.size w5 wq) (fun y _ => D.length - (intOf y).toNat)
            case atStart => exact ⟨0, by omega, rfl, own7, rD, hb8⟩
            case round =>
              clear own7 rD hb8
              obtain ⟨i, hi, rfl, own, rD, hb⟩ := hrel
              by_cases hlti : i < D.length
              · have hlti2 : i < (daysTo t c m n).length := by rw [← HD.out]; exact hlti
                obtain ⟨d, hd, hgd, hmd⟩ := dT_at hlti2
                have hnew := mk_new hlti2 hgd hmd
                have hset := mkL_set hlti2 hgd hmd
                obtain ⟨ad, rfl, hab, e0⟩ := rD.at_ hlti
                rw [HD.out, hgd] at e0
                have e2 := own.frozen d
                have e1 := own.cell d hd
                rw [mkL_at _ _ _ _ _ _ hd, hnew] at e1
                have own2 : ∀ q, OwnI ((wr.drewN q).setCell ⟨w5.heap.size, d, none⟩ (.int .i64 m)) w5.heap.size w5.heap.size n (mkL t c m n (i + 1)) := fun q => by
                  have z : OwnI (wr.drewN q) w5.heap.size w5.heap.size n (mkL t c m n i) := own
                  have z2 := z.stored d m
                  rw [hset] at z2
                  exact z2
                have hdl : (d : Int) < t.len := by rw [HN.out]; omega
                have hd0 : decide ((d : Int) < 0) = false := by simp
                have hd1 : decide (t.len ≤ (d : Int)) = false := by simp; omega
                have hfr := hfar ad rfl
                clear hgd hmd hnew hset own
                have xx0 := (b0.below hb).cell; have nn0 := (b0.below hb).lt; have xx1 := (b1.below hb).cell; have nn1 := (b1.below hb).lt
                go_wp2_with fail
                go_quiet (fail)
                go_wp2
                go_roundw
                case rel => exact ⟨i + 1, by omega, by go_num, own2 _, (rD.drewN _).far hfar _, (below_drewN hb _).setCell (p := ⟨w5.heap.size, d, none⟩) (Nat.le_refl _) _⟩
                case measure => simp [intOf]; omega
              · have hil : D.length = i := by omega
                subst hil
                have own2 : OwnI wr w5.heap.size w5.heap.size n (mkL t c ((m + 1 : Nat) : Int) n 0) := own.cast (by rw [HD.out, mkL_next, Int.natCast_succ])
                clear own
                have xx0 := (b0.below hb).cell; have nn0 := (b0.below hb).lt; have xx1 := (b1.below hb).cell; have nn1 := (b1.below hb).lt
                go_wp2
                go_roundw
                case rel => exact ⟨m + 1, by omega, by go_num, own2, hb⟩
                case measure => simp [intOf]; omega
          · have hmn : (m : Int) = c.n := by omega
            have own2 := own.cast (by rw [hmn])
            clear own
            have xx0 := (b0.below hb).cell; have nn0 := (b0.below hb).lt; have xx1 := (b1.below hb).cell; have nn1 := (b1.below hb).lt
            go_wp2
            clear xx0 nn0 xx1 nn1 hltm hm hmn
            go_loopw [15, 16] (fun y x wr => ∃ k : Nat, k ≤ n ∧ x = .int .i64 k ∧ y = .int .i64 (dl t 0 k).length ∧ OwnI wr w5.heap.size w5.heap.size n (mkL t c c.n n 0) ∧ Below w5.heap.size w5 wr) (fun _ x _ => n - (intOf x).toNat)
            case atStart => exact ⟨0, by omega, rfl, rfl, own2, hb⟩
            case round =>
              clear own2 hb
              obtain ⟨k, hk, rfl, rfl, own, hb⟩ := hrel
              have hdk := dl_len t 0 k
              by_cases hlt : k < n
              · have hlt' : (k : Int) < t.len := by rw [HN.out]; omega
                have hq := qE_of hok (d := (k : Int)) (by omega) hlt'
                have hio := isOpR_yes hq
                cases ho : opB t k with
                  | true =>
                    rw [ho] at hio
                    obtain ⟨e1, e2⟩ := menu_open hok hcy hlt' ho
                    obtain ⟨e3, e4⟩ := nth_at hok hlt' ho
                    have e5 := (mnAt_nonneg hcy k).2 ho
                    have hv : decide (0 ≤ mnAt t c k) = true := by simp [e5]
                    have hdy : dl t 0 (k + 1) = dl t 0 k ++ [0 + (k : Int)] := dl_yes (by simpa using ho)
                    have hdy2 : (dl t 0 (k + 1)).length = (dl t 0 k).length + 1 := by rw [hdy]; simp
                    have hwt : (c.k == 0) = true → (mnAt t c k != (c.f + ((dl t 0 k).length : Int)) % c.n) = false := by
                      intro hk0
                      have h00 := mn_waits (t := t) (c := c) (by simpa using hk0) ho
                      rw [h00]; simp
                    have HDY := Lib.hid hdy2
                    clear hdy hdy2
                    have xx0 := (b0.below hb).cell; have nn0 := (b0.below hb).lt; have xx1 := (b1.below hb).cell; have nn1 := (b1.below hb).lt
                    go_wp2_with fail
                    clear xx0 nn0 xx1 nn1
                    refine (isOpen_any k t A1 A2 c1 c2 _ (h1.below hb) (h2.below hb) (by omega) (by omega)).mono ?_
                    rintro e w7 ⟨rfl, hb7⟩
                    rw [hio, hq]
                    have own7 := own.kept hb7 own.lt.2
                    have hb8 := hb.trans (hb7.mono hb.size)
                    clear own hb hb7
                    have xx0 := (b0.below hb8).cell; have nn0 := (b0.below hb8).lt; have xx1 := (b1.below hb8).cell; have nn1 := (b1.below hb8).lt
                    go_wp2_with fail
                    clear xx0 nn0 xx1 nn1
                    refine (menu_any c k t A1 A2 c1 c2 _ (h1.below hb8) (h2.below hb8) (by omega) (by omega)).mono ?_
                    rintro e w9 ⟨rfl, hb9⟩
                    rw [e1, e2]
                    have own9 := own7.kept hb9 own7.lt.2
                    have hb10 := hb8.trans (hb9.mono hb8.size)
                    clear own7 hb8 hb9
                    have z1 := own9.cell k hlt
                    rw [mkL_at _ _ _ _ _ _ hlt, mk_full hcy] at z1
                    obtain ⟨mv, hmv⟩ : ∃ mv, mv = mnAt t c k := ⟨_, rfl⟩
                    rw [← hmv] at z1 hv hwt ⊢
                    clear hmv e5 ho
                    have nz : ¬ c.n = 0 := by have := hcy.n1; omega
                    have hcf0 := hcy.f0; have hcf1 := hcy.f1; have hc40 := hcy.n2
                    cases hk0 : (c.k == 0) with
                    | true =>
                      have hwt' := hwt hk0
                      clear hwt
                      have xx0 := (b0.below hb10).cell; have nn0 := (b0.below hb10).lt; have xx1 := (b1.below hb10).cell; have nn1 := (b1.below hb10).lt
                      go_wp2_with fail
                      clear xx0 nn0 xx1 nn1
                      refine (nth_any t (dl t 0 k).length A1 A2 c1 c2 _ (h1.below hb10) (h2.below hb10) (by omega) (by omega) (by omega)).mono ?_
                      rintro e w11 ⟨rfl, hb11⟩
                      rw [e3, e4]
                      have own11 := own9.kept hb11 own9.lt.2
                      have hb12 := hb10.trans (hb11.mono hb10.size)
                      clear own9 hb10 hb11
                      have xx0 := (b0.below hb12).cell; have nn0 := (b0.below hb12).lt; have xx1 := (b1.below hb12).cell; have nn1 := (b1.below hb12).lt
                      go_wp2
                      go_roundw
                      case rel => exact ⟨k + 1, by omega, by go_num, by rw [HDY.out]; go_num, own11, hb12⟩
                      case measure => simp [intOf]; omega
                    | false =>
                      clear hwt
                      have xx0 := (b0.below hb10).cell; have nn0 := (b0.below hb10).lt; have xx1 := (b1.below hb10).cell; have nn1 := (b1.below hb10).lt
                      go_wp2_with fail
                      clear xx0 nn0 xx1 nn1
                      refine (nth_any t (dl t 0 k).length A1 A2 c1 c2 _ (h1.below hb10) (h2.below hb10) (by omega) (by omega) (by omega)).mono ?_
                      rintro e w11 ⟨rfl, hb11⟩
                      rw [e3, e4]
                      have own11 := own9.kept hb11 own9.lt.2
                      have hb12 := hb10.trans (hb11.mono hb10.size)
                      clear own9 hb10 hb11
                      have xx0 := (b0.below hb12).cell; have nn0 := (b0.below hb12).lt; have xx1 := (b1.below hb12).cell; have nn1 := (b1.below hb12).lt
                      go_wp2
                      go_roundw
                      case rel => exact ⟨k + 1, by omega, by go_num, by rw [HDY.out]; go_num, own11, hb12⟩
                      case measure => simp [intOf]; omega
                  | false =>
                    rw [ho] at hio
                    have e1 := menu_shut hok hcy hlt' ho
                    have hdy : dl t 0 (k + 1) = dl t 0 k := dl_no (by simpa using ho)
                    have HDY := Lib.hid hdy
                    clear hdy
                    have xx0 := (b0.below hb).cell; have nn0 := (b0.below hb).lt; have xx1 := (b1.below hb).cell; have nn1 := (b1.below hb).lt
                    go_wp2_with fail
                    clear xx0 nn0 xx1 nn1
                    refine (isOpen_any k t A1 A2 c1 c2 _ (h1.below hb) (h2.below hb) (by omega) (by omega)).mono ?_
                    rintro e w7 ⟨rfl, hb7⟩
                    rw [hio, hq]
                    have own7 := own.kept hb7 own.lt.2
                    have hb8 := hb.trans (hb7.mono hb.size)
                    clear own hb hb7
                    have xx0 := (b0.below hb8).cell; have nn0 := (b0.below hb8).lt; have xx1 := (b1.below hb8).cell; have nn1 := (b1.below hb8).lt
                    go_wp2_with fail
                    clear xx0 nn0 xx1 nn1
                    refine (menu_any c k t A1 A2 c1 c2 _ (h1.below hb8) (h2.below hb8) (by omega) (by omega)).mono ?_
                    rintro e w9 ⟨rfl, hb9⟩
                    rw [e1]
                    have own9 := own7.kept hb9 own7.lt.2
                    have hb10 := hb8.trans (hb9.mono hb8.size)
                    clear own7 hb8 hb9
                    have z1 := own9.cell k hlt
                    rw [mkL_at _ _ _ _ _ _ hlt, mk_full hcy, mnAt_shut ho] at z1
                    clear ho
                    have xx0 := (b0.below hb10).cell; have nn0 := (b0.below hb10).lt; have xx1 := (b1.below hb10).cell; have nn1 := (b1.below hb10).lt
                    go_wp2
                    go_roundw
                    case rel => exact ⟨k + 1, by omega, by go_num, by rw [HDY.out], own9, hb10⟩
                    case measure => simp [intOf]; omega
              · have hlt' : ¬ (k : Int) < t.len := by rw [HN.out]; omega
                have hkn : n = k := by omega
                subst hkn
                have e5 := nth_end hok
                rw [HFN.out] at e5
                clear hlt hk
                have xx0 := (b0.below hb).cell; have nn0 := (b0.below hb).lt; have xx1 := (b1.below hb).cell; have nn1 := (b1.below hb).lt
                go_wp2_with fail
                clear xx0 nn0 xx1 nn1
                refine (nth_any t (dl t 0 n).length A1 A2 c1 c2 _ (h1.below hb) (h2.below hb) (by omega) (by omega) (by omega)).mono ?_
                rintro e w7 ⟨rfl, hb7⟩
                rw [e5]
                have own7 := own.kept hb7 own.lt.2
                have hb8 := hb.trans (hb7.mono hb.size)
                clear own hb hb7 e5
                have xx0 := (b0.below hb8).cell; have nn0 := (b0.below hb8).lt; have xx1 := (b1.below hb8).cell; have nn1 := (b1.below hb8).lt
                go_wp2_with fail
                clear xx0 nn0 xx1 nn1
                refine (close_any t day A1 A2 c1 c2 _ (h1.below hb8) (h2.below hb8) (by omega) (by omega)).mono ?_
                rintro e w9 ⟨A3, k3, A4, k4, m3, rfl, ownR, ownC, -, -, hb9⟩
                have g1 := RN.of_own ownR
                have g2 := RN.of_own ownC
                have own9 := own7.kept hb9 own7.lt.2
                have hb10 := hb8.trans (hb9.mono hb8.size)
                clear own7 hb8 hb9 ownR ownC
                by_cases hE : clE t day = 0
                rotate_left
                · have hE1 : (clE t day != 0) = true := by simp [hE]
                  clear hE
                  go_wp2
                  go_ret
                  exact ⟨rfl, hy.trans ((hb10.alloc hb10.size _).mono hy.size)⟩
                have hE1 : (clE t day != 0) = false := by simp [hE]
                obtain ⟨-, hd0, hd1, -, -⟩ := clE_ok hE
                obtain ⟨d, rfl⟩ : ∃ d : Nat, day = d := ⟨day.toNat, by omega⟩
                have hdn : d < n := by have := HN.out; omega
                obtain ⟨r1, r2⟩ := cl_re hE
                obtain ⟨r3, r4⟩ := cl_count hE
                rw [HFN.out] at r4
                have hlT := clT_len hE
                obtain ⟨T, hT⟩ : ∃ T, T = clT t d := ⟨_, rfl⟩
                rw [← hT] at g1 g2 r1 r2 r3 r4 hlT ⊢
                have HT := Lib.hid hT
                clear hT hE hd0
                have xx0 := (b0.below hb10).cell; have nn0 := (b0.below hb10).lt; have xx1 := (b1.below hb10).cell; have nn1 := (b1.below hb10).lt
                go_wp2_with fail
                clear xx0 nn0 xx1 nn1
                have b3 : Box (w9.alloc (.cells #[.int .i64 T.len, .slice A3 T.rest.length k3, .slice A4 T.clo.length k4] 24)) w9.heap.size #[.int .i64 T.len, .slice A3 T.rest.length k3, .slice A4 T.clo.length k4] := Box.new _ _ _
                replace g1 := g1.alloc (.cells #[.int .i64 T.len, .slice A3 T.rest.length k3, .slice A4 T.clo.length k4] 24); replace g2 := g2.alloc (.cells #[.int .i64 T.len, .slice A3 T.rest.length k3, .slice A4 T.clo.length k4] 24)
                have hbA := (Below.refl w9.heap.size w9).alloc (Nat.le_refl _) (.cells #[.int .i64 T.len, .slice A3 T.rest.length k3, .slice A4 T.clo.length k4] 24)
                have own10 := own9.kept hbA own9.lt.2
                have hb11 := hb10.trans (hbA.mono hb10.size)
                clear own9 hb10 hbA
                refine (reopen_any T d A3 A4 k3 k4 _ g1 g2 (by omega) (by omega)).mono ?_
                rintro e w11 ⟨A5, k5, A6, k6, m5, rfl, ownR, ownC, -, -, hb12⟩
                rw [r1, r2]
                rw [r2] at ownR ownC
                have g3 := RN.of_own ownR
                have g4 := RN.of_own ownC
                have own11 := own10.kept hb12 own10.lt.2
                have hb13 := hb11.trans (hb12.mono hb11.size)
                replace b3 := b3.below hb12; replace g1 := g1.below hb12; replace g2 := g2.below hb12
                clear own10 hb11 hb12 ownR ownC
                have xx2 := b3.cell; have nn2 := b3.lt
                have xx0 := (b0.below hb13).cell; have nn0 := (b0.below hb13).lt; have xx1 := (b1.below hb13).cell; have nn1 := (b1.below hb13).lt
                go_wp2_with fail
                clear xx0 nn0 xx1 nn1 xx2 nn2
                have b4 : Box (w11.alloc (.cells #[.int .i64 t.len, .slice A5 t.rest.length k5, .slice A6 t.clo.length k6] 24)) w11.heap.size #[.int .i64 t.len, .slice A5 t.rest.length k5, .slice A6 t.clo.length k6] := Box.new _ _ _
                have hbA := (Below.refl w11.heap.size w11).alloc (Nat.le_refl _) (.cells #[.int .i64 t.len, .slice A5 t.rest.length k5, .slice A6 t.clo.length k6] 24)
                have own12 := own11.kept hbA own11.lt.2
                have hb14 := hb13.trans (hbA.mono hb13.size)
                replace g1 := g1.below hbA; replace g2 := g2.below hbA; replace g3 := g3.below hbA; replace g4 := g4.below hbA
                clear own11 hb13 hbA b3
                refine (count_any T 0 t.len A3 A4 k3 k4 _ g1 g2 (by omega) (by omega)).mono ?_
                rintro e w15 ⟨rfl, hb15⟩
                rw [r3, r4]
                have own15 := own12.kept hb15 own12.lt.2
                have hb16 := hb14.trans (hb15.mono hb14.size)
                replace b4 := b4.below hb15; replace g3 := g3.below hb15; replace g4 := g4.below hb15
                clear own12 hb14 hb15 g1 g2
                have z1 := own15.cell d hdn
                rw [mkL_at _ _ _ _ _ _ hdn, mk_full hcy] at z1
                cases ho : opB t d with
                | true =>
                  have e6 := (mnAt_nonneg hcy d).2 ho
                  have e7 : (((dl t 0 n).length : Int) - 1 == ((dl t 0 n).length : Int) - 1) = true := by simp
                  obtain ⟨mv, hmv⟩ : ∃ mv, mv = mnAt t c d := ⟨_, rfl⟩
                  rw [← hmv] at z1 e6
                  clear hmv ho
                  have xx0 := (b0.below hb16).cell; have nn0 := (b0.below hb16).lt; have xx1 := (b1.below hb16).cell; have nn1 := (b1.below hb16).lt
                  have xx2 := b4.cell; have nn2 := b4.lt
                  go_wp2_with fail
                  clear xx0 nn0 xx1 nn1 xx2 nn2
                  refine (same_any t t A5 A6 A1 A2 k5 k6 c1 c2 _ g3 g4 (h1.below hb16) (h2.below hb16) (by omega) (by omega) (by omega) (by omega)).mono ?_
                  rintro e w17 ⟨rfl, hb17⟩
                  rw [sameB_refl]
                  go_wp2
                  go_ret
                  exact ⟨rfl, hy.trans ((hb16.trans (hb17.mono hb16.size)).mono hy.size)⟩
                | false =>
                  rw [mnAt_shut ho] at z1
                  clear ho
                  have xx0 := (b0.below hb16).cell; have nn0 := (b0.below hb16).lt; have xx1 := (b1.below hb16).cell; have nn1 := (b1.below hb16).lt
                  have xx2 := b4.cell; have nn2 := b4.lt
                  go_wp2_with fail
                  clear xx0 nn0 xx1 nn1 xx2 nn2
                  refine (same_any t t A5 A6 A1 A2 k5 k6 c1 c2 _ g3 g4 (h1.below hb16) (h2.below hb16) (by omega) (by omega) (by omega) (by omega)).mono ?_
                  rintro e w17 ⟨rfl, hb17⟩
                  rw [sameB_refl]
                  go_wp2
                  go_ret
                  exact ⟨rfl, hy.trans ((hb16.trans (hb17.mono hb16.size)).mono hy.size)⟩
end Go.Proofs.Ytecjmpaomebdbaa
