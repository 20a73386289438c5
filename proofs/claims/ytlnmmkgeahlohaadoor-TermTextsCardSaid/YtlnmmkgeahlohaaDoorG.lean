/-
  Walks: lists of remainders in memory; the first loops of Solve.
-/
import Derived.Test.YtlnmmkgeahlohaaDoorF
namespace Go.Proofs.YtlnmmkgeahlohaaDoor
set_option linter.unusedVariables false
set_option linter.unusedSimpArgs false
open Go.RowKit

/-! (The next four are the guide's, from its pages of words to copy.) -/
theorem quiet_add_same {P : Program} {f : FuncId} {args : Array Value} {w : World} {a n : Nat} {v : Value}
    (h : Calls P f args (w.drewN (a + n)) fun e w' => e = .returned v ∧ w' = w.drewN (a + n)) :
    Calls P f args (w.drewN (a + n)) fun e w'' => e = .returned v ∧ ∃ m, w'' = w.drewN (a + m) :=
  h.mono fun _ _ ⟨he, hm⟩ => ⟨he, n, hm⟩
theorem quiet_add {P : Program} {f : FuncId} {args : Array Value} {w : World} {a n : Nat} {v : Value}
    (h : Calls P f args (w.drewN (a + n)) fun e w' => e = .returned v ∧ ∃ m, w' = (w.drewN (a + n)).drewN m) :
    Calls P f args (w.drewN (a + n)) fun e w'' => e = .returned v ∧ ∃ m, w'' = w.drewN (a + m) :=
  h.mono fun _ _ ⟨he, m, hm⟩ => ⟨he, n + m, by rw [hm, World.drewN_drewN, Nat.add_assoc]⟩
theorem quiet_left {P : Program} {f : FuncId} {args : Array Value} {w : World} {n : Nat} {v : Value}
    (h : Calls P f args (w.drewN n) fun e w' => e = .returned v ∧ w.drewN n = w') : Calls P f args (w.drewN n) fun e w'' => e = .returned v ∧ ∃ m, w'' = w.drewN m :=
  h.mono fun _ _ ⟨he, hm⟩ => ⟨he, n, hm.symm⟩
theorem results_tmp4 {fn : Func} {t u v x : Tmp} (h : fn.results = #[.tmp t, .tmp u, .tmp v, .tmp x]) (tmps : Array Value) (P : Program) (w : World) :
    (results fn tmps).run P w = .ok (.tuple #[tmps.getD t undef, tmps.getD u undef, tmps.getD v undef, tmps.getD x undef]) w := by simp [results, h]
theorem ret4 {a b c d a' b' c' d' : Value} (h1 : a = a') (h2 : b = b') (h3 : c = c') (h4 : d = d') : Ending.returned (.tuple #[a, b, c, d]) = .returned (.tuple #[a', b', c', d']) := by rw [h1, h2, h3, h4]

def Ln.vals (s : Ln) : List Value := [.int .i64 s.r, .int .i64 s.m]
def cellsL (l : List Ln) : List Value := l.flatMap Ln.vals
theorem cellsL_cons (s : Ln) (l : List Ln) : cellsL (s :: l) = s.vals ++ cellsL l := by simp [cellsL]
theorem cellsL_length (l : List Ln) : (cellsL l).length = l.length * 2 := by
  induction l with
  | nil => rfl
  | cons f l ih => rw [cellsL_cons, List.length_append, ih]; simp [Ln.vals]; omega
theorem cellsL_at (l : List Ln) (k j : Nat) (hk : k < l.length) (hj : j < 2) : (cellsL l)[k * 2 + j]? = (gl l k).vals[j]? := by
  induction l generalizing k with
  | nil => simp at hk
  | cons f l ih =>
    rw [cellsL_cons]
    cases k with
    | zero => rw [List.getElem?_append_left (by simp [Ln.vals]; omega)]; simp [gl]
    | succ k =>
      rw [List.getElem?_append_right (by simp [Ln.vals]; omega)]
      have : (k + 1) * 2 + j - f.vals.length = k * 2 + j := by simp [Ln.vals]; omega
      rw [this, ih k (by simpa using hk)]
      simp [gl]
/-- The slice (A, n = l.length) reads as the lines l. -/
def RL (w : World) (A : Option Addr) (l : List Ln) : Prop := Reads w w.heap.size 2 A l.length (cellsL l)
section
variable {w w' : World} {A : Option Addr} {l : List Ln}
theorem RL.below (h : RL w A l) (hb : Below w.heap.size w w') : RL w' A l := (Reads.below' h hb (Nat.le_refl _)).more hb.size
theorem RL.at_ (h : RL w A l) {k : Nat} (hk : k < l.length) : ∃ ad, A = some ad ∧ (ad.add (k * 2)).block < w.heap.size ∧ w.cell? (ad.add (k * 2)) = some (.int .i64 (gl l k).r) ∧
    w.cell? ⟨(ad.add (k * 2)).block, (ad.add (k * 2)).off + 1, none⟩ = some (.int .i64 (gl l k).m) := by
  obtain ⟨ad, e, hb, hc⟩ := h.2 (by omega)
  have hs := fun j => addr_succ ad (k * 2) j
  exact ⟨ad, e, by rw [block_of_add]; exact hb, hc (k * 2 + 0) _ (cellsL_at l k 0 hk (by omega)), (hs 0) ▸ hc _ _ (cellsL_at l k 1 hk (by omega))⟩
end

theorem wrapN {a b c : Nat} (h : a * b = c) (hc : c ≤ 1000000000000000000) : IntKind.i64.wrap ((a : Int) * (b : Int)) = (c : Int) := by
  rw [show (a : Int) * (b : Int) = (c : Int) by rw [← h, Int.natCast_mul]]; exact IntWalk.i64_in _ (by omega)
def SlvPost (l : List Ln) (w0 : World) (e : Ending) (w' : World) : Prop := ∃ a m ok, e = .returned (.tuple #[.int .i64 a, .int .i64 m, .bool ok, .int .i64 (slvE l)]) ∧ SRel l a m ok ∧ Below w0.heap.size w0 w'

set_option maxRecDepth 100000 in
set_option maxHeartbeats 3200000 in
theorem solve_any (l : List Ln) (hl : l.length ≤ 1000000) (A : Option Addr) (c : Nat) (w : World) (hR : RL w A l) :
    Calls Tryd.prog 12 #[.slice A l.length c] w (SlvPost l w) := by
  by_cases h6 : 6 < l.length
  · have hE : slvE l = 4 := slvE_long h6
    have HE := Lib.hid hE
    clear hE
    go_enter Tryd.func12, Tryd.ntmps12
    go_wp2
    exact bodyPost_ret (v := .tuple #[.int .i64 0, .int .i64 0, .bool false, .int .i64 4]) (by simp [results, Tryd.results12, go_sem]) rfl ⟨0, 0, false, by rw [HE.out], .inr ⟨(fun h => by rw [HE.out] at h; cases h), rfl, rfl, rfl⟩, Below.refl _ _⟩
  · go_enter Tryd.func12, Tryd.ntmps12
    go_wp2
    go_loopw [2, 23] (fun z x wr => z = .int .i64 0 ∧ ∃ k : Nat, k ≤ l.length ∧ x = .int .i64 k ∧ Hid (lnTo l k = true) ∧ Below w.heap.size w wr) (fun _ x _ => l.length - (intOf x).toNat)
    case atStart => exact ⟨rfl, 0, by omega, rfl, rfl, Below.refl _ _⟩
    case round =>
      obtain ⟨rfl, k, hk, rfl, HK, hbl⟩ := hrel
      by_cases hlt : k < l.length
      · obtain ⟨ad, rfl, hab, c0, c1⟩ := (hR.below hbl).at_ hlt
        have hb2 := hbl.alloc hbl.size (.cells #[.int .i64 (gl l k).r, .int .i64 (gl l k).m] 41)
        cases hi : inB (gl l k).m 1 100000 with
        | true =>
          have hib := inB_true.1 hi
          have hnx : lnTo l (k + 1) = true := by simp only [lnTo, HK.out, hi]; rfl
          have HNX := Lib.hid hnx
          clear hnx hi
          go_wp2
          go_roundw
          case rel => exact ⟨rfl, k + 1, by omega, by go_num, HNX, hb2⟩
          case measure => simp [intOf]; omega
        | false =>
          have hE : slvE l = 1 := slvE_arg h6 hlt hi
          have HE := Lib.hid hE
          have HN := Lib.hid (inB_false.1 hi)
          clear hE hi
          go_wp2
          all_goals first
            | exact bodyPost_ret (v := .tuple #[.int .i64 0, .int .i64 0, .bool false, .int .i64 1]) (by simp [results, Tryd.results12, go_sem]) rfl ⟨0, 0, false, by rw [HE.out], .inr ⟨(fun h => by rw [HE.out] at h; cases h), rfl, rfl, rfl⟩, hb2⟩
            | (exfalso; have := HN.out; omega)
      · have hln : lnTo l l.length = true := by rw [show l.length = k by omega]; exact HK.out
        have HG := Lib.hid (Good.of hln)
        have HLN := Lib.hid hln
        clear hln
        go_wp2
        go_loopw [2, 8, 38] (fun z a x wr => z = .int .i64 0 ∧ ∃ k : Nat, k ≤ l.length ∧ x = .int .i64 k ∧ a = .int .i64 (lcTo l k : Nat) ∧ lcTo l k ≤ 1099511627776 ∧ Below w.heap.size w wr) (fun _ _ x _ => l.length - (intOf x).toNat)
        case atStart => exact ⟨rfl, 0, by omega, rfl, rfl, by simp [lcTo], hbl⟩
        case round =>
          clear hbl
          obtain ⟨rfl, k, hk, rfl, rfl, hlc, hbl⟩ := hrel
          by_cases hlt : k < l.length
          · obtain ⟨ad, rfl, hab, c0, c1⟩ := (hR.below hbl).at_ hlt
            obtain ⟨g1, g2, g3, -, -⟩ := HG.out k hlt
            have hb2 := hbl.alloc hbl.size (.cells #[.int .i64 (gl l k).r, .int .i64 (gl l k).m] 41)
            rw [g3] at c1 hb2
            clear g3
            have hq := lc_quo l k
            have hpos := lc_pos HG.out k (by omega)
            have hgp : 0 < (lcTo l k).gcd (mN l k) := Nat.gcd_pos_of_pos_left _ hpos
            have hbig := lc_big HG.out k hlt hlc
            have hq1 : lcTo l k / (lcTo l k).gcd (mN l k) ≤ lcTo l k := Nat.div_le_self _ _
            obtain ⟨N, hN⟩ : ∃ N, N = lcTo l (k + 1) := ⟨_, rfl⟩
            rw [← hN] at hq hbig
            obtain ⟨Q, hQ⟩ : ∃ Q, Q = lcTo l k / (lcTo l k).gcd (mN l k) := ⟨_, rfl⟩
            rw [← hQ] at hq hq1
            have e1 : IntKind.i64.wrap (((lcTo l k : Nat) : Int) / (((lcTo l k).gcd (mN l k) : Nat) : Int)) = (Q : Int) := by
              rw [show (((lcTo l k : Nat) : Int) / (((lcTo l k).gcd (mN l k) : Nat) : Int)) = (Q : Int) by rw [hQ]; rfl]; exact IntWalk.i64_in _ (by omega)
            have e2 : IntKind.i64.wrap ((Q : Int) * (mN l k : Int)) = (N : Int) := by
              rw [show ((Q : Int) * (mN l k : Int)) = (N : Int) by rw [← hq]; rfl]; exact IntWalk.i64_in _ (by omega)
            have HNN := Lib.hid hN
            clear hq hQ hN
            by_cases hbn : 1099511627776 < N
            · have hE : slvE l = 4 := slvE_big h6 HLN.out (k := k + 1) hlt (by rw [← HNN.out]; exact hbn)
              have HE := Lib.hid hE
              clear hE
              go_wp2_with fail
              go_quiet ((go_at_call 28; exact Calls.quiet_of (gcd_any _ _ _ (by omega) (by omega) (by omega))))
              clear e1 e2
              go_wp2
              exact bodyPost_ret (v := .tuple #[.int .i64 0, .int .i64 0, .bool false, .int .i64 4]) (by simp [results, Tryd.results12, go_sem]) rfl ⟨0, 0, false, by rw [HE.out], .inr ⟨(fun h => by rw [HE.out] at h; cases h), rfl, rfl, rfl⟩, below_drewN hb2 _⟩
            · go_wp2_with fail
              go_quiet ((go_at_call 28; exact Calls.quiet_of (gcd_any _ _ _ (by omega) (by omega) (by omega))))
              clear e1 e2
              go_wp2
              go_roundw
              case rel => exact ⟨rfl, k + 1, by omega, by go_num, by rw [HNN.out], by rw [← HNN.out]; omega, below_drewN hb2 _⟩
              case measure => simp [intOf]; omega
          · have hkl : k = l.length := by omega
            have hbl1 : ¬ 1099511627776 < lcTo l l.length := by rw [← hkl]; omega
            have HE := Lib.hid (slvE_of h6 HLN.out hbl1)
            have HBG := Lib.hid hbl1
            clear hkl hbl1 hlc
            go_wp2
            go_loopw [2, 3, 56] (fun a m x wr => ∃ k : Nat, k ≤ l.length ∧ x = .int .i64 k ∧ (∃ s : Nat, a = .int .i64 (s : Nat) ∧ Hid (Sol l k s)) ∧ m = .int .i64 (lcTo l k : Nat) ∧ Below w.heap.size w wr) (fun _ _ x _ => l.length - (intOf x).toNat)
            case atStart => exact ⟨0, by omega, rfl, ⟨0, rfl, Sol.zero l⟩, rfl, hbl⟩
            case round =>
              clear hbl
              obtain ⟨k, hk, rfl, ⟨s, rfl, HS⟩, rfl, hbl⟩ := hrel
              obtain ⟨wo, rfl⟩ : ∃ wo : World, wo = wr := ⟨_, rfl⟩
              by_cases hlt : k < l.length
              · obtain ⟨ad, rfl, hab, c0, c1⟩ := (hR.below hbl).at_ hlt
                obtain ⟨g1, g2, g3, g4, g5⟩ := HG.out k hlt
                have hb2 := hbl.alloc hbl.size (.cells #[.int .i64 (gl l k).r, .int .i64 (gl l k).m] 41)
                rw [g3] at c1 hb2 g5
                clear g3
                have hpos := lc_pos HG.out k (by omega)
                have hsp := stp_pos HG.out k hlt
                have hsl := stp_le l k
                have hgp : 0 < (lcTo l k).gcd (mN l k) := Nat.gcd_pos_of_pos_left _ hpos
                have hle1 : lcTo l (k + 1) ≤ 1099511627776 := by have := lc_le HG.out (k + 1) l.length (by omega) (Nat.le_refl _); have := HBG.out; omega
                have hle0 : lcTo l k ≤ 1099511627776 := by have := lc_le HG.out k (k + 1) (by omega) (by omega); omega
                have hs1 := HS.out.1
                have e1 : IntKind.i64.wrap (((mN l k : Nat) : Int) / (((lcTo l k).gcd (mN l k) : Nat) : Int)) = (stp l k : Int) := by
                  rw [show (((mN l k : Nat) : Int) / (((lcTo l k).gcd (mN l k) : Nat) : Int)) = (stp l k : Int) from rfl]; exact IntWalk.i64_in _ (by omega)
                have e3 : (gl l k).r % (mN l k : Int) = (rN l k : Int) := g5.symm
                have e4 : ((s : Nat) : Int) % (mN l k : Int) = (atJ l k s 0 : Int) := by rw [atJ_zero]; rfl
                have E4 := Lib.hid e4
                have G5 := Lib.hid g5
                clear g5
                go_wp2_with fail
                go_quiet ((go_at_call 28; exact Calls.quiet_of (gcd_any _ _ _ (by omega) (by omega) (by omega))))
                go_wp2_with fail
                go_quiet ((go_at_call 29; exact quiet_add_same (mod_any _ _ _ (by omega) (by omega))))
                clear e1 e3 e4
                have eR : ∀ j, ((atJ l k s j : Int) != (gl l k).r % (mN l k : Int)) = decide (atJ l k s j ≠ rN l k) := fun j => by
                  rw [← G5.out]; by_cases hj : atJ l k s j = rN l k
                  · simp [hj]
                  · rw [decide_eq_true hj, bne_iff_ne]; omega
                have eN : ∀ j, (((atJ l k s j : Int) + ((lcTo l k : Nat) : Int)) % (mN l k : Int)) = (atJ l k s (j + 1) : Int) := fun j => by
                  rw [← atJ_succ, Nat.add_mod_mod]; rfl
                have eL : ∀ j, atJ l k s j < mN l k := fun j => Nat.mod_lt _ (by omega)
                have ER := Lib.hid eR
                have EN := Lib.hid eN
                have EL := Lib.hid eL
                have hd1 := Int.emod_nonneg ((lcTo l k : Nat) : Int) (show ((mN l k : Nat) : Int) ≠ 0 by omega)
                have hd2 := Int.emod_lt_of_pos ((lcTo l k : Nat) : Int) (show (0 : Int) < ((mN l k : Nat) : Int) by omega)
                clear eR eN eL
                go_wp2
                go_loop [15, 17] (fun y z => ∃ j : Nat, j ≤ stp l k ∧ z = .int .i64 (j : Nat) ∧ y = .int .i64 (atJ l k s j : Nat) ∧ Hid (∀ i, i < j → atJ l k s i ≠ rN l k)) (fun _ z => stp l k - (intOf z).toNat)
                case atStart => exact ⟨0, by omega, rfl, by rw [E4.out], fun i hi => by omega⟩
                case round =>
                  obtain ⟨j, hj, rfl, rfl, HJ⟩ := hrel
                  have hjl := EL.out j
                  have hte := ER.out j
                  by_cases hjs : j < stp l k
                  · by_cases hf : atJ l k s j = rN l k
                    · rw [decide_eq_false (by simpa using hf)] at hte
                      have hsol := HS.out.next hjs hf
                      have HSN := Lib.hid hsol
                      have hsb : lcTo l k * j ≤ lcTo l (k + 1) := by rw [← lc_stp]; exact Nat.mul_le_mul_left _ (by omega)
                      have e7 : IntKind.i64.wrap (((lcTo l k : Nat) : Int) * (j : Int)) = ((lcTo l k * j : Nat) : Int) := IntWalk.i64_in _ (by omega)
                      have e8 : IntKind.i64.wrap (((lcTo l k : Nat) : Int) * ((stp l k : Nat) : Int)) = ((lcTo l (k + 1) : Nat) : Int) := wrapN (lc_stp l k) (by omega)
                      clear hf hsol
                      go_wp2
                      go_roundw
                      case rel => exact ⟨k + 1, by omega, by go_num, ⟨s + lcTo l k * j, by rw [Int.natCast_add, Int.natCast_mul], HSN⟩, rfl, by exact below_drewN hb2 _⟩
                      case measure => simp [intOf]; omega
                    · rw [decide_eq_true (by simpa using hf)] at hte
                      have HF := Lib.hid hf
                      clear hf
                      go_wp2
                      go_round
                      case rel =>
                        exact ⟨j + 1, by omega, by go_num, by rw [EN.out j], fun i hi => by
                          by_cases e : i = j
                          · subst e; exact HF.out
                          · exact HJ.out i (by omega)⟩
                      case measure => simp [intOf]; omega
                  · have hjs' : j = stp l k := by omega
                    have hne : atJ l k s j ≠ rN l k := by
                      rw [hjs', atJ_period, Nat.mod_self]; exact HJ.out 0 (by omega)
                    rw [decide_eq_true hne] at hte
                    have hnone := HS.out.none HG.out hlt (by rw [← hjs']; exact HJ.out)
                    have HNO := Lib.hid hnone
                    clear hjs' hne hnone
                    go_wp2
                    exact bodyPost_ret (v := .tuple #[.int .i64 0, .int .i64 0, .bool false, .int .i64 0]) (by simp [results, Tryd.results12, go_sem]) rfl ⟨0, 0, false, by rw [HE.out], .inr ⟨(fun _ => HNO.out), rfl, rfl, rfl⟩, by exact below_drewN hb2 _⟩
              · have hkl : k = l.length := by omega
                rw [hkl] at HS
                have HKL := Lib.hid hkl
                clear hkl
                go_wp2
                refine bodyPost_ret (results_tmp4 rfl _ _ _) rfl ⟨s, lcTo l l.length, true, ret4 rfl (by rw [← HKL.out]; rfl) rfl (by rw [HE.out]; rfl), .inl ⟨HE.out, rfl, ⟨s, HS.out, rfl⟩, rfl⟩, hbl⟩

end Go.Proofs.YtlnmmkgeahlohaaDoor
