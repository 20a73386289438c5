/-
  Walks: Needless.
-/
import Derived.Test.YtoopmancobfjeaaO
namespace Go.Proofs.Ytoopmancobfjeaa
set_option linter.unusedVariables false
set_option linter.unusedSimpArgs false
open Go.RowKit

/-! ### plain -/
def isRsn (l : List Fact) (i : Nat) (d : Int) : Bool := rsn l (gf l i).at_ (gf l i).ch d == (i : Int)
def usedTo (l : List Fact) (i : Nat) : Nat → Bool
  | 0 => false
  | n + 1 => usedTo l i n || isRsn l i ((gf l i).fr + n)
def uB (l : List Fact) (i : Nat) : Bool := usedTo l i ((gf l i).un - (gf l i).fr).toNat
theorem usedTo_iff (l : List Fact) (i n : Nat) : usedTo l i n = true ↔ ∃ m : Nat, m < n ∧ isRsn l i ((gf l i).fr + m) = true := by
  induction n with
  | zero => simp [usedTo]
  | succ n ih =>
    simp only [usedTo, Bool.or_eq_true, ih]
    constructor
    · rintro (⟨m, hm, h⟩ | h)
      · exact ⟨m, by omega, h⟩
      · exact ⟨n, by omega, h⟩
    · rintro ⟨m, hm, h⟩
      by_cases e : m = n
      · subst e; exact .inr h
      · exact .inl ⟨m, by omega, h⟩
theorem usedTo_uB {l : List Fact} {i n : Nat} (h : usedTo l i n = true) (hn : n ≤ ((gf l i).un - (gf l i).fr).toNat) : uB l i = true := by
  obtain ⟨m, hm, hh⟩ := (usedTo_iff l i n).1 h
  exact (usedTo_iff _ _ _).2 ⟨m, by omega, hh⟩
def neTo (l : List Fact) : Nat → List Int
  | 0 => []
  | k + 1 => if uB l k then neTo l k else neTo l k ++ [(k : Int)]
theorem neTo_yes (l : List Fact) (k : Nat) (h : uB l k = true) : neTo l (k + 1) = neTo l k := by simp [neTo, h]
theorem neTo_no (l : List Fact) (k : Nat) (h : uB l k = false) : neTo l (k + 1) = neTo l k ++ [(k : Int)] := by simp [neTo, h]
theorem neTo_le (l : List Fact) (k : Nat) : (neTo l k).length ≤ k := by
  induction k with
  | zero => simp [neTo]
  | succ k ih =>
    simp only [neTo]; split
    · omega
    · rw [List.length_append]; simp; omega
def neR (l : List Fact) : List Int := if vld l = 0 then neTo l l.length else []

theorem field_number (a b c d e f : Int) (w : World) : (Instr.field 94 (.agg #[.int .i64 a, .int .i64 b, .int .i64 c, .int .i64 d, .int .i64 e, .int .i64 f]) 1).run Try.prog w = .ok (.int .i64 f) w := by kernel_rfl

set_option maxRecDepth 100000 in
set_option maxHeartbeats 1600000 in
theorem needlessX_any (l : List Fact) (hl : l.length ≤ 100000000) (A0 : Option Addr) (c0 B : Nat) (hc : l.length ≤ c0) (w : World) (hR : RF w B A0 l) :
    Calls Try.prog 40 #[.slice A0 l.length c0] w (RetIn w (neR l) (vld l)) := by
  obtain ⟨L, hL⟩ : ∃ L, L = neR l := ⟨_, rfl⟩
  rw [← hL]
  have HL := Lib.hid hL; clear hL
  go_enter Try.func40, Try.ntmps40
  go_wp2_with fail
  refine (validate_any l A0 c0 B _ hR (by omega)).mono ?_
  rintro e w1 ⟨rfl, hb1⟩
  by_cases hv : vld l = 0
  · have hV := Vld.of hv
    have hlen := hV.len
    have hv1 : (vld l != 0) = false := by simp [hv]
    have hLL : L = neTo l l.length := by rw [HL.out, neR, if_pos hv]
    have HLL := Lib.hid hLL; clear hLL
    have HV := Lib.hid hv; clear hv
    go_wp2
    go_loopw [5, 17] (fun o x wr => ∃ k : Nat, k ≤ l.length ∧ x = .int .i64 k ∧ ∃ A c, o = .slice A (neTo l k).length c ∧ OwnN wr w.heap.size A c (neTo l k) ∧ Below w.heap.size w wr) (fun _ x _ => l.length - (intOf x).toNat)
    case atStart => exact ⟨0, by omega, rfl, none, 0, rfl, World.ownsRow_nil _ _ _ _, hb1⟩
    case round =>
      obtain ⟨k, hk, rfl, A, c, rfl, own, hbl⟩ := hrel
      obtain ⟨wo, rfl⟩ : ∃ wo : World, wo = wr := ⟨_, rfl⟩
      have hnl := neTo_le l k
      by_cases hlt : k < l.length
      · obtain ⟨ad, rfl, hab, c0', c1, c2, c3, c4⟩ := (hR.below hbl).at_ hlt
        obtain ⟨q1, q2, q3, q4, q5, q6, q7, q8, q9⟩ := (right_iff _).1 (hV.right k hlt)
        clear q1 q2 q3 q4 q8 q9
        go_wp2
        go_loopw [8, 9] (fun u y wi => ∃ n : Nat, n ≤ ((gf l k).un - (gf l k).fr).toNat ∧ ∃ (b : Bool) (d : Int), u = .bool b ∧ y = .int .i64 d ∧ (gf l k).fr ≤ d ∧ d ≤ (gf l k).un ∧ Hid (d = (gf l k).fr + n) ∧ Hid (b = usedTo l k n) ∧ Below (wo.heap.size + 1) (wo.alloc (.cells #[.int .i64 (gf l k).at_, .int .i64 (gf l k).ch, .int .i64 (gf l k).fr, .int .i64 (gf l k).un, .int .i64 (gf l k).me] 43)) wi)
          (fun _ y _ => 1000 - (intOf y).toNat)
        case atStart => exact ⟨0, by omega, false, (gf l k).fr, rfl, rfl, by omega, by omega, by show (gf l k).fr = _ + ((0 : Nat) : Int); omega, rfl, Below.refl _ _⟩
        case round =>
          clear c0' c1 c2 c3 c4 hab
          obtain ⟨n, hn, b, d, rfl, rfl, hd1, hd2, HD, HB, hx⟩ := hrel
          obtain ⟨bx, _, bz, hxo⟩ := blk_facts hx (by omega)
          have hbi := hbl.trans (hxo.mono hbl.size)
          by_cases hdu : d < (gf l k).un
          · cases b with
            | false =>
              have hfld := field_number
              have hd0 : 0 ≤ d := by omega
              go_wp2_with fail
              refine (reason_any l (gf l k).at_ (gf l k).ch d hV (some ad) c0 B hc _ (hR.below hbi)).mono ?_
              rintro e w2 ⟨rfl, hb2⟩
              have hx2 := hx.trans (hb2.mono (by have := hx.size; simp at this; omega))
              have hnx : usedTo l k (n + 1) = (rsn l (gf l k).at_ (gf l k).ch d == (k : Int)) := by
                simp only [usedTo]; rw [← HB.out, Bool.false_or, isRsn, ← HD.out]
              have HNX := Lib.hid hnx
              unfold foundV
              clear bx hb2 hnx
              go_wp2
              go_roundw
              case rel => exact ⟨n + 1, by have := HD.out; omega, _, d + 1, rfl, by go_num, by omega, by omega, by have := HD.out; show d + 1 = _ + ((n + 1 : Nat) : Int); omega, HNX.out.symm, hx2⟩
              case measure => simp [intOf]; omega
            | true =>
              have hu := usedTo_uB (HB.out.symm) hn
              have hs := neTo_yes l k hu
              have HS := Lib.hid hs; clear hs hu
              go_wp2
              go_roundw
              case rel => exact ⟨k + 1, by omega, by go_num, A, c, by rw [HS.out], by rw [HS.out]; exact own.kept hxo, hbi⟩
              case measure => simp [intOf]; omega
          · have hnN : n = ((gf l k).un - (gf l k).fr).toNat := by have := HD.out; omega
            have hub : b = uB l k := by rw [HB.out, hnN]; rfl
            have HUB := Lib.hid hub
            clear hnN hub
            have own2 := own.kept hxo
            have hbs := hbi.size
            cases b with
            | true =>
              have hs := neTo_yes l k HUB.out.symm
              have HS := Lib.hid hs; clear hs
              go_wp2
              go_roundw
              case rel => exact ⟨k + 1, by omega, by go_num, A, c, by rw [HS.out], by rw [HS.out]; exact own2, hbi⟩
              case measure => simp [intOf]; omega
            | false =>
              have hs := neTo_no l k HUB.out.symm
              have HS := Lib.hid hs; clear hs
              go_wp2_with (at_builtin; refine wpList_app1 rfl _ _ rfl Try.underlying53 info_int rfl (by omega) rfl own2 rfl rfl (by simp [Value.oneCell']) (by omega) (by omega) (by omega) ?_; intro A' c' w3 own3 hb3)
              go_roundw
              case rel => exact ⟨k + 1, by omega, by go_num, A', c', by rw [HS.out, List.length_append]; rfl, OwnN.snoc own3 rfl HS.out, hbi.trans (hb3 _ (Nat.le_refl _))⟩
              case measure => simp [intOf]; omega
      · have hkl : k = l.length := by omega
        have HKL := Lib.hid hkl; clear hkl
        go_wp2
        go_ret2
        exact ⟨A, c, ret2 (by rw [HLL.out, ← HKL.out]; rfl) (by rw [HV.out]; rfl), by rw [HLL.out, ← HKL.out]; exact own, hbl⟩
  · have hv1 : (vld l != 0) = true := by simp [hv]
    have hLL : L = [] := by rw [HL.out, neR, if_neg hv]
    have HLL := Lib.hid hLL; clear hLL hv
    go_wp2
    go_ret2
    exact ⟨none, 0, ret2 (by rw [HLL.out]; rfl) rfl, by rw [HLL.out]; exact World.ownsRow_nil _ _ _ _, hb1⟩

end Go.Proofs.Ytoopmancobfjeaa
