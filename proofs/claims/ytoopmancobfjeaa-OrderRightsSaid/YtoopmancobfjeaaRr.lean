/-
  Walks: Free, both; the document's Rights.
-/
import Derived.Test.YtoopmancobfjeaaRq
namespace Go.Proofs.Ytoopmancobfjeaa
set_option linter.unusedVariables false
set_option linter.unusedSimpArgs false
open Go.RowKit

def frE (r : List Sp) (c d : Int) : Int := if vrt r ≠ 0 then vrt r else if inB c 0 99 && inB d 0 999 then 0 else 1
def frR (r : List Sp) (c d : Int) : Bool := if frE r c d = 0 then freeB r c d else false
def rgE (r : List Sp) (c : Int) : Int := if vrt r ≠ 0 then vrt r else if inB c 0 99 then 0 else 1
def rgL (r : List Sp) (c : Int) : List Sp := if rgE r c = 0 then dTo c (fun d => freeB r c d) 1000 else []
def RetR (w0 : World) (L : List Sp) (E : Int) (e : Ending) (w' : World) : Prop :=
  ∃ A c, e = .returned (.tuple #[.slice A L.length c, .int .i64 E]) ∧ OwnR w' w0.heap.size A c L ∧ Below w0.heap.size w0 w'
theorem dTo_len (ch : Int) (f : Int → Bool) : ∀ k, (dTo ch f k).length ≤ k
  | 0 => by simp [dTo]
  | k + 1 => by
    have ih := dTo_len ch f k
    show (dstep ch f (dTo ch f k) k).length ≤ _
    unfold dstep
    split
    · split
      · rw [List.length_set]; omega
      · simp; omega
    · omega

set_option maxRecDepth 100000 in
set_option maxHeartbeats 1600000 in
theorem rrights_any (r : List Sp) (ch : Int) (A0 : Option Addr) (c0 : Nat) (w : World) (hR : RS w A0 r) (hl : r.length ≤ 1000000000) :
    Calls Try.prog 53 #[.slice A0 r.length c0, .int .i64 ch] w (RetR w (rgL r ch) (rgE r ch)) := by
  obtain ⟨E, hE⟩ : ∃ E, E = rgE r ch := ⟨_, rfl⟩
  obtain ⟨O, hO⟩ : ∃ O, O = rgL r ch := ⟨_, rfl⟩
  rw [← hE, ← hO]
  have HE := Lib.hid hE
  have HO := Lib.hid hO
  clear hE hO
  go_enter Try.func53, Try.ntmps53
  go_wp2_with fail
  refine (rvrights_any r A0 c0 _ hR hl).mono ?_
  rintro e w1 ⟨rfl, hb1⟩
  by_cases hv : vrt r = 0
  · have hv1 : (vrt r != 0) = false := by simp [hv]
    cases hi : inB ch 0 99 with
    | true =>
      have hE1 : E = 0 := by rw [HE.out, rgE, if_neg (by simp [hv]), if_pos hi]
      have hO1 : O = dTo ch (fun d => freeB r ch d) 1000 := by rw [HO.out, rgL, if_pos (by rw [← HE.out, hE1])]
      obtain ⟨f, hf⟩ : ∃ f : Int → Bool, f = fun d => freeB r ch d := ⟨_, rfl⟩
      have hfd : ∀ d : Int, freeB r ch d = f d := by rw [hf]; exact fun _ => rfl
      rw [← hf] at hO1
      have HFD := Lib.hid hfd
      have HE1 := Lib.hid hE1
      have HO1 := Lib.hid hO1
      have hR1 := hR.below hb1
      clear hv hf hfd hE1 hO1
      go_wp2_with (go_at_call 67; refine (within_any _ _ _ _).mono ?_; rintro e w' ⟨rfl, hw'⟩; subst hw'; rw [hi])
      go_loopw [7, 8] (fun o x wr => ∃ k : Nat, k ≤ 1000 ∧ x = .int .i64 k ∧ ∃ A c, o = .slice A (dTo ch f k).length c ∧ OwnR wr w.heap.size A c (dTo ch f k) ∧ Below w.heap.size w wr) (fun _ x _ => 1000 - (intOf x).toNat)
      case atStart => exact ⟨0, by omega, rfl, none, 0, rfl, World.ownsRow_nil _ _ _ _, hb1⟩
      case round =>
        obtain ⟨k, hk, rfl, A, c, rfl, own, hbl⟩ := hrel
        by_cases hlt : k < 1000
        · have hll := dTo_len ch f k
          have hme := (dTo_ok ch f k).2.2
          go_wp2_with fail
          refine (rfree_any r ch k A0 c0 _ (hR.below hbl) hl).mono ?_
          rintro e w2 ⟨rfl, rfl⟩
          rw [HFD.out]
          obtain ⟨L, hL⟩ : ∃ L, L = dTo ch f k := ⟨_, rfl⟩
          rw [← hL] at own hll hme ⊢
          have HL := Lib.hid hL; clear hL
          have HME := Lib.hid hme; clear hme
          cases hp : f k with
          | false =>
            have hn : dTo ch f (k + 1) = L := by show dstep ch f (dTo ch f k) k = L; rw [← HL.out]; unfold dstep; rw [if_neg (by simp [hp])]
            have HN := Lib.hid hn; clear hn hp
            go_wp2
            go_roundw
            case rel => exact ⟨k + 1, by omega, by go_num, A, c, by rw [HN.out], by rw [HN.out]; exact own, hbl⟩
            case measure => simp [intOf]; omega
          | true =>
            by_cases hl0 : 0 < L.length
            · obtain ⟨gb, rfl, hgb1, hgb2, hcs, hfz⟩ := own.last hl0
              obtain ⟨d0, d1, d2⟩ := hcs (L.length - 1) (by omega)
              clear hcs
              by_cases hm : (gs L (L.length - 1)).me = k
              · have hn : dTo ch f (k + 1) = L.set (L.length - 1) ⟨(gs L (L.length - 1)).fr, (gs L (L.length - 1)).un, (gs L (L.length - 1)).me + 1⟩ := by
                  show dstep ch f (dTo ch f k) k = _
                  rw [← HL.out]; unfold dstep lastS; rw [if_pos hp, if_pos ⟨hl0, hm⟩]
                have HN := Lib.hid hn; clear hn hp
                have hm' : ((gs L (L.length - 1)).me == (k : Int)) = true := by simp [hm]
                have hub : 0 ≤ (gs L (L.length - 1)).me ∧ (gs L (L.length - 1)).me ≤ 1000 := by omega
                have own2 := own.longer (L.length - 1) (by omega) ((gs L (L.length - 1)).me + 1)
                clear hm
                go_wp2
                go_roundw
                case rel => exact ⟨k + 1, by omega, by go_num, _, c, by rw [HN.out, List.length_set], by rw [HN.out]; exact own2, hbl.setCell (by exact hgb1) _⟩
                case measure => simp [intOf]; omega
              · have hn : dTo ch f (k + 1) = L ++ [⟨ch, k, k + 1⟩] := by
                  show dstep ch f (dTo ch f k) k = _
                  rw [← HL.out]; unfold dstep lastS; rw [if_pos hp, if_neg (by rintro ⟨_, h⟩; exact hm h)]
                have HN := Lib.hid hn; clear hn hp
                have hbs := hbl.size
                have hm' : ((gs L (L.length - 1)).me == (k : Int)) = false := by simp [hm]
                clear hm
                go_wp2_with (at_builtin; refine wpList_app1 rfl _ _ rfl Try.underlying64 info_right rfl (by omega) rfl own rfl rfl (by simp [Value.oneCell']) (by omega) (by omega) (by omega) ?_; intro A' c' w2 own2 hb2)
                have hbl2 := hbl.trans (hb2 _ (Nat.le_refl _))
                clear own hb2
                go_wp2
                go_roundw
                case rel => exact ⟨k + 1, by omega, by go_num, A', c', by rw [HN.out, List.length_append]; rfl, by rw [HN.out]; unfold OwnR; rw [List.length_append, cellsS_append]; exact own2, hbl2⟩
                case measure => simp [intOf]; omega
            · have hn : dTo ch f (k + 1) = L ++ [⟨ch, k, k + 1⟩] := by
                show dstep ch f (dTo ch f k) k = _
                rw [← HL.out]; unfold dstep lastS; rw [if_pos hp, if_neg (by rintro ⟨h, _⟩; exact hl0 h)]
              have HN := Lib.hid hn; clear hn hp
              have hbs := hbl.size
              go_wp2_with (at_builtin; refine wpList_app1 rfl _ _ rfl Try.underlying64 info_right rfl (by omega) rfl own rfl rfl (by simp [Value.oneCell']) (by omega) (by omega) (by omega) ?_; intro A' c' w2 own2 hb2)
              have hbl2 := hbl.trans (hb2 _ (Nat.le_refl _))
              clear own hb2
              go_wp2
              go_roundw
              case rel => exact ⟨k + 1, by omega, by go_num, A', c', by rw [HN.out, List.length_append]; rfl, by rw [HN.out]; unfold OwnR; rw [List.length_append, cellsS_append]; exact own2, hbl2⟩
              case measure => simp [intOf]; omega
        · have hkk : k = 1000 := by omega
          subst hkk
          go_wp2
          go_ret2
          exact ⟨A, c, ret2 (by rw [HO1.out] <;> rfl) (by rw [HE1.out] <;> rfl), by rw [HO1.out]; exact own, hbl⟩
    | false =>
      have hE1 : E = 1 := by rw [HE.out, rgE, if_neg (by simp [hv]), if_neg (by simp [hi])]
      have hO1 : O = [] := by rw [HO.out, rgL, if_neg (by rw [← HE.out, hE1]; simp)]
      have HE1 := Lib.hid hE1
      have HO1 := Lib.hid hO1
      clear hv hE1 hO1
      go_wp2_with (go_at_call 67; refine (within_any _ _ _ _).mono ?_; rintro e w' ⟨rfl, hw'⟩; subst hw'; rw [hi])
      go_ret2
      exact ⟨none, 0, ret2 (by rw [HO1.out] <;> rfl) (by rw [HE1.out] <;> rfl), by rw [HO1.out]; exact World.ownsRow_nil _ _ _ _, hb1⟩
  · have hv1 : (vrt r != 0) = true := by simp [hv]
    have hE1 : E = vrt r := by rw [HE.out, rgE, if_pos hv]
    have hO1 : O = [] := by rw [HO.out, rgL, if_neg (by rw [← HE.out, hE1]; exact hv)]
    have HE1 := Lib.hid hE1
    have HO1 := Lib.hid hO1
    clear hv hE1 hO1
    go_wp2
    go_ret2
    exact ⟨none, 0, ret2 (by rw [HO1.out] <;> rfl) (by rw [HE1.out] <;> rfl), by rw [HO1.out]; exact World.ownsRow_nil _ _ _ _, hb1⟩
end Go.Proofs.Ytoopmancobfjeaa
