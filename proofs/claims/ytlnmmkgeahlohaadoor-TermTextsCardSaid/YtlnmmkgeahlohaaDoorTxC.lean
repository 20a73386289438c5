/-
  Walks: the document's words and numbers read.
-/
import Derived.Test.YtlnmmkgeahlohaaDoorTxA
namespace Go.Proofs.YtlnmmkgeahlohaaDoor
set_option linter.unusedVariables false
set_option linter.unusedSimpArgs false
open Go.RowKit

theorem info_str : (Tryd.prog.info? 9).map (fun i => (i.zero, i.size, i.bytes)) = some (some (.string ⟨#[]⟩), 1, 16) := by kernel_rfl
def strs (l : List Wd) : List Value := l.map fun x => St x
/-- The slice (A, c) of the call's own holds the texts l. -/
def OwnS (w : World) (base : Nat) (A : Option Addr) (c : Nat) (l : List Wd) : Prop := w.ownsRow base 9 1 (.slice A l.length c) l.length (strs l)
theorem OwnS.kept {w w' : World} {base c : Nat} {A : Option Addr} {l : List Wd} (h : OwnS w base A c l) (hb : Below w.heap.size w w') : OwnS w' base A c l := own_below h hb fun k hk => (World.ownsRow.lt h k hk).2
theorem OwnS.snoc {w : World} {base c n : Nat} {A : Option Addr} {l l' : List Wd} {x : Wd} (h : w.ownsRow base 9 1 (.slice A (n + 1) c) (n + 1) (strs l ++ [St x])) (hn : n = l.length) (hl : l' = l ++ [x]) : OwnS w base A c l' := by
  subst hn
  have e1 : (l ++ [x]).length = l.length + 1 := by simp
  have e2 : strs (l ++ [x]) = strs l ++ [St x] := by simp [strs]
  rw [hl]
  unfold OwnS
  rw [e1, e2]
  exact h
/-- The slice (A, n = l.length) reads as the texts l. -/
def RS (w : World) (A : Option Addr) (l : List Wd) : Prop := Reads w w.heap.size 1 A l.length (strs l)
section
variable {w w' : World} {base c : Nat} {A : Option Addr} {l : List Wd}
theorem RS.below (h : RS w A l) (hb : Below w.heap.size w w') : RS w' A l := (Reads.below' h hb (Nat.le_refl _)).more hb.size
theorem RS.of_own (h : OwnS w base A c l) : RS w A l := Reads.of_own h
theorem RS.at_ (h : RS w A l) {k : Nat} (hk : k < l.length) : ∃ ad, A = some ad ∧ (ad.add k).block < w.heap.size ∧ w.cell? (ad.add k) = some (St l[k]) := by
  obtain ⟨ad, e, hb, hc⟩ := h.2 (by omega)
  exact ⟨ad, e, by rw [block_of_add]; exact hb, hc k _ (by simp [strs, hk])⟩
end
theorem st_cut (l : List UInt8) (a b : Nat) : ByteArray.extract ⟨l.toArray⟩ a b = ⟨((l.drop a).take (b - a)).toArray⟩ := by
  apply ByteArray.ext
  simp [ByteArray.data_extract, List.extract_toArray]
theorem st_size (s : List UInt8) : ByteArray.size ⟨s.toArray⟩ = s.length := by simp [ByteArray.size]
theorem st_get (s : List UInt8) (k : Nat) (h : k < ByteArray.size ⟨s.toArray⟩) : (⟨s.toArray⟩ : ByteArray)[k]'h = s[k]'(by rw [st_size] at h; exact h) := by
  simp [ByteArray.getElem_eq_getElem_data]
theorem wds_len : ∀ s : List UInt8, (wds s).length ≤ s.length + 1
  | [] => by simp [wds]
  | b :: r => by
    have := wds_len r
    unfold wds
    split
    · simp; omega
    · split
      · simp
      · rename_i h; rw [h] at this; simp at this ⊢; omega
theorem free_cut {s : List UInt8} {f k : Nat} (h : ∀ i, f ≤ i → i < k → ∀ b, s[i]? = some b → b ≠ 32) : free ((s.drop f).take (k - f)) := by
  intro b hb
  obtain ⟨i, hi, rfl⟩ := List.mem_iff_getElem.1 hb
  simp only [List.length_take, List.length_drop] at hi
  refine h (f + i) (by omega) (by omega) _ ?_
  rw [List.getElem_take, List.getElem_drop]
  exact List.getElem?_eq_getElem _
theorem cut_at {s : List UInt8} {f k : Nat} (hf : f ≤ k) (hk : k < s.length) (hb : s[k]? = some 32) : s.drop f = (s.drop f).take (k - f) ++ 32 :: s.drop (k + 1) := by
  have h1 : s.drop f = (s.drop f).take (k - f) ++ (s.drop f).drop (k - f) := (List.take_append_drop _ _).symm
  rw [List.drop_drop, show f + (k - f) = k by omega] at h1
  rw [List.drop_eq_getElem_cons hk] at h1
  rw [List.getElem?_eq_getElem hk] at hb
  rw [Option.some.inj hb] at h1
  exact h1
/-- What Words knows: the words before the place f, no blank from f to k. -/
def WI (s : List UInt8) (f k : Nat) (l : List Wd) : Prop := f ≤ k ∧ l ++ wds (s.drop f) = wds s ∧ ∀ i, f ≤ i → i < k → ∀ b, s[i]? = some b → b ≠ 32
theorem WI.blank {s : List UInt8} {f k : Nat} {l : List Wd} (h : WI s f k l) (hk : k < s.length) (hb : s[k]? = some 32) : WI s (k + 1) (k + 1) (l ++ [(s.drop f).take (k - f)]) := by
  refine ⟨Nat.le_refl _, ?_, fun i h1 h2 => by omega⟩
  rw [← h.2.1]
  have e := congrArg wds (cut_at h.1 hk hb)
  rw [wds_cut (free_cut h.2.2)] at e
  rw [e]
  simp
theorem WI.next {s : List UInt8} {f k : Nat} {l : List Wd} (h : WI s f k l) (hb : s[k]? ≠ some 32) : WI s f (k + 1) l := by
  refine ⟨by have := h.1; omega, h.2.1, fun i h1 h2 b e => ?_⟩
  by_cases hi : i = k
  · subst hi; intro hb'; subst hb'; exact hb e
  · exact h.2.2 i h1 (by omega) b e
theorem WI.fin {s : List UInt8} {f : Nat} {l : List Wd} (h : WI s f s.length l) : l ++ [(s.drop f).take (s.length - f)] = wds s := by
  have hf := free_cut h.2.2
  rw [← h.2.1]
  rw [show (s.drop f).take (s.length - f) = s.drop f from List.take_of_length_le (by simp)] at hf ⊢
  rw [wds_free hf]
set_option maxRecDepth 100000 in
set_option maxHeartbeats 400000 in
theorem words_any (s : List UInt8) (hs : s.length ≤ 1000000) (w : World) :
    Calls Tryd.prog 21 #[St s] w fun e w' => ∃ A c, e = .returned (.slice A (wds s).length c) ∧ OwnS w' w.heap.size A c (wds s) ∧ Below w.heap.size w w' := by
  go_enter Tryd.func21, Tryd.ntmps21
  go_wp2
  go_loopw [3, 4, 5] (fun o f x wr => ∃ a k : Nat, k ≤ s.length ∧ x = .int .i64 k ∧ f = .int .i64 a ∧ ∃ l A' c', o = .slice A' l.length c' ∧ WI s a k l ∧ OwnS wr w.heap.size A' c' l ∧ Below w.heap.size w wr) (fun _ _ x _ => s.length - (intOf x).toNat)
  case atStart => exact ⟨0, 0, by omega, rfl, rfl, [], none, 0, rfl, ⟨by omega, by simp, fun i h1 h2 => by omega⟩, World.ownsRow_nil _ _ _ _, Below.refl _ _⟩
  case round =>
    obtain ⟨a, k, hk, rfl, rfl, l, A', c', rfl, hi, own, hy⟩ := hrel
    have hbs := hy.size
    by_cases hlt : k < s.length
    · have hsz : k < ByteArray.size ⟨s.toArray⟩ := by rw [st_size]; exact hlt
      by_cases hb : s[k]? = some 32
      · have hq : ((((⟨s.toArray⟩ : ByteArray)[k]'hsz).toNat : Int) == 32) = true := by
          rw [List.getElem?_eq_getElem hlt] at hb
          rw [st_get, Option.some.inj hb]; rfl
        have hn := hi.blank hlt hb
        have hi1 := hi.1
        have hlen : l.length ≤ s.length + 1 := by
          have h1 := congrArg List.length hi.2.1
          have h2 := wds_len s
          rw [List.length_append] at h1
          omega
        have hcut := st_cut s a k
        have HC := Lib.hid hcut
        clear hcut hi hb
        go_wp2_with (at_builtin; refine wpList_app1 rfl _ _ rfl Tryd.underlying45 info_str rfl (by omega) rfl own rfl rfl (by simp [Value.oneCell']) (by omega) (by omega) (by omega) ?_; intro A'' c'' w3 own3 hb3)
        go_roundw
        case rel =>
          rw [HC.out] at own3
          exact ⟨k + 1, k + 1, by omega, by go_num, by go_num, _, A'', c'', by rw [List.length_append]; rfl, hn, OwnS.snoc own3 rfl rfl, hy.trans (hb3 _ (Nat.le_refl _))⟩
        case measure => simp [intOf]; omega
      · have hn := hi.next hb
        have hq : ((((⟨s.toArray⟩ : ByteArray)[k]'hsz).toNat : Int) == 32) = false := by
          rw [List.getElem?_eq_getElem hlt] at hb
          rw [st_get]
          simp only [beq_eq_false_iff_ne, ne_eq]
          intro h
          have h' : s[k].toNat = (32 : UInt8).toNat := by show _ = 32; omega
          exact hb (by rw [UInt8.toNat_inj.1 h'])
        clear hi hb
        go_wp2
        go_roundw
        case rel => exact ⟨a, k + 1, by omega, by go_num, rfl, l, A', c', rfl, hn, own, hy⟩
        case measure => simp [intOf]; omega
    · have hkl : k = s.length := by omega
      subst hkl
      have hn := hi.fin
      have hi1 := hi.1
      have hlen : l.length ≤ s.length + 1 := by
        have h1 := congrArg List.length hi.2.1
        have h2 := wds_len s
        rw [List.length_append] at h1
        omega
      have hcut := st_cut s a s.length
      have HC := Lib.hid hcut
      clear hcut hi
      go_wp2_with (at_builtin; refine wpList_app1 rfl _ _ rfl Tryd.underlying45 info_str rfl (by omega) rfl own rfl rfl (by simp [Value.oneCell']) (by omega) (by omega) (by omega) ?_; intro A'' c'' w3 own3 hb3)
      go_ret
      rw [HC.out] at own3
      rw [← hn]
      exact ⟨A'', c'', by rw [List.length_append]; rfl, OwnS.snoc own3 rfl rfl, hy.trans (hb3 _ (Nat.le_refl _))⟩
end Go.Proofs.YtlnmmkgeahlohaaDoor
