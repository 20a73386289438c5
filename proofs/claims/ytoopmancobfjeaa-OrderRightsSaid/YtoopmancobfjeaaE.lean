/-
  Walks: ordered, Spans, Changed, the reference's spans, SameSpans.
-/
import Derived.Test.YtoopmancobfjeaaD
namespace Go.Proofs.Ytoopmancobfjeaa
set_option linter.unusedVariables false
set_option linter.unusedSimpArgs false
open Go.RowKit

/-- A new block of one cell. -/
theorem ordf_any (g b : Nat) (ms : List Int) (k : Nat) (w : World) (hk : k < 1000) (hb : w.cell? ⟨b, 0, none⟩ = some (.slice (some ⟨g, 0, none⟩) 1000 1000)) (hc : w.cell? ⟨g, k, none⟩ = some (.int .i64 (gi ms k))) :
    Calls Try.prog 91 #[.int .i64 (k : Nat), .pointer (some ⟨b, 0, none⟩)] w fun e w' => e = .returned (.bool (decide (0 < gi ms k))) ∧ w' = w := by
  go_enter Try.func91, Try.ntmps91
  go_wp2
  go_ret
  exact ⟨rfl, rfl⟩
theorem chgf_any (g b g' b' : Nat) (ms ns : List Int) (k : Nat) (w : World) (hk : k < 1000) (hb : w.cell? ⟨b, 0, none⟩ = some (.slice (some ⟨g, 0, none⟩) 1000 1000)) (hc : w.cell? ⟨g, k, none⟩ = some (.int .i64 (gi ms k)))
    (hb' : w.cell? ⟨b', 0, none⟩ = some (.slice (some ⟨g', 0, none⟩) 1000 1000)) (hc' : w.cell? ⟨g', k, none⟩ = some (.int .i64 (gi ns k))) :
    Calls Try.prog 64 #[.int .i64 (k : Nat), .pointer (some ⟨b, 0, none⟩), .pointer (some ⟨b', 0, none⟩)] w fun e w' => e = .returned (.bool (gi ms k != gi ns k)) ∧ Below w.heap.size w w' := by
  go_enter Try.func64, Try.ntmps64
  go_wp2_with fail
  go_quiet (fail)
  go_wp2
  go_ret
  exact ⟨rfl, below_drewN (Below.refl _ _) _⟩

theorem gi_dayL (l : List Fact) (t c : Int) (k : Nat) (hk : k < 1000) : gi (dayL l t c) k = knw l t c k := by simp [gi, dayL, hk]
theorem gi_dayL_bd {l : List Fact} (hV : Vld l) (t c : Int) (k : Nat) : 0 ≤ gi (dayL l t c) k ∧ gi (dayL l t c) k ≤ 1000 := by
  by_cases hk : k < 1000
  · rw [gi_dayL l t c k hk]; have := knw_bd hV t c k; omega
  · have : gi (dayL l t c) k = 0 := by simp only [gi, List.getD]; rw [List.getElem?_eq_none (by rw [dayL_length]; omega)]; rfl
    omega
theorem spansL_dayL (l : List Fact) (t c : Int) : spTo (fun k => gi (dayL l t c) k) (fun k => decide (0 < gi (dayL l t c) k)) 1000 = spansL l t c :=
  spTo_congr _ _ _ _ _ fun i hi => by simp only [gi_dayL l t c i hi]; exact ⟨trivial, trivial⟩
theorem changedL_dayL (l : List Fact) (b t c : Int) : spTo (fun k => gi (dayL l t c) k) (fun k => gi (dayL l b c) k != gi (dayL l t c) k) 1000 = changedL l b t c :=
  spTo_congr _ _ _ _ _ fun i hi => by
    simp only [gi_dayL l t c i hi, gi_dayL l b c i hi]
    exact ⟨trivial, by rw [Bool.eq_iff_iff]; simp⟩

set_option maxHeartbeats 400000 in
theorem ordered_any (l : List Fact) (t child : Int) (hV : Vld l) (A : Option Addr) (c B : Nat) (hc : l.length ≤ c) (w : World) (hR : RF w B A l) :
    Calls Try.prog 59 #[.slice A l.length c, .int .i64 t, .int .i64 child] w fun e w' =>
      ∃ A c, e = .returned (.slice A (spansL l t child).length c) ∧ OwnS w' w.heap.size A c (spansL l t child) ∧ Below w.heap.size w w' := by
  go_enter Try.func59, Try.ntmps59
  go_wp2_with fail
  refine (days_any l t child hV A c B hc _ hR).mono ?_
  rintro e w1 ⟨g, rfl, own, hb1⟩
  have hg := own.lt
  go_wp2_with fail
  have hcells : ∀ W, Below (w1.heap.size + 1) (w1.alloc (.cells #[.slice (some ⟨g, 0, none⟩) 1000 1000] 53)) W → (∀ k, k < 1000 → W.cell? ⟨g, k, none⟩ = some (.int .i64 (gi (dayL l t child) k))) ∧ W.cell? ⟨w1.heap.size, 0, none⟩ = some (.slice (some ⟨g, 0, none⟩) 1000 1000) := by
    intro W hb
    obtain ⟨h1, _, _, h4⟩ := blk_facts hb (by omega)
    exact ⟨fun k hk => (h4.cell (p := ⟨g, k, none⟩) hg.2).trans (own.cell k hk), by rw [h1]; rfl⟩
  have hB : ∀ W, Below (w1.alloc (.cells #[.slice (some ⟨g, 0, none⟩) 1000 1000] 53)).heap.size (w1.alloc (.cells #[.slice (some ⟨g, 0, none⟩) 1000 1000] 53)) W → Below (w1.heap.size + 1) (w1.alloc (.cells #[.slice (some ⟨g, 0, none⟩) 1000 1000] 53)) W := fun W h => by simpa using h
  refine (spans_any (dayL l t child) (fun k => decide (0 < gi (dayL l t child) k)) 91 #[.pointer (some ⟨w1.heap.size, 0, none⟩)] enter_ordered g (w1.alloc (.cells #[.slice (some ⟨g, 0, none⟩) 1000 1000] 53)) (by simp; omega) (hcells _ (Below.refl _ _)).1 (gi_dayL_bd hV t child)
    (fun W k hk hb => (ordf_any g _ (dayL l t child) k W hk (hcells W (hB W hb)).2 ((hcells W (hB W hb)).1 k hk)).mono fun e W' ⟨h1, h2⟩ => ⟨h1, h2 ▸ Below.refl _ _⟩)).mono ?_
  rintro e w2 ⟨A', c', rfl, own2, hb2⟩
  rw [spansL_dayL] at own2 ⊢
  clear hcells hB own
  have hb3 := hb1.trans (((Below.refl w.heap.size w1).alloc hb1.size _).trans (hb2.mono (by have := hb1.size; simp; omega)))
  have own3 : OwnS w2 w.heap.size A' c' (spansL l t child) := own_base own2 (by have := hb1.size; simp; omega)
  clear own2 hb2
  go_wp2
  go_ret
  exact ⟨A', c', rfl, own3, hb3⟩

theorem ret2 {a b a' b' : Value} (h1 : a = a') (h2 : b = b') : Ending.returned (.tuple #[a, b]) = .returned (.tuple #[a', b']) := by rw [h1, h2]
/-- What Spans and Changed return: spans of the call's own, and an error. -/
def RetSp (w0 : World) (L : List Sp) (er : Int) (e : Ending) (w' : World) : Prop :=
  ∃ A c, e = .returned (.tuple #[.slice A L.length c, .int .i64 er]) ∧ OwnS w' w0.heap.size A c L ∧ Below w0.heap.size w0 w'
def spansR (l : List Fact) (t child : Int) : List Sp := if askd l (inB child 0 99) = 0 then spansL l t child else []
def changedR (l : List Fact) (b t child : Int) : List Sp := if askd l (inB child 0 99) = 0 then changedL l b t child else []

set_option maxHeartbeats 400000 in
theorem spansX_any (l : List Fact) (t child : Int) (hl : l.length ≤ 1000000000) (A : Option Addr) (c B : Nat) (hc : l.length ≤ c) (w : World) (hR : RF w B A l) :
    Calls Try.prog 17 #[.slice A l.length c, .int .i64 t, .int .i64 child] w (RetSp w (spansR l t child) (askd l (inB child 0 99))) := by
  go_enter Try.func17, Try.ntmps17
  go_wp2_with fail
  refine (isChild_any _ _).mono ?_
  rintro e w' ⟨rfl, rfl⟩
  go_wp2_with fail
  refine (asked_any l _ A c B _ hR hl).mono ?_
  rintro e w1 ⟨rfl, hb1⟩
  by_cases h0 : askd l (inB child 0 99) = 0
  · have h1 : (askd l (inB child 0 99) != 0) = false := by simp [h0]
    have hV := Vld.of (askd_ok h0).1
    have HZ := Lib.hid h0
    rw [h0]; clear h0 h1
    go_wp2_with fail
    refine (ordered_any l t child hV A c B hc _ (hR.below hb1)).mono ?_
    rintro e w2 ⟨A', c', rfl, own2, hb2⟩
    have hs : spansR l t child = spansL l t child := by unfold spansR; rw [if_pos HZ.out]
    go_wp2
    go_ret2
    exact ⟨A', c', ret2 (by rw [hs]; rfl) (by rw [HZ.out]; rfl), by rw [hs]; exact own_base own2 hb1.size, hb1.trans (hb2.mono hb1.size)⟩
  · have h1 : (askd l (inB child 0 99) != 0) = true := by simp [h0]
    have HZ := Lib.hid h0; clear h0
    have hs : spansR l t child = [] := by unfold spansR; rw [if_neg HZ.out]
    go_wp2
    go_ret2
    exact ⟨none, 0, by rw [hs]; rfl, by rw [hs]; exact World.ownsRow_nil _ _ _ _, hb1⟩

set_option maxHeartbeats 800000 in
theorem changedX_any (l : List Fact) (b t child : Int) (hl : l.length ≤ 1000000000) (A : Option Addr) (c B : Nat) (hc : l.length ≤ c) (w : World) (hR : RF w B A l) :
    Calls Try.prog 20 #[.slice A l.length c, .int .i64 b, .int .i64 t, .int .i64 child] w (RetSp w (changedR l b t child) (askd l (inB child 0 99))) := by
  go_enter Try.func20, Try.ntmps20
  go_wp2_with fail
  refine (isChild_any _ _).mono ?_
  rintro e w' ⟨rfl, rfl⟩
  go_wp2_with fail
  refine (asked_any l _ A c B _ hR hl).mono ?_
  rintro e w1 ⟨rfl, hb1⟩
  by_cases h0 : askd l (inB child 0 99) = 0
  · have h1 : (askd l (inB child 0 99) != 0) = false := by simp [h0]
    have hV := Vld.of (askd_ok h0).1
    have HZ := Lib.hid h0
    rw [h0]; clear h0 h1
    go_wp2_with fail
    refine (days_any l b child hV A c B hc _ (hR.below hb1)).mono ?_
    rintro e w2 ⟨g, rfl, own, hb2⟩
    have hb2' := hb1.trans (hb2.mono hb1.size)
    go_wp2_with fail
    refine (days_any l t child hV A c B hc _ (hR.below hb2')).mono ?_
    rintro e w3 ⟨g', rfl, own', hb3⟩
    have hb3' := hb2'.trans (hb3.mono hb2'.size)
    have own3 := own.kept hb3 own.lt.2
    have hg := own3.lt
    have hg' := own'.lt
    clear hb2 hb3 own
    go_wp2_with fail
    have hcells : ∀ W, Below (w3.heap.size + 2) ((w3.alloc (.cells #[.slice (some ⟨g, 0, none⟩) 1000 1000] 53)).alloc (.cells #[.slice (some ⟨g', 0, none⟩) 1000 1000] 53)) W →
        (∀ k, k < 1000 → W.cell? ⟨g, k, none⟩ = some (.int .i64 (gi (dayL l b child) k))) ∧ (∀ k, k < 1000 → W.cell? ⟨g', k, none⟩ = some (.int .i64 (gi (dayL l t child) k))) ∧
        W.cell? ⟨w3.heap.size, 0, none⟩ = some (.slice (some ⟨g, 0, none⟩) 1000 1000) ∧ W.cell? ⟨w3.heap.size + 1, 0, none⟩ = some (.slice (some ⟨g', 0, none⟩) 1000 1000) := by
      intro W hb
      have e1 : (w3.alloc (.cells #[.slice (some ⟨g, 0, none⟩) 1000 1000] 53)).heap.size = w3.heap.size + 1 := by simp
      obtain ⟨h1, _, _, h4⟩ := blk_facts hb (by omega)
      rw [e1] at h1 h4
      obtain ⟨h5, _, _, h6⟩ := blk_facts h4 (by omega)
      exact ⟨fun k hk => (h6.cell (p := ⟨g, k, none⟩) hg.2).trans (own3.cell k hk), fun k hk => (h6.cell (p := ⟨g', k, none⟩) hg'.2).trans (own'.cell k hk), by rw [h5]; rfl, by rw [h1]; rfl⟩
    have hz : ((w3.alloc (.cells #[.slice (some ⟨g, 0, none⟩) 1000 1000] 53)).alloc (.cells #[.slice (some ⟨g', 0, none⟩) 1000 1000] 53)).heap.size = w3.heap.size + 2 := by simp
    have HZ2 := Lib.hid hz; clear hz
    refine (spans_any (dayL l t child) (fun k => gi (dayL l b child) k != gi (dayL l t child) k) 64 #[.pointer (some ⟨w3.heap.size, 0, none⟩), .pointer (some ⟨w3.heap.size + 1, 0, none⟩)] enter_changed g'
      ((w3.alloc (.cells #[.slice (some ⟨g, 0, none⟩) 1000 1000] 53)).alloc (.cells #[.slice (some ⟨g', 0, none⟩) 1000 1000] 53)) (by rw [HZ2.out]; omega) (hcells _ (Below.refl _ _)).2.1 (gi_dayL_bd hV t child)
      (fun W k hk hb => chgf_any g _ g' _ (dayL l b child) (dayL l t child) k W hk (hcells W (HZ2.out ▸ hb)).2.2.1 ((hcells W (HZ2.out ▸ hb)).1 k hk) (hcells W (HZ2.out ▸ hb)).2.2.2 ((hcells W (HZ2.out ▸ hb)).2.1 k hk))).mono ?_
    rintro e w4 ⟨A', c', rfl, own2, hb4⟩
    rw [changedL_dayL] at own2 ⊢
    have hs : changedR l b t child = changedL l b t child := by unfold changedR; rw [if_pos HZ.out]
    have hs3 := hb3'.size
    have hb5 := hb3'.trans ((((Below.refl w'.heap.size w3).alloc hs3 _).alloc (by simp; omega) _).trans (hb4.mono (by rw [HZ2.out]; omega)))
    have own4 : OwnS w4 w'.heap.size A' c' (changedL l b t child) := own_base own2 (by rw [HZ2.out]; omega)
    clear hcells own2 hb4
    go_wp2
    go_ret2
    exact ⟨A', c', ret2 (by rw [hs]; rfl) (by rw [HZ.out]; rfl), by rw [hs]; exact own4, hb5⟩
  · have h1 : (askd l (inB child 0 99) != 0) = true := by simp [h0]
    have HZ := Lib.hid h0; clear h0
    have hs : changedR l b t child = [] := by unfold changedR; rw [if_neg HZ.out]
    go_wp2
    go_ret2
    exact ⟨none, 0, by rw [hs]; rfl, by rw [hs]; exact World.ownsRow_nil _ _ _ _, hb1⟩

end Go.Proofs.Ytoopmancobfjeaa
