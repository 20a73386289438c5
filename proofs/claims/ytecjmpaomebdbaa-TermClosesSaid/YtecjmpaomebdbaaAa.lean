/-
  Walks: copies of a term, and whether two are the same.
-/
import Derived.Test.YtecjmpaomebdbaaQ
import Derived.Deep.RegionWith
namespace Go.Proofs.Ytecjmpaomebdbaa
set_option linter.unusedVariables false
set_option linter.unusedSimpArgs false
open Go.RowKit

theorem take_gi {l : List Int} {k : Nat} (h : k < l.length) : l.take (k + 1) = l.take k ++ [gi l k] := by
  rw [List.take_add_one]; simp [gi, h]

set_option maxRecDepth 100000 in
set_option maxHeartbeats 1000000 in
theorem copyInts_any (l : List Int) (A : Option Addr) (c : Nat) (w : World) (hl : RN w A l) (hb : l.length ≤ 1000000) :
    Calls Try.prog 71 #[.slice A l.length c] w fun e w' => ∃ A' c', e = .returned (.slice A' l.length c') ∧ OwnN w' w.heap.size A' c' l ∧ Below w.heap.size w w' := by
  go_enter Try.func71, Try.ntmps71
  go_wp2
  go_loopw [3, 4] (fun o x wr => ∃ k : Nat, k ≤ l.length ∧ x = .int .i64 k ∧ ∃ A' c', o = .slice A' (l.take k).length c' ∧ OwnN wr w.heap.size A' c' (l.take k) ∧ Below w.heap.size w wr) (fun _ x _ => l.length - (intOf x).toNat)
  case atStart => exact ⟨0, by omega, rfl, none, 0, rfl, World.ownsRow_nil _ _ _ _, Below.refl _ _⟩
  case round =>
    obtain ⟨k, hk, rfl, A', c', rfl, own, hy⟩ := hrel
    have hll : (l.take k).length = k := by rw [List.length_take]; omega
    by_cases hlt : k < l.length
    · obtain ⟨ad, rfl, hab, e0⟩ := (hl.below hy).at_ hlt
      have hs := take_gi hlt
      have HS := Lib.hid hs
      have hbs := hy.size
      clear hs
      go_wp2_with (at_builtin; refine wpList_app1 rfl _ _ rfl Try.underlying22 info_int rfl (by omega) rfl own rfl rfl (by simp [Value.oneCell']) (by omega) (by omega) (by omega) ?_; intro A'' c'' w3 own3 hb3)
      go_roundw
      case rel => exact ⟨k + 1, by omega, by go_num, A'', c'', by rw [HS.out, List.length_append, hll]; rfl, OwnN.snoc own3 rfl (by rw [HS.out]), hy.trans (hb3 _ (Nat.le_refl _))⟩
      case measure => simp [intOf]; omega
    · have hkl : k = l.length := by omega
      subst hkl
      rw [List.take_length] at own ⊢
      go_wp2
      go_ret
      exact ⟨A', c', rfl, own, hy⟩

set_option maxRecDepth 100000 in
set_option maxHeartbeats 1000000 in
theorem copy_any (t : Tm) (A1 A2 : Option Addr) (c1 c2 : Nat) (w : World) (h1 : RN w A1 t.rest) (h2 : RN w A2 t.clo) (hl1 : t.rest.length ≤ 1000000) (hl2 : t.clo.length ≤ 1000000) :
    Calls Try.prog 33 #[.agg #[.int .i64 t.len, .slice A1 t.rest.length c1, .slice A2 t.clo.length c2]] w fun e w' => ∃ A c A' c', e = .returned (.agg #[.int .i64 t.len, .slice A t.rest.length c, .slice A' t.clo.length c']) ∧ OwnN w' w.heap.size A c t.rest ∧ OwnN w' w.heap.size A' c' t.clo ∧ Below w.heap.size w w' := by
  obtain ⟨w2, hw2⟩ : ∃ w2, ((w.alloc (.cells #[.int .i64 t.len, .slice A1 t.rest.length c1, .slice A2 t.clo.length c2] 24)).alloc (.cells #[.int .i64 0, .slice none 0 0, .slice none 0 0] 24)) = w2 := ⟨_, rfl⟩
  have hy : Below w.heap.size w w2 := by rw [← hw2]; exact ((Below.refl _ w).alloc (Nat.le_refl _) _).alloc (by simp) _
  have b0 : Box w2 w.heap.size #[.int .i64 t.len, .slice A1 t.rest.length c1, .slice A2 t.clo.length c2] := by rw [← hw2]; exact (Box.new w _ _).alloc _
  have b1 : Box w2 (w.heap.size + 1) #[.int .i64 0, .slice none 0 0, .slice none 0 0] := by rw [← hw2]; exact (Box.new (w.alloc (.cells #[.int .i64 t.len, .slice A1 t.rest.length c1, .slice A2 t.clo.length c2] 24)) _ _).at' (by simp)
  have r1 := h1.below hy
  have r2 := h2.below hy
  have d1 : RN w2.drew A1 t.rest := r1
  have d2 : RN w2.drew A2 t.clo := r2
  have x0 := b0.cell 0; have x1 := b0.cell 1; have x2 := b0.cell 2
  have f0 := b1.free 0; have f1 := b1.free 1; have f2 := b1.free 2
  have b0d := b0.drewN 1
  have b1d := b1.drewN 1
  simp only [List.getElem?_toArray, List.getElem?_cons_zero, List.getElem?_cons_succ] at x0 x1 x2
  have hsz : w.heap.size + 1 < w2.heap.size := b1.lt
  go_enter Try.func33, Try.ntmps33
  go_wp2_with fail
  go_cut [11] (fun s wx => ∃ A c A' c', wx.cell? ⟨w.heap.size + 1, 0, none⟩ = some (.int .i64 t.len) ∧ wx.cell? ⟨w.heap.size + 1, 1, none⟩ = some (.slice A t.rest.length c) ∧ wx.cell? ⟨w.heap.size + 1, 2, none⟩ = some (.slice A' t.clo.length c') ∧ OwnN wx w2.heap.size A c t.rest ∧ OwnN wx w2.heap.size A' c' t.clo ∧ Below w.heap.size w wx)
  case first =>
    go_region_held3 (fun w' => w'.cell? ⟨w.heap.size, 0, none⟩ = some (.int .i64 t.len) ∧ w'.cell? ⟨w.heap.size, 1, none⟩ = some (.slice A1 t.rest.length c1) ∧ w'.cell? ⟨w.heap.size, 2, none⟩ = some (.slice A2 t.clo.length c2) ∧ w'.frozen? ⟨w.heap.size + 1, 0, none⟩ = false ∧ w'.frozen? ⟨w.heap.size + 1, 1, none⟩ = false ∧ w'.frozen? ⟨w.heap.size + 1, 2, none⟩ = false)
      (first | go_keep | (go_split_ands; refine ⟨?_, ?_, ?_, ?_, ?_, ?_⟩ <;> ((first | rw [hbB.cell (by first | omega | (simp; omega))] | rw [hbB.frozen (by first | omega | (simp; omega))]); go_keep)) | (go_split_ands; refine ⟨?_, ?_, ?_, ?_, ?_, ?_⟩ <;> ((first | rw [hbA.cell (by first | omega | (simp; omega))] | rw [hbA.frozen (by first | omega | (simp; omega))]); go_keep)) | (go_split_ands; refine ⟨?_, ?_, ?_, ?_, ?_, ?_⟩ <;> simp [*, go_sem]))
      (first | (go_at_call 71; (with_reducible refine (copyInts_any t.rest A1 c1 _ d1 (by omega)).mono ?_); rintro e wA ⟨AA, cA, rfl, ownA, hbA⟩; have hsA : w2.heap.size ≤ wA.heap.size := hbA.size) | (go_at_call 71; (with_reducible refine (copyInts_any t.clo A2 c2 _ (d2.below hbA) (by omega)).mono ?_); rintro e wB ⟨AB, cB, rfl, ownB, hbB⟩; have hsB : wA.heap.size ≤ wB.heap.size := hbB.size; have z0B : wB.cell? ⟨w.heap.size + 1, 0, none⟩ = some (.int .i64 0) := (((b1d.below hbA).below hbB).cell 0).trans rfl; have z1B : wB.cell? ⟨w.heap.size + 1, 1, none⟩ = some (.slice none 0 0) := (((b1d.below hbA).below hbB).cell 1).trans rfl; have z2B : wB.cell? ⟨w.heap.size + 1, 2, none⟩ = some (.slice none 0 0) := (((b1d.below hbA).below hbB).cell 2).trans rfl))
    · go_wp2_with fail
      go_meet
      have hz : Below w.heap.size w wB := hy.trans ((((Below.refl w2.heap.size w2).drew.trans hbA).trans (hbB.mono hsA)).mono hy.size)
      have hz3 := ((hz.setCell (p := ⟨w.heap.size + 1, 0, none⟩) (by show w.heap.size ≤ w.heap.size + 1; omega) (.int .i64 t.len)).setCell (p := ⟨w.heap.size + 1, 1, none⟩) (by show w.heap.size ≤ w.heap.size + 1; omega) (.slice AA t.rest.length cA)).setCell (p := ⟨w.heap.size + 1, 2, none⟩) (by show w.heap.size ≤ w.heap.size + 1; omega) (.slice AB t.clo.length cB)
      refine ⟨AA, cA, AB, cB, ?_, ?_, ?_, ?_, ?_, hz3⟩
      · rw [World.cell?_setCell_other _ _ _ _ (by simp), World.cell?_setCell_other _ _ _ _ (by simp), World.cell?_setCell_same' _ _ _ (by rw [z0B]; rfl)]
      · rw [World.cell?_setCell_other _ _ _ _ (by simp), World.cell?_setCell_same' _ _ _ (by rw [World.cell?_setCell_other _ _ _ _ (by simp), z1B]; rfl)]
      · rw [World.cell?_setCell_same' _ _ _ (by rw [World.cell?_setCell_other _ _ _ _ (by simp), World.cell?_setCell_other _ _ _ _ (by simp), z2B]; rfl)]
      · exact ownsRow_setCell_below (ownsRow_setCell_below (ownsRow_setCell_below (ownA.kept hbB) hsz _) hsz _) hsz _
      · exact own_base (ownsRow_setCell_below (ownsRow_setCell_below (ownsRow_setCell_below ownB (show w.heap.size + 1 < wA.heap.size by omega) _) (show w.heap.size + 1 < wA.heap.size by omega) _) (show w.heap.size + 1 < wA.heap.size by omega) _) hsA
  case rest =>
    obtain ⟨A, c, A', c', q0, q1, q2, own1, own2, hb⟩ := hcut
    go_wp2_with fail
    refine bodyPost_ret (v := .agg #[.int .i64 t.len, .slice A t.rest.length c, .slice A' t.clo.length c']) (by simp [results, Try.results33, go_sem, q0, q1, q2]) rfl ?_
    exact ⟨A, c, A', c', rfl, own_base own1 (by omega), own_base own2 (by omega), hb⟩
end Go.Proofs.Ytecjmpaomebdbaa
