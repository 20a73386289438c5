import Derived.Test.YtiapkffihpgdcaaGreatDoorQA25
import Derived.Test.YtiapkffihpgdcaaGreatDoorQA26
import Derived.Test.YtiapkffihpgdcaaGreatDoorQA29
import Derived.BigRegion
set_option linter.unusedVariables false
set_option linter.unusedSimpArgs false
set_option maxRecDepth 100000
namespace Go.Proofs.YtiapkffihpgdcaaGreatDoor
open Go.RowKit
def lenV : Value → Nat
 | .slice _ n _ => n
 | _ => 0
/-- Out and rest, told of the whole text. -/
def RdI (t : Wd) (l : List Wd) (r : Wd) : Prop := rd t = (l ++ (rdL (200 - l.length) r).1, (rdL (200 - l.length) r).2)
theorem RdI.start (t : Wd) : RdI t [] t := by unfold RdI rd; simp
theorem RdI.go {t r : Wd} {l : List Wd} (h : RdI t l r) (hl : l.length < 200) (hg : goodL r = true) : RdI t (l ++ [lnOf r]) (nxt r) := by
 unfold RdI at h ⊢
 obtain ⟨n, hn⟩ : ∃ n, 200 - l.length = n + 1 := ⟨199 - l.length, by omega⟩
 rw [hn, rdL_go hg] at h
 have h2 : 200 - (l ++ [lnOf r]).length = n := by simp; omega
 rw [h2, h]
 simp
theorem RdI.stop {t r : Wd} {l : List Wd} (h : RdI t l r) (hg : goodL r = false) : rd t = (l, r) := by
 unfold RdI at h
 rw [rdL_stop hg] at h
 rw [h]; simp
theorem RdI.full {t r : Wd} {l : List Wd} (h : RdI t l r) (hl : ¬ l.length < 200) : rd t = (l, r) := by
 unfold RdI at h
 have h2 : 200 - l.length = 0 := by omega
 rw [h2] at h
 rw [h]; simp [rdL]
theorem goodL_iff (r : Wd) : goodL r = true ↔ (10 : UInt8) ∈ r ∧ lnOf r ≠ [] ∧ (lnOf r).length ≤ 60 := by
 unfold goodL
 rw [decide_eq_true_eq, lnOf_lt]
set_option maxHeartbeats 1600000 in
theorem read_any {w : World} (hE : EnvZ w) (t : Wd) (ht : t.length ≤ 1000000000) :
  Calls Tryz.prog 32 #[St t] w fun e w' => ∃ A c, e = .returned (.tuple #[.slice A (rd t).1.length c, St (rd t).2]) ∧ OwnS w' w.heap.size A c (rd t).1 ∧ Below w.heap.size w w' := by
 obtain ⟨l1, r1, hr1⟩ : ∃ l1 r1, rd t = (l1, r1) := ⟨_, _, rfl⟩
 rw [hr1]
 have HR := Lib.hid hr1
 clear hr1
 go_enter Tryz.func32, Tryz.ntmps32
 go_wp2_with fail
 go_loopw [0, 4] (fun b o wr => ∃ (r : Wd) (l : List Wd) (A : Option Addr) (c : Nat), b = St r ∧ o = .slice A l.length c ∧ r.length ≤ 1000000000 ∧ l.length ≤ 200 ∧ Hid (RdI t l r) ∧ OwnS wr w.heap.size A c l ∧ Below w.heap.size w wr) (fun _ o _ => 200 - lenV o)
 case atStart => exact ⟨t, [], none, 0, rfl, rfl, ht, by simp, RdI.start t, World.ownsRow_nil _ _ _ _, Below.refl _ _⟩
 case round =>
  obtain ⟨r, l, A, c, rfl, rfl, hrl, hll, HI, own, hy⟩ := hrel
  have hsz := hy.size
  by_cases hlt : l.length < 200
  ·obtain ⟨m, hm⟩ := (hE.below hy).max
   have hcut := cutNl_any hm r hrl
   cases hg : goodL r with
   | true =>
    obtain ⟨h1, h2, h3⟩ := (goodL_iff r).1 hg
    rw [cut_nl_yes h1] at hcut
    have HN := Lib.hid (HI.out.go hlt hg)
    obtain ⟨L, hL⟩ : ∃ L, L = lnOf r := ⟨_, rfl⟩
    obtain ⟨X, hX⟩ : ∃ X, X = nxt r := ⟨_, rfl⟩
    have hxl : X.length ≤ 1000000000 := by rw [hX]; have := nxt_len r; omega
    rw [← hL, ← hX] at HN hcut
    rw [← hL] at h2 h3
    have h2' : (L == []) = false := by simpa using h2
    have HC := Lib.hid hcut
    clear hcut h2 h1 hg hL hX
    go_wp2_with (first
     | (go_at_call 94; (with_reducible refine HC.out.mono ?_); rintro e w3 ⟨rfl, n, hw3⟩; subst hw3; have own3 := own_below own (Go.below_drewN (Below.refl _ wr) n) (fun k hk => (World.ownsRow.lt own k hk).2))
     | (at_builtin; refine wpList_app1 rfl _ _ rfl Tryz.underlying33 info_str rfl (by omega) rfl own3 rfl rfl (by simp [Value.oneCell']) (by omega) (by omega) (by simp; omega) ?_; intro A'' c'' w4 own4 hb4))
    have hy4 := (Go.below_drewN hy n).trans (hb4 _ (Nat.le_refl _))
    have ow4 := OwnS.snoc own4 rfl rfl
    have hll2 : (l ++ [L]).length = l.length + 1 := by simp
    go_roundw
    case rel => exact ⟨X, l ++ [L], A'', c'', rfl, by rw [hll2], hxl, by omega, HN, ow4, hy4⟩
    case measure => simp [lenV]; omega
   | false =>
    have hend := HR.out.symm.trans (HI.out.stop hg)
    obtain ⟨rfl, rfl⟩ := Prod.mk.inj hend
    clear hend
    by_cases hn : (10 : UInt8) ∈ r1
    ·rw [cut_nl_yes hn] at hcut
     by_cases h2 : lnOf r1 = []
     ·rw [h2] at hcut
      obtain ⟨X, hX⟩ : ∃ X, X = nxt r1 := ⟨_, rfl⟩
      rw [← hX] at hcut
      have HC := Lib.hid hcut
      clear hcut h2 hg hX hn
      go_wp2_with (go_at_call 94; (with_reducible refine HC.out.mono ?_); rintro e w3 ⟨rfl, n, hw3⟩; subst hw3)
      go_ret2
      exact ⟨A, c, rfl, own_below own (Go.below_drewN (Below.refl _ wr) n) (fun k hk => (World.ownsRow.lt own k hk).2), Go.below_drewN hy n⟩
     ·have h3 : 60 < (lnOf r1).length := by
       by_cases h3 : (lnOf r1).length ≤ 60
       ·rw [(goodL_iff r1).2 ⟨hn, h2, h3⟩] at hg; cases hg
       ·omega
      have h4 := lnOf_le r1
      obtain ⟨X, hX⟩ : ∃ X, X = nxt r1 := ⟨_, rfl⟩
      obtain ⟨L, hL⟩ : ∃ L, L = lnOf r1 := ⟨_, rfl⟩
      rw [← hX, ← hL] at hcut
      rw [← hL] at h2 h3 h4
      have h2' : (L == []) = false := by simpa using h2
      have HC := Lib.hid hcut
      clear hcut h2 hg hX hn hL
      go_wp2_with (go_at_call 94; (with_reducible refine HC.out.mono ?_); rintro e w3 ⟨rfl, n, hw3⟩; subst hw3)
      go_ret2
      exact ⟨A, c, rfl, own_below own (Go.below_drewN (Below.refl _ wr) n) (fun k hk => (World.ownsRow.lt own k hk).2), Go.below_drewN hy n⟩
    ·rw [cut_nl_no hn] at hcut
     have HC := Lib.hid hcut
     clear hcut hg hn
     go_wp2_with (go_at_call 94; (with_reducible refine HC.out.mono ?_); rintro e w3 ⟨rfl, n, hw3⟩; subst hw3)
     go_ret2
     exact ⟨A, c, rfl, own_below own (Go.below_drewN (Below.refl _ wr) n) (fun k hk => (World.ownsRow.lt own k hk).2), Go.below_drewN hy n⟩
  ·have hend := HR.out.symm.trans (HI.out.full hlt)
   obtain ⟨rfl, rfl⟩ := Prod.mk.inj hend
   clear hend
   go_wp2_with fail
   go_ret2
   exact ⟨A, c, rfl, own, hy⟩
section
variable {w0 w w' w2 : World} {N : Nat} {Z : Nat → Prop} {g x : Nat} {s : Of}
/-- What was made behind the office is not its own. -/
theorem KN.zone (hk : KN w0 N Z g s w) (hb : Below w.heap.size w w2) : KN w0 N (fun k => w.heap.size ≤ k ∧ k < w2.heap.size) g s w2 := by
 obtain ⟨F, h, hP, hE, hy, hF, hZ⟩ := hk
 exact ⟨F, h, hP.below hb, hE.below hb, hy.trans (hb.mono hy.size), hF, fun k hz => ⟨hz.2, fun hk => by have := (hP.lo k hk).2; omega⟩⟩
theorem KN.doZ (hk : KN w0 N Z g s w) (hN : N < 1000000000) (txt : Wd) (ht : txt.length ≤ 1000000000) :
  Calls Tryz.prog 25 #[.pointer (some ⟨g, 0, none⟩), St txt] w fun e w' => e = .returned (.int .i64 (doE s txt)) ∧ KN w0 (N + 1) Z g (doS s txt) w' ∧ Keeps Z w w' := by
 obtain ⟨F, h, hP, hE, hy, hF, hZ⟩ := hk
 refine (Do_any hP hE hN txt ht).mono ?_
 rintro e w' ⟨he, ho, h', hP'⟩
 have hs := ho.size
 refine ⟨he, ⟨grown F w w', h', hP', hE.off ho hP.f7, hy.trans (ho.to_below hF hy.size), ?_, ?_⟩, .of_off ho fun k hz _ => (hZ k hz).2⟩
 ·rintro k (hk | hk)
  ·exact hF k hk
  ·have := hy.size; omega
 ·intro k hz
  have := hZ k hz
  exact ⟨by omega, fun hk => hk.elim this.2 (fun hk => by omega)⟩
/-- The document's office in some memory, made behind the world w0; the blocks Z are not its own. -/
def KR (w0 : World) (Z : Nat → Prop) (x : Nat) (s : Of) (w : World) : Prop :=
 ∃ (F : Nat → Prop) (h : Hr), RO w F x h s ∧ Below w0.heap.size w0 w ∧ (∀ k, F k → w0.heap.size ≤ k) ∧ ∀ k, Z k → k < w.heap.size ∧ ¬ F k
end
theorem runTo_get (o : Of) (ls : List Wd) {k : Nat} (hk : k < ls.length) : runTo o ls (k + 1) = doS (runTo o ls k) ls[k] := by rw [runTo_succ o ls hk, nil_getD hk]
theorem rd_len (t : Wd) : (rd t).1.length ≤ 200 := rdL_len 200 t
theorem rdL_lines (n : Nat) : ∀ t, ∀ w ∈ (rdL n t).1, w.length ≤ 60 := by
 induction n with
 | zero => intro t w h; simp [rdL] at h
 | succ n ih =>
  intro t w h
  simp only [rdL] at h
  split at h
  ·rename_i hg
   rcases List.mem_cons.1 h with rfl | h
   ·unfold goodL at hg; rw [decide_eq_true_eq] at hg; exact hg.2.2
   ·exact ih _ w h
  ·simp at h
theorem rd_line (t : Wd) {k : Nat} (hk : k < (rd t).1.length) : ((rd t).1.getD k []).length ≤ 60 := by rw [nil_getD hk]; exact rdL_lines 200 t _ (List.getElem_mem hk)
set_option maxHeartbeats 1600000 in
theorem preplay_bad {f : Fi} {w : World} (hf : f.In w) (hl : f.Len) (hE : EnvA w) (t : Wd) (ht : t.length ≤ 1000000) (hz : f.e ≠ 0) :
  Calls Tryz.prog 55 #[.agg #[.int .i64 f.t.len, .slice f.A1 f.t.rest.length f.c1, .slice f.A2 f.t.clo.length f.c2], .agg #[.int .i64 f.c.n, .int .i64 f.c.f, .int .i64 f.c.k], .agg #[.int .i64 f.b.props, .slice f.B1 f.b.items.length f.d1, .slice f.B2 f.b.rules.length f.d2], St t] w fun e w' => e = .returned (.tuple #[.pointer none, .int .i64 0, .int .i64 f.e]) ∧ Below w.heap.size w w' := by
 obtain ⟨w2, hw2⟩ : ∃ w2, (((w.alloc (.cells #[.int .i64 f.t.len, .slice f.A1 f.t.rest.length f.c1, .slice f.A2 f.t.clo.length f.c2] 24)).alloc (.cells #[.int .i64 f.c.n, .int .i64 f.c.f, .int .i64 f.c.k] 26)).alloc (.cells #[.int .i64 f.b.props, .slice f.B1 f.b.items.length f.d1, .slice f.B2 f.b.rules.length f.d2] 30)) = w2 := ⟨_, rfl⟩
 have hy : Below w.heap.size w w2 := by rw [← hw2]; exact (((Below.refl _ w).alloc (Nat.le_refl _) _).alloc (by simp) _).alloc (by simp; omega) _
 have b0 : Box w2 w.heap.size #[.int .i64 f.t.len, .slice f.A1 f.t.rest.length f.c1, .slice f.A2 f.t.clo.length f.c2] := by rw [← hw2]; exact ((Box.new w _ _).alloc _).alloc _
 have b1 : Box w2 (w.heap.size + 1) #[.int .i64 f.c.n, .int .i64 f.c.f, .int .i64 f.c.k] := by rw [← hw2]; exact ((Box.new (w.alloc (.cells #[.int .i64 f.t.len, .slice f.A1 f.t.rest.length f.c1, .slice f.A2 f.t.clo.length f.c2] 24)) _ _).at' (by simp)).alloc _
 have b2 : Box w2 (w.heap.size + 1 + 1) #[.int .i64 f.b.props, .slice f.B1 f.b.items.length f.d1, .slice f.B2 f.b.rules.length f.d2] := by rw [← hw2]; exact (Box.new ((w.alloc (.cells #[.int .i64 f.t.len, .slice f.A1 f.t.rest.length f.c1, .slice f.A2 f.t.clo.length f.c2] 24)).alloc (.cells #[.int .i64 f.c.n, .int .i64 f.c.f, .int .i64 f.c.k] 26)) _ _).at' (by simp)
 have x0 := b0.cell 0; have x1 := b0.cell 1; have x2 := b0.cell 2; have y0 := b1.cell 0; have y1 := b1.cell 1; have y2 := b1.cell 2; have z0 := b2.cell 0; have z1 := b2.cell 1; have z2 := b2.cell 2
 simp only [List.getElem?_toArray, List.getElem?_cons_zero, List.getElem?_cons_succ] at x0 x1 x2 y0 y1 y2 z0 z1 z2
 have HP := Lib.hid (pnew_bad (hf.below hy) hl (by have := hy.size; have := hE.z.size; omega) hz)
 have hne : (f.e != 0) = true := by simpa using hz
 clear hz
 go_enter Tryz.func55, Tryz.ntmps55
 go_wp2_with (go_at_call 20; (with_reducible refine HP.out.mono ?_); rintro e w3 ⟨rfl, hb3⟩)
 go_ret3
 exact ⟨rfl, hy.trans (hb3.mono hy.size)⟩
set_option maxHeartbeats 1600000 in
theorem preplay_rest {f : Fi} {w : World} (hf : f.In w) (hl : f.Len) (hE : EnvA w) (t : Wd) (ht : t.length ≤ 1000000) (hz : f.e = 0) (hr : (rd t).2 ≠ []) :
  Calls Tryz.prog 55 #[.agg #[.int .i64 f.t.len, .slice f.A1 f.t.rest.length f.c1, .slice f.A2 f.t.clo.length f.c2], .agg #[.int .i64 f.c.n, .int .i64 f.c.f, .int .i64 f.c.k], .agg #[.int .i64 f.b.props, .slice f.B1 f.b.items.length f.d1, .slice f.B2 f.b.rules.length f.d2], St t] w fun e w' => e = .returned (.tuple #[.pointer none, .int .i64 0, .int .i64 3]) ∧ Below w.heap.size w w' := by
 obtain ⟨w2, hw2⟩ : ∃ w2, (((w.alloc (.cells #[.int .i64 f.t.len, .slice f.A1 f.t.rest.length f.c1, .slice f.A2 f.t.clo.length f.c2] 24)).alloc (.cells #[.int .i64 f.c.n, .int .i64 f.c.f, .int .i64 f.c.k] 26)).alloc (.cells #[.int .i64 f.b.props, .slice f.B1 f.b.items.length f.d1, .slice f.B2 f.b.rules.length f.d2] 30)) = w2 := ⟨_, rfl⟩
 have hy : Below w.heap.size w w2 := by rw [← hw2]; exact (((Below.refl _ w).alloc (Nat.le_refl _) _).alloc (by simp) _).alloc (by simp; omega) _
 have b0 : Box w2 w.heap.size #[.int .i64 f.t.len, .slice f.A1 f.t.rest.length f.c1, .slice f.A2 f.t.clo.length f.c2] := by rw [← hw2]; exact ((Box.new w _ _).alloc _).alloc _
 have b1 : Box w2 (w.heap.size + 1) #[.int .i64 f.c.n, .int .i64 f.c.f, .int .i64 f.c.k] := by rw [← hw2]; exact ((Box.new (w.alloc (.cells #[.int .i64 f.t.len, .slice f.A1 f.t.rest.length f.c1, .slice f.A2 f.t.clo.length f.c2] 24)) _ _).at' (by simp)).alloc _
 have b2 : Box w2 (w.heap.size + 1 + 1) #[.int .i64 f.b.props, .slice f.B1 f.b.items.length f.d1, .slice f.B2 f.b.rules.length f.d2] := by rw [← hw2]; exact (Box.new ((w.alloc (.cells #[.int .i64 f.t.len, .slice f.A1 f.t.rest.length f.c1, .slice f.A2 f.t.clo.length f.c2] 24)).alloc (.cells #[.int .i64 f.c.n, .int .i64 f.c.f, .int .i64 f.c.k] 26)) _ _).at' (by simp)
 have x0 := b0.cell 0; have x1 := b0.cell 1; have x2 := b0.cell 2; have y0 := b1.cell 0; have y1 := b1.cell 1; have y2 := b1.cell 2; have z0 := b2.cell 0; have z1 := b2.cell 1; have z2 := b2.cell 2
 simp only [List.getElem?_toArray, List.getElem?_cons_zero, List.getElem?_cons_succ] at x0 x1 x2 y0 y1 y2 z0 z1 z2
 have HP := Lib.hid (pnew_ok (hf.below hy) hl (by have := hy.size; have := hE.z.size; omega) hz)
 have hrd := fun (w' : World) (hb : Below w2.heap.size w2 w') => @read_any w' ((hE.below (hy.trans (hb.mono hy.size))).z) t (by omega)
 obtain ⟨ls, rst, hlr⟩ : ∃ ls rst, rd t = (ls, rst) := ⟨_, _, rfl⟩
 simp only [hlr] at hrd hr
 have HRD := Lib.hid hrd
 clear hrd
 have hr1 : rst.isEmpty = false := by simpa using hr
 clear hz hlr hr
 go_enter Tryz.func55, Tryz.ntmps55
 go_wp2_with (first
  | (go_at_call 20; (with_reducible refine HP.out.mono ?_); rintro e w3 ⟨g, h, rfl, hpo, hb3⟩; have hk3 : KN w2 0 (fun _ => False) g f.s0 w3 := ⟨_, h, hpo, (hE.below hy).below hb3, hb3, fun k hk => hk.1, fun _ hz => hz.elim⟩)
  | (go_at_call 32; (with_reducible refine (HRD.out _ hb3).mono ?_); rintro e w4 ⟨A, c, rfl, own4, hb4⟩))
 go_ret3
 exact ⟨rfl, hy.trans ((hb3.trans (hb4.mono hb3.size)).mono hy.size)⟩
set_option maxHeartbeats 1600000 in
theorem preplay_stop {f : Fi} {w : World} (hf : f.In w) (hl : f.Len) (hE : EnvA w) (t : Wd) (ht : t.length ≤ 1000000) (hz : f.e = 0) (hr : (rd t).2 = []) (i : Nat) (hi : i < (rd t).1.length) (hok : okTo f.s0 (rd t).1 i = true) (hd : doE (runTo f.s0 (rd t).1 i) ((rd t).1.getD i []) ≠ 0) :
  Calls Tryz.prog 55 #[.agg #[.int .i64 f.t.len, .slice f.A1 f.t.rest.length f.c1, .slice f.A2 f.t.clo.length f.c2], .agg #[.int .i64 f.c.n, .int .i64 f.c.f, .int .i64 f.c.k], .agg #[.int .i64 f.b.props, .slice f.B1 f.b.items.length f.d1, .slice f.B2 f.b.rules.length f.d2], St t] w fun e w' => e = .returned (.tuple #[.pointer none, .int .i64 i, .int .i64 (doE (runTo f.s0 (rd t).1 i) ((rd t).1.getD i []))]) ∧ Below w.heap.size w w' := by
 obtain ⟨w2, hw2⟩ : ∃ w2, (((w.alloc (.cells #[.int .i64 f.t.len, .slice f.A1 f.t.rest.length f.c1, .slice f.A2 f.t.clo.length f.c2] 24)).alloc (.cells #[.int .i64 f.c.n, .int .i64 f.c.f, .int .i64 f.c.k] 26)).alloc (.cells #[.int .i64 f.b.props, .slice f.B1 f.b.items.length f.d1, .slice f.B2 f.b.rules.length f.d2] 30)) = w2 := ⟨_, rfl⟩
 have hy : Below w.heap.size w w2 := by rw [← hw2]; exact (((Below.refl _ w).alloc (Nat.le_refl _) _).alloc (by simp) _).alloc (by simp; omega) _
 have b0 : Box w2 w.heap.size #[.int .i64 f.t.len, .slice f.A1 f.t.rest.length f.c1, .slice f.A2 f.t.clo.length f.c2] := by rw [← hw2]; exact ((Box.new w _ _).alloc _).alloc _
 have b1 : Box w2 (w.heap.size + 1) #[.int .i64 f.c.n, .int .i64 f.c.f, .int .i64 f.c.k] := by rw [← hw2]; exact ((Box.new (w.alloc (.cells #[.int .i64 f.t.len, .slice f.A1 f.t.rest.length f.c1, .slice f.A2 f.t.clo.length f.c2] 24)) _ _).at' (by simp)).alloc _
 have b2 : Box w2 (w.heap.size + 1 + 1) #[.int .i64 f.b.props, .slice f.B1 f.b.items.length f.d1, .slice f.B2 f.b.rules.length f.d2] := by rw [← hw2]; exact (Box.new ((w.alloc (.cells #[.int .i64 f.t.len, .slice f.A1 f.t.rest.length f.c1, .slice f.A2 f.t.clo.length f.c2] 24)).alloc (.cells #[.int .i64 f.c.n, .int .i64 f.c.f, .int .i64 f.c.k] 26)) _ _).at' (by simp)
 have x0 := b0.cell 0; have x1 := b0.cell 1; have x2 := b0.cell 2; have y0 := b1.cell 0; have y1 := b1.cell 1; have y2 := b1.cell 2; have z0 := b2.cell 0; have z1 := b2.cell 1; have z2 := b2.cell 2
 simp only [List.getElem?_toArray, List.getElem?_cons_zero, List.getElem?_cons_succ] at x0 x1 x2 y0 y1 y2 z0 z1 z2
 have HP := Lib.hid (pnew_ok (hf.below hy) hl (by have := hy.size; have := hE.z.size; omega) hz)
 have hll := rd_len t
 have hln := fun (k : Nat) (hk : k < (rd t).1.length) => rd_line t hk
 have hrd := fun (w' : World) (hb : Below w2.heap.size w2 w') => @read_any w' ((hE.below (hy.trans (hb.mono hy.size))).z) t (by omega)
 obtain ⟨ls, rst, hlr⟩ : ∃ ls rst, rd t = (ls, rst) := ⟨_, _, rfl⟩
 simp only [hlr] at hrd hr hll hln hok hd hi ⊢
 have HRD := Lib.hid hrd
 clear hrd
 rw [okTo_iff] at hok
 have HOK := Lib.hid hok
 have HLN := Lib.hid hln
 obtain ⟨D, hD⟩ : ∃ D, D = doE (runTo f.s0 ls i) (ls.getD i []) := ⟨_, rfl⟩
 rw [← hD] at hd ⊢
 have HD := Lib.hid hD
 have hdn : (D != 0) = true := by simpa using hd
 subst hr
 clear hz hlr hok hln hd hD
 go_enter Tryz.func55, Tryz.ntmps55
 go_wp2_with (first
  | (go_at_call 20; (with_reducible refine HP.out.mono ?_); rintro e w3 ⟨g, h, rfl, hpo, hb3⟩; have hk3 : KN w2 0 (fun _ => False) g f.s0 w3 := ⟨_, h, hpo, (hE.below hy).below hb3, hb3, fun k hk => hk.1, fun _ hz => hz.elim⟩)
  | (go_at_call 32; (with_reducible refine (HRD.out _ hb3).mono ?_); rintro e w4 ⟨A, c, rfl, own4, hb4⟩))
 have hk4 := hk3.zone hb4
 have hrs : ReadsF (fun j => w3.heap.size ≤ j ∧ j < w4.heap.size) w4 1 A ls.length (strs ls) := ReadsF.of_own' own4 fun k h1 h2 => ⟨h1, h2⟩
 clear x0 x1 x2 y0 y1 y2 z0 z1 z2 b0 b1 b2 hw2 hk3 own4 HP HRD
 go_loopw [37] (fun v wr => ∃ k : Nat, k ≤ i ∧ v = .int .i64 k ∧ KN w2 k (fun j => w3.heap.size ≤ j ∧ j < w4.heap.size) g (runTo f.s0 ls k) wr ∧ ReadsF (fun j => w3.heap.size ≤ j ∧ j < w4.heap.size) wr 1 A ls.length (strs ls)) (fun v _ => i - (intOf v).toNat)
 case atStart => exact ⟨0, by omega, rfl, by rw [runTo_zero]; exact hk4, hrs⟩
 case round =>
  clear hk4 hrs
  obtain ⟨k, hk, rfl, hkn, hrk⟩ := hrel
  by_cases hlt : k < i
  ·have hkl : k < ls.length := by omega
   obtain ⟨ad, rfl, hab, c0⟩ := RS.at_ hrk.1 hkl
   have hdz := HOK.out k (by omega)
   rw [nil_getD hkl] at hdz
   have hrt := runTo_get f.s0 ls hkl
   have htl := HLN.out k hkl
   rw [nil_getD hkl] at htl
   obtain ⟨tx, htx⟩ : ∃ tx, tx = ls[k] := ⟨_, rfl⟩
   rw [← htx] at c0 hdz hrt htl
   have hdo := hkn.doZ (by omega) tx (by omega)
   rw [hdz, ← hrt] at hdo
   have HDO := Lib.hid hdo
   clear htx hdz hrt hdo
   go_wp2_with (go_at_call 25; (with_reducible refine HDO.out.mono ?_); rintro e w5 ⟨rfl, hk5, hz5⟩)
   go_roundw
   case rel => exact ⟨k + 1, by omega, by go_num, hk5, hrk.kept hz5⟩
   case measure => simp [intOf]; omega
  ·obtain rfl : k = i := by omega
   obtain ⟨ad, rfl, hab, c0⟩ := RS.at_ hrk.1 hi
   have htl := HLN.out k hi
   have hdk := HD.out
   rw [nil_getD hi] at htl hdk
   obtain ⟨tx, htx⟩ : ∃ tx, tx = ls[k] := ⟨_, rfl⟩
   rw [← htx] at c0 htl hdk
   have hdo := hkn.doZ (by omega) tx (by omega)
   rw [← hdk] at hdo
   have HDO := Lib.hid hdo
   clear htx hdo hdk
   go_wp2_with (go_at_call 25; (with_reducible refine HDO.out.mono ?_); rintro e w5 ⟨rfl, hk5, hz5⟩)
   go_ret3
   exact ⟨rfl, hy.trans (hk5.at_.mono hy.size)⟩
set_option maxHeartbeats 1600000 in
theorem preplay_ok {f : Fi} {w : World} (hf : f.In w) (hl : f.Len) (hE : EnvA w) (t : Wd) (ht : t.length ≤ 1000000) (hz : f.e = 0) (hr : (rd t).2 = []) (hok : okTo f.s0 (rd t).1 (rd t).1.length = true) :
  Calls Tryz.prog 55 #[.agg #[.int .i64 f.t.len, .slice f.A1 f.t.rest.length f.c1, .slice f.A2 f.t.clo.length f.c2], .agg #[.int .i64 f.c.n, .int .i64 f.c.f, .int .i64 f.c.k], .agg #[.int .i64 f.b.props, .slice f.B1 f.b.items.length f.d1, .slice f.B2 f.b.rules.length f.d2], St t] w fun e w' => ∃ g, e = .returned (.tuple #[.pointer (some ⟨g, 0, none⟩), .int .i64 (rd t).1.length, .int .i64 0]) ∧ KN w (rd t).1.length (fun _ => False) g (runS f.s0 (rd t).1) w' := by
 obtain ⟨w2, hw2⟩ : ∃ w2, (((w.alloc (.cells #[.int .i64 f.t.len, .slice f.A1 f.t.rest.length f.c1, .slice f.A2 f.t.clo.length f.c2] 24)).alloc (.cells #[.int .i64 f.c.n, .int .i64 f.c.f, .int .i64 f.c.k] 26)).alloc (.cells #[.int .i64 f.b.props, .slice f.B1 f.b.items.length f.d1, .slice f.B2 f.b.rules.length f.d2] 30)) = w2 := ⟨_, rfl⟩
 have hy : Below w.heap.size w w2 := by rw [← hw2]; exact (((Below.refl _ w).alloc (Nat.le_refl _) _).alloc (by simp) _).alloc (by simp; omega) _
 have b0 : Box w2 w.heap.size #[.int .i64 f.t.len, .slice f.A1 f.t.rest.length f.c1, .slice f.A2 f.t.clo.length f.c2] := by rw [← hw2]; exact ((Box.new w _ _).alloc _).alloc _
 have b1 : Box w2 (w.heap.size + 1) #[.int .i64 f.c.n, .int .i64 f.c.f, .int .i64 f.c.k] := by rw [← hw2]; exact ((Box.new (w.alloc (.cells #[.int .i64 f.t.len, .slice f.A1 f.t.rest.length f.c1, .slice f.A2 f.t.clo.length f.c2] 24)) _ _).at' (by simp)).alloc _
 have b2 : Box w2 (w.heap.size + 1 + 1) #[.int .i64 f.b.props, .slice f.B1 f.b.items.length f.d1, .slice f.B2 f.b.rules.length f.d2] := by rw [← hw2]; exact (Box.new ((w.alloc (.cells #[.int .i64 f.t.len, .slice f.A1 f.t.rest.length f.c1, .slice f.A2 f.t.clo.length f.c2] 24)).alloc (.cells #[.int .i64 f.c.n, .int .i64 f.c.f, .int .i64 f.c.k] 26)) _ _).at' (by simp)
 have x0 := b0.cell 0; have x1 := b0.cell 1; have x2 := b0.cell 2; have y0 := b1.cell 0; have y1 := b1.cell 1; have y2 := b1.cell 2; have z0 := b2.cell 0; have z1 := b2.cell 1; have z2 := b2.cell 2
 simp only [List.getElem?_toArray, List.getElem?_cons_zero, List.getElem?_cons_succ] at x0 x1 x2 y0 y1 y2 z0 z1 z2
 have HP := Lib.hid (pnew_ok (hf.below hy) hl (by have := hy.size; have := hE.z.size; omega) hz)
 have hll := rd_len t
 have hln := fun (k : Nat) (hk : k < (rd t).1.length) => rd_line t hk
 have hrd := fun (w' : World) (hb : Below w2.heap.size w2 w') => @read_any w' ((hE.below (hy.trans (hb.mono hy.size))).z) t (by omega)
 obtain ⟨ls, rst, hlr⟩ : ∃ ls rst, rd t = (ls, rst) := ⟨_, _, rfl⟩
 simp only [hlr] at hrd hr hll hln hok ⊢
 have HRD := Lib.hid hrd
 clear hrd
 rw [okTo_iff] at hok
 have HOK := Lib.hid hok
 have HLN := Lib.hid hln
 subst hr
 clear hz hlr hok hln
 go_enter Tryz.func55, Tryz.ntmps55
 go_wp2_with (first
  | (go_at_call 20; (with_reducible refine HP.out.mono ?_); rintro e w3 ⟨g, h, rfl, hpo, hb3⟩; have hk3 : KN w2 0 (fun _ => False) g f.s0 w3 := ⟨_, h, hpo, (hE.below hy).below hb3, hb3, fun k hk => hk.1, fun _ hz => hz.elim⟩)
  | (go_at_call 32; (with_reducible refine (HRD.out _ hb3).mono ?_); rintro e w4 ⟨A, c, rfl, own4, hb4⟩))
 have hk4 := hk3.zone hb4
 have hrs : ReadsF (fun j => w3.heap.size ≤ j ∧ j < w4.heap.size) w4 1 A ls.length (strs ls) := ReadsF.of_own' own4 fun k h1 h2 => ⟨h1, h2⟩
 clear x0 x1 x2 y0 y1 y2 z0 z1 z2 b0 b1 b2 hw2 hk3 own4 HP HRD
 go_loopw [37] (fun v wr => ∃ k : Nat, k ≤ ls.length ∧ v = .int .i64 k ∧ KN w2 k (fun j => w3.heap.size ≤ j ∧ j < w4.heap.size) g (runTo f.s0 ls k) wr ∧ ReadsF (fun j => w3.heap.size ≤ j ∧ j < w4.heap.size) wr 1 A ls.length (strs ls)) (fun v _ => ls.length - (intOf v).toNat)
 case atStart => exact ⟨0, by omega, rfl, by rw [runTo_zero]; exact hk4, hrs⟩
 case round =>
  clear hk4 hrs
  obtain ⟨k, hk, rfl, hkn, hrk⟩ := hrel
  by_cases hlt : k < ls.length
  ·have hkl : k < ls.length := by omega
   obtain ⟨ad, rfl, hab, c0⟩ := RS.at_ hrk.1 hkl
   have hdz := HOK.out k (by omega)
   rw [nil_getD hkl] at hdz
   have hrt := runTo_get f.s0 ls hkl
   have htl := HLN.out k hkl
   rw [nil_getD hkl] at htl
   obtain ⟨tx, htx⟩ : ∃ tx, tx = ls[k] := ⟨_, rfl⟩
   rw [← htx] at c0 hdz hrt htl
   have hdo := hkn.doZ (by omega) tx (by omega)
   rw [hdz, ← hrt] at hdo
   have HDO := Lib.hid hdo
   clear htx hdz hrt hdo
   go_wp2_with (go_at_call 25; (with_reducible refine HDO.out.mono ?_); rintro e w5 ⟨rfl, hk5, hz5⟩)
   go_roundw
   case rel => exact ⟨k + 1, by omega, by go_num, hk5, hrk.kept hz5⟩
   case measure => simp [intOf]; omega
  ·obtain rfl : k = ls.length := by omega
   go_wp2_with fail
   go_ret3
   rw [runTo_all] at hkn
   obtain ⟨F, h, hP, hE', hyy, hF, hZ⟩ := hkn
   have := hy.size
   exact ⟨g, rfl, F, h, hP, hE', hy.trans (hyy.mono hy.size), fun k hk => by have := hF k hk; omega, fun _ hz => hz.elim⟩
end Go.Proofs.YtiapkffihpgdcaaGreatDoor
namespace Go.Proofs.YtiapkffihpgdcaaGreatDoor
open Go.RowKit Go.Sort
section
variable {w : World} {F : Nat → Prop} {g : Nat} {h : Hr} {s : Of}
theorem chE_zero (hs : OfOk s) {d : Nat} (hd : d < s.days) : chE s.facts d 1 = 0 ∧ childR s.facts s.now d 1 = chTo s.facts s.now 1 d 100 := by
 have h1 := days_le hs.tm
 have e : chE s.facts d 1 = 0 := by
  unfold chE askd
  rw [if_neg (by rw [hs.fv]; decide), if_pos (by rw [Bool.and_eq_true, inB_true, inB_true]; omega)]
 refine ⟨e, ?_⟩
 unfold childR
 rw [if_pos e, Int.toNat_natCast]
set_option maxHeartbeats 1600000 in
theorem rPortions_any (hP : RO w F g h s) (d : Int) :
  Calls Tryz.prog 96 #[.pointer (some ⟨g, 0, none⟩), .int .i64 d] w fun e w' => e = .returned (.tuple #[.int .i64 (porR s d), .int .i64 (dayE s d)]) ∧ Below w.heap.size w w' := by
 have q := hP.cMn
 have hgl := hP.gl
 by_cases h0 : 0 ≤ d
 ·by_cases h1 : d < (s.days : Int)
  ·obtain ⟨n, rfl⟩ : ∃ n : Nat, d = n := ⟨d.toNat, by omega⟩
   have hn : n < s.days := by omega
   cases ho : s.opn n with
   | false =>
    have hd : dayE s n = 13 := by rw [dayE_in h0 h1, ho]; rfl
    have hr : porR s n = 0 := porR_no (by rw [hd]; decide)
    rw [hd, hr]
    have hcon := ropn_any hP n
    rw [ho] at hcon
    have HC := Lib.hid hcon
    clear hd hr hcon
    go_enter Tryz.func96, Tryz.ntmps96
    go_wp2_with (go_at_call 99; (with_reducible refine HC.out.mono ?_); rintro e w2 ⟨rfl, hw2⟩; have hw3 := hw2.symm; clear hw2; subst hw3)
    go_ret2
    exact ⟨rfl, Below.refl _ _⟩
   | true =>
    have hd : dayE s n = 0 := by rw [dayE_in h0 h1, ho]; rfl
    have hr := porR_yes hd
    have hp := por_children hP.ok hn
    rw [hd, hr, hp]
    have hcon := ropn_any hP n
    rw [ho] at hcon
    have HC := Lib.hid hcon
    obtain ⟨e1, e2⟩ := chE_zero hP.ok hn
    have hrc := rchildrenX_any s.facts s.now n 1 (by have := hP.ok.fl; omega) h.fa.1 h.fa.2 _ w.drew hP.rf.drew
    rw [e1, e2] at hrc
    obtain ⟨X, hX⟩ : ∃ X, X = chTo s.facts s.now 1 n 100 := ⟨_, rfl⟩
    rw [← hX] at hrc ⊢
    have HR := Lib.hid hrc
    have c7 := hP.cFa; have c4 := hP.cNow
    clear hd hr hp hcon hrc e1 e2 hX ho
    go_enter Tryz.func96, Tryz.ntmps96
    go_wp2_with (go_at_call 99; (with_reducible refine HC.out.mono ?_); rintro e w2 ⟨rfl, hw2⟩; have hw3 := hw2.symm; clear hw2; subst hw3)
    go_region_with (go_at_call 179; (with_reducible refine HR.out.mono ?_); rintro e w3 ⟨A', c', rfl, own3, hb3⟩)
    all_goals
     go_wp2_with fail
     go_ret2
     exact ⟨rfl, (Below.refl w.heap.size w).drew.trans hb3⟩
  ·have hd : dayE s d = 1 := dayE_out (by omega)
   have hr : porR s d = 0 := porR_no (by rw [hd]; decide)
   rw [hd, hr]
   have hl1 : decide (d < 0) = false := by rw [decide_eq_false_iff_not]; omega
   have hl2 : decide ((s.days : Int) ≤ d) = true := by rw [decide_eq_true_eq]; omega
   clear hd hr
   go_enter Tryz.func96, Tryz.ntmps96
   go_wp2_with fail
   go_ret2
   exact ⟨rfl, Below.refl _ _⟩
 ·have hd : dayE s d = 1 := dayE_out (by omega)
  have hr : porR s d = 0 := porR_no (by rw [hd]; decide)
  rw [hd, hr]
  have hl1 : decide (d < 0) = true := by rw [decide_eq_true_eq]; omega
  clear hd hr
  go_enter Tryz.func96, Tryz.ntmps96
  go_wp2_with fail
  go_ret2
  exact ⟨rfl, Below.refl _ _⟩
end
section
variable {w : World} {F : Nat → Prop} {g : Nat} {h : Hr} {s : Of}
theorem svd_no {d : Int} (hn : svdE s d ≠ 0) : ckd s d = 0 ∧ etn s d = 0 ∧ wst s d = 0 ∧ mis s d = 0 := by
 unfold wst mis ckd etn
 simp [hn]
theorem svd_yes {d C E : Int} (hE : dayE s d = 0) (hc : s.cooked d = some C) (he : s.eaten d = some E) : svdE s d = 0 ∧ ckd s d = C ∧ etn s d = E ∧ wst s d = C - E ∧ mis s d = max 0 (porR s d - C) := by
 have hE2 : svdE s d = 0 := by unfold svdE; rw [if_neg (by rw [hE]; decide), if_neg (by rw [he]; simp)]
 unfold wst mis ckd etn
 rw [if_pos hE2, if_pos hE2, hE2, hc, he]
 exact ⟨rfl, rfl, rfl, rfl, rfl⟩
set_option maxHeartbeats 3200000 in
theorem rServed_any (hP : RO w F g h s) (d : Int) :
  Calls Tryz.prog 97 #[.pointer (some ⟨g, 0, none⟩), .int .i64 d] w fun e w' => e = .returned (.tuple #[.int .i64 (ckd s d), .int .i64 (etn s d), .int .i64 (wst s d), .int .i64 (mis s d), .int .i64 (svdE s d)]) ∧ Below w.heap.size w w' := by
 have hcon := rPortions_any hP d
 obtain ⟨R, hRR⟩ : ∃ R, R = porR s d := ⟨_, rfl⟩
 by_cases hE : dayE s d = 0
 ·have ho : s.opn d = true := dayE_open hE
  obtain ⟨hd0, hd1⟩ := Of.opn_bd hP.ok ho
  have hdd : d < (s.days : Int) := by unfold Of.opn at ho; rw [decide_eq_true_eq] at ho; exact ho.2.1
  obtain ⟨n, rfl⟩ : ∃ n : Nat, d = n := ⟨d.toNat, by omega⟩
  have hn : n < s.days := by omega
  have hat1 := dyTo_at s.eaten s.days n hn
  have hat2 := dyTo_at s.cooked s.days n hn
  have hpl : porR s n ≤ 100 ∧ 0 ≤ porR s n := by
   have := porR_yes (s := s) (d := n) hE
   have h2 := porTo_le (s := s) n s.kids.length
   have := hP.ok.kl
   omega
  cases he : s.eaten n with
  | none =>
   have hE2 : svdE s n = 12 := by unfold svdE; rw [if_neg (by rw [hE]; decide), if_pos (by rw [he]; rfl)]
   obtain ⟨v1, v2, v3, v4⟩ := svd_no (s := s) (d := n) (by rw [hE2]; decide)
   rw [v1, v2, v3, v4, hE2]
   rw [hE, ← hRR] at hcon
   rw [he] at hat1
   have HC := Lib.hid hcon
   clear v1 v2 v3 v4 hE2 hcon hE he hRR ho hpl hat2
   go_enter Tryz.func97, Tryz.ntmps97
   go_wp2_with (go_at_call 96; (with_reducible refine HC.out.mono ?_); rintro e w3 ⟨rfl, hb3⟩; have hP3 := hP.below hb3; have c16 := hP3.cEt; obtain ⟨ad, hA, hab, t0⟩ := hP3.eat.at_ (k := n) (by rw [dyTo_len]; exact hn); rw [hA] at c16; rw [hat1] at t0; simp only [Option.getD_none] at t0)
   (try simp only [Exit.inBlock, Exit.then])
   exact bodyPost_ret (results_tmp5 rfl _ _ _) rfl ⟨rfl, hb3⟩
  | some E =>
   obtain ⟨C, hC, hE0, hE1⟩ := hP.ok.et n E he
   obtain ⟨_, hC0, hC1⟩ := hP.ok.ck n C hC
   obtain ⟨v0, v1, v2, v3, v4⟩ := svd_yes hE hC he
   rw [v0, v1, v2, v3, v4]
   rw [← hRR] at hcon hpl ⊢
   rw [hE] at hcon
   rw [he] at hat1
   rw [hC] at hat2
   have HC := Lib.hid hcon
   obtain ⟨hp1, hp2⟩ := hpl
   have hEd : decide (E < 0) = false := by rw [decide_eq_false_iff_not]; omega
   clear v0 v1 v2 v3 v4 hcon hE he hRR ho hC
   go_enter Tryz.func97, Tryz.ntmps97
   go_wp2_with (go_at_call 96; (with_reducible refine HC.out.mono ?_); rintro e w3 ⟨rfl, hb3⟩; have hP3 := hP.below hb3; have c16 := hP3.cEt; have c15 := hP3.cCk; obtain ⟨ad, hA, hab, t0⟩ := hP3.eat.at_ (k := n) (by rw [dyTo_len]; exact hn); obtain ⟨ad2, hA2, hab2, t2⟩ := hP3.cook.at_ (k := n) (by rw [dyTo_len]; exact hn); rw [hA] at c16; rw [hA2] at c15; rw [hat1] at t0; rw [hat2] at t2; simp only [Option.getD_some] at t0 t2)
   go_quiet (fail)
   go_wp2_with fail
   (try simp only [Exit.inBlock, Exit.then])
   exact bodyPost_ret (results_tmp5 rfl _ _ _) rfl ⟨rfl, Go.below_drewN hb3 _⟩
 ·have hE2 : svdE s d = dayE s d := by unfold svdE; rw [if_pos hE]
  have hE' : (dayE s d != 0) = true := by simp [hE]
  obtain ⟨v1, v2, v3, v4⟩ := svd_no (s := s) (d := d) (by rw [hE2]; exact hE)
  rw [v1, v2, v3, v4, hE2]
  obtain ⟨E, hEE⟩ : ∃ E, E = dayE s d := ⟨_, rfl⟩
  rw [← hRR, ← hEE] at hcon
  rw [← hEE] at hE' ⊢
  have HC := Lib.hid hcon
  clear v1 v2 v3 v4 hE2 hcon hE hEE hRR
  go_enter Tryz.func97, Tryz.ntmps97
  go_wp2_with (go_at_call 96; (with_reducible refine HC.out.mono ?_); rintro e w3 ⟨rfl, hb3⟩)
  (try simp only [Exit.inBlock, Exit.then])
  exact bodyPost_ret (results_tmp5 rfl _ _ _) rfl ⟨rfl, hb3⟩
end
section
variable {w : World} {F : Nat → Prop} {g : Nat} {h : Hr} {s : Of}
set_option maxHeartbeats 800000 in
theorem rprices_any (w : World) : Calls Tryz.prog 101 #[] w fun e w' => ∃ A, e = .returned (.slice A 9 9) ∧ RN w' A prices ∧ Below w.heap.size w w' := by
 have b4 : Box (w.alloc (.cells (ints prices).toArray 3)) w.heap.size (ints prices).toArray := Box.new w _ _
 have hr := RN.of_box b4
 go_enter Tryz.func101, Tryz.ntmps101
 go_wp2_with fail
 go_ret
 exact ⟨_, rfl, hr, (Below.refl _ w).alloc (Nat.le_refl _) _⟩
set_option maxHeartbeats 3200000 in
theorem rDue_any (hP : RO w F g h s) (c : Int) :
  Calls Tryz.prog 40 #[.pointer (some ⟨g, 0, none⟩), .int .i64 c] w fun e w' => e = .returned (.tuple #[.int .i64 (dueR s c), .int .i64 (dueE s c)]) ∧ Below w.heap.size w w' := by
 have hcon := rchild_any hP c
 cases hc : hasK s.kids c with
 | false =>
  have h1 : dueE s c = 5 := by unfold dueE; rw [hc]; rfl
  have h2 : dueR s c = 0 := by unfold dueR; rw [hc]; rfl
  rw [h1, h2]
  rw [kix_none hc] at hcon
  have HC := Lib.hid hcon
  clear h1 h2 hcon hc
  go_enter Tryz.func40, Tryz.ntmps40
  go_wp2_with (go_at_call 98; (with_reducible refine HC.out.mono ?_); rintro e w2 ⟨rfl, hw2⟩; have hw3 := hw2.symm; clear hw2; subst hw3)
  go_ret2
  exact ⟨rfl, Below.refl _ _⟩
 | true =>
  obtain ⟨i, hi, hix, _, _⟩ := kix_some hc
  have h1 : dueE s c = 0 := by unfold dueE; rw [if_pos hc]
  have h2 : dueR s c = dueTo s c s.days := by unfold dueR; rw [if_pos hc]
  rw [h1, h2]
  rw [hix] at hcon
  have HC := Lib.hid hcon
  have hi0 : decide ((i : Int) < 0) = false := by rw [decide_eq_false_iff_not]; omega
  have hpay := fun (d : Nat) (hd : d < s.days) => pay_due hP.ok hc hd
  have HPAY := Lib.hid hpay
  have hdl := days_le hP.ok.tm
  have qM := hP.cMn
  have hgl := hP.gl
  clear h1 h2 hix hcon hc hpay
  go_enter Tryz.func40, Tryz.ntmps40
  go_wp2_with (go_at_call 98; (with_reducible refine HC.out.mono ?_); rintro e w2 ⟨rfl, hw2⟩; have hw3 := hw2.symm; clear hw2; subst hw3)
  go_loopw [6, 7] (fun n x wr => ∃ k : Nat, k ≤ s.days ∧ n = .int .i64 (dueTo s c k) ∧ x = .int .i64 k ∧ Below w.heap.size w wr) (fun _ x _ => s.days - (intOf x).toNat)
  case atStart => exact ⟨0, by omega, rfl, rfl, Below.refl _ _⟩
  case round =>
   obtain ⟨k, hk, rfl, rfl, hbl⟩ := hrel
   have hPr := hP.below hbl
   have hsz := hbl.size
   have qMr := hPr.cMn
   by_cases hlt : k < s.days
   ·have hco := ropn_any hPr k
    have hbd := dueTo_bd hP.ok c k
    obtain ⟨S, hS⟩ : ∃ S, S = dueTo s c k := ⟨_, rfl⟩
    rw [← hS] at hbd
    cases ho : s.opn k with
    | false =>
     rw [ho] at hco
     have HCO := Lib.hid hco
     have hn := dueTo_no (c := c) ho
     rw [← hS] at hn ⊢
     have HN := Lib.hid hn
     clear hco hn hS ho
     go_wp2_with (go_at_call 99; (with_reducible refine HCO.out.mono ?_); rintro e w5 ⟨rfl, hw5⟩; have hw6 := hw5.symm; clear hw5; subst hw6)
     go_roundw
     case rel => exact ⟨k + 1, by omega, by rw [HN.out], by go_num, hbl⟩
     case measure => simp [intOf]; omega
    | true =>
     rw [ho] at hco
     have HCO := Lib.hid hco
     have hn := dueTo_yes (c := c) ho
     obtain ⟨hp1, hp2⟩ := HPAY.out k hlt
     have hpb := payI_bd (Vld.of hP.ok.fv) (r := s.rights) prices_ok c k
     obtain ⟨P, hPP⟩ : ∃ P, P = payI s.facts s.rights prices 1440 c k := ⟨_, rfl⟩
     have hpy : ∀ (W : World) (A : Option Addr), Below wr.heap.size wr W → RN W A prices → Calls Tryz.prog 100 #[.slice h.fa.1 s.facts.length h.fa.2, .slice h.ri.1 s.rights.length h.ri.2, .slice A 9 9, .int .i64 1440, .int .i64 c, .int .i64 k] W fun e w' => e = .returned (.tuple #[.int .i64 P, .int .i64 0]) ∧ Below W.heap.size W w' := fun W A hb hr => by
      have hx := rpayX_any s.facts s.rights prices 1440 c k (by have := hP.ok.fl; omega) (by have := hP.ok.rl; omega) (by decide) h.fa.1 h.ri.1 A h.fa.2 h.ri.2 9 _ W (hPr.rf.below hb) (Reads.below' hPr.ri.1 hb (Nat.le_refl _) |>.more hb.size) hr
      rw [hp1, hp2, ← hPP] at hx
      exact hx
     have HPY := Lib.hid hpy
     rw [← hPP] at hpb hn
     rw [← hS] at hn ⊢
     have HN := Lib.hid hn
     have c13 := hPr.cFa; have c14 := hPr.cRi
     clear hco hn hS ho hp1 hp2 hpy hPP
     go_wp2_with (go_at_call 99; (with_reducible refine HCO.out.mono ?_); rintro e w5 ⟨rfl, hw5⟩; have hw6 := hw5.symm; clear hw5; subst hw6)
     go_region_held3 (fun w' => w'.cell? ⟨g, 13, none⟩ = some (.slice h.fa.1 s.facts.length h.fa.2) ∧ w'.cell? ⟨g, 14, none⟩ = some (.slice h.ri.1 s.rights.length h.ri.2))
      (first | go_keep | (go_split_ands; refine ⟨?_, ?_⟩ <;> (rw [hb3.cell (by first | omega | (simp; omega))]; go_keep)) | (go_split_ands; refine ⟨?_, ?_⟩ <;> (rw [hb4.cell (by first | omega | (simp; omega))]; go_keep)))
      (first | (go_at_call 101; (with_reducible refine (rprices_any _).mono ?_); rintro e w3 ⟨A3, rfl, hp3, hb3⟩; have hs3 : wr.heap.size ≤ w3.heap.size := hb3.size) | (go_at_call 100; (with_reducible refine (HPY.out _ A3 ((Below.refl wr.heap.size wr).drew.trans (hb3.mono (by simp))) hp3).mono ?_); rintro e w4 ⟨rfl, hb4⟩; have hs4 : w3.heap.size ≤ w4.heap.size := hb4.size))
     all_goals
      have hb5 := hbl.trans ((((Below.refl wr.heap.size wr).drew.trans (hb3.mono (by simp))).trans (hb4.mono hs3)).mono hsz)
      go_wp2_with fail
      go_roundw
      case rel => exact ⟨k + 1, by omega, by rw [HN.out], by go_num, hb5⟩
      case measure => simp [intOf]; omega
   ·obtain rfl : k = s.days := by omega
    go_wp2_with fail
    go_ret2
    exact ⟨rfl, hbl⟩
end
end Go.Proofs.YtiapkffihpgdcaaGreatDoor
