import Derived.Test.YtiapkffihpgdcaaGreatDoorQA15
import Derived.Test.YtiapkffihpgdcaaGreatDoorQA17
import Derived.Test.YtiapkffihpgdcaaGreatDoorQA21
import Derived.Test.YtiapkffihpgdcaaGreatDoorQA22
import Derived.Test.YtiapkffihpgdcaaGreatDoorQA23
import Derived.Test.YtiapkffihpgdcaaGreatDoorQA24
set_option linter.unusedVariables false
set_option linter.unusedSimpArgs false
set_option maxRecDepth 100000
namespace Go.Proofs.YtiapkffihpgdcaaGreatDoor
open Go.RowKit Go.Sort Go.MuLone
/-- A list that a locked question hands back. -/
theorem RetL.list {g size n : Nat} {w : World} {xs : List Value} {Z : Value} {e : Ending} {w' : World}
  (h : RetL 0 Z g w (fun v x => ∃ A c, v = .slice A n c ∧ ReadsF (fun k => w.heap.size ≤ k) x size A n xs) e w') (hg : g < w.heap.size) :
  ∃ A c, e = .returned (.tuple #[.slice A n c, .int .i64 0]) ∧ ReadsF (fun k => w.heap.size ≤ k) w' size A n xs ∧ Below w.heap.size w w' := by
 obtain ⟨v, w2, he, ⟨A, c, rfl, hr⟩, hw, _, hb⟩ := h
 rw [if_pos rfl] at he
 subst hw
 exact ⟨A, c, he, hr.kept ⟨by rw [set_size]; exact Nat.le_refl _, fun k hk _ => set_other _ _ _ _ (by omega)⟩, hb⟩
theorem isSet_small {l : List Int} (h : isSet l 7 = true) : l.length ≤ 7 := by
 have := isSet_len h (by decide)
 omega
section
variable {L : Int} {N : Nat} {w : World} {F : Nat → Prop} {g : Nat} {h : Hd} {s : Of}
set_option maxHeartbeats 800000 in
theorem cNow_any (hP : PO L N w F g h s) {b1 : Nat} (x1 : w.cell? ⟨b1, 0, none⟩ = some (.pointer (some ⟨g, 0, none⟩))) :
  Calls Tryz.prog 71 #[.pointer (some ⟨b1, 0, none⟩)] w fun e w' => e = .returned (.tuple #[.int .i64 s.now, .int .i64 0]) ∧ Below w.heap.size w w' := by
 have q := hP.cNow
 go_enter Tryz.func71, Tryz.ntmps71
 go_wp2_with fail
 go_ret2
 exact ⟨rfl, Below.refl _ _⟩
set_option maxHeartbeats 800000 in
theorem cPortions_any (hP : PO L N w F g h s) (d : Int) {b1 b2 : Nat} (x1 : w.cell? ⟨b1, 0, none⟩ = some (.pointer (some ⟨g, 0, none⟩))) (x2 : w.cell? ⟨b2, 0, none⟩ = some (.int .i64 d)) :
  Calls Tryz.prog 108 #[.pointer (some ⟨b1, 0, none⟩), .pointer (some ⟨b2, 0, none⟩)] w fun e w' => e = .returned (.tuple #[.int .i64 (porR s d), .int .i64 (dayE s d)]) ∧ Below w.heap.size w w' := by
 have HC := Lib.hid (portions_any hP d)
 go_enter Tryz.func108, Tryz.ntmps108
 go_wp2_with (go_at_call 109; (with_reducible refine HC.out.mono ?_); rintro e w2 ⟨rfl, hb2⟩)
 go_ret2
 exact ⟨rfl, hb2⟩
set_option maxHeartbeats 800000 in
theorem cFacts_any (hP : PO L N w F g h s) {b1 : Nat} (x1 : w.cell? ⟨b1, 0, none⟩ = some (.pointer (some ⟨g, 0, none⟩))) :
  Calls Tryz.prog 76 #[.pointer (some ⟨b1, 0, none⟩)] w fun e w' => ∃ A c, e = .returned (.tuple #[.slice A s.facts.length c, .int .i64 0]) ∧ ReadsF (fun k => w.heap.size ≤ k) w' 5 A s.facts.length (cellsF s.facts) ∧ Below w.heap.size w w' := by
 have q := hP.cFa
 have HC := Lib.hid (clone_anyO s.facts (by have := hP.ok.fl; omega) h.fa.1 h.fa.2 _ w hP.rf)
 go_enter Tryz.func76, Tryz.ntmps76
 go_wp2_with (go_at_call 77; (with_reducible refine HC.out.mono ?_); rintro e w2 ⟨A', c', rfl, own2, hb2⟩)
 go_ret2
 exact ⟨A', c', rfl, ReadsF.of_own own2 fun k hk => (World.ownsRow.lt own2 k hk).1, hb2⟩
theorem OfOk.dl' (hs : OfOk s) : s.dishes.length ≤ 40 := by
 have := hs.dl
 have := hs.cy.n2
 omega
set_option maxHeartbeats 800000 in
theorem cDishes_any (hP : PO L N w F g h s) {b1 : Nat} (x1 : w.cell? ⟨b1, 0, none⟩ = some (.pointer (some ⟨g, 0, none⟩))) :
  Calls Tryz.prog 118 #[.pointer (some ⟨b1, 0, none⟩)] w fun e w' => ∃ A c, e = .returned (.tuple #[.slice A s.dishes.length c, .int .i64 0]) ∧ ReadsF (fun k => w.heap.size ≤ k) w' 2 A s.dishes.length (cells2 s.dishes.length (fun k => St (gd s.dishes k).name) (fun k => .int .i64 (gd s.dishes k).item)) ∧ Below w.heap.size w w' := by
 have q := hP.cDs
 have HC := Lib.hid (clone_dish s.dishes.length (cells2 s.dishes.length (fun k => St (gd s.dishes k).name) (fun k => .int .i64 (gd s.dishes k).item)) (by have := hP.ok.dl'; omega) (cells2_one (fun _ _ => rfl) (fun _ _ => rfl)) h.ds.1 h.ds.2 w (Reads.of_own hP.ds))
 go_enter Tryz.func118, Tryz.ntmps118
 go_wp2_with (go_at_call 119; (with_reducible refine HC.out.mono ?_); rintro e w2 ⟨A', c', rfl, own2, hb2⟩)
 go_ret2
 exact ⟨A', c', rfl, ReadsF.of_own own2 fun k hk => (World.ownsRow.lt own2 k hk).1, hb2⟩
theorem melE_no {d : Int} (hn : menuE s.tm s.cy d ≠ 0) : melE s d = menuE s.tm s.cy d ∧ melR s d = [] := by
 have h1 : melE s d = menuE s.tm s.cy d := by unfold melE; rw [if_pos hn]
 exact ⟨h1, by unfold melR; rw [if_neg (by rw [h1]; exact hn)]⟩
theorem melE_none {d : Int} (hn : menuE s.tm s.cy d = 0) (hl : (s.dishes.length : Int) ≤ menuR s.tm s.cy d) : melE s d = 5 ∧ melR s d = [] := by
 have h1 : melE s d = 5 := by unfold melE; rw [if_neg (by simp [hn]), if_pos hl]
 exact ⟨h1, by unfold melR; rw [if_neg (by rw [h1]; decide)]⟩
theorem melE_yes {d : Int} (hn : menuE s.tm s.cy d = 0) (hl : menuR s.tm s.cy d < (s.dishes.length : Int)) : melE s d = 0 ∧ melR s d = (gd s.dishes (menuR s.tm s.cy d).toNat).name := by
 have h1 : melE s d = 0 := by unfold melE; rw [if_neg (by simp [hn]), if_neg (by omega)]
 exact ⟨h1, by unfold melR; rw [if_pos h1]⟩
theorem menuE_in {t : Tm} {c : Cy} {d : Int} (hn : menuE t c d = 0) : 0 ≤ d ∧ d < t.len ∧ opB t d = true := by
 unfold menuE at hn
 by_cases h1 : bE t c ≠ 0
 ·rw [if_pos h1] at hn; exact absurd hn h1
 rw [if_neg h1] at hn
 cases h2 : inB d 0 (t.len - 1) with
 | false => rw [h2] at hn; simp at hn
 | true =>
  rw [h2] at hn
  have := inB_true.1 h2
  cases h3 : opB t d with
  | false => rw [h3] at hn; simp at hn
  | true => exact ⟨by omega, by omega, rfl⟩
theorem menuR_ge {t : Tm} {c : Cy} {d : Int} (hc : CyOk c) (hn : menuE t c d = 0) : 0 ≤ menuR t c d ∧ menuR t c d < c.n := by
 obtain ⟨h1, h2, h3⟩ := menuE_in hn
 rw [menuR_yes hn]
 exact ⟨(mnAt_nonneg hc _).2 (by rw [Int.toNat_of_nonneg h1]; exact h3), (mnAt_bd hc _).2⟩
set_option maxHeartbeats 1600000 in
theorem cMeal_any (hP : PO L N w F g h s) (d : Int) {b1 b2 : Nat} (x1 : w.cell? ⟨b1, 0, none⟩ = some (.pointer (some ⟨g, 0, none⟩))) (x2 : w.cell? ⟨b2, 0, none⟩ = some (.int .i64 d)) (l1 : b1 < w.heap.size) (l2 : b2 < w.heap.size) :
  Calls Tryz.prog 123 #[.pointer (some ⟨b1, 0, none⟩), .pointer (some ⟨b2, 0, none⟩)] w fun e w' => e = .returned (.tuple #[St (melR s d), .int .i64 (melE s d)]) ∧ Below w.heap.size w w' := by
 have hcp := fun d' os => menu_any s.cy d s.tm h.tr.1 h.tc.1 h.tr.2 h.tc.2 (grow (redrawn w d') os) (hP.rest.rn.below (below_regrown w d' os)) (hP.clo.rn.below (below_regrown w d' os)) (by have := isSet_small hP.ok.tm.rest; omega) (by have := hP.ok.tm.clo60; omega)
 obtain ⟨E, hE⟩ : ∃ E, E = menuE s.tm s.cy d := ⟨_, rfl⟩
 obtain ⟨R, hR⟩ : ∃ R, R = menuR s.tm s.cy d := ⟨_, rfl⟩
 rw [← hE, ← hR] at hcp
 have cA : ∀ d' os, Calls Tryz.prog 50 #[.agg #[.int .i64 s.tm.len, .slice h.tr.1 s.tm.rest.length h.tr.2, .slice h.tc.1 s.tm.clo.length h.tc.2], .agg #[.int .i64 s.cy.n, .int .i64 s.cy.f, .int .i64 s.cy.k], .int .i64 d] (grow (redrawn w d') os) fun e w'' => e = .returned (.tuple #[.int .i64 R, .int .i64 E]) ∧ ∃ p : Regrown, w'' = grow (redrawn w p.d) p.os := fun d' os =>
  Calls.regrown_of (hcp d' os)
 have k0 := cell_regrown hP.cLen; have k1 := cell_regrown hP.cRest; have k2 := cell_regrown hP.cClo; have k3 := cell_regrown hP.cN; have k4 := cell_regrown hP.cF; have k5 := cell_regrown hP.cK
 have k6 := cell_regrown x1; have k7 := cell_regrown x2; have k8 := cell_regrown hP.cDs
 have hdc := fun d' os => (hP.below (below_regrown w d' os)).dish
 have hbd := fun (hn : menuE s.tm s.cy d = 0) => menuR_ge hP.ok.cy hn
 rw [← hE, ← hR] at hbd
 have hv1 := fun hn => melE_no (s := s) (d := d) hn
 have hv2 := fun hn hl => melE_none (s := s) (d := d) hn hl
 have hv3 := fun hn hl => melE_yes (s := s) (d := d) hn hl
 rw [← hE] at hv1
 rw [← hE, ← hR] at hv2 hv3
 obtain ⟨VE, hVE⟩ : ∃ VE, VE = melE s d := ⟨_, rfl⟩
 obtain ⟨VR, hVR⟩ : ∃ VR, VR = melR s d := ⟨_, rfl⟩
 rw [← hVE, ← hVR] at hv1 hv2 hv3 ⊢
 have H1 := Lib.hid hv1; have H2 := Lib.hid hv2; have H3 := Lib.hid hv3; have HB := Lib.hid hbd; have HD := Lib.hid hdc
 clear hcp hv1 hv2 hv3 hbd hdc hE hR hVE hVR
 go_enter Tryz.func123, Tryz.ntmps123
 go_wp2_with fail
 refine wp_region_quiet_below (by kernel_rfl) (by kernel_rfl) ?_
 repeat (go_big_quiet_step (first | with_reducible exact cA _ _))
 refine wpQuiet_nil ?_
 intro _ hw'
 obtain ⟨⟨dq, osq⟩, hw''⟩ := hw'
 subst hw''
 have hb := below_regrown w dq osq
 by_cases hE : E = 0
 ·obtain ⟨hR0, _⟩ := HB.out hE
  have hE' : (E != 0) = false := by simp [hE]
  by_cases hl : R < (s.dishes.length : Int)
  ·obtain ⟨e1, e2⟩ := H3.out hE hl
   have hl' : decide ((s.dishes.length : Int) ≤ R) = false := by rw [decide_eq_false_iff_not]; omega
   obtain ⟨k, rfl⟩ := Int.eq_ofNat_of_zero_le hR0
   obtain ⟨ad, eA, hab, d0, d1⟩ := (HD.out dq osq).at_ (k := k) (by omega)
   rw [eA] at k8
   subst e1
   rw [Int.toNat_natCast] at e2
   have HE2 := Lib.hid e2
   clear e2 hE HB H1 H2 H3 HD
   go_wp2_with fail
   go_ret2
   exact ⟨by rw [HE2.out]; rfl, hb⟩
  ·obtain ⟨e1, e2⟩ := H2.out hE (by omega)
   have hl' : decide ((s.dishes.length : Int) ≤ R) = true := by rw [decide_eq_true_eq]; omega
   subst e1
   subst e2
   clear hE HB H1 H2 H3 HD
   go_wp2_with fail
   go_ret2
   exact ⟨rfl, hb⟩
 ·obtain ⟨e1, e2⟩ := H1.out hE
  have hE' : (E != 0) = true := by simp [hE]
  subst e1
  subst e2
  clear hE HB H1 H2 H3 HD
  go_wp2_with fail
  go_ret2
  exact ⟨rfl, hb⟩
end
section
variable {N : Nat} {w : World} {F : Nat → Prop} {g : Nat} {h : Hd} {s : Of}
set_option maxHeartbeats 800000 in
theorem oNow_any (hP : PO 0 N w F g h s) :
  Calls Tryz.prog 21 #[.pointer (some ⟨g, 0, none⟩)] w fun e w' => e = .returned (.int .i64 s.now) ∧ Below w.heap.size w w' := by
 obtain ⟨w2, hw2⟩ : ∃ w2, w.alloc (.cells #[.pointer (some ⟨g, 0, none⟩)] 35) = w2 := ⟨_, rfl⟩
 have hb2 : Below w.heap.size w w2 := by rw [← hw2]; exact (Below.refl _ w).alloc (Nat.le_refl _) _
 have b1 : Box w2 w.heap.size #[.pointer (some ⟨g, 0, none⟩)] := by rw [← hw2]; exact Box.new w _ _
 have x1 := b1.cell 0
 simp only [List.getElem?_toArray, List.getElem?_cons_zero, List.getElem?_cons_succ] at x1
 have hP2 := hP.below hb2
 have hgl := hP.gl
 have hg2 := hP2.gl
 have hl1 := b1.lt
 have hK : ∀ args w, (callFunc 71 args).run Tryz.prog w = .ok (.enter 71 args) w := enters_of Tryz.func71 (by kernel_rfl) rfl
 have hcl := lockedInt_any hP2 (K := 71) (caps := #[.pointer (some ⟨w.heap.size, 0, none⟩)]) (E := 0) (Q := fun v _ => v = .int .i64 s.now) hK
  ((cNow_any (hP2.lock rfl) ((b1.setg (by omega)).cell 0)).mono fun e w' hh => ⟨_, hh.1, rfl, by have := hh.2; rw [set_size] at this; exact this⟩)
 have HC := Lib.hid (hcl.mono fun e w' hh => hh.plain (V := .int .i64 s.now) (fun _ _ hv => hv) fun hn => absurd rfl hn)
 clear hcl hK
 go_enter Tryz.func21, Tryz.ntmps21
 go_wp2_with (go_at_call 70; (with_reducible refine HC.out.mono ?_); rintro e w3 ⟨rfl, hb3⟩)
 go_ret
 exact ⟨rfl, hb2.trans (hb3.mono hb2.size)⟩
set_option maxHeartbeats 800000 in
theorem oPortions_any (hP : PO 0 N w F g h s) (d : Int) :
  Calls Tryz.prog 44 #[.pointer (some ⟨g, 0, none⟩), .int .i64 d] w fun e w' => e = .returned (.tuple #[.int .i64 (porR s d), .int .i64 (dayE s d)]) ∧ Below w.heap.size w w' := by
 obtain ⟨w2, hw2⟩ : ∃ w2, (w.alloc (.cells #[.pointer (some ⟨g, 0, none⟩)] 35)).alloc (.cells #[.int .i64 d] 3) = w2 := ⟨_, rfl⟩
 have hb2 : Below w.heap.size w w2 := by rw [← hw2]; exact ((Below.refl _ w).alloc (Nat.le_refl _) _).alloc (by simp) _
 have b1 : Box w2 w.heap.size #[.pointer (some ⟨g, 0, none⟩)] := by rw [← hw2]; exact (Box.new w _ _).alloc _
 have b2 : Box w2 (w.heap.size + 1) #[.int .i64 d] := by rw [← hw2]; exact (Box.new (w.alloc _) _ _).at' (by simp)
 have hl2 := b2.lt
 have x1 := b1.cell 0
 simp only [List.getElem?_toArray, List.getElem?_cons_zero, List.getElem?_cons_succ] at x1
 have hP2 := hP.below hb2
 have hgl := hP.gl
 have hg2 := hP2.gl
 have hl1 := b1.lt
 have hK : ∀ args w, (callFunc 108 args).run Tryz.prog w = .ok (.enter 108 args) w := enters_of Tryz.func108 (by kernel_rfl) rfl
 have hR : dayE s d ≠ 0 → porR s d = 0 := fun hn => porR_no hn
 have hcl := lockedInt_any hP2 (K := 108) (caps := #[.pointer (some ⟨w.heap.size, 0, none⟩), .pointer (some ⟨w.heap.size + 1, 0, none⟩)]) (E := dayE s d) (Q := fun v _ => v = .int .i64 (porR s d)) hK
  ((cPortions_any (hP2.lock rfl) d ((b1.setg (by omega)).cell 0) ((b2.setg (by omega)).cell 0)).mono fun e w' hh => ⟨_, hh.1, rfl, by have := hh.2; rw [set_size] at this; exact this⟩)
 have HC := Lib.hid (hcl.mono fun e w' hh => hh.plain (V := .int .i64 (porR s d)) (fun _ _ hv => hv) fun hn => by rw [hR hn])
 clear hcl hK
 go_enter Tryz.func44, Tryz.ntmps44
 go_wp2_with (go_at_call 70; (with_reducible refine HC.out.mono ?_); rintro e w3 ⟨rfl, hb3⟩)
 go_ret2
 exact ⟨rfl, hb2.trans (hb3.mono hb2.size)⟩
set_option maxHeartbeats 800000 in
theorem oMeal_any (hP : PO 0 N w F g h s) (d : Int) :
  Calls Tryz.prog 49 #[.pointer (some ⟨g, 0, none⟩), .int .i64 d] w fun e w' => e = .returned (.tuple #[St (melR s d), .int .i64 (melE s d)]) ∧ Below w.heap.size w w' := by
 obtain ⟨w2, hw2⟩ : ∃ w2, (w.alloc (.cells #[.pointer (some ⟨g, 0, none⟩)] 35)).alloc (.cells #[.int .i64 d] 3) = w2 := ⟨_, rfl⟩
 have hb2 : Below w.heap.size w w2 := by rw [← hw2]; exact ((Below.refl _ w).alloc (Nat.le_refl _) _).alloc (by simp) _
 have b1 : Box w2 w.heap.size #[.pointer (some ⟨g, 0, none⟩)] := by rw [← hw2]; exact (Box.new w _ _).alloc _
 have b2 : Box w2 (w.heap.size + 1) #[.int .i64 d] := by rw [← hw2]; exact (Box.new (w.alloc _) _ _).at' (by simp)
 have hl2 := b2.lt
 have x1 := b1.cell 0
 simp only [List.getElem?_toArray, List.getElem?_cons_zero, List.getElem?_cons_succ] at x1
 have hP2 := hP.below hb2
 have hgl := hP.gl
 have hg2 := hP2.gl
 have hl1 := b1.lt
 have hK : ∀ args w, (callFunc 123 args).run Tryz.prog w = .ok (.enter 123 args) w := enters_of Tryz.func123 (by kernel_rfl) rfl
 have hR : melE s d ≠ 0 → melR s d = [] := fun hn => by unfold melR; rw [if_neg hn]
 have hcl := lockedStr_any hP2 (K := 123) (caps := #[.pointer (some ⟨w.heap.size, 0, none⟩), .pointer (some ⟨w.heap.size + 1, 0, none⟩)]) (E := melE s d) (Q := fun v _ => v = St (melR s d)) hK
  ((cMeal_any (hP2.lock rfl) d ((b1.setg (by omega)).cell 0) ((b2.setg (by omega)).cell 0) (by rw [set_size]; exact hl1) (by rw [set_size]; exact hl2)).mono fun e w' hh => ⟨_, hh.1, rfl, by have := hh.2; rw [set_size] at this; exact this⟩)
 have HC := Lib.hid (hcl.mono fun e w' hh => hh.plain (V := St (melR s d)) (fun _ _ hv => hv) fun hn => by rw [hR hn])
 clear hcl hK
 go_enter Tryz.func49, Tryz.ntmps49
 go_wp2_with (go_at_call 72; (with_reducible refine HC.out.mono ?_); rintro e w3 ⟨rfl, hb3⟩)
 go_ret2
 exact ⟨rfl, hb2.trans (hb3.mono hb2.size)⟩
set_option maxHeartbeats 800000 in
theorem oFacts_any (hP : PO 0 N w F g h s) :
  Calls Tryz.prog 24 #[.pointer (some ⟨g, 0, none⟩)] w fun e w' => ∃ A c, e = .returned (.slice A s.facts.length c) ∧ ReadsF (fun k => w.heap.size ≤ k) w' 5 A s.facts.length (cellsF s.facts) ∧ Below w.heap.size w w' := by
 obtain ⟨w2, hw2⟩ : ∃ w2, w.alloc (.cells #[.pointer (some ⟨g, 0, none⟩)] 35) = w2 := ⟨_, rfl⟩
 have hb2 : Below w.heap.size w w2 := by rw [← hw2]; exact (Below.refl _ w).alloc (Nat.le_refl _) _
 have b1 : Box w2 w.heap.size #[.pointer (some ⟨g, 0, none⟩)] := by rw [← hw2]; exact Box.new w _ _
 have x1 := b1.cell 0
 simp only [List.getElem?_toArray, List.getElem?_cons_zero, List.getElem?_cons_succ] at x1
 have hP2 := hP.below hb2
 have hgl := hP.gl
 have hg2 := hP2.gl
 have hl1 := b1.lt
 have hK : ∀ args w, (callFunc 76 args).run Tryz.prog w = .ok (.enter 76 args) w := enters_of Tryz.func76 (by kernel_rfl) rfl
 have hcl := lockedFa_any hP2 (K := 76) (caps := #[.pointer (some ⟨w.heap.size, 0, none⟩)]) (E := 0) (Q := fun v x => ∃ A c, v = .slice A s.facts.length c ∧ ReadsF (fun k => w2.heap.size ≤ k) x 5 A s.facts.length (cellsF s.facts)) hK
  ((cFacts_any (hP2.lock rfl) ((b1.setg (by omega)).cell 0)).mono fun e w' ⟨A, c, he, hr, hb⟩ => ⟨_, he, ⟨A, c, rfl, by rw [set_size] at hr; exact hr⟩, by rw [set_size] at hb; exact hb⟩)
 have HC := Lib.hid (hcl.mono fun e w' hh => hh.list hg2)
 clear hcl hK
 go_enter Tryz.func24, Tryz.ntmps24
 go_wp2_with (go_at_call 75; (with_reducible refine HC.out.mono ?_); rintro e w3 ⟨A, c, rfl, hr, hb3⟩)
 go_ret
 exact ⟨A, c, rfl, hr.mono fun k hk => Nat.le_trans hb2.size hk, hb2.trans (hb3.mono hb2.size)⟩
set_option maxHeartbeats 800000 in
theorem oDishes_any (hP : PO 0 N w F g h s) :
  Calls Tryz.prog 47 #[.pointer (some ⟨g, 0, none⟩)] w fun e w' => ∃ A c, e = .returned (.slice A s.dishes.length c) ∧ ReadsF (fun k => w.heap.size ≤ k) w' 2 A s.dishes.length (cells2 s.dishes.length (fun k => St (gd s.dishes k).name) (fun k => .int .i64 (gd s.dishes k).item)) ∧ Below w.heap.size w w' := by
 obtain ⟨w2, hw2⟩ : ∃ w2, w.alloc (.cells #[.pointer (some ⟨g, 0, none⟩)] 35) = w2 := ⟨_, rfl⟩
 have hb2 : Below w.heap.size w w2 := by rw [← hw2]; exact (Below.refl _ w).alloc (Nat.le_refl _) _
 have b1 : Box w2 w.heap.size #[.pointer (some ⟨g, 0, none⟩)] := by rw [← hw2]; exact Box.new w _ _
 have x1 := b1.cell 0
 simp only [List.getElem?_toArray, List.getElem?_cons_zero, List.getElem?_cons_succ] at x1
 have hP2 := hP.below hb2
 have hgl := hP.gl
 have hg2 := hP2.gl
 have hl1 := b1.lt
 have hK : ∀ args w, (callFunc 118 args).run Tryz.prog w = .ok (.enter 118 args) w := enters_of Tryz.func118 (by kernel_rfl) rfl
 have hcl := lockedDs_any hP2 (K := 118) (caps := #[.pointer (some ⟨w.heap.size, 0, none⟩)]) (E := 0) (Q := fun v x => ∃ A c, v = .slice A s.dishes.length c ∧ ReadsF (fun k => w2.heap.size ≤ k) x 2 A s.dishes.length (cells2 s.dishes.length (fun k => St (gd s.dishes k).name) (fun k => .int .i64 (gd s.dishes k).item))) hK
  ((cDishes_any (hP2.lock rfl) ((b1.setg (by omega)).cell 0)).mono fun e w' ⟨A, c, he, hr, hb⟩ => ⟨_, he, ⟨A, c, rfl, by rw [set_size] at hr; exact hr⟩, by rw [set_size] at hb; exact hb⟩)
 have HC := Lib.hid (hcl.mono fun e w' hh => hh.list hg2)
 clear hcl hK
 go_enter Tryz.func47, Tryz.ntmps47
 go_wp2_with (go_at_call 117; (with_reducible refine HC.out.mono ?_); rintro e w3 ⟨A, c, rfl, hr, hb3⟩)
 go_ret
 exact ⟨A, c, rfl, hr.mono fun k hk => Nat.le_trans hb2.size hk, hb2.trans (hb3.mono hb2.size)⟩
end
end Go.Proofs.YtiapkffihpgdcaaGreatDoor
namespace Go.Proofs.YtiapkffihpgdcaaGreatDoor
open Go.RowKit Go.Sort
section
variable {w : World} {F : Nat → Prop} {g : Nat} {h : Hr} {s : Of}
set_option maxHeartbeats 800000 in
theorem rchild_any (hP : RO w F g h s) (n : Int) :
  Calls Tryz.prog 98 #[.pointer (some ⟨g, 0, none⟩), .int .i64 n] w fun e w' => e = .returned (.int .i64 (kix s.kids n)) ∧ w' = w := by
 obtain ⟨S, hS⟩ : ∃ S, S = kix s.kids n := ⟨_, rfl⟩
 rw [← hS]
 have HS := Lib.hid hS; clear hS
 have q := hP.cKd
 have hkl := hP.ok.kl
 go_enter Tryz.func98, Tryz.ntmps98
 go_wp2
 go_loop [5] (fun x => ∃ k : Nat, k ≤ s.kids.length ∧ x = .int .i64 k ∧ Hid (kidTo s.kids n k = false)) (fun x => s.kids.length - (intOf x).toNat)
 case atStart => exact ⟨0, by omega, rfl, rfl⟩
 case round =>
  obtain ⟨k, hk, rfl, HK⟩ := hrel
  by_cases hlt : k < s.kids.length
  ·obtain ⟨ad, hA, hab, _, d0, d1⟩ := hP.kids.at_ hlt
   rw [hA] at q
   by_cases hn : (gk s.kids k).num = n
   ·have HV := Lib.hid (HS.out.trans (kix_first hlt hn HK.out))
    have hn' : ((gk s.kids k).num == n) = true := by simp [hn]
    clear HS HK hn
    go_wp2
    go_ret
    exact ⟨ret_int HV.out.symm, rfl⟩
   ·have HN := Lib.hid (kidTo_next HK.out hn)
    have hn' : ((gk s.kids k).num == n) = false := by simp [hn]
    clear HS HK hn
    go_wp2
    go_round
    case rel => exact ⟨k + 1, by omega, by go_num, HN⟩
    case measure => simp [intOf]; omega
  ·obtain rfl : k = s.kids.length := by omega
   have HV := Lib.hid (HS.out.trans (kix_none HK.out))
   clear HS HK
   go_wp2
   go_ret
   exact ⟨ret_int HV.out.symm, rfl⟩
set_option maxHeartbeats 400000 in
theorem ropn_any (hP : RO w F g h s) (d : Int) :
  Calls Tryz.prog 99 #[.pointer (some ⟨g, 0, none⟩), .int .i64 d] w fun e w' => e = .returned (.bool (s.opn d)) ∧ w' = w := by
 rw [Of.opn_mn]
 have q : w.cell? ⟨g, 9, none⟩ = some (.slice h.mn.1 (mnL s.tm s.cy).length h.mn.2) := hP.box.cell 9
 have hm := hP.mn.rn
 obtain ⟨M, hM⟩ : ∃ M, M = mnL s.tm s.cy := ⟨_, rfl⟩
 rw [← hM] at q hm ⊢
 clear hM
 by_cases h0 : 0 ≤ d
 ·obtain ⟨n, rfl⟩ : ∃ n : Nat, d = n := ⟨d.toNat, by omega⟩
  by_cases h1 : n < M.length
  ·obtain ⟨ad, e, hab, c0⟩ := hm.at_ h1
   rw [e] at q
   by_cases h2 : 0 ≤ gi M n
   all_goals
    go_enter Tryz.func99, Tryz.ntmps99
    go_wp2
    go_ret
    exact ⟨ret_bool (by first | (rw [decide_eq_decide]; simp; omega) | (symm; rw [decide_eq_true_eq]; exact ⟨by omega, by omega, by simpa using h2⟩) | (symm; rw [decide_eq_false_iff_not]; simp; omega)), rfl⟩
  ·go_enter Tryz.func99, Tryz.ntmps99
   go_wp2
   go_ret
   exact ⟨ret_bool (by symm; rw [decide_eq_false_iff_not]; omega), rfl⟩
 ·go_enter Tryz.func99, Tryz.ntmps99
  go_wp2
  go_ret
  exact ⟨ret_bool (by first | (symm; rw [decide_eq_false_iff_not]; omega) | (simp; omega)), rfl⟩
set_option maxHeartbeats 1600000 in
theorem rMeal_any (hP : RO w F g h s) (d : Int) :
  Calls Tryz.prog 95 #[.pointer (some ⟨g, 0, none⟩), .int .i64 d] w fun e w' => e = .returned (.tuple #[St (melR s d), .int .i64 (melE s d)]) ∧ Below w.heap.size w w' := by
 have hcp := fun d' os => rmenu_any s.cy d s.tm h.tr.1 h.tc.1 h.tr.2 h.tc.2 (grow (redrawn w d') os) (hP.rest.rn.below (below_regrown w d' os)) (hP.clo.rn.below (below_regrown w d' os)) (by have := isSet_small hP.ok.tm.rest; omega) (by have := hP.ok.tm.clo60; omega)
 obtain ⟨E, hE⟩ : ∃ E, E = menuE s.tm s.cy d := ⟨_, rfl⟩
 obtain ⟨R, hR⟩ : ∃ R, R = menuR s.tm s.cy d := ⟨_, rfl⟩
 rw [← hE, ← hR] at hcp
 have cA : ∀ d' os, Calls Tryz.prog 178 #[.agg #[.int .i64 s.tm.len, .slice h.tr.1 s.tm.rest.length h.tr.2, .slice h.tc.1 s.tm.clo.length h.tc.2], .agg #[.int .i64 s.cy.n, .int .i64 s.cy.f, .int .i64 s.cy.k], .int .i64 d] (grow (redrawn w d') os) fun e w'' => e = .returned (.tuple #[.int .i64 R, .int .i64 E]) ∧ ∃ p : Regrown, w'' = grow (redrawn w p.d) p.os := fun d' os =>
  Calls.regrown_of (hcp d' os)
 have k0 := cell_regrown hP.cLen; have k1 := cell_regrown hP.cRest; have k2 := cell_regrown hP.cClo; have k3 := cell_regrown hP.cN; have k4 := cell_regrown hP.cF; have k5 := cell_regrown hP.cK
 have k8 := cell_regrown hP.cDs
 have hdc := fun d' os => (hP.below (below_regrown w d' os)).dish
 have hbd := fun (hn : menuE s.tm s.cy d = 0) => menuR_ge hP.ok.cy hn
 rw [← hE, ← hR] at hbd
 have hv1 := fun hn => melE_no (s := s) (d := d) hn
 have hv2 := fun hn hl => melE_none (s := s) (d := d) hn hl
 have hv3 := fun hn hl => melE_yes (s := s) (d := d) hn hl
 rw [← hE] at hv1
 rw [← hE, ← hR] at hv2 hv3
 obtain ⟨VE, hVE⟩ : ∃ VE, VE = melE s d := ⟨_, rfl⟩
 obtain ⟨VR, hVR⟩ : ∃ VR, VR = melR s d := ⟨_, rfl⟩
 rw [← hVE, ← hVR] at hv1 hv2 hv3 ⊢
 have H1 := Lib.hid hv1; have H2 := Lib.hid hv2; have H3 := Lib.hid hv3; have HB := Lib.hid hbd; have HD := Lib.hid hdc
 clear hcp hv1 hv2 hv3 hbd hdc hE hR hVE hVR
 go_enter Tryz.func95, Tryz.ntmps95
 go_wp2_with fail
 refine wp_region_quiet_below (by kernel_rfl) (by kernel_rfl) ?_
 repeat (go_big_quiet_step (first | with_reducible exact cA _ _))
 refine wpQuiet_nil ?_
 intro _ hw'
 obtain ⟨⟨dq, osq⟩, hw''⟩ := hw'
 subst hw''
 have hb := below_regrown w dq osq
 by_cases hE : E = 0
 ·obtain ⟨hR0, _⟩ := HB.out hE
  have hE' : (E != 0) = false := by simp [hE]
  by_cases hl : R < (s.dishes.length : Int)
  ·obtain ⟨e1, e2⟩ := H3.out hE hl
   have hl' : decide ((s.dishes.length : Int) ≤ R) = false := by rw [decide_eq_false_iff_not]; omega
   obtain ⟨k, rfl⟩ := Int.eq_ofNat_of_zero_le hR0
   obtain ⟨ad, eA, hab, d0, d1⟩ := (HD.out dq osq).at_ (k := k) (by omega)
   rw [eA] at k8
   subst e1
   rw [Int.toNat_natCast] at e2
   have HE2 := Lib.hid e2
   clear e2 hE HB H1 H2 H3 HD
   go_wp2_with fail
   go_ret2
   exact ⟨by rw [HE2.out]; rfl, hb⟩
  ·obtain ⟨e1, e2⟩ := H2.out hE (by omega)
   have hl' : decide ((s.dishes.length : Int) ≤ R) = true := by rw [decide_eq_true_eq]; omega
   subst e1
   subst e2
   clear hE HB H1 H2 H3 HD
   go_wp2_with fail
   go_ret2
   exact ⟨rfl, hb⟩
 ·obtain ⟨e1, e2⟩ := H1.out hE
  have hE' : (E != 0) = true := by simp [hE]
  subst e1
  subst e2
  clear hE HB H1 H2 H3 HD
  go_wp2_with fail
  go_ret2
  exact ⟨rfl, hb⟩
end
end Go.Proofs.YtiapkffihpgdcaaGreatDoor
namespace Go.Proofs.YtiapkffihpgdcaaGreatDoor
open Go.RowKit
set_option maxHeartbeats 3200000 in
theorem rnew_bad (t : Tm) (c : Cy) (b : Bk) (hlr : t.rest.length ≤ 1000000000) (hlc : t.clo.length ≤ 1000000000) (hL : BkLen b) (A1 A2 : Option Addr) (c1 c2 : Nat) (F0 : Nat → Prop) (B1 B2 : Option Addr) (d1 d2 : Nat) (hp hq hr : Nat → SlH) (w : World)
  (h1 : RN w A1 t.rest) (h2 : RN w A2 t.clo) (hR : RBk F0 w B1 B2 b hp hq hr) (hne : newE t c b ≠ 0) :
  Calls Tryz.prog 52 #[.agg #[.int .i64 t.len, .slice A1 t.rest.length c1, .slice A2 t.clo.length c2], .agg #[.int .i64 c.n, .int .i64 c.f, .int .i64 c.k], .agg #[.int .i64 b.props, .slice B1 b.items.length d1, .slice B2 b.rules.length d2]] w fun e w' => e = .returned (.tuple #[.pointer none, .int .i64 (newE t c b)]) ∧ Below w.heap.size w w' := by
 obtain ⟨w2, hw2⟩ : ∃ w2, (((w.alloc (.cells #[.int .i64 t.len, .slice A1 t.rest.length c1, .slice A2 t.clo.length c2] 24)).alloc (.cells #[.int .i64 c.n, .int .i64 c.f, .int .i64 c.k] 26)).alloc (.cells #[.int .i64 b.props, .slice B1 b.items.length d1, .slice B2 b.rules.length d2] 30)) = w2 := ⟨_, rfl⟩
 have hy : Below w.heap.size w w2 := by rw [← hw2]; exact (((Below.refl _ w).alloc (Nat.le_refl _) _).alloc (by simp) _).alloc (by simp; omega) _
 have b0 : Box w2 w.heap.size #[.int .i64 t.len, .slice A1 t.rest.length c1, .slice A2 t.clo.length c2] := by rw [← hw2]; exact ((Box.new w _ _).alloc _).alloc _
 have b1 : Box w2 (w.heap.size + 1) #[.int .i64 c.n, .int .i64 c.f, .int .i64 c.k] := by rw [← hw2]; exact ((Box.new (w.alloc (.cells #[.int .i64 t.len, .slice A1 t.rest.length c1, .slice A2 t.clo.length c2] 24)) _ _).at' (by simp)).alloc _
 have b2 : Box w2 (w.heap.size + 1 + 1) #[.int .i64 b.props, .slice B1 b.items.length d1, .slice B2 b.rules.length d2] := by rw [← hw2]; exact (Box.new ((w.alloc (.cells #[.int .i64 t.len, .slice A1 t.rest.length c1, .slice A2 t.clo.length c2] 24)).alloc (.cells #[.int .i64 c.n, .int .i64 c.f, .int .i64 c.k] 26)) _ _).at' (by simp)
 have r1 := h1.below hy
 have r2 := h2.below hy
 have r3 := hR.below hy
 have x0 := b0.cell 0; have x1 := b0.cell 1; have x2 := b0.cell 2
 simp only [List.getElem?_toArray, List.getElem?_cons_zero, List.getElem?_cons_succ] at x0 x1 x2
 have HV := Lib.hid (rtvalidate_any t A1 A2 c1 c2 w2 r1 r2 hlr hlc)
 obtain ⟨E, hE⟩ : ∃ E, E = newE t c b := ⟨_, rfl⟩
 rw [← hE] at hne ⊢
 have HE := Lib.hid hE
 clear hE
 by_cases ht : tE t = 0
 ·rw [ht] at HV
  by_cases hc : cE c = 0
  ·have hEb : E = bkE b := by rw [HE.out]; unfold newE; rw [if_neg (by rw [ht]; decide), if_neg (by rw [hc]; decide)]
   have hbn : (E != 0) = true := by simp [hne]
   have HEB := Lib.hid hEb
   clear hEb hne
   go_enter Tryz.func52, Tryz.ntmps52
   go_wp2_with (first
    | (go_at_call 128; (with_reducible refine HV.out.mono ?_); rintro e wA ⟨rfl, hbA⟩; have y1 := b1.below hbA; have k0 := y1.cell 0; have k1 := y1.cell 1; have k2 := y1.cell 2; simp only [List.getElem?_toArray, List.getElem?_cons_zero, List.getElem?_cons_succ] at k0 k1 k2)
    | (go_at_call 129; (with_reducible refine (rcvalidate_any c _).mono ?_); rintro e wB ⟨rfl, hbB⟩; rw [hc]; have y2 := (b2.below hbA).below hbB; have n0 := y2.cell 0; have n1 := y2.cell 1; have n2 := y2.cell 2; simp only [List.getElem?_toArray, List.getElem?_cons_zero, List.getElem?_cons_succ] at n0 n1 n2)
    | (go_at_call 130; (with_reducible refine (rvalidBk_any b hL F0 B1 B2 d1 d2 hp hq hr _ ((r3.below hbA).below hbB)).mono ?_); rintro e wC ⟨rfl, hbC⟩; rw [← HEB.out]))
   go_ret2
   exact ⟨rfl, hy.trans ((hbA.trans ((hbB.trans (hbC.mono hbB.size)).mono hbA.size)).mono hy.size)⟩
  ·have hEb : E = cE c := by rw [HE.out]; unfold newE; rw [if_neg (by rw [ht]; decide), if_pos hc]
   have hbn : (E != 0) = true := by simp [hne]
   have HEB := Lib.hid hEb
   clear hEb hne hc
   go_enter Tryz.func52, Tryz.ntmps52
   go_wp2_with (first
    | (go_at_call 128; (with_reducible refine HV.out.mono ?_); rintro e wA ⟨rfl, hbA⟩; have y1 := b1.below hbA; have k0 := y1.cell 0; have k1 := y1.cell 1; have k2 := y1.cell 2; simp only [List.getElem?_toArray, List.getElem?_cons_zero, List.getElem?_cons_succ] at k0 k1 k2)
    | (go_at_call 129; (with_reducible refine (rcvalidate_any c _).mono ?_); rintro e wB ⟨rfl, hbB⟩; rw [← HEB.out]))
   go_ret2
   exact ⟨rfl, hy.trans ((hbA.trans (hbB.mono hbA.size)).mono hy.size)⟩
 ·have hEb : E = tE t := by rw [HE.out]; unfold newE; rw [if_pos ht]
  have hbn : (E != 0) = true := by simp [hne]
  rw [← hEb] at HV
  clear hEb hne ht
  go_enter Tryz.func52, Tryz.ntmps52
  go_wp2_with (go_at_call 128; (with_reducible refine HV.out.mono ?_); rintro e wA ⟨rfl, hbA⟩)
  go_ret2
  exact ⟨rfl, hy.trans (hbA.mono hy.size)⟩
end Go.Proofs.YtiapkffihpgdcaaGreatDoor
namespace Go.Proofs.YtiapkffihpgdcaaGreatDoor
open Go.RowKit Go.Sort
section
variable {w w' : World} {F F' : Nat → Prop} {g : Nat} {h h' : Hr} {s s' : Of}
theorem ints_set9 (l : List Int) (n : Nat) (v : Int) : (ints l).set n (.int .i64 v) = ints (l.set n v) := by simp [ints, List.map_set]
end
theorem wpList_app3S {P : Program} {w : World} {ops : Array Oper} {rest : List Oper} {o : Oper} {a : Act} {Q : Exit → Act → World → Prop} (hgd : o.guard = none) (s x : Operand) {t e : TypeId}
    (ho : o.op = .call { callee := .builtin .append, args := #[s, x], argTypes := #[t, t] }) {z : Value} {size bytes : Nat} (ht : P.underlying t = some (.slice e))
    (hinfo : (P.info? e).map (fun i => (i.zero, i.size, i.bytes)) = some (some z, size, bytes)) (hzs : z.cells.size = size) (hsz : 0 < size)
    {base : Nat} {A : Option Addr} {n c : Nat} {xs : List Value} (hs : a.eval s = .slice A n c) (hown : w.ownsRow base e size (.slice A n c) n xs)
    {news : List Value} {q : Nat} (hx : a.eval x = .slice (some ⟨q, 0, none⟩) 1 1) (hq : q = w.heap.size) (hl : news.length = size) (h1 : ∀ u ∈ news, u.oneCell' = true)
    (hn : n + 1 ≤ 1000000000) (hbytes : bytes ≤ 1000) (hbase : base ≤ w.heap.size)
    (h : ∀ A' c' w', w'.ownsRow base e size (.slice A' (n + 1) c') (n + 1) (xs ++ news) → (w.alloc (.cells news.toArray e)).grownBy w' (blkOf (A, c)) → (blkOf (A', c') = blkOf (A, c) ∨ blkOf (A', c') = some (w.alloc (.cells news.toArray e)).heap.size) → wpList P ops Q rest (a.put o.dst (.slice A' (n + 1) c')) w') :
    wpList P ops Q (o :: rest) a (w.alloc (.cells news.toArray e)) := by
  subst hq
  exact wpList_app3 hgd s x ho ht hinfo hzs hsz hs hown hx hl h1 hn hbytes hbase h
/-- The cells of an office in the making: the menus' row, the two rows for the days. -/
def cellsM (t : Tm) (c : Cy) (b : Bk) (tr tc bi br : SlH) (M C E : Value) : Array Value := #[.int .i64 t.len, .slice tr.1 t.rest.length tr.2, .slice tc.1 t.clo.length tc.2, .int .i64 c.n, .int .i64 c.f, .int .i64 c.k,
 .int .i64 b.props, .slice bi.1 b.items.length bi.2, .slice br.1 b.rules.length br.2, M, .int .i64 0, .slice none 0 0, .slice none 0 0, .slice none 0 0, .slice none 0 0, C, E, .int .i64 0, St []]
/-- The new office, its rows still to come. -/
def RewCut (B : Nat) (t : Tm) (c : Cy) (b : Bk) (s : Value) (wx : World) : Prop :=
 ∃ (g : Nat) (tr tc bi br : SlH) (hp hq hr : Nat → SlH), s = .pointer (some ⟨g, 0, none⟩) ∧ wx.heap.size = g + 1 ∧ B ≤ g ∧ Box wx g (cellsM t c b tr tc bi br (.slice none 0 0) (.slice none 0 0) (.slice none 0 0)) ∧
  RNF (fun k => B ≤ k ∧ k < g) wx tr.1 t.rest ∧ RNF (fun k => B ≤ k ∧ k < g) wx tc.1 t.clo ∧ RBk (fun k => B ≤ k ∧ k < g) wx bi.1 br.1 b hp hq hr
theorem RewCut.of {B : Nat} {t : Tm} {c : Cy} {b : Bk} {WP : World} (tr tc bi br : SlH) {hp hq hr : Nat → SlH} {g : Nat} (hgW : g = WP.heap.size) (hB : B ≤ WP.heap.size) (h1 : RNF (Fr B WP) WP tr.1 t.rest) (h2 : RNF (Fr B WP) WP tc.1 t.clo) (h3 : RBk (Fr B WP) WP bi.1 br.1 b hp hq hr) :
  RewCut B t c b (.pointer (some ⟨g, 0, none⟩)) (WP.alloc (.cells (cellsM t c b tr tc bi br (.slice none 0 0) (.slice none 0 0) (.slice none 0 0)) 99)) := by
 subst hgW
 have hb := (Below.refl WP.heap.size WP).alloc (Nat.le_refl _) (.cells (cellsM t c b tr tc bi br (.slice none 0 0) (.slice none 0 0) (.slice none 0 0)) 99)
 exact ⟨WP.heap.size, tr, tc, bi, br, hp, hq, hr, rfl, by simp, hB, Box.new _ _ _, h1.below hb, h2.below hb, h3.below hb⟩
/-- The three rows in the making: where they lie, how long they are, their lists. -/
structure NwL (t : Tm) (c : Cy) (b : Bk) (tr tc bi br : SlH) (g : Nat) (wc : World) (P Q R : SlH) (i j l : Nat) (p q r : List Int) (wr : World) : Prop where
 box : Box wr g (cellsM t c b tr tc bi br (.slice P.1 i P.2) (.slice Q.1 j Q.2) (.slice R.1 l R.2))
 o1 : wr.ownsRow (g + 1) 3 1 (.slice P.1 i P.2) i (ints p)
 o2 : wr.ownsRow (g + 1) 3 1 (.slice Q.1 j Q.2) j (ints q)
 o3 : wr.ownsRow (g + 1) 3 1 (.slice R.1 l R.2) l (ints r)
 a12 : ∀ x, blkOf P = some x → blkOf Q ≠ some x
 a13 : ∀ x, blkOf P = some x → blkOf R ≠ some x
 a23 : ∀ x, blkOf Q = some x → blkOf R ≠ some x
 below : Below g wc wr
theorem row_other {wr w' : World} {B : Nat} {P Q : SlH} {n : Nat} {xs : List Value} {o : Obj} (h : wr.ownsRow B 3 1 (.slice Q.1 n Q.2) n xs) (hg : (wr.alloc o).grownBy w' (blkOf P)) (hd : ∀ x, blkOf P = some x → blkOf Q ≠ some x) {g m : Nat} (hgB : g < B) (v : Value) :
  (w'.setCell ⟨g, m, none⟩ v).ownsRow B 3 1 (.slice Q.1 n Q.2) n xs := by
 refine ownsRow_setCell_below ((h.alloc o).kept hg ?_) (show g < B from hgB) _
 have e : (Value.slice Q.1 n Q.2).ownBlock = blkOf Q := own_blk Q n
 rw [e]
 cases hq : blkOf Q with
 | none => exact .inl rfl
 | some x => exact .inr fun e2 => hd x e2.symm hq
theorem dis_l {wr : World} {B : Nat} {P P' Q : SlH} {n : Nat} {xs : List Value} {o : Obj} (hd : ∀ x, blkOf P = some x → blkOf Q ≠ some x) (hn : blkOf P' = blkOf P ∨ blkOf P' = some (wr.alloc o).heap.size) (h : wr.ownsRow B 3 1 (.slice Q.1 n Q.2) n xs) : ∀ x, blkOf P' = some x → blkOf Q ≠ some x := by
 intro x hx hq
 rcases hn with hn | hn
 ·exact hd x (hn ▸ hx) hq
 ·rw [hn] at hx
  have e := Option.some.inj hx
  have hl := (World.ownsRow.lt h x (by rw [show (Value.slice Q.1 n Q.2).ownBlock = blkOf Q from own_blk Q n]; exact hq)).2
  simp at e
  omega
theorem ints_snocZ (p : List Int) (x : Int) : ints p ++ [.int .i64 x] = ints (p ++ [x]) := by simp [ints]
section
variable {t : Tm} {c : Cy} {b : Bk} {tr tc bi br : SlH} {g : Nat} {wc wr w' : World} {P Q R : SlH} {i j l : Nat} {p q r : List Int}
/-- What an append to one of the rows leaves. -/
structure AppD (wr w' : World) (g : Nat) (P P' : SlH) (i : Nat) (p : List Int) (x : Int) (o : Obj) : Prop where
 own : w'.ownsRow (g + 1) 3 1 (.slice P'.1 (i + 1) P'.2) (i + 1) (ints p ++ [.int .i64 x])
 grown : (wr.alloc o).grownBy w' (blkOf P)
 blk : blkOf P' = blkOf P ∨ blkOf P' = some (wr.alloc o).heap.size
theorem AppD.below {P' : SlH} {x : Int} {o : Obj} (h : AppD wr w' g P P' i p x o) (hg : g < wr.heap.size) (ho : wr.ownsRow (g + 1) 3 1 (.slice P.1 i P.2) i (ints p)) : Below (g + 1) wr w' :=
 Below.grown ((Below.refl (g + 1) wr).alloc (by omega) o) h.grown (by simp; omega) fun k hk => (World.ownsRow.lt ho k (by rw [show (Value.slice P.1 i P.2).ownBlock = blkOf P from own_blk P _]; exact hk)).1
theorem AppD.own' {P' : SlH} {x : Int} {o : Obj} (h : AppD wr w' g P P' i p x o) (m : Nat) (v : Value) : (w'.setCell ⟨g, m, none⟩ v).ownsRow (g + 1) 3 1 (.slice P'.1 (i + 1) P'.2) (i + 1) (ints (p ++ [x])) := by
 rw [← ints_snocZ]
 exact ownsRow_setCell_below h.own (show g < g + 1 by omega) _
theorem NwL.app1 (h : NwL t c b tr tc bi br g wc P Q R i j l p q r wr) {P' : SlH} {x : Int} {o : Obj} (ha : AppD wr w' g P P' i p x o) : NwL t c b tr tc bi br g wc P' Q R (i + 1) j l (p ++ [x]) q r (w'.setCell ⟨g, 9, none⟩ (.slice P'.1 (i + 1) P'.2)) := by
 have hb := ha.below h.box.lt h.o1
 refine ⟨?_, ha.own' 9 _, row_other h.o2 ha.grown h.a12 (by omega) _, row_other h.o3 ha.grown h.a13 (by omega) _, dis_l h.a12 ha.blk h.o2, dis_l h.a13 ha.blk h.o3, h.a23, (h.below.trans (hb.mono (by omega))).setCell (p := ⟨g, 9, none⟩) (Nat.le_refl _) _⟩
 simpa [cellsM] using (h.box.keep hb (by omega)).set 9 (.slice P'.1 (i + 1) P'.2) (by simp [cellsM])
theorem NwL.app2 (h : NwL t c b tr tc bi br g wc P Q R i j l p q r wr) {Q' : SlH} {x : Int} {o : Obj} (ha : AppD wr w' g Q Q' j q x o) : NwL t c b tr tc bi br g wc P Q' R i (j + 1) l p (q ++ [x]) r (w'.setCell ⟨g, 15, none⟩ (.slice Q'.1 (j + 1) Q'.2)) := by
 have hb := ha.below h.box.lt h.o2
 have a21 : ∀ x, blkOf Q = some x → blkOf P ≠ some x := fun x h1 h2 => h.a12 x h2 h1
 refine ⟨?_, row_other h.o1 ha.grown a21 (by omega) _, ha.own' 15 _, row_other h.o3 ha.grown h.a23 (by omega) _, fun x h1 h2 => dis_l a21 ha.blk h.o1 x h2 h1, h.a13, dis_l h.a23 ha.blk h.o3, (h.below.trans (hb.mono (by omega))).setCell (p := ⟨g, 15, none⟩) (Nat.le_refl _) _⟩
 simpa [cellsM] using (h.box.keep hb (by omega)).set 15 (.slice Q'.1 (j + 1) Q'.2) (by simp [cellsM])
theorem NwL.app3 (h : NwL t c b tr tc bi br g wc P Q R i j l p q r wr) {R' : SlH} {x : Int} {o : Obj} (ha : AppD wr w' g R R' l r x o) : NwL t c b tr tc bi br g wc P Q R' i j (l + 1) p q (r ++ [x]) (w'.setCell ⟨g, 16, none⟩ (.slice R'.1 (l + 1) R'.2)) := by
 have hb := ha.below h.box.lt h.o3
 have a31 : ∀ x, blkOf R = some x → blkOf P ≠ some x := fun x h1 h2 => h.a13 x h2 h1
 have a32 : ∀ x, blkOf R = some x → blkOf Q ≠ some x := fun x h1 h2 => h.a23 x h2 h1
 refine ⟨?_, row_other h.o1 ha.grown a31 (by omega) _, row_other h.o2 ha.grown a32 (by omega) _, ha.own' 16 _, h.a12, fun x h1 h2 => dis_l a31 ha.blk h.o1 x h2 h1, fun x h1 h2 => dis_l a32 ha.blk h.o2 x h2 h1, (h.below.trans (hb.mono (by omega))).setCell (p := ⟨g, 16, none⟩) (Nat.le_refl _) _⟩
 simpa [cellsM] using (h.box.keep hb (by omega)).set 16 (.slice R'.1 (l + 1) R'.2) (by simp [cellsM])
/-- Memory that lies elsewhere grew. -/
theorem NwL.keep (h : NwL t c b tr tc bi br g wc P Q R i j l p q r wr) (hb : Below wr.heap.size wr w') : NwL t c b tr tc bi br g wc P Q R i j l p q r w' :=
 ⟨h.box.below hb, own_below h.o1 hb fun k hk => (World.ownsRow.lt h.o1 k hk).2, own_below h.o2 hb fun k hk => (World.ownsRow.lt h.o2 k hk).2, own_below h.o3 hb fun k hk => (World.ownsRow.lt h.o3 k hk).2, h.a12, h.a13, h.a23, h.below.trans (hb.mono (by have := h.box.lt; omega))⟩
/-- A menu is laid. -/
theorem NwL.put (h : NwL t c b tr tc bi br g wc P Q R i j l p q r wr) {gp : Nat} (hP : P.1 = some ⟨gp, 0, none⟩) (d : Nat) (v : Int) : NwL t c b tr tc bi br g wc P Q R i j l (p.set d v) q r (wr.setCell ⟨gp, d, none⟩ (.int .i64 v)) := by
 have hbp : blkOf P = some gp := by unfold blkOf; rw [hP]; rfl
 have hlt := World.ownsRow.lt h.o1 gp (by rw [show (Value.slice P.1 i P.2).ownBlock = blkOf P from own_blk P _]; exact hbp)
 have ho := h.o1
 rw [hP] at ho
 have hst := (World.ownsRow.stored ho d (.int .i64 v)).1
 refine ⟨?_, ?_, ownsRow_setCell_other h.o2 ?_ _, ownsRow_setCell_other h.o3 ?_ _, h.a12, h.a13, h.a23, h.below.setCell (p := ⟨gp, d, none⟩) (by show g ≤ gp; omega) _⟩
 ·exact h.box.far (show g ≠ gp by omega) _
 ·rw [hP, show ints (p.set d v) = (ints p).set d (.int .i64 v) from (ints_set9 p d v).symm]; exact hst
 ·rw [show (Value.slice Q.1 j Q.2).ownBlock = blkOf Q from own_blk Q _]; exact h.a12 gp hbp
 ·rw [show (Value.slice R.1 l R.2).ownBlock = blkOf R from own_blk R _]; exact h.a13 gp hbp
end
theorem rdT_at {t : Tm} {c : Cy} {m : Int} {N i : Nat} (hi : i < (daysTo t c m N).length) : ∃ d : Nat, d < N ∧ gi (daysTo t c m N) i = d ∧ mnAt t c d = m := by
 have h : gi (daysTo t c m N) i ∈ daysTo t c m N := by unfold gi; rw [List.getD_eq_getElem?_getD, List.getElem?_eq_getElem hi]; exact List.getElem_mem hi
 obtain ⟨d, h1, h2, h3⟩ := (daysTo_mem t c m _ _).1 h
 exact ⟨d, h1, h3, h2⟩
theorem rdays_ok {t : Tm} {c : Cy} (ht : TmOk t) (hc : CyOk c) {m : Int} (h0 : 0 ≤ m) (h1 : m < c.n) : daysE t c m = 0 ∧ daysR t c m = daysTo t c m t.len.toNat := by
 have hb : bE t c = 0 := by unfold bE; rw [if_neg (by rw [ht.to]; decide)]; exact hc.to
 have e : daysE t c m = 0 := by unfold daysE; rw [if_neg (by simp [hb]), if_pos (inB_true.2 ⟨h0, by omega⟩)]
 exact ⟨e, by rw [daysR, if_pos e]⟩
theorem dyTo_none (n : Nat) : dyTo (fun _ => none) n = List.replicate n (-1) := by
 rw [List.eq_replicate_iff]
 refine ⟨dyTo_len _ n, fun x hx => ?_⟩
 simp [dyTo] at hx
 exact hx.2.symm
/-- The office, made. -/
theorem RO.made {B g : Nat} {t : Tm} {c : Cy} {b : Bk} {wc w : World} {tr tc bi br P Q R : SlH} {hp hq hr : Nat → SlH} (h7 : 7 ≤ B) (hBg : B ≤ g)
  (h : NwL t c b tr tc bi br g wc P Q R t.len.toNat t.len.toNat t.len.toNat (mnL t c) (List.replicate t.len.toNat (-1)) (List.replicate t.len.toNat (-1)) w)
  (h1 : RNF (fun k => B ≤ k ∧ k < g) w tr.1 t.rest) (h2 : RNF (fun k => B ≤ k ∧ k < g) w tc.1 t.clo) (h3 : RBk (fun k => B ≤ k ∧ k < g) w bi.1 br.1 b hp hq hr) (ok : newE t c b = 0) :
  RO w (fun k => B ≤ k ∧ k < w.heap.size) g ⟨tr, tc, bi, br, hp, hq, hr, P, (none, 0), (none, 0), fun _ => (none, 0), (none, 0), (none, 0), Q, R⟩ (new0 t c b) := by
 have hgw := h.box.lt
 have b1 : ∀ x, blkOf P = some x → g + 1 ≤ x ∧ x < w.heap.size := fun x hx => World.ownsRow.lt h.o1 x (by rw [show (Value.slice P.1 t.len.toNat P.2).ownBlock = blkOf P from own_blk P _]; exact hx)
 have b2 : ∀ x, blkOf Q = some x → g + 1 ≤ x ∧ x < w.heap.size := fun x hx => World.ownsRow.lt h.o2 x (by rw [show (Value.slice Q.1 t.len.toNat Q.2).ownBlock = blkOf Q from own_blk Q _]; exact hx)
 have b3 : ∀ x, blkOf R = some x → g + 1 ≤ x ∧ x < w.heap.size := fun x hx => World.ownsRow.lt h.o3 x (by rw [show (Value.slice R.1 t.len.toNat R.2).ownBlock = blkOf R from own_blk R _]; exact hx)
 have hF : ∀ k, (B ≤ k ∧ k < g) → Jm (fun k => B ≤ k ∧ k < w.heap.size) g ⟨tr, tc, bi, br, hp, hq, hr, P, (none, 0), (none, 0), fun _ => (none, 0), (none, 0), (none, 0), Q, R⟩ k :=
  fun k hk => ⟨⟨hk.1, by omega⟩, by omega, by simp [blkOf], fun e => by have := b2 k e; omega, fun e => by have := b3 k e; omega⟩
 have hd : dyTo (new0 t c b).cooked (new0 t c b).days = List.replicate t.len.toNat (-1) := dyTo_none t.len.toNat
 have hd2 : dyTo (new0 t c b).eaten (new0 t c b).days = List.replicate t.len.toNat (-1) := dyTo_none t.len.toNat
 have hml : (mnL t c).length = t.len.toNat := by simp [mnL]
 have hrl : (List.replicate t.len.toNat (-1 : Int)).length = t.len.toNat := List.length_replicate
 refine ⟨?_, fun k hk => ⟨by omega, hk.2⟩, ⟨hBg, hgw⟩, h1.mono hF, h2.mono hF, h3.mono hF, ?_,
  ⟨⟨rfl, fun h => by simp [new0] at h⟩, fun _ _ h => by simp [new0] at h⟩, ⟨⟨rfl, fun h => by simp [new0] at h⟩, fun _ _ h => by simp [new0] at h⟩, ⟨⟨rfl, fun h => by simp [new0] at h⟩, fun _ _ h => by simp [new0] at h⟩, fun k hk => by simp [new0] at hk,
  World.ownsRow_nil _ _ _ _, ?_, ?_, fun k e => by simp [blkOf] at e, fun k e => ⟨⟨by have := b2 k e; omega, (b2 k e).2⟩, by have := b2 k e; omega⟩, fun k e => ⟨⟨by have := b3 k e; omega, (b3 k e).2⟩, by have := b3 k e; omega, fun e2 => h.a23 k e2 e⟩, OfOk.new ok, by simp [new0]⟩
 ·unfold cellsR
  rw [hd, hd2, hrl, show (mnL (new0 t c b).tm (new0 t c b).cy).length = t.len.toNat from hml]
  exact h.box
 ·show ReadsF _ w 1 P.1 (mnL t c).length (ints (mnL t c))
  rw [hml]
  refine ReadsF.of_own h.o1 (fun k hk => ?_)
  have hk' : blkOf P = some k := by rw [← show (Value.slice P.1 t.len.toNat P.2).ownBlock = blkOf P from own_blk P _]; exact hk
  have := b1 k hk'
  exact ⟨⟨by omega, this.2⟩, by omega, by simp [blkOf], h.a12 k hk', h.a13 k hk'⟩
 ·rw [hd, hrl]; exact own_base h.o2 (Nat.zero_le _)
 ·rw [hd2, hrl]; exact own_base h.o3 (Nat.zero_le _)
end Go.Proofs.YtiapkffihpgdcaaGreatDoor
