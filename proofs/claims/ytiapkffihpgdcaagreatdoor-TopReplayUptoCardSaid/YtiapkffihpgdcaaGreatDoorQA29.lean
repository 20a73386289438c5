import Derived.Test.YtiapkffihpgdcaaGreatDoorQA3
import Derived.Test.YtiapkffihpgdcaaGreatDoorQA16
import Derived.Test.YtiapkffihpgdcaaGreatDoorQA17
import Derived.Test.YtiapkffihpgdcaaGreatDoorQA20
import Derived.Test.YtiapkffihpgdcaaGreatDoorQA25
import Derived.Test.YtiapkffihpgdcaaGreatDoorQA26
import Derived.Test.YtiapkffihpgdcaaGreatDoorQA28
import Derived.Shelf.Strings.OnBuilder
import Derived.Shelf.Strings.Builder1
import Derived.Ground.NamesProg
import Derived.StillTailTactics
import Derived.BigRegion
import Derived.Deep.Strs
import Derived.Shelf.Strings.Cut
set_option linter.unusedVariables false
set_option linter.unusedSimpArgs false
set_option maxRecDepth 100000
namespace Go.Proofs.YtiapkffihpgdcaaGreatDoor
open Go.RowKit Go.MuLone Go.Shelf
def lbu_ren : Go.Shelf.Ren := ⟨fun | 166 => 157 | 169 => 158 | 240 => 219 | 276 => 276 | n => n,
 fun | 0 => 0 | 3 => 3 | 4 => 4 | 5 => 5 | 9 => 9 | 20 => 20 | 37 => 220 | 70 => 219 | 72 => 222 | 75 => 149 | 80 => 42 | 127 => 270 | 164 => 226 | n => n, fun | n => n⟩
theorem lbu_write : Go.Proofs.Lays.n166 Tryz.prog lbu_ren := {
 mixed := by kernel_rfl
 f166 := Tryz.func157.trans (congrArg some (by kernel_rfl))
 f240 := Tryz.func219.trans (congrArg some (by kernel_rfl))
 f276 := Tryz.func276.trans (congrArg some (by kernel_rfl))
 t0 := Tryz.underlying0
 a0 := Tryz.isAgg0
 z0 := Tryz.sizeOf0
 v0 := Tryz.zeroValue0
 t3 := Tryz.underlying3
 a3 := Tryz.isAgg3
 z3 := Tryz.sizeOf3
 v3 := Tryz.zeroValue3
 t4 := Tryz.underlying4
 a4 := Tryz.isAgg4
 z4 := Tryz.sizeOf4
 v4 := Tryz.zeroValue4
 t9 := Tryz.underlying9
 a9 := Tryz.isAgg9
 z9 := Tryz.sizeOf9
 v9 := Tryz.zeroValue9
 t20 := Tryz.underlying20
 a20 := Tryz.isAgg20
 z20 := Tryz.sizeOf20
 v20 := Tryz.zeroValue20
 t37 := Tryz.underlying220
 a37 := Tryz.isAgg220
 z37 := Tryz.sizeOf220
 v37 := Tryz.zeroValue220
 t70 := Tryz.underlying219
 a70 := Tryz.isAgg219
 z70 := Tryz.sizeOf219
 v70 := Tryz.zeroValue219
 t72 := Tryz.underlying222
 a72 := Tryz.isAgg222
 z72 := Tryz.sizeOf222
 v72 := Tryz.zeroValue222
 t75 := Tryz.underlying149
 a75 := Tryz.isAgg149
 z75 := Tryz.sizeOf149
 v75 := Tryz.zeroValue149
 t164 := Tryz.underlying226
 a164 := Tryz.isAgg226
 z164 := Tryz.sizeOf226
 v164 := Tryz.zeroValue226 }
theorem lbu_string : Go.Proofs.Lays.n169 Tryz.prog lbu_ren := {
 mixed := by kernel_rfl
 f169 := Tryz.func158.trans (congrArg some (by kernel_rfl))
 t0 := Tryz.underlying0
 a0 := Tryz.isAgg0
 z0 := Tryz.sizeOf0
 v0 := Tryz.zeroValue0
 t3 := Tryz.underlying3
 a3 := Tryz.isAgg3
 z3 := Tryz.sizeOf3
 v3 := Tryz.zeroValue3
 t9 := Tryz.underlying9
 a9 := Tryz.isAgg9
 z9 := Tryz.sizeOf9
 v9 := Tryz.zeroValue9
 t37 := Tryz.underlying220
 a37 := Tryz.isAgg220
 z37 := Tryz.sizeOf220
 v37 := Tryz.zeroValue220
 t70 := Tryz.underlying219
 a70 := Tryz.isAgg219
 z70 := Tryz.sizeOf219
 v70 := Tryz.zeroValue219
 t72 := Tryz.underlying222
 a72 := Tryz.isAgg222
 z72 := Tryz.sizeOf222
 v72 := Tryz.zeroValue222
 t127 := Tryz.underlying270
 a127 := Tryz.isAgg270
 z127 := Tryz.sizeOf270
 v127 := Tryz.zeroValue270 }
theorem lbu_extra : Builder.Extra Tryz.prog lbu_ren where
 sizeBuilder := by kernel_rfl
 liesBuilder := by kernel_rfl
 t5 := Tryz.underlying5
 a5 := Tryz.isAgg5
 z5 := Tryz.sizeOf5
 v5 := Tryz.zeroValue5
 infoByte := by kernel_rfl
 cellsByte := by kernel_rfl
 sizeByte := by kernel_rfl
 neB5 := by decide
/-- A builder of the call's own that holds the bytes l. -/
def IsBu (B b : Nat) (l : List UInt8) (w : World) : Prop := Lib.IsBuilder 222 5 B b (Lib.byteCells l) w
theorem byteCells_app (l m : List UInt8) : Lib.byteCells (l ++ m) = Lib.byteCells l ++ Lib.byteCells m := by simp [Lib.byteCells]
theorem byteCells_len (l : List UInt8) : (Lib.byteCells l).length = l.length := by simp [Lib.byteCells]
theorem wstr_any (B b : Nat) (l x : List UInt8) (w : World) (h : IsBu B b l w) (hl : l.length + x.length ≤ 1000000000) (hB : B ≤ w.heap.size) :
  Calls Tryz.prog 157 #[.pointer (some ⟨b, 0, none⟩), St x] w fun e w' => e = .returned (.tuple #[.int .i64 x.length, .nilIface]) ∧ IsBu B b (l ++ x) w' ∧ Below B w w' := by
 have hc := Any.Builder_WriteString lbu_write lbu_extra B b (Lib.byteCells l) ⟨x.toArray⟩ w h (by rw [byteCells_len, st_size]; omega) hB
 refine Calls.mono hc ?_
 rintro e w' ⟨he, h1, h2⟩
 refine ⟨?_, ?_, h2⟩
 ·rw [he, st_size]
 ·unfold IsBu
  rw [byteCells_app]
  exact .inr h1
theorem bstr_any (B b : Nat) (l : List UInt8) (w : World) (h : IsBu B b l w) (hB : B ≤ w.heap.size) :
  Calls Tryz.prog 158 #[.pointer (some ⟨b, 0, none⟩)] w fun e w' => e = .returned (St l) ∧ Below B w w' := Any.Builder_String_any lbu_string lbu_extra B b l w h hB
theorem bokTo_len (l : List Wd) (h : ∀ w ∈ l, w.length ≤ 60) : ∀ k, (bokTo l k).length ≤ 61 * k
 | 0 => by simp [bokTo]
 | k + 1 => by
  have ih := bokTo_len l h k
  have h1 : (l.getD k []).length ≤ 60 := by
   rw [List.getD_eq_getElem?_getD]
   cases hx : l[k]? with
   | none => simp
   | some x => obtain ⟨hk, rfl⟩ := List.getElem?_eq_some_iff.1 hx; exact h _ (List.getElem_mem hk)
  simp only [bokTo, List.length_append, List.length_cons, List.length_nil]
  omega
section
variable {L : Int} {N : Nat} {w : World} {F : Nat → Prop} {g : Nat} {h : Hd} {s : Of}
theorem OfOk.short (hs : OfOk s) : ∀ w ∈ s.orders, w.length ≤ 60 := fun w hw => (hs.lines w hw).2.2
theorem PO.order (hP : PO L N w F g h s) {k : Nat} (hk : k < s.orders.length) : ∃ ad, h.od.1 = some ad ∧ (ad.add k).block < w.heap.size ∧ w.cell? (ad.add k) = some (St (s.orders.getD k [])) := by
 obtain ⟨ad, e, hb, hc⟩ := RS.at_ (show RS w h.od.1 s.orders from Reads.of_own hP.od) hk
 refine ⟨ad, e, hb, ?_⟩
 rw [hc, List.getD_eq_getElem?_getD, List.getElem?_eq_getElem hk]; rfl
set_option maxHeartbeats 1600000 in
theorem text_any (hP : PO L N w F g h s) :
  Calls Tryz.prog 74 #[.pointer (some ⟨g, 0, none⟩)] w fun e w' => e = .returned (St (bok s)) ∧ Below w.heap.size w w' := by
 obtain ⟨w2, hw2⟩ : ∃ w2, w.alloc (.cells #[.pointer none, .slice none 0 0] 222) = w2 := ⟨_, rfl⟩
 have hy : Below w.heap.size w w2 := by rw [← hw2]; exact (Below.refl _ w).alloc (Nat.le_refl _) _
 have hI0 : IsBu w.heap.size w.heap.size (bokTo s.orders 0) w2 := by rw [← hw2]; exact Lib.fresh_isBuilder _ _ w
 have q := (hP.below hy).cOd
 have hol := hP.ok.ol
 have hsh := hP.ok.short
 have HSH := Lib.hid hsh
 clear hsh
 have hbl := bokTo_len s.orders HSH.out
 have HBL := Lib.hid hbl
 clear hbl
 unfold bok
 go_enter Tryz.func74, Tryz.ntmps74
 go_wp2_with fail
 go_loopw [11] (fun x wr => ∃ k : Nat, k ≤ s.orders.length ∧ x = .int .i64 k ∧ IsBu w.heap.size w.heap.size (bokTo s.orders k) wr ∧ Below w.heap.size w wr) (fun x _ => s.orders.length - (intOf x).toNat)
 case atStart => exact ⟨0, by omega, rfl, hI0, hy⟩
 case round =>
  obtain ⟨k, hk, rfl, hI, hyr⟩ := hrel
  have hsz := hyr.size
  have hlk := HBL.out k
  by_cases hlt : k < s.orders.length
  ·obtain ⟨ad, eA, hab, c0⟩ := (hP.below hyr).order hlt
   have hxl : (s.orders.getD k []).length ≤ 60 := by
    rw [List.getD_eq_getElem?_getD, List.getElem?_eq_getElem hlt]
    exact HSH.out _ (List.getElem_mem hlt)
   obtain ⟨X, hX⟩ : ∃ X, X = s.orders.getD k [] := ⟨_, rfl⟩
   have hstep : bokTo s.orders (k + 1) = bokTo s.orders k ++ (X ++ [10]) := by rw [hX]; rfl
   rw [← hX] at c0 hxl
   have HST := Lib.hid hstep
   have hcat : (⟨X.toArray⟩ : ByteArray) ++ ⟨#[10]⟩ = ⟨(X ++ [10]).toArray⟩ := st_app X [10]
   have HCAT := Lib.hid hcat
   have hsum : ¬ 9223372036854775807 < X.length + 1 := by omega
   have hwr := wstr_any w.heap.size w.heap.size (bokTo s.orders k) (X ++ [10]) wr hI (by simp; omega) hsz
   have HWR := Lib.hid hwr
   clear hstep hX hcat hwr
   rw [eA]
   go_wp2_with (go_at_call 157; rw [HCAT.out]; (with_reducible refine HWR.out.mono ?_); rintro e w4 ⟨rfl, hI4, hb4⟩)
   rw [← HST.out] at hI4
   go_roundw
   case rel => exact ⟨k + 1, by omega, by go_num, hI4, hyr.trans hb4⟩
   case measure => simp [intOf]; omega
  ·obtain rfl : k = s.orders.length := by omega
   have HB := Lib.hid (bstr_any w.heap.size w.heap.size (bokTo s.orders s.orders.length) wr hI hsz)
   go_wp2_with (go_at_call 158; (with_reducible refine HB.out.mono ?_); rintro e w4 ⟨rfl, hb4⟩)
   go_ret
   exact ⟨rfl, hyr.trans hb4⟩
set_option maxHeartbeats 800000 in
theorem cBook_any (hP : PO L N w F g h s) {b1 : Nat} (x1 : w.cell? ⟨b1, 0, none⟩ = some (.pointer (some ⟨g, 0, none⟩))) :
  Calls Tryz.prog 73 #[.pointer (some ⟨b1, 0, none⟩)] w fun e w' => e = .returned (.tuple #[St (bok s), .int .i64 0]) ∧ Below w.heap.size w w' := by
 have HC := Lib.hid (text_any hP)
 go_enter Tryz.func73, Tryz.ntmps73
 go_wp2_with (go_at_call 74; (with_reducible refine HC.out.mono ?_); rintro e w2 ⟨rfl, hb2⟩)
 go_ret2
 exact ⟨rfl, hb2⟩
end
section
variable {N : Nat} {w : World} {F : Nat → Prop} {g : Nat} {h : Hd} {s : Of}
set_option maxHeartbeats 800000 in
theorem oBook_any (hP : PO 0 N w F g h s) :
  Calls Tryz.prog 23 #[.pointer (some ⟨g, 0, none⟩)] w fun e w' => e = .returned (St (bok s)) ∧ Below w.heap.size w w' := by
 obtain ⟨w2, hw2⟩ : ∃ w2, w.alloc (.cells #[.pointer (some ⟨g, 0, none⟩)] 35) = w2 := ⟨_, rfl⟩
 have hb2 : Below w.heap.size w w2 := by rw [← hw2]; exact (Below.refl _ w).alloc (Nat.le_refl _) _
 have b1 : Box w2 w.heap.size #[.pointer (some ⟨g, 0, none⟩)] := by rw [← hw2]; exact Box.new w _ _
 have x1 := b1.cell 0
 simp only [List.getElem?_toArray, List.getElem?_cons_zero, List.getElem?_cons_succ] at x1
 have hP2 := hP.below hb2
 have hgl := hP.gl
 have hg2 := hP2.gl
 have hl1 := b1.lt
 have hK : ∀ args w, (callFunc 73 args).run Tryz.prog w = .ok (.enter 73 args) w := enters_of Tryz.func73 (by kernel_rfl) rfl
 have hcl := lockedStr_any hP2 (K := 73) (caps := #[.pointer (some ⟨w.heap.size, 0, none⟩)]) (E := 0) (Q := fun v _ => v = St (bok s)) hK
  ((cBook_any (hP2.lock rfl) ((b1.setg (by omega)).cell 0)).mono fun e w' hh => ⟨_, hh.1, rfl, by have := hh.2; rw [set_size] at this; exact this⟩)
 have HC := Lib.hid (hcl.mono fun e w' hh => hh.plain (V := St (bok s)) (fun _ _ hv => hv) fun hn => absurd rfl hn)
 clear hcl hK
 go_enter Tryz.func23, Tryz.ntmps23
 go_wp2_with (go_at_call 72; (with_reducible refine HC.out.mono ?_); rintro e w3 ⟨rfl, hb3⟩)
 go_ret
 exact ⟨rfl, hb2.trans (hb3.mono hb2.size)⟩
end
end Go.Proofs.YtiapkffihpgdcaaGreatDoor
namespace Go.Proofs.YtiapkffihpgdcaaGreatDoor
open Go.RowKit
/-- A firm, and where its lists lie. -/
structure Fi where
 t : Tm
 c : Cy
 b : Bk
 A1 : Option Addr
 A2 : Option Addr
 B1 : Option Addr
 B2 : Option Addr
 c1 : Nat
 c2 : Nat
 d1 : Nat
 d2 : Nat
 hp : Nat → SlH
 hq : Nat → SlH
 hr : Nat → SlH
def Fi.cells (f : Fi) : Array Value := #[.int .i64 f.t.len, .slice f.A1 f.t.rest.length f.c1, .slice f.A2 f.t.clo.length f.c2, .int .i64 f.c.n, .int .i64 f.c.f, .int .i64 f.c.k, .int .i64 f.b.props, .slice f.B1 f.b.items.length f.d1, .slice f.B2 f.b.rules.length f.d2]
/-- The firm's lists, in memory. -/
structure Fi.In (f : Fi) (w : World) : Prop where
 rest : RN w f.A1 f.t.rest
 clo : RN w f.A2 f.t.clo
 bk : RBk (fun _ => True) w f.B1 f.B2 f.b f.hp f.hq f.hr
structure Fi.Len (f : Fi) : Prop where
 rest : f.t.rest.length ≤ 1000000
 clo : f.t.clo.length ≤ 1000000
 bk : BkLen f.b
def Fi.e (f : Fi) : Int := newE f.t f.c f.b
def Fi.s0 (f : Fi) : Of := new0 f.t f.c f.b
theorem Fi.In.below {f : Fi} {w w' : World} (h : f.In w) (hb : Below w.heap.size w w') : f.In w' := ⟨h.rest.below hb, h.clo.below hb, h.bk.below hb⟩
theorem lrg_len {f : Fi} (h : lrg f.t f.b = false) : f.Len := by
 unfold lrg at h
 simp only [Bool.or_eq_false_iff, decide_eq_false_iff_not] at h
 obtain ⟨h1, h2, h3⟩ := h
 unfold lrgH at h1
 rw [anyTo_false] at h2 h3
 have e1 : ∀ k, k < f.b.items.length → (gIt f.b.items k).parts.length ≤ 30 ∧ (gIt f.b.items k).has.length ≤ 30 := fun k hk => by
  have := h2 k hk; unfold lrgI at this; rw [decide_eq_false_iff_not] at this; omega
 have e2 : ∀ k, k < f.b.rules.length → (gRl f.b.rules k).iff.length ≤ 30 := fun k hk => by
  have := h3 k hk; unfold lrgR at this; rw [decide_eq_false_iff_not] at this; omega
 exact ⟨by omega, by omega, ⟨by omega, by omega, fun k hk => by have := (e1 k hk).1; omega, fun k hk => by have := (e1 k hk).2; omega, fun k hk => by have := e2 k hk; omega⟩⟩
/-- The program's office and the document's, made behind the world w0. -/
structure Du (w0 : World) (N : Nat) (F F' : Nat → Prop) (g x : Nat) (h : Hd) (h' : Hr) (s s' : Of) (w : World) : Prop where
 po : PO 0 N w F g h s
 ro : RO w F' x h' s'
 env : EnvA w
 bel : Below w0.heap.size w0 w
 lo : ∀ k, F k → w0.heap.size ≤ k
 lo' : ∀ k, F' k → w0.heap.size ≤ k
 dis : ∀ k, F' k → ¬ F k
def DN (w0 : World) (N : Nat) (g x : Nat) (s s' : Of) (w : World) : Prop := ∃ F F' h h', Du w0 N F F' g x h h' s s' w
section
variable {w0 w w' : World} {N g x : Nat} {s s' : Of}
theorem DN.bel (hd : DN w0 N g x s s' w) : Below w0.heap.size w0 w := by obtain ⟨_, _, _, _, hd⟩ := hd; exact hd.bel
/-- The program's office alone. -/
theorem DN.kn (hd : DN w0 N g x s s' w) : KN w0 N (fun _ => False) g s w := by
 obtain ⟨F, F', h, h', hd⟩ := hd
 exact ⟨F, h, hd.po, hd.env, hd.bel, hd.lo, fun _ hz => hz.elim⟩
end
section
variable {f : Fi} {w : World} (hf : f.In w) (hl : f.Len)
include hf hl
theorem pnew_ok (h7 : 7 ≤ w.heap.size) (hz : f.e = 0) :
  Calls Tryz.prog 20 #[.agg #[.int .i64 f.t.len, .slice f.A1 f.t.rest.length f.c1, .slice f.A2 f.t.clo.length f.c2], .agg #[.int .i64 f.c.n, .int .i64 f.c.f, .int .i64 f.c.k], .agg #[.int .i64 f.b.props, .slice f.B1 f.b.items.length f.d1, .slice f.B2 f.b.rules.length f.d2]] w fun e w' => ∃ g h, e = .returned (.tuple #[.pointer (some ⟨g, 0, none⟩), .int .i64 0]) ∧ PO 0 0 w' (fun k => w.heap.size ≤ k ∧ k < w'.heap.size) g h f.s0 ∧ Below w.heap.size w w' := by
 refine (new_any f.t f.c f.b (by have := hl.rest; omega) (by have := hl.clo; omega) hl.bk f.A1 f.A2 f.c1 f.c2 _ f.B1 f.B2 f.d1 f.d2 f.hp f.hq f.hr w hf.rest hf.clo hf.bk h7).mono ?_
 rintro e w' (⟨h, _⟩ | ⟨_, h⟩)
 ·exact absurd hz h
 ·exact h
theorem pnew_bad (h7 : 7 ≤ w.heap.size) (hz : f.e ≠ 0) :
  Calls Tryz.prog 20 #[.agg #[.int .i64 f.t.len, .slice f.A1 f.t.rest.length f.c1, .slice f.A2 f.t.clo.length f.c2], .agg #[.int .i64 f.c.n, .int .i64 f.c.f, .int .i64 f.c.k], .agg #[.int .i64 f.b.props, .slice f.B1 f.b.items.length f.d1, .slice f.B2 f.b.rules.length f.d2]] w fun e w' => e = .returned (.tuple #[.pointer none, .int .i64 f.e]) ∧ Below w.heap.size w w' := by
 refine (new_any f.t f.c f.b (by have := hl.rest; omega) (by have := hl.clo; omega) hl.bk f.A1 f.A2 f.c1 f.c2 _ f.B1 f.B2 f.d1 f.d2 f.hp f.hq f.hr w hf.rest hf.clo hf.bk h7).mono ?_
 rintro e w' (⟨_, h⟩ | ⟨h, _⟩)
 ·exact h
 ·exact absurd h hz
theorem xnew_ok (h7 : 7 ≤ w.heap.size) (hz : f.e = 0) :
  Calls Tryz.prog 52 #[.agg #[.int .i64 f.t.len, .slice f.A1 f.t.rest.length f.c1, .slice f.A2 f.t.clo.length f.c2], .agg #[.int .i64 f.c.n, .int .i64 f.c.f, .int .i64 f.c.k], .agg #[.int .i64 f.b.props, .slice f.B1 f.b.items.length f.d1, .slice f.B2 f.b.rules.length f.d2]] w fun e w' => ∃ g h, e = .returned (.tuple #[.pointer (some ⟨g, 0, none⟩), .int .i64 0]) ∧ RO w' (fun k => w.heap.size ≤ k ∧ k < w'.heap.size) g h f.s0 ∧ Below w.heap.size w w' :=
 rnew_ok f.t f.c f.b hl.rest hl.clo hl.bk f.A1 f.A2 f.c1 f.c2 _ f.B1 f.B2 f.d1 f.d2 f.hp f.hq f.hr w hf.rest hf.clo hf.bk h7 hz
theorem xnew_bad (hz : f.e ≠ 0) :
  Calls Tryz.prog 52 #[.agg #[.int .i64 f.t.len, .slice f.A1 f.t.rest.length f.c1, .slice f.A2 f.t.clo.length f.c2], .agg #[.int .i64 f.c.n, .int .i64 f.c.f, .int .i64 f.c.k], .agg #[.int .i64 f.b.props, .slice f.B1 f.b.items.length f.d1, .slice f.B2 f.b.rules.length f.d2]] w fun e w' => e = .returned (.tuple #[.pointer none, .int .i64 f.e]) ∧ Below w.heap.size w w' :=
 rnew_bad f.t f.c f.b (by have := hl.rest; omega) (by have := hl.clo; omega) hl.bk f.A1 f.A2 f.c1 f.c2 _ f.B1 f.B2 f.d1 f.d2 f.hp f.hq f.hr w hf.rest hf.clo hf.bk hz
end
set_option maxHeartbeats 1600000 in
theorem begin_ok {f : Fi} {w : World} (hf : f.In w) (hl : f.Len) (hE : EnvA w) (hz : f.e = 0) :
  Calls Tryz.prog 36 #[.agg f.cells] w fun e w' => ∃ g x, e = .returned (.tuple #[.pointer (some ⟨g, 0, none⟩), .pointer (some ⟨x, 0, none⟩), .bool true]) ∧ DN w 0 g x f.s0 f.s0 w' := by
 unfold Fi.cells
 obtain ⟨w2, hw2⟩ : ∃ w2, w.alloc (.cells #[.int .i64 f.t.len, .slice f.A1 f.t.rest.length f.c1, .slice f.A2 f.t.clo.length f.c2, .int .i64 f.c.n, .int .i64 f.c.f, .int .i64 f.c.k, .int .i64 f.b.props, .slice f.B1 f.b.items.length f.d1, .slice f.B2 f.b.rules.length f.d2] 32) = w2 := ⟨_, rfl⟩
 have hy : Below w.heap.size w w2 := by rw [← hw2]; exact (Below.refl _ w).alloc (Nat.le_refl _) _
 have b0 : Box w2 w.heap.size #[.int .i64 f.t.len, .slice f.A1 f.t.rest.length f.c1, .slice f.A2 f.t.clo.length f.c2, .int .i64 f.c.n, .int .i64 f.c.f, .int .i64 f.c.k, .int .i64 f.b.props, .slice f.B1 f.b.items.length f.d1, .slice f.B2 f.b.rules.length f.d2] := by rw [← hw2]; exact Box.new w _ _
 have h7 := hE.z.size
 have HP := Lib.hid (pnew_ok (hf.below hy) hl (by have := hy.size; omega) hz)
 have hX := fun (wx : World) (hb : Below w2.heap.size w2 wx) => xnew_ok ((hf.below hy).below hb) hl (by have := hy.size; have := hb.size; omega) hz
 have HX := Lib.hid hX
 have x0 := b0.cell 0; have x1 := b0.cell 1; have x2 := b0.cell 2; have x3 := b0.cell 3; have x4 := b0.cell 4; have x5 := b0.cell 5; have x6 := b0.cell 6; have x7 := b0.cell 7; have x8 := b0.cell 8
 simp only [List.getElem?_toArray, List.getElem?_cons_zero, List.getElem?_cons_succ] at x0 x1 x2 x3 x4 x5 x6 x7 x8
 clear hX hz
 go_enter Tryz.func36, Tryz.ntmps36
 go_wp2_with (first
  | (go_at_call 20; (with_reducible refine HP.out.mono ?_); rintro e w3 ⟨g, h, rfl, hpo, hb3⟩; have b3 := b0.below hb3; have y0 := b3.cell 0; have y1 := b3.cell 1; have y2 := b3.cell 2; have y3 := b3.cell 3; have y4 := b3.cell 4; have y5 := b3.cell 5; have y6 := b3.cell 6; have y7 := b3.cell 7; have y8 := b3.cell 8; simp only [List.getElem?_toArray, List.getElem?_cons_zero, List.getElem?_cons_succ] at y0 y1 y2 y3 y4 y5 y6 y7 y8)
  | (go_at_call 52; (with_reducible refine (HX.out _ hb3).mono ?_); rintro e w4 ⟨x, h', rfl, hro, hb4⟩))
 go_ret3
 have hyz := hy.size
 have h3z := hb3.size
 have hb34 : Below w.heap.size w w4 := hy.trans ((hb3.trans (hb4.mono h3z)).mono hyz)
 exact ⟨g, x, rfl, _, _, h, h', ⟨hpo.below hb4, hro, hE.below hb34, hb34, fun k hk => by have := hk.1; omega, fun k hk => by have := hk.1; omega, fun k hk hk2 => by have := hk.1; have := hk2.2; omega⟩⟩
set_option maxHeartbeats 1600000 in
theorem begin_bad {f : Fi} {w : World} (hf : f.In w) (hl : f.Len) (hE : EnvA w) (hz : f.e ≠ 0) :
  Calls Tryz.prog 36 #[.agg f.cells] w fun e w' => e = .returned (.tuple #[.pointer none, .pointer none, .bool false]) ∧ Below w.heap.size w w' := by
 unfold Fi.cells
 obtain ⟨w2, hw2⟩ : ∃ w2, w.alloc (.cells #[.int .i64 f.t.len, .slice f.A1 f.t.rest.length f.c1, .slice f.A2 f.t.clo.length f.c2, .int .i64 f.c.n, .int .i64 f.c.f, .int .i64 f.c.k, .int .i64 f.b.props, .slice f.B1 f.b.items.length f.d1, .slice f.B2 f.b.rules.length f.d2] 32) = w2 := ⟨_, rfl⟩
 have hy : Below w.heap.size w w2 := by rw [← hw2]; exact (Below.refl _ w).alloc (Nat.le_refl _) _
 have b0 : Box w2 w.heap.size #[.int .i64 f.t.len, .slice f.A1 f.t.rest.length f.c1, .slice f.A2 f.t.clo.length f.c2, .int .i64 f.c.n, .int .i64 f.c.f, .int .i64 f.c.k, .int .i64 f.b.props, .slice f.B1 f.b.items.length f.d1, .slice f.B2 f.b.rules.length f.d2] := by rw [← hw2]; exact Box.new w _ _
 have h7 := hE.z.size
 have HP := Lib.hid (pnew_bad (hf.below hy) hl (by have := hy.size; omega) hz)
 have hX := fun (wx : World) (hb : Below w2.heap.size w2 wx) => xnew_bad ((hf.below hy).below hb) hl hz
 have HX := Lib.hid hX
 have x0 := b0.cell 0; have x1 := b0.cell 1; have x2 := b0.cell 2; have x3 := b0.cell 3; have x4 := b0.cell 4; have x5 := b0.cell 5; have x6 := b0.cell 6; have x7 := b0.cell 7; have x8 := b0.cell 8
 simp only [List.getElem?_toArray, List.getElem?_cons_zero, List.getElem?_cons_succ] at x0 x1 x2 x3 x4 x5 x6 x7 x8
 have he : (f.e == 0) = false := by simpa using hz
 clear hX hz
 go_enter Tryz.func36, Tryz.ntmps36
 go_wp2_with (first
  | (go_at_call 20; (with_reducible refine HP.out.mono ?_); rintro e w3 ⟨rfl, hb3⟩; have b3 := b0.below hb3; have y0 := b3.cell 0; have y1 := b3.cell 1; have y2 := b3.cell 2; have y3 := b3.cell 3; have y4 := b3.cell 4; have y5 := b3.cell 5; have y6 := b3.cell 6; have y7 := b3.cell 7; have y8 := b3.cell 8; simp only [List.getElem?_toArray, List.getElem?_cons_zero, List.getElem?_cons_succ] at y0 y1 y2 y3 y4 y5 y6 y7 y8)
  | (go_at_call 52; (with_reducible refine (HX.out _ hb3).mono ?_); rintro e w4 ⟨rfl, hb4⟩))
 go_ret3
 exact ⟨rfl, hy.trans ((hb3.trans (hb4.mono hb3.size)).mono hy.size)⟩
set_option maxHeartbeats 1600000 in
/-- An office that can't be made: both say so, and the chapter's examples are answered. -/
theorem failed_any {f : Fi} {w : World} (hf : f.In w) (hl : f.Len) (hE : EnvA w) (hz : f.e ≠ 0) :
  Calls Tryz.prog 37 #[.agg f.cells] w fun e w' => e = .returned (.bool true) ∧ Below w.heap.size w w' := by
 unfold Fi.cells
 obtain ⟨w2, hw2⟩ : ∃ w2, w.alloc (.cells #[.int .i64 f.t.len, .slice f.A1 f.t.rest.length f.c1, .slice f.A2 f.t.clo.length f.c2, .int .i64 f.c.n, .int .i64 f.c.f, .int .i64 f.c.k, .int .i64 f.b.props, .slice f.B1 f.b.items.length f.d1, .slice f.B2 f.b.rules.length f.d2] 32) = w2 := ⟨_, rfl⟩
 have hy : Below w.heap.size w w2 := by rw [← hw2]; exact (Below.refl _ w).alloc (Nat.le_refl _) _
 have b0 : Box w2 w.heap.size #[.int .i64 f.t.len, .slice f.A1 f.t.rest.length f.c1, .slice f.A2 f.t.clo.length f.c2, .int .i64 f.c.n, .int .i64 f.c.f, .int .i64 f.c.k, .int .i64 f.b.props, .slice f.B1 f.b.items.length f.d1, .slice f.B2 f.b.rules.length f.d2] := by rw [← hw2]; exact Box.new w _ _
 have h7 := hE.z.size
 have HP := Lib.hid (pnew_bad (hf.below hy) hl (by have := hy.size; omega) hz)
 have hX := fun (wx : World) (hb : Below w2.heap.size w2 wx) => xnew_bad ((hf.below hy).below hb) hl hz
 have HX := Lib.hid hX
 have x0 := b0.cell 0; have x1 := b0.cell 1; have x2 := b0.cell 2; have x3 := b0.cell 3; have x4 := b0.cell 4; have x5 := b0.cell 5; have x6 := b0.cell 6; have x7 := b0.cell 7; have x8 := b0.cell 8
 simp only [List.getElem?_toArray, List.getElem?_cons_zero, List.getElem?_cons_succ] at x0 x1 x2 x3 x4 x5 x6 x7 x8
 have he : (f.e != 0) = true := by simpa using hz
 clear hX hz
 go_enter Tryz.func37, Tryz.ntmps37
 go_wp2_with (first
  | (go_at_call 20; (with_reducible refine HP.out.mono ?_); rintro e w3 ⟨rfl, hb3⟩; have b3 := b0.below hb3; have y0 := b3.cell 0; have y1 := b3.cell 1; have y2 := b3.cell 2; have y3 := b3.cell 3; have y4 := b3.cell 4; have y5 := b3.cell 5; have y6 := b3.cell 6; have y7 := b3.cell 7; have y8 := b3.cell 8; simp only [List.getElem?_toArray, List.getElem?_cons_zero, List.getElem?_cons_succ] at y0 y1 y2 y3 y4 y5 y6 y7 y8)
  | (go_at_call 52; (with_reducible refine (HX.out _ hb3).mono ?_); rintro e w4 ⟨rfl, hb4⟩; have hb5 := hy.trans ((hb3.trans (hb4.mono hb3.size)).mono hy.size); have HK := Lib.hid (oknown_any (hE.below hb5)))
  | (go_at_call 31; (with_reducible refine HK.out.mono ?_); rintro e w5 ⟨rfl, hb6⟩))
 go_ret
 exact ⟨rfl, hb5.trans (hb6.mono hb5.size)⟩
end Go.Proofs.YtiapkffihpgdcaaGreatDoor
namespace Go.Proofs.YtiapkffihpgdcaaGreatDoor
open Go.ChangeShapes Go.WideShapes Go.ChangeAt Go.RowKit Go.Deep Go.Joins
section
variable {H : Type} {enc : TypeId × Value → H} {W : World}
theorem r2_of {a : Addr} {n : Nat} {f g : Nat → Value} (hb : 0 < n → a.block < W.heap.size) (h : ∀ i, i < n → W.cell? (a.add (i * 2)) = some (f i) ∧ W.cell? (a.add (i * 2 + 1)) = some (g i)) : R2 (fun _ => True) W (some a) n f g := by
 refine ⟨⟨cells2_length n f g, fun hn => ⟨a, rfl, hb hn, fun j u hu => ?_⟩⟩, fun _ _ _ => trivial⟩
 have hj : j < n * 2 := by have := (List.getElem?_eq_some_iff.1 hu).1; rwa [cells2_length] at this
 obtain ⟨h1, h2⟩ := cells2_at n f g (j / 2) (by omega)
 obtain ⟨g1, g2⟩ := h (j / 2) (by omega)
 rcases Nat.mod_two_eq_zero_or_one j with e | e
 ·have ej : j = j / 2 * 2 := by omega
  rw [ej] at hu ⊢
  rw [h1] at hu
  rw [← hu]; exact g1
 ·have ej : j = j / 2 * 2 + 1 := by omega
  rw [ej] at hu ⊢
  rw [h2] at hu
  rw [← hu]; exact g2
theorem rnf_of {A : Option Addr} {l : List Int} (h : RN W A l) : RNF (fun _ => True) W A l := ⟨h, fun _ _ _ => trivial⟩
theorem open_items {cs : List Value} {x : DataW H × List MemPlace} {fuel : Nat} (hf : DataW.trod enc Tryz.prog W 0 (fun _ => true) true fuel 27 cs = some x) :
  ∃ (l : List It) (A : Option Addr) (c : Nat) (hp hq : Nat → SlH), cs = [.slice A l.length c] ∧ RIt (fun _ => True) W A l hp hq := by
 have hC : Tryz.prog.cellsOf 120 = 2 := by kernel_rfl
 rcases open_slice_fields Tryz.underlying27 Tryz.underlying120 (by kernel_rfl) hC hf with ⟨hcs, -⟩ | ⟨a, len, cap, m, D, Pl, hcs, -, hl, -, hm, -, hi⟩
 ·exact ⟨[], none, 0, fun _ => (none, 0), fun _ => (none, 0), hcs, ⟨R2.nil _ _ _ _ _, fun k hk => by simp at hk, fun k hk => by simp at hk⟩⟩
 ·simp only [if_true] at hm
  subst hm
  have key : ∀ i, i < len → ∃ f : It × SlH × SlH, W.cell? (a.add (i * 2)) = some (slV f.2.1 f.1.parts) ∧ W.cell? (a.add (i * 2 + 1)) = some (slV f.2.2 f.1.has) ∧ RN W f.2.1.1 f.1.parts ∧ RN W f.2.2.1 f.1.has := by
   intro i hil
   obtain ⟨ys, n, -, -, -, hf⟩ := hi i (by omega)
   obtain ⟨v0, y0, c0, -, t0⟩ := hf 0 _ rfl
   obtain ⟨v1, y1, c1, -, t1⟩ := hf 1 _ rfl
   obtain ⟨l0, A0, d0, e0, -, h0⟩ := open_nums t0
   obtain ⟨l1, A1, d1, e1, -, h1⟩ := open_nums t1
   simp only [List.cons.injEq, and_true] at e0 e1
   subst e0 e1
   exact ⟨(⟨l0, l1⟩, (A0, d0), (A1, d1)), c0, c1, h0, h1⟩
  obtain ⟨L, hll, hP⟩ := choose_list key
  subst hll
  have hat : ∀ i, i < L.length → W.cell? (a.add (i * 2)) = some (slV (L.getD i (⟨[], []⟩, (none, 0), (none, 0))).2.1 (gIt (L.map (·.1)) i).parts) ∧ W.cell? (a.add (i * 2 + 1)) = some (slV (L.getD i (⟨[], []⟩, (none, 0), (none, 0))).2.2 (gIt (L.map (·.1)) i).has) ∧
    RN W (L.getD i (⟨[], []⟩, (none, 0), (none, 0))).2.1.1 (gIt (L.map (·.1)) i).parts ∧ RN W (L.getD i (⟨[], []⟩, (none, 0), (none, 0))).2.2.1 (gIt (L.map (·.1)) i).has := fun i hil => by
   have e1 : L.getD i (⟨[], []⟩, (none, 0), (none, 0)) = L[i] := by rw [List.getD_eq_getElem?_getD, List.getElem?_eq_getElem hil]; rfl
   have e2 : gIt (L.map (·.1)) i = L[i].1 := by simp [gIt, hil]
   rw [e1, e2]
   exact hP i _ (List.getElem?_eq_getElem hil)
  refine ⟨L.map (·.1), some a, m, fun i => (L.getD i (⟨[], []⟩, (none, 0), (none, 0))).2.1, fun i => (L.getD i (⟨[], []⟩, (none, 0), (none, 0))).2.2, by rw [List.length_map]; exact hcs, ⟨?_, fun k hk => ?_, fun k hk => ?_⟩⟩
  ·rw [List.length_map]
   exact r2_of (fun hn => cell_block (hat 0 hn).1) fun i hil => ⟨(hat i hil).1, (hat i hil).2.1⟩
  ·rw [List.length_map] at hk; exact rnf_of (hat k hk).2.2.1
  ·rw [List.length_map] at hk; exact rnf_of (hat k hk).2.2.2
theorem open_rules {cs : List Value} {x : DataW H × List MemPlace} {fuel : Nat} (hf : DataW.trod enc Tryz.prog W 0 (fun _ => true) true fuel 28 cs = some x) :
  ∃ (l : List Rl) (A : Option Addr) (c : Nat) (hp : Nat → SlH), cs = [.slice A l.length c] ∧ RRl (fun _ => True) W A l hp := by
 have hC : Tryz.prog.cellsOf 166 = 2 := by kernel_rfl
 rcases open_slice_fields Tryz.underlying28 Tryz.underlying166 (by kernel_rfl) hC hf with ⟨hcs, -⟩ | ⟨a, len, cap, m, D, Pl, hcs, -, hl, -, hm, -, hi⟩
 ·exact ⟨[], none, 0, fun _ => (none, 0), hcs, ⟨R2.nil _ _ _ _ _, fun k hk => by simp at hk⟩⟩
 ·simp only [if_true] at hm
  subst hm
  have key : ∀ i, i < len → ∃ f : Rl × SlH, W.cell? (a.add (i * 2)) = some (slV f.2 f.1.iff) ∧ W.cell? (a.add (i * 2 + 1)) = some (.int .i64 f.1.thn) ∧ RN W f.2.1 f.1.iff := by
   intro i hil
   obtain ⟨ys, n, -, -, -, hf⟩ := hi i (by omega)
   obtain ⟨v0, y0, c0, -, t0⟩ := hf 0 _ rfl
   obtain ⟨v1, y1, c1, -, t1⟩ := hf 1 _ rfl
   obtain ⟨l0, A0, d0, e0, -, h0⟩ := open_nums t0
   obtain ⟨x1, e1, -, -⟩ := DataW.trod_int Tryz.underlying3 t1
   simp only [List.cons.injEq, and_true] at e0 e1
   subst e0 e1
   exact ⟨(⟨l0, x1⟩, (A0, d0)), c0, c1, h0⟩
  obtain ⟨L, hll, hP⟩ := choose_list key
  subst hll
  have hat : ∀ i, i < L.length → W.cell? (a.add (i * 2)) = some (slV (L.getD i (⟨[], 0⟩, (none, 0))).2 (gRl (L.map (·.1)) i).iff) ∧ W.cell? (a.add (i * 2 + 1)) = some (.int .i64 (gRl (L.map (·.1)) i).thn) ∧ RN W (L.getD i (⟨[], 0⟩, (none, 0))).2.1 (gRl (L.map (·.1)) i).iff := fun i hil => by
   have e1 : L.getD i (⟨[], 0⟩, (none, 0)) = L[i] := by rw [List.getD_eq_getElem?_getD, List.getElem?_eq_getElem hil]; rfl
   have e2 : gRl (L.map (·.1)) i = L[i].1 := by simp [gRl, hil]
   rw [e1, e2]
   exact hP i _ (List.getElem?_eq_getElem hil)
  refine ⟨L.map (·.1), some a, m, fun i => (L.getD i (⟨[], 0⟩, (none, 0))).2, by rw [List.length_map]; exact hcs, ⟨?_, fun k hk => ?_⟩⟩
  ·rw [List.length_map]
   exact r2_of (fun hn => cell_block (hat 0 hn).1) fun i hil => ⟨(hat i hil).1, (hat i hil).2.1⟩
  ·rw [List.length_map] at hk; exact rnf_of (hat k hk).2.2
theorem open_words {cs : List Value} {x : DataW H × List MemPlace} {fuel : Nat} (hf : DataW.trod enc Tryz.prog W 0 (fun _ => true) true fuel 33 cs = some x) :
  ∃ (l : List Wd) (A : Option Addr) (c : Nat), cs = [.slice A l.length c] ∧ RS W A l ∧ l.length ≤ 9223372036854775807 ∧ ∀ k, k < l.length → (l.getD k []).length ≤ 9223372036854775807 := by
 rcases open_strs Tryz.underlying33 Tryz.underlying9 (by kernel_rfl) hf with ⟨hcs, -⟩ | ⟨a, len, cap, m, Sx, hcs, -, hl, hmx, hm, -, hi⟩
 ·exact ⟨[], none, 0, hcs, ⟨rfl, fun h => by cases h⟩, by simp, fun k hk => by simp at hk⟩
 ·simp only [if_true] at hm
  subst hm
  have key : ∀ i, i < len → ∃ s : Wd, W.cell? (a.add i) = some (St s) ∧ s.length ≤ 9223372036854775807 := fun i hil => by
   obtain ⟨h1, h2⟩ := hi i (by omega)
   exact ⟨(Sx i).data.toList, h1, by unfold maxLen at h2; simpa using h2⟩
  obtain ⟨L, hll, hP⟩ := choose_list key
  subst hll
  unfold maxLen at hmx
  have hcell : ∀ k (hk : k < L.length), W.cell? (a.add k) = some (St L[k]) ∧ L[k].length ≤ 9223372036854775807 := fun k hk => hP k _ (List.getElem?_eq_getElem hk)
  have hbytes : L.length ≤ 9223372036854775807 := by omega
  refine ⟨L, some a, m, hcs, ⟨by simp [strs], fun hn => ⟨a, rfl, cell_block (hcell 0 hn).1, fun j u hu => ?_⟩⟩, hbytes, fun k hk => ?_⟩
  ·have hj : j < L.length := by have := (List.getElem?_eq_some_iff.1 hu).1; simpa [strs] using this
   rw [(hcell j hj).1, ← hu]
   simp [strs, hj]
  ·rw [show L.getD k [] = L[k] from by rw [List.getD_eq_getElem?_getD, List.getElem?_eq_getElem hk]; rfl]; exact (hcell k hk).2
theorem cells_term {cs : List Value} {x : DataW H × List MemPlace} {fuel : Nat} (h : DataW.trod enc Tryz.prog W 0 (fun _ => true) true fuel 24 cs = some x) :
  ∃ (t : Tm) (A1 A2 : Option Addr) (c1 c2 : Nat), cs = [.int .i64 t.len, .slice A1 t.rest.length c1, .slice A2 t.clo.length c2] ∧ RN W A1 t.rest ∧ RN W A2 t.clo := by
 obtain ⟨xs, n, -, -, hl, hxl, hf⟩ := DataW.trod_struct Tryz.underlying24 h
 have hC : Tryz.prog.cellsOf 24 = 3 := by kernel_rfl
 have hI : Tryz.prog.cellsOf 3 = 1 := by kernel_rfl
 have hS : Tryz.prog.cellsOf 22 = 1 := by kernel_rfl
 rw [hC] at hl
 match cs, hl with
 | [v0, v1, v2], _ =>
  match xs, hxl with
  | [y0, y1, y2], _ =>
   have f0 : DataW.trod enc Tryz.prog W 0 (fun _ => true) true n 3 [v0] = some y0 := by have := hf 0 _ rfl; simpa [hI, hS] using this
   have f1 : DataW.trod enc Tryz.prog W 0 (fun _ => true) true n 22 [v1] = some y1 := by have := hf 1 _ rfl; simpa [hI, hS] using this
   have f2 : DataW.trod enc Tryz.prog W 0 (fun _ => true) true n 22 [v2] = some y2 := by have := hf 2 _ rfl; simpa [hI, hS] using this
   obtain ⟨x0, e0, -, -⟩ := DataW.trod_int Tryz.underlying3 f0
   obtain ⟨l1, A1, c1, e1, -, h1⟩ := open_nums f1
   obtain ⟨l2, A2, c2, e2, -, h2⟩ := open_nums f2
   simp only [List.cons.injEq, and_true] at e0 e1 e2
   subst e0 e1 e2
   exact ⟨⟨x0, l1, l2⟩, A1, A2, c1, c2, rfl, h1, h2⟩
theorem cells_cycle9 {cs : List Value} {x : DataW H × List MemPlace} {fuel : Nat} (h : DataW.trod enc Tryz.prog W 0 (fun _ => true) true fuel 26 cs = some x) : ∃ c : Cy, cs = [.int .i64 c.n, .int .i64 c.f, .int .i64 c.k] := by
 obtain ⟨xs, n, -, -, hl, hxl, hf⟩ := DataW.trod_struct Tryz.underlying26 h
 have hC : Tryz.prog.cellsOf 26 = 3 := by kernel_rfl
 have hI : Tryz.prog.cellsOf 3 = 1 := by kernel_rfl
 rw [hC] at hl
 match cs, hl with
 | [v0, v1, v2], _ =>
  match xs, hxl with
  | [y0, y1, y2], _ =>
   have f0 : DataW.trod enc Tryz.prog W 0 (fun _ => true) true n 3 [v0] = some y0 := by have := hf 0 _ rfl; simpa [hI] using this
   have f1 : DataW.trod enc Tryz.prog W 0 (fun _ => true) true n 3 [v1] = some y1 := by have := hf 1 _ rfl; simpa [hI] using this
   have f2 : DataW.trod enc Tryz.prog W 0 (fun _ => true) true n 3 [v2] = some y2 := by have := hf 2 _ rfl; simpa [hI] using this
   obtain ⟨x0, e0, -, -⟩ := DataW.trod_int Tryz.underlying3 f0
   obtain ⟨x1, e1, -, -⟩ := DataW.trod_int Tryz.underlying3 f1
   obtain ⟨x2, e2, -, -⟩ := DataW.trod_int Tryz.underlying3 f2
   simp only [List.cons.injEq, and_true] at e0 e1 e2
   subst e0 e1 e2
   exact ⟨⟨x0, x1, x2⟩, rfl⟩
theorem cells_book {cs : List Value} {x : DataW H × List MemPlace} {fuel : Nat} (h : DataW.trod enc Tryz.prog W 0 (fun _ => true) true fuel 30 cs = some x) :
  ∃ (b : Bk) (B1 B2 : Option Addr) (d1 d2 : Nat) (hp hq hr : Nat → SlH), cs = [.int .i64 b.props, .slice B1 b.items.length d1, .slice B2 b.rules.length d2] ∧ RBk (fun _ => True) W B1 B2 b hp hq hr := by
 obtain ⟨xs, n, -, -, hl, hxl, hf⟩ := DataW.trod_struct Tryz.underlying30 h
 have hC : Tryz.prog.cellsOf 30 = 3 := by kernel_rfl
 have hI : Tryz.prog.cellsOf 3 = 1 := by kernel_rfl
 have hS : Tryz.prog.cellsOf 27 = 1 := by kernel_rfl
 have hR : Tryz.prog.cellsOf 28 = 1 := by kernel_rfl
 rw [hC] at hl
 match cs, hl with
 | [v0, v1, v2], _ =>
  match xs, hxl with
  | [y0, y1, y2], _ =>
   have f0 : DataW.trod enc Tryz.prog W 0 (fun _ => true) true n 3 [v0] = some y0 := by have := hf 0 _ rfl; simpa [hI, hS, hR] using this
   have f1 : DataW.trod enc Tryz.prog W 0 (fun _ => true) true n 27 [v1] = some y1 := by have := hf 1 _ rfl; simpa [hI, hS, hR] using this
   have f2 : DataW.trod enc Tryz.prog W 0 (fun _ => true) true n 28 [v2] = some y2 := by have := hf 2 _ rfl; simpa [hI, hS, hR] using this
   obtain ⟨x0, e0, -, -⟩ := DataW.trod_int Tryz.underlying3 f0
   obtain ⟨l1, A1, c1, hp, hq, e1, h1⟩ := open_items f1
   obtain ⟨l2, A2, c2, hr, e2, h2⟩ := open_rules f2
   simp only [List.cons.injEq, and_true] at e0 e1 e2
   subst e0 e1 e2
   exact ⟨⟨x0, l1, l2⟩, A1, A2, c1, c2, hp, hq, hr, rfl, h1, h2⟩
/-- A firm that comes in. -/
theorem open_firm {v : Value} {d : DataW H} {p : List MemPlace} {r : Reach} {b0 : Nat} (hok : Value.okWide Tryz.prog W r b0 32 v) (h : DataW.Trod enc Tryz.prog W 0 (fun _ => true) true 32 v d p) :
  ∃ f : Fi, v = .agg f.cells ∧ f.In W := by
 obtain ⟨cs, rfl, hsz⟩ := okWide_struct Tryz.underlying32 hok
 obtain ⟨l⟩ := cs
 have hC : Tryz.prog.cellsOf 32 = 9 := by kernel_rfl
 have h1 : Tryz.prog.cellsOf 24 = 3 := by kernel_rfl
 have h2 : Tryz.prog.cellsOf 26 = 3 := by kernel_rfl
 have h3 : Tryz.prog.cellsOf 30 = 3 := by kernel_rfl
 match l, hsz.trans hC with
 | [v0, v1, v2, v3, v4, v5, v6, v7, v8], _ =>
  obtain ⟨fuel, hf0⟩ := h
  obtain ⟨xs, n, -, -, -, hxl, hf⟩ := DataW.trod_struct Tryz.underlying32 hf0
  match xs, hxl with
  | [y0, y1, y2], _ =>
   have f0 : DataW.trod enc Tryz.prog W 0 (fun _ => true) true n 24 [v0, v1, v2] = some y0 := by have := hf 0 _ rfl; simpa [h1, h2, h3, Value.cells] using this
   have f1 : DataW.trod enc Tryz.prog W 0 (fun _ => true) true n 26 [v3, v4, v5] = some y1 := by have := hf 1 _ rfl; simpa [h1, h2, h3, Value.cells] using this
   have f2 : DataW.trod enc Tryz.prog W 0 (fun _ => true) true n 30 [v6, v7, v8] = some y2 := by have := hf 2 _ rfl; simpa [h1, h2, h3, Value.cells] using this
   obtain ⟨t, A1, A2, c1, c2, e0, g1, g2⟩ := cells_term f0
   obtain ⟨c, e1⟩ := cells_cycle9 f1
   obtain ⟨b, B1, B2, d1, d2, hp, hq, hr, e2, g3⟩ := cells_book f2
   simp only [List.cons.injEq, and_true] at e0 e1 e2
   obtain ⟨rfl, rfl, rfl⟩ := e0
   obtain ⟨rfl, rfl, rfl⟩ := e1
   obtain ⟨rfl, rfl, rfl⟩ := e2
   exact ⟨⟨t, c, b, A1, A2, B1, B2, c1, c2, d1, d2, hp, hq, hr⟩, rfl, ⟨g1, g2, g3⟩⟩
/-- A list of orders that comes in. -/
theorem open_orders {v : Value} {d : DataW H} {p : List MemPlace} {r : Reach} {b0 : Nat} (hok : Value.okWide Tryz.prog W r b0 33 v) (h : DataW.Trod enc Tryz.prog W 0 (fun _ => true) true 33 v d p) :
  ∃ (l : List Wd) (A : Option Addr) (c : Nat), v = .slice A l.length c ∧ RS W A l ∧ l.length ≤ 9223372036854775807 ∧ ∀ k, k < l.length → (l.getD k []).length ≤ 9223372036854775807 := by
 obtain ⟨fuel, hf⟩ := h
 obtain ⟨l, A, c, hcs, h1, h2, h3⟩ := open_words hf
 exact ⟨l, A, c, slice_of_cells Tryz.underlying33 hok hcs, h1, h2, h3⟩
end
end Go.Proofs.YtiapkffihpgdcaaGreatDoor
namespace Go.Proofs.YtiapkffihpgdcaaGreatDoor
open Go.RowKit Go.MuLone
theorem own_cap {w : World} {base e size n c : Nat} {A : Option Addr} {xs : List Value} (h : w.ownsRow base e size (.slice A n c) n xs) : n ≤ c := by
 rcases h.2 with ⟨_, h0⟩ | ⟨g, cap, cur, hv, _, _, hle, _⟩
 ·omega
 ·injection hv with _ _ h3; omega
theorem RetL.listC {g size n : Nat} {w : World} {xs : List Value} {Z : Value} {e : Ending} {w' : World}
  (h : RetL 0 Z g w (fun v x => ∃ A c, v = .slice A n c ∧ n ≤ c ∧ ReadsF (fun k => w.heap.size ≤ k) x size A n xs) e w') (hg : g < w.heap.size) :
  ∃ A c, e = .returned (.tuple #[.slice A n c, .int .i64 0]) ∧ n ≤ c ∧ ReadsF (fun k => w.heap.size ≤ k) w' size A n xs ∧ Below w.heap.size w w' := by
 obtain ⟨v, w2, he, ⟨A, c, rfl, hc, hr⟩, hw, _, hb⟩ := h
 rw [if_pos rfl] at he
 subst hw
 exact ⟨A, c, he, hc, hr.kept ⟨by rw [set_size]; exact Nat.le_refl _, fun k hk _ => set_other _ _ _ _ (by omega)⟩, hb⟩
section
variable {L : Int} {N : Nat} {w : World} {F : Nat → Prop} {g : Nat} {h : Hd} {s : Of}
theorem cFactsC_any (hP : PO L N w F g h s) {b1 : Nat} (x1 : w.cell? ⟨b1, 0, none⟩ = some (.pointer (some ⟨g, 0, none⟩))) :
  Calls Tryz.prog 76 #[.pointer (some ⟨b1, 0, none⟩)] w fun e w' => ∃ A c, e = .returned (.tuple #[.slice A s.facts.length c, .int .i64 0]) ∧ s.facts.length ≤ c ∧ ReadsF (fun k => w.heap.size ≤ k) w' 5 A s.facts.length (cellsF s.facts) ∧ Below w.heap.size w w' := by
 have q := hP.cFa
 have HC := Lib.hid (clone_anyO s.facts (by have := hP.ok.fl; omega) h.fa.1 h.fa.2 _ w hP.rf)
 go_enter Tryz.func76, Tryz.ntmps76
 go_wp2_with (go_at_call 77; (with_reducible refine HC.out.mono ?_); rintro e w2 ⟨A', c', rfl, own2, hb2⟩)
 go_ret2
 exact ⟨A', c', rfl, own_cap own2, ReadsF.of_own own2 fun k hk => (World.ownsRow.lt own2 k hk).1, hb2⟩
theorem oFactsC_any (hP : PO 0 N w F g h s) :
  Calls Tryz.prog 24 #[.pointer (some ⟨g, 0, none⟩)] w fun e w' => ∃ A c, e = .returned (.slice A s.facts.length c) ∧ s.facts.length ≤ c ∧ ReadsF (fun k => w.heap.size ≤ k) w' 5 A s.facts.length (cellsF s.facts) ∧ Below w.heap.size w w' := by
 obtain ⟨w2, hw2⟩ : ∃ w2, w.alloc (.cells #[.pointer (some ⟨g, 0, none⟩)] 35) = w2 := ⟨_, rfl⟩
 have hb2 : Below w.heap.size w w2 := by rw [← hw2]; exact (Below.refl _ w).alloc (Nat.le_refl _) _
 have b1 : Box w2 w.heap.size #[.pointer (some ⟨g, 0, none⟩)] := by rw [← hw2]; exact Box.new w _ _
 have x1 := b1.cell 0
 simp only [List.getElem?_toArray, List.getElem?_cons_zero, List.getElem?_cons_succ] at x1
 have hP2 := hP.below hb2
 have hgl := hP.gl
 have hg2 := hP2.gl
 have hl1 := b1.lt
 have hK : ∀ args w, (callFunc 76 args).run Tryz.prog w = .ok (.enter 76 args) w := enters_of Tryz.func76 (by kernel_rfl) rfl
 have hcl := lockedFa_any hP2 (K := 76) (caps := #[.pointer (some ⟨w.heap.size, 0, none⟩)]) (E := 0) (Q := fun v x => ∃ A c, v = .slice A s.facts.length c ∧ s.facts.length ≤ c ∧ ReadsF (fun k => w2.heap.size ≤ k) x 5 A s.facts.length (cellsF s.facts)) hK
  ((cFactsC_any (hP2.lock rfl) ((b1.setg (by omega)).cell 0)).mono fun e w' ⟨A, c, he, hc, hr, hb⟩ => ⟨_, he, ⟨A, c, rfl, hc, by rw [set_size] at hr; exact hr⟩, by rw [set_size] at hb; exact hb⟩)
 have HC := Lib.hid (hcl.mono fun e w' hh => hh.listC hg2)
 clear hcl hK
 go_enter Tryz.func24, Tryz.ntmps24
 go_wp2_with (go_at_call 75; (with_reducible refine HC.out.mono ?_); rintro e w3 ⟨A, c, rfl, hc, hr, hb3⟩)
 go_ret
 exact ⟨A, c, rfl, hc, hr.mono fun k hk => Nat.le_trans hb2.size hk, hb2.trans (hb3.mono hb2.size)⟩
end
end Go.Proofs.YtiapkffihpgdcaaGreatDoor
namespace Go.Proofs.YtiapkffihpgdcaaGreatDoor
open Go.RowKit
theorem nil_getD {l : List Wd} {k : Nat} (h : k < l.length) : l.getD k [] = l[k] := by rw [List.getD_eq_getElem?_getD, List.getElem?_eq_getElem h]; rfl
theorem lng_no {l : List Wd} (h : lng l = false) : l.length ≤ 300 ∧ ∀ k, k < l.length → (l.getD k []).length ≤ 400 := by
 unfold lng at h
 simp only [Bool.or_eq_false_iff, decide_eq_false_iff_not] at h
 obtain ⟨h1, h2⟩ := h
 rw [anyTo_false] at h1
 exact ⟨by omega, fun k hk => by have := h1 k hk; unfold lngP at this; rw [decide_eq_false_iff_not] at this; omega⟩
theorem lnOf_nil : lnOf [] = [] := rfl
theorem lnOf_cons (a : UInt8) (t : List UInt8) : lnOf (a :: t) = if a = 10 then [] else a :: lnOf t := by
 unfold lnOf
 rw [List.takeWhile_cons]
 by_cases h : a = 10
 ·subst h; rfl
 ·rw [if_neg h, if_pos (by simpa using h)]
theorem lnOf_le (t : List UInt8) : (lnOf t).length ≤ t.length := List.takeWhile_prefix _ |>.length_le
theorem lnOf_lt (t : List UInt8) : (lnOf t).length < t.length ↔ (10 : UInt8) ∈ t := by
 induction t with
 | nil => simp [lnOf_nil]
 | cons a t ih =>
  rw [lnOf_cons]
  by_cases h : a = 10
  ·subst h; simp
  ·rw [if_neg h]
   have : (10 : UInt8) ∈ a :: t ↔ (10 : UInt8) ∈ t := by simp [Ne.symm h]
   rw [this, ← ih]
   simp
theorem index_nl (t : List UInt8) : Lib.index t [10] = if (10 : UInt8) ∈ t then ((lnOf t).length : Int) else -1 := by
 induction t with
 | nil => rfl
 | cons a t ih =>
  unfold Lib.index
  by_cases h : a = 10
  ·subst h
   rw [lnOf_cons]; simp
  ·have h2 : (10 : UInt8) ∈ a :: t ↔ (10 : UInt8) ∈ t := by simp [Ne.symm h]
   have h3 : ([10] : List UInt8).isPrefixOf (a :: t) = false := by simp [List.isPrefixOf, Ne.symm h]
   rw [h3, ih, lnOf_cons, if_neg h]
   by_cases hm : (10 : UInt8) ∈ t
   ·rw [if_pos hm, if_pos (h2.2 hm)]
    have : (((lnOf t).length : Int) == -1) = false := by rw [beq_eq_false_iff_ne]; omega
    simp [this]
   ·rw [if_neg hm, if_neg (fun x => hm (h2.1 x))]; rfl
theorem lnOf_take (t : List UInt8) : t.take (lnOf t).length = lnOf t := by
 have h : lnOf t <+: t := List.takeWhile_prefix _
 exact (List.prefix_iff_eq_take.1 h).symm
theorem cut_nl_yes {t : List UInt8} (h : (10 : UInt8) ∈ t) : Lib.cut t [10] = (lnOf t, nxt t, true) := by
 unfold Lib.cut
 rw [index_nl, if_pos h, if_pos (by omega), Int.toNat_natCast, lnOf_take]
 rfl
theorem cut_nl_no {t : List UInt8} (h : (10 : UInt8) ∉ t) : Lib.cut t [10] = (t, [], false) := by
 unfold Lib.cut
 rw [index_nl, if_neg h, if_neg (by decide)]
theorem nxt_len (t : List UInt8) : (nxt t).length ≤ t.length := by unfold nxt; simp
theorem rdL_stop {n : Nat} {t : List UInt8} (h : goodL t = false) : rdL n t = ([], t) := by
 cases n with
 | zero => rfl
 | succ n => simp only [rdL]; rw [h]; rfl
theorem rdL_go {n : Nat} {t : List UInt8} (h : goodL t = true) : rdL (n + 1) t = (lnOf t :: (rdL n (nxt t)).1, (rdL n (nxt t)).2) := by
 simp only [rdL]; rw [h]; rfl
theorem cutNl_any {w : World} {m : Int} (hm : w.cell? ⟨1, 0, none⟩ = some (.int .i64 m)) (t : Wd) (ht : t.length ≤ 1000000000) :
  Calls Tryz.prog 94 #[St t, St [10]] w fun e w' => e = .returned (.tuple #[St (Lib.cut t [10]).1, St (Lib.cut t [10]).2.1, .bool (Lib.cut t [10]).2.2]) ∧ ∃ n, w' = w.drewN n :=
 Any.strings_Cut Tryz.lcut ⟨t.toArray⟩ ⟨#[10]⟩ m w (by show t.toArray.size < _; simp; omega) hm
end Go.Proofs.YtiapkffihpgdcaaGreatDoor
