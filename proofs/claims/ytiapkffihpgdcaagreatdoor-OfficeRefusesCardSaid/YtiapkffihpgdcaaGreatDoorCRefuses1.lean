/-
  OfficeRefuses: for every firm, every list of orders and every order the law returns true, panics nowhere and leaves its arguments as they were: a refused order changes nothing, and one that is done stands in the book. On the tied card. No condition beyond the card.
-/
import Derived.Test.YtiapkffihpgdcaaGreatDoorQB1
import Derived.Test.YtiapkffihpgdcaaGreatDoorQB2
import Derived.Test.YtiapkffihpgdcaaGreatDoorQB3
import Derived.Test.YtiapkffihpgdcaaGreatDoorQB4
import Derived.Test.YtiapkffihpgdcaaGreatDoorQB5
import Derived.Test.YtiapkffihpgdcaaGreatDoorQB6
import Derived.Test.YtiapkffihpgdcaaGreatDoorQB7
import Derived.Test.YtiapkffihpgdcaaGreatDoorQB8
import Derived.Test.YtiapkffihpgdcaaGreatDoorQB9
import Derived.Test.YtiapkffihpgdcaaGreatDoorQB10
import Derived.Test.YtiapkffihpgdcaaGreatDoorQB11
import Derived.Test.YtiapkffihpgdcaaGreatDoorQB12
import Derived.Test.YtiapkffihpgdcaaGreatDoorQB13
import Derived.Test.YtiapkffihpgdcaaGreatDoorQB14
import Derived.Test.YtiapkffihpgdcaaGreatDoorQB15
import Derived.Test.YtiapkffihpgdcaaGreatDoorQB16
import Derived.Test.YtiapkffihpgdcaaGreatDoorQB17
import Derived.Test.YtiapkffihpgdcaaGreatDoorQB18
import Derived.Test.YtiapkffihpgdcaaGreatDoorQB19
import Derived.Test.YtiapkffihpgdcaaGreatDoorQB20
import Derived.Test.YtiapkffihpgdcaaGreatDoorQB21
import Derived.Test.YtiapkffihpgdcaaGreatDoorQB22
import Derived.Test.YtiapkffihpgdcaaGreatDoorQB23
import Derived.Test.YtiapkffihpgdcaaGreatDoorQB24
import Derived.Test.YtiapkffihpgdcaaGreatDoorQB25
import Derived.Test.YtiapkffihpgdcaaGreatDoorQB26
import Derived.Test.YtiapkffihpgdcaaGreatDoorQB27
import Derived.Test.YtiapkffihpgdcaaGreatDoorQB28
import Derived.Test.YtiapkffihpgdcaaGreatDoorQB29
import Derived.Test.YtiapkffihpgdcaaGreatDoorQB30
import Derived.Test.YtiapkffihpgdcaaGreatDoorQB31
import Derived.Test.YtiapkffihpgdcaaGreatDoorQB32
import Derived.Test.YtiapkffihpgdcaaGreatDoorQB33
import Derived.Test.YtiapkffihpgdcaaGreatDoorQB34
import Derived.Test.YtiapkffihpgdcaaGreatDoorQB35
import Derived.IntWalk
import Derived.ScopeJumps
import Derived.WalkMore
import Derived.StillTailTactics
import Derived.Test.YtiapkffihpgdcaaGreatDoorTie
import Derived.Test.YtiapkffihpgdcaaGreatDoorCards
import Derived.SevenTiedAt
import Derived.ChangeMaps5
set_option linter.unusedVariables false
set_option linter.unusedSimpArgs false
set_option maxRecDepth 100000
namespace Go.Proofs.YtiapkffihpgdcaaGreatDoor
open Go.RowKit
def apart (v v':Value):Prop:=∀k,v.ownBlock=some k→v'.ownBlock=some k→False
section
variable {P:Program}{W:World}{ops:Array Oper}{o:Oper}{a:Act}{K:Act→World→Prop}{Q:Exit→Act→World→Prop}{E:Prop}{rest:List Oper}
 {t e:TypeId} {z:Value} {size bytes base n c:Nat} {A:Option Addr} {xs news:List Value}
end
set_option maxHeartbeats 3200000 in
theorem pre_OfficeRefuses {f:Fi}{w:World}(hf:f.In w)(hE:EnvA w)(l:List Wd)(A:Option Addr)(c:Nat)(hR:RS w A l)(hll:l.length≤9223372036854775807)(t:Wd)(ht:t.length≤400)(h:lrg f.t f.b=true∨(lrg f.t f.b=false∧lng l=true)∨(lrg f.t f.b=false∧lng l=false∧f.e≠0)) :
  Calls Tryz.prog 12 #[.agg f.cells,.slice A l.length c,St t] w fun e w'=>e=.returned (.bool true)∧Below w.heap.size w w':=by
 unfold Fi.cells
 obtain ⟨w2,hw2⟩:∃w2,w.alloc (.cells #[.int .i64 f.t.len,.slice f.A1 f.t.rest.length f.c1,.slice f.A2 f.t.clo.length f.c2,.int .i64 f.c.n,.int .i64 f.c.f,.int .i64 f.c.k,.int .i64 f.b.props,.slice f.B1 f.b.items.length f.d1,.slice f.B2 f.b.rules.length f.d2] 32)=w2:=⟨_,rfl⟩
 have hy:Below w.heap.size w w2:=by rw [← hw2];exact (Below.refl _ w).alloc (Nat.le_refl _) _
 have b0:Box w2 w.heap.size #[.int .i64 f.t.len,.slice f.A1 f.t.rest.length f.c1,.slice f.A2 f.t.clo.length f.c2,.int .i64 f.c.n,.int .i64 f.c.f,.int .i64 f.c.k,.int .i64 f.b.props,.slice f.B1 f.b.items.length f.d1,.slice f.B2 f.b.rules.length f.d2]:=by rw [← hw2];exact Box.new w _ _
 have HL:=Lib.hid (large_any f.t f.c f.b (fun _=>True) f.A1 f.A2 f.B1 f.B2 f.c1 f.c2 f.d1 f.d2 f.hp f.hq f.hr w2 (hf.below hy).bk)
 have HO:=Lib.hid (fun (w':World) (hb:Below w2.heap.size w2 w')=>olong_any l A c w' hll ((hR.below hy).below hb))
 have x0:=b0.cell 0;have x1:=b0.cell 1;have x2:=b0.cell 2;have x3:=b0.cell 3;have x4:=b0.cell 4;have x5:=b0.cell 5;have x6:=b0.cell 6;have x7:=b0.cell 7;have x8:=b0.cell 8;simp only [gqA,gqB,gqC] at x0 x1 x2 x3 x4 x5 x6 x7 x8
 have hT:decide ((400:Int)<(t.length:Int))=false:=by rw [decide_eq_false_iff_not];omega
 rcases h with h | ⟨h,h'⟩ | ⟨h,h',hz⟩
 ·rw [h] at HL
  go_enter Tryz.func12,Tryz.ntmps12
  go_wp2_with (first | (go_at_call 34;(with_reducible refine HL.out.mono ?_);rintro e w3 ⟨rfl,hb3⟩;have b3:=b0.below hb3;have hy3:=hy.trans (hb3.mono hy.size);have y0:=b3.cell 0;have y1:=b3.cell 1;have y2:=b3.cell 2;have y3:=b3.cell 3;have y4:=b3.cell 4;have y5:=b3.cell 5;have y6:=b3.cell 6;have y7:=b3.cell 7;have y8:=b3.cell 8;simp only [gqA,gqB,gqC] at y0 y1 y2 y3 y4 y5 y6 y7 y8) | (go_at_call 31;(with_reducible refine (oknown_any (hE.below hy3)).mono ?_);rintro e wk ⟨rfl,hbk⟩))
  go_ret
  exact ⟨rfl,hy3.trans (hbk.mono hy3.size)⟩
 ·rw [h] at HL
  rw [h'] at HO
  go_enter Tryz.func12,Tryz.ntmps12
  go_wp2_with (first | (go_at_call 34;(with_reducible refine HL.out.mono ?_);rintro e w3 ⟨rfl,hb3⟩;have b3:=b0.below hb3;have hy3:=hy.trans (hb3.mono hy.size);have y0:=b3.cell 0;have y1:=b3.cell 1;have y2:=b3.cell 2;have y3:=b3.cell 3;have y4:=b3.cell 4;have y5:=b3.cell 5;have y6:=b3.cell 6;have y7:=b3.cell 7;have y8:=b3.cell 8;simp only [gqA,gqB,gqC] at y0 y1 y2 y3 y4 y5 y6 y7 y8) | (go_at_call 35;(with_reducible refine (HO.out _ hb3).mono ?_);rintro e w4 ⟨rfl,hb4⟩;have b4:=b3.below hb4;have hy4:=hy3.trans (hb4.mono hy3.size);have z0:=b4.cell 0;have z1:=b4.cell 1;have z2:=b4.cell 2;have z3:=b4.cell 3;have z4:=b4.cell 4;have z5:=b4.cell 5;have z6:=b4.cell 6;have z7:=b4.cell 7;have z8:=b4.cell 8;simp only [gqA,gqB,gqC] at z0 z1 z2 z3 z4 z5 z6 z7 z8) | (go_at_call 31;(with_reducible refine (oknown_any (hE.below hy4)).mono ?_);rintro e wk ⟨rfl,hbk⟩))
  go_ret
  exact ⟨rfl,hy4.trans (hbk.mono hy4.size)⟩
 ·rw [h] at HL
  rw [h'] at HO
  have hlen:=lrg_len h
  have HB:=Lib.hid (fun (w':World) (hb:Below w.heap.size w w')=>begin_bad (hf.below hb) hlen (hE.below hb) hz)
  have HF:=Lib.hid (fun (w':World) (hb:Below w.heap.size w w')=>failed_any (hf.below hb) hlen (hE.below hb) hz)
  unfold Fi.cells at HB HF
  clear hz h h'
  go_enter Tryz.func12,Tryz.ntmps12
  go_wp2_with (first
   | (go_at_call 34;(with_reducible refine HL.out.mono ?_);rintro e w3 ⟨rfl,hb3⟩;have b3:=b0.below hb3;have hy3:=hy.trans (hb3.mono hy.size);have y0:=b3.cell 0;have y1:=b3.cell 1;have y2:=b3.cell 2;have y3:=b3.cell 3;have y4:=b3.cell 4;have y5:=b3.cell 5;have y6:=b3.cell 6;have y7:=b3.cell 7;have y8:=b3.cell 8;simp only [gqA,gqB,gqC] at y0 y1 y2 y3 y4 y5 y6 y7 y8)
   | (go_at_call 35;(with_reducible refine (HO.out _ hb3).mono ?_);rintro e w4 ⟨rfl,hb4⟩;have b4:=b3.below hb4;have hy4:=hy3.trans (hb4.mono hy3.size);have z0:=b4.cell 0;have z1:=b4.cell 1;have z2:=b4.cell 2;have z3:=b4.cell 3;have z4:=b4.cell 4;have z5:=b4.cell 5;have z6:=b4.cell 6;have z7:=b4.cell 7;have z8:=b4.cell 8;simp only [gqA,gqB,gqC] at z0 z1 z2 z3 z4 z5 z6 z7 z8)
   | (go_at_call 36;(with_reducible refine (HB.out _ hy4).mono ?_);rintro e w5 ⟨rfl,hb5⟩;have b5:=b4.below hb5;have hy5:=hy4.trans (hb5.mono hy4.size);have v0:=b5.cell 0;have v1:=b5.cell 1;have v2:=b5.cell 2;have v3:=b5.cell 3;have v4:=b5.cell 4;have v5:=b5.cell 5;have v6:=b5.cell 6;have v7:=b5.cell 7;have v8:=b5.cell 8;simp only [gqA,gqB,gqC] at v0 v1 v2 v3 v4 v5 v6 v7 v8)
   | (go_at_call 37;(with_reducible refine (HF.out _ hy5).mono ?_);rintro e w6 ⟨rfl,hb6⟩))
  go_ret
  exact ⟨rfl,hy5.trans (hb6.mono hy5.size)⟩
set_option maxHeartbeats 3200000 in
theorem long_OfficeRefuses {f:Fi}{w:World}(hf:f.In w)(hE:EnvA w)(l:List Wd)(A:Option Addr)(c:Nat)(hR:RS w A l)(hll:l.length≤9223372036854775807)(t:Wd)(ht:400<t.length) :
  Calls Tryz.prog 12 #[.agg f.cells,.slice A l.length c,St t] w fun e w'=>e=.returned (.bool true)∧Below w.heap.size w w':=by
 unfold Fi.cells
 obtain ⟨w2,hw2⟩:∃w2,w.alloc (.cells #[.int .i64 f.t.len,.slice f.A1 f.t.rest.length f.c1,.slice f.A2 f.t.clo.length f.c2,.int .i64 f.c.n,.int .i64 f.c.f,.int .i64 f.c.k,.int .i64 f.b.props,.slice f.B1 f.b.items.length f.d1,.slice f.B2 f.b.rules.length f.d2] 32)=w2:=⟨_,rfl⟩
 have hy:Below w.heap.size w w2:=by rw [← hw2];exact (Below.refl _ w).alloc (Nat.le_refl _) _
 have b0:Box w2 w.heap.size #[.int .i64 f.t.len,.slice f.A1 f.t.rest.length f.c1,.slice f.A2 f.t.clo.length f.c2,.int .i64 f.c.n,.int .i64 f.c.f,.int .i64 f.c.k,.int .i64 f.b.props,.slice f.B1 f.b.items.length f.d1,.slice f.B2 f.b.rules.length f.d2]:=by rw [← hw2];exact Box.new w _ _
 have HL:=Lib.hid (large_any f.t f.c f.b (fun _=>True) f.A1 f.A2 f.B1 f.B2 f.c1 f.c2 f.d1 f.d2 f.hp f.hq f.hr w2 (hf.below hy).bk)
 have HO:=Lib.hid (fun (w':World) (hb:Below w2.heap.size w2 w')=>olong_any l A c w' hll ((hR.below hy).below hb))
 have x0:=b0.cell 0;have x1:=b0.cell 1;have x2:=b0.cell 2;have x3:=b0.cell 3;have x4:=b0.cell 4;have x5:=b0.cell 5;have x6:=b0.cell 6;have x7:=b0.cell 7;have x8:=b0.cell 8;simp only [gqA,gqB,gqC] at x0 x1 x2 x3 x4 x5 x6 x7 x8
 have hT:decide ((400:Int)<(t.length:Int))=true:=by rw [decide_eq_true_eq];omega
 cases h:lrg f.t f.b with
 | true =>
  rw [h] at HL
  go_enter Tryz.func12,Tryz.ntmps12
  go_wp2_with (first | (go_at_call 34;(with_reducible refine HL.out.mono ?_);rintro e w3 ⟨rfl,hb3⟩;have b3:=b0.below hb3;have hy3:=hy.trans (hb3.mono hy.size);have y0:=b3.cell 0;have y1:=b3.cell 1;have y2:=b3.cell 2;have y3:=b3.cell 3;have y4:=b3.cell 4;have y5:=b3.cell 5;have y6:=b3.cell 6;have y7:=b3.cell 7;have y8:=b3.cell 8;simp only [gqA,gqB,gqC] at y0 y1 y2 y3 y4 y5 y6 y7 y8) | (go_at_call 31;(with_reducible refine (oknown_any (hE.below hy3)).mono ?_);rintro e wk ⟨rfl,hbk⟩))
  go_ret
  exact ⟨rfl,hy3.trans (hbk.mono hy3.size)⟩
 | false =>
  rw [h] at HL
  cases h':lng l with
  | true =>
   rw [h'] at HO
   go_enter Tryz.func12,Tryz.ntmps12
   go_wp2_with (first | (go_at_call 34;(with_reducible refine HL.out.mono ?_);rintro e w3 ⟨rfl,hb3⟩;have b3:=b0.below hb3;have hy3:=hy.trans (hb3.mono hy.size);have y0:=b3.cell 0;have y1:=b3.cell 1;have y2:=b3.cell 2;have y3:=b3.cell 3;have y4:=b3.cell 4;have y5:=b3.cell 5;have y6:=b3.cell 6;have y7:=b3.cell 7;have y8:=b3.cell 8;simp only [gqA,gqB,gqC] at y0 y1 y2 y3 y4 y5 y6 y7 y8) | (go_at_call 35;(with_reducible refine (HO.out _ hb3).mono ?_);rintro e w4 ⟨rfl,hb4⟩;have b4:=b3.below hb4;have hy4:=hy3.trans (hb4.mono hy3.size);have z0:=b4.cell 0;have z1:=b4.cell 1;have z2:=b4.cell 2;have z3:=b4.cell 3;have z4:=b4.cell 4;have z5:=b4.cell 5;have z6:=b4.cell 6;have z7:=b4.cell 7;have z8:=b4.cell 8;simp only [gqA,gqB,gqC] at z0 z1 z2 z3 z4 z5 z6 z7 z8) | (go_at_call 31;(with_reducible refine (oknown_any (hE.below hy4)).mono ?_);rintro e wk ⟨rfl,hbk⟩))
   go_ret
   exact ⟨rfl,hy4.trans (hbk.mono hy4.size)⟩
  | false =>
   rw [h'] at HO
   go_enter Tryz.func12,Tryz.ntmps12
   go_wp2_with (first | (go_at_call 34;(with_reducible refine HL.out.mono ?_);rintro e w3 ⟨rfl,hb3⟩;have b3:=b0.below hb3;have hy3:=hy.trans (hb3.mono hy.size);have y0:=b3.cell 0;have y1:=b3.cell 1;have y2:=b3.cell 2;have y3:=b3.cell 3;have y4:=b3.cell 4;have y5:=b3.cell 5;have y6:=b3.cell 6;have y7:=b3.cell 7;have y8:=b3.cell 8;simp only [gqA,gqB,gqC] at y0 y1 y2 y3 y4 y5 y6 y7 y8) | (go_at_call 35;(with_reducible refine (HO.out _ hb3).mono ?_);rintro e w4 ⟨rfl,hb4⟩;have b4:=b3.below hb4;have hy4:=hy3.trans (hb4.mono hy3.size);have z0:=b4.cell 0;have z1:=b4.cell 1;have z2:=b4.cell 2;have z3:=b4.cell 3;have z4:=b4.cell 4;have z5:=b4.cell 5;have z6:=b4.cell 6;have z7:=b4.cell 7;have z8:=b4.cell 8;simp only [gqA,gqB,gqC] at z0 z1 z2 z3 z4 z5 z6 z7 z8) | (go_at_call 31;(with_reducible refine (oknown_any (hE.below hy4)).mono ?_);rintro e wk ⟨rfl,hbk⟩))
   go_ret
   exact ⟨rfl,hy4.trans (hbk.mono hy4.size)⟩
set_option maxHeartbeats 3200000 in
theorem main_OfficeRefuses {f : Fi} {w : World} (hf : f.In w) (hE : EnvA w) (l : List Wd) (A : Option Addr) (c : Nat) (hR : RS w A l) (hll : l.length ≤ 9223372036854775807) (t : Wd) (h : lrg f.t f.b = false) (h' : lng l = false) (hz : f.e = 0) (ht : t.length ≤ 400) :
    Calls Tryz.prog 12 #[.agg f.cells, .slice A l.length c, St t] w fun e w' => e = .returned (.bool true) ∧ Below w.heap.size w w' := by
  unfold Fi.cells
  obtain ⟨w2, hw2⟩ : ∃ w2, w.alloc (.cells #[.int .i64 f.t.len, .slice f.A1 f.t.rest.length f.c1, .slice f.A2 f.t.clo.length f.c2, .int .i64 f.c.n, .int .i64 f.c.f, .int .i64 f.c.k, .int .i64 f.b.props, .slice f.B1 f.b.items.length f.d1, .slice f.B2 f.b.rules.length f.d2] 32) = w2 := ⟨_, rfl⟩
  have hy : Below w.heap.size w w2 := by rw [← hw2]; exact (Below.refl _ w).alloc (Nat.le_refl _) _
  have b0 : Box w2 w.heap.size #[.int .i64 f.t.len, .slice f.A1 f.t.rest.length f.c1, .slice f.A2 f.t.clo.length f.c2, .int .i64 f.c.n, .int .i64 f.c.f, .int .i64 f.c.k, .int .i64 f.b.props, .slice f.B1 f.b.items.length f.d1, .slice f.B2 f.b.rules.length f.d2] := by rw [← hw2]; exact Box.new w _ _
  have HL := Lib.hid (large_any f.t f.c f.b (fun _ => True) f.A1 f.A2 f.B1 f.B2 f.c1 f.c2 f.d1 f.d2 f.hp f.hq f.hr w2 (hf.below hy).bk)
  have HO := Lib.hid (fun (w' : World) (hb : Below w2.heap.size w2 w') => olong_any l A c w' hll ((hR.below hy).below hb))
  have x0 := b0.cell 0; have x1 := b0.cell 1; have x2 := b0.cell 2; have x3 := b0.cell 3; have x4 := b0.cell 4; have x5 := b0.cell 5; have x6 := b0.cell 6; have x7 := b0.cell 7; have x8 := b0.cell 8; simp only [List.getElem?_toArray, List.getElem?_cons_zero, List.getElem?_cons_succ] at x0 x1 x2 x3 x4 x5 x6 x7 x8
  rw [h] at HL
  rw [h'] at HO
  have hlen := lrg_len h
  have htlen := lrg_tlen h hz
  obtain ⟨hl3, hlw⟩ := lng_no h'
  have HLW := Lib.hid hlw
  have HB := Lib.hid (fun (w' : World) (hb : Below w.heap.size w w') => begin_ok (hf.below hb) hlen (hE.below hb) hz)
  unfold Fi.cells at HB
  obtain ⟨m, hm⟩ : ∃ m, m = min l.length 30 := ⟨_, rfl⟩
  have hm1 : m ≤ l.length ∧ m ≤ 30 := by omega
  have hm2 : m = l.length ∨ (m = 30 ∧ 30 < l.length) := by omega
  have HM := Lib.hid hm2
  have hso := OfOk.new hz
  have hzz := hz
  have hng := h'
  clear hz h h' hlw hm hm2
  have hT : decide ((400 : Int) < (t.length : Int)) = false := by rw [decide_eq_false_iff_not]; omega
  have HX := Lib.hid (fun (w' : World) (hb : Below w.heap.size w w') => both_ok9 (hf.below hb) hlen (hE.below hb) hzz l A c (hR.below hb) hng)
  unfold Fi.cells at HX
  obtain ⟨S, hS⟩ : ∃ S, S = runTo f.s0 l (min l.length 30) := ⟨_, rfl⟩
  rw [← hS] at HX
  obtain ⟨q, hq⟩ : ∃ q, q = min l.length 30 := ⟨_, rfl⟩
  have hq30 : q < 1000000000 := by omega
  rw [← hq] at HX
  clear hS hzz hng hq
  by_cases hdo : doE S t = 0
  · go_enter Tryz.func12, Tryz.ntmps12
    go_wp2_with (first
      | (go_at_call 34; (with_reducible refine HL.out.mono ?_); rintro e w3 ⟨rfl, hb3⟩; have b3 := b0.below hb3; have hy3 := hy.trans (hb3.mono hy.size); have y0 := b3.cell 0; have y1 := b3.cell 1; have y2 := b3.cell 2; have y3 := b3.cell 3; have y4 := b3.cell 4; have y5 := b3.cell 5; have y6 := b3.cell 6; have y7 := b3.cell 7; have y8 := b3.cell 8; simp only [List.getElem?_toArray, List.getElem?_cons_zero, List.getElem?_cons_succ] at y0 y1 y2 y3 y4 y5 y6 y7 y8)
      | (go_at_call 35; (with_reducible refine (HO.out _ hb3).mono ?_); rintro e w4 ⟨rfl, hb4⟩; have b4 := b3.below hb4; have hy4 := hy3.trans (hb4.mono hy3.size); have z0 := b4.cell 0; have z1 := b4.cell 1; have z2 := b4.cell 2; have z3 := b4.cell 3; have z4 := b4.cell 4; have z5 := b4.cell 5; have z6 := b4.cell 6; have z7 := b4.cell 7; have z8 := b4.cell 8; simp only [List.getElem?_toArray, List.getElem?_cons_zero, List.getElem?_cons_succ] at z0 z1 z2 z3 z4 z5 z6 z7 z8)
      | (go_at_call 36; (with_reducible refine (HB.out _ hy4).mono ?_); rintro e w5 ⟨g, x, rfl, hd⟩; have b5 := b4.below hd.bel; have hy5 := hy4.trans (hd.bel.mono hy4.size); have v0 := b5.cell 0; have v1 := b5.cell 1; have v2 := b5.cell 2; have v3 := b5.cell 3; have v4 := b5.cell 4; have v5 := b5.cell 5; have v6 := b5.cell 6; have v7 := b5.cell 7; have v8 := b5.cell 8; simp only [List.getElem?_toArray, List.getElem?_cons_zero, List.getElem?_cons_succ] at v0 v1 v2 v3 v4 v5 v6 v7 v8)
      | (go_at_call 38; (with_reducible refine (HX.out _ hy5).mono ?_); rintro e w6 ⟨gg, xx, rfl, hd6⟩
         have hy6 := hy5.trans (hd6.bel.mono hy5.size)
         have hb0 := bok_len hd6.ok
         have HK := Lib.hid hd6.book)
      | (go_at_call 23; (with_reducible refine HK.out.mono ?_); rintro e w7 ⟨rfl, hb7⟩
         have hd7 := hd6.below hb7
         have HD := Lib.hid (hd7.do_ hq30 t (by omega))
         rw [hdo] at HD
         clear HK)
      | (go_at_call 25; (with_reducible refine HD.out.mono ?_); rintro e w8 ⟨rfl, hd8⟩
         have HK2 := Lib.hid hd8.book
         rw [bok_do hdo] at HK2
         have hsum1 : ¬ 9223372036854775807 < (bok S).length + t.length := by omega
         have hsum2 : ¬ 9223372036854775807 < (bok S).length + t.length + 1 := by omega
         have hsum3 : ¬ 9223372036854775807 < (bok S ++ t).length + 1 := by simp; omega
         have hcat1 : (⟨(bok S).toArray⟩ : ByteArray) ++ ⟨t.toArray⟩ = ⟨(bok S ++ t).toArray⟩ := st_app (bok S) t
         have hcat2 : (⟨(bok S ++ t).toArray⟩ : ByteArray) ++ ⟨#[10]⟩ = ⟨(bok S ++ t ++ [10]).toArray⟩ := st_app (bok S ++ t) [10])
      | (go_at_call 23; (with_reducible refine HK2.out.mono ?_); rintro e w9 ⟨rfl, hb9⟩
         have hd9 := hd8.below hb9
         have hy9 := hy5.trans (hd9.bel.mono hy5.size)
         obtain ⟨TT, hTT⟩ : ∃ TT, TT = bok S ++ t ++ [10] := ⟨_, rfl⟩)
      | (go_at_call 31; (with_reducible refine (oknown_any (hE.below hy9)).mono ?_); rintro e wk ⟨rfl, hbk⟩))
    go_ret
    exact ⟨rfl, hy9.trans (hbk.mono hy9.size)⟩
  · have hne : (doE S t != 0) = true := by simpa using hdo
    obtain ⟨E, hEE⟩ : ∃ E, E = doE S t := ⟨_, rfl⟩
    rw [← hEE] at hne
    have HEE := Lib.hid hEE
    have HDO := Lib.hid hdo
    clear hEE hdo
    go_enter Tryz.func12, Tryz.ntmps12
    go_wp2_with (first
      | (go_at_call 34; (with_reducible refine HL.out.mono ?_); rintro e w3 ⟨rfl, hb3⟩; have b3 := b0.below hb3; have hy3 := hy.trans (hb3.mono hy.size); have y0 := b3.cell 0; have y1 := b3.cell 1; have y2 := b3.cell 2; have y3 := b3.cell 3; have y4 := b3.cell 4; have y5 := b3.cell 5; have y6 := b3.cell 6; have y7 := b3.cell 7; have y8 := b3.cell 8; simp only [List.getElem?_toArray, List.getElem?_cons_zero, List.getElem?_cons_succ] at y0 y1 y2 y3 y4 y5 y6 y7 y8)
      | (go_at_call 35; (with_reducible refine (HO.out _ hb3).mono ?_); rintro e w4 ⟨rfl, hb4⟩; have b4 := b3.below hb4; have hy4 := hy3.trans (hb4.mono hy3.size); have z0 := b4.cell 0; have z1 := b4.cell 1; have z2 := b4.cell 2; have z3 := b4.cell 3; have z4 := b4.cell 4; have z5 := b4.cell 5; have z6 := b4.cell 6; have z7 := b4.cell 7; have z8 := b4.cell 8; simp only [List.getElem?_toArray, List.getElem?_cons_zero, List.getElem?_cons_succ] at z0 z1 z2 z3 z4 z5 z6 z7 z8)
      | (go_at_call 36; (with_reducible refine (HB.out _ hy4).mono ?_); rintro e w5 ⟨g, x, rfl, hd⟩; have b5 := b4.below hd.bel; have hy5 := hy4.trans (hd.bel.mono hy4.size); have v0 := b5.cell 0; have v1 := b5.cell 1; have v2 := b5.cell 2; have v3 := b5.cell 3; have v4 := b5.cell 4; have v5 := b5.cell 5; have v6 := b5.cell 6; have v7 := b5.cell 7; have v8 := b5.cell 8; simp only [List.getElem?_toArray, List.getElem?_cons_zero, List.getElem?_cons_succ] at v0 v1 v2 v3 v4 v5 v6 v7 v8)
      | (go_at_call 38; (with_reducible refine (HX.out _ hy5).mono ?_); rintro e w6 ⟨gg, xx, rfl, hd6⟩
         have hy6 := hy5.trans (hd6.bel.mono hy5.size)
         have HK := Lib.hid hd6.book)
      | (go_at_call 23; (with_reducible refine HK.out.mono ?_); rintro e w7 ⟨rfl, hb7⟩
         have hd7 := hd6.below hb7
         have HD := Lib.hid (hd7.do_ hq30 t (by omega))
         rw [← HEE.out, doS_bad HDO.out] at HD)
      | (go_at_call 25; (with_reducible refine HD.out.mono ?_); rintro e w8 ⟨rfl, hd8⟩
         have HQ := Lib.hid hd8.equal)
      | (go_at_call 54; (with_reducible refine HQ.out.mono ?_); rintro e w9 ⟨rfl, hb9⟩
         have hd9 := hd8.below hb9
         have hy9 := hy5.trans (hd9.bel.mono hy5.size))
      | (go_at_call 31; (with_reducible refine (oknown_any (hE.below hy9)).mono ?_); rintro e wk ⟨rfl, hbk⟩))
    go_ret
    exact ⟨rfl, hy9.trans (hbk.mono hy9.size)⟩
theorem officeRefuses_any {f:Fi}{w:World}(hf:f.In w)(hE:EnvA w)(l:List Wd)(A:Option Addr)(c:Nat)(hR:RS w A l)(hll:l.length≤9223372036854775807)(t:Wd) :
  Calls Tryz.prog 12 #[.agg f.cells,.slice A l.length c,St t] w fun e w'=>e=.returned (.bool true)∧Below w.heap.size w w':=by
 by_cases ht:t.length≤400
 ·cases h:lrg f.t f.b with
  | true=>exact pre_OfficeRefuses hf hE l A c hR hll t ht (.inl h)
  | false =>
   cases h':lng l with
   | true=>exact pre_OfficeRefuses hf hE l A c hR hll t ht (.inr (.inl ⟨h,h'⟩))
   | false =>
    by_cases hz:f.e=0
    ·exact main_OfficeRefuses hf hE l A c hR hll t h h' hz ht
    ·exact pre_OfficeRefuses hf hE l A c hR hll t ht (.inr (.inr ⟨h,h',hz⟩))
 ·exact long_OfficeRefuses hf hE l A c hR hll t (by omega)
end Go.Proofs.YtiapkffihpgdcaaGreatDoor
namespace Go.Proofs.YtiapkffihpgdcaaGreatDoor
open Go.ChangeShapes Go.WideShapes Go.ChangeAt Go.RowKit Go.Deep Go.Joins
theorem handed_shaped {H:Type}{enc:TypeId × Value→H}{a:Assume}{C:Checked}{os:Os}{f:FuncId}{fn:Func}{s:ChangeSpec}{conds:List PathCond}{apart fresh handsOn again:Bool}{X:World→Array Value→Prop}
  (hX:∀(w w':World) (args:Array Value),w.heap=w'.heap→X w args→X w' args)
  (own:ownKnob C.prog.godebug=none) (started:os.Started) (noInit:C.prog.inits.idxOf? f=none) (hfn:C.prog.funcs[f]? = some fn)
  (start:∃(w:World) (tape:Tape) (i:Input),w.os=os∧(w.forCall tape i).Shaped C.prog∧i.vars=[]∧Input.okWide C.prog (w.forCall tape i) .any w.heap.size f i ∧
   ((s.pre enc C.prog fn conds apart (w.forCall tape i).memory i.args∧X (w.forCall tape i).memory i.args)∧sizedMet enc C.prog fn (OpenSpec.ofChange s) apart (w.forCall tape i).memory i.args)∧a.holds C.prog (lone (Frame.enter C.prog f i.args .normal) [] (w.forCall tape i)))
  (walk:∀(W:World) (base:Nat) (args:Array Value) (ds gs:List (DataW H)) (before:List MemPlace),
   (∀(j:Nat) t v,fn.params[j]? = some t→args[j]? = some v→Value.okWide C.prog W .any base t v)→DataW.Whole enc C.prog fn.params.toList s.vars apart W args.toList ds gs before→W.ShapedOpen C.prog→X W args →
   Calls C.prog f args W fun e W'=>∃v,e=.returned v∧s.post enc C.prog fn apart fresh handsOn again W args v W') :
  ReturnsInHanded a C os f .any (fun w args=>(s.pre enc C.prog fn conds apart w args∧X w args)∧sizedMet enc C.prog fn (OpenSpec.ofChange s) apart w args) (s.post enc C.prog fn apart fresh handsOn again):=by
 refine returnsInHanded_of_calls own started noInit start ?_
 rintro w tape i-hsh - ⟨_,_,_,g,hg,_,_,_,_,hval⟩ ⟨⟨⟨ds,gs,before,hw,-⟩,hx⟩,-⟩ -
 obtain rfl:g=fn:=Option.some.inj (hg.symm.trans hfn)
 refine (walk (w.forCall tape i) w.heap.size i.args ds gs before hval (DataW.Whole.of_heap (by rfl) hw) hsh (hX _ _ _ (by rfl) hx)).mono fun e W' hh=>?_
 obtain ⟨v,he,hp⟩:=hh
 subst he
 exact ChangeSpec.post_blind hp
/-- The listed variables that hold plain data. -/
noncomputable def plainL:List (String × DataW Unit):=[("math/bits.deBruijn32tab",Rows.laid_math_bits_deBruijn32tab),("math/bits.deBruijn64tab",Rows.laid_math_bits_deBruijn64tab),("unicode/utf8.acceptRanges",Rows.laid_unicode_utf8_acceptRanges),("unicode/utf8.first",Rows.laid_unicode_utf8_first)]
theorem officeRefuses_env {W:World}(hL:laidMetH Tryz.prog Rows.officeRefusesRow.laid W)(hs:W.ShapedOpen Tryz.prog):EnvA W:=by
 obtain ⟨h1,h2⟩:=plain_met (Lp:=plainL) (by kernel_rfl) (by kernel_rfl) hL
 exact env_of h1 (by simp [plainL]) (by simp [plainL]) h2 hs
theorem officeRefuses_lifted (os:Os)(started:os.Started)(H:Type)(enc:TypeId × Value→H) :
  ReturnsInHanded {} Tryz.checked os 12 .any (fun w args=>(Rows.officeRefusesSpec.pre enc Tryz.prog Tryz.f12 [] false w args∧laidMetH Tryz.prog Rows.officeRefusesRow.laid w)∧sizedMet enc Tryz.prog Tryz.f12 (OpenSpec.ofChange Rows.officeRefusesSpec) false w args)
   (Rows.officeRefusesSpec.post enc Tryz.prog Tryz.f12 false true false false):=by
 refine handed_shaped (C:=Tryz.checked) (X:=fun w _=>laidMetH Tryz.prog Rows.officeRefusesRow.laid w) (fun _ _ _ hh h=>h.of_heap hh) own_ started (by kernel_rfl) Tryz.func12
  (ChangeSpec.witness_shaped (enc:=enc) (C:=Tryz.checked) (os:=os) (X:=fun w _=>laidMetH Tryz.prog Rows.officeRefusesRow.laid w) false (witW os plainL) #[.agg #[.int .i64 0,.slice none 0 0,.slice none 0 0,.int .i64 0,.int .i64 0,.int .i64 0,.int .i64 0,.slice none 0 0,.slice none 0 0],.slice none 0 0,.string ⟨#[]⟩] 8 (by unfold witW;rw [World.layVars_os];rfl)
   (World.shaped_of_ZipB (by kernel_rfl) (by kernel_rfl)) (by kernel_rfl) (by kernel_rfl) (by kernel_rfl)
   (laidMetH_of_parts (by rw [show (Rows.officeRefusesRow.laid.filter fun x=>x.2.handleName?.isNone)=plainL by kernel_rfl];exact witW_met _ (by kernel_rfl) (by kernel_rfl)) (by kernel_rfl))) ?_
 intro W base args ds gs before hval0 hW hS hL
 have hval:∀(j:Nat) t v,Tryz.f12.params[j]? = some t→args[j]? = some v→Value.okWide Tryz.prog W .any base t v:=hval0
 have hW':=hW
 obtain ⟨p,q,hA0,hV,rfl,hfz,hnd⟩:=hW
 have hA:DataW.TrodAll enc Tryz.prog W 0 (fun _=>true) true Tryz.f12.params.toList args.toList ds p:=hA0
 rw [Tryz.params12] at hA hval
 obtain ⟨v0,v1,v2,d0,d1,d2,p0,p1,p2,rfl,rfl,rfl,h0,h1,h2⟩:=trodAll_three hA
 obtain ⟨f,rfl,hf⟩:=open_firm (hval 0 _ v0 rfl rfl) h0
 obtain ⟨l,A,c,rfl,hrs,hll,hlk⟩:=open_orders (hval 1 _ v1 rfl rfl) h1
 obtain ⟨s,rfl,-,-,ws⟩:=Go.ChangeMaps.open_string Tryz.underlying9 (hval 2 _ v2 rfl rfl) h2
 have hsz:s.data.toList.length≤9223372036854775807:=by unfold maxLen at ws;simpa using ws
 refine (officeRefuses_any hf (officeRefuses_env hL hS) l A c hrs hll s.data.toList).mono fun e W' ⟨he,hb⟩=>?_
 subst he
 exact ⟨_,rfl,law_post hW' rfl (by kernel_rfl) rfl (by rw [Tryz.params12];intro t ht;simp at ht;rcases ht with rfl | rfl | rfl <;> exact ⟨by kernel_rfl,of_decide_eq_true (by kernel_rfl)⟩) hb⟩
set_option maxHeartbeats 4000000 in
theorem officeRefuses_closed:joinedFacts Tryz.prog 12 Tryz.f12 Rows.officeRefusesSpec Rows.officeRefusesRow=true:=by
 unfold joinedFacts
 simp only [Bool.and_eq_true]
 repeat' apply And.intro
 all_goals (as_aux_lemma=>kernel_rfl)
set_option maxHeartbeats 4000000 in
theorem officeRefuses_wrap:Tryz.f12.isWrapper Tryz.prog Rows.officeRefusesRow.wrapper Rows.officeRefusesRow.mainSum:=by
 unfold Func.isWrapper;first | (rw [if_pos (by decide +kernel)];kernel_rfl) | (rw [if_neg (by decide +kernel)];exact ⟨rfl,rfl⟩)
theorem officeRefuses_named:Tryz.prog.funcNamed Rows.officeRefusesRow.func=some 12:=by kernel_rfl
theorem officeRefuses_inst:Tryz.f12.isInstance Tryz.prog Rows.officeRefusesRow.origin Rows.officeRefusesRow.targs:=of_decide_eq_true (by kernel_rfl)
set_option maxHeartbeats 4000000 in
theorem officeRefuses_row:Rows.OfficeRefusesSaid :=
 OpenClaim.holds_of_wide 12 Tryz.f12 rfl rfl rfl rfl rfl rfl rfl ⟨rfl,rfl,rfl,rfl,rfl⟩ rfl rfl rfl rfl rfl officeRefuses_named Tryz.func12 officeRefuses_closed
  officeRefuses_inst officeRefuses_wrap
  (fun os started H enc _=>officeRefuses_lifted os started H enc)
theorem officeRefuses_wfT:Rows.officeRefusesRow.wfByText (OpenSpec.ofChange Rows.officeRefusesSpec)=true:=by kernel_rfl
theorem office_main:Tryz.pinned.checked.prog.mainIs=some (true,"5a9a52965f4185065c0d39a39ec58f829537e604a07fc4f1dbce9d7d2d17f592".toList):=by kernel_rfl
theorem office_looks:true=Tryz.pinned.checked.prog.looks []:=by kernel_rfl
theorem officeRefuses_goes:false=Rows.officeRefusesRow.goesBy Tryz.pinned.checked.prog:=by kernel_rfl
theorem officeRefuses_stand:([32,33,9].all fun u=>!Tryz.prog.wantsStandIn u)=true:=by kernel_rfl
set_option maxHeartbeats 4000000 in
theorem officeRefuses_holds:Rows.OfficeRefusesCardSaid :=
 Claim7.holds_tied_plain_at .later [] [.data,.data,.data,.handle,.pinned] true (true,"5a9a52965f4185065c0d39a39ec58f829537e604a07fc4f1dbce9d7d2d17f592") true
  officeRefuses_row (fun _ h=>by cases h) officeRefuses_wfT (fun _ h=>by cases h) officeRefuses_row_tie rfl ⟨rfl,rfl⟩ office_main rfl
  (fun f fn hf hfn=>by
   obtain rfl:f=12:=Option.some.inj (officeRefuses_named.symm.trans hf) |>.symm
   obtain rfl:fn=Tryz.f12:=(Option.some.inj (Tryz.func12.symm.trans hfn)).symm
   exact ⟨office_looks,fun j t ht=>by
    rw [Tryz.params12] at ht
    have hm:t ∈ [32,33,9]:=by simpa using Array.mem_of_getElem? ht
    exact (show Tryz.prog.wantsStandIn t=false by simpa using List.all_eq_true.1 officeRefuses_stand t hm)⟩)
  officeRefuses_goes
end Go.Proofs.YtiapkffihpgdcaaGreatDoor
