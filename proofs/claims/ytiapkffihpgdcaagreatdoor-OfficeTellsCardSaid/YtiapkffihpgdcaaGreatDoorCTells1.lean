/-
  OfficeTells: for every firm, every list of orders and whatever is asked the law returns true, panics nowhere and leaves its arguments as they were: both offices tell the same. On the tied card. No condition beyond the card.
-/
import Derived.Test.YtiapkffihpgdcaaGreatDoorQB1
import Derived.Test.YtiapkffihpgdcaaGreatDoorQB2
import Derived.Test.YtiapkffihpgdcaaGreatDoorQB3
import Derived.Test.YtiapkffihpgdcaaGreatDoorQB4
import Derived.Test.YtiapkffihpgdcaaGreatDoorQB5
import Derived.Test.YtiapkffihpgdcaaGreatDoorQB6
import Derived.Test.YtiapkffihpgdcaaGreatDoorQB7
import Derived.Test.YtiapkffihpgdcaaGreatDoorQB8
import Derived.Test.YtiapkffihpgdcaaGreatDoorQB9
import Derived.Test.YtiapkffihpgdcaaGreatDoorQB10
import Derived.Test.YtiapkffihpgdcaaGreatDoorQB11
import Derived.Test.YtiapkffihpgdcaaGreatDoorQB12
import Derived.Test.YtiapkffihpgdcaaGreatDoorQB13
import Derived.Test.YtiapkffihpgdcaaGreatDoorQB14
import Derived.Test.YtiapkffihpgdcaaGreatDoorQB15
import Derived.Test.YtiapkffihpgdcaaGreatDoorQB16
import Derived.Test.YtiapkffihpgdcaaGreatDoorQB17
import Derived.Test.YtiapkffihpgdcaaGreatDoorQB18
import Derived.Test.YtiapkffihpgdcaaGreatDoorQB19
import Derived.Test.YtiapkffihpgdcaaGreatDoorQB20
import Derived.Test.YtiapkffihpgdcaaGreatDoorQB21
import Derived.Test.YtiapkffihpgdcaaGreatDoorQB22
import Derived.Test.YtiapkffihpgdcaaGreatDoorQB23
import Derived.Test.YtiapkffihpgdcaaGreatDoorQB24
import Derived.Test.YtiapkffihpgdcaaGreatDoorQB25
import Derived.Test.YtiapkffihpgdcaaGreatDoorQB26
import Derived.Test.YtiapkffihpgdcaaGreatDoorQB27
import Derived.Test.YtiapkffihpgdcaaGreatDoorQB28
import Derived.Test.YtiapkffihpgdcaaGreatDoorQB29
import Derived.Test.YtiapkffihpgdcaaGreatDoorQB30
import Derived.Test.YtiapkffihpgdcaaGreatDoorQB31
import Derived.Test.YtiapkffihpgdcaaGreatDoorQB32
import Derived.Test.YtiapkffihpgdcaaGreatDoorQB33
import Derived.Test.YtiapkffihpgdcaaGreatDoorQB34
import Derived.Test.YtiapkffihpgdcaaGreatDoorQB35
import Derived.IntWalk
import Derived.ScopeJumps
import Derived.WalkMore
import Derived.StillTailTactics
import Derived.Test.YtiapkffihpgdcaaGreatDoorTie
import Derived.Test.YtiapkffihpgdcaaGreatDoorCards
import Derived.SevenTiedAt
import Derived.ChangeMaps5
set_option linter.unusedVariables false
set_option linter.unusedSimpArgs false
set_option maxRecDepth 100000
namespace Go.Proofs.YtiapkffihpgdcaaGreatDoor
open Go.RowKit
def apart (v v':Value):Prop:=∀k,v.ownBlock=some k→v'.ownBlock=some k→False
section
variable {P:Program}{W:World}{ops:Array Oper}{o:Oper}{a:Act}{K:Act→World→Prop}{Q:Exit→Act→World→Prop}{E:Prop}{rest:List Oper}
 {t e:TypeId} {z:Value} {size bytes base n c:Nat} {A:Option Addr} {xs news:List Value}
end
set_option maxHeartbeats 3200000 in
theorem pre_OfficeTells {f:Fi}{w:World}(hf:f.In w)(hE:EnvA w)(l:List Wd)(A:Option Addr)(c:Nat)(hR:RS w A l)(hll:l.length≤9223372036854775807)(a1 a2:Int)(a3:Wd)(h:lrg f.t f.b=true∨(lrg f.t f.b=false∧lng l=true)∨(lrg f.t f.b=false∧lng l=false∧f.e≠0)) :
  Calls Tryz.prog 7 #[.agg f.cells,.slice A l.length c,.agg #[.int .i64 a1,.int .i64 a2,St a3]] w fun e w'=>e=.returned (.bool true)∧Below w.heap.size w w':=by
 unfold Fi.cells
 obtain ⟨w2,hw2⟩:∃w2,(w.alloc (.cells #[.int .i64 f.t.len,.slice f.A1 f.t.rest.length f.c1,.slice f.A2 f.t.clo.length f.c2,.int .i64 f.c.n,.int .i64 f.c.f,.int .i64 f.c.k,.int .i64 f.b.props,.slice f.B1 f.b.items.length f.d1,.slice f.B2 f.b.rules.length f.d2] 32)).alloc (.cells #[.int .i64 a1,.int .i64 a2,St a3] 68)=w2:=⟨_,rfl⟩
 have hy:Below w.heap.size w w2:=by rw [← hw2];exact ((Below.refl _ w).alloc (Nat.le_refl _) _).alloc (by simp) _
 have b0:Box w2 w.heap.size #[.int .i64 f.t.len,.slice f.A1 f.t.rest.length f.c1,.slice f.A2 f.t.clo.length f.c2,.int .i64 f.c.n,.int .i64 f.c.f,.int .i64 f.c.k,.int .i64 f.b.props,.slice f.B1 f.b.items.length f.d1,.slice f.B2 f.b.rules.length f.d2]:=by rw [← hw2];exact (Box.new w _ _).alloc _
 have b1:Box w2 (w.heap.size+1) #[.int .i64 a1,.int .i64 a2,St a3]:=by rw [← hw2];exact (Box.new (w.alloc _) _ _).at' (by simp)
 have HL:=Lib.hid (large_any f.t f.c f.b (fun _=>True) f.A1 f.A2 f.B1 f.B2 f.c1 f.c2 f.d1 f.d2 f.hp f.hq f.hr w2 (hf.below hy).bk)
 have HO:=Lib.hid (fun (w':World) (hb:Below w2.heap.size w2 w')=>olong_any l A c w' hll ((hR.below hy).below hb))
 have x0:=b0.cell 0;have x1:=b0.cell 1;have x2:=b0.cell 2;have x3:=b0.cell 3;have x4:=b0.cell 4;have x5:=b0.cell 5;have x6:=b0.cell 6;have x7:=b0.cell 7;have x8:=b0.cell 8;simp only [gqA,gqB,gqC] at x0 x1 x2 x3 x4 x5 x6 x7 x8
 rcases h with h | ⟨h,h'⟩ | ⟨h,h',hz⟩
 ·rw [h] at HL
  go_enter Tryz.func7,Tryz.ntmps7
  go_wp2_with (first | (go_at_call 34;(with_reducible refine HL.out.mono ?_);rintro e w3 ⟨rfl,hb3⟩;have b3:=b0.below hb3;have hy3:=hy.trans (hb3.mono hy.size);have y0:=b3.cell 0;have y1:=b3.cell 1;have y2:=b3.cell 2;have y3:=b3.cell 3;have y4:=b3.cell 4;have y5:=b3.cell 5;have y6:=b3.cell 6;have y7:=b3.cell 7;have y8:=b3.cell 8;simp only [gqA,gqB,gqC] at y0 y1 y2 y3 y4 y5 y6 y7 y8) | (go_at_call 31;(with_reducible refine (oknown_any (hE.below hy3)).mono ?_);rintro e wk ⟨rfl,hbk⟩))
  go_ret
  exact ⟨rfl,hy3.trans (hbk.mono hy3.size)⟩
 ·rw [h] at HL
  rw [h'] at HO
  go_enter Tryz.func7,Tryz.ntmps7
  go_wp2_with (first | (go_at_call 34;(with_reducible refine HL.out.mono ?_);rintro e w3 ⟨rfl,hb3⟩;have b3:=b0.below hb3;have hy3:=hy.trans (hb3.mono hy.size);have y0:=b3.cell 0;have y1:=b3.cell 1;have y2:=b3.cell 2;have y3:=b3.cell 3;have y4:=b3.cell 4;have y5:=b3.cell 5;have y6:=b3.cell 6;have y7:=b3.cell 7;have y8:=b3.cell 8;simp only [gqA,gqB,gqC] at y0 y1 y2 y3 y4 y5 y6 y7 y8) | (go_at_call 35;(with_reducible refine (HO.out _ hb3).mono ?_);rintro e w4 ⟨rfl,hb4⟩;have b4:=b3.below hb4;have hy4:=hy3.trans (hb4.mono hy3.size);have z0:=b4.cell 0;have z1:=b4.cell 1;have z2:=b4.cell 2;have z3:=b4.cell 3;have z4:=b4.cell 4;have z5:=b4.cell 5;have z6:=b4.cell 6;have z7:=b4.cell 7;have z8:=b4.cell 8;simp only [gqA,gqB,gqC] at z0 z1 z2 z3 z4 z5 z6 z7 z8) | (go_at_call 31;(with_reducible refine (oknown_any (hE.below hy4)).mono ?_);rintro e wk ⟨rfl,hbk⟩))
  go_ret
  exact ⟨rfl,hy4.trans (hbk.mono hy4.size)⟩
 ·rw [h] at HL
  rw [h'] at HO
  have hlen:=lrg_len h
  have HB:=Lib.hid (fun (w':World) (hb:Below w.heap.size w w')=>begin_bad (hf.below hb) hlen (hE.below hb) hz)
  have HF:=Lib.hid (fun (w':World) (hb:Below w.heap.size w w')=>failed_any (hf.below hb) hlen (hE.below hb) hz)
  unfold Fi.cells at HB HF
  clear hz h h'
  go_enter Tryz.func7,Tryz.ntmps7
  go_wp2_with (first
   | (go_at_call 34;(with_reducible refine HL.out.mono ?_);rintro e w3 ⟨rfl,hb3⟩;have b3:=b0.below hb3;have hy3:=hy.trans (hb3.mono hy.size);have y0:=b3.cell 0;have y1:=b3.cell 1;have y2:=b3.cell 2;have y3:=b3.cell 3;have y4:=b3.cell 4;have y5:=b3.cell 5;have y6:=b3.cell 6;have y7:=b3.cell 7;have y8:=b3.cell 8;simp only [gqA,gqB,gqC] at y0 y1 y2 y3 y4 y5 y6 y7 y8)
   | (go_at_call 35;(with_reducible refine (HO.out _ hb3).mono ?_);rintro e w4 ⟨rfl,hb4⟩;have b4:=b3.below hb4;have hy4:=hy3.trans (hb4.mono hy3.size);have z0:=b4.cell 0;have z1:=b4.cell 1;have z2:=b4.cell 2;have z3:=b4.cell 3;have z4:=b4.cell 4;have z5:=b4.cell 5;have z6:=b4.cell 6;have z7:=b4.cell 7;have z8:=b4.cell 8;simp only [gqA,gqB,gqC] at z0 z1 z2 z3 z4 z5 z6 z7 z8)
   | (go_at_call 36;(with_reducible refine (HB.out _ hy4).mono ?_);rintro e w5 ⟨rfl,hb5⟩;have b5:=b4.below hb5;have hy5:=hy4.trans (hb5.mono hy4.size);have v0:=b5.cell 0;have v1:=b5.cell 1;have v2:=b5.cell 2;have v3:=b5.cell 3;have v4:=b5.cell 4;have v5:=b5.cell 5;have v6:=b5.cell 6;have v7:=b5.cell 7;have v8:=b5.cell 8;simp only [gqA,gqB,gqC] at v0 v1 v2 v3 v4 v5 v6 v7 v8)
   | (go_at_call 37;(with_reducible refine (HF.out _ hy5).mono ?_);rintro e w6 ⟨rfl,hb6⟩))
  go_ret
  exact ⟨rfl,hy5.trans (hb6.mono hy5.size)⟩
set_option maxHeartbeats 3200000 in
theorem main_OfficeTells {f:Fi}{w:World}(hf:f.In w)(hE:EnvA w)(l:List Wd)(A:Option Addr)(c:Nat)(hR:RS w A l)(hll:l.length≤9223372036854775807)(a1 a2:Int)(a3:Wd)(h:lrg f.t f.b=false)(h':lng l=false)(hz:f.e=0) :
  Calls Tryz.prog 7 #[.agg f.cells,.slice A l.length c,.agg #[.int .i64 a1,.int .i64 a2,St a3]] w fun e w'=>e=.returned (.bool true)∧Below w.heap.size w w':=by
 unfold Fi.cells
 obtain ⟨w2,hw2⟩:∃w2,(w.alloc (.cells #[.int .i64 f.t.len,.slice f.A1 f.t.rest.length f.c1,.slice f.A2 f.t.clo.length f.c2,.int .i64 f.c.n,.int .i64 f.c.f,.int .i64 f.c.k,.int .i64 f.b.props,.slice f.B1 f.b.items.length f.d1,.slice f.B2 f.b.rules.length f.d2] 32)).alloc (.cells #[.int .i64 a1,.int .i64 a2,St a3] 68)=w2:=⟨_,rfl⟩
 have hy:Below w.heap.size w w2:=by rw [← hw2];exact ((Below.refl _ w).alloc (Nat.le_refl _) _).alloc (by simp) _
 have b0:Box w2 w.heap.size #[.int .i64 f.t.len,.slice f.A1 f.t.rest.length f.c1,.slice f.A2 f.t.clo.length f.c2,.int .i64 f.c.n,.int .i64 f.c.f,.int .i64 f.c.k,.int .i64 f.b.props,.slice f.B1 f.b.items.length f.d1,.slice f.B2 f.b.rules.length f.d2]:=by rw [← hw2];exact (Box.new w _ _).alloc _
 have b1:Box w2 (w.heap.size+1) #[.int .i64 a1,.int .i64 a2,St a3]:=by rw [← hw2];exact (Box.new (w.alloc _) _ _).at' (by simp)
 have HL:=Lib.hid (large_any f.t f.c f.b (fun _=>True) f.A1 f.A2 f.B1 f.B2 f.c1 f.c2 f.d1 f.d2 f.hp f.hq f.hr w2 (hf.below hy).bk)
 have HO:=Lib.hid (fun (w':World) (hb:Below w2.heap.size w2 w')=>olong_any l A c w' hll ((hR.below hy).below hb))
 have x0:=b0.cell 0;have x1:=b0.cell 1;have x2:=b0.cell 2;have x3:=b0.cell 3;have x4:=b0.cell 4;have x5:=b0.cell 5;have x6:=b0.cell 6;have x7:=b0.cell 7;have x8:=b0.cell 8;simp only [gqA,gqB,gqC] at x0 x1 x2 x3 x4 x5 x6 x7 x8
 rw [h] at HL
 rw [h'] at HO
 have hlen:=lrg_len h
 have htlen:=lrg_tlen h hz
 obtain ⟨hl3,hlw⟩:=lng_no h'
 have HLW:=Lib.hid hlw
 have HB:=Lib.hid (fun (w':World) (hb:Below w.heap.size w w')=>begin_ok (hf.below hb) hlen (hE.below hb) hz)
 unfold Fi.cells at HB
 obtain ⟨m,hm⟩:∃m,m=min l.length 30:=⟨_,rfl⟩
 have hm1:m≤l.length∧m≤30:=by omega
 have hm2:m=l.length∨(m=30∧30<l.length):=by omega
 have HM:=Lib.hid hm2
 have hso:=OfOk.new hz
 have hzz:=hz
 have hng:=h'
 clear hz h h' hlw hm hm2
 have HX:=Lib.hid (fun (w':World) (hb:Below w.heap.size w w')=>both_ok9 (hf.below hb) hlen (hE.below hb) hzz l A c (hR.below hb) hng)
 unfold Fi.cells at HX
 obtain ⟨S,hS⟩:∃S,S=runTo f.s0 l (min l.length 30):=⟨_,rfl⟩
 rw [← hS] at HX
 clear hS hzz hng
 go_enter Tryz.func7,Tryz.ntmps7
 go_wp2_with (first
  | (go_at_call 34;(with_reducible refine HL.out.mono ?_);rintro e w3 ⟨rfl,hb3⟩;have b3:=b0.below hb3;have hy3:=hy.trans (hb3.mono hy.size);have y0:=b3.cell 0;have y1:=b3.cell 1;have y2:=b3.cell 2;have y3:=b3.cell 3;have y4:=b3.cell 4;have y5:=b3.cell 5;have y6:=b3.cell 6;have y7:=b3.cell 7;have y8:=b3.cell 8;simp only [gqA,gqB,gqC] at y0 y1 y2 y3 y4 y5 y6 y7 y8)
  | (go_at_call 35;(with_reducible refine (HO.out _ hb3).mono ?_);rintro e w4 ⟨rfl,hb4⟩;have b4:=b3.below hb4;have hy4:=hy3.trans (hb4.mono hy3.size);have z0:=b4.cell 0;have z1:=b4.cell 1;have z2:=b4.cell 2;have z3:=b4.cell 3;have z4:=b4.cell 4;have z5:=b4.cell 5;have z6:=b4.cell 6;have z7:=b4.cell 7;have z8:=b4.cell 8;simp only [gqA,gqB,gqC] at z0 z1 z2 z3 z4 z5 z6 z7 z8)
  | (go_at_call 36;(with_reducible refine (HB.out _ hy4).mono ?_);rintro e w5 ⟨g,x,rfl,hd⟩;have b5:=b4.below hd.bel;have hy5:=hy4.trans (hd.bel.mono hy4.size);have v0:=b5.cell 0;have v1:=b5.cell 1;have v2:=b5.cell 2;have v3:=b5.cell 3;have v4:=b5.cell 4;have v5:=b5.cell 5;have v6:=b5.cell 6;have v7:=b5.cell 7;have v8:=b5.cell 8;simp only [gqA,gqB,gqC] at v0 v1 v2 v3 v4 v5 v6 v7 v8)
  | (go_at_call 38;(with_reducible refine (HX.out _ hy5).mono ?_);rintro e w6 ⟨gg,xx,rfl,hd6⟩;have hy6:=hy5.trans (hd6.bel.mono hy5.size);have c6:=(((b1.below hb3).below hb4).below hd.bel).below hd6.bel;have p0:=c6.cell 0;have p1:=c6.cell 1;have p2:=c6.cell 2;simp only [gqA,gqB,gqC] at p0 p1 p2;have HS1:=Lib.hid (hd6.sameDay a1))
  | (go_at_call 39;(with_reducible refine HS1.out.mono ?_);rintro e w7 ⟨rfl,hb7⟩;have hd7:=hd6.below hb7;have c7:=c6.below hb7;have p0:=c7.cell 0;have p1:=c7.cell 1;have p2:=c7.cell 2;simp only [gqA,gqB,gqC] at p0 p1 p2;have HS2:=Lib.hid (hd7.due a2))
  | (go_at_call 29;(with_reducible refine HS2.out.mono ?_);rintro e w8 ⟨rfl,hb8⟩;have hd8:=hd7.below hb8;have c8:=c7.below hb8;have p0:=c8.cell 0;have p1:=c8.cell 1;have p2:=c8.cell 2;simp only [gqA,gqB,gqC] at p0 p1 p2;have HS3:=Lib.hid (hd8.rdue a2))
  | (go_at_call 40;(with_reducible refine HS3.out.mono ?_);rintro e w9 ⟨rfl,hb9⟩;have hd9:=hd8.below hb9;have c9:=c8.below hb9;have p0:=c9.cell 0;have p1:=c9.cell 1;have p2:=c9.cell 2;simp only [gqA,gqB,gqC] at p0 p1 p2;have HS4:=Lib.hid (hd9.label a3))
  | (go_at_call 41;(with_reducible refine HS4.out.mono ?_);rintro e w10 ⟨LA,Lc,rfl,rdL,hb10⟩;have hd10:=hd9.below hb10;have c10:=c9.below hb10;have p0:=c10.cell 0;have p1:=c10.cell 1;have p2:=c10.cell 2;simp only [gqA,gqB,gqC] at p0 p1 p2;have HS5:=Lib.hid (hd10.rlabel a3))
  | (go_at_call 42;(with_reducible refine HS5.out.mono ?_);rintro e w11 ⟨MA,Mc,rfl,rdM,hb11⟩;have hd11:=hd10.below hb11;have HS6:=Lib.hid ((osameInts_any _ _ LA MA Lc Mc w11 ((RNF.rn rdL).below hb11) (RNF.rn rdM) (by have:=lbn_len S a3;omega) (by have:=lbn_len S a3;omega)).mono (R':=fun e w'=>e=.returned (.bool true)∧Below w11.heap.size w11 w') fun e w' hh=>⟨by rw [hh.1];simp,hh.2⟩))
  | (go_at_call 43;(with_reducible refine HS6.out.mono ?_);rintro e w12 ⟨rfl,hb12⟩;have hd12:=hd11.below hb12;have hy12:=hy5.trans (hd12.bel.mono hy5.size))
  | (go_at_call 31;(with_reducible refine (oknown_any (hE.below hy12)).mono ?_);rintro e wk ⟨rfl,hbk⟩))
 go_ret
 exact ⟨rfl,hy12.trans (hbk.mono hy12.size)⟩
theorem officeTells_any {f:Fi}{w:World}(hf:f.In w)(hE:EnvA w)(l:List Wd)(A:Option Addr)(c:Nat)(hR:RS w A l)(hll:l.length≤9223372036854775807)(a1 a2:Int)(a3:Wd) :
  Calls Tryz.prog 7 #[.agg f.cells,.slice A l.length c,.agg #[.int .i64 a1,.int .i64 a2,St a3]] w fun e w'=>e=.returned (.bool true)∧Below w.heap.size w w':=by
 cases h:lrg f.t f.b with
 | true=>exact pre_OfficeTells hf hE l A c hR hll a1 a2 a3 (.inl h)
 | false =>
  cases h':lng l with
  | true=>exact pre_OfficeTells hf hE l A c hR hll a1 a2 a3 (.inr (.inl ⟨h,h'⟩))
  | false =>
   by_cases hz:f.e=0
   ·exact main_OfficeTells hf hE l A c hR hll a1 a2 a3 h h' hz
   ·exact pre_OfficeTells hf hE l A c hR hll a1 a2 a3 (.inr (.inr ⟨h,h',hz⟩))
end Go.Proofs.YtiapkffihpgdcaaGreatDoor
namespace Go.Proofs.YtiapkffihpgdcaaGreatDoor
open Go.ChangeShapes Go.WideShapes Go.ChangeAt Go.RowKit Go.Deep Go.Joins
theorem handed_shaped {H:Type}{enc:TypeId × Value→H}{a:Assume}{C:Checked}{os:Os}{f:FuncId}{fn:Func}{s:ChangeSpec}{conds:List PathCond}{apart fresh handsOn again:Bool}{X:World→Array Value→Prop}
  (hX:∀(w w':World) (args:Array Value),w.heap=w'.heap→X w args→X w' args)
  (own:ownKnob C.prog.godebug=none) (started:os.Started) (noInit:C.prog.inits.idxOf? f=none) (hfn:C.prog.funcs[f]? = some fn)
  (start:∃(w:World) (tape:Tape) (i:Input),w.os=os∧(w.forCall tape i).Shaped C.prog∧i.vars=[]∧Input.okWide C.prog (w.forCall tape i) .any w.heap.size f i ∧
   ((s.pre enc C.prog fn conds apart (w.forCall tape i).memory i.args∧X (w.forCall tape i).memory i.args)∧sizedMet enc C.prog fn (OpenSpec.ofChange s) apart (w.forCall tape i).memory i.args)∧a.holds C.prog (lone (Frame.enter C.prog f i.args .normal) [] (w.forCall tape i)))
  (walk:∀(W:World) (base:Nat) (args:Array Value) (ds gs:List (DataW H)) (before:List MemPlace),
   (∀(j:Nat) t v,fn.params[j]? = some t→args[j]? = some v→Value.okWide C.prog W .any base t v)→DataW.Whole enc C.prog fn.params.toList s.vars apart W args.toList ds gs before→W.ShapedOpen C.prog→X W args →
   Calls C.prog f args W fun e W'=>∃v,e=.returned v∧s.post enc C.prog fn apart fresh handsOn again W args v W') :
  ReturnsInHanded a C os f .any (fun w args=>(s.pre enc C.prog fn conds apart w args∧X w args)∧sizedMet enc C.prog fn (OpenSpec.ofChange s) apart w args) (s.post enc C.prog fn apart fresh handsOn again):=by
 refine returnsInHanded_of_calls own started noInit start ?_
 rintro w tape i-hsh - ⟨_,_,_,g,hg,_,_,_,_,hval⟩ ⟨⟨⟨ds,gs,before,hw,-⟩,hx⟩,-⟩ -
 obtain rfl:g=fn:=Option.some.inj (hg.symm.trans hfn)
 refine (walk (w.forCall tape i) w.heap.size i.args ds gs before hval (DataW.Whole.of_heap (by rfl) hw) hsh (hX _ _ _ (by rfl) hx)).mono fun e W' hh=>?_
 obtain ⟨v,he,hp⟩:=hh
 subst he
 exact ChangeSpec.post_blind hp
/-- The listed variables that hold plain data. -/
noncomputable def plainL:List (String × DataW Unit):=[("math/bits.deBruijn32tab",Rows.laid_math_bits_deBruijn32tab),("math/bits.deBruijn64tab",Rows.laid_math_bits_deBruijn64tab),("unicode/utf8.acceptRanges",Rows.laid_unicode_utf8_acceptRanges),("unicode/utf8.first",Rows.laid_unicode_utf8_first)]
theorem officeTells_env {W:World}(hL:laidMetH Tryz.prog Rows.officeTellsRow.laid W)(hs:W.ShapedOpen Tryz.prog):EnvA W:=by
 obtain ⟨h1,h2⟩:=plain_met (Lp:=plainL) (by kernel_rfl) (by kernel_rfl) hL
 exact env_of h1 (by simp [plainL]) (by simp [plainL]) h2 hs
theorem officeTells_lifted (os:Os)(started:os.Started)(H:Type)(enc:TypeId × Value→H) :
  ReturnsInHanded {} Tryz.checked os 7 .any (fun w args=>(Rows.officeTellsSpec.pre enc Tryz.prog Tryz.f7 [] false w args∧laidMetH Tryz.prog Rows.officeTellsRow.laid w)∧sizedMet enc Tryz.prog Tryz.f7 (OpenSpec.ofChange Rows.officeTellsSpec) false w args)
   (Rows.officeTellsSpec.post enc Tryz.prog Tryz.f7 false true false false):=by
 refine handed_shaped (C:=Tryz.checked) (X:=fun w _=>laidMetH Tryz.prog Rows.officeTellsRow.laid w) (fun _ _ _ hh h=>h.of_heap hh) own_ started (by kernel_rfl) Tryz.func7
  (ChangeSpec.witness_shaped (enc:=enc) (C:=Tryz.checked) (os:=os) (X:=fun w _=>laidMetH Tryz.prog Rows.officeTellsRow.laid w) false (witW os plainL) #[.agg #[.int .i64 0,.slice none 0 0,.slice none 0 0,.int .i64 0,.int .i64 0,.int .i64 0,.int .i64 0,.slice none 0 0,.slice none 0 0],.slice none 0 0,.agg #[.int .i64 0,.int .i64 0,.string ⟨#[]⟩]] 8 (by unfold witW;rw [World.layVars_os];rfl)
   (World.shaped_of_ZipB (by kernel_rfl) (by kernel_rfl)) (by kernel_rfl) (by kernel_rfl) (by kernel_rfl)
   (laidMetH_of_parts (by rw [show (Rows.officeTellsRow.laid.filter fun x=>x.2.handleName?.isNone)=plainL by kernel_rfl];exact witW_met _ (by kernel_rfl) (by kernel_rfl)) (by kernel_rfl))) ?_
 intro W base args ds gs before hval0 hW hS hL
 have hval:∀(j:Nat) t v,Tryz.f7.params[j]? = some t→args[j]? = some v→Value.okWide Tryz.prog W .any base t v:=hval0
 have hW':=hW
 obtain ⟨p,q,hA0,hV,rfl,hfz,hnd⟩:=hW
 have hA:DataW.TrodAll enc Tryz.prog W 0 (fun _=>true) true Tryz.f7.params.toList args.toList ds p:=hA0
 rw [Tryz.params7] at hA hval
 obtain ⟨v0,v1,v2,d0,d1,d2,p0,p1,p2,rfl,rfl,rfl,h0,h1,h2⟩:=trodAll_three hA
 obtain ⟨f,rfl,hf⟩:=open_firm (hval 0 _ v0 rfl rfl) h0
 obtain ⟨l,A,c,rfl,hrs,hll,hlk⟩:=open_orders (hval 1 _ v1 rfl rfl) h1
 obtain ⟨a1,a2,a3,rfl⟩:=open_ask (hval 2 _ v2 rfl rfl) h2
 refine (officeTells_any hf (officeTells_env hL hS) l A c hrs hll a1 a2 a3).mono fun e W' ⟨he,hb⟩=>?_
 subst he
 exact ⟨_,rfl,law_post hW' rfl (by kernel_rfl) rfl (by rw [Tryz.params7];intro t ht;simp at ht;rcases ht with rfl | rfl | rfl <;> exact ⟨by kernel_rfl,of_decide_eq_true (by kernel_rfl)⟩) hb⟩
set_option maxHeartbeats 4000000 in
theorem officeTells_closed:joinedFacts Tryz.prog 7 Tryz.f7 Rows.officeTellsSpec Rows.officeTellsRow=true:=by
 unfold joinedFacts
 simp only [Bool.and_eq_true]
 repeat' apply And.intro
 all_goals (as_aux_lemma=>kernel_rfl)
set_option maxHeartbeats 4000000 in
theorem officeTells_wrap:Tryz.f7.isWrapper Tryz.prog Rows.officeTellsRow.wrapper Rows.officeTellsRow.mainSum:=by
 unfold Func.isWrapper;first | (rw [if_pos (by decide +kernel)];kernel_rfl) | (rw [if_neg (by decide +kernel)];exact ⟨rfl,rfl⟩)
theorem officeTells_named:Tryz.prog.funcNamed Rows.officeTellsRow.func=some 7:=by kernel_rfl
theorem officeTells_inst:Tryz.f7.isInstance Tryz.prog Rows.officeTellsRow.origin Rows.officeTellsRow.targs:=of_decide_eq_true (by kernel_rfl)
set_option maxHeartbeats 4000000 in
theorem officeTells_row:Rows.OfficeTellsSaid :=
 OpenClaim.holds_of_wide 7 Tryz.f7 rfl rfl rfl rfl rfl rfl rfl ⟨rfl,rfl,rfl,rfl,rfl⟩ rfl rfl rfl rfl rfl officeTells_named Tryz.func7 officeTells_closed
  officeTells_inst officeTells_wrap
  (fun os started H enc _=>officeTells_lifted os started H enc)
theorem officeTells_wfT:Rows.officeTellsRow.wfByText (OpenSpec.ofChange Rows.officeTellsSpec)=true:=by kernel_rfl
theorem office_main:Tryz.pinned.checked.prog.mainIs=some (true,"5a9a52965f4185065c0d39a39ec58f829537e604a07fc4f1dbce9d7d2d17f592".toList):=by kernel_rfl
theorem office_looks:true=Tryz.pinned.checked.prog.looks []:=by kernel_rfl
theorem officeTells_goes:false=Rows.officeTellsRow.goesBy Tryz.pinned.checked.prog:=by kernel_rfl
theorem officeTells_stand:([32,33,68].all fun u=>!Tryz.prog.wantsStandIn u)=true:=by kernel_rfl
set_option maxHeartbeats 4000000 in
theorem officeTells_holds:Rows.OfficeTellsCardSaid :=
 Claim7.holds_tied_plain_at .later [] [.data,.data,.data,.handle,.pinned] true (true,"5a9a52965f4185065c0d39a39ec58f829537e604a07fc4f1dbce9d7d2d17f592") true
  officeTells_row (fun _ h=>by cases h) officeTells_wfT (fun _ h=>by cases h) officeTells_row_tie rfl ⟨rfl,rfl⟩ office_main rfl
  (fun f fn hf hfn=>by
   obtain rfl:f=7:=Option.some.inj (officeTells_named.symm.trans hf) |>.symm
   obtain rfl:fn=Tryz.f7:=(Option.some.inj (Tryz.func7.symm.trans hfn)).symm
   exact ⟨office_looks,fun j t ht=>by
    rw [Tryz.params7] at ht
    have hm:t ∈ [32,33,68]:=by simpa using Array.mem_of_getElem? ht
    exact (show Tryz.prog.wantsStandIn t=false by simpa using List.all_eq_true.1 officeTells_stand t hm)⟩)
  officeTells_goes
end Go.Proofs.YtiapkffihpgdcaaGreatDoor
