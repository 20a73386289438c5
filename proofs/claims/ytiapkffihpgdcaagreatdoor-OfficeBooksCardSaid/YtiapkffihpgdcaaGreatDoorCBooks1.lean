/-
  OfficeBooks: for every firm and every text the law returns true, panics nowhere and leaves its arguments as they were: an office that has done the orders of a text keeps the book of them, and one that has not answers as the reference does. On the tied card. No condition beyond the card.
-/
import Derived.Test.YtiapkffihpgdcaaGreatDoorQB1
import Derived.Test.YtiapkffihpgdcaaGreatDoorQB2
import Derived.Test.YtiapkffihpgdcaaGreatDoorQB3
import Derived.Test.YtiapkffihpgdcaaGreatDoorQB4
import Derived.Test.YtiapkffihpgdcaaGreatDoorQB5
import Derived.Test.YtiapkffihpgdcaaGreatDoorQB6
import Derived.Test.YtiapkffihpgdcaaGreatDoorQB7
import Derived.Test.YtiapkffihpgdcaaGreatDoorQB8
import Derived.Test.YtiapkffihpgdcaaGreatDoorQB9
import Derived.Test.YtiapkffihpgdcaaGreatDoorQB10
import Derived.Test.YtiapkffihpgdcaaGreatDoorQB11
import Derived.Test.YtiapkffihpgdcaaGreatDoorQB12
import Derived.Test.YtiapkffihpgdcaaGreatDoorQB13
import Derived.Test.YtiapkffihpgdcaaGreatDoorQB14
import Derived.Test.YtiapkffihpgdcaaGreatDoorQB15
import Derived.Test.YtiapkffihpgdcaaGreatDoorQB16
import Derived.Test.YtiapkffihpgdcaaGreatDoorQB17
import Derived.Test.YtiapkffihpgdcaaGreatDoorQB18
import Derived.Test.YtiapkffihpgdcaaGreatDoorQB19
import Derived.Test.YtiapkffihpgdcaaGreatDoorQB20
import Derived.Test.YtiapkffihpgdcaaGreatDoorQB21
import Derived.Test.YtiapkffihpgdcaaGreatDoorQB22
import Derived.Test.YtiapkffihpgdcaaGreatDoorQB23
import Derived.Test.YtiapkffihpgdcaaGreatDoorQB24
import Derived.Test.YtiapkffihpgdcaaGreatDoorQB25
import Derived.Test.YtiapkffihpgdcaaGreatDoorQB26
import Derived.Test.YtiapkffihpgdcaaGreatDoorQB27
import Derived.Test.YtiapkffihpgdcaaGreatDoorQB28
import Derived.Test.YtiapkffihpgdcaaGreatDoorQB29
import Derived.Test.YtiapkffihpgdcaaGreatDoorQB30
import Derived.Test.YtiapkffihpgdcaaGreatDoorQB31
import Derived.Test.YtiapkffihpgdcaaGreatDoorQB32
import Derived.Test.YtiapkffihpgdcaaGreatDoorQB33
import Derived.Test.YtiapkffihpgdcaaGreatDoorQB34
import Derived.Test.YtiapkffihpgdcaaGreatDoorQB35
import Derived.IntWalk
import Derived.ScopeJumps
import Derived.WalkMore
import Derived.StillTailTactics
import Derived.Test.YtiapkffihpgdcaaGreatDoorTie
import Derived.Test.YtiapkffihpgdcaaGreatDoorCards
import Derived.SevenTiedAt
import Derived.ChangeMaps5
set_option linter.unusedVariables false
set_option linter.unusedSimpArgs false
set_option maxRecDepth 100000
namespace Go.Proofs.YtiapkffihpgdcaaGreatDoor
open Go.RowKit
def apart (v v':Value):Prop:=∀k,v.ownBlock=some k→v'.ownBlock=some k→False
section
variable {P:Program}{W:World}{ops:Array Oper}{o:Oper}{a:Act}{K:Act→World→Prop}{Q:Exit→Act→World→Prop}{E:Prop}{rest:List Oper}
 {t e:TypeId} {z:Value} {size bytes base n c:Nat} {A:Option Addr} {xs news:List Value}
end
theorem kn_equal {w0 w1 w:World}{N:Nat}{Z Z':Nat→Prop}{g x:Nat}{s:Of}(hk:KN w0 N Z g s w)(hx:KR w1 Z' x s w) :
  Calls Tryz.prog 54 #[.pointer (some ⟨g,0,none⟩),.pointer (some ⟨x,0,none⟩)] w fun e w'=>e=.returned (.bool true)∧Below w.heap.size w w':=by
 obtain ⟨F,h,hP,_⟩:=hk
 obtain ⟨F',h',hO,_⟩:=hx
 exact equal_any hP hO
theorem ok_or_stop (o:Of)(ls:List Wd)(n:Nat):okTo o ls n=true∨∃i,i<n∧okTo o ls i=true∧doE (runTo o ls i) (ls.getD i [])≠0:=by
 induction n with
 | zero=>exact .inl rfl
 | succ n ih =>
  rcases ih with h | ⟨i,h1,h2,h3⟩
  ·by_cases hd:doE (runTo o ls n) (ls.getD n [])=0
   ·exact .inl (by simp only [okTo,Bool.and_eq_true];exact ⟨h,by simpa using hd⟩)
   ·exact .inr ⟨n,by omega,h,hd⟩
  ·exact .inr ⟨i,by omega,h2,h3⟩
set_option maxHeartbeats 3200000 in
theorem books_pre {f:Fi}{w:World}(hf:f.In w)(hE:EnvA w)(t:Wd)(ht:t.length≤9223372036854775807)(h:lrg f.t f.b=true∨(lrg f.t f.b=false∧4000<t.length)) :
  Calls Tryz.prog 14 #[.agg f.cells,St t] w fun e w'=>e=.returned (.bool true)∧Below w.heap.size w w':=by
 unfold Fi.cells
 obtain ⟨w2,hw2⟩:∃w2,w.alloc (.cells #[.int .i64 f.t.len,.slice f.A1 f.t.rest.length f.c1,.slice f.A2 f.t.clo.length f.c2,.int .i64 f.c.n,.int .i64 f.c.f,.int .i64 f.c.k,.int .i64 f.b.props,.slice f.B1 f.b.items.length f.d1,.slice f.B2 f.b.rules.length f.d2] 32)=w2:=⟨_,rfl⟩
 have hy:Below w.heap.size w w2:=by rw [← hw2];exact (Below.refl _ w).alloc (Nat.le_refl _) _
 have b0:Box w2 w.heap.size #[.int .i64 f.t.len,.slice f.A1 f.t.rest.length f.c1,.slice f.A2 f.t.clo.length f.c2,.int .i64 f.c.n,.int .i64 f.c.f,.int .i64 f.c.k,.int .i64 f.b.props,.slice f.B1 f.b.items.length f.d1,.slice f.B2 f.b.rules.length f.d2]:=by rw [← hw2];exact Box.new w _ _
 have HL:=Lib.hid (large_any f.t f.c f.b (fun _=>True) f.A1 f.A2 f.B1 f.B2 f.c1 f.c2 f.d1 f.d2 f.hp f.hq f.hr w2 (hf.below hy).bk)
 have x0:=b0.cell 0;have x1:=b0.cell 1;have x2:=b0.cell 2;have x3:=b0.cell 3;have x4:=b0.cell 4;have x5:=b0.cell 5;have x6:=b0.cell 6;have x7:=b0.cell 7;have x8:=b0.cell 8;simp only [gqA,gqB,gqC] at x0 x1 x2 x3 x4 x5 x6 x7 x8
 rcases h with h | ⟨h,h'⟩
 ·rw [h] at HL
  go_enter Tryz.func14,Tryz.ntmps14
  go_wp2_with (first
   | (go_at_call 34;(with_reducible refine HL.out.mono ?_);rintro e w3 ⟨rfl,hb3⟩;have b3:=b0.below hb3;have hy3:=hy.trans (hb3.mono hy.size);have y0:=b3.cell 0;have y1:=b3.cell 1;have y2:=b3.cell 2;have y3:=b3.cell 3;have y4:=b3.cell 4;have y5:=b3.cell 5;have y6:=b3.cell 6;have y7:=b3.cell 7;have y8:=b3.cell 8;simp only [gqA,gqB,gqC] at y0 y1 y2 y3 y4 y5 y6 y7 y8)
   | (go_at_call 31;(with_reducible refine (oknown_any (hE.below hy3)).mono ?_);rintro e wk ⟨rfl,hbk⟩))
  go_ret
  exact ⟨rfl,hy3.trans (hbk.mono hy3.size)⟩
 ·rw [h] at HL
  have hT:decide ((4000:Int)<(t.length:Int))=true:=by rw [decide_eq_true_eq];omega
  go_enter Tryz.func14,Tryz.ntmps14
  go_wp2_with (first
   | (go_at_call 34;(with_reducible refine HL.out.mono ?_);rintro e w3 ⟨rfl,hb3⟩;have b3:=b0.below hb3;have hy3:=hy.trans (hb3.mono hy.size);have y0:=b3.cell 0;have y1:=b3.cell 1;have y2:=b3.cell 2;have y3:=b3.cell 3;have y4:=b3.cell 4;have y5:=b3.cell 5;have y6:=b3.cell 6;have y7:=b3.cell 7;have y8:=b3.cell 8;simp only [gqA,gqB,gqC] at y0 y1 y2 y3 y4 y5 y6 y7 y8)
   | (go_at_call 31;(with_reducible refine (oknown_any (hE.below hy3)).mono ?_);rintro e wk ⟨rfl,hbk⟩))
  go_ret
  exact ⟨rfl,hy3.trans (hbk.mono hy3.size)⟩
set_option maxHeartbeats 3200000 in
theorem books_fail {f:Fi}{w:World}(hf:f.In w)(hE:EnvA w)(t:Wd)(h:lrg f.t f.b=false)(ht:t.length≤4000)(n:Nat)(E:Int)(hE0:E≠0)(hPR:∀w',Below w.heap.size w w'→Calls Tryz.prog 55 #[.agg #[.int .i64 f.t.len,.slice f.A1 f.t.rest.length f.c1,.slice f.A2 f.t.clo.length f.c2],.agg #[.int .i64 f.c.n,.int .i64 f.c.f,.int .i64 f.c.k],.agg #[.int .i64 f.b.props,.slice f.B1 f.b.items.length f.d1,.slice f.B2 f.b.rules.length f.d2],St t] w' fun e w''=>e=.returned (.tuple #[.pointer none,.int .i64 n,.int .i64 E])∧Below w'.heap.size w' w'')(hXR:∀w',Below w.heap.size w w'→Calls Tryz.prog 56 #[.agg #[.int .i64 f.t.len,.slice f.A1 f.t.rest.length f.c1,.slice f.A2 f.t.clo.length f.c2],.agg #[.int .i64 f.c.n,.int .i64 f.c.f,.int .i64 f.c.k],.agg #[.int .i64 f.b.props,.slice f.B1 f.b.items.length f.d1,.slice f.B2 f.b.rules.length f.d2],St t] w' fun e w''=>e=.returned (.tuple #[.pointer none,.int .i64 n,.int .i64 E])∧Below w'.heap.size w' w'') :
  Calls Tryz.prog 14 #[.agg f.cells,St t] w fun e w'=>e=.returned (.bool true)∧Below w.heap.size w w':=by
 unfold Fi.cells
 obtain ⟨w2,hw2⟩:∃w2,w.alloc (.cells #[.int .i64 f.t.len,.slice f.A1 f.t.rest.length f.c1,.slice f.A2 f.t.clo.length f.c2,.int .i64 f.c.n,.int .i64 f.c.f,.int .i64 f.c.k,.int .i64 f.b.props,.slice f.B1 f.b.items.length f.d1,.slice f.B2 f.b.rules.length f.d2] 32)=w2:=⟨_,rfl⟩
 have hy:Below w.heap.size w w2:=by rw [← hw2];exact (Below.refl _ w).alloc (Nat.le_refl _) _
 have b0:Box w2 w.heap.size #[.int .i64 f.t.len,.slice f.A1 f.t.rest.length f.c1,.slice f.A2 f.t.clo.length f.c2,.int .i64 f.c.n,.int .i64 f.c.f,.int .i64 f.c.k,.int .i64 f.b.props,.slice f.B1 f.b.items.length f.d1,.slice f.B2 f.b.rules.length f.d2]:=by rw [← hw2];exact Box.new w _ _
 have HL:=Lib.hid (large_any f.t f.c f.b (fun _=>True) f.A1 f.A2 f.B1 f.B2 f.c1 f.c2 f.d1 f.d2 f.hp f.hq f.hr w2 (hf.below hy).bk)
 have x0:=b0.cell 0;have x1:=b0.cell 1;have x2:=b0.cell 2;have x3:=b0.cell 3;have x4:=b0.cell 4;have x5:=b0.cell 5;have x6:=b0.cell 6;have x7:=b0.cell 7;have x8:=b0.cell 8;simp only [gqA,gqB,gqC] at x0 x1 x2 x3 x4 x5 x6 x7 x8
 rw [h] at HL
 have hT:decide ((4000:Int)<(t.length:Int))=false:=by rw [decide_eq_false_iff_not];omega
 have h1:(E != 0)=true:=by simpa using hE0
 have h2:(E != E)=false:=by simp
 have HPR:=Lib.hid hPR;have HXR:=Lib.hid hXR
 clear hPR hXR hE0 h
 go_enter Tryz.func14,Tryz.ntmps14
 go_wp2_with (first
  | (go_at_call 34;(with_reducible refine HL.out.mono ?_);rintro e w3 ⟨rfl,hb3⟩;have b3:=b0.below hb3;have hy3:=hy.trans (hb3.mono hy.size);have y0:=b3.cell 0;have y1:=b3.cell 1;have y2:=b3.cell 2;have y3:=b3.cell 3;have y4:=b3.cell 4;have y5:=b3.cell 5;have y6:=b3.cell 6;have y7:=b3.cell 7;have y8:=b3.cell 8;simp only [gqA,gqB,gqC] at y0 y1 y2 y3 y4 y5 y6 y7 y8)
  | (go_at_call 55;(with_reducible refine (HPR.out _ hy3).mono ?_);rintro e w4 ⟨rfl,hb4⟩;have b4:=b3.below hb4;have hy4:=hy3.trans (hb4.mono hy3.size);have z0:=b4.cell 0;have z1:=b4.cell 1;have z2:=b4.cell 2;have z3:=b4.cell 3;have z4:=b4.cell 4;have z5:=b4.cell 5;have z6:=b4.cell 6;have z7:=b4.cell 7;have z8:=b4.cell 8;simp only [gqA,gqB,gqC] at z0 z1 z2 z3 z4 z5 z6 z7 z8)
  | (go_at_call 56;(with_reducible refine (HXR.out _ hy4).mono ?_);rintro e w5 ⟨rfl,hb5⟩;have hy5:=hy4.trans (hb5.mono hy4.size))
  | (go_at_call 31;(with_reducible refine (oknown_any (hE.below hy5)).mono ?_);rintro e wk ⟨rfl,hbk⟩))
 go_ret
 exact ⟨rfl,hy5.trans (hbk.mono hy5.size)⟩
set_option maxHeartbeats 3200000 in
theorem books_ok {f:Fi}{w:World}(hf:f.In w)(hE:EnvA w)(t:Wd)(h:lrg f.t f.b=false)(ht:t.length≤4000)(hz:f.e=0)(hr:(rd t).2=[])(hok:okTo f.s0 (rd t).1 (rd t).1.length=true) :
  Calls Tryz.prog 14 #[.agg f.cells,St t] w fun e w'=>e=.returned (.bool true)∧Below w.heap.size w w':=by
 unfold Fi.cells
 obtain ⟨w2,hw2⟩:∃w2,w.alloc (.cells #[.int .i64 f.t.len,.slice f.A1 f.t.rest.length f.c1,.slice f.A2 f.t.clo.length f.c2,.int .i64 f.c.n,.int .i64 f.c.f,.int .i64 f.c.k,.int .i64 f.b.props,.slice f.B1 f.b.items.length f.d1,.slice f.B2 f.b.rules.length f.d2] 32)=w2:=⟨_,rfl⟩
 have hy:Below w.heap.size w w2:=by rw [← hw2];exact (Below.refl _ w).alloc (Nat.le_refl _) _
 have b0:Box w2 w.heap.size #[.int .i64 f.t.len,.slice f.A1 f.t.rest.length f.c1,.slice f.A2 f.t.clo.length f.c2,.int .i64 f.c.n,.int .i64 f.c.f,.int .i64 f.c.k,.int .i64 f.b.props,.slice f.B1 f.b.items.length f.d1,.slice f.B2 f.b.rules.length f.d2]:=by rw [← hw2];exact Box.new w _ _
 have HL:=Lib.hid (large_any f.t f.c f.b (fun _=>True) f.A1 f.A2 f.B1 f.B2 f.c1 f.c2 f.d1 f.d2 f.hp f.hq f.hr w2 (hf.below hy).bk)
 have x0:=b0.cell 0;have x1:=b0.cell 1;have x2:=b0.cell 2;have x3:=b0.cell 3;have x4:=b0.cell 4;have x5:=b0.cell 5;have x6:=b0.cell 6;have x7:=b0.cell 7;have x8:=b0.cell 8;simp only [gqA,gqB,gqC] at x0 x1 x2 x3 x4 x5 x6 x7 x8
 rw [h] at HL
 have hlen:=lrg_len h
 have hT:decide ((4000:Int)<(t.length:Int))=false:=by rw [decide_eq_false_iff_not];omega
 have HPR:=Lib.hid (fun (w':World) (hb:Below w.heap.size w w')=>preplay_ok (hf.below hb) hlen (hE.below hb) t (by omega) hz hr hok)
 have HXR:=Lib.hid (fun (w':World) (hb:Below w.heap.size w w')=>xreplay_ok (hf.below hb) hlen (hE.below hb) t (by omega) hz hr hok)
 obtain ⟨n,hn⟩:∃n,n=(rd t).1.length:=⟨_,rfl⟩
 obtain ⟨S,hS⟩:∃S,S=runS f.s0 (rd t).1:=⟨_,rfl⟩
 rw [← hn,← hS] at HPR
 rw [← hn,← hS] at HXR
 clear hz hr hok h hn hS
 go_enter Tryz.func14,Tryz.ntmps14
 go_wp2_with (first
  | (go_at_call 34;(with_reducible refine HL.out.mono ?_);rintro e w3 ⟨rfl,hb3⟩;have b3:=b0.below hb3;have hy3:=hy.trans (hb3.mono hy.size);have y0:=b3.cell 0;have y1:=b3.cell 1;have y2:=b3.cell 2;have y3:=b3.cell 3;have y4:=b3.cell 4;have y5:=b3.cell 5;have y6:=b3.cell 6;have y7:=b3.cell 7;have y8:=b3.cell 8;simp only [gqA,gqB,gqC] at y0 y1 y2 y3 y4 y5 y6 y7 y8)
  | (go_at_call 55;(with_reducible refine (HPR.out _ hy3).mono ?_);rintro e w4 ⟨g,rfl,hk4⟩;have b4:=b3.below hk4.at_;have hy4:=hy3.trans (hk4.at_.mono hy3.size);have z0:=b4.cell 0;have z1:=b4.cell 1;have z2:=b4.cell 2;have z3:=b4.cell 3;have z4:=b4.cell 4;have z5:=b4.cell 5;have z6:=b4.cell 6;have z7:=b4.cell 7;have z8:=b4.cell 8;simp only [gqA,gqB,gqC] at z0 z1 z2 z3 z4 z5 z6 z7 z8)
  | (go_at_call 56;(with_reducible refine (HXR.out _ hy4).mono ?_);rintro e w5 ⟨x,rfl,hk5⟩;have hy5:=hy4.trans (hk5.at_.mono hy4.size);have HQ:=Lib.hid (kn_equal (hk4.below hk5.at_) hk5))
  | (go_at_call 54;(with_reducible refine HQ.out.mono ?_);rintro e w6 ⟨rfl,hb6⟩;have hy6:=hy5.trans (hb6.mono hy5.size))
  | (go_at_call 31;(with_reducible refine (oknown_any (hE.below hy6)).mono ?_);rintro e wk ⟨rfl,hbk⟩))
 go_ret
 exact ⟨rfl,hy6.trans (hbk.mono hy6.size)⟩
theorem officeBooks_any {f:Fi}{w:World}(hf:f.In w)(hE:EnvA w)(t:Wd)(ht:t.length≤9223372036854775807) :
  Calls Tryz.prog 14 #[.agg f.cells,St t] w fun e w'=>e=.returned (.bool true)∧Below w.heap.size w w':=by
 cases h:lrg f.t f.b with
 | true=>exact books_pre hf hE t ht (.inl h)
 | false =>
  have hlen:=lrg_len h
  by_cases h4:t.length≤4000
  ·by_cases hz:f.e=0
   ·by_cases hr:(rd t).2=[]
    ·rcases ok_or_stop f.s0 (rd t).1 (rd t).1.length with hok | ⟨i,h1,h2,h3⟩
     ·exact books_ok hf hE t h h4 hz hr hok
     ·exact books_fail hf hE t h h4 i _ h3 (fun w' hb=>preplay_stop (hf.below hb) hlen (hE.below hb) t (by omega) hz hr i h1 h2 h3) (fun w' hb=>xreplay_stop (hf.below hb) hlen (hE.below hb) t (by omega) hz hr i h1 h2 h3)
    ·exact books_fail hf hE t h h4 0 3 (by decide) (fun w' hb=>preplay_rest (hf.below hb) hlen (hE.below hb) t (by omega) hz hr) (fun w' hb=>xreplay_rest (hf.below hb) hlen (hE.below hb) t (by omega) hz hr)
   ·exact books_fail hf hE t h h4 0 f.e hz (fun w' hb=>preplay_bad (hf.below hb) hlen (hE.below hb) t (by omega) hz) (fun w' hb=>xreplay_bad (hf.below hb) hlen (hE.below hb) t (by omega) hz)
  ·exact books_pre hf hE t ht (.inr ⟨h,by omega⟩)
end Go.Proofs.YtiapkffihpgdcaaGreatDoor
namespace Go.Proofs.YtiapkffihpgdcaaGreatDoor
open Go.ChangeShapes Go.WideShapes Go.ChangeAt Go.RowKit Go.Deep Go.Joins
theorem handed_shaped {H:Type}{enc:TypeId × Value→H}{a:Assume}{C:Checked}{os:Os}{f:FuncId}{fn:Func}{s:ChangeSpec}{conds:List PathCond}{apart fresh handsOn again:Bool}{X:World→Array Value→Prop}
  (hX:∀(w w':World) (args:Array Value),w.heap=w'.heap→X w args→X w' args)
  (own:ownKnob C.prog.godebug=none) (started:os.Started) (noInit:C.prog.inits.idxOf? f=none) (hfn:C.prog.funcs[f]? = some fn)
  (start:∃(w:World) (tape:Tape) (i:Input),w.os=os∧(w.forCall tape i).Shaped C.prog∧i.vars=[]∧Input.okWide C.prog (w.forCall tape i) .any w.heap.size f i ∧
   ((s.pre enc C.prog fn conds apart (w.forCall tape i).memory i.args∧X (w.forCall tape i).memory i.args)∧sizedMet enc C.prog fn (OpenSpec.ofChange s) apart (w.forCall tape i).memory i.args)∧a.holds C.prog (lone (Frame.enter C.prog f i.args .normal) [] (w.forCall tape i)))
  (walk:∀(W:World) (base:Nat) (args:Array Value) (ds gs:List (DataW H)) (before:List MemPlace),
   (∀(j:Nat) t v,fn.params[j]? = some t→args[j]? = some v→Value.okWide C.prog W .any base t v)→DataW.Whole enc C.prog fn.params.toList s.vars apart W args.toList ds gs before→W.ShapedOpen C.prog→X W args →
   Calls C.prog f args W fun e W'=>∃v,e=.returned v∧s.post enc C.prog fn apart fresh handsOn again W args v W') :
  ReturnsInHanded a C os f .any (fun w args=>(s.pre enc C.prog fn conds apart w args∧X w args)∧sizedMet enc C.prog fn (OpenSpec.ofChange s) apart w args) (s.post enc C.prog fn apart fresh handsOn again):=by
 refine returnsInHanded_of_calls own started noInit start ?_
 rintro w tape i-hsh - ⟨_,_,_,g,hg,_,_,_,_,hval⟩ ⟨⟨⟨ds,gs,before,hw,-⟩,hx⟩,-⟩ -
 obtain rfl:g=fn:=Option.some.inj (hg.symm.trans hfn)
 refine (walk (w.forCall tape i) w.heap.size i.args ds gs before hval (DataW.Whole.of_heap (by rfl) hw) hsh (hX _ _ _ (by rfl) hx)).mono fun e W' hh=>?_
 obtain ⟨v,he,hp⟩:=hh
 subst he
 exact ChangeSpec.post_blind hp
/-- The listed variables that hold plain data. -/
noncomputable def plainL:List (String × DataW Unit):=[("math/bits.deBruijn32tab",Rows.laid_math_bits_deBruijn32tab),("math/bits.deBruijn64tab",Rows.laid_math_bits_deBruijn64tab),("unicode/utf8.acceptRanges",Rows.laid_unicode_utf8_acceptRanges),("unicode/utf8.first",Rows.laid_unicode_utf8_first)]
theorem officeBooks_env {W:World}(hL:laidMetH Tryz.prog Rows.officeBooksRow.laid W)(hs:W.ShapedOpen Tryz.prog):EnvA W:=by
 obtain ⟨h1,h2⟩:=plain_met (Lp:=plainL) (by kernel_rfl) (by kernel_rfl) hL
 exact env_of h1 (by simp [plainL]) (by simp [plainL]) h2 hs
theorem officeBooks_lifted (os:Os)(started:os.Started)(H:Type)(enc:TypeId × Value→H) :
  ReturnsInHanded {} Tryz.checked os 14 .any (fun w args=>(Rows.officeBooksSpec.pre enc Tryz.prog Tryz.f14 [] false w args∧laidMetH Tryz.prog Rows.officeBooksRow.laid w)∧sizedMet enc Tryz.prog Tryz.f14 (OpenSpec.ofChange Rows.officeBooksSpec) false w args)
   (Rows.officeBooksSpec.post enc Tryz.prog Tryz.f14 false true false false):=by
 refine handed_shaped (C:=Tryz.checked) (X:=fun w _=>laidMetH Tryz.prog Rows.officeBooksRow.laid w) (fun _ _ _ hh h=>h.of_heap hh) own_ started (by kernel_rfl) Tryz.func14
  (ChangeSpec.witness_shaped (enc:=enc) (C:=Tryz.checked) (os:=os) (X:=fun w _=>laidMetH Tryz.prog Rows.officeBooksRow.laid w) false (witW os plainL) #[.agg #[.int .i64 0,.slice none 0 0,.slice none 0 0,.int .i64 0,.int .i64 0,.int .i64 0,.int .i64 0,.slice none 0 0,.slice none 0 0],.string ⟨#[]⟩] 8 (by unfold witW;rw [World.layVars_os];rfl)
   (World.shaped_of_ZipB (by kernel_rfl) (by kernel_rfl)) (by kernel_rfl) (by kernel_rfl) (by kernel_rfl)
   (laidMetH_of_parts (by rw [show (Rows.officeBooksRow.laid.filter fun x=>x.2.handleName?.isNone)=plainL by kernel_rfl];exact witW_met _ (by kernel_rfl) (by kernel_rfl)) (by kernel_rfl))) ?_
 intro W base args ds gs before hval0 hW hS hL
 have hval:∀(j:Nat) t v,Tryz.f14.params[j]? = some t→args[j]? = some v→Value.okWide Tryz.prog W .any base t v:=hval0
 have hW':=hW
 obtain ⟨p,q,hA0,hV,rfl,hfz,hnd⟩:=hW
 have hA:DataW.TrodAll enc Tryz.prog W 0 (fun _=>true) true Tryz.f14.params.toList args.toList ds p:=hA0
 rw [Tryz.params14] at hA hval
 obtain ⟨v0,v1,d0,d1,p0,p1,rfl,rfl,rfl,h0,h1⟩:=trodAll_two hA
 obtain ⟨f,rfl,hf⟩:=open_firm (hval 0 _ v0 rfl rfl) h0
 obtain ⟨s,rfl,-,-,ws⟩:=Go.ChangeMaps.open_string Tryz.underlying9 (hval 1 _ v1 rfl rfl) h1
 have hsz:s.data.toList.length≤9223372036854775807:=by unfold maxLen at ws;simpa using ws
 refine (officeBooks_any hf (officeBooks_env hL hS) s.data.toList hsz).mono fun e W' ⟨he,hb⟩=>?_
 subst he
 exact ⟨_,rfl,law_post hW' rfl (by kernel_rfl) rfl (by rw [Tryz.params14];intro t ht;simp at ht;rcases ht with rfl | rfl <;> exact ⟨by kernel_rfl,of_decide_eq_true (by kernel_rfl)⟩) hb⟩
set_option maxHeartbeats 4000000 in
theorem officeBooks_closed:joinedFacts Tryz.prog 14 Tryz.f14 Rows.officeBooksSpec Rows.officeBooksRow=true:=by
 unfold joinedFacts
 simp only [Bool.and_eq_true]
 repeat' apply And.intro
 all_goals (as_aux_lemma=>kernel_rfl)
set_option maxHeartbeats 4000000 in
theorem officeBooks_wrap:Tryz.f14.isWrapper Tryz.prog Rows.officeBooksRow.wrapper Rows.officeBooksRow.mainSum:=by
 unfold Func.isWrapper;first | (rw [if_pos (by decide +kernel)];kernel_rfl) | (rw [if_neg (by decide +kernel)];exact ⟨rfl,rfl⟩)
theorem officeBooks_named:Tryz.prog.funcNamed Rows.officeBooksRow.func=some 14:=by kernel_rfl
theorem officeBooks_inst:Tryz.f14.isInstance Tryz.prog Rows.officeBooksRow.origin Rows.officeBooksRow.targs:=of_decide_eq_true (by kernel_rfl)
set_option maxHeartbeats 4000000 in
theorem officeBooks_row:Rows.OfficeBooksSaid :=
 OpenClaim.holds_of_wide 14 Tryz.f14 rfl rfl rfl rfl rfl rfl rfl ⟨rfl,rfl,rfl,rfl,rfl⟩ rfl rfl rfl rfl rfl officeBooks_named Tryz.func14 officeBooks_closed
  officeBooks_inst officeBooks_wrap
  (fun os started H enc _=>officeBooks_lifted os started H enc)
theorem officeBooks_wfT:Rows.officeBooksRow.wfByText (OpenSpec.ofChange Rows.officeBooksSpec)=true:=by kernel_rfl
theorem office_main:Tryz.pinned.checked.prog.mainIs=some (true,"5a9a52965f4185065c0d39a39ec58f829537e604a07fc4f1dbce9d7d2d17f592".toList):=by kernel_rfl
theorem office_looks:true=Tryz.pinned.checked.prog.looks []:=by kernel_rfl
theorem officeBooks_goes:false=Rows.officeBooksRow.goesBy Tryz.pinned.checked.prog:=by kernel_rfl
theorem officeBooks_stand:([32,9].all fun u=>!Tryz.prog.wantsStandIn u)=true:=by kernel_rfl
set_option maxHeartbeats 4000000 in
theorem officeBooks_holds:Rows.OfficeBooksCardSaid :=
 Claim7.holds_tied_plain_at .later [] [.data,.data,.data,.handle,.pinned] true (true,"5a9a52965f4185065c0d39a39ec58f829537e604a07fc4f1dbce9d7d2d17f592") true
  officeBooks_row (fun _ h=>by cases h) officeBooks_wfT (fun _ h=>by cases h) officeBooks_row_tie rfl ⟨rfl,rfl⟩ office_main rfl
  (fun f fn hf hfn=>by
   obtain rfl:f=14:=Option.some.inj (officeBooks_named.symm.trans hf) |>.symm
   obtain rfl:fn=Tryz.f14:=(Option.some.inj (Tryz.func14.symm.trans hfn)).symm
   exact ⟨office_looks,fun j t ht=>by
    rw [Tryz.params14] at ht
    have hm:t ∈ [32,9]:=by simpa using Array.mem_of_getElem? ht
    exact (show Tryz.prog.wantsStandIn t=false by simpa using List.all_eq_true.1 officeBooks_stand t hm)⟩)
  officeBooks_goes
end Go.Proofs.YtiapkffihpgdcaaGreatDoor
