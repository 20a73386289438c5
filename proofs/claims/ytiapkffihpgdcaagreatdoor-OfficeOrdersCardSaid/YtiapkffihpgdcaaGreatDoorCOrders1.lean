/-
  OfficeOrders: for every firm and every list of orders the law returns true, panics nowhere and leaves its arguments as they were: both offices answer every order alike. On the tied card. No condition beyond the card.
-/
import Derived.Test.YtiapkffihpgdcaaGreatDoorQB1
import Derived.Test.YtiapkffihpgdcaaGreatDoorQB2
import Derived.Test.YtiapkffihpgdcaaGreatDoorQB3
import Derived.Test.YtiapkffihpgdcaaGreatDoorQB4
import Derived.Test.YtiapkffihpgdcaaGreatDoorQB5
import Derived.Test.YtiapkffihpgdcaaGreatDoorQB6
import Derived.Test.YtiapkffihpgdcaaGreatDoorQB7
import Derived.Test.YtiapkffihpgdcaaGreatDoorQB8
import Derived.Test.YtiapkffihpgdcaaGreatDoorQB9
import Derived.Test.YtiapkffihpgdcaaGreatDoorQB10
import Derived.Test.YtiapkffihpgdcaaGreatDoorQB11
import Derived.Test.YtiapkffihpgdcaaGreatDoorQB12
import Derived.Test.YtiapkffihpgdcaaGreatDoorQB13
import Derived.Test.YtiapkffihpgdcaaGreatDoorQB14
import Derived.Test.YtiapkffihpgdcaaGreatDoorQB15
import Derived.Test.YtiapkffihpgdcaaGreatDoorQB16
import Derived.Test.YtiapkffihpgdcaaGreatDoorQB17
import Derived.Test.YtiapkffihpgdcaaGreatDoorQB18
import Derived.Test.YtiapkffihpgdcaaGreatDoorQB19
import Derived.Test.YtiapkffihpgdcaaGreatDoorQB20
import Derived.Test.YtiapkffihpgdcaaGreatDoorQB21
import Derived.Test.YtiapkffihpgdcaaGreatDoorQB22
import Derived.Test.YtiapkffihpgdcaaGreatDoorQB23
import Derived.Test.YtiapkffihpgdcaaGreatDoorQB24
import Derived.Test.YtiapkffihpgdcaaGreatDoorQB25
import Derived.Test.YtiapkffihpgdcaaGreatDoorQB26
import Derived.Test.YtiapkffihpgdcaaGreatDoorQB27
import Derived.Test.YtiapkffihpgdcaaGreatDoorQB28
import Derived.Test.YtiapkffihpgdcaaGreatDoorQB29
import Derived.Test.YtiapkffihpgdcaaGreatDoorQB30
import Derived.Test.YtiapkffihpgdcaaGreatDoorQB31
import Derived.Test.YtiapkffihpgdcaaGreatDoorQB32
import Derived.Test.YtiapkffihpgdcaaGreatDoorQB33
import Derived.Test.YtiapkffihpgdcaaGreatDoorQB34
import Derived.Test.YtiapkffihpgdcaaGreatDoorQB35
import Derived.IntWalk
import Derived.ScopeJumps
import Derived.WalkMore
import Derived.StillTailTactics
import Derived.Test.YtiapkffihpgdcaaGreatDoorTie
import Derived.Test.YtiapkffihpgdcaaGreatDoorCards
import Derived.SevenTiedAt
import Derived.ChangeMaps5
set_option linter.unusedVariables false
set_option linter.unusedSimpArgs false
set_option maxRecDepth 100000
namespace Go.Proofs.YtiapkffihpgdcaaGreatDoor
open Go.RowKit
def apart (v v':Value):Prop:=∀k,v.ownBlock=some k→v'.ownBlock=some k→False
section
variable {P:Program}{W:World}{ops:Array Oper}{o:Oper}{a:Act}{K:Act→World→Prop}{Q:Exit→Act→World→Prop}{E:Prop}{rest:List Oper}
 {t e:TypeId} {z:Value} {size bytes base n c:Nat} {A:Option Addr} {xs news:List Value}
end
set_option maxHeartbeats 3200000 in
theorem pre_OfficeOrders {f:Fi}{w:World}(hf:f.In w)(hE:EnvA w)(l:List Wd)(A:Option Addr)(c:Nat)(hR:RS w A l)(hll:l.length≤9223372036854775807)(h:lrg f.t f.b=true∨(lrg f.t f.b=false∧lng l=true)∨(lrg f.t f.b=false∧lng l=false∧f.e≠0)) :
  Calls Tryz.prog 11 #[.agg f.cells,.slice A l.length c] w fun e w'=>e=.returned (.bool true)∧Below w.heap.size w w':=by
 unfold Fi.cells
 obtain ⟨w2,hw2⟩:∃w2,w.alloc (.cells #[.int .i64 f.t.len,.slice f.A1 f.t.rest.length f.c1,.slice f.A2 f.t.clo.length f.c2,.int .i64 f.c.n,.int .i64 f.c.f,.int .i64 f.c.k,.int .i64 f.b.props,.slice f.B1 f.b.items.length f.d1,.slice f.B2 f.b.rules.length f.d2] 32)=w2:=⟨_,rfl⟩
 have hy:Below w.heap.size w w2:=by rw [← hw2];exact (Below.refl _ w).alloc (Nat.le_refl _) _
 have b0:Box w2 w.heap.size #[.int .i64 f.t.len,.slice f.A1 f.t.rest.length f.c1,.slice f.A2 f.t.clo.length f.c2,.int .i64 f.c.n,.int .i64 f.c.f,.int .i64 f.c.k,.int .i64 f.b.props,.slice f.B1 f.b.items.length f.d1,.slice f.B2 f.b.rules.length f.d2]:=by rw [← hw2];exact Box.new w _ _
 have HL:=Lib.hid (large_any f.t f.c f.b (fun _=>True) f.A1 f.A2 f.B1 f.B2 f.c1 f.c2 f.d1 f.d2 f.hp f.hq f.hr w2 (hf.below hy).bk)
 have HO:=Lib.hid (fun (w':World) (hb:Below w2.heap.size w2 w')=>olong_any l A c w' hll ((hR.below hy).below hb))
 have x0:=b0.cell 0;have x1:=b0.cell 1;have x2:=b0.cell 2;have x3:=b0.cell 3;have x4:=b0.cell 4;have x5:=b0.cell 5;have x6:=b0.cell 6;have x7:=b0.cell 7;have x8:=b0.cell 8;simp only [gqA,gqB,gqC] at x0 x1 x2 x3 x4 x5 x6 x7 x8
 rcases h with h | ⟨h,h'⟩ | ⟨h,h',hz⟩
 ·rw [h] at HL
  go_enter Tryz.func11,Tryz.ntmps11
  go_wp2_with (first | (go_at_call 34;(with_reducible refine HL.out.mono ?_);rintro e w3 ⟨rfl,hb3⟩;have b3:=b0.below hb3;have hy3:=hy.trans (hb3.mono hy.size);have y0:=b3.cell 0;have y1:=b3.cell 1;have y2:=b3.cell 2;have y3:=b3.cell 3;have y4:=b3.cell 4;have y5:=b3.cell 5;have y6:=b3.cell 6;have y7:=b3.cell 7;have y8:=b3.cell 8;simp only [gqA,gqB,gqC] at y0 y1 y2 y3 y4 y5 y6 y7 y8) | (go_at_call 31;(with_reducible refine (oknown_any (hE.below hy3)).mono ?_);rintro e wk ⟨rfl,hbk⟩))
  go_ret
  exact ⟨rfl,hy3.trans (hbk.mono hy3.size)⟩
 ·rw [h] at HL
  rw [h'] at HO
  go_enter Tryz.func11,Tryz.ntmps11
  go_wp2_with (first | (go_at_call 34;(with_reducible refine HL.out.mono ?_);rintro e w3 ⟨rfl,hb3⟩;have b3:=b0.below hb3;have hy3:=hy.trans (hb3.mono hy.size);have y0:=b3.cell 0;have y1:=b3.cell 1;have y2:=b3.cell 2;have y3:=b3.cell 3;have y4:=b3.cell 4;have y5:=b3.cell 5;have y6:=b3.cell 6;have y7:=b3.cell 7;have y8:=b3.cell 8;simp only [gqA,gqB,gqC] at y0 y1 y2 y3 y4 y5 y6 y7 y8) | (go_at_call 35;(with_reducible refine (HO.out _ hb3).mono ?_);rintro e w4 ⟨rfl,hb4⟩;have b4:=b3.below hb4;have hy4:=hy3.trans (hb4.mono hy3.size);have z0:=b4.cell 0;have z1:=b4.cell 1;have z2:=b4.cell 2;have z3:=b4.cell 3;have z4:=b4.cell 4;have z5:=b4.cell 5;have z6:=b4.cell 6;have z7:=b4.cell 7;have z8:=b4.cell 8;simp only [gqA,gqB,gqC] at z0 z1 z2 z3 z4 z5 z6 z7 z8) | (go_at_call 31;(with_reducible refine (oknown_any (hE.below hy4)).mono ?_);rintro e wk ⟨rfl,hbk⟩))
  go_ret
  exact ⟨rfl,hy4.trans (hbk.mono hy4.size)⟩
 ·rw [h] at HL
  rw [h'] at HO
  have hlen:=lrg_len h
  have HB:=Lib.hid (fun (w':World) (hb:Below w.heap.size w w')=>begin_bad (hf.below hb) hlen (hE.below hb) hz)
  have HF:=Lib.hid (fun (w':World) (hb:Below w.heap.size w w')=>failed_any (hf.below hb) hlen (hE.below hb) hz)
  unfold Fi.cells at HB HF
  clear hz h h'
  go_enter Tryz.func11,Tryz.ntmps11
  go_wp2_with (first
   | (go_at_call 34;(with_reducible refine HL.out.mono ?_);rintro e w3 ⟨rfl,hb3⟩;have b3:=b0.below hb3;have hy3:=hy.trans (hb3.mono hy.size);have y0:=b3.cell 0;have y1:=b3.cell 1;have y2:=b3.cell 2;have y3:=b3.cell 3;have y4:=b3.cell 4;have y5:=b3.cell 5;have y6:=b3.cell 6;have y7:=b3.cell 7;have y8:=b3.cell 8;simp only [gqA,gqB,gqC] at y0 y1 y2 y3 y4 y5 y6 y7 y8)
   | (go_at_call 35;(with_reducible refine (HO.out _ hb3).mono ?_);rintro e w4 ⟨rfl,hb4⟩;have b4:=b3.below hb4;have hy4:=hy3.trans (hb4.mono hy3.size);have z0:=b4.cell 0;have z1:=b4.cell 1;have z2:=b4.cell 2;have z3:=b4.cell 3;have z4:=b4.cell 4;have z5:=b4.cell 5;have z6:=b4.cell 6;have z7:=b4.cell 7;have z8:=b4.cell 8;simp only [gqA,gqB,gqC] at z0 z1 z2 z3 z4 z5 z6 z7 z8)
   | (go_at_call 36;(with_reducible refine (HB.out _ hy4).mono ?_);rintro e w5 ⟨rfl,hb5⟩;have b5:=b4.below hb5;have hy5:=hy4.trans (hb5.mono hy4.size);have v0:=b5.cell 0;have v1:=b5.cell 1;have v2:=b5.cell 2;have v3:=b5.cell 3;have v4:=b5.cell 4;have v5:=b5.cell 5;have v6:=b5.cell 6;have v7:=b5.cell 7;have v8:=b5.cell 8;simp only [gqA,gqB,gqC] at v0 v1 v2 v3 v4 v5 v6 v7 v8)
   | (go_at_call 37;(with_reducible refine (HF.out _ hy5).mono ?_);rintro e w6 ⟨rfl,hb6⟩))
  go_ret
  exact ⟨rfl,hy5.trans (hb6.mono hy5.size)⟩
set_option maxHeartbeats 3200000 in
theorem main_OfficeOrders {f:Fi}{w:World}(hf:f.In w)(hE:EnvA w)(l:List Wd)(A:Option Addr)(c:Nat)(hR:RS w A l)(hll:l.length≤9223372036854775807)(h:lrg f.t f.b=false)(h':lng l=false)(hz:f.e=0) :
  Calls Tryz.prog 11 #[.agg f.cells,.slice A l.length c] w fun e w'=>e=.returned (.bool true)∧Below w.heap.size w w':=by
 unfold Fi.cells
 obtain ⟨w2,hw2⟩:∃w2,w.alloc (.cells #[.int .i64 f.t.len,.slice f.A1 f.t.rest.length f.c1,.slice f.A2 f.t.clo.length f.c2,.int .i64 f.c.n,.int .i64 f.c.f,.int .i64 f.c.k,.int .i64 f.b.props,.slice f.B1 f.b.items.length f.d1,.slice f.B2 f.b.rules.length f.d2] 32)=w2:=⟨_,rfl⟩
 have hy:Below w.heap.size w w2:=by rw [← hw2];exact (Below.refl _ w).alloc (Nat.le_refl _) _
 have b0:Box w2 w.heap.size #[.int .i64 f.t.len,.slice f.A1 f.t.rest.length f.c1,.slice f.A2 f.t.clo.length f.c2,.int .i64 f.c.n,.int .i64 f.c.f,.int .i64 f.c.k,.int .i64 f.b.props,.slice f.B1 f.b.items.length f.d1,.slice f.B2 f.b.rules.length f.d2]:=by rw [← hw2];exact Box.new w _ _
 have HL:=Lib.hid (large_any f.t f.c f.b (fun _=>True) f.A1 f.A2 f.B1 f.B2 f.c1 f.c2 f.d1 f.d2 f.hp f.hq f.hr w2 (hf.below hy).bk)
 have HO:=Lib.hid (fun (w':World) (hb:Below w2.heap.size w2 w')=>olong_any l A c w' hll ((hR.below hy).below hb))
 have x0:=b0.cell 0;have x1:=b0.cell 1;have x2:=b0.cell 2;have x3:=b0.cell 3;have x4:=b0.cell 4;have x5:=b0.cell 5;have x6:=b0.cell 6;have x7:=b0.cell 7;have x8:=b0.cell 8;simp only [gqA,gqB,gqC] at x0 x1 x2 x3 x4 x5 x6 x7 x8
 rw [h] at HL
 rw [h'] at HO
 have hlen:=lrg_len h
 have htlen:=lrg_tlen h hz
 obtain ⟨hl3,hlw⟩:=lng_no h'
 have HLW:=Lib.hid hlw
 have HB:=Lib.hid (fun (w':World) (hb:Below w.heap.size w w')=>begin_ok (hf.below hb) hlen (hE.below hb) hz)
 unfold Fi.cells at HB
 obtain ⟨m,hm⟩:∃m,m=min l.length 30:=⟨_,rfl⟩
 have hm1:m≤l.length∧m≤30:=by omega
 have hm2:m=l.length∨(m=30∧30<l.length):=by omega
 have HM:=Lib.hid hm2
 have hso:=OfOk.new hz
 clear hz h h' hlw hm hm2
 go_enter Tryz.func11,Tryz.ntmps11
 go_wp2_with (first
  | (go_at_call 34;(with_reducible refine HL.out.mono ?_);rintro e w3 ⟨rfl,hb3⟩;have b3:=b0.below hb3;have hy3:=hy.trans (hb3.mono hy.size);have y0:=b3.cell 0;have y1:=b3.cell 1;have y2:=b3.cell 2;have y3:=b3.cell 3;have y4:=b3.cell 4;have y5:=b3.cell 5;have y6:=b3.cell 6;have y7:=b3.cell 7;have y8:=b3.cell 8;simp only [gqA,gqB,gqC] at y0 y1 y2 y3 y4 y5 y6 y7 y8)
  | (go_at_call 35;(with_reducible refine (HO.out _ hb3).mono ?_);rintro e w4 ⟨rfl,hb4⟩;have b4:=b3.below hb4;have hy4:=hy3.trans (hb4.mono hy3.size);have z0:=b4.cell 0;have z1:=b4.cell 1;have z2:=b4.cell 2;have z3:=b4.cell 3;have z4:=b4.cell 4;have z5:=b4.cell 5;have z6:=b4.cell 6;have z7:=b4.cell 7;have z8:=b4.cell 8;simp only [gqA,gqB,gqC] at z0 z1 z2 z3 z4 z5 z6 z7 z8)
  | (go_at_call 36;(with_reducible refine (HB.out _ hy4).mono ?_);rintro e w5 ⟨g,x,rfl,hd⟩))
 clear hw2 HL HO HB x0 x1 x2 x3 x4 x5 x6 x7 x8 y0 y1 y2 y3 y4 y5 y6 y7 y8 z0 z1 z2 z3 z4 z5 z6 z7 z8
 go_loopw [8] (fun v wr=>∃k:Nat,k≤m∧v=.int .i64 k∧DN w4 k g x (runTo f.s0 l k) (runTo f.s0 l k) wr) (fun v _=>m-(intOf v).toNat)
 case atStart=>exact ⟨0,by omega,rfl,by rw [runTo_zero];exact hd⟩
 case round =>
  clear hd
  obtain ⟨k,hk,rfl,hkn⟩:=hrel
  by_cases hlt:k<m
  ·obtain ⟨ad,rfl,hab,c0⟩:=(hR.below hy4).at_ (k:=k) (by omega)
   have htl:=HLW.out k (by omega)
   have hrt:=runTo_succ f.s0 l (k:=k) (by omega)
   rw [nil_getD (by omega)] at htl hrt
   obtain ⟨tx,htx⟩:∃tx,tx=l[k]'(by omega):=⟨_,rfl⟩
   rw [← htx] at c0 htl hrt
   obtain ⟨sk,hsk⟩:∃sk,sk=runTo f.s0 l k:=⟨_,rfl⟩
   rw [← hsk] at hkn hrt
   have HRT:=Lib.hid hrt
   have HSK:=Lib.hid hsk
   clear htx hsk hrt
   have C0:=Lib.hid c0
   have q0:=(hkn.bel.cell (by exact hab)).trans C0.out
   have HD:=Lib.hid ((hkn.below (Below.refl wr.heap.size wr).drew).do_ (by omega) tx (by omega))
   obtain ⟨D,hD⟩:∃D,D=doE sk tx:=⟨_,rfl⟩
   rw [← hD] at HD
   have HDE:=Lib.hid hD
   have n1:(D != D)=false:=by simp
   clear hD c0
   obtain ⟨r5,hr5⟩:∃r5:Int,r5=(k:Int) % 5:=⟨_,rfl⟩
   have z1:(k:Int).tmod 5=r5:=by rw [hr5];exact Int.tmod_eq_emod_of_nonneg (by omega)
   have z2:IntKind.i64.wrap ((k:Int).tmod 5)=r5:=by rw [z1,hr5];exact IntWalk.i64_in _ (by omega)
   have z4:(k:Int) % 5=r5:=hr5.symm
   have z3:IntKind.i64.wrap r5=r5:=by rw [hr5];exact IntWalk.i64_in _ (by omega)
   clear hr5
   by_cases h5:(r5 == 0)=true
   ·go_wp2_with fail
    go_region_held3 (fun w'=>w'.cell? (ad.add k)=some (St tx))
     (first | exact q1 | exact q2 | exact q3 | go_keep)
     (first
      | (go_at_call 25;(with_reducible refine HD.out.mono ?_);rintro e wA ⟨rfl,hdA⟩;have q1:=(hdA.bel.cell (by exact hab)).trans C0.out)
      | (go_at_call 53;(with_reducible refine (hdA.rdo tx (by omega)).mono ?_);rintro e wB ⟨rfl,hdB⟩;rw [← HDE.out];have q2:=(hdB.bel.cell (by exact hab)).trans C0.out;have HQ:=Lib.hid hdB.equal)
      | (go_at_call 54;(with_reducible refine HQ.out.mono ?_);rintro e wC ⟨rfl,hbC⟩;have hdC:=hdB.below hbC;have q3:=(hdC.bel.cell (by exact hab)).trans C0.out))
    all_goals
     rw [← HRT.out] at hdC
     go_wp2_with fail
     go_roundw
     case rel=>exact ⟨k+1,by omega,by go_num,hdC⟩
     case measure=>simp [intOf];omega
   ·have h5':(r5 == 0)=false:=by simpa using h5
    clear h5
    go_wp2_with fail
    refine wp_region_held_drew (S:=(fun w'=>w'.cell? (ad.add k)=some (St tx))) (by kernel_rfl) ?_ (fun hHeld=>?_)
    ·exact q0
    refine takeL (i:=0) (v:=?_) rfl (by kernel_rfl) (by kernel_rfl) (by kernel_rfl) (fun _ _ _ h=>h) (Or.inl ⟨by rfl,?_⟩) (by assumption) ?_
    rotate_left
    focus (intro w hSw;(try dsimp only at hSw);go_simp;(try with_reducible rfl))
    (try simp only [Act.put,List.setIfInBounds_toArray,List.set_cons_zero,List.set_cons_succ])
    refine takeL (i:=1) (v:=?_) rfl (by kernel_rfl) (by kernel_rfl) (by kernel_rfl) (fun _ _ _ h=>h) (Or.inl ⟨by rfl,?_⟩) (by assumption) ?_
    rotate_left
    focus (intro w hSw;(try dsimp only at hSw);go_simp;(try with_reducible rfl))
    (try simp only [Act.put,List.setIfInBounds_toArray,List.set_cons_zero,List.set_cons_succ])
    refine takeL (i:=2) (v:=?_) rfl (by kernel_rfl) (by kernel_rfl) (by kernel_rfl) (fun _ _ _ h=>h) (Or.inl ⟨by rfl,?_⟩) (by assumption) ?_
    rotate_left
    focus (intro w hSw;(try dsimp only at hSw);go_simp;(try with_reducible rfl))
    (try simp only [Act.put,List.setIfInBounds_toArray,List.set_cons_zero,List.set_cons_succ])
    refine takeL (i:=3) (v:=?_) rfl (by kernel_rfl) (by kernel_rfl) (by kernel_rfl) (fun _ _ _ h=>h) (Or.inl ⟨by rfl,?_⟩) (by assumption) ?_
    rotate_left
    focus (intro w hSw;(try dsimp only at hSw);go_simp;(try with_reducible rfl))
    (try simp only [Act.put,List.setIfInBounds_toArray,List.set_cons_zero,List.set_cons_succ])
    refine takeL (i:=4) (v:=?_) rfl (by kernel_rfl) (by kernel_rfl) (by kernel_rfl) (fun _ _ _ h=>h) (Or.inl ⟨by rfl,?_⟩) (by assumption) ?_
    rotate_left
    focus (intro w hSw;(try dsimp only at hSw);go_simp;(try with_reducible rfl))
    (try simp only [Act.put,List.setIfInBounds_toArray,List.set_cons_zero,List.set_cons_succ])
    refine takeL (i:=6) (v:=?_) rfl (by kernel_rfl) (by kernel_rfl) (by kernel_rfl) (fun _ _ _ h=>h) (Or.inl ⟨by rfl,?_⟩) (by assumption) ?_
    rotate_left
    focus (intro w hSw;(try dsimp only at hSw);go_simp;(try with_reducible rfl))
    (try simp only [Act.put,List.setIfInBounds_toArray,List.set_cons_zero,List.set_cons_succ])
    refine takeL (i:=7) (v:=?_) rfl (by kernel_rfl) (by kernel_rfl) (by kernel_rfl) (fun _ _ _ h=>h) (Or.inl ⟨by rfl,?_⟩) (by assumption) ?_
    rotate_left
    focus (intro w hSw;(try dsimp only at hSw);go_simp;(try with_reducible rfl))
    (try simp only [Act.put,List.setIfInBounds_toArray,List.set_cons_zero,List.set_cons_succ])
    refine takeL (i:=8) (v:=?_) rfl (by kernel_rfl) (by kernel_rfl) (by kernel_rfl) (fun _ _ _ h=>h) (Or.inl ⟨by rfl,?_⟩) (by assumption) ?_
    rotate_left
    focus (intro w hSw;(try dsimp only at hSw);go_simp;(try with_reducible rfl))
    (try simp only [Act.put,List.setIfInBounds_toArray,List.set_cons_zero,List.set_cons_succ])
    refine takeL (i:=9) (v:=?_) rfl (by kernel_rfl) (by kernel_rfl) (by kernel_rfl) (fun _ _ _ h=>h) (Or.inl ⟨by rfl,?_⟩) (by assumption) ?_
    rotate_left
    focus (intro w hSw;(try dsimp only at hSw);go_simp;(try with_reducible rfl))
    (try simp only [Act.put,List.setIfInBounds_toArray,List.set_cons_zero,List.set_cons_succ])
    refine takeL (i:=10) (v:=?_) rfl (by kernel_rfl) (by kernel_rfl) (by kernel_rfl) (fun _ _ _ h=>h) (Or.inl ⟨by rfl,?_⟩) (by assumption) ?_
    rotate_left
    focus (intro w hSw;(try dsimp only at hSw);go_simp;(try with_reducible rfl))
    (try simp only [Act.put,List.setIfInBounds_toArray,List.set_cons_zero,List.set_cons_succ])
    refine wpAnyH_ready (rs:=[5]) (by kernel_rfl) (by simp) ?_
    refine consL (i:=5) rfl (fun K hK=>?_) AllReadyH.nil
    go_simp
    go_at_call 25
    (with_reducible refine HD.out.mono ?_)
    rintro e wA ⟨rfl,hdA⟩
    have q1:=(hdA.bel.cell (by exact hab)).trans C0.out
    (try go_wp2_with fail)
    refine hK.out _ _ ?_ (fun hHeld=>?_)
    ·exact q1
    clear hK K
    (try simp only [Act.put,List.setIfInBounds_toArray,List.set_cons_zero,List.set_cons_succ])
    refine wpAnyH_ready (rs:=[11]) (by kernel_rfl) (by simp) ?_
    refine consL (i:=11) rfl (fun K hK=>?_) AllReadyH.nil
    go_simp
    go_at_call 53
    (with_reducible refine (hdA.rdo tx (by omega)).mono ?_)
    rintro e wB ⟨rfl,hdB⟩
    rw [← HDE.out]
    have q2:=(hdB.bel.cell (by exact hab)).trans C0.out
    (try go_wp2_with fail)
    refine hK.out _ _ ?_ (fun hHeld=>?_)
    ·exact q2
    clear hK K
    (try simp only [Act.put,List.setIfInBounds_toArray,List.set_cons_zero,List.set_cons_succ])
    refine takeL (i:=12) (v:=?_) rfl (by kernel_rfl) (by kernel_rfl) (by kernel_rfl) (fun _ _ _ h=>h) (Or.inl ⟨by rfl,?_⟩) (by assumption) ?_
    rotate_left
    focus (intro w hSw;(try dsimp only at hSw);go_simp;(try with_reducible rfl))
    (try simp only [Act.put,List.setIfInBounds_toArray,List.set_cons_zero,List.set_cons_succ])
    refine takeL (i:=13) (v:=?_) rfl (by kernel_rfl) (by kernel_rfl) (by kernel_rfl) (fun _ _ _ h=>h) (Or.inl ⟨by rfl,?_⟩) (by assumption) ?_
    rotate_left
    focus (intro w hSw;(try dsimp only at hSw);go_simp;(try with_reducible rfl))
    (try simp only [Act.put,List.setIfInBounds_toArray,List.set_cons_zero,List.set_cons_succ])
    refine takeL (i:=14) (v:=?_) rfl (by kernel_rfl) (by kernel_rfl) (by kernel_rfl) (fun _ _ _ h=>h) (Or.inl ⟨by rfl,?_⟩) (by assumption) ?_
    rotate_left
    focus (intro w hSw;(try dsimp only at hSw);go_simp;(try with_reducible rfl))
    (try simp only [Act.put,List.setIfInBounds_toArray,List.set_cons_zero,List.set_cons_succ])
    refine takeL (i:=15) (v:=?_) rfl (by kernel_rfl) (by kernel_rfl) (by kernel_rfl) (fun _ _ _ h=>h) (Or.inl ⟨by rfl,?_⟩) (by assumption) ?_
    rotate_left
    focus (intro w hSw;(try dsimp only at hSw);go_simp;(try with_reducible rfl))
    (try simp only [Act.put,List.setIfInBounds_toArray,List.set_cons_zero,List.set_cons_succ])
    refine takeL (i:=16) (v:=?_) rfl (by kernel_rfl) (by kernel_rfl) (by kernel_rfl) (fun _ _ _ h=>h) (Or.inl ⟨by rfl,?_⟩) (by assumption) ?_
    rotate_left
    focus (intro w hSw;(try dsimp only at hSw);go_simp;(try with_reducible rfl))
    (try simp only [Act.put,List.setIfInBounds_toArray,List.set_cons_zero,List.set_cons_succ])
    refine takeL (i:=17) (v:=?_) rfl (by kernel_rfl) (by kernel_rfl) (by kernel_rfl) (fun _ _ _ h=>h) (Or.inl ⟨by rfl,?_⟩) (by assumption) ?_
    rotate_left
    focus (intro w hSw;(try dsimp only at hSw);go_simp;(try with_reducible rfl))
    (try simp only [Act.put,List.setIfInBounds_toArray,List.set_cons_zero,List.set_cons_succ])
    refine takeL (i:=18) rfl (by kernel_rfl) (by kernel_rfl) (by kernel_rfl) (fun _ _ _ h=>h) (Or.inr ⟨by rfl,rfl⟩) (by assumption) ?_
    (try simp only [Act.put,List.setIfInBounds_toArray,List.set_cons_zero,List.set_cons_succ])
    refine takeL (i:=19) rfl (by kernel_rfl) (by kernel_rfl) (by kernel_rfl) (fun _ _ _ h=>h) (Or.inr ⟨by rfl,rfl⟩) (by assumption) ?_
    (try simp only [Act.put,List.setIfInBounds_toArray,List.set_cons_zero,List.set_cons_succ])
    refine takeL (i:=20) rfl (by kernel_rfl) (by kernel_rfl) (by kernel_rfl) (fun _ _ _ h=>h) (Or.inr ⟨by rfl,rfl⟩) (by assumption) ?_
    (try simp only [Act.put,List.setIfInBounds_toArray,List.set_cons_zero,List.set_cons_succ])
    refine takeL (i:=21) rfl (by kernel_rfl) (by kernel_rfl) (by kernel_rfl) (fun _ _ _ h=>h) (Or.inr ⟨by rfl,rfl⟩) (by assumption) ?_
    (try simp only [Act.put,List.setIfInBounds_toArray,List.set_cons_zero,List.set_cons_succ])
    refine takeL (i:=22) (v:=?_) rfl (by kernel_rfl) (by kernel_rfl) (by kernel_rfl) (fun _ _ _ h=>h) (Or.inl ⟨by rfl,?_⟩) (by assumption) ?_
    rotate_left
    focus (intro w hSw;(try dsimp only at hSw);go_simp;(try with_reducible rfl))
    (try simp only [Act.put,List.setIfInBounds_toArray,List.set_cons_zero,List.set_cons_succ])
    refine takeL (i:=23) (v:=?_) rfl (by kernel_rfl) (by kernel_rfl) (by kernel_rfl) (fun _ _ _ h=>h) (Or.inl ⟨by rfl,?_⟩) (by assumption) ?_
    rotate_left
    focus (intro w hSw;(try dsimp only at hSw);go_simp;(try with_reducible rfl))
    (try simp only [Act.put,List.setIfInBounds_toArray,List.set_cons_zero,List.set_cons_succ])
    refine wpAnyH_done (by kernel_rfl) ?_ _
    rw [← HRT.out] at hdB
    go_wp2_with fail
    go_roundw
    case rel=>exact ⟨k+1,by omega,by go_num,hdB⟩
    case measure=>simp [intOf];omega
  ·obtain rfl:k=m:=by omega
   have hyo:=hy4.trans (hkn.bel.mono hy4.size)
   have HQ:=Lib.hid hkn.equal
   have htx:k<l.length∨¬ k<l.length:=Decidable.em _
   rcases htx with hc | hc
   all_goals
    (try (have h30:30≤k:=by have:=HM.out;omega))
    go_wp2_with (first
     | (go_at_call 54;(with_reducible refine HQ.out.mono ?_);rintro e w7 ⟨rfl,hb7⟩;have hy7:=hyo.trans (hb7.mono hyo.size))
     | (go_at_call 31;(with_reducible refine (oknown_any (hE.below hy7)).mono ?_);rintro e wk ⟨rfl,hbk⟩))
    go_ret
    exact ⟨rfl,hy7.trans (hbk.mono hy7.size)⟩
theorem officeOrders_any {f:Fi}{w:World}(hf:f.In w)(hE:EnvA w)(l:List Wd)(A:Option Addr)(c:Nat)(hR:RS w A l)(hll:l.length≤9223372036854775807) :
  Calls Tryz.prog 11 #[.agg f.cells,.slice A l.length c] w fun e w'=>e=.returned (.bool true)∧Below w.heap.size w w':=by
 cases h:lrg f.t f.b with
 | true=>exact pre_OfficeOrders hf hE l A c hR hll (.inl h)
 | false =>
  cases h':lng l with
  | true=>exact pre_OfficeOrders hf hE l A c hR hll (.inr (.inl ⟨h,h'⟩))
  | false =>
   by_cases hz:f.e=0
   ·exact main_OfficeOrders hf hE l A c hR hll h h' hz
   ·exact pre_OfficeOrders hf hE l A c hR hll (.inr (.inr ⟨h,h',hz⟩))
end Go.Proofs.YtiapkffihpgdcaaGreatDoor
namespace Go.Proofs.YtiapkffihpgdcaaGreatDoor
open Go.ChangeShapes Go.WideShapes Go.ChangeAt Go.RowKit Go.Deep Go.Joins
theorem handed_shaped {H:Type}{enc:TypeId × Value→H}{a:Assume}{C:Checked}{os:Os}{f:FuncId}{fn:Func}{s:ChangeSpec}{conds:List PathCond}{apart fresh handsOn again:Bool}{X:World→Array Value→Prop}
  (hX:∀(w w':World) (args:Array Value),w.heap=w'.heap→X w args→X w' args)
  (own:ownKnob C.prog.godebug=none) (started:os.Started) (noInit:C.prog.inits.idxOf? f=none) (hfn:C.prog.funcs[f]? = some fn)
  (start:∃(w:World) (tape:Tape) (i:Input),w.os=os∧(w.forCall tape i).Shaped C.prog∧i.vars=[]∧Input.okWide C.prog (w.forCall tape i) .any w.heap.size f i ∧
   ((s.pre enc C.prog fn conds apart (w.forCall tape i).memory i.args∧X (w.forCall tape i).memory i.args)∧sizedMet enc C.prog fn (OpenSpec.ofChange s) apart (w.forCall tape i).memory i.args)∧a.holds C.prog (lone (Frame.enter C.prog f i.args .normal) [] (w.forCall tape i)))
  (walk:∀(W:World) (base:Nat) (args:Array Value) (ds gs:List (DataW H)) (before:List MemPlace),
   (∀(j:Nat) t v,fn.params[j]? = some t→args[j]? = some v→Value.okWide C.prog W .any base t v)→DataW.Whole enc C.prog fn.params.toList s.vars apart W args.toList ds gs before→W.ShapedOpen C.prog→X W args →
   Calls C.prog f args W fun e W'=>∃v,e=.returned v∧s.post enc C.prog fn apart fresh handsOn again W args v W') :
  ReturnsInHanded a C os f .any (fun w args=>(s.pre enc C.prog fn conds apart w args∧X w args)∧sizedMet enc C.prog fn (OpenSpec.ofChange s) apart w args) (s.post enc C.prog fn apart fresh handsOn again):=by
 refine returnsInHanded_of_calls own started noInit start ?_
 rintro w tape i-hsh - ⟨_,_,_,g,hg,_,_,_,_,hval⟩ ⟨⟨⟨ds,gs,before,hw,-⟩,hx⟩,-⟩ -
 obtain rfl:g=fn:=Option.some.inj (hg.symm.trans hfn)
 refine (walk (w.forCall tape i) w.heap.size i.args ds gs before hval (DataW.Whole.of_heap (by rfl) hw) hsh (hX _ _ _ (by rfl) hx)).mono fun e W' hh=>?_
 obtain ⟨v,he,hp⟩:=hh
 subst he
 exact ChangeSpec.post_blind hp
/-- The listed variables that hold plain data. -/
noncomputable def plainL:List (String × DataW Unit):=[("math/bits.deBruijn32tab",Rows.laid_math_bits_deBruijn32tab),("math/bits.deBruijn64tab",Rows.laid_math_bits_deBruijn64tab),("unicode/utf8.acceptRanges",Rows.laid_unicode_utf8_acceptRanges),("unicode/utf8.first",Rows.laid_unicode_utf8_first)]
theorem officeOrders_env {W:World}(hL:laidMetH Tryz.prog Rows.officeOrdersRow.laid W)(hs:W.ShapedOpen Tryz.prog):EnvA W:=by
 obtain ⟨h1,h2⟩:=plain_met (Lp:=plainL) (by kernel_rfl) (by kernel_rfl) hL
 exact env_of h1 (by simp [plainL]) (by simp [plainL]) h2 hs
theorem officeOrders_lifted (os:Os)(started:os.Started)(H:Type)(enc:TypeId × Value→H) :
  ReturnsInHanded {} Tryz.checked os 11 .any (fun w args=>(Rows.officeOrdersSpec.pre enc Tryz.prog Tryz.f11 [] false w args∧laidMetH Tryz.prog Rows.officeOrdersRow.laid w)∧sizedMet enc Tryz.prog Tryz.f11 (OpenSpec.ofChange Rows.officeOrdersSpec) false w args)
   (Rows.officeOrdersSpec.post enc Tryz.prog Tryz.f11 false true false false):=by
 refine handed_shaped (C:=Tryz.checked) (X:=fun w _=>laidMetH Tryz.prog Rows.officeOrdersRow.laid w) (fun _ _ _ hh h=>h.of_heap hh) own_ started (by kernel_rfl) Tryz.func11
  (ChangeSpec.witness_shaped (enc:=enc) (C:=Tryz.checked) (os:=os) (X:=fun w _=>laidMetH Tryz.prog Rows.officeOrdersRow.laid w) false (witW os plainL) #[.agg #[.int .i64 0,.slice none 0 0,.slice none 0 0,.int .i64 0,.int .i64 0,.int .i64 0,.int .i64 0,.slice none 0 0,.slice none 0 0],.slice none 0 0] 8 (by unfold witW;rw [World.layVars_os];rfl)
   (World.shaped_of_ZipB (by kernel_rfl) (by kernel_rfl)) (by kernel_rfl) (by kernel_rfl) (by kernel_rfl)
   (laidMetH_of_parts (by rw [show (Rows.officeOrdersRow.laid.filter fun x=>x.2.handleName?.isNone)=plainL by kernel_rfl];exact witW_met _ (by kernel_rfl) (by kernel_rfl)) (by kernel_rfl))) ?_
 intro W base args ds gs before hval0 hW hS hL
 have hval:∀(j:Nat) t v,Tryz.f11.params[j]? = some t→args[j]? = some v→Value.okWide Tryz.prog W .any base t v:=hval0
 have hW':=hW
 obtain ⟨p,q,hA0,hV,rfl,hfz,hnd⟩:=hW
 have hA:DataW.TrodAll enc Tryz.prog W 0 (fun _=>true) true Tryz.f11.params.toList args.toList ds p:=hA0
 rw [Tryz.params11] at hA hval
 obtain ⟨v0,v1,d0,d1,p0,p1,rfl,rfl,rfl,h0,h1⟩:=trodAll_two hA
 obtain ⟨f,rfl,hf⟩:=open_firm (hval 0 _ v0 rfl rfl) h0
 obtain ⟨l,A,c,rfl,hrs,hll,hlk⟩:=open_orders (hval 1 _ v1 rfl rfl) h1
 refine (officeOrders_any hf (officeOrders_env hL hS) l A c hrs hll).mono fun e W' ⟨he,hb⟩=>?_
 subst he
 exact ⟨_,rfl,law_post hW' rfl (by kernel_rfl) rfl (by rw [Tryz.params11];intro t ht;simp at ht;rcases ht with rfl | rfl <;> exact ⟨by kernel_rfl,of_decide_eq_true (by kernel_rfl)⟩) hb⟩
set_option maxHeartbeats 4000000 in
theorem officeOrders_closed:joinedFacts Tryz.prog 11 Tryz.f11 Rows.officeOrdersSpec Rows.officeOrdersRow=true:=by
 unfold joinedFacts
 simp only [Bool.and_eq_true]
 repeat' apply And.intro
 all_goals (as_aux_lemma=>kernel_rfl)
set_option maxHeartbeats 4000000 in
theorem officeOrders_wrap:Tryz.f11.isWrapper Tryz.prog Rows.officeOrdersRow.wrapper Rows.officeOrdersRow.mainSum:=by
 unfold Func.isWrapper;first | (rw [if_pos (by decide +kernel)];kernel_rfl) | (rw [if_neg (by decide +kernel)];exact ⟨rfl,rfl⟩)
theorem officeOrders_named:Tryz.prog.funcNamed Rows.officeOrdersRow.func=some 11:=by kernel_rfl
theorem officeOrders_inst:Tryz.f11.isInstance Tryz.prog Rows.officeOrdersRow.origin Rows.officeOrdersRow.targs:=of_decide_eq_true (by kernel_rfl)
set_option maxHeartbeats 4000000 in
theorem officeOrders_row:Rows.OfficeOrdersSaid :=
 OpenClaim.holds_of_wide 11 Tryz.f11 rfl rfl rfl rfl rfl rfl rfl ⟨rfl,rfl,rfl,rfl,rfl⟩ rfl rfl rfl rfl rfl officeOrders_named Tryz.func11 officeOrders_closed
  officeOrders_inst officeOrders_wrap
  (fun os started H enc _=>officeOrders_lifted os started H enc)
theorem officeOrders_wfT:Rows.officeOrdersRow.wfByText (OpenSpec.ofChange Rows.officeOrdersSpec)=true:=by kernel_rfl
theorem office_main:Tryz.pinned.checked.prog.mainIs=some (true,"5a9a52965f4185065c0d39a39ec58f829537e604a07fc4f1dbce9d7d2d17f592".toList):=by kernel_rfl
theorem office_looks:true=Tryz.pinned.checked.prog.looks []:=by kernel_rfl
theorem officeOrders_goes:false=Rows.officeOrdersRow.goesBy Tryz.pinned.checked.prog:=by kernel_rfl
theorem officeOrders_stand:([32,33].all fun u=>!Tryz.prog.wantsStandIn u)=true:=by kernel_rfl
set_option maxHeartbeats 4000000 in
theorem officeOrders_holds:Rows.OfficeOrdersCardSaid :=
 Claim7.holds_tied_plain_at .later [] [.data,.data,.data,.handle,.pinned] true (true,"5a9a52965f4185065c0d39a39ec58f829537e604a07fc4f1dbce9d7d2d17f592") true
  officeOrders_row (fun _ h=>by cases h) officeOrders_wfT (fun _ h=>by cases h) officeOrders_row_tie rfl ⟨rfl,rfl⟩ office_main rfl
  (fun f fn hf hfn=>by
   obtain rfl:f=11:=Option.some.inj (officeOrders_named.symm.trans hf) |>.symm
   obtain rfl:fn=Tryz.f11:=(Option.some.inj (Tryz.func11.symm.trans hfn)).symm
   exact ⟨office_looks,fun j t ht=>by
    rw [Tryz.params11] at ht
    have hm:t ∈ [32,33]:=by simpa using Array.mem_of_getElem? ht
    exact (show Tryz.prog.wantsStandIn t=false by simpa using List.all_eq_true.1 officeOrders_stand t hm)⟩)
  officeOrders_goes
end Go.Proofs.YtiapkffihpgdcaaGreatDoor
