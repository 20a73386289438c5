import Derived.Test.YtiapkffihpgdcaaGreatDoorQC1
import Derived.Test.YtiapkffihpgdcaaGreatDoorQC2
import Derived.Test.YtiapkffihpgdcaaGreatDoorQC3
import Derived.Test.YtiapkffihpgdcaaGreatDoorQC4
import Derived.Test.YtiapkffihpgdcaaGreatDoorQC5
import Derived.Test.YtiapkffihpgdcaaGreatDoorQC6
import Derived.Test.YtiapkffihpgdcaaGreatDoorQC7
import Derived.Test.YtiapkffihpgdcaaGreatDoorQC8
import Derived.Test.YtiapkffihpgdcaaGreatDoorQC9
import Derived.Test.YtiapkffihpgdcaaGreatDoorQC10
import Derived.Test.YtiapkffihpgdcaaGreatDoorQC11
import Derived.Test.YtiapkffihpgdcaaGreatDoorQC12
import Derived.Test.YtiapkffihpgdcaaGreatDoorQC13
import Derived.Test.YtiapkffihpgdcaaGreatDoorQC14
import Derived.Test.YtiapkffihpgdcaaGreatDoorQC15
import Derived.Test.YtiapkffihpgdcaaGreatDoorQC16
import Derived.Test.YtiapkffihpgdcaaGreatDoorQC17
import Derived.Test.YtiapkffihpgdcaaGreatDoorQC18
import Derived.Test.YtiapkffihpgdcaaGreatDoorQC19
import Derived.Test.YtiapkffihpgdcaaGreatDoorQC20
import Derived.Test.YtiapkffihpgdcaaGreatDoorQC21
import Derived.Test.YtiapkffihpgdcaaGreatDoorQC22
import Derived.Test.YtiapkffihpgdcaaGreatDoorQC23
import Derived.Test.YtiapkffihpgdcaaGreatDoorQC24
import Derived.Test.YtiapkffihpgdcaaGreatDoorQC25
import Derived.Test.YtiapkffihpgdcaaGreatDoorQC26
import Derived.Test.YtiapkffihpgdcaaGreatDoorQC27
import Derived.Test.YtiapkffihpgdcaaGreatDoorQC28
import Derived.Test.YtiapkffihpgdcaaGreatDoorQC29
import Derived.Test.YtiapkffihpgdcaaGreatDoorQC30
import Derived.Test.YtiapkffihpgdcaaGreatDoorQC31
import Derived.IntWalk
import Derived.ScopeJumps
import Derived.WalkMore
import Derived.StillTailTactics
import Derived.BigRegion
set_option linter.unusedVariables false
set_option linter.unusedSimpArgs false
set_option maxRecDepth 100000
namespace Go.Proofs.YtiapkffihpgdcaaGreatDoor
open Go.RowKit Go.Sort
set_option maxHeartbeats 12800000 in
theorem main_OfficeCancels {f:Fi}{w:World}(hf:f.In w)(hE:EnvA w)(l:List Wd)(A:Option Addr)(c:Nat)(hR:RS w A l)(hll:l.length≤9223372036854775807)(bf:Int)(c0 d:Nat)(h:lrg f.t f.b=false)(h':lng l=false)(hz:f.e=0)(hbf:0≤bf∧bf≤4000){S:Of}(hS:S=runTo f.s0 l (min l.length 30))(hdd:d<S.days)(hd9:d<1000)(at0:Int)(hat:at0=d*1440-bf)(hmn:0≤S.menu d)(hno:S.now≤at0)(ha2:at0≤1440000)(hfl:S.facts.length<60)(hol:S.orders.length+2≤200)(a0:Nat)(ha0:at0=a0){DA DC DD DE TA TC C1 C2 C3 C4:Wd}(ct:CanT w a0 c0 d DA DC DD DE TA TC C1 C2 C3 C4){S1 S2:Of}{DR D2 KK:Int}(cs:CanS S S1 S2 (min l.length 30) c0 d bf TA TC DR D2 KK) :
  Calls Tryz.prog 16 #[.agg f.cells,.slice A l.length c,.agg #[.int .i64 c0,.int .i64 d,.int .i64 bf]] w fun e w'=>e=.returned (.bool true)∧Below w.heap.size w w':=by
 unfold Fi.cells
 obtain ⟨w2,hw2⟩:∃w2,(w.alloc (.cells #[.int .i64 f.t.len,.slice f.A1 f.t.rest.length f.c1,.slice f.A2 f.t.clo.length f.c2,.int .i64 f.c.n,.int .i64 f.c.f,.int .i64 f.c.k,.int .i64 f.b.props,.slice f.B1 f.b.items.length f.d1,.slice f.B2 f.b.rules.length f.d2] 32)).alloc (.cells #[.int .i64 c0,.int .i64 d,.int .i64 bf] 106)=w2:=⟨_,rfl⟩
 have hy:Below w.heap.size w w2:=by rw [← hw2];exact ((Below.refl _ w).alloc (Nat.le_refl _) _).alloc (by simp) _
 have b0:Box w2 w.heap.size #[.int .i64 f.t.len,.slice f.A1 f.t.rest.length f.c1,.slice f.A2 f.t.clo.length f.c2,.int .i64 f.c.n,.int .i64 f.c.f,.int .i64 f.c.k,.int .i64 f.b.props,.slice f.B1 f.b.items.length f.d1,.slice f.B2 f.b.rules.length f.d2]:=by rw [← hw2];exact (Box.new w _ _).alloc _
 have b1:Box w2 (w.heap.size+1) #[.int .i64 c0,.int .i64 d,.int .i64 bf]:=by rw [← hw2];exact (Box.new (w.alloc _) _ _).at' (by simp)
 have HL:=Lib.hid (large_any f.t f.c f.b (fun _=>True) f.A1 f.A2 f.B1 f.B2 f.c1 f.c2 f.d1 f.d2 f.hp f.hq f.hr w2 (hf.below hy).bk)
 have HO:=Lib.hid (fun (w':World) (hb:Below w2.heap.size w2 w')=>olong_any l A c w' hll ((hR.below hy).below hb))
 have x0:=b0.cell 0;have x1:=b0.cell 1;have x2:=b0.cell 2;have x3:=b0.cell 3;have x4:=b0.cell 4;have x5:=b0.cell 5;have x6:=b0.cell 6;have x7:=b0.cell 7;have x8:=b0.cell 8;simp only [gqA,gqB,gqC] at x0 x1 x2 x3 x4 x5 x6 x7 x8
 rw [h] at HL
 rw [h'] at HO
 have hlen:=lrg_len h
 have htlen:=lrg_tlen h hz
 have hng:=h'
 have HB:=Lib.hid (fun (w':World) (hb:Below w.heap.size w w')=>begin_ok (hf.below hb) hlen (hE.below hb) hz)
 have HX:=Lib.hid (fun (w':World) (hb:Below w.heap.size w w')=>both_ok9 (hf.below hb) hlen (hE.below hb) hz l A c (hR.below hb) hng)
 unfold Fi.cells at HB HX
 rw [← hS] at HX
 have i1:decide (bf<0)=false:=by rw [decide_eq_false_iff_not];omega
 have i2:decide (4000<bf)=false:=by rw [decide_eq_false_iff_not];omega
 have m1:RowKit.wrap64 ((d:Int)*1440)=(d:Int)*1440:=IntWalk.wrap64_in _ (by omega)
 have m2:RowKit.wrap64 ((d:Int)*1440-bf)=at0:=by rw [hat];exact IntWalk.wrap64_in _ (by omega)
 have j1:¬ ((d:Int)<0):=by omega
 have j2:¬ ((S.days:Int)≤(d:Int)):=by omega
 have j2n:¬ (S.days≤d):=by omega
 have j6:¬ (60≤(S.facts.length:Int)):=by omega
 have j6n:¬ (60≤S.facts.length):=by omega
 have j8:¬ (200<(S.orders.length:Int)+2):=by omega
 have j8n:¬ (200<S.orders.length+2):=by omega
 have g7:RowKit.wrap64 ((S.orders.length:Int)+2)=(S.orders.length:Int)+2:=IntWalk.wrap64_in _ (by omega)
 have g1:decide ((d:Int)<0)=false:=decide_eq_false j1
 have g2:decide ((S.days:Int)≤(d:Int))=false:=decide_eq_false j2
 have g2n:decide (S.days≤d)=false:=decide_eq_false j2n
 have g4:decide (at0<S.now)=false:=decide_eq_false (Int.not_lt.2 hno)
 have g5:decide (1440000<at0)=false:=decide_eq_false (Int.not_lt.2 ha2)
 have g6:decide (60≤(S.facts.length:Int))=false:=decide_eq_false j6
 have g6n:decide (60≤S.facts.length)=false:=decide_eq_false j6n
 have g8:decide (200<(S.orders.length:Int)+2)=false:=decide_eq_false j8
 have g8n:decide (200<S.orders.length+2)=false:=decide_eq_false j8n
 have HAT:=Lib.hid hat
 have HA0:=Lib.hid ha0
 clear hat ha0 j1 j2 j2n j6 j6n j8 j8n
 clear hz h h' hS hng hbf
 go_enter Tryz.func16,Tryz.ntmps16
 go_wp2_with (first
  | (go_at_call 34;(with_reducible refine HL.out.mono ?_);rintro e w3 ⟨rfl,hb3⟩;have b3:=b0.below hb3;have hy3:=hy.trans (hb3.mono hy.size);have y0:=b3.cell 0;have y1:=b3.cell 1;have y2:=b3.cell 2;have y3:=b3.cell 3;have y4:=b3.cell 4;have y5:=b3.cell 5;have y6:=b3.cell 6;have y7:=b3.cell 7;have y8:=b3.cell 8;simp only [gqA,gqB,gqC] at y0 y1 y2 y3 y4 y5 y6 y7 y8;have e3:=b1.below hb3)
  | (go_at_call 35;(with_reducible refine (HO.out _ hb3).mono ?_);rintro e w4 ⟨rfl,hb4⟩;have b4:=b3.below hb4;have hy4:=hy3.trans (hb4.mono hy3.size);have z0:=b4.cell 0;have z1:=b4.cell 1;have z2:=b4.cell 2;have z3:=b4.cell 3;have z4:=b4.cell 4;have z5:=b4.cell 5;have z6:=b4.cell 6;have z7:=b4.cell 7;have z8:=b4.cell 8;simp only [gqA,gqB,gqC] at z0 z1 z2 z3 z4 z5 z6 z7 z8;have e4:=e3.below hb4;have k0:=e4.cell 0;have k1:=e4.cell 1;have k2:=e4.cell 2;simp only [gqA,gqB,gqC] at k0 k1 k2)
  | (go_at_call 36;(with_reducible refine (HB.out _ hy4).mono ?_);rintro e w5 ⟨g,x,rfl,hd⟩;have b5:=b4.below hd.bel;have hy5:=hy4.trans (hd.bel.mono hy4.size);have e5:=e4.below hd.bel;have v0:=b5.cell 0;have v1:=b5.cell 1;have v2:=b5.cell 2;have v3:=b5.cell 3;have v4:=b5.cell 4;have v5:=b5.cell 5;have v6:=b5.cell 6;have v7:=b5.cell 7;have v8:=b5.cell 8;simp only [gqA,gqB,gqC] at v0 v1 v2 v3 v4 v5 v6 v7 v8)
  | (go_at_call 38;(with_reducible refine (HX.out _ hy5).mono ?_);rintro e w6 ⟨gg,xx,rfl,hd6⟩;have hy6:=hy5.trans (hd6.bel.mono hy5.size);have e6:=e5.below hd6.bel;have p0:=e6.cell 0;have p1:=e6.cell 1;have p2:=e6.cell 2;simp only [gqA,gqB,gqC] at p0 p1 p2))
 rw [m2]
 clear x0 x1 x2 x3 x4 x5 x6 x7 x8 y0 y1 y2 y3 y4 y5 y6 y7 y8 z0 z1 z2 z3 z4 z5 z6 z7 z8 v0 v1 v2 v3 v4 v5 v6 v7 v8 k0 k1 k2 HL HO HB HX hw2
 have xn:=hd6.xnow
 have xo:=hd6.xord
 obtain ⟨MA,Mc,xm,rM⟩:=hd6.xmn
 obtain ⟨FA,Fc,xf,hfc,rF⟩:=hd6.xfa
 obtain ⟨ma,rfl,hmb,m0⟩:=rM.at_ (k:=d) (by rw [mnL_len];exact hdd)
 rw [mnL_gi S hdd] at m0
 obtain ⟨MV,hMV⟩:∃MV,MV=S.menu d:=⟨_,rfl⟩
 rw [← hMV] at m0 hmn
 have g3:decide (MV<0)=false:=decide_eq_false (Int.not_lt.2 hmn)
 clear hMV
 have p0':=p0;have p1':=p1;have xn':=xn
 have r_p1:=cell_regrown p1;have r_xm:=cell_regrown xm;have r_m0:=cell_regrown m0;have r_xn:=cell_regrown xn;have r_xf:=cell_regrown xf;have r_xo:=cell_regrown xo
 clear p1 xm m0 xn xf xo
 refine wp_region_quiet_below (by kernel_rfl) (by kernel_rfl) ?_
 repeat (go_big_quiet_step (fail))
 refine wpQuiet_nil ?_
 intro _ hw'
 obtain ⟨⟨dq,osq⟩,hw''⟩:=hw'
 subst hw''
 have hyq:=(below_regrown w6 dq osq)
 obtain ⟨w7,hw7⟩:∃w7,w7=grow (redrawn w6 dq) osq:=⟨_,rfl⟩
 rw [← hw7] at hyq ⊢
 have hd7:=hd6.below hyq
 have hy7:=hy6.trans (hyq.mono hy6.size)
 have e7:=e6.below hyq
 have xn7:=hd7.xnow
 have p0:=(hyq.cell (p:=⟨w.heap.size+1,0,none⟩) e6.lt).trans p0'
 have p1:=(hyq.cell (p:=⟨w.heap.size+1,1,none⟩) e6.lt).trans p1'
 clear r_p1 r_xm r_m0 r_xn r_xf r_xo hw7 p0' p1' xn' hyq
 go_wp2_with fail
 have HCC:=Lib.hid cs.cc
 have HF:=Lib.hid (fun (w':World) (hb:Below w7.heap.size w7 w')=>(hd7.below hb).facts)
 have HKN:=Lib.hid (fun (A0:Option Addr) (cp:Nat) (hc:S.facts.length≤cp) (w':World) (hr:RF w' w'.heap.size A0 S.facts)=>knownX_any S.facts S.now c0 d (by omega) A0 cp _ hc w' hr)
 rw [cs.ask] at HKN
 rw [cs.kr] at HKN
 have hw1:=e7.lt
 have hlx:=World.block_lt_of_cell? w7 _ xn7
 have XN:=Lib.hid xn7;have P0:=Lib.hid p0;have P1:=Lib.hid p1
 go_cut [14,15] (fun v e wx=>v=.int .i64 1∧e=.int .i64 0∧Below w7.heap.size w7 wx)
 case first =>
  as_aux_lemma =>
  go_region_held3 (fun w'=>w'.cell? ⟨xx,10,none⟩=some (.int .i64 S.now)∧w'.cell? ⟨w.heap.size+1,0,none⟩=some (.int .i64 c0)∧w'.cell? ⟨w.heap.size+1,1,none⟩=some (.int .i64 d))
   (first | exact ⟨xn7,p0,p1⟩ | exact ⟨r0,r1,r2⟩ | exact ⟨s0,s1,s2⟩)
   (first
    | (go_at_call 24;(with_reducible refine (HF.out _ (Below.refl w7.heap.size w7).drew).mono ?_);rintro e w8 ⟨FB,Fd,rfl,hfd,rfB,hb8⟩;have c8:=(Below.refl w7.heap.size w7).drew.trans hb8;have r0:=(c8.cell (p:=⟨xx,10,none⟩) hlx).trans XN.out;have r1:=(c8.cell (p:=⟨w.heap.size+1,0,none⟩) hw1).trans P0.out;have r2:=(c8.cell (p:=⟨w.heap.size+1,1,none⟩) hw1).trans P1.out)
    | (go_at_call 58;rw [← HCC.out];(with_reducible refine (HKN.out FB Fd hfd _ rfB).mono ?_);rintro e w9 ⟨rfl,hb9⟩;have c9:=c8.trans (hb9.mono c8.size);have s0:=(c9.cell (p:=⟨xx,10,none⟩) hlx).trans XN.out;have s1:=(c9.cell (p:=⟨w.heap.size+1,0,none⟩) hw1).trans P0.out;have s2:=(c9.cell (p:=⟨w.heap.size+1,1,none⟩) hw1).trans P1.out))
  all_goals
   go_wp2_with fail
   go_meet
   exact ⟨rfl,rfl,c9⟩
 case rest =>
 as_aux_lemma =>
 obtain ⟨rfl,rfl,c9⟩:=hcut
 obtain ⟨w9,hw9⟩:∃w9,w9=wc:=⟨_,rfl⟩
 rw [← hw9] at c9 ⊢
 clear hw9 HF HKN xn7 p0 p1 XN P0 P1
 have hd9:=hd7.below c9
 have e9:=e7.below c9
 have s1:=e9.cell 0;have s2:=e9.cell 1
 simp only [gqA,gqB,gqC] at s1 s2
 have hy9:=hy7.trans (c9.mono hy7.size)
 have HDU:=hd9.due c0
 rw [cs.e0,cs.r0] at HDU
 have HDU:=Lib.hid HDU
 go_wp2_with (go_at_call 29;(with_reducible refine HDU.out.mono ?_);rintro e wD ⟨rfl,hbD⟩)
 have hyD:=hy9.trans (hbD.mono hy9.size)
 have dD:=hd9.below hbD
 have eD:=e9.below hbD
 have dE:=dD.below (Below.refl wD.heap.size wD).drew
 have hyE:=hyD.drew
 have q0:=eD.cell 0;have q1:=eD.cell 1
 simp only [gqA,gqB,gqC] at q0 q1
 have hlt1:=e5.lt
 have z0:=e5.cell 0;have z1:=e5.cell 1
 simp only [gqA,gqB,gqC] at z0 z1
 have T0:=Lib.hid z0;have T1:=Lib.hid z1
 clear z0 z1
 have hIa:=ct.iA
 rw [← HA0.out] at hIa
 have HIa:=Lib.hid hIa
 clear hIa
 have kA:=ct.kA;have kB:=ct.kB;have kC:=ct.kC;have kD:=ct.kD;have kE:=ct.kE;have kF:=ct.kF
 have uA:=ct.uA;have uB:=ct.uB;have uC:=ct.uC;have uD:=ct.uD;have uE:=ct.uE;have uF:=ct.uF
 have m5:=cs.m5;have m6:=cs.m6
 go_cut [179] (fun v wx=>v=.bool false∧DN w5 (min l.length 30+1+1) gg xx S2 S wx)
 case first =>
  as_aux_lemma =>
  go_region_held3 (fun w'=>w'.cell? ⟨w.heap.size+1,0,none⟩=some (.int .i64 c0)∧w'.cell? ⟨w.heap.size+1,1,none⟩=some (.int .i64 d))
   (first | exact ⟨q0,q1⟩ | exact ⟨t0,t1⟩)
   (first
    | (go_at_call 59;(with_reducible refine (HIa.out _ hyE).mono ?_);rintro e wA ⟨rfl,hbA⟩;have dA:=dE.below hbA;have hyA:=hy5.trans (dA.bel.mono hy5.size);have t0:=(dA.bel.cell (p:=⟨w.heap.size+1,0,none⟩) hlt1).trans T0.out;have t1:=(dA.bel.cell (p:=⟨w.heap.size+1,1,none⟩) hlt1).trans T1.out)
    | (go_at_call 25;(with_reducible refine (dA.into cs.n1 TA ct.lA cs.z1 cs.s1).mono ?_);rintro e wB ⟨rfl,dB⟩;have hyB:=hy5.trans (dB.bel.mono hy5.size);have t0:=(dB.bel.cell (p:=⟨w.heap.size+1,0,none⟩) hlt1).trans T0.out;have t1:=(dB.bel.cell (p:=⟨w.heap.size+1,1,none⟩) hlt1).trans T1.out)
    | (go_at_call 59;(with_reducible refine (ct.iC _ hyB).mono ?_);rintro e wC ⟨rfl,hbC⟩;have dC:=dB.below hbC;have hyC:=hy5.trans (dC.bel.mono hy5.size);have t0:=(dC.bel.cell (p:=⟨w.heap.size+1,0,none⟩) hlt1).trans T0.out;have t1:=(dC.bel.cell (p:=⟨w.heap.size+1,1,none⟩) hlt1).trans T1.out)
    | (go_at_call 59;(with_reducible refine (ct.iD _ hyC).mono ?_);rintro e wF ⟨rfl,hbF⟩;have dF:=dC.below hbF;have hyF:=hy5.trans (dF.bel.mono hy5.size);have t0:=(dF.bel.cell (p:=⟨w.heap.size+1,0,none⟩) hlt1).trans T0.out;have t1:=(dF.bel.cell (p:=⟨w.heap.size+1,1,none⟩) hlt1).trans T1.out)
    | (go_at_call 59;(with_reducible refine (ct.iE _ hyF).mono ?_);rintro e wG ⟨rfl,hbG⟩;have dG:=dF.below hbG;have hyG:=hy5.trans (dG.bel.mono hy5.size);have t0:=(dG.bel.cell (p:=⟨w.heap.size+1,0,none⟩) hlt1).trans T0.out;have t1:=(dG.bel.cell (p:=⟨w.heap.size+1,1,none⟩) hlt1).trans T1.out)
    | (go_at_call 25;(with_reducible refine (dG.into cs.n2 TC ct.lC cs.z2 cs.s2).mono ?_);rintro e wH ⟨rfl,dH⟩;have t0:=(dH.bel.cell (p:=⟨w.heap.size+1,0,none⟩) hlt1).trans T0.out;have t1:=(dH.bel.cell (p:=⟨w.heap.size+1,1,none⟩) hlt1).trans T1.out))
  all_goals
   go_wp2_with fail
   go_meet
   exact ⟨rfl,dH⟩
 case rest =>
 as_aux_lemma =>
 obtain ⟨rfl,dH⟩:=hcut
 obtain ⟨wH,hwH⟩:∃wH,wH=wc:=⟨_,rfl⟩
 rw [← hwH] at dH ⊢
 clear hwH kA kB kC kD kE kF uA uB uC uD uE uF m5 m6 q0 q1 HIa T0 T1 dE hyE eD dD hyD hbD HDU
 have eH:=e5.below dH.bel
 have h0:=eH.cell 0
 simp only [gqA,gqB,gqC] at h0
 have HDU:=dH.due c0
 rw [cs.e2,cs.r2] at HDU
 have HDU:=Lib.hid HDU
 go_wp2_with (go_at_call 29;(with_reducible refine HDU.out.mono ?_);rintro e wK ⟨rfl,hbK⟩)
 have dK:=dH.below hbK
 have hyK:=hy5.trans (dK.bel.mono hy5.size)
 have eK:=e5.below dK.bel
 obtain ⟨RA,Rc,xr,rR⟩:=dK.xri
 obtain ⟨FB,Fd,xg,hfd,rG⟩:=dK.xfa
 have hrx:=World.block_lt_of_cell? wK _ xr
 clear HDU h0 dH eH hbK
 have hrl:=cs.rl
 go_loopw [20,21] (fun fv v wr=>∃k:Nat,k≤S.rights.length∧v=.int .i64 k∧fv=.bool (frTo S.rights c0 d k)∧Below wK.heap.size wK wr) (fun _ v _=>S.rights.length-(intOf v).toNat)
 case atStart=>exact ⟨0,by omega,rfl,rfl,Below.refl _ _⟩
 case round =>
  obtain ⟨k,hk,rfl,rfl,hb⟩:=hrel
  have y0:=(hb.cell (p:=⟨xx,14,none⟩) hrx).trans xr
  have er:=eK.below hb
  by_cases hlt:k<S.rights.length
  ·as_aux_lemma =>
   obtain ⟨ad,rfl,hab,q0,q1,q2⟩:=(rR.below hb).at_ hlt
   have hst:frTo S.rights c0 d (k+1)=(frTo S.rights c0 d k || tellN (gs S.rights k).fr (gs S.rights k).un (gs S.rights k).me c0 d):=rfl
   obtain ⟨fr,hfr⟩:∃fr,fr=(gs S.rights k).fr:=⟨_,rfl⟩
   obtain ⟨un,hun⟩:∃un,un=(gs S.rights k).un:=⟨_,rfl⟩
   obtain ⟨me,hme⟩:∃me,me=(gs S.rights k).me:=⟨_,rfl⟩
   rw [← hfr] at q0 hst
   rw [← hun] at q1 hst
   rw [← hme] at q2 hst
   obtain ⟨B,hB⟩:∃B,B=frTo S.rights c0 d k:=⟨_,rfl⟩
   rw [← hB] at hst ⊢
   clear hfr hun hme hB
   obtain ⟨w5',hw5⟩:∃w5',wr.alloc (.cells #[.int .i64 fr,.int .i64 un,.int .i64 me] 110)=w5':=⟨_,rfl⟩
   have hb5:Below wr.heap.size wr w5':=by rw [← hw5];exact (Below.refl _ wr).alloc (Nat.le_refl _) _
   have b5:Box w5' wr.heap.size #[.int .i64 fr,.int .i64 un,.int .i64 me]:=by rw [← hw5];exact (Box.new wr _ _)
   have g0:=b5.cell 0;have g1':=b5.cell 1;have g2':=b5.cell 2
   have er5:=er.below hb5
   have j0:=er5.cell 0;have j1:=er5.cell 1
   simp only [gqA,gqB,gqC] at g0 g1' g2' j0 j1
   have hbl:=hb.trans (hb5.mono hb.size)
   cases B with
   | true =>
    have HN:Hid (frTo S.rights c0 d (k+1)=true):=by show _=_;rw [hst];rfl
    clear hst
    go_wp2_with fail
    go_roundw
    case rel=>exact ⟨k+1,by omega,by go_num,by rw [HN.out],hbl⟩
    case measure=>simp [intOf];omega
   | false =>
    have HN:Hid (frTo S.rights c0 d (k+1)=decide (fr=(c0:Int)∧un≤(d:Int)∧(d:Int)<me)):=by show _=_;rw [hst];rfl
    clear hst
    by_cases p1:fr=(c0:Int)
    ·have p1':(fr == (c0:Int))=true:=by simp [p1]
     by_cases p2:un≤(d:Int)
     ·have p2':decide (un≤(d:Int))=true:=decide_eq_true p2
      by_cases p3:(d:Int)<me
      ·have p3':decide ((d:Int)<me)=true:=decide_eq_true p3
       have HM:Hid (frTo S.rights c0 d (k+1)=true):=by show _=_;rw [HN.out];exact decide_eq_true ⟨p1,p2,p3⟩
       clear p1 p2 p3 HN
       go_wp2_with fail
       go_roundw
       case rel=>exact ⟨k+1,by omega,by go_num,by rw [HM.out],hbl⟩
       case measure=>simp [intOf];omega
      ·have p3':decide ((d:Int)<me)=false:=decide_eq_false p3
       have HM:Hid (frTo S.rights c0 d (k+1)=false):=by show _=_;rw [HN.out];exact decide_eq_false (fun h=>p3 h.2.2)
       clear p1 p2 p3 HN
       go_wp2_with fail
       go_roundw
       case rel=>exact ⟨k+1,by omega,by go_num,by rw [HM.out],hbl⟩
       case measure=>simp [intOf];omega
     ·have p2':decide (un≤(d:Int))=false:=decide_eq_false p2
      have HM:Hid (frTo S.rights c0 d (k+1)=false):=by show _=_;rw [HN.out];exact decide_eq_false (fun h=>p2 h.2.1)
      clear p1 p2 HN
      go_wp2_with fail
      go_roundw
      case rel=>exact ⟨k+1,by omega,by go_num,by rw [HM.out],hbl⟩
      case measure=>simp [intOf];omega
    ·have p1':(fr == (c0:Int))=false:=by simp [p1]
     have HM:Hid (frTo S.rights c0 d (k+1)=false):=by show _=_;rw [HN.out];exact decide_eq_false (fun h=>p1 h.1)
     clear p1 HN
     go_wp2_with fail
     go_roundw
     case rel=>exact ⟨k+1,by omega,by go_num,by rw [HM.out],hbl⟩
     case measure=>simp [intOf];omega
  ·as_aux_lemma =>
   obtain rfl:k=S.rights.length:=by omega
   have j0:=er.cell 0;have j1:=er.cell 1;have j2:=er.cell 2
   simp only [gqA,gqB,gqC] at j0 j1 j2
   have hyr:=hyK.trans (hb.mono hyK.size)
   have HV:Hid (D2=if frTo S.rights c0 d S.rights.length=false∧¬ (bf<1440∧KK=1) then DR-100 else DR):=by have h:=cs.v;unfold freeB at h;exact h
   obtain ⟨B,hB⟩:∃B,B=frTo S.rights c0 d S.rights.length:=⟨_,rfl⟩
   rw [← hB] at HV ⊢
   clear hB
   have n1:=cs.b1;have n1b:=cs.b2
   by_cases h24:bf<1440
   ·as_aux_lemma =>
    have i4:decide (bf<1440)=true:=decide_eq_true h24
    have hlx:=Nat.lt_of_lt_of_le hrx hb.size
    have hw1:=er.lt
    have xg':=(hb.cell (p:=⟨xx,13,none⟩) hrx).trans xg
    have rGr:=RF.below rG hb
    have HKN:=Lib.hid (fun (w':World) (hb':Below wr.heap.size wr w')=>knownX_any S.facts ((d:Int)*1440-1440) c0 d (by omega) FB Fd _ hfd w' (RF.below rGr hb'))
    rw [cs.ask,cs.kk] at HKN
    have n2:=cs.w1;have n3:=cs.w2;have n4:=cs.w3;have n5:=cs.w4
    have X0:=Lib.hid xg';have J0:=Lib.hid j0;have J1:=Lib.hid j1
    clear rG rGr hb hlt xr xg rR
    go_wp2_with fail
    go_cut [23] (fun v wx=>v=.int .i64 KK∧Below wr.heap.size wr wx)
    case first =>
     go_region_held3 (fun w'=>w'.cell? ⟨xx,13,none⟩=some (.slice FB S.facts.length Fd)∧w'.cell? ⟨w.heap.size+1,0,none⟩=some (.int .i64 c0)∧w'.cell? ⟨w.heap.size+1,1,none⟩=some (.int .i64 d))
      (first | exact ⟨xg',j0,j1⟩ | exact ⟨s0,s1,s2⟩)
      (first | (go_at_call 58;(with_reducible refine (HKN.out _ (Below.refl wr.heap.size wr).drew).mono ?_);rintro e w9 ⟨rfl,hb9⟩;have c9:=(Below.refl wr.heap.size wr).drew.trans hb9;have s0:=(c9.cell (p:=⟨xx,13,none⟩) hlx).trans X0.out;have s1:=(c9.cell (p:=⟨w.heap.size+1,0,none⟩) hw1).trans J0.out;have s2:=(c9.cell (p:=⟨w.heap.size+1,1,none⟩) hw1).trans J1.out))
     all_goals
      go_wp2_with fail
      go_meet
      exact ⟨rfl,c9⟩
    case rest =>
    obtain ⟨rfl,c9⟩:=hcut
    have hyt:=hyr.trans (c9.mono hyr.size)
    cases B with
    | true =>
     have hv:D2=DR:=by rw [HV.out,if_neg (by rintro ⟨h,_⟩;cases h)]
     have hv':(D2 == DR)=true:=by simp [hv]
     clear hv HV
     go_wp2_with (go_at_call 31;(with_reducible refine (oknown_any (hE.below hyt)).mono ?_);rintro e wk ⟨rfl,hbk⟩)
     go_ret
     exact ⟨rfl,hyt.trans (hbk.mono hyt.size)⟩
    | false =>
     by_cases hK:KK=1
     ·have hK':(KK != 1)=false:=by simp [hK]
      have hv:D2=DR:=by rw [HV.out,if_neg (fun h=>h.2 ⟨h24,hK⟩)]
      have hv':(D2 == DR)=true:=by simp [hv]
      clear hv HV hK
      go_wp2_with (go_at_call 31;(with_reducible refine (oknown_any (hE.below hyt)).mono ?_);rintro e wk ⟨rfl,hbk⟩)
      go_ret
      exact ⟨rfl,hyt.trans (hbk.mono hyt.size)⟩
     ·have hK':(KK != 1)=true:=by simp [hK]
      have hv:D2=DR-100:=by rw [HV.out,if_pos ⟨rfl,fun h=>hK h.2⟩]
      have hv':(D2 == DR-100)=true:=by simp [hv]
      clear hv HV hK
      go_wp2_with (go_at_call 31;(with_reducible refine (oknown_any (hE.below hyt)).mono ?_);rintro e wk ⟨rfl,hbk⟩)
      go_ret
      exact ⟨rfl,hyt.trans (hbk.mono hyt.size)⟩
   ·as_aux_lemma =>
    have i4:decide (bf<1440)=false:=decide_eq_false h24
    have hyt:=hyr
    clear hb hlt xr xg rR rG
    cases B with
    | true =>
     have hv:D2=DR:=by rw [HV.out,if_neg (by rintro ⟨h,_⟩;cases h)]
     have hv':(D2 == DR)=true:=by simp [hv]
     clear hv HV
     go_wp2_with (go_at_call 31;(with_reducible refine (oknown_any (hE.below hyt)).mono ?_);rintro e wk ⟨rfl,hbk⟩)
     go_ret
     exact ⟨rfl,hyt.trans (hbk.mono hyt.size)⟩
    | false =>
     have hv:D2=DR-100:=by rw [HV.out,if_pos ⟨rfl,fun h=>h24 h.1⟩]
     have hv':(D2 == DR-100)=true:=by simp [hv]
     clear hv HV
     go_wp2_with (go_at_call 31;(with_reducible refine (oknown_any (hE.below hyt)).mono ?_);rintro e wk ⟨rfl,hbk⟩)
     go_ret
     exact ⟨rfl,hyt.trans (hbk.mono hyt.size)⟩
end Go.Proofs.YtiapkffihpgdcaaGreatDoor
