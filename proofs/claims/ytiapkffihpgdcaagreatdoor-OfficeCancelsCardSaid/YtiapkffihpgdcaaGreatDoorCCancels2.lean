import Derived.Test.YtiapkffihpgdcaaGreatDoorQC1
import Derived.Test.YtiapkffihpgdcaaGreatDoorQC2
import Derived.Test.YtiapkffihpgdcaaGreatDoorQC3
import Derived.Test.YtiapkffihpgdcaaGreatDoorQC4
import Derived.Test.YtiapkffihpgdcaaGreatDoorQC5
import Derived.Test.YtiapkffihpgdcaaGreatDoorQC6
import Derived.Test.YtiapkffihpgdcaaGreatDoorQC7
import Derived.Test.YtiapkffihpgdcaaGreatDoorQC8
import Derived.Test.YtiapkffihpgdcaaGreatDoorQC9
import Derived.Test.YtiapkffihpgdcaaGreatDoorQC10
import Derived.Test.YtiapkffihpgdcaaGreatDoorQC11
import Derived.Test.YtiapkffihpgdcaaGreatDoorQC12
import Derived.Test.YtiapkffihpgdcaaGreatDoorQC13
import Derived.Test.YtiapkffihpgdcaaGreatDoorQC14
import Derived.Test.YtiapkffihpgdcaaGreatDoorQC15
import Derived.Test.YtiapkffihpgdcaaGreatDoorQC16
import Derived.Test.YtiapkffihpgdcaaGreatDoorQC17
import Derived.Test.YtiapkffihpgdcaaGreatDoorQC18
import Derived.Test.YtiapkffihpgdcaaGreatDoorQC19
import Derived.Test.YtiapkffihpgdcaaGreatDoorQC20
import Derived.Test.YtiapkffihpgdcaaGreatDoorQC21
import Derived.Test.YtiapkffihpgdcaaGreatDoorQC22
import Derived.Test.YtiapkffihpgdcaaGreatDoorQC23
import Derived.Test.YtiapkffihpgdcaaGreatDoorQC24
import Derived.Test.YtiapkffihpgdcaaGreatDoorQC25
import Derived.Test.YtiapkffihpgdcaaGreatDoorQC26
import Derived.Test.YtiapkffihpgdcaaGreatDoorQC27
import Derived.Test.YtiapkffihpgdcaaGreatDoorQC28
import Derived.Test.YtiapkffihpgdcaaGreatDoorQC29
import Derived.Test.YtiapkffihpgdcaaGreatDoorQC30
import Derived.Test.YtiapkffihpgdcaaGreatDoorQC31
import Derived.Test.YtiapkffihpgdcaaGreatDoorCCancels1
import Derived.IntWalk
import Derived.ScopeJumps
import Derived.WalkMore
import Derived.StillTailTactics
import Derived.BigRegion
set_option linter.unusedVariables false
set_option linter.unusedSimpArgs false
set_option maxRecDepth 100000
namespace Go.Proofs.YtiapkffihpgdcaaGreatDoor
open Go.RowKit Go.Sort
set_option maxHeartbeats 3200000 in
theorem had_OfficeCancels {f:Fi}{w:World}(hf:f.In w)(hE:EnvA w)(l:List Wd)(A:Option Addr)(c:Nat)(hR:RS w A l)(hll:l.length≤9223372036854775807)(ch bf:Int)(d:Nat)(h:lrg f.t f.b=false)(h':lng l=false)(hz:f.e=0)(hbf:0≤bf∧bf≤4000){S:Of}(hS:S=runTo f.s0 l (min l.length 30))(hdd:d<S.days)(hd9:d<1000)(at0:Int)(hat:at0=d*1440-bf)(hmn:0≤S.menu d)(hno:S.now≤at0)(ha2:at0≤1440000)(hfl:S.facts.length<60)(hol:S.orders.length+2≤200)(hx:hasK S.kids ch=false∨knownR S.facts S.now (max 0 (min ch 99)) d≠1) :
  Calls Tryz.prog 16 #[.agg f.cells,.slice A l.length c,.agg #[.int .i64 ch,.int .i64 d,.int .i64 bf]] w fun e w'=>e=.returned (.bool true)∧Below w.heap.size w w':=by
 unfold Fi.cells
 obtain ⟨w2,hw2⟩:∃w2,(w.alloc (.cells #[.int .i64 f.t.len,.slice f.A1 f.t.rest.length f.c1,.slice f.A2 f.t.clo.length f.c2,.int .i64 f.c.n,.int .i64 f.c.f,.int .i64 f.c.k,.int .i64 f.b.props,.slice f.B1 f.b.items.length f.d1,.slice f.B2 f.b.rules.length f.d2] 32)).alloc (.cells #[.int .i64 ch,.int .i64 d,.int .i64 bf] 106)=w2:=⟨_,rfl⟩
 have hy:Below w.heap.size w w2:=by rw [← hw2];exact ((Below.refl _ w).alloc (Nat.le_refl _) _).alloc (by simp) _
 have b0:Box w2 w.heap.size #[.int .i64 f.t.len,.slice f.A1 f.t.rest.length f.c1,.slice f.A2 f.t.clo.length f.c2,.int .i64 f.c.n,.int .i64 f.c.f,.int .i64 f.c.k,.int .i64 f.b.props,.slice f.B1 f.b.items.length f.d1,.slice f.B2 f.b.rules.length f.d2]:=by rw [← hw2];exact (Box.new w _ _).alloc _
 have b1:Box w2 (w.heap.size+1) #[.int .i64 ch,.int .i64 d,.int .i64 bf]:=by rw [← hw2];exact (Box.new (w.alloc _) _ _).at' (by simp)
 have HL:=Lib.hid (large_any f.t f.c f.b (fun _=>True) f.A1 f.A2 f.B1 f.B2 f.c1 f.c2 f.d1 f.d2 f.hp f.hq f.hr w2 (hf.below hy).bk)
 have HO:=Lib.hid (fun (w':World) (hb:Below w2.heap.size w2 w')=>olong_any l A c w' hll ((hR.below hy).below hb))
 have x0:=b0.cell 0;have x1:=b0.cell 1;have x2:=b0.cell 2;have x3:=b0.cell 3;have x4:=b0.cell 4;have x5:=b0.cell 5;have x6:=b0.cell 6;have x7:=b0.cell 7;have x8:=b0.cell 8;simp only [gqA,gqB,gqC] at x0 x1 x2 x3 x4 x5 x6 x7 x8
 rw [h] at HL
 rw [h'] at HO
 have hlen:=lrg_len h
 have htlen:=lrg_tlen h hz
 have hng:=h'
 have HB:=Lib.hid (fun (w':World) (hb:Below w.heap.size w w')=>begin_ok (hf.below hb) hlen (hE.below hb) hz)
 have HX:=Lib.hid (fun (w':World) (hb:Below w.heap.size w w')=>both_ok9 (hf.below hb) hlen (hE.below hb) hz l A c (hR.below hb) hng)
 unfold Fi.cells at HB HX
 rw [← hS] at HX
 have i1:decide (bf<0)=false:=by rw [decide_eq_false_iff_not];omega
 have i2:decide (4000<bf)=false:=by rw [decide_eq_false_iff_not];omega
 have m1:RowKit.wrap64 ((d:Int)*1440)=(d:Int)*1440:=IntWalk.wrap64_in _ (by omega)
 have m2:RowKit.wrap64 ((d:Int)*1440-bf)=at0:=by rw [hat];exact IntWalk.wrap64_in _ (by omega)
 have j1:¬ ((d:Int)<0):=by omega
 have j2:¬ ((S.days:Int)≤(d:Int)):=by omega
 have j2n:¬ (S.days≤d):=by omega
 have j6:¬ (60≤(S.facts.length:Int)):=by omega
 have j6n:¬ (60≤S.facts.length):=by omega
 have j8:¬ (200<(S.orders.length:Int)+2):=by omega
 have j8n:¬ (200<S.orders.length+2):=by omega
 have g7:RowKit.wrap64 ((S.orders.length:Int)+2)=(S.orders.length:Int)+2:=IntWalk.wrap64_in _ (by omega)
 have g1:decide ((d:Int)<0)=false:=decide_eq_false j1
 have g2:decide ((S.days:Int)≤(d:Int))=false:=decide_eq_false j2
 have g2n:decide (S.days≤d)=false:=decide_eq_false j2n
 have g4:decide (at0<S.now)=false:=decide_eq_false (Int.not_lt.2 hno)
 have g5:decide (1440000<at0)=false:=decide_eq_false (Int.not_lt.2 ha2)
 have g6:decide (60≤(S.facts.length:Int))=false:=decide_eq_false j6
 have g6n:decide (60≤S.facts.length)=false:=decide_eq_false j6n
 have g8:decide (200<(S.orders.length:Int)+2)=false:=decide_eq_false j8
 have g8n:decide (200<S.orders.length+2)=false:=decide_eq_false j8n
 have HAT:=Lib.hid hat
 clear hat j1 j2 j2n j6 j6n j8 j8n
 clear hz h h' hS hng hbf
 go_enter Tryz.func16,Tryz.ntmps16
 go_wp2_with (first
  | (go_at_call 34;(with_reducible refine HL.out.mono ?_);rintro e w3 ⟨rfl,hb3⟩;have b3:=b0.below hb3;have hy3:=hy.trans (hb3.mono hy.size);have y0:=b3.cell 0;have y1:=b3.cell 1;have y2:=b3.cell 2;have y3:=b3.cell 3;have y4:=b3.cell 4;have y5:=b3.cell 5;have y6:=b3.cell 6;have y7:=b3.cell 7;have y8:=b3.cell 8;simp only [gqA,gqB,gqC] at y0 y1 y2 y3 y4 y5 y6 y7 y8;have e3:=b1.below hb3)
  | (go_at_call 35;(with_reducible refine (HO.out _ hb3).mono ?_);rintro e w4 ⟨rfl,hb4⟩;have b4:=b3.below hb4;have hy4:=hy3.trans (hb4.mono hy3.size);have z0:=b4.cell 0;have z1:=b4.cell 1;have z2:=b4.cell 2;have z3:=b4.cell 3;have z4:=b4.cell 4;have z5:=b4.cell 5;have z6:=b4.cell 6;have z7:=b4.cell 7;have z8:=b4.cell 8;simp only [gqA,gqB,gqC] at z0 z1 z2 z3 z4 z5 z6 z7 z8;have e4:=e3.below hb4;have k0:=e4.cell 0;have k1:=e4.cell 1;have k2:=e4.cell 2;simp only [gqA,gqB,gqC] at k0 k1 k2)
  | (go_at_call 36;(with_reducible refine (HB.out _ hy4).mono ?_);rintro e w5 ⟨g,x,rfl,hd⟩;have b5:=b4.below hd.bel;have hy5:=hy4.trans (hd.bel.mono hy4.size);have e5:=e4.below hd.bel;have v0:=b5.cell 0;have v1:=b5.cell 1;have v2:=b5.cell 2;have v3:=b5.cell 3;have v4:=b5.cell 4;have v5:=b5.cell 5;have v6:=b5.cell 6;have v7:=b5.cell 7;have v8:=b5.cell 8;simp only [gqA,gqB,gqC] at v0 v1 v2 v3 v4 v5 v6 v7 v8)
  | (go_at_call 38;(with_reducible refine (HX.out _ hy5).mono ?_);rintro e w6 ⟨gg,xx,rfl,hd6⟩;have hy6:=hy5.trans (hd6.bel.mono hy5.size);have e6:=e5.below hd6.bel;have p0:=e6.cell 0;have p1:=e6.cell 1;have p2:=e6.cell 2;simp only [gqA,gqB,gqC] at p0 p1 p2))
 rw [m2]
 clear x0 x1 x2 x3 x4 x5 x6 x7 x8 y0 y1 y2 y3 y4 y5 y6 y7 y8 z0 z1 z2 z3 z4 z5 z6 z7 z8 v0 v1 v2 v3 v4 v5 v6 v7 v8 k0 k1 k2 HL HO HB HX hw2
 have xn:=hd6.xnow
 have xo:=hd6.xord
 obtain ⟨MA,Mc,xm,rM⟩:=hd6.xmn
 obtain ⟨FA,Fc,xf,hfc,rF⟩:=hd6.xfa
 obtain ⟨ma,rfl,hmb,m0⟩:=rM.at_ (k:=d) (by rw [mnL_len];exact hdd)
 rw [mnL_gi S hdd] at m0
 obtain ⟨MV,hMV⟩:∃MV,MV=S.menu d:=⟨_,rfl⟩
 rw [← hMV] at m0 hmn
 have g3:decide (MV<0)=false:=decide_eq_false (Int.not_lt.2 hmn)
 clear hMV
 have p0':=p0;have p1':=p1;have xn':=xn
 have r_p1:=cell_regrown p1;have r_xm:=cell_regrown xm;have r_m0:=cell_regrown m0;have r_xn:=cell_regrown xn;have r_xf:=cell_regrown xf;have r_xo:=cell_regrown xo
 clear p1 xm m0 xn xf xo
 refine wp_region_quiet_below (by kernel_rfl) (by kernel_rfl) ?_
 repeat (go_big_quiet_step (fail))
 refine wpQuiet_nil ?_
 intro _ hw'
 obtain ⟨⟨dq,osq⟩,hw''⟩:=hw'
 subst hw''
 have hyq:=(below_regrown w6 dq osq)
 obtain ⟨w7,hw7⟩:∃w7,w7=grow (redrawn w6 dq) osq:=⟨_,rfl⟩
 rw [← hw7] at hyq ⊢
 have hd7:=hd6.below hyq
 have hy7:=hy6.trans (hyq.mono hy6.size)
 have e7:=e6.below hyq
 have xn7:=hd7.xnow
 have p0:=(hyq.cell (p:=⟨w.heap.size+1,0,none⟩) e6.lt).trans p0'
 have p1:=(hyq.cell (p:=⟨w.heap.size+1,1,none⟩) e6.lt).trans p1'
 clear r_p1 r_xm r_m0 r_xn r_xf r_xo hw7 p0' p1' xn' hyq
 go_wp2_with fail
 have hfv:=hd6.ok.fv
 obtain ⟨CC,hCC⟩:∃CC:Int,CC=max 0 (min ch 99):=⟨_,rfl⟩
 rw [← hCC] at hx
 have hcc:0≤CC∧CC≤99:=by omega
 have HCC:=Lib.hid hCC
 clear hCC
 have HF:=Lib.hid (fun (w':World) (hb:Below w7.heap.size w7 w')=>(hd7.below hb).facts)
 have HKN:=Lib.hid (fun (A0:Option Addr) (cp:Nat) (hc:S.facts.length≤cp) (w':World) (hr:RF w' w'.heap.size A0 S.facts)=>knownX_any S.facts S.now CC d (by omega) A0 cp _ hc w' hr)
 rw [askE_of hfv hcc.1 hcc.2 (by omega) (by omega)] at HKN
 obtain ⟨KR,hKR⟩:∃KR,KR=knownR S.facts S.now CC d:=⟨_,rfl⟩
 rw [← hKR] at HKN hx
 clear hKR
 have hw1:=e7.lt
 have hlx:=World.block_lt_of_cell? w7 _ xn7
 have XN:=Lib.hid xn7;have P0:=Lib.hid p0;have P1:=Lib.hid p1
 go_cut [14,15] (fun v e wx=>v=.int .i64 KR∧e=.int .i64 0∧Below w7.heap.size w7 wx)
 case first =>
  go_region_held3 (fun w'=>w'.cell? ⟨xx,10,none⟩=some (.int .i64 S.now)∧w'.cell? ⟨w.heap.size+1,0,none⟩=some (.int .i64 ch)∧w'.cell? ⟨w.heap.size+1,1,none⟩=some (.int .i64 d))
   (first | exact ⟨xn7,p0,p1⟩ | exact ⟨r0,r1,r2⟩ | exact ⟨s0,s1,s2⟩)
   (first
    | (go_at_call 24;(with_reducible refine (HF.out _ (Below.refl w7.heap.size w7).drew).mono ?_);rintro e w8 ⟨FB,Fd,rfl,hfd,rfB,hb8⟩;have c8:=(Below.refl w7.heap.size w7).drew.trans hb8;have r0:=(c8.cell (p:=⟨xx,10,none⟩) hlx).trans XN.out;have r1:=(c8.cell (p:=⟨w.heap.size+1,0,none⟩) hw1).trans P0.out;have r2:=(c8.cell (p:=⟨w.heap.size+1,1,none⟩) hw1).trans P1.out)
    | (go_at_call 58;rw [← HCC.out];(with_reducible refine (HKN.out FB Fd hfd _ rfB).mono ?_);rintro e w9 ⟨rfl,hb9⟩;have c9:=c8.trans (hb9.mono c8.size);have s0:=(c9.cell (p:=⟨xx,10,none⟩) hlx).trans XN.out;have s1:=(c9.cell (p:=⟨w.heap.size+1,0,none⟩) hw1).trans P0.out;have s2:=(c9.cell (p:=⟨w.heap.size+1,1,none⟩) hw1).trans P1.out))
  all_goals
   go_wp2_with fail
   go_meet
   exact ⟨rfl,rfl,c9⟩
 case rest =>
 obtain ⟨rfl,rfl,c9⟩:=hcut
 obtain ⟨w9,hw9⟩:∃w9,w9=wc:=⟨_,rfl⟩
 rw [← hw9] at c9 ⊢
 clear hw9 HF HKN xn7 p0 p1 XN P0 P1
 have hd9:=hd7.below c9
 have e9:=e7.below c9
 have s1:=e9.cell 0;have s2:=e9.cell 1
 simp only [gqA,gqB,gqC] at s1 s2
 have hy9:=hy7.trans (c9.mono hy7.size)
 have HDU:=Lib.hid (hd9.due ch)
 cases hkk:hasK S.kids ch with
 | false =>
  have hde:dueE S ch=5:=by unfold dueE;rw [if_neg (by simp [hkk])]
  rw [hde] at HDU
  clear hx
  go_wp2_with (go_at_call 29;(with_reducible refine HDU.out.mono ?_);rintro e wD ⟨rfl,hbD⟩;have hyD:=hy9.trans (hbD.mono hy9.size))
  go_wp2_with (go_at_call 31;(with_reducible refine (oknown_any (hE.below hyD)).mono ?_);rintro e wk ⟨rfl,hbk⟩)
  go_ret
  exact ⟨rfl,hyD.trans (hbk.mono hyD.size)⟩
 | true =>
  have hde:dueE S ch=0:=by unfold dueE;rw [if_pos hkk]
  rw [hde] at HDU
  have hk1:KR≠1:=by
   rcases hx with h | h
   ·rw [hkk] at h;cases h
   ·exact h
  have n1:(KR != 1)=true:=by simpa using hk1
  clear hx hk1
  go_wp2_with (go_at_call 29;(with_reducible refine HDU.out.mono ?_);rintro e wD ⟨rfl,hbD⟩;have hyD:=hy9.trans (hbD.mono hy9.size))
  go_wp2_with (go_at_call 31;(with_reducible refine (oknown_any (hE.below hyD)).mono ?_);rintro e wk ⟨rfl,hbk⟩)
  go_ret
  exact ⟨rfl,hyD.trans (hbk.mono hyD.size)⟩
end Go.Proofs.YtiapkffihpgdcaaGreatDoor
namespace Go.Proofs.YtiapkffihpgdcaaGreatDoor
open Go.RowKit
theorem officeCancels_any {f:Fi}{w:World}(hf:f.In w)(hE:EnvA w)(hPw:PowA w)(l:List Wd)(A:Option Addr)(c:Nat)(hR:RS w A l)(hll:l.length≤9223372036854775807)(ch dy bf:Int) :
  Calls Tryz.prog 16 #[.agg f.cells,.slice A l.length c,.agg #[.int .i64 ch,.int .i64 dy,.int .i64 bf]] w fun e w'=>e=.returned (.bool true)∧Below w.heap.size w w':=by
 cases h:lrg f.t f.b with
 | true=>exact pre_OfficeCancels hf hE l A c hR hll ch dy bf (.inl h)
 | false =>
  cases h':lng l with
  | true=>exact pre_OfficeCancels hf hE l A c hR hll ch dy bf (.inr (.inl ⟨h,h'⟩))
  | false =>
   by_cases h1:bf<0
   ·exact pre_OfficeCancels hf hE l A c hR hll ch dy bf (.inr (.inr (.inl ⟨h,h',h1⟩)))
   by_cases h2:4000<bf
   ·exact pre_OfficeCancels hf hE l A c hR hll ch dy bf (.inr (.inr (.inr (.inl ⟨h,h',h1,h2⟩))))
   by_cases hz:f.e=0
   ·have hbf:0≤bf∧bf≤4000:=by omega
    obtain ⟨S,hS⟩:∃S,S=runTo f.s0 l (min l.length 30):=⟨_,rfl⟩
    have hOk:OfOk S:=by rw [hS];exact runS_ok _ _ (OfOk.new hz)
    by_cases hx:dy<0∨(S.days:Int)≤dy
    ·exact out_OfficeCancels hf hE l A c hR hll ch dy bf h h' hz hbf hS hx
    obtain ⟨d,rfl⟩:∃d:Nat,dy=d:=⟨dy.toNat,by omega⟩
    have hdd:d<S.days:=by omega
    have hd9:d<1000:=by have:=days_le hOk.tm;omega
    obtain ⟨at0,hat⟩:∃at0:Int,at0=d*1440-bf:=⟨_,rfl⟩
    by_cases hy:S.menu d<0∨at0<S.now∨1440000<at0∨60≤S.facts.length∨200<S.orders.length+2
    ·exact early_OfficeCancels hf hE l A c hR hll ch bf d h h' hz hbf hS hdd hd9 at0 hat hy
    have hmn:0≤S.menu d:=by omega
    have hno:S.now≤at0:=by omega
    have ha2:at0≤1440000:=by omega
    have hfl:S.facts.length<60:=by omega
    have hol:S.orders.length+2≤200:=by omega
    by_cases hk:hasK S.kids ch=false∨knownR S.facts S.now (max 0 (min ch 99)) d≠1
    ·exact had_OfficeCancels hf hE l A c hR hll ch bf d h h' hz hbf hS hdd hd9 at0 hat hmn hno ha2 hfl hol hk
    have hk1:hasK S.kids ch=true:=by
     cases e:hasK S.kids ch with
     | true=>rfl
     | false=>exact absurd (.inl e) hk
    have hk2:knownR S.facts S.now (max 0 (min ch 99)) d=1:=by
     by_cases e:knownR S.facts S.now (max 0 (min ch 99)) d=1
     ·exact e
     ·exact absurd (.inr e) hk
    obtain ⟨x,hx1,hx2⟩:=(hasK_iff _ _).1 hk1
    have hch:=hOk.kn x hx1
    rw [hx2] at hch
    obtain ⟨c0,rfl⟩:∃c0:Nat,ch=c0:=⟨ch.toNat,by omega⟩
    have hn0:=hOk.now0
    obtain ⟨a0,ha0⟩:∃a0:Nat,at0=a0:=⟨at0.toNat,by omega⟩
    have hcm:max 0 (min (c0:Int) 99)=c0:=by omega
    rw [hcm] at hk2
    obtain ⟨DA,DC,DD,DE,TA,TC,C1,C2,C3,C4,ct⟩:=can_texts hPw (a0:=a0) (c0:=c0) (d:=d) (by omega) (by omega) hd9
    obtain ⟨S1,S2,DR,D2,KK,cs⟩:=can_s hOk (q:=min l.length 30) (Nat.min_le_right _ _) (a0:=a0) hbf.1 (by omega) (by omega) (by omega) hol hk1 (by omega) hd9 hdd hmn hfl hk2 ct.tA ct.tC
    exact main_OfficeCancels hf hE l A c hR hll bf c0 d h h' hz hbf hS hdd hd9 at0 hat hmn hno ha2 hfl hol a0 ha0 ct cs
   ·exact pre_OfficeCancels hf hE l A c hR hll ch dy bf (.inr (.inr (.inr (.inr ⟨h,h',h1,h2,hz⟩))))
end Go.Proofs.YtiapkffihpgdcaaGreatDoor
