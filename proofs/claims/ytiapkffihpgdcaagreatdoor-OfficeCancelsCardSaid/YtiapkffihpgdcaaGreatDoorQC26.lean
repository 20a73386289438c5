import Derived.Test.YtiapkffihpgdcaaGreatDoorQC19
import Derived.Test.YtiapkffihpgdcaaGreatDoorQC21
import Derived.Test.YtiapkffihpgdcaaGreatDoorQC22
import Derived.Test.YtiapkffihpgdcaaGreatDoorQC24
import Derived.Test.YtiapkffihpgdcaaGreatDoorQC25
set_option linter.unusedVariables false
set_option linter.unusedSimpArgs false
set_option maxRecDepth 100000
set_option maxHeartbeats 4000000
namespace Go.Proofs.YtiapkffihpgdcaaGreatDoor
open Go.RowKit Go.Sort
theorem rnew_ok (t:Tm)(c:Cy)(b:Bk)(hlr:t.rest.length≤1000000)(hlc:t.clo.length≤1000000)(hL:BkLen b)(A1 A2:Option Addr)(c1 c2:Nat)(F0:Nat→Prop)(B1 B2:Option Addr)(d1 d2:Nat)(hp hq hr:Nat→SlH)(w:World)
  (h1:RN w A1 t.rest) (h2:RN w A2 t.clo) (hR:RBk F0 w B1 B2 b hp hq hr) (h7:7≤w.heap.size) (hz:newE t c b=0) :
  Calls Tryz.prog 52 #[.agg #[.int .i64 t.len,.slice A1 t.rest.length c1,.slice A2 t.clo.length c2],.agg #[.int .i64 c.n,.int .i64 c.f,.int .i64 c.k],.agg #[.int .i64 b.props,.slice B1 b.items.length d1,.slice B2 b.rules.length d2]] w fun e w'=>∃g h,e=.returned (.tuple #[.pointer (some ⟨g,0,none⟩),.int .i64 0])∧RO w' (fun k=>w.heap.size≤k∧k<w'.heap.size) g h (new0 t c b)∧Below w.heap.size w w':=by
 obtain ⟨ht,hc,hb⟩:=newE_ok hz
 have HZ:=Lib.hid hz
 clear hz
 obtain ⟨w2,hw2⟩:∃w2,(((w.alloc (.cells #[.int .i64 t.len,.slice A1 t.rest.length c1,.slice A2 t.clo.length c2] 24)).alloc (.cells #[.int .i64 c.n,.int .i64 c.f,.int .i64 c.k] 26)).alloc (.cells #[.int .i64 b.props,.slice B1 b.items.length d1,.slice B2 b.rules.length d2] 30))=w2:=⟨_,rfl⟩
 have hy:Below w.heap.size w w2:=by rw [← hw2];exact (((Below.refl _ w).alloc (Nat.le_refl _) _).alloc (by simp) _).alloc (by simp;omega) _
 have b0:Box w2 w.heap.size #[.int .i64 t.len,.slice A1 t.rest.length c1,.slice A2 t.clo.length c2]:=by rw [← hw2];exact ((Box.new w _ _).alloc _).alloc _
 have b1:Box w2 (w.heap.size+1) #[.int .i64 c.n,.int .i64 c.f,.int .i64 c.k]:=by rw [← hw2];exact ((Box.new (w.alloc (.cells #[.int .i64 t.len,.slice A1 t.rest.length c1,.slice A2 t.clo.length c2] 24)) _ _).at' (by simp)).alloc _
 have b2:Box w2 (w.heap.size+1+1) #[.int .i64 b.props,.slice B1 b.items.length d1,.slice B2 b.rules.length d2]:=by rw [← hw2];exact (Box.new ((w.alloc (.cells #[.int .i64 t.len,.slice A1 t.rest.length c1,.slice A2 t.clo.length c2] 24)).alloc (.cells #[.int .i64 c.n,.int .i64 c.f,.int .i64 c.k] 26)) _ _).at' (by simp)
 have r1:=h1.below hy
 have r2:=h2.below hy
 have r3:=hR.below hy
 have x0:=b0.cell 0;have x1:=b0.cell 1;have x2:=b0.cell 2
 simp only [gqA,gqB,gqC] at x0 x1 x2
 have hv1:=rtvalidate_any t A1 A2 c1 c2 w2 r1 r2 (by omega) (by omega)
 rw [ht.to] at hv1
 have hv2:=rcvalidate_any c
 rw [hc.to] at hv2
 have hv3:=rvalidBk_any b hL F0 B1 B2 d1 d2 hp hq hr
 rw [hb.to] at hv3
 have HV1:=Lib.hid hv1;have HV2:=Lib.hid hv2;have HV3:=Lib.hid hv3
 clear hv1 hv2 hv3
 go_enter Tryz.func52,Tryz.ntmps52
 go_wp2_with (first
  | (go_at_call 128;(with_reducible refine HV1.out.mono ?_);rintro e wA ⟨rfl,hbA⟩;have y1:=b1.below hbA;have k0:=y1.cell 0;have k1:=y1.cell 1;have k2:=y1.cell 2;simp only [gqA,gqB,gqC] at k0 k1 k2)
  | (go_at_call 129;(with_reducible refine (HV2.out _).mono ?_);rintro e wB ⟨rfl,hbB⟩;have y2:=(b2.below hbA).below hbB;have n0:=y2.cell 0;have n1:=y2.cell 1;have n2:=y2.cell 2;simp only [gqA,gqB,gqC] at n0 n1 n2)
  | (go_at_call 130;(with_reducible refine (HV3.out _ ((r3.below hbA).below hbB)).mono ?_);rintro e wC ⟨rfl,hbC⟩))
 have hbx:Below w2.heap.size w2 wC:=hbA.trans ((hbB.trans (hbC.mono hbB.size)).mono hbA.size)
 have hsz2:w.heap.size+1+1<w2.heap.size:=b2.lt
 clear hw2 x0 x1 x2 k0 k1 k2 n0 n1 n2 y1 y2 HV1 HV2 HV3
 have hyx:=hy.trans (hbx.mono hy.size)
 replace b0:=b0.below hbx
 replace b1:=b1.below hbx
 replace b2:=b2.below hbx
 replace r1:=h1.below hyx
 replace r2:=h2.below hyx
 replace r3:=hR.below hyx
 have hsx:=hbx.size
 clear hbA hbB hbC
 have x0:=b0.cell 0;have x1:=b0.cell 1;have x2:=b0.cell 2
 have y0:=b1.cell 0;have y1:=b1.cell 1;have y2:=b1.cell 2
 have z0:=b2.cell 0;have z1:=b2.cell 1;have z2:=b2.cell 2
 simp only [gqA,gqB,gqC] at x0 x1 x2 y0 y1 y2 z0 z1 z2
 have q1:=hb.i20
 have q2:=hb.r16
 go_cut [9] (fun s wx=>RewCut wC.heap.size t c b s wx∧Below wC.heap.size wC wx)
 case first =>
  go_region_held3 (fun w'=>w'.cell? ⟨w.heap.size,0,none⟩=some (.int .i64 t.len)∧w'.cell? ⟨w.heap.size,1,none⟩=some (.slice A1 t.rest.length c1)∧w'.cell? ⟨w.heap.size,2,none⟩=some (.slice A2 t.clo.length c2)∧w'.cell? ⟨w.heap.size+1,0,none⟩=some (.int .i64 c.n)∧w'.cell? ⟨w.heap.size+1,1,none⟩=some (.int .i64 c.f)∧w'.cell? ⟨w.heap.size+1,2,none⟩=some (.int .i64 c.k)∧w'.cell? ⟨w.heap.size+1+1,0,none⟩=some (.int .i64 b.props)∧w'.cell? ⟨w.heap.size+1+1,1,none⟩=some (.slice B1 b.items.length d1)∧w'.cell? ⟨w.heap.size+1+1,2,none⟩=some (.slice B2 b.rules.length d2))
   (first | go_keep | exact ⟨k0,k1,k2,k3,k4,k5,k6,k7,k8⟩ | exact ⟨m0 _,m1 _,m2 _,m3 _,m4 _,m5 _,m6 _,m7 _,m8 _⟩)
   (first
    | (go_at_call 131;(with_reducible refine (copy_any t A1 A2 c1 c2 _ ?_ ?_ hlr hlc).mono ?_);exact r1.below (by repeat (first | exact Below.refl _ _ | refine Below.drew ?_ | refine Below.alloc ?_ (by first | omega | (simp;omega) | simp) _):Below wC.heap.size wC _);exact r2.below (by repeat (first | exact Below.refl _ _ | refine Below.drew ?_ | refine Below.alloc ?_ (by first | omega | (simp;omega) | simp) _):Below wC.heap.size wC _);rintro e wT ⟨TA,Tc,TA',Tc',rfl,ownT,ownT',hbT⟩;have hT:Below wC.heap.size wC wT:=(by repeat (first | exact Below.refl _ _ | refine Below.drew ?_ | refine Below.alloc ?_ (by first | omega | (simp;omega) | simp) _):Below wC.heap.size wC _).trans (hbT.mono (by first | omega | (simp;omega) | simp));have hswT:=hT.size;have e0:=b0.keep hT (by omega);have e1:=b1.keep hT (by omega);have e2:=b2.keep hT (by omega);have k0:=e0.cell 0;have k1:=e0.cell 1;have k2:=e0.cell 2;have k3:=e1.cell 0;have k4:=e1.cell 1;have k5:=e1.cell 2;have k6:=e2.cell 0;have k7:=e2.cell 1;have k8:=e2.cell 2;simp only [gqA,gqB,gqC] at k0 k1 k2 k3 k4 k5 k6 k7 k8;have m0:=fun (o:Obj)=>(World.cell?_alloc_lt wT o ⟨w.heap.size,0,none⟩ (show w.heap.size<wT.heap.size by omega)).trans k0;have m1:=fun (o:Obj)=>(World.cell?_alloc_lt wT o ⟨w.heap.size,1,none⟩ (show w.heap.size<wT.heap.size by omega)).trans k1;have m2:=fun (o:Obj)=>(World.cell?_alloc_lt wT o ⟨w.heap.size,2,none⟩ (show w.heap.size<wT.heap.size by omega)).trans k2;have m3:=fun (o:Obj)=>(World.cell?_alloc_lt wT o ⟨w.heap.size+1,0,none⟩ (show w.heap.size+1<wT.heap.size by omega)).trans k3;have m4:=fun (o:Obj)=>(World.cell?_alloc_lt wT o ⟨w.heap.size+1,1,none⟩ (show w.heap.size+1<wT.heap.size by omega)).trans k4;have m5:=fun (o:Obj)=>(World.cell?_alloc_lt wT o ⟨w.heap.size+1,2,none⟩ (show w.heap.size+1<wT.heap.size by omega)).trans k5;have m6:=fun (o:Obj)=>(World.cell?_alloc_lt wT o ⟨w.heap.size+1+1,0,none⟩ (show w.heap.size+1+1<wT.heap.size by omega)).trans k6;have m7:=fun (o:Obj)=>(World.cell?_alloc_lt wT o ⟨w.heap.size+1+1,1,none⟩ (show w.heap.size+1+1<wT.heap.size by omega)).trans k7;have m8:=fun (o:Obj)=>(World.cell?_alloc_lt wT o ⟨w.heap.size+1+1,2,none⟩ (show w.heap.size+1+1<wT.heap.size by omega)).trans k8)
    | (go_at_call 132;(with_reducible refine (rcopyBk_any b (by omega) (by omega) (fun k hk=>by have:=hL.iff k hk;have:=isSet_len (hb.iff k hk) hb.p0;have:=hb.p10;omega) (fun k hk=>by have:=hb.six k hk;omega) (fun k hk=>by have:=isSet_len (hb.has k hk) hb.p0;have:=hb.p10;omega) F0 B1 B2 d1 d2 hp hq hr _ ?_).mono ?_);exact r3.below (hT.trans (by repeat (first | exact Below.refl _ _ | refine Below.drew ?_ | refine Below.alloc ?_ (by first | omega | (simp;omega) | simp) _):Below wC.heap.size wT _));rintro e wU ⟨UA,Uc,UA',Uc',up,uq,ur,rfl,rdU,hbU⟩;have hU:Below wC.heap.size wC wU:=hT.trans ((by repeat (first | exact Below.refl _ _ | refine Below.drew ?_ | refine Below.alloc ?_ (by first | omega | (simp;omega) | simp) _):Below wC.heap.size wT _).trans (hbU.mono (by first | omega | (simp;omega) | simp)));have hswU:=hU.size;have e0:=b0.keep hU (by omega);have e1:=b1.keep hU (by omega);have e2:=b2.keep hU (by omega);have k0:=e0.cell 0;have k1:=e0.cell 1;have k2:=e0.cell 2;have k3:=e1.cell 0;have k4:=e1.cell 1;have k5:=e1.cell 2;have k6:=e2.cell 0;have k7:=e2.cell 1;have k8:=e2.cell 2;simp only [gqA,gqB,gqC] at k0 k1 k2 k3 k4 k5 k6 k7 k8;have m0:=fun (o:Obj)=>(World.cell?_alloc_lt wU o ⟨w.heap.size,0,none⟩ (show w.heap.size<wU.heap.size by omega)).trans k0;have m1:=fun (o:Obj)=>(World.cell?_alloc_lt wU o ⟨w.heap.size,1,none⟩ (show w.heap.size<wU.heap.size by omega)).trans k1;have m2:=fun (o:Obj)=>(World.cell?_alloc_lt wU o ⟨w.heap.size,2,none⟩ (show w.heap.size<wU.heap.size by omega)).trans k2;have m3:=fun (o:Obj)=>(World.cell?_alloc_lt wU o ⟨w.heap.size+1,0,none⟩ (show w.heap.size+1<wU.heap.size by omega)).trans k3;have m4:=fun (o:Obj)=>(World.cell?_alloc_lt wU o ⟨w.heap.size+1,1,none⟩ (show w.heap.size+1<wU.heap.size by omega)).trans k4;have m5:=fun (o:Obj)=>(World.cell?_alloc_lt wU o ⟨w.heap.size+1,2,none⟩ (show w.heap.size+1<wU.heap.size by omega)).trans k5;have m6:=fun (o:Obj)=>(World.cell?_alloc_lt wU o ⟨w.heap.size+1+1,0,none⟩ (show w.heap.size+1+1<wU.heap.size by omega)).trans k6;have m7:=fun (o:Obj)=>(World.cell?_alloc_lt wU o ⟨w.heap.size+1+1,1,none⟩ (show w.heap.size+1+1<wU.heap.size by omega)).trans k7;have m8:=fun (o:Obj)=>(World.cell?_alloc_lt wU o ⟨w.heap.size+1+1,2,none⟩ (show w.heap.size+1+1<wU.heap.size by omega)).trans k8))
  all_goals go_wp2_with fail
  all_goals
   go_meet
   have z0:=hyx.size
   have z1:=hbT.size
   have z2:=hbU.size
   (try simp at z1)
   (try simp at z2)
   have hRA:RNF (Fr wC.heap.size wT) wT TA t.rest:=ReadsF.of_own' ownT (fun k h1 h2=>⟨Nat.le_trans (by first | omega | (simp;omega) | simp) h1,h2⟩)
   have hRA':RNF (Fr wC.heap.size wT) wT TA' t.clo:=ReadsF.of_own' ownT' (fun k h1 h2=>⟨Nat.le_trans (by first | omega | (simp;omega) | simp) h1,h2⟩)
   have hRU:RBk (Fr wC.heap.size wU) wU UA UA' b up uq ur:=rdU.fresh (wC.heap.size) (by first | omega | (simp;omega) | simp)
   refine ⟨RewCut.of (TA,Tc) (TA',Tc') (UA,Uc) (UA',Uc') (hp:=up) (hq:=uq) (hr:=ur) ?_ ?_ ?_ ?_ ?_,?_⟩
   ·first | with_reducible rfl | simp
   ·first | omega | (simp;omega) | simp
   ·(repeat (first | with_reducible exact hRA | with_reducible refine rnf_be ?_ hbU | with_reducible refine rnf_al ?_ _ | with_reducible refine rnf_dr ?_))
   ·(repeat (first | with_reducible exact hRA' | with_reducible refine rnf_be ?_ hbU | with_reducible refine rnf_al ?_ _ | with_reducible refine rnf_dr ?_))
   ·(repeat (first | with_reducible exact hRU | with_reducible refine rbk_al ?_ _ | with_reducible refine rbk_dr ?_))
   ·exact (by repeat (first | with_reducible exact hU | with_reducible exact Below.refl _ _ | with_reducible refine Below.drew ?_ | with_reducible refine Below.alloc ?_ (by first | omega | (simp;omega) | simp) _))
 case rest =>
  obtain ⟨hcut1,hbn⟩:=hcut
  obtain ⟨g,tr,tc,bi,br,up,uq,ur,rfl,hgs,hBg,bN,k1,k2,k3⟩:=hcut1
  clear x0 x1 x2 y0 y1 y2 z0 z1 z2 r1 r2 r3
  have hyn:=hyx.trans (hbn.mono hyx.size)
  have b0n:=b0.keep hbn (by omega)
  have b1n:=b1.keep hbn (by omega)
  have x0:=b0n.cell 0
  simp only [gqA,gqB,gqC] at x0
  have hl2:=ht.len2
  have hl1:=ht.len1
  obtain ⟨dn,hdn⟩:∃dn:Nat,t.len=dn:=⟨t.len.toNat,by omega⟩
  have hn1:=hc.n1
  have hn2:=hc.n2
  obtain ⟨cn,hcn⟩:∃cn:Nat,c.n=cn:=⟨c.n.toNat,by omega⟩
  rw [hdn] at x0
  have hd1:1≤dn∧dn≤1000:=by omega
  have hc1:1≤cn∧cn≤40:=by omega
  have hgw:w.heap.size+1+1<g:=by omega
  have HDN:=Lib.hid hdn
  have HCN:=Lib.hid hcn
  have HGS:=Lib.hid hgs
  have hgs2:g<wc.heap.size:=by omega
  have hI0:NwL t c b tr tc bi br g wc (none,0) (none,0) (none,0) 0 0 0 (List.replicate 0 (-1)) (List.replicate 0 (-1)) (List.replicate 0 (-1)) wc:=⟨bN,World.ownsRow_nil _ _ _ _,World.ownsRow_nil _ _ _ _,World.ownsRow_nil _ _ _ _,fun x h=>by simp [blkOf] at h,fun x h=>by simp [blkOf] at h,fun x h=>by simp [blkOf] at h,Below.refl _ _⟩
  have HI0:=Lib.hid hI0
  clear b0 b1 b2 bN hdn hcn hgs hl1 hl2 hn1 hn2 hI0 q1 q2
  go_wp2_with fail
  go_loopw [10] (fun x wr=>∃(k:Nat) (P Q R:SlH),k≤dn∧x=.int .i64 k∧NwL t c b tr tc bi br g wc P Q R k k k (List.replicate k (-1)) (List.replicate k (-1)) (List.replicate k (-1)) wr) (fun x _=>dn-(intOf x).toNat)
  case atStart=>exact ⟨0,_,_,_,by omega,rfl,HI0.out⟩
  case round =>
   clear HI0
   obtain ⟨k,P,Q,R,hkd,rfl,HI⟩:=hrel
   have hbr:=HI.below
   have hsr:=hbr.size
   have e0:=b0n.keep hbr (by omega)
   have x1:=e0.cell 0
   simp only [gqA,gqB,gqC] at x1
   rw [HDN.out] at x1
   by_cases hlt:k<dn
   ·have u9:=HI.box.cell 9;have f9:=HI.box.free 9
    simp only [cellsM,gqA,gqB,gqC] at u9
    have hgr:=HI.box.lt
    have hrs:List.replicate (k+1) (-1:Int)=List.replicate k (-1) ++ [-1]:=List.replicate_succ'
    have HRS:=Lib.hid hrs
    obtain ⟨rk,hrk⟩:∃rk,rk=List.replicate k (-1:Int):=⟨_,rfl⟩
    rw [← hrk] at HI
    have HRK:=Lib.hid hrk
    clear hrs hrk
    go_wp2_with (first
     | (at_builtin;refine wpList_app3 rfl _ _ rfl Tryz.underlying22 info_int rfl (by omega) (A:=P.1) (n:=k) (c:=P.2) rfl HI.o1 (news:=[.int .i64 (-1)]) rfl rfl (by simp [Value.oneCell']) (by omega) (by omega) (by omega) ?_;intro A3 c3 w7 own7 hg7 hn7;have hD1:AppD wr w7 g P (A3,c3) k rk (-1) (.cells #[.int .i64 (-1)] 3):=⟨own7,hg7,hn7⟩;have hB7:=hD1.below hgr HI.o1;have HI1:NwL t c b tr tc bi br g wc (A3,c3) Q R (k+1) k k (rk ++ [-1]) rk rk (w7.setCell ⟨g,9,none⟩ (.slice A3 (k+1) c3)):=HI.app1 hD1;have bx7:=HI.box.keep hB7 (by omega);have u1:=bx7.cell 9;have v1:=bx7.free 9;have u2:=bx7.cell 15;have v2:=bx7.free 15;have hs7:=hB7.size;simp only [cellsM,gqA,gqB,gqC] at u1 u2;have hs8:g<(w7.setCell ⟨g,9,none⟩ (.slice A3 (k+1) c3)).heap.size:=by rw [set_size];omega)
     | (at_builtin;refine wpList_app3S rfl _ _ rfl Tryz.underlying22 info_int rfl (by omega) (A:=Q.1) (n:=k) (c:=Q.2) rfl HI1.o2 (news:=[.int .i64 (-1)]) rfl (by simp [World.setCell]) rfl (by simp [Value.oneCell']) (by omega) (by omega) (by omega) ?_;intro A4 c4 w8 own8 hg8 hn8;have hD2:AppD _ w8 g Q (A4,c4) k rk (-1) (.cells #[.int .i64 (-1)] 3):=⟨own8,hg8,hn8⟩;have hB8:=hD2.below hs8 HI1.o2;have HI2:NwL t c b tr tc bi br g wc (A3,c3) (A4,c4) R (k+1) (k+1) k (rk ++ [-1]) (rk ++ [-1]) rk (w8.setCell ⟨g,15,none⟩ (.slice A4 (k+1) c4)):=HI1.app2 hD2;have bx8:=HI1.box.keep hB8 (by omega);have u3:=bx8.cell 15;have v3:=bx8.free 15;have u4:=bx8.cell 16;have v4:=bx8.free 16;have hs9:=hB8.size;simp only [cellsM,gqA,gqB,gqC] at u3 u4;have hs10:g<(w8.setCell ⟨g,15,none⟩ (.slice A4 (k+1) c4)).heap.size:=by rw [set_size];omega)
     | (at_builtin;refine wpList_app3S rfl _ _ rfl Tryz.underlying22 info_int rfl (by omega) (A:=R.1) (n:=k) (c:=R.2) rfl HI2.o3 (news:=[.int .i64 (-1)]) rfl (by simp [World.setCell]) rfl (by simp [Value.oneCell']) (by omega) (by omega) (by omega) ?_;intro A5 c5 w9 own9 hg9 hn9;have hD3:AppD _ w9 g R (A5,c5) k rk (-1) (.cells #[.int .i64 (-1)] 3):=⟨own9,hg9,hn9⟩;have hB9:=hD3.below hs10 HI2.o3;have HI3:NwL t c b tr tc bi br g wc (A3,c3) (A4,c4) (A5,c5) (k+1) (k+1) (k+1) (rk ++ [-1]) (rk ++ [-1]) (rk ++ [-1]) (w9.setCell ⟨g,16,none⟩ (.slice A5 (k+1) c5)):=HI2.app3 hD3;have bx9:=HI2.box.keep hB9 (by omega);have u5:=bx9.cell 16;have v5:=bx9.free 16;simp only [cellsM,gqA,gqB,gqC] at u5))
    rw [HRK.out,← HRS.out] at HI3
    go_roundw
    case rel =>
     first
      | exact ⟨k+1,_,_,_,by omega,by go_num,HI3⟩
      | ((repeat apply Exists.intro);exact ⟨⟨k+1,_,_,_,by omega,by go_num,HI3⟩,rfl⟩)
    case measure=>simp [intOf];omega
   ·obtain rfl:k=dn:=by omega
    have hmz:List.replicate k (-1:Int)=muL t c 0:=by rw [muL_zero hc,HDN.out];rfl
    have hI0:NwL t c b tr tc bi br g wc P Q R k k k (muL t c 0) (List.replicate k (-1)) (List.replicate k (-1)) wr:=hmz ▸ HI
    have HI0:=Lib.hid hI0
    obtain ⟨gp,hP⟩:∃gp,P.1=some ⟨gp,0,none⟩:=by
     rcases HI.o1.2 with ⟨_,h0⟩ | ⟨gp,cap,cur,hv,_⟩
     ·omega
     ·injection hv with e1;exact ⟨gp,e1⟩
    have hgp:g+1≤gp:=(World.ownsRow.lt HI.o1 gp (by rw [show (Value.slice P.1 k P.2).ownBlock=blkOf P from own_blk P _];unfold blkOf;rw [hP];rfl)).1
    have hgq:gp<wr.heap.size:=(World.ownsRow.lt HI.o1 gp (by rw [show (Value.slice P.1 k P.2).ownBlock=blkOf P from own_blk P _];unfold blkOf;rw [hP];rfl)).2
    have HP:=Lib.hid hP
    clear hI0 hmz hP HI hkd hlt
    go_wp2_with fail
    obtain ⟨wo,rfl⟩:∃wo:World,wo=wr:=⟨_,rfl⟩
    clear x1 e0
    go_loopw [11] (fun x wr=>∃m:Nat,m≤cn∧x=.int .i64 m∧NwL t c b tr tc bi br g wc P Q R k k k (muL t c m) (List.replicate k (-1)) (List.replicate k (-1)) wr∧gp<wr.heap.size) (fun x _=>cn-(intOf x).toNat)
    case atStart=>exact ⟨0,by omega,rfl,HI0.out,hgq⟩
    case round =>
     clear HI0
     obtain ⟨m,hm,rfl,HM,hgr⟩:=hrel
     have hbm:=HM.below
     have hsm:=hbm.size
     have hwm:Below w.heap.size w wr:=hyn.trans (hbm.mono (by omega))
     have e0:=b0n.keep hbm (by omega)
     have e1:=b1n.keep hbm (by omega)
     have x0:=e0.cell 0;have x1:=e0.cell 1;have x2:=e0.cell 2
     have y0:=e1.cell 0;have y1:=e1.cell 1;have y2:=e1.cell 2
     simp only [gqA,gqB,gqC] at x0 x1 x2 y0 y1 y2
     by_cases hlt:m<cn
     ·have hT:decide ((m:Int)<c.n)=true:=by rw [decide_eq_true_eq,HCN.out];omega
      have hcon:=rdays_any (m:Int) c t A1 A2 c1 c2 wr (h1.below hwm) (h2.below hwm) (by omega) (by omega)
      obtain ⟨q1,q2⟩:=rdays_ok ht hc (m:=(m:Int)) (by omega) (by rw [HCN.out];omega)
      rw [q1,q2] at hcon
      obtain ⟨ds,hds⟩:∃ds,ds=daysTo t c m t.len.toNat:=⟨_,rfl⟩
      rw [← hds] at hcon
      have hdl:ds.length≤1000:=by have:=daysTo_le t c m t.len.toNat;rw [← hds] at this;have:=HDN.out;omega
      have HDS:=Lib.hid hds
      have HC:=Lib.hid hcon
      clear q1 q2 hds hcon
      go_wp2_with (go_at_call 133;(with_reducible refine HC.out.mono ?_);rintro e w5 ⟨DA,Dc,rfl,ownD,hb5⟩)
      have HM5:=HM.keep hb5
      have hs5:=hb5.size
      clear x0 x1 x2 y0 y1 y2 e0 e1 HC
      obtain ⟨wp,rfl⟩:∃wp:World,wp=wr:=⟨_,rfl⟩
      go_loopw [14] (fun x wr=>∃i:Nat,i≤ds.length∧x=.int .i64 i∧NwL t c b tr tc bi br g wc P Q R k k k (stD (muL t c m) ds m i) (List.replicate k (-1)) (List.replicate k (-1)) wr∧OwnN wr wp.heap.size DA Dc ds∧gp<wr.heap.size) (fun x _=>ds.length-(intOf x).toNat)
      case atStart=>exact ⟨0,by omega,rfl,HM5,ownD,by omega⟩
      case round =>
       obtain ⟨i,hi,rfl,HJ,ownJ,hgj⟩:=hrel
       have hbj:=HJ.below
       by_cases hil:i<ds.length
       ·obtain ⟨d,hd1',hgd,_⟩:=rdT_at (t:=t) (c:=c) (m:=m) (N:=t.len.toNat) (i:=i) (by rw [← HDS.out];exact hil)
        rw [← HDS.out] at hgd
        have hdk:d<k:=by have:=HDN.out;omega
        obtain ⟨ad,rfl,hab,cd⟩:=(RN.of_own ownJ).at_ hil
        rw [hgd] at cd
        have ho:=HJ.o1
        rw [HP.out] at ho
        have hf:=World.ownsRow.frozenAt ho d
        obtain ⟨v,hv⟩:∃v,wr.cell? ⟨gp,d,none⟩=some (.int .i64 v):=by
         have hc:=World.ownsRow.cellAt ho d (by omega)
         have hl:(stD (muL t c m) ds m i).length=k:=by simpa [ints] using ho.1
         rw [hc]
         simp only [ints,List.getElem?_map]
         rw [List.getElem?_eq_getElem (by omega)]
         exact ⟨_,rfl⟩
        have u9:=HJ.box.cell 9
        simp only [cellsM,gqA,gqB,gqC] at u9
        rw [HP.out] at u9
        have j1:(0:Int)≤(i:Int):=by omega
        have j2:(i:Int)<(ds.length:Int):=by omega
        have j3:(0:Int)≤(d:Int):=by omega
        have j4:(d:Int)<(k:Int):=by omega
        have hput:=HJ.put HP.out d m
        have hst:stD (muL t c m) ds m (i+1)=(stD (muL t c m) ds m i).set d m:=by simp only [stD];rw [hgd];simp
        rw [← hst] at hput
        have HPUT:=Lib.hid hput
        have hown:OwnN (wr.setCell ⟨gp,d,none⟩ (.int .i64 m)) wp.heap.size (some ad) Dc ds:=ownsRow_setCell_below ownJ (show gp<wp.heap.size from hgr) _
        have HOWN:=Lib.hid hown
        clear hput hst hown hgd ho
        go_wp2_with fail
        go_region
        all_goals go_wp2_with fail
        all_goals
         go_roundw
         case rel=>exact ⟨i+1,by omega,by go_num,HPUT.out.keep (Below.refl _ _).drew,HOWN.out,Nat.lt_of_lt_of_le hgj (by simp [World.setCell])⟩
         case measure=>simp [intOf];omega
       ·obtain rfl:i=ds.length:=by omega
        have hst:stD (muL t c m) ds m ds.length=muL t c (m+1):=by rw [HDS.out];exact stD_menu t c m
        rw [hst] at HJ
        clear hst
        go_wp2_with fail
        go_roundw
        case rel=>exact ⟨m+1,by omega,by go_num,HJ,hgj⟩
        case measure=>simp [intOf];omega
     ·obtain rfl:m=cn:=by omega
      have hT:decide ((m:Int)<c.n)=false:=by rw [decide_eq_false_iff_not,HCN.out];omega
      go_wp2_with fail
      go_ret2
      have hml:muL t c m=mnL t c:=muL_all hc m HCN.out.symm
      have htn:t.len.toNat=k:=by rw [HDN.out];rfl
      rw [hml,← htn] at HM
      have K:Keeps (fun j=>wC.heap.size≤j∧j<g) wc wr:=⟨hsm,fun j hj _=>hbm.block j hj.2⟩
      have W:∀j,(wC.heap.size≤j∧j<g)→(w.heap.size≤j∧j<g):=fun j hj=>⟨by have:=hyx.size;omega,hj.2⟩
      exact ⟨g,_,rfl,RO.made h7 (by have:=hyx.size;omega) HM ((k1.kept K).mono W) ((k2.kept K).mono W) ((k3.kept K).mono W) HZ.out,hwm⟩
end Go.Proofs.YtiapkffihpgdcaaGreatDoor
namespace Go.Proofs.YtiapkffihpgdcaaGreatDoor
open Go.RowKit
def xcs:Array Value:=#[.string ⟨#[99,104,105,108,100,32,56]⟩,.string ⟨#[111,114,100,101,114,32,56,32,48,32,53]⟩,.string ⟨#[99,111,111,107,32,48,32,51]⟩,.string ⟨#[101,97,116,32,48,32,50]⟩]
theorem x_cs:∀k,k<4→xcs[k]? = some (St (xwd k))
 | 0,_=>rfl
 | 1,_=>rfl
 | 2,_=>rfl
 | 3,_=>rfl
 | k+4,h=>absurd h (by omega)
theorem x_st4:xst 4=xs7:=rfl
theorem oknown_any {w:World}(hE:EnvA w):Calls Tryz.prog 31 #[] w fun e w'=>e=.returned (.bool true)∧Below w.heap.size w w':=by
 go_enter Tryz.func31,Tryz.ntmps31
 go_wp2_with (first
  | (go_at_call 19;(with_reducible refine (example_any _).mono ?_);rintro e w1 ⟨a,b,rfl,ba,bb,hb1⟩;have hE1:=hE.below hb1)
  | (go_at_call 20;(with_reducible refine (x_made (w0:=w) (hE1.below ((Below.refl _ _).alloc (Nat.le_refl _) _)) (hb1.alloc hb1.size _) (ba.alloc _) (bb.alloc _)).mono ?_);rintro e w2 ⟨g,rfl,hk0⟩)
  | (go_at_call 25;(with_reducible refine (hk0.do_ (by decide) [100,105,115,104,32,115,111,117,112,32,48] (by decide)).mono ?_);rintro e w3 ⟨he3,hk1,_⟩;rw [show doE xs0 [100,105,115,104,32,115,111,117,112,32,48]=0 from x_1] at he3;subst he3)
  | (go_at_call 25;(with_reducible refine (hk1.do_ (by decide) [99,104,105,108,100,32,55,32,48] (by decide)).mono ?_);rintro e w4 ⟨he4,hk2,_⟩;rw [show doE (doS xs0 [100,105,115,104,32,115,111,117,112,32,48]) [99,104,105,108,100,32,55,32,48]=0 from x_2] at he4;subst he4)
  | (go_at_call 25;(with_reducible refine (hk2.do_ (by decide) [111,114,100,101,114,32,55,32,48,32,53] (by decide)).mono ?_);rintro e w5 ⟨he5,hk3,_⟩;rw [show doE (doS (doS xs0 [100,105,115,104,32,115,111,117,112,32,48]) [99,104,105,108,100,32,55,32,48]) [111,114,100,101,114,32,55,32,48,32,53]=14 from x_3] at he5;subst he5))
 have hk4:KN w 3 (fun k=>k=w5.heap.size) g (xst 0) (w5.alloc (.cells xcs 9)):=hk3.mine _
 have b5:Box (w5.alloc (.cells xcs 9)) w5.heap.size xcs:=Box.new _ _ _
 obtain ⟨w6,hw6⟩:∃w6,w6=w5.alloc (.cells xcs 9):=⟨_,rfl⟩
 rw [← hw6] at hk4 b5
 have hw7:w5.alloc (.cells #[.string ⟨#[99,104,105,108,100,32,56]⟩,.string ⟨#[111,114,100,101,114,32,56,32,48,32,53]⟩,.string ⟨#[99,111,111,107,32,48,32,51]⟩,.string ⟨#[101,97,116,32,48,32,50]⟩] 9)=w6:=hw6.symm
 rw [hw7]
 clear hw6 hw7 hk0 hk1 hk2 hk3 ba bb
 go_loopw [5] (fun x wr=>∃k:Nat,k≤4∧x=.int .i64 k∧KN w (3+k) (fun k=>k=w5.heap.size) g (xst k) wr∧Box wr w5.heap.size xcs) (fun x _=>4-(intOf x).toNat)
 case atStart=>exact ⟨0,by omega,rfl,hk4,b5⟩
 case round =>
  obtain ⟨k,hk,rfl,hkn,hbx⟩:=hrel
  by_cases hlt:k<4
  ·have c0:=(hbx.cell k).trans (x_cs k hlt)
   have hd:=hkn.do_ (by omega) (xwd k) (x_wd k)
   rw [x_st k hlt] at hd
   have HD:=Lib.hid hd
   have hl:=hbx.lt
   clear hd hk4
   go_wp2_with (go_at_call 25;(with_reducible refine HD.out.mono ?_);rintro e w7 ⟨rfl,hk7,hz7⟩)
   go_roundw
   case rel=>exact ⟨k+1,by omega,by go_num,hk7,hz7 _ _ rfl hbx⟩
   case measure=>simp [intOf];omega
  ·obtain rfl:k=4:=by omega
   rw [x_st4] at hkn
   have hs:=hkn.served 0
   obtain ⟨v1,v2,v3,v4,v5⟩:=x_sv
   rw [v1,v2,v3,v4,v5] at hs
   have HS:=Lib.hid hs
   obtain ⟨u1,u2⟩:=x_due
   clear hs v1 v2 v3 v4 v5
   go_wp2_with (first
    | (go_at_call 46;(with_reducible refine HS.out.mono ?_);rintro e w8 ⟨rfl,hk8⟩;have hdu:=hk8.due 8;rw [u1,u2] at hdu)
    | (go_at_call 29;(with_reducible refine hdu.mono ?_);rintro e w9 ⟨rfl,hk9⟩))
   go_ret
   exact ⟨rfl,hk9.at_⟩
/-- Is a firm large? -/
def lrgH (t:Tm)(b:Bk):Prop:=50<t.rest.length∨100<t.clo.length∨60<b.items.length∨60<b.rules.length∨(120<t.len∧t.len≤1000)
def lrgI (b:Bk)(i:Nat):Bool:=decide (30<(gIt b.items i).parts.length∨30<(gIt b.items i).has.length)
def lrgR (b:Bk)(i:Nat):Bool:=decide (30<(gRl b.rules i).iff.length)
instance (t:Tm) (b:Bk):Decidable (lrgH t b):=by unfold lrgH;exact inferInstance
def lrg (t:Tm)(b:Bk):Bool:=decide (lrgH t b) || (anyTo (lrgI b) b.items.length || anyTo (lrgR b) b.rules.length)
theorem lrg_head {t:Tm}{b:Bk}(h:lrgH t b):lrg t b=true:=by unfold lrg;rw [decide_eq_true h];rfl
theorem lrg_rest {t:Tm}{b:Bk}(h:¬ lrgH t b):lrg t b=(anyTo (lrgI b) b.items.length || anyTo (lrgR b) b.rules.length):=by unfold lrg;rw [decide_eq_false h];rfl
theorem anyTo_up {p:Nat→Bool}{k n:Nat}(hk:k<n)(h:p k=true):anyTo p n=true:=by
 induction n with
 | zero=>omega
 | succ n ih =>
  simp only [anyTo]
  by_cases e:k=n
  ·subst e;rw [h];simp
  ·rw [ih (by omega)];simp
theorem large_any (t : Tm) (c : Cy) (b : Bk) (F : Nat → Prop) (A1 A2 B1 B2 : Option Addr) (c1 c2 d1 d2 : Nat) (hp hq hr : Nat → SlH) (w : World) (hR : RBk F w B1 B2 b hp hq hr) :
    Calls Tryz.prog 34 #[.agg #[.int .i64 t.len, .slice A1 t.rest.length c1, .slice A2 t.clo.length c2, .int .i64 c.n, .int .i64 c.f, .int .i64 c.k, .int .i64 b.props, .slice B1 b.items.length d1, .slice B2 b.rules.length d2]] w fun e w' => e = .returned (.bool (lrg t b)) ∧ Below w.heap.size w w' := by
  obtain ⟨LB, hLB⟩ : ∃ LB, LB = lrg t b := ⟨_, rfl⟩
  rw [← hLB]
  have HLB := Lib.hid hLB
  clear hLB
  obtain ⟨w2, hw2⟩ : ∃ w2, (w.alloc (.cells #[.int .i64 t.len, .slice A1 t.rest.length c1, .slice A2 t.clo.length c2, .int .i64 c.n, .int .i64 c.f, .int .i64 c.k, .int .i64 b.props, .slice B1 b.items.length d1, .slice B2 b.rules.length d2] 32)).alloc (.cells #[.int .i64 b.props, .slice B1 b.items.length d1, .slice B2 b.rules.length d2] 30) = w2 := ⟨_, rfl⟩
  have hy : Below w.heap.size w w2 := by rw [← hw2]; exact ((Below.refl _ w).alloc (Nat.le_refl _) _).alloc (by simp) _
  have b1 : Box w2 (w.heap.size + 1) #[.int .i64 b.props, .slice B1 b.items.length d1, .slice B2 b.rules.length d2] := by rw [← hw2]; exact (Box.new (w.alloc _) _ _).at' (by simp)
  have b0 : Box w2 w.heap.size #[.int .i64 t.len, .slice A1 t.rest.length c1, .slice A2 t.clo.length c2, .int .i64 c.n, .int .i64 c.f, .int .i64 c.k, .int .i64 b.props, .slice B1 b.items.length d1, .slice B2 b.rules.length d2] := by rw [← hw2]; exact (Box.new w _ _).alloc _
  have hR2 := hR.below hy
  have x0 := b0.cell 0; have x1 := b0.cell 1; have x2 := b0.cell 2
  have z1 := b1.cell 1; have z2 := b1.cell 2
  simp only [List.getElem?_toArray, List.getElem?_cons_zero, List.getElem?_cons_succ] at x0 x1 x2 z1 z2
  by_cases e0 : 50 < t.rest.length
  · have f0 : decide ((50 : Int) < (t.rest.length : Int)) = true := by rw [decide_eq_true_eq]; omega
    have HL := HLB.out.trans (lrg_head (.inl e0))
    subst HL
    go_enter Tryz.func34, Tryz.ntmps34
    go_wp2_with fail
    (try rw [hw2])
    go_ret
    exact ⟨rfl, hy⟩
  have f0 : decide ((50 : Int) < (t.rest.length : Int)) = false := by rw [decide_eq_false_iff_not]; omega
  by_cases e1 : 100 < t.clo.length
  · have f1 : decide ((100 : Int) < (t.clo.length : Int)) = true := by rw [decide_eq_true_eq]; omega
    have HL := HLB.out.trans (lrg_head (.inr (.inl e1)))
    subst HL
    go_enter Tryz.func34, Tryz.ntmps34
    go_wp2_with fail
    (try rw [hw2])
    go_ret
    exact ⟨rfl, hy⟩
  have f1 : decide ((100 : Int) < (t.clo.length : Int)) = false := by rw [decide_eq_false_iff_not]; omega
  by_cases e2 : 60 < b.items.length
  · have f2 : decide ((60 : Int) < (b.items.length : Int)) = true := by rw [decide_eq_true_eq]; omega
    have HL := HLB.out.trans (lrg_head (.inr (.inr (.inl e2))))
    subst HL
    go_enter Tryz.func34, Tryz.ntmps34
    go_wp2_with fail
    (try rw [hw2])
    go_ret
    exact ⟨rfl, hy⟩
  have f2 : decide ((60 : Int) < (b.items.length : Int)) = false := by rw [decide_eq_false_iff_not]; omega
  by_cases e3 : 60 < b.rules.length
  · have f3 : decide ((60 : Int) < (b.rules.length : Int)) = true := by rw [decide_eq_true_eq]; omega
    have HL := HLB.out.trans (lrg_head (.inr (.inr (.inr (.inl e3)))))
    subst HL
    go_enter Tryz.func34, Tryz.ntmps34
    go_wp2_with fail
    (try rw [hw2])
    go_ret
    exact ⟨rfl, hy⟩
  have f3 : decide ((60 : Int) < (b.rules.length : Int)) = false := by rw [decide_eq_false_iff_not]; omega
  have hcase : (120 < t.len ∧ t.len ≤ 1000) ∨ ¬ (120 < t.len ∧ t.len ≤ 1000) := Decidable.em _
  rcases hcase with e4 | e4
  · have f4 : decide ((120 : Int) < t.len) = true := by rw [decide_eq_true_eq]; exact e4.1
    have f5 : decide (t.len ≤ (1000 : Int)) = true := by rw [decide_eq_true_eq]; exact e4.2
    have HL := HLB.out.trans (lrg_head (.inr (.inr (.inr (.inr e4)))))
    subst HL
    go_enter Tryz.func34, Tryz.ntmps34
    go_wp2_with fail
    (try rw [hw2])
    go_ret
    exact ⟨rfl, hy⟩
  have hrest := HLB.out.trans (lrg_rest (t := t) (b := b) (by unfold lrgH; omega))
  have HRE := Lib.hid hrest
  have hil : b.items.length ≤ 60 := by omega
  have hrl : b.rules.length ≤ 60 := by omega
  clear hrest HLB e0 e1 e2 e3
  by_cases e5 : 120 < t.len
  all_goals
    first
      | (have f4 : decide ((120 : Int) < t.len) = true := by rw [decide_eq_true_eq]; exact e5
         have f5 : decide (t.len ≤ (1000 : Int)) = false := by rw [decide_eq_false_iff_not]; omega)
      | (have f4 : decide ((120 : Int) < t.len) = false := by rw [decide_eq_false_iff_not]; exact e5)
    clear e4 e5
    go_enter Tryz.func34, Tryz.ntmps34
    go_wp2_with fail
    (try rw [hw2])
    clear hw2
    go_loopw [4] (fun x wr => ∃ k : Nat, k ≤ b.items.length ∧ x = .int .i64 k ∧ Hid (anyTo (lrgI b) k = false) ∧ wr = w2) (fun x _ => b.items.length - (intOf x).toNat)
    case atStart => exact ⟨0, by omega, rfl, rfl, rfl⟩
    case round =>
      obtain ⟨k, hk, rfl, HK, hwr⟩ := hrel
      have hwr' := hwr.symm; clear hwr; subst hwr'
      by_cases hlt : k < b.items.length
      · obtain ⟨ad, rfl, hab, _, d0, d1'⟩ := hR2.it.row.at_ hlt
        unfold slV at d0 d1'
        by_cases g1 : 30 < (gIt b.items k).parts.length
        · have g1' : decide ((30 : Int) < ((gIt b.items k).parts.length : Int)) = true := by rw [decide_eq_true_eq]; omega
          have HL : LB = true := by rw [HRE.out, anyTo_up hlt (by unfold lrgI; rw [decide_eq_true_eq]; exact .inl g1)]; rfl
          subst HL
          go_wp2_with fail
          go_ret
          exact ⟨rfl, hy⟩
        · have g1' : decide ((30 : Int) < ((gIt b.items k).parts.length : Int)) = false := by rw [decide_eq_false_iff_not]; omega
          by_cases g2 : 30 < (gIt b.items k).has.length
          · have g2' : decide ((30 : Int) < ((gIt b.items k).has.length : Int)) = true := by rw [decide_eq_true_eq]; omega
            have HL : LB = true := by rw [HRE.out, anyTo_up hlt (by unfold lrgI; rw [decide_eq_true_eq]; exact .inr g2)]; rfl
            subst HL
            go_wp2_with fail
            go_ret
            exact ⟨rfl, hy⟩
          · have g2' : decide ((30 : Int) < ((gIt b.items k).has.length : Int)) = false := by rw [decide_eq_false_iff_not]; omega
            have HN : Hid (anyTo (lrgI b) (k + 1) = false) := by
              show _ = _
              simp only [anyTo]
              rw [HK.out, show lrgI b k = false from by unfold lrgI; rw [decide_eq_false_iff_not]; omega]; rfl
            clear HK g1 g2
            go_wp2_with fail
            go_roundw
            case rel => exact ⟨k + 1, by omega, by go_num, HN, by first | exact rfl | trivial⟩
            case measure => simp [intOf]; omega
      · obtain rfl : k = b.items.length := by omega
        have HI := HK
        go_wp2_with fail
        go_loopw [5] (fun x wr => ∃ k : Nat, k ≤ b.rules.length ∧ x = .int .i64 k ∧ Hid (anyTo (lrgR b) k = false) ∧ wr = w2) (fun x _ => b.rules.length - (intOf x).toNat)
        case atStart => exact ⟨0, by omega, rfl, rfl, rfl⟩
        case round =>
          obtain ⟨k, hk, rfl, HK, hwr⟩ := hrel
          have hwr' := hwr.symm; clear hwr; subst hwr'
          by_cases hlt : k < b.rules.length
          · obtain ⟨ad, rfl, hab, _, d0, d1'⟩ := hR2.rl.row.at_ hlt
            unfold slV at d0
            by_cases g1 : 30 < (gRl b.rules k).iff.length
            · have g1' : decide ((30 : Int) < ((gRl b.rules k).iff.length : Int)) = true := by rw [decide_eq_true_eq]; omega
              have HL : LB = true := by rw [HRE.out, anyTo_up hlt (by unfold lrgR; rw [decide_eq_true_eq]; exact g1)]; simp
              subst HL
              go_wp2_with fail
              go_ret
              exact ⟨rfl, hy⟩
            · have g1' : decide ((30 : Int) < ((gRl b.rules k).iff.length : Int)) = false := by rw [decide_eq_false_iff_not]; omega
              have HN : Hid (anyTo (lrgR b) (k + 1) = false) := by
                show _ = _
                simp only [anyTo]
                rw [HK.out, show lrgR b k = false from by unfold lrgR; rw [decide_eq_false_iff_not]; exact g1]; rfl
              clear HK g1
              go_wp2_with fail
              go_roundw
              case rel => exact ⟨k + 1, by omega, by go_num, HN, by first | exact rfl | trivial⟩
              case measure => simp [intOf]; omega
          · obtain rfl : k = b.rules.length := by omega
            have HL : LB = false := by rw [HRE.out, HI.out, HK.out]; rfl
            subst HL
            go_wp2_with fail
            go_ret
            exact ⟨rfl, hy⟩
/-- Are texts long? -/
def lngP (l:List Wd)(i:Nat):Bool:=decide (400<(l.getD i []).length)
def lng (l:List Wd):Bool:=anyTo (lngP l) l.length || decide (300<l.length)
theorem olong_any (l:List Wd)(A:Option Addr)(c:Nat)(w:World)(hl:l.length≤9223372036854775807)(hR:RS w A l) :
  Calls Tryz.prog 35 #[.slice A l.length c] w fun e w'=>e=.returned (.bool (lng l))∧Below w.heap.size w w':=by
 obtain ⟨LB,hLB⟩:∃LB,LB=lng l:=⟨_,rfl⟩
 rw [← hLB]
 have HLB:=Lib.hid hLB
 clear hLB
 go_enter Tryz.func35,Tryz.ntmps35
 go_wp2_with fail
 go_loopw [3] (fun x wr=>∃k:Nat,k≤l.length∧x=.int .i64 k∧Hid (anyTo (lngP l) k=false)∧wr=w) (fun x _=>l.length-(intOf x).toNat)
 case atStart=>exact ⟨0,by omega,rfl,rfl,rfl⟩
 case round =>
  obtain ⟨k,hk,rfl,HK,hwr⟩:=hrel
  have hwr':=hwr.symm;clear hwr;subst hwr'
  by_cases hlt:k<l.length
  ·obtain ⟨ad,rfl,hab,d0⟩:=RS.at_ hR hlt
   have hgD:l.getD k []=l[k]'hlt:=by rw [List.getD_eq_getElem?_getD,List.getElem?_eq_getElem hlt];rfl
   have HGD:=Lib.hid hgD
   clear hgD
   obtain ⟨y,hy'⟩:∃y,y=l[k]'hlt:=⟨_,rfl⟩
   rw [← hy'] at d0 HGD
   clear hy'
   by_cases g1:400<y.length
   ·have g1':decide ((400:Int)<(y.length:Int))=true:=by rw [decide_eq_true_eq];omega
    have HL:LB=true:=by rw [HLB.out];unfold lng;rw [anyTo_up hlt (by unfold lngP;rw [HGD.out,decide_eq_true_eq];exact g1)];rfl
    subst HL
    go_wp2_with fail
    go_ret
    exact ⟨rfl,Below.refl _ _⟩
   ·have g1':decide ((400:Int)<(y.length:Int))=false:=by rw [decide_eq_false_iff_not];omega
    have HN:Hid (anyTo (lngP l) (k+1)=false):=by
     show _=_
     simp only [anyTo]
     rw [HK.out,show lngP l k=false from by unfold lngP;rw [HGD.out,decide_eq_false_iff_not];exact g1];rfl
    clear HK g1
    go_wp2_with fail
    go_roundw
    case rel=>exact ⟨k+1,by omega,by go_num,HN,by first | exact rfl | trivial⟩
    case measure=>simp [intOf];omega
  ·obtain rfl:k=l.length:=by omega
   have HL:LB=decide ((300:Int)<(l.length:Int)):=by rw [HLB.out];unfold lng;rw [HK.out,Bool.false_or,decide_eq_decide];omega
   subst HL
   go_wp2_with fail
   go_ret
   exact ⟨rfl,Below.refl _ _⟩
theorem rparse_len (s:Wd)(hl:s.length<1∨60<s.length)(hs:s.length≤1000000000)(w:World):Calls Tryz.prog 134 #[St s] w (RetQ s w):=by
 obtain ⟨w2,hw2⟩:∃w2,w.alloc (.cells #[St [],St [],.slice none 0 0] 198)=w2:=⟨_,rfl⟩
 have hy:Below w.heap.size w w2:=by rw [← hw2];exact (Below.refl _ w).alloc (Nat.le_refl _) _
 have b0:Box w2 w.heap.size #[St [],St [],.slice none 0 0]:=by rw [← hw2];exact Box.new w _ _
 have hs2:w.heap.size<w2.heap.size:=b0.lt
 have z0:=b0.cell 0;have z1:=b0.cell 1;have z2:=b0.cell 2
 have g0:=b0.free 0;have g1:=b0.free 1;have g2:=b0.free 2
 simp only [gqA,gqB,gqC] at z0 z1 z2
 have hz3:Below w.heap.size w (((w2.setCell ⟨w.heap.size,0,none⟩ (St [])).setCell ⟨w.heap.size,1,none⟩ (St [])).setCell ⟨w.heap.size,2,none⟩ (.slice none 0 0)):=((hy.setCell (p:=⟨w.heap.size,0,none⟩) (Nat.le_refl _) _).setCell (p:=⟨w.heap.size,1,none⟩) (Nat.le_refl _) _).setCell (p:=⟨w.heap.size,2,none⟩) (Nat.le_refl _) _
 have hno:=rOk_len hl
 by_cases h1:s.length<1
 ·have l1:s=[]:=List.eq_nil_of_length_eq_zero (by omega)
  subst l1
  go_enter Tryz.func134,Tryz.ntmps134
  go_wp2_with fail
  (try simp only [Exit.inBlock,Exit.then])
  refine bodyPost_ret (v:=.tuple #[.agg #[St [],St [],.slice none 0 0],.bool false]) ?_ rfl (RetQ.no hno hz3)
  first | (rw [results_cell_tmp rfl];done) | (rw [results_cell_tmp rfl];go_simp)
 ·have h1':decide ((s.length:Int)<1)=false:=by rw [decide_eq_false_iff_not];omega
  have h60':decide ((60:Int)<(s.length:Int))=true:=by rw [decide_eq_true_eq];omega
  go_enter Tryz.func134,Tryz.ntmps134
  go_wp2_with fail
  (try simp only [Exit.inBlock,Exit.then])
  refine bodyPost_ret (v:=.tuple #[.agg #[St [],St [],.slice none 0 0],.bool false]) ?_ rfl (RetQ.no hno hz3)
  first | (rw [results_cell_tmp rfl];done) | (rw [results_cell_tmp rfl];go_simp)
end Go.Proofs.YtiapkffihpgdcaaGreatDoor
