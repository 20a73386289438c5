import Derived.Test.YtiapkffihpgdcaaGreatDoorQC10
import Derived.Test.YtiapkffihpgdcaaGreatDoorQC11
import Derived.Test.YtiapkffihpgdcaaGreatDoorQC12
import Derived.Test.YtiapkffihpgdcaaGreatDoorQC19
set_option linter.unusedVariables false
set_option linter.unusedSimpArgs false
set_option maxRecDepth 100000
set_option maxHeartbeats 4000000
namespace Go.Proofs.YtiapkffihpgdcaaGreatDoor
open Go.RowKit
theorem RN.lit3 (w:World)(a b c:Int)(t:TypeId):RN (w.alloc (.cells #[.int .i64 a,.int .i64 b,.int .i64 c] t)) (some ⟨w.heap.size,0,none⟩) [a,b,c]:=by
 refine ⟨rfl,fun _=>⟨_,rfl,by simp,fun j u hu=>?_⟩⟩
 have:=World.news_of_block (w:=w.alloc (.cells #[.int .i64 a,.int .i64 b,.int .i64 c] t)) (cs:=#[.int .i64 a,.int .i64 b,.int .i64 c]) (t:=t) (fr:=(0,0)) (heap_alloc_new w _) j u (by simpa [ints] using hu)
 exact this
/-- What New leaves where there is a reason. -/
theorem or3_any (a b c:Int)(t:TypeId)(w:World):Calls Tryz.prog 64 #[.slice (some ⟨w.heap.size,0,none⟩) 3 3] (w.alloc (.cells #[.int .i64 a,.int .i64 b,.int .i64 c] t))
  fun e w'=>e=.returned (.int .i64 (orI [a,b,c]))∧w.alloc (.cells #[.int .i64 a,.int .i64 b,.int .i64 c] t)=w' :=
 or_any [a,b,c] (by simp) _ 3 _ (RN.lit3 w a b c t)
def RetNew (w:World)(E:Int)(t:Tm)(c:Cy)(b:Bk)(e:Ending)(w':World):Prop :=
 (E≠0∧e=.returned (.tuple #[.pointer none,.int .i64 E])∧Below w.heap.size w w') ∨
 (E=0∧∃g h,e=.returned (.tuple #[.pointer (some ⟨g,0,none⟩),.int .i64 0])∧PO 0 0 w' (fun k=>w.heap.size≤k∧k<w'.heap.size) g h (new0 t c b)∧Below w.heap.size w w')
theorem new_any (t:Tm)(c:Cy)(b:Bk)(hlr:t.rest.length≤1000000000)(hlc:t.clo.length≤1000000000)(hL:BkLen b)(A1 A2:Option Addr)(c1 c2:Nat)(F0:Nat→Prop)(B1 B2:Option Addr)(d1 d2:Nat)(hp hq hr:Nat→SlH)(w:World)
  (h1:RN w A1 t.rest) (h2:RN w A2 t.clo) (hR:RBk F0 w B1 B2 b hp hq hr) (h7:7≤w.heap.size) :
  Calls Tryz.prog 20 #[.agg #[.int .i64 t.len,.slice A1 t.rest.length c1,.slice A2 t.clo.length c2],.agg #[.int .i64 c.n,.int .i64 c.f,.int .i64 c.k],.agg #[.int .i64 b.props,.slice B1 b.items.length d1,.slice B2 b.rules.length d2]] w (RetNew w (newE t c b) t c b):=by
 obtain ⟨E,hE⟩:∃E,E=newE t c b:=⟨_,rfl⟩
 rw [← hE]
 have HE:=Lib.hid hE
 clear hE
 obtain ⟨w2,hw2⟩:∃w2,(((w.alloc (.cells #[.int .i64 t.len,.slice A1 t.rest.length c1,.slice A2 t.clo.length c2] 24)).alloc (.cells #[.int .i64 c.n,.int .i64 c.f,.int .i64 c.k] 26)).alloc (.cells #[.int .i64 b.props,.slice B1 b.items.length d1,.slice B2 b.rules.length d2] 30))=w2:=⟨_,rfl⟩
 have hy:Below w.heap.size w w2:=by rw [← hw2];exact (((Below.refl _ w).alloc (Nat.le_refl _) _).alloc (by simp) _).alloc (by simp;omega) _
 have b0:Box w2 w.heap.size #[.int .i64 t.len,.slice A1 t.rest.length c1,.slice A2 t.clo.length c2]:=by rw [← hw2];exact ((Box.new w _ _).alloc _).alloc _
 have b1:Box w2 (w.heap.size+1) #[.int .i64 c.n,.int .i64 c.f,.int .i64 c.k]:=by rw [← hw2];exact ((Box.new (w.alloc (.cells #[.int .i64 t.len,.slice A1 t.rest.length c1,.slice A2 t.clo.length c2] 24)) _ _).at' (by simp)).alloc _
 have b2:Box w2 (w.heap.size+1+1) #[.int .i64 b.props,.slice B1 b.items.length d1,.slice B2 b.rules.length d2]:=by rw [← hw2];exact (Box.new ((w.alloc (.cells #[.int .i64 t.len,.slice A1 t.rest.length c1,.slice A2 t.clo.length c2] 24)).alloc (.cells #[.int .i64 c.n,.int .i64 c.f,.int .i64 c.k] 26)) _ _).at' (by simp)
 have hsz:w2.heap.size=w.heap.size+3:=by rw [← hw2];simp
 have r1:=h1.below hy
 have r2:=h2.below hy
 have r3:=hR.below hy
 have hs2:w.heap.size+1+1<w2.heap.size:=by omega
 clear hsz
 have x0:=b0.cell 0;have x1:=b0.cell 1;have x2:=b0.cell 2
 have y0:=b1.cell 0;have y1:=b1.cell 1;have y2:=b1.cell 2
 have z0:=b2.cell 0;have z1:=b2.cell 1;have z2:=b2.cell 2
 simp only [gqA,gqB,gqC] at x0 x1 x2 y0 y1 y2 z0 z1 z2
 go_enter Tryz.func20,Tryz.ntmps20
 go_wp2_with fail
 clear hw2
 go_cut [8] (fun s wx=>s=.int .i64 E∧Box wx w.heap.size #[.int .i64 t.len,.slice A1 t.rest.length c1,.slice A2 t.clo.length c2]∧Box wx (w.heap.size+1) #[.int .i64 c.n,.int .i64 c.f,.int .i64 c.k]∧Box wx (w.heap.size+1+1) #[.int .i64 b.props,.slice B1 b.items.length d1,.slice B2 b.rules.length d2]∧Below w2.heap.size w2 wx)
 case first =>
  go_region_held3 (fun w'=>w'.cell? ⟨w.heap.size,0,none⟩=some (.int .i64 t.len)∧w'.cell? ⟨w.heap.size,1,none⟩=some (.slice A1 t.rest.length c1)∧w'.cell? ⟨w.heap.size,2,none⟩=some (.slice A2 t.clo.length c2)∧w'.cell? ⟨w.heap.size+1,0,none⟩=some (.int .i64 c.n)∧w'.cell? ⟨w.heap.size+1,1,none⟩=some (.int .i64 c.f)∧w'.cell? ⟨w.heap.size+1,2,none⟩=some (.int .i64 c.k)∧w'.cell? ⟨w.heap.size+1+1,0,none⟩=some (.int .i64 b.props)∧w'.cell? ⟨w.heap.size+1+1,1,none⟩=some (.slice B1 b.items.length d1)∧w'.cell? ⟨w.heap.size+1+1,2,none⟩=some (.slice B2 b.rules.length d2))
   (first | go_keep | exact ⟨k0,k1,k2,k3,k4,k5,k6,k7,k8⟩ | exact ⟨m0 _,m1 _,m2 _,m3 _,m4 _,m5 _,m6 _,m7 _,m8 _⟩)
   (first
    | (go_at_call 65;(with_reducible refine (tvalidate_any t A1 A2 c1 c2 _ ?_ ?_ hlr hlc).mono ?_);exact r1;exact r2;rintro e wA ⟨rfl,hbA⟩;have hA:Below w2.heap.size w2 wA:=((Below.refl w2.heap.size w2).drew).trans hbA;have hsA:=hA.size;have e0:=b0.keep hA (by omega);have e1:=b1.keep hA (by omega);have e2:=b2.keep hA (by omega);have k0:=e0.cell 0;have k1:=e0.cell 1;have k2:=e0.cell 2;have k3:=e1.cell 0;have k4:=e1.cell 1;have k5:=e1.cell 2;have k6:=e2.cell 0;have k7:=e2.cell 1;have k8:=e2.cell 2;simp only [gqA,gqB,gqC] at k0 k1 k2 k3 k4 k5 k6 k7 k8)
    | (go_at_call 66;(with_reducible refine (cvalidate_any c _).mono ?_);rintro e wB ⟨rfl,hbB⟩;have hB:Below w2.heap.size w2 wB:=hA.trans (hbB.mono hsA);have hsB:=hB.size;have e0:=b0.keep hB (by omega);have e1:=b1.keep hB (by omega);have e2:=b2.keep hB (by omega);have k0:=e0.cell 0;have k1:=e0.cell 1;have k2:=e0.cell 2;have k3:=e1.cell 0;have k4:=e1.cell 1;have k5:=e1.cell 2;have k6:=e2.cell 0;have k7:=e2.cell 1;have k8:=e2.cell 2;simp only [gqA,gqB,gqC] at k0 k1 k2 k3 k4 k5 k6 k7 k8)
    | (go_at_call 67;(with_reducible refine (validBk_any b hL F0 B1 B2 d1 d2 hp hq hr _ ?_).mono ?_);exact r3.below hB;rintro e wC ⟨rfl,hbC⟩;have hC:Below w2.heap.size w2 wC:=hB.trans (hbC.mono hsB);have hsC:=hC.size;have e0:=b0.keep hC (by omega);have e1:=b1.keep hC (by omega);have e2:=b2.keep hC (by omega);have k0:=e0.cell 0;have k1:=e0.cell 1;have k2:=e0.cell 2;have k3:=e1.cell 0;have k4:=e1.cell 1;have k5:=e1.cell 2;have k6:=e2.cell 0;have k7:=e2.cell 1;have k8:=e2.cell 2;simp only [gqA,gqB,gqC] at k0 k1 k2 k3 k4 k5 k6 k7 k8;have m0:=fun (o:Obj)=>(World.cell?_alloc_lt wC o ⟨w.heap.size,0,none⟩ (show w.heap.size<wC.heap.size by omega)).trans k0;have m1:=fun (o:Obj)=>(World.cell?_alloc_lt wC o ⟨w.heap.size,1,none⟩ (show w.heap.size<wC.heap.size by omega)).trans k1;have m2:=fun (o:Obj)=>(World.cell?_alloc_lt wC o ⟨w.heap.size,2,none⟩ (show w.heap.size<wC.heap.size by omega)).trans k2;have m3:=fun (o:Obj)=>(World.cell?_alloc_lt wC o ⟨w.heap.size+1,0,none⟩ (show w.heap.size+1<wC.heap.size by omega)).trans k3;have m4:=fun (o:Obj)=>(World.cell?_alloc_lt wC o ⟨w.heap.size+1,1,none⟩ (show w.heap.size+1<wC.heap.size by omega)).trans k4;have m5:=fun (o:Obj)=>(World.cell?_alloc_lt wC o ⟨w.heap.size+1,2,none⟩ (show w.heap.size+1<wC.heap.size by omega)).trans k5;have m6:=fun (o:Obj)=>(World.cell?_alloc_lt wC o ⟨w.heap.size+1+1,0,none⟩ (show w.heap.size+1+1<wC.heap.size by omega)).trans k6;have m7:=fun (o:Obj)=>(World.cell?_alloc_lt wC o ⟨w.heap.size+1+1,1,none⟩ (show w.heap.size+1+1<wC.heap.size by omega)).trans k7;have m8:=fun (o:Obj)=>(World.cell?_alloc_lt wC o ⟨w.heap.size+1+1,2,none⟩ (show w.heap.size+1+1<wC.heap.size by omega)).trans k8)
    | (go_at_call 64;(with_reducible refine (or3_any (tE t) (cE c) (bkE b) _ wC).mono ?_);rintro e wD ⟨rfl,hwD⟩;subst hwD;have HEX:=HE.out;rw [orI_new,← HEX];clear HEX))
  go_wp2_with fail
  go_meet
  exact ⟨rfl,(b0.keep hC (by omega)).alloc _,(b1.keep hC (by omega)).alloc _,(b2.keep hC (by omega)).alloc _,hC.alloc hsC _⟩
 case rest =>
  clear x0 x1 x2 y0 y1 y2 z0 z1 z2 b0 b1 b2
  obtain ⟨rfl,b0,b1,b2,hbx⟩:=hcut
  obtain ⟨wz,hwz⟩:∃wz,wz=wc:=⟨_,rfl⟩
  rw [← hwz] at b0 b1 b2 hbx ⊢
  clear hwz
  have hyx:=hy.trans (hbx.mono hy.size)
  by_cases hz:E=0
  ·subst hz
   have hne:=HE.out.symm
   obtain ⟨ht,hc,hb⟩:=newE_ok hne
   clear hne
   have x0:=b0.cell 0;have x1:=b0.cell 1;have x2:=b0.cell 2
   have y0:=b1.cell 0;have y1:=b1.cell 1;have y2:=b1.cell 2
   have z0:=b2.cell 0;have z1:=b2.cell 1;have z2:=b2.cell 2
   simp only [gqA,gqB,gqC] at x0 x1 x2 y0 y1 y2 z0 z1 z2
   have r1:=h1.below hyx
   have r2:=h2.below hyx
   have r3:=hR.below hyx
   have hsx:=hbx.size
   go_wp2_with fail
   have hmm:=@run_makeMap Tryz.prog
   go_cut [9] (fun s wx=>NewCut wz.heap.size t c b s wx∧Below wz.heap.size wz wx)
   case first =>
    go_region_held3 (fun w'=>w'.cell? ⟨w.heap.size,0,none⟩=some (.int .i64 t.len)∧w'.cell? ⟨w.heap.size,1,none⟩=some (.slice A1 t.rest.length c1)∧w'.cell? ⟨w.heap.size,2,none⟩=some (.slice A2 t.clo.length c2)∧w'.cell? ⟨w.heap.size+1,0,none⟩=some (.int .i64 c.n)∧w'.cell? ⟨w.heap.size+1,1,none⟩=some (.int .i64 c.f)∧w'.cell? ⟨w.heap.size+1,2,none⟩=some (.int .i64 c.k)∧w'.cell? ⟨w.heap.size+1+1,0,none⟩=some (.int .i64 b.props)∧w'.cell? ⟨w.heap.size+1+1,1,none⟩=some (.slice B1 b.items.length d1)∧w'.cell? ⟨w.heap.size+1+1,2,none⟩=some (.slice B2 b.rules.length d2))
     (first | go_keep | exact ⟨k0,k1,k2,k3,k4,k5,k6,k7,k8⟩ | exact ⟨m0 _,m1 _,m2 _,m3 _,m4 _,m5 _,m6 _,m7 _,m8 _⟩)
     (first
      | (go_at_call 68;(with_reducible refine (copyTerm_any t A1 A2 c1 c2 _ ?_ ?_ hlr hlc).mono ?_);exact r1.below (by repeat (first | exact Below.refl _ _ | refine Below.drew ?_ | refine Below.alloc ?_ (by first | omega | (simp;omega) | simp) _):Below wz.heap.size wz _);exact r2.below (by repeat (first | exact Below.refl _ _ | refine Below.drew ?_ | refine Below.alloc ?_ (by first | omega | (simp;omega) | simp) _):Below wz.heap.size wz _);rintro e wT ⟨TA,Tc,TA',Tc',rfl,ownT,ownT',hbT⟩;have hT:Below wz.heap.size wz wT:=(by repeat (first | exact Below.refl _ _ | refine Below.drew ?_ | refine Below.alloc ?_ (by first | omega | (simp;omega) | simp) _):Below wz.heap.size wz _).trans (hbT.mono (by first | omega | (simp;omega) | simp));have hsT:=hT.size;have e0:=b0.keep hT (by omega);have e1:=b1.keep hT (by omega);have e2:=b2.keep hT (by omega);have k0:=e0.cell 0;have k1:=e0.cell 1;have k2:=e0.cell 2;have k3:=e1.cell 0;have k4:=e1.cell 1;have k5:=e1.cell 2;have k6:=e2.cell 0;have k7:=e2.cell 1;have k8:=e2.cell 2;simp only [gqA,gqB,gqC] at k0 k1 k2 k3 k4 k5 k6 k7 k8;have m0:=fun (o:Obj)=>(World.cell?_alloc_lt wT o ⟨w.heap.size,0,none⟩ (show w.heap.size<wT.heap.size by omega)).trans k0;have m1:=fun (o:Obj)=>(World.cell?_alloc_lt wT o ⟨w.heap.size,1,none⟩ (show w.heap.size<wT.heap.size by omega)).trans k1;have m2:=fun (o:Obj)=>(World.cell?_alloc_lt wT o ⟨w.heap.size,2,none⟩ (show w.heap.size<wT.heap.size by omega)).trans k2;have m3:=fun (o:Obj)=>(World.cell?_alloc_lt wT o ⟨w.heap.size+1,0,none⟩ (show w.heap.size+1<wT.heap.size by omega)).trans k3;have m4:=fun (o:Obj)=>(World.cell?_alloc_lt wT o ⟨w.heap.size+1,1,none⟩ (show w.heap.size+1<wT.heap.size by omega)).trans k4;have m5:=fun (o:Obj)=>(World.cell?_alloc_lt wT o ⟨w.heap.size+1,2,none⟩ (show w.heap.size+1<wT.heap.size by omega)).trans k5;have m6:=fun (o:Obj)=>(World.cell?_alloc_lt wT o ⟨w.heap.size+1+1,0,none⟩ (show w.heap.size+1+1<wT.heap.size by omega)).trans k6;have m7:=fun (o:Obj)=>(World.cell?_alloc_lt wT o ⟨w.heap.size+1+1,1,none⟩ (show w.heap.size+1+1<wT.heap.size by omega)).trans k7;have m8:=fun (o:Obj)=>(World.cell?_alloc_lt wT o ⟨w.heap.size+1+1,2,none⟩ (show w.heap.size+1+1<wT.heap.size by omega)).trans k8)
      | (go_at_call 69;(with_reducible refine (copyBook_any b hb hL F0 B1 B2 d1 d2 hp hq hr _ ?_).mono ?_);exact r3.below (hT.trans (by repeat (first | exact Below.refl _ _ | refine Below.drew ?_ | refine Below.alloc ?_ (by first | omega | (simp;omega) | simp) _):Below wz.heap.size wT _));rintro e wU ⟨UA,Uc,UA',Uc',up,uq,ur,rfl,rdU,hbU⟩;have hU:Below wz.heap.size wz wU:=hT.trans ((by repeat (first | exact Below.refl _ _ | refine Below.drew ?_ | refine Below.alloc ?_ (by first | omega | (simp;omega) | simp) _):Below wz.heap.size wT _).trans (hbU.mono (by first | omega | (simp;omega) | simp)));have hsU:=hU.size;have e0:=b0.keep hU (by omega);have e1:=b1.keep hU (by omega);have e2:=b2.keep hU (by omega);have k0:=e0.cell 0;have k1:=e0.cell 1;have k2:=e0.cell 2;have k3:=e1.cell 0;have k4:=e1.cell 1;have k5:=e1.cell 2;have k6:=e2.cell 0;have k7:=e2.cell 1;have k8:=e2.cell 2;simp only [gqA,gqB,gqC] at k0 k1 k2 k3 k4 k5 k6 k7 k8;have m0:=fun (o:Obj)=>(World.cell?_alloc_lt wU o ⟨w.heap.size,0,none⟩ (show w.heap.size<wU.heap.size by omega)).trans k0;have m1:=fun (o:Obj)=>(World.cell?_alloc_lt wU o ⟨w.heap.size,1,none⟩ (show w.heap.size<wU.heap.size by omega)).trans k1;have m2:=fun (o:Obj)=>(World.cell?_alloc_lt wU o ⟨w.heap.size,2,none⟩ (show w.heap.size<wU.heap.size by omega)).trans k2;have m3:=fun (o:Obj)=>(World.cell?_alloc_lt wU o ⟨w.heap.size+1,0,none⟩ (show w.heap.size+1<wU.heap.size by omega)).trans k3;have m4:=fun (o:Obj)=>(World.cell?_alloc_lt wU o ⟨w.heap.size+1,1,none⟩ (show w.heap.size+1<wU.heap.size by omega)).trans k4;have m5:=fun (o:Obj)=>(World.cell?_alloc_lt wU o ⟨w.heap.size+1,2,none⟩ (show w.heap.size+1<wU.heap.size by omega)).trans k5;have m6:=fun (o:Obj)=>(World.cell?_alloc_lt wU o ⟨w.heap.size+1+1,0,none⟩ (show w.heap.size+1+1<wU.heap.size by omega)).trans k6;have m7:=fun (o:Obj)=>(World.cell?_alloc_lt wU o ⟨w.heap.size+1+1,1,none⟩ (show w.heap.size+1+1<wU.heap.size by omega)).trans k7;have m8:=fun (o:Obj)=>(World.cell?_alloc_lt wU o ⟨w.heap.size+1+1,2,none⟩ (show w.heap.size+1+1<wU.heap.size by omega)).trans k8))
    all_goals go_wp2_with fail
    all_goals
     go_meet
     have z0:=hyx.size
     have z1:=hbT.size
     have z2:=hbU.size
     (try simp at z1)
     (try simp at z2)
     have hRA:RNF (Fr wz.heap.size wT) wT TA t.rest:=ReadsF.of_own' ownT (fun k h1 h2=>⟨Nat.le_trans (by first | omega | (simp;omega) | simp) h1,h2⟩)
     have hRA':RNF (Fr wz.heap.size wT) wT TA' t.clo:=ReadsF.of_own' ownT' (fun k h1 h2=>⟨Nat.le_trans (by first | omega | (simp;omega) | simp) h1,h2⟩)
     have hRU:RBk (Fr wz.heap.size wU) wU UA UA' b up uq ur:=rdU.fresh (wz.heap.size) (by first | omega | (simp;omega) | simp)
     refine ⟨NewCut.of (TA,Tc) (TA',Tc') (UA,Uc) (UA',Uc') (hp:=up) (hq:=uq) (hr:=ur) ?_ ?_ ?_ ?_ ?_ ?_ ?_ ?_ ?_ ?_,?_⟩
     ·first | with_reducible rfl | simp
     ·first | omega | (simp;omega) | simp
     ·(repeat (first | with_reducible exact hRA | with_reducible refine rnf_be ?_ hbU | with_reducible refine rnf_al ?_ _ | with_reducible refine rnf_dr ?_))
     ·(repeat (first | with_reducible exact hRA' | with_reducible refine rnf_be ?_ hbU | with_reducible refine rnf_al ?_ _ | with_reducible refine rnf_dr ?_))
     ·(repeat (first | with_reducible exact hRU | with_reducible refine rbk_al ?_ _ | with_reducible refine rbk_dr ?_))
     ·(repeat (first | ((with_reducible refine mp_made' ?_);(first | with_reducible rfl | (simp;done))) | with_reducible refine mp_be ?_ hbU | with_reducible refine mp_be ?_ hbT | with_reducible refine mp_al ?_ _ | with_reducible refine mp_dr ?_))
     ·(repeat (first | ((with_reducible refine mp_made' ?_);(first | with_reducible rfl | (simp;done))) | with_reducible refine mp_be ?_ hbU | with_reducible refine mp_be ?_ hbT | with_reducible refine mp_al ?_ _ | with_reducible refine mp_dr ?_))
     ·first | omega | (simp;omega) | simp
     ·first | omega | (simp;omega) | simp
     ·first | omega | (simp;omega) | simp
     ·exact (by repeat (first | with_reducible exact hU | with_reducible exact Below.refl _ _ | with_reducible refine Below.drew ?_ | with_reducible refine Below.alloc ?_ (by first | omega | (simp;omega) | simp) _))
   case rest =>
    obtain ⟨hcut1,hbn⟩:=hcut
    obtain ⟨g,tr,tc,bi,br,up,uq,ur,ck,et,rfl,hgs,hBg,bN,k1,k2,k3,m1,m2,hck,het,hce⟩:=hcut1
    clear x0 x1 x2 y0 y1 y2 z0 z1 z2 r1 r2 r3
    have hyn:=hyx.trans (hbn.mono hyx.size)
    have b0n:=b0.keep hbn (by omega)
    have b1n:=b1.keep hbn (by omega)
    have x0:=b0n.cell 0
    simp only [gqA,gqB,gqC] at x0
    have hl2:=ht.len2
    have hl1:=ht.len1
    obtain ⟨dn,hdn⟩:∃dn:Nat,t.len=dn:=⟨t.len.toNat,by omega⟩
    rw [hdn] at x0
    have hd1:1≤dn∧dn≤1000:=by omega
    have hgw:w.heap.size+1+1<g:=by omega
    have HDN:=Lib.hid hdn
    have HGS:=Lib.hid hgs
    have hgs2:g<wc.heap.size:=by omega
    have hbE:bE t c=0:=by unfold bE;rw [if_neg (by rw [ht.to];decide)];exact hc.to
    have HBE:=Lib.hid hbE
    clear b0 b1 b2 hdn hgs hl1 hl2 hbE hmm
    go_wp2_with fail
    go_loopw [35] (fun x wr=>∃(k:Nat) (A:Option Addr) (cp:Nat),k≤dn∧x=.int .i64 k∧Box wr g (cellsN t c b tr tc bi br ck et (.slice A k cp))∧wr.ownsRow (g+1) 3 1 (.slice A k cp) k (ints ((List.range k).map (mnAt t c)))∧Below g wc wr) (fun x _=>dn-(intOf x).toNat)
    case atStart=>exact ⟨0,none,0,by omega,rfl,bN,World.ownsRow_nil _ _ _ _,Below.refl _ _⟩
    case round =>
     obtain ⟨k,A,cp,hkd,rfl,bR,own,hbr⟩:=hrel
     have hsr:=hbr.size
     have hwr:Below w.heap.size w wr:=hyn.trans (hbr.mono (by omega))
     by_cases hlt:k<dn
     ·have e0:=b0n.keep hbr (by omega)
      have e1:=b1n.keep hbr (by omega)
      have x1:=e0.cell 0;have x2:=e0.cell 1;have x3:=e0.cell 2
      have y1:=e1.cell 0;have y2:=e1.cell 1;have y3:=e1.cell 2
      simp only [gqA,gqB,gqC] at x1 x2 x3 y1 y2 y3
      have hib:inB (k:Int) 0 (t.len-1)=true:=inB_true.2 ⟨by omega,by rw [HDN.out];omega⟩
      have hcon:=menu_any c (k:Int) t A1 A2 c1 c2 wr (h1.below hwr) (h2.below hwr) hlr hlc
      have hsuc:ints ((List.range (k+1)).map (mnAt t c))=ints ((List.range k).map (mnAt t c)) ++ [.int .i64 (mnAt t c k)]:=by rw [List.range_succ,List.map_append];simp [ints]
      have HSUC:=Lib.hid hsuc
      obtain ⟨M,hM⟩:∃M,M=mnAt t c k:=⟨_,rfl⟩
      have HM:=Lib.hid hM
      cases hop:opB t k with
      | true =>
       have q1:menuE t c k=0:=menuE_open HBE.out hib (by simpa using hop)
       have q2:menuR t c k=M:=by rw [menuR_yes q1,hM];simp
       rw [q1,q2] at hcon
       have HC:=Lib.hid hcon
       clear hcon hsuc q1 q2 hM hib hop
       go_wp2_with (first
        | (go_at_call 50;(with_reducible refine HC.out.mono ?_);rintro e w5 ⟨rfl,hb5⟩;have b5:=bR.below hb5;have u1:=b5.cell 11;have u2:=b5.free 11;simp only [cellsN,gqA,gqB,gqC] at u1;have own5:=own_below own hb5 (fun j hj=>(World.ownsRow.lt own j hj).2);have hs5:=hb5.size)
        | (at_builtin;refine wpList_app1 rfl _ _ rfl Tryz.underlying22 info_int rfl (by omega) rfl own5 rfl rfl (by simp [Value.oneCell']) (by omega) (by omega) (by omega) ?_;intro A3 c3 w7 own7 hb7;have hb8:=hb7 _ (Nat.le_refl _);have v1:=(hb8.cell (p:=⟨g,11,none⟩) (show g<g+1 by omega)).trans u1;have v2:=(hb8.frozen (p:=⟨g,11,none⟩) (show g<g+1 by omega)).trans u2))
       have b7:Box w7 g (cellsN t c b tr tc bi br ck et (.slice A k cp)):=b5.keep hb8 (by omega)
       have b9:Box (w7.setCell ⟨g,11,none⟩ (.slice A3 (k+1) c3)) g (cellsN t c b tr tc bi br ck et (.slice A3 (k+1) c3)):=b7.set 11 _ (by simp [cellsN])
       have hs7:=hb8.size
       have own9:(w7.setCell ⟨g,11,none⟩ (.slice A3 (k+1) c3)).ownsRow (g+1) 3 1 (.slice A3 (k+1) c3) (k+1) (ints ((List.range (k+1)).map (mnAt t c))):=by
        rw [HSUC.out,← HM.out]
        exact ownsRow_setCell_below own7 (show g<g+1 by omega) _
       have hb9:Below g wc (w7.setCell ⟨g,11,none⟩ (.slice A3 (k+1) c3)):=((hbr.trans (hb5.mono (by omega))).trans (hb8.mono (by omega))).setCell (p:=⟨g,11,none⟩) (Nat.le_refl _) _
       go_roundw
       case rel =>
        first
         | exact ⟨k+1,A3,c3,by omega,by go_num,b9,own9,hb9⟩
         | ((repeat apply Exists.intro);exact ⟨⟨k+1,A3,c3,by omega,by go_num,b9,own9,hb9⟩,rfl⟩)
       case measure=>simp [intOf];omega
      | false =>
       have q1:menuE t c k=13:=menuE_shut HBE.out hib (by simpa using hop)
       have q2:M = -1:=by rw [hM];exact mnAt_shut hop
       rw [q1] at hcon
       subst q2
       have HC:=Lib.hid hcon
       clear hcon hsuc q1 hM hib hop
       go_wp2_with (first
        | (go_at_call 50;(with_reducible refine HC.out.mono ?_);rintro e w5 ⟨rfl,hb5⟩;have b5:=bR.below hb5;have u1:=b5.cell 11;have u2:=b5.free 11;simp only [cellsN,gqA,gqB,gqC] at u1;have own5:=own_below own hb5 (fun j hj=>(World.ownsRow.lt own j hj).2);have hs5:=hb5.size)
        | (at_builtin;refine wpList_app1 rfl _ _ rfl Tryz.underlying22 info_int rfl (by omega) rfl own5 rfl rfl (by simp [Value.oneCell']) (by omega) (by omega) (by omega) ?_;intro A3 c3 w7 own7 hb7;have hb8:=hb7 _ (Nat.le_refl _);have v1:=(hb8.cell (p:=⟨g,11,none⟩) (show g<g+1 by omega)).trans u1;have v2:=(hb8.frozen (p:=⟨g,11,none⟩) (show g<g+1 by omega)).trans u2))
       have b7:Box w7 g (cellsN t c b tr tc bi br ck et (.slice A k cp)):=b5.keep hb8 (by omega)
       have b9:Box (w7.setCell ⟨g,11,none⟩ (.slice A3 (k+1) c3)) g (cellsN t c b tr tc bi br ck et (.slice A3 (k+1) c3)):=b7.set 11 _ (by simp [cellsN])
       have hs7:=hb8.size
       have own9:(w7.setCell ⟨g,11,none⟩ (.slice A3 (k+1) c3)).ownsRow (g+1) 3 1 (.slice A3 (k+1) c3) (k+1) (ints ((List.range (k+1)).map (mnAt t c))):=by
        rw [HSUC.out,← HM.out]
        exact ownsRow_setCell_below own7 (show g<g+1 by omega) _
       have hb9:Below g wc (w7.setCell ⟨g,11,none⟩ (.slice A3 (k+1) c3)):=((hbr.trans (hb5.mono (by omega))).trans (hb8.mono (by omega))).setCell (p:=⟨g,11,none⟩) (Nat.le_refl _) _
       go_roundw
       case rel =>
        first
         | exact ⟨k+1,A3,c3,by omega,by go_num,b9,own9,hb9⟩
         | ((repeat apply Exists.intro);exact ⟨⟨k+1,A3,c3,by omega,by go_num,b9,own9,hb9⟩,rfl⟩)
       case measure=>simp [intOf];omega
     ·obtain rfl:k=dn:=by omega
      have x1:=(b0n.keep hbr (by omega)).cell 0
      simp only [gqA,gqB,gqC] at x1
      go_wp2_with fail
      go_ret2
      have hmn:(List.range k).map (mnAt t c)=mnL t c:=by unfold mnL;rw [HDN.out];rfl
      have hml:(mnL t c).length=k:=by rw [mnL_length,HDN.out];rfl
      have K:Keeps (fun j=>w.heap.size≤j∧j<g) wc wr:=⟨hsr,fun j hj _=>hbr.block j hj.2⟩
      have Kw:∀j,wz.heap.size≤j∧j<g→w.heap.size≤j∧j<g:=fun j hj=>⟨by have:=hyx.size;omega,hj.2⟩
      rw [hmn] at own
      have hpo:=PO.made (B:=w.heap.size) h7 (by omega) (by omega) (by rw [hml];exact bR) ((k1.mono Kw).kept K) ((k2.mono Kw).kept K) ((k3.mono Kw).kept K) (m1.kept (F:=fun j=>j<g) ⟨hsr,fun j hj _=>hbr.block j hj⟩ hck.2) (m2.kept (F:=fun j=>j<g) ⟨hsr,fun j hj _=>hbr.block j hj⟩ het.2) ⟨by have:=hyx.size;omega,hck.2⟩ ⟨by have:=hyx.size;omega,het.2⟩ hce (by unfold OwnN;rw [hml];exact own) HE.out.symm
      exact .inr ⟨rfl,g,_,rfl,hpo,hwr⟩
  ·have hz':(E != 0)=true:=by simp [hz]
   have HZ:=Lib.hid hz
   clear hz
   go_wp2
   go_ret2
   exact .inl ⟨HZ.out,rfl,hyx⟩
section
variable {L:Int}{N:Nat}{w:World}{F:Nat→Prop}{g:Nat}{h:Hd}{s:Of}
theorem porTo_next (s:Of)(d:Int)(k:Nat):porTo s d (k+1)=porTo s d k+if eatB s (gk s.kids k).num d then 1 else 0:=by
 unfold porTo
 cases he:eatB s (gk s.kids k).num d with
 | true=>rw [cnt_yes _ _ he];rfl
 | false=>rw [cnt_no _ _ he];rfl
theorem dayE_out {d:Int}(hb:¬ (0≤d∧d<(s.days:Int))):dayE s d=1:=by
 unfold dayE
 rw [if_neg (by rw [inB_true];omega)]
theorem dayE_in {d:Int}(h0:0≤d)(h1:d<(s.days:Int)):dayE s d=if s.opn d then 0 else 13:=by
 unfold dayE
 rw [if_pos (by rw [inB_true];omega)]
theorem porR_no {d:Int}(hb:dayE s d≠0):porR s d=0:=by
 unfold porR
 rw [if_neg hb]
theorem porR_yes {d:Int}(hb:dayE s d=0):porR s d=porTo s d s.kids.length:=by
 unfold porR
 rw [if_pos hb]
theorem porTo_le (d:Int)(k:Nat):porTo s d k≤k:=cnt_le _ _
theorem portions_any (hP:PO L N w F g h s)(d:Int) :
  Calls Tryz.prog 109 #[.pointer (some ⟨g,0,none⟩),.int .i64 d] w fun e w'=>e=.returned (.tuple #[.int .i64 (porR s d),.int .i64 (dayE s d)])∧Below w.heap.size w w':=by
 have q:=hP.cMn
 have hgl:=hP.gl
 rw [mnL_len] at q
 by_cases h0:0≤d
 ·by_cases h1:d<(s.days:Int)
  ·cases ho:s.opn d with
   | false =>
    have hd:dayE s d=13:=by rw [dayE_in h0 h1,ho];rfl
    have hr:porR s d=0:=porR_no (by rw [hd];decide)
    rw [hd,hr]
    have hcon:=opn_any hP d
    rw [ho] at hcon
    have HC:=Lib.hid hcon
    clear hd hr hcon
    go_enter Tryz.func109,Tryz.ntmps109
    go_wp2_with (go_at_call 174;(with_reducible refine HC.out.mono ?_);rintro e w2 ⟨rfl,hw2⟩;have hw3:=hw2.symm;clear hw2;subst hw3)
    go_ret2
    exact ⟨rfl,Below.refl _ _⟩
   | true =>
    have hd:dayE s d=0:=by rw [dayE_in h0 h1,ho];rfl
    have hr:=porR_yes hd
    rw [hd,hr]
    have hcon:=opn_any hP d
    rw [ho] at hcon
    have HC:=Lib.hid hcon
    have qK:=hP.cKd
    have hkl:=hP.ok.kl
    obtain ⟨kA,hkA⟩:∃kA,h.kd.1=kA:=⟨_,rfl⟩
    unfold slN at qK
    rw [hkA] at qK
    have HKA:=Lib.hid hkA
    clear hd hr hcon ho hkA
    go_enter Tryz.func109,Tryz.ntmps109
    go_wp2_with (go_at_call 174;(with_reducible refine HC.out.mono ?_);rintro e w2 ⟨rfl,hw2⟩;have hw3:=hw2.symm;clear hw2;subst hw3)
    go_loopw [6,29] (fun n x wr=>∃k:Nat,k≤s.kids.length∧n=.int .i64 (porTo s d k)∧x=.int .i64 k∧Below w.heap.size w wr) (fun _ x _=>s.kids.length-(intOf x).toNat)
    case atStart=>exact ⟨0,by omega,rfl,rfl,Below.refl _ _⟩
    case round =>
     obtain ⟨k,hk,rfl,rfl,hbl⟩:=hrel
     have hsz:=hbl.size
     by_cases hlt:k<s.kids.length
     ·obtain ⟨ad,eA,hab,_,d0,d1⟩:=(hP.below hbl).kids.at_ hlt
      obtain rfl:kA=some ad:=HKA.out.symm.trans eA
      unfold slN at d1
      obtain ⟨w5,hw5⟩:∃w5,wr.alloc (.cells #[.int .i64 (gk s.kids k).num,.slice (h.hk k).1 (gk s.kids k).avoid.length (h.hk k).2] 56)=w5:=⟨_,rfl⟩
      have hb5:Below wr.heap.size wr w5:=by rw [← hw5];exact (Below.refl _ wr).alloc (Nat.le_refl _) _
      have b5:Box w5 wr.heap.size #[.int .i64 (gk s.kids k).num,.slice (h.hk k).1 (gk s.kids k).avoid.length (h.hk k).2]:=by rw [← hw5];exact (Box.new wr _ _)
      have u0:=b5.cell 0
      simp only [gqA,gqB,gqC] at u0
      have hbl5:=hbl.trans (hb5.mono hsz)
      have hcon:=eats_any (hP.below hbl5) (gk s.kids k).num d
      have hn:=porTo_next s d k
      have hle:=porTo_le (s:=s) d k
      cases he:eatB s (gk s.kids k).num d with
      | true =>
       rw [he] at hcon hn
       have HC5:=Lib.hid hcon
       have HN:=Lib.hid hn
       clear hcon hn he eA
       go_wp2_with (go_at_call 187;(with_reducible refine HC5.out.mono ?_);rintro e w7 ⟨rfl,hb7⟩)
       go_roundw
       case rel=>exact ⟨k+1,by omega,by rw [HN.out];go_num,by go_num,hbl5.trans (hb7.mono hbl5.size)⟩
       case measure=>simp [intOf];omega
      | false =>
       rw [he] at hcon hn
       have HC5:=Lib.hid hcon
       have HN:=Lib.hid hn
       clear hcon hn he eA
       go_wp2_with (go_at_call 187;(with_reducible refine HC5.out.mono ?_);rintro e w7 ⟨rfl,hb7⟩)
       go_roundw
       case rel=>exact ⟨k+1,by omega,by rw [HN.out];rfl,by go_num,hbl5.trans (hb7.mono hbl5.size)⟩
       case measure=>simp [intOf];omega
     ·obtain rfl:k=s.kids.length:=by omega
      go_wp2_with fail
      go_ret2
      exact ⟨rfl,hbl⟩
  ·have hd:dayE s d=1:=dayE_out (by omega)
   have hr:porR s d=0:=porR_no (by rw [hd];decide)
   rw [hd,hr]
   have hl1:decide (d<0)=false:=by rw [decide_eq_false_iff_not];omega
   have hl2:decide ((s.days:Int)≤d)=true:=by rw [decide_eq_true_eq];omega
   clear hd hr
   go_enter Tryz.func109,Tryz.ntmps109
   go_wp2_with fail
   go_ret2
   exact ⟨rfl,Below.refl _ _⟩
 ·have hd:dayE s d=1:=dayE_out (by omega)
  have hr:porR s d=0:=porR_no (by rw [hd];decide)
  rw [hd,hr]
  have hl1:decide (d<0)=true:=by rw [decide_eq_true_eq];omega
  clear hd hr
  go_enter Tryz.func109,Tryz.ntmps109
  go_wp2_with fail
  go_ret2
  exact ⟨rfl,Below.refl _ _⟩
end
end Go.Proofs.YtiapkffihpgdcaaGreatDoor
namespace Go.Proofs.YtiapkffihpgdcaaGreatDoor
open Go.RowKit Go.Maps
section
variable {L:Int}{N:Nat}{w:World}{F:Nat→Prop}{g:Nat}{h:Hd}{s:Of}
/-- What was served: four numbers. -/
def svV (s:Of)(d:Int):Value:=.agg #[.int .i64 (ckd s d),.int .i64 (etn s d),.int .i64 (wst s d),.int .i64 (mis s d)]
theorem svV_no {d:Int}(hn:svdE s d≠0):svV s d=.agg #[.int .i64 0,.int .i64 0,.int .i64 0,.int .i64 0]:=by
 unfold svV wst mis ckd etn
 simp [hn]
theorem dayE_open {d:Int}(hE:dayE s d=0):s.opn d=true:=by
 unfold dayE at hE
 by_cases h1:inB d 0 ((s.days:Int)-1)=true
 ·rw [if_pos h1] at hE
  cases ho:s.opn d with
  | true=>rfl
  | false=>rw [ho] at hE;exact absurd hE (by decide)
 ·rw [if_neg h1] at hE
  exact absurd hE (by decide)
theorem svV_yes {d:Int}(hn:svdE s d=0):svV s d=.agg #[.int .i64 ((s.cooked d).getD 0),.int .i64 ((s.eaten d).getD 0),.int .i64 ((s.cooked d).getD 0-(s.eaten d).getD 0),.int .i64 (max 0 (porR s d-(s.cooked d).getD 0))]:=by
 unfold svV wst mis ckd etn
 simp [hn]
theorem MP.get {w:World}{N b:Nat}{f:Int→Option Int}(hm:MP w N b f){d:Int}(hd:(Lit.int .i64 d).wf=true) :
  ∃(n:Nat) (D:DataW Unit),w.ownsMap Tryz.prog 3 (plainElem (H:=Unit) Tryz.prog 3) b n D∧Maps.has D (.int .i64 d)=(f d).isSome∧D.atKey (.int .i64 d) (.lit (.int .i64 0))=.lit (.int .i64 ((f d).getD 0)):=by
 obtain ⟨n,D,hn,ho,hd'⟩:=hm
 exact ⟨n,D,ho,(hd' d hd).1,(hd' d hd).2⟩
theorem oserved_any (hP:PO L N w F g h s)(d:Int) :
  Calls Tryz.prog 116 #[.pointer (some ⟨g,0,none⟩),.int .i64 d] w fun e w'=>e=.returned (.tuple #[svV s d,.int .i64 (svdE s d)])∧Below w.heap.size w w':=by
 obtain ⟨w2,hw2⟩:∃w2,w.alloc (.cells #[.int .i64 0,.int .i64 0,.int .i64 0,.int .i64 0] 180)=w2:=⟨_,rfl⟩
 have hb2:Below w.heap.size w w2:=by rw [← hw2];exact (Below.refl _ w).alloc (Nat.le_refl _) _
 have b2:Box w2 w.heap.size #[.int .i64 0,.int .i64 0,.int .i64 0,.int .i64 0]:=by rw [← hw2];exact Box.new w _ _
 have hs2:=b2.lt
 have hcon:=portions_any (hP.below hb2) d
 have hgl:=hP.gl
 by_cases hE:dayE s d=0
 ·have ho:s.opn d=true:=dayE_open hE
  have hx:=svV_no (s:=s) (d:=d)
  have hy:=svV_yes (s:=s) (d:=d)
  obtain ⟨hd0,hd1⟩:=Of.opn_bd hP.ok ho
  have hwf:=wf_int (d:=d) (by omega) (by omega)
  rw [hE] at hcon
  have HC:=Lib.hid hcon
  have hpl:porR s d≤100∧0≤porR s d:=by
   have:=porR_yes (s:=s) (d:=d) hE
   have h2:=porTo_le (s:=s) d s.kids.length
   have:=hP.ok.kl
   omega
  cases he:s.eaten d with
  | none =>
   have hE2:svdE s d=12:=by unfold svdE;rw [if_neg (by rw [hE];decide),if_pos (by rw [he];rfl)]
   have hv:=hx (by rw [hE2];decide)
   rw [hv,hE2]
   have HEA:=Lib.hid he
   obtain ⟨co,hco⟩:∃co,s.cooked d=co:=⟨_,rfl⟩
   have HCO:=Lib.hid hco
   obtain ⟨R,hRR⟩:∃R,R=porR s d:=⟨_,rfl⟩
   rw [← hRR] at HC
   clear hx hy hv hE2 hcon hE he hco hpl hRR ho
   go_enter Tryz.func116,Tryz.ntmps116
   go_wp2_with (first | (go_at_call 109;(with_reducible refine HC.out.mono ?_);rintro e w3 ⟨rfl,hb3⟩;have b3:=b2.below hb3;have q0:=b3.cell 0;have q1:=b3.cell 1;have q2:=b3.cell 2;have q3:=b3.cell 3;have f0:=b3.free 0;have f1:=b3.free 1;have f2:=b3.free 2;have f3:=b3.free 3;simp only [gqA,gqB,gqC] at q0 q1 q2 q3;have hP3:=(hP.below hb2).below hb3;have c16:=hP3.cCk;have c17:=hP3.cEt;have M:=MP.get hP3.ck hwf;obtain ⟨m,D,hown,hhas,hat⟩:=M;have M2:=MP.get hP3.et hwf;obtain ⟨m2,D2,hown2,hhas2,hat2⟩:=M2;rw [HEA.out] at hhas2 hat2;rw [HCO.out] at hat) | (at_lookup;refine wpList_lookup_own_ok_int _ rfl _ _ 127 rfl 3 3 .i64 intKey Tryz.underlying127 Tryz.underlying3 (zeroInt _) h.et m2 D2 rfl hown2 (.int .i64 d) (.int .i64 d) rfl (key_int hwf) ?_;intro c hcat hwc;rw [hhas2];rw [hat2] at hcat;injection hcat with hcat;injection hcat with _ hcat;subst hcat))
   (try simp only [Exit.inBlock,Exit.then])
   refine bodyPost_ret (v:=.tuple #[.agg #[.int .i64 0,.int .i64 0,.int .i64 0,.int .i64 0],.int .i64 12]) ?_ rfl ⟨rfl,?_⟩
   ·rw [results_cell_tmp rfl]
    go_simp
   ·exact ((((hb2.trans (hb3.mono hb2.size)).setCell (p:=⟨w.heap.size,0,none⟩) (Nat.le_refl _) _).setCell (p:=⟨w.heap.size,1,none⟩) (Nat.le_refl _) _).setCell (p:=⟨w.heap.size,2,none⟩) (Nat.le_refl _) _).setCell (p:=⟨w.heap.size,3,none⟩) (Nat.le_refl _) _
  | some E =>
   have hE2:svdE s d=0:=by unfold svdE;rw [if_neg (by rw [hE];decide),if_neg (by rw [he];simp)]
   obtain ⟨C,hC,hE0,hE1⟩:=hP.ok.et d E he
   obtain ⟨_,hC0,hC1⟩:=hP.ok.ck d C hC
   have hv:=hy hE2
   rw [hC,he] at hv
   rw [hv,hE2]
   have HEA:=Lib.hid he
   have HCO:=Lib.hid hC
   obtain ⟨R,hRR⟩:∃R,R=porR s d:=⟨_,rfl⟩
   rw [← hRR] at HC hpl ⊢
   show Calls Tryz.prog _ _ _ fun e w'=>e=.returned (.tuple #[.agg #[.int .i64 C,.int .i64 E,.int .i64 (C-E),.int .i64 (max 0 (R-C))],.int .i64 0])∧Below w.heap.size w w'
   obtain ⟨hp1,hp2⟩:=hpl
   clear hx hy hv hE2 hcon hE he hC hRR ho
   go_enter Tryz.func116,Tryz.ntmps116
   go_wp2_with (first | (go_at_call 109;(with_reducible refine HC.out.mono ?_);rintro e w3 ⟨rfl,hb3⟩;have b3:=b2.below hb3;have q0:=b3.cell 0;have q1:=b3.cell 1;have q2:=b3.cell 2;have q3:=b3.cell 3;have f0:=b3.free 0;have f1:=b3.free 1;have f2:=b3.free 2;have f3:=b3.free 3;simp only [gqA,gqB,gqC] at q0 q1 q2 q3;have hP3:=(hP.below hb2).below hb3;have c16:=hP3.cCk;have c17:=hP3.cEt;have M:=MP.get hP3.ck hwf;obtain ⟨m,D,hown,hhas,hat⟩:=M;have M2:=MP.get hP3.et hwf;obtain ⟨m2,D2,hown2,hhas2,hat2⟩:=M2;rw [HEA.out] at hhas2 hat2;rw [HCO.out] at hat) | (at_lookup;refine wpList_lookup_own_ok_int _ rfl _ _ 127 rfl 3 3 .i64 intKey Tryz.underlying127 Tryz.underlying3 (zeroInt _) h.et m2 D2 rfl hown2 (.int .i64 d) (.int .i64 d) rfl (key_int hwf) ?_;intro c hcat hwc;rw [hhas2];rw [hat2] at hcat;injection hcat with hcat;injection hcat with _ hcat;subst hcat) | (at_lookup;refine wpList_lookup_own_int _ rfl _ _ 127 rfl 3 3 .i64 intKey Tryz.underlying127 Tryz.underlying3 (zeroInt _) h.ck m D rfl hown (.int .i64 d) (.int .i64 d) rfl (key_int hwf) ?_;intro c hcat hwc;rw [hat] at hcat;injection hcat with hcat;injection hcat with _ hcat;subst hcat))
   (try simp only [Exit.inBlock,Exit.then])
   refine bodyPost_ret (v:=.tuple #[.agg #[.int .i64 C,.int .i64 E,.int .i64 (C-E),.int .i64 (max 0 (R-C))],.int .i64 0]) ?_ rfl ⟨rfl,?_⟩
   ·rw [results_cell_tmp rfl]
    go_simp
   ·exact ((((hb2.trans (hb3.mono hb2.size)).setCell (p:=⟨w.heap.size,0,none⟩) (Nat.le_refl _) _).setCell (p:=⟨w.heap.size,1,none⟩) (Nat.le_refl _) _).setCell (p:=⟨w.heap.size,2,none⟩) (Nat.le_refl _) _).setCell (p:=⟨w.heap.size,3,none⟩) (Nat.le_refl _) _
 ·have hE2:svdE s d=dayE s d:=by unfold svdE;rw [if_pos hE]
  have hE':(dayE s d != 0)=true:=by simp [hE]
  have hv:=svV_no (s:=s) (d:=d) (by rw [hE2];exact hE)
  rw [hv,hE2]
  have HC:=Lib.hid hcon
  clear hv hE2 hcon hE
  obtain ⟨E,hEE⟩:∃E,E=dayE s d:=⟨_,rfl⟩
  rw [← hEE] at HC hE' ⊢
  obtain ⟨R,hRR⟩:∃R,R=porR s d:=⟨_,rfl⟩
  rw [← hRR] at HC
  clear hEE hRR
  go_enter Tryz.func116,Tryz.ntmps116
  go_wp2_with (go_at_call 109;(with_reducible refine HC.out.mono ?_);rintro e w3 ⟨rfl,hb3⟩;have b3:=b2.below hb3;have q0:=b3.cell 0;have q1:=b3.cell 1;have q2:=b3.cell 2;have q3:=b3.cell 3;have f0:=b3.free 0;have f1:=b3.free 1;have f2:=b3.free 2;have f3:=b3.free 3;simp only [gqA,gqB,gqC] at q0 q1 q2 q3)
  (try simp only [Exit.inBlock,Exit.then])
  refine bodyPost_ret (v:=.tuple #[.agg #[.int .i64 0,.int .i64 0,.int .i64 0,.int .i64 0],.int .i64 E]) ?_ rfl ⟨rfl,?_⟩
  ·rw [results_cell_tmp rfl]
   go_simp
  ·exact ((((hb2.trans (hb3.mono hb2.size)).setCell (p:=⟨w.heap.size,0,none⟩) (Nat.le_refl _) _).setCell (p:=⟨w.heap.size,1,none⟩) (Nat.le_refl _) _).setCell (p:=⟨w.heap.size,2,none⟩) (Nat.le_refl _) _).setCell (p:=⟨w.heap.size,3,none⟩) (Nat.le_refl _) _
end
end Go.Proofs.YtiapkffihpgdcaaGreatDoor
namespace Go.Proofs.YtiapkffihpgdcaaGreatDoor
open Go.RowKit Go.Sort
/-- Where the lists of the document's office lie. -/
structure Hr where
 tr:SlH
 tc:SlH
 bi:SlH
 br:SlH
 hp:Nat→SlH
 hq:Nat→SlH
 hr:Nat→SlH
 mn:SlH
 ds:SlH
 kd:SlH
 hk:Nat→SlH
 fa:SlH
 ri:SlH
 ck:SlH
 et:SlH
/-- What the document's office holds for the days: -1 where nothing is known. -/
def dyTo (f:Int→Option Int)(n:Nat):List Int:=(List.range n).map fun (d:Nat)=>(f (d:Int)).getD (-1)
theorem dyTo_len (f:Int→Option Int)(n:Nat):(dyTo f n).length=n:=by simp [dyTo]
theorem dyTo_at (f:Int→Option Int)(n d:Nat)(h:d<n):gi (dyTo f n) d=(f d).getD (-1):=by simp [gi,dyTo,h]
theorem dyTo_set (f:Int→Option Int)(n d:Nat)(v:Int)(h:d<n):(dyTo f n).set d v=dyTo (updF f d v) n:=by
 apply List.ext_getElem?
 intro i
 by_cases e:i=d
 ·subst e
  simp [dyTo,h,updF]
 ·rw [List.getElem?_set_ne (by omega)]
  by_cases hi:i<n
  ·have e2:¬ ((i:Int)=(d:Int)):=by omega
   simp [dyTo,hi,updF,e2]
  ·simp [dyTo,hi]
def cellsR (s:Of)(h:Hr):Array Value:=#[.int .i64 s.tm.len,slN h.tr s.tm.rest.length,slN h.tc s.tm.clo.length,.int .i64 s.cy.n,.int .i64 s.cy.f,.int .i64 s.cy.k,
 .int .i64 s.bk.props,slN h.bi s.bk.items.length,slN h.br s.bk.rules.length,slN h.mn (mnL s.tm s.cy).length,.int .i64 s.now,slN h.ds s.dishes.length,slN h.kd s.kids.length,slN h.fa s.facts.length,slN h.ri s.rights.length,
 slN h.ck (dyTo s.cooked s.days).length,slN h.et (dyTo s.eaten s.days).length,.int .i64 s.orders.length,St (bok s)]
/-- The blocks that nothing writes to. -/
def Jm (F:Nat→Prop)(g:Nat)(h:Hr)(k:Nat):Prop:=F k∧k≠g∧blkOf h.ds≠some k∧blkOf h.ck≠some k∧blkOf h.et≠some k
/-- The document's office s,at block g,in blocks of F. -/
structure RO (w:World) (F:Nat→Prop) (g:Nat) (h:Hr) (s:Of):Prop where
 box:Box w g (cellsR s h)
 lo:∀k,F k→7≤k∧k<w.heap.size
 gF:F g
 rest:RNF (Jm F g h) w h.tr.1 s.tm.rest
 clo:RNF (Jm F g h) w h.tc.1 s.tm.clo
 bk:RBk (Jm F g h) w h.bi.1 h.br.1 s.bk h.hp h.hq h.hr
 mn:RNF (Jm F g h) w h.mn.1 (mnL s.tm s.cy)
 fa:ReadsF (Jm F g h) w 5 h.fa.1 s.facts.length (cellsF s.facts)
 ri:ReadsF (Jm F g h) w 3 h.ri.1 s.rights.length (cellsS s.rights)
 kd:ReadsF (Jm F g h) w 2 h.kd.1 s.kids.length (cells2 s.kids.length (fun k=>.int .i64 (gk s.kids k).num) (fun k=>slN (h.hk k) (gk s.kids k).avoid.length))
 av:∀k,k<s.kids.length→RNF (Jm F g h) w (h.hk k).1 (gk s.kids k).avoid
 ds:w.ownsRow 0 174 2 (slN h.ds s.dishes.length) s.dishes.length (cells2 s.dishes.length (fun k=>St (gd s.dishes k).name) (fun k=>.int .i64 (gd s.dishes k).item))
 ck:w.ownsRow 0 3 1 (slN h.ck (dyTo s.cooked s.days).length) (dyTo s.cooked s.days).length (ints (dyTo s.cooked s.days))
 et:w.ownsRow 0 3 1 (slN h.et (dyTo s.eaten s.days).length) (dyTo s.eaten s.days).length (ints (dyTo s.eaten s.days))
 dsF:∀k,blkOf h.ds=some k→F k∧k≠g
 ckF:∀k,blkOf h.ck=some k→F k∧k≠g
 etF:∀k,blkOf h.et=some k→F k∧k≠g∧blkOf h.ck≠some k
 ok:OfOk s
 fc:s.facts.length≤h.fa.2
section
variable {w w':World}{F F':Nat→Prop}{g:Nat}{h:Hr}{s:Of}
theorem RO.kept (hP:RO w F g h s)(hk:Keeps F w w'):RO w' F g h s:=by
 have hi:Keeps (Jm F g h) w w':=hk.mono fun k hk=>hk.1
 exact ⟨hP.box.kept hk hP.gF,fun k hk'=>⟨(hP.lo k hk').1,Nat.lt_of_lt_of_le (hP.lo k hk').2 hk.size⟩,hP.gF,hP.rest.kept hi,hP.clo.kept hi,hP.bk.kept hi,hP.mn.kept hi,hP.fa.kept hi,hP.ri.kept hi,hP.kd.kept hi,fun k hk'=>(hP.av k hk').kept hi,
  own_kept hP.ds hk fun k e=>(hP.dsF k (by rw [own_blk] at e;exact e)).1,own_kept hP.ck hk fun k e=>(hP.ckF k (by rw [own_blk] at e;exact e)).1,own_kept hP.et hk fun k e=>(hP.etF k (by rw [own_blk] at e;exact e)).1,
  hP.dsF,hP.ckF,hP.etF,hP.ok,hP.fc⟩
theorem RO.below (hP:RO w F g h s)(hb:Below w.heap.size w w'):RO w' F g h s:=hP.kept (.of_below hb)
theorem RO.off {M:Nat→Prop}(hP:RO w F g h s)(ho:Off M w w')(hd:∀k,F k→¬ M k):RO w' F g h s:=hP.kept (.of_off ho fun k hk _=>hd k hk)
theorem RO.cN (hP:RO w F g h s):w.cell? ⟨g,3,none⟩=some (.int .i64 s.cy.n):=hP.box.cell 3
theorem RO.cProps (hP:RO w F g h s):w.cell? ⟨g,6,none⟩=some (.int .i64 s.bk.props):=hP.box.cell 6
theorem RO.cItems (hP:RO w F g h s):w.cell? ⟨g,7,none⟩=some (.slice h.bi.1 s.bk.items.length h.bi.2):=hP.box.cell 7
theorem RO.cRules (hP:RO w F g h s):w.cell? ⟨g,8,none⟩=some (.slice h.br.1 s.bk.rules.length h.br.2):=hP.box.cell 8
theorem RO.cMn (hP:RO w F g h s):w.cell? ⟨g,9,none⟩=some (.slice h.mn.1 s.days h.mn.2):=by
 have:=hP.box.cell 9
 rw [show (cellsR s h)[9]? = some (slN h.mn (mnL s.tm s.cy).length) from rfl,mnL_len] at this
 exact this
theorem RO.cNow (hP:RO w F g h s):w.cell? ⟨g,10,none⟩=some (.int .i64 s.now):=hP.box.cell 10
theorem RO.cDs (hP:RO w F g h s):w.cell? ⟨g,11,none⟩=some (.slice h.ds.1 s.dishes.length h.ds.2):=hP.box.cell 11
theorem RO.cKd (hP:RO w F g h s):w.cell? ⟨g,12,none⟩=some (.slice h.kd.1 s.kids.length h.kd.2):=hP.box.cell 12
theorem RO.cFa (hP:RO w F g h s):w.cell? ⟨g,13,none⟩=some (.slice h.fa.1 s.facts.length h.fa.2):=hP.box.cell 13
theorem RO.cRi (hP:RO w F g h s):w.cell? ⟨g,14,none⟩=some (.slice h.ri.1 s.rights.length h.ri.2):=hP.box.cell 14
theorem RO.cCk (hP:RO w F g h s):w.cell? ⟨g,15,none⟩=some (.slice h.ck.1 s.days h.ck.2):=by
 have:=hP.box.cell 15
 rw [show (cellsR s h)[15]? = some (slN h.ck (dyTo s.cooked s.days).length) from rfl,dyTo_len] at this
 exact this
theorem RO.cEt (hP:RO w F g h s):w.cell? ⟨g,16,none⟩=some (.slice h.et.1 s.days h.et.2):=by
 have:=hP.box.cell 16
 rw [show (cellsR s h)[16]? = some (slN h.et (dyTo s.eaten s.days).length) from rfl,dyTo_len] at this
 exact this
theorem RO.cOd (hP:RO w F g h s):w.cell? ⟨g,17,none⟩=some (.int .i64 s.orders.length):=hP.box.cell 17
theorem RO.cBk (hP:RO w F g h s):w.cell? ⟨g,18,none⟩=some (St (bok s)):=hP.box.cell 18
theorem RO.rf (hP:RO w F g h s):RF w w.heap.size h.fa.1 s.facts:=⟨Nat.le_refl _,hP.fa.1⟩
theorem RO.kids (hP:RO w F g h s):R2 (fun _=>True) w h.kd.1 s.kids.length (fun k=>.int .i64 (gk s.kids k).num) (fun k=>slN (h.hk k) (gk s.kids k).avoid.length):=⟨hP.kd.1,fun _ _ _=>trivial⟩
theorem RO.dish (hP:RO w F g h s):RDh (fun _=>True) w h.ds.1 s.dishes:=⟨Reads.of_own hP.ds,fun _ _ _=>trivial⟩
theorem RO.gl (hP:RO w F g h s):g<w.heap.size:=hP.box.lt
theorem RO.menu (hP:RO w F g h s){d:Nat}(hd:d<s.days):∃ad,h.mn.1=some ad∧(ad.add d).block<w.heap.size∧w.cell? (ad.add d)=some (.int .i64 (s.menu d)):=by
 obtain ⟨ad,e,hb,hc⟩:=hP.mn.at_ (k:=d) (by rw [mnL_len];exact hd)
 rw [mnL_at _ _ _ hd] at hc
 exact ⟨ad,e,hb,hc⟩
end
end Go.Proofs.YtiapkffihpgdcaaGreatDoor
