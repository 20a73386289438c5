import Derived.Test.YtiapkffihpgdcaaGreatDoorQC14
import Derived.Test.YtiapkffihpgdcaaGreatDoorQC22
import Derived.Test.YtiapkffihpgdcaaGreatDoorQC28
import Derived.BigRegion
import Derived.StillTailTactics
set_option linter.unusedVariables false
set_option linter.unusedSimpArgs false
set_option maxRecDepth 100000
set_option maxHeartbeats 4000000
namespace Go.Proofs.YtiapkffihpgdcaaGreatDoor
open Go.RowKit Go.Sort
section
variable {w:World}{F:Nat→Prop}{g:Nat}{h:Hr}{s:Of}
theorem chgQ_endZ {s:Of}{av:List Int}{f t:Int}{k:Nat}(h:anyTo (chgQ s av f t) (min k s.days)=false)(he:¬ ((k:Int)<t∧k<s.days)):ordHarm s av f t=false:=chgQ_end h (by omega)
theorem rorder_any (hP:RO w F g h s)(name:Wd)(n:List Int)(hn:n.length=3)(hb1:0≤gi n 1)(hb2:gi n 1≤2000000)(hb3:gi n 2≤2000000)(A:Option Addr)(c:Nat)(hR:RN w A n) :
  Calls Tryz.prog 138 #[.pointer (some ⟨g,0,none⟩),.agg #[St wOrder,St name,.slice A n.length c]] w (RetR w F g (chgE s n 1) (if chgE s n 1=0 then { s with facts:=s.facts ++ [chgF s n 1] } else s)):=by
 obtain ⟨ad,rfl,hab0,e0⟩:=hR.at0 (by omega)
 have e1:=hR.cellk (k:=1) (by omega) (by omega)
 have e2:=hR.cellk (k:=2) (by omega) (by omega)
 rw [hn]
 obtain ⟨w2,hw2⟩:∃w2,w.alloc (.cells #[St wOrder,St name,.slice (some ad) 3 c] 198)=w2:=⟨_,rfl⟩
 have hy:Below w.heap.size w w2:=by rw [← hw2];exact (Below.refl _ w).alloc (Nat.le_refl _) _
 have b0:Box w2 w.heap.size #[St wOrder,St name,.slice (some ad) 3 c]:=by rw [← hw2];exact Box.new w _ _
 have x0:=b0.cell 0;have x2:=b0.cell 2
 simp only [gqA,gqB,gqC] at x0 x2
 have hlt0:=b0.lt
 have hP2:=hP.below hy
 have y0:=(hy.cell hab0).trans e0
 have y1:=(hy.cell (p:=⟨ad.block,ad.off+1,none⟩) hab0).trans e1
 have y2:=(hy.cell (p:=⟨ad.block,ad.off+2,none⟩) hab0).trans e2
 have hcon:=rchild_any hP2 (gi n 0)
 cases hk:hasK s.kids (gi n 0) with
 | false =>
  have he:chgE s n 1=5:=by unfold chgE;rw [if_pos hk]
  rw [he,if_neg (by decide)]
  rw [← hn]
  exact rordered_none hP wOrder name n hn (some ad) c hR hk
 | true =>
  obtain ⟨i,hi,hix,hin,hio⟩:=kix_some hk
  rw [hix] at hcon
  have HC:=Lib.hid hcon
  have hi0:decide ((i:Int)<0)=false:=by rw [decide_eq_false_iff_not];omega
  have hE1:chgE s n 1=if ordHarm s (gk s.kids i).avoid (gi n 1) (gi n 2)=true then 14 else addE s.facts (chgF s n 1):=by
   unfold chgE
   rw [if_neg (by rw [hk];decide),← hio]
   by_cases ho:ordHarm s (gk s.kids i).avoid (gi n 1) (gi n 2)=true
   ·rw [if_pos ⟨rfl,ho⟩,if_pos ho]
   ·rw [if_neg (fun h=>ho h.2),if_neg ho]
  have HE1:=Lib.hid hE1
  clear hE1
  clear hcon hin hio hk hix
  obtain ⟨av,hav⟩:∃av,av=(gk s.kids i).avoid:=⟨_,rfl⟩
  rw [← hav] at HE1
  have HAV:=Lib.hid hav
  clear hav
  obtain ⟨E,hE⟩:∃E,E=chgE s n 1:=⟨_,rfl⟩
  rw [← hE] at HE1 ⊢
  obtain ⟨T,hT⟩:∃T,T=if E=0 then { s with facts:=s.facts ++ [chgF s n 1] } else s:=⟨_,rfl⟩
  rw [← hT]
  have HT:=Lib.hid hT
  have HEE:=Lib.hid hE
  clear hT hE
  have hdl:=days_le hP.ok.tm
  have hab2:ad.block<w2.heap.size:=Nat.lt_of_lt_of_le hab0 hy.size
  have q10:=hP2.cNow
  have hgl2:=hP2.gl
  have hwo:(wOrder == [111,114,100,101,114])=true:=rfl
  go_enter Tryz.func138,Tryz.ntmps138
  go_wp2_with (go_at_call 98;(with_reducible refine HC.out.mono ?_);rintro e w5 ⟨rfl,hw5⟩;have hw6:=hw5.symm;clear hw5;subst hw6)
  go_cut [6] (fun p wx=>p=.pointer (some ⟨w2.heap.size,0,none⟩)∧Box wx w2.heap.size #[.int .i64 s.now,.int .i64 (gi n 0),.int .i64 (gi n 1),.int .i64 (gi n 2),.int .i64 0]∧Below w2.heap.size w2 wx)
  case first =>
   clear HE1 HAV HT HEE HC hwo hdl hP2 hP hR
   go_region
   all_goals
    go_wp2_with fail
    go_meet
    exact ⟨rfl,(Box.new w2 _ _).drewN 1,((Below.refl _ _).alloc (Nat.le_refl _) _).drew⟩
  case rest =>
  obtain ⟨rfl,bF,hbf⟩:=hcut
  obtain ⟨wf,hwf⟩:∃wf,wf=wc:=⟨_,rfl⟩
  rw [← hwf] at bF hbf ⊢
  have b0f:=b0.below hbf
  clear hwf x0 x2 y0 y1 y2 q10 hw2
  have c0:=b0f.cell 0
  have m2:=bF.cell 2;have m3:=bF.cell 3;have m4:=bF.cell 4;have g4:=bF.free 4
  simp only [gqA,gqB,gqC] at c0 m2 m3 m4
  have hltF:=bF.lt
  have hyf:=hy.trans (hbf.mono hy.size)
  go_wp2_with fail
  obtain ⟨wk,hwk⟩:∃wk,wf.setCell ⟨w2.heap.size,4,none⟩ (.int .i64 1)=wk:=⟨_,rfl⟩
  have bK:Box wk w2.heap.size #[.int .i64 s.now,.int .i64 (gi n 0),.int .i64 (gi n 1),.int .i64 (gi n 2),.int .i64 1]:=by rw [← hwk];simpa using bF.set 4 (.int .i64 1) (by simp)
  have hbk:Below w.heap.size w wk:=by rw [← hwk];exact hyf.setCell (p:=⟨w2.heap.size,4,none⟩) (Nat.le_of_lt hlt0) _
  have hwk2:w2.heap.size<wk.heap.size:=bK.lt
  try rw [hwk]
  clear hwk bF m2 m3 m4 g4 b0f c0 hbf hyf b0 hP2 hltF HC
  go_loopw [7] (fun x wr=>∃k:Nat,gi n 1≤k∧x=.int .i64 k∧Hid (anyTo (chgQ s av (gi n 1) (gi n 2)) (min k s.days)=false)∧Box wr w2.heap.size #[.int .i64 s.now,.int .i64 (gi n 0),.int .i64 (gi n 1),.int .i64 (gi n 2),.int .i64 1]∧Below w.heap.size w wr) (fun x _=>2000001-(intOf x).toNat)
  case atStart=>exact ⟨(gi n 1).toNat,by omega,by rw [Int.toNat_of_nonneg hb1],chgQ_start _ _ _ _,bK,hbk⟩
  case round =>
   clear bK hbk
   obtain ⟨k,hk1,rfl,HK,bR,hbr⟩:=hrel
   have hPr:=hP.below hbr
   have qM:=hPr.cMn
   have v0:=bR.cell 0;have v1:=bR.cell 1;have v2:=bR.cell 2;have v3:=bR.cell 3;have v4:=bR.cell 4
   simp only [gqA,gqB,gqC] at v0 v1 v2 v3 v4
   have hltR:=bR.lt
   have hszr:=hbr.size
   by_cases hkt:(k:Int)<gi n 2
   ·have hkt':decide ((k:Int)<gi n 2)=true:=by rw [decide_eq_true_eq];exact hkt
    by_cases hkd:k<s.days
    ·obtain ⟨adm,em,hmb,cm⟩:=hPr.menu hkd
     rw [em] at qM
     have qD:=hPr.cDs;have qK:=hPr.cKd
     obtain ⟨m,hm⟩:∃m,s.menu k=m:=⟨_,rfl⟩
     rw [hm] at cm
     have HM:=Lib.hid hm
     clear hm em
     by_cases hm0:0≤m
     ·obtain ⟨j,rfl⟩:∃j:Nat,m=j:=⟨m.toNat,by omega⟩
      have hm0':decide (0≤(j:Int))=true:=by rw [decide_eq_true_eq];omega
      by_cases hj:j<s.dishes.length
      ·have hj':decide ((j:Int)<(s.dishes.length:Int))=true:=by rw [decide_eq_true_eq];omega
       obtain ⟨adD,eD,hbD,dD0,dD1⟩:=hPr.dish.at_ hj
       obtain ⟨adK,eK,hbK,_,dK0,dK1⟩:=hPr.kids.at_ hi
       rw [eD] at qD
       rw [eK] at qK
       unfold slN at dK1
       have hvd:=(hPr.av i hi).rn
       have hvl:(gk s.kids i).avoid.length≤1000000000:=by have:=hP.ok.avl hi;omega
       rw [← HAV.out] at dK1 hvd hvl
       have hdy:dayHarm s av k=harmB s.bk (gd s.dishes j).item av:=by
        rw [dayHarm_yes (by rw [HM.out];omega),HM.out];rfl
       obtain ⟨it,hit⟩:∃it,it=(gd s.dishes j).item:=⟨_,rfl⟩
       rw [← hit] at hdy dD1
       obtain ⟨nu,hnu⟩:∃nu,nu=(gk s.kids i).num:=⟨_,rfl⟩
       rw [← hnu] at dK0
       obtain ⟨H,hH⟩:∃H,H=harmB s.bk it av:=⟨_,rfl⟩
       rw [← hH] at hdy
       have cA:∀d' os,Calls Tryz.prog 206 #[.pointer (some ⟨g,0,none⟩),.int .i64 it,.agg #[.int .i64 nu,.slice (h.hk i).1 av.length (h.hk i).2]] (grow (redrawn wr d') os) fun e w''=>e=.returned (.bool H)∧∃p:Regrown,w''=grow (redrawn wr p.d) p.os:=fun d' os=>by
        have hbg:=below_regrown wr d' os
        rw [hH]
        exact Calls.regrown_of (rharms_any (hPr.below hbg) nu av hvl _ _ (hvd.below hbg) it)
       have k0:=cell_regrown qD;have k1:=cell_regrown qK;have k2:=cell_regrown dD1;have k3:=cell_regrown dK0;have k4:=cell_regrown dK1
       have HDY:=Lib.hid hdy
       clear eD eK hit hnu hH hdy dD0 hvl hvd hbD hbK
       cases H with
       | true =>
        have hE14:E=14:=by rw [HE1.out,if_pos (chgQ_hit hk1 hkt hkd HDY.out)]
        have HE14:=Lib.hid hE14
        clear hE14
        go_wp2_with fail
        refine wp_region_quiet_below (by kernel_rfl) (by kernel_rfl) ?_
        repeat (go_big_quiet_step (first | with_reducible exact cA _ _))
        refine wpQuiet_nil ?_
        intro _ hw'
        obtain ⟨⟨dq,osq⟩,hw''⟩:=hw'
        subst hw''
        go_wp2_with fail
        go_ret
        rw [show T=s by rw [HT.out,HE14.out];rfl,HE14.out]
        exact hP.quiet (hbr.trans ((below_regrown wr dq osq).mono hbr.size))
       | false =>
        have hst:=chgQ_step (f:=gi n 1) (t:=gi n 2) HK.out hkd HDY.out
        have HST:=Lib.hid hst
        clear hst
        go_wp2_with fail
        refine wp_region_quiet_below (by kernel_rfl) (by kernel_rfl) ?_
        repeat (go_big_quiet_step (first | with_reducible exact cA _ _))
        refine wpQuiet_nil ?_
        intro _ hw'
        obtain ⟨⟨dq,osq⟩,hw''⟩:=hw'
        subst hw''
        go_wp2_with fail
        go_roundw
        case rel=>exact ⟨k+1,by omega,by go_num,HST,bR.below (below_regrown wr dq osq),hbr.trans ((below_regrown wr dq osq).mono hbr.size)⟩
        case measure=>simp [intOf];omega
      ·have hst:=chgQ_step (f:=gi n 1) (t:=gi n 2) HK.out hkd (dayHarm_no (by rw [HM.out];omega))
       have HST:=Lib.hid hst
       have hj':decide ((j:Int)<(s.dishes.length:Int))=false:=by rw [decide_eq_false_iff_not];omega
       clear hst
       go_wp2_with fail
       go_quiet (fail)
       go_wp2_with fail
       go_roundw
       case rel=>exact ⟨k+1,by omega,by go_num,HST,bR.drewN _,Go.below_drewN hbr _⟩
       case measure=>simp [intOf];omega
     ·have hst:=chgQ_step (f:=gi n 1) (t:=gi n 2) HK.out hkd (dayHarm_no (by rw [HM.out];omega))
      have HST:=Lib.hid hst
      have hm0':decide (0≤m)=false:=by rw [decide_eq_false_iff_not];omega
      clear hst
      go_wp2_with fail
      go_quiet (fail)
      go_wp2_with fail
      go_roundw
      case rel=>exact ⟨k+1,by omega,by go_num,HST,bR.drewN _,Go.below_drewN hbr _⟩
      case measure=>simp [intOf];omega
    ·have hkd':decide ((k:Int)<(s.days:Int))=false:=by rw [decide_eq_false_iff_not];omega
     have hE2:E=addE s.facts (chgF s n 1):=by rw [HE1.out,if_neg (by rw [chgQ_endZ HK.out (fun e=>hkd e.2)];decide)]
     have HE2:=Lib.hid hE2
     clear hE2
     have qF:=hPr.cFa
     have hRF:=hPr.rf
     have hfl:=hP.ok.fl
     have hgl:=hPr.gl
     have hadd:∀W,RF W wr.heap.size h.fa.1 s.facts→Calls Tryz.prog 208 #[.slice h.fa.1 s.facts.length h.fa.2,.agg #[.int .i64 s.now,.int .i64 (gi n 0),.int .i64 (gi n 1),.int .i64 (gi n 2),.int .i64 1]] W (RetF W (addR s.facts (chgF s n 1)) (addE s.facts (chgF s n 1))):=fun W hr=>raddX_any s.facts (chgF s n 1) (by omega) h.fa.1 h.fa.2 wr.heap.size W hr
     have HADD:=Lib.hid hadd
     clear hadd
     go_wp2_with fail
     have hadd2:=HADD.out wr.drew hRF.drew
     have HADD2:=Lib.hid hadd2
     clear hadd2
     go_cut [9,10] (fun l e wx=>∃A' c',l=.slice A' (addR s.facts (chgF s n 1)).length c'∧e=.int .i64 (addE s.facts (chgF s n 1))∧OwnF wx wr.heap.size A' c' (addR s.facts (chgF s n 1))∧Below wr.heap.size wr wx)
     case first =>
      clear HE2 HAV HT HEE HADD hwo hdl hP hR hbr bR hPr hy hfl hab2 HK qM
      go_region_held3 (fun w'=>w'.cell? ⟨g,13,none⟩=some (.slice h.fa.1 s.facts.length h.fa.2)∧w'.cell? ⟨w2.heap.size,0,none⟩=some (.int .i64 s.now)∧w'.cell? ⟨w2.heap.size,1,none⟩=some (.int .i64 (gi n 0))∧w'.cell? ⟨w2.heap.size,2,none⟩=some (.int .i64 (gi n 1))∧w'.cell? ⟨w2.heap.size,3,none⟩=some (.int .i64 (gi n 2))∧w'.cell? ⟨w2.heap.size,4,none⟩=some (.int .i64 1))
       (first | exact ⟨qF,v0,v1,v2,v3,v4⟩ | exact ⟨k0,k1,k2,k3,k4,k5⟩ | go_keep)
       (first | (go_at_call 208;(with_reducible refine HADD2.out.mono ?_);rintro e w5 ⟨A',c',rfl,own5,hb5⟩;have hb5':Below wr.heap.size wr w5:=((Below.refl wr.heap.size wr).drew).trans hb5;have k0:=(hb5'.cell (p:=⟨g,13,none⟩) hgl).trans qF;have k1:=(hb5'.cell (p:=⟨w2.heap.size,0,none⟩) hltR).trans v0;have k2:=(hb5'.cell (p:=⟨w2.heap.size,1,none⟩) hltR).trans v1;have k3:=(hb5'.cell (p:=⟨w2.heap.size,2,none⟩) hltR).trans v2;have k4:=(hb5'.cell (p:=⟨w2.heap.size,3,none⟩) hltR).trans v3;have k5:=(hb5'.cell (p:=⟨w2.heap.size,4,none⟩) hltR).trans v4))
      all_goals
       go_wp2_with fail
       go_meet
       exact ⟨A',c',rfl,rfl,own5,hb5'⟩
     case rest =>
     obtain ⟨A',c',rfl,rfl,own5,hb5'⟩:=hcut
     obtain ⟨w5,hw5⟩:∃w5,w5=wc:=⟨_,rfl⟩
     rw [← hw5] at own5 hb5' ⊢
     clear hw5
     have hb6:=hbr.trans (hb5'.mono hbr.size)
     have hP4:=hP.below' hb6
     have hgf:=hP4.box.free 13
     have hgc:=hP4.cFa
     obtain ⟨X,hX⟩:∃X,X=addE s.facts (chgF s n 1):=⟨_,rfl⟩
     rw [← hX]
     by_cases hv:X=0
     ·have hv1:(X == 0)=true:=by simp [hv]
      have hEz:E=0:=by rw [HE2.out,← hX,hv]
      have hz:=addE_zero (hX.symm.trans hv)
      have haR:addR s.facts (chgF s n 1)=s.facts ++ [chgF s n 1]:=by unfold addR;rw [if_pos hz]
      rw [haR] at own5
      have hT2:T={ s with facts:=s.facts ++ [chgF s n 1] }:=by rw [HT.out,if_pos hEz]
      have hR4:ReadsF (Jm (grown F w w5) g h) w5 5 A' (s.facts ++ [chgF s n 1]).length (cellsF (s.facts ++ [chgF s n 1])):=ReadsF.of_own' own5 (fun k h1 h2=>hP.new_jm (Nat.le_trans hbr.size h1) h2)
      have hok:=hP.ok.chg (n:=n) (.inr rfl) (by rw [← HEE.out];exact hEz)
      have hS:=hP4.setFacts (c:=c') hR4 own5.cap hok
      have HT2:=Lib.hid hT2
      have HEz:=Lib.hid hEz
      have HaR:=Lib.hid haR
      have HV:=Lib.hid hv
      clear hT2 hR4 hEz haR hX hv hz
      go_wp2_with fail
      go_ret
      rw [HT2.out,HEz.out,HaR.out]
      first | (rw [HV.out];exact ⟨rfl,(Off.of_below hb6).setCell (.inl hP.gF) _,_,hS.re fun k=>(grown_set _ _ k).symm⟩) | exact ⟨by rw [HV.out],(Off.of_below hb6).setCell (.inl hP.gF) _,_,hS.re fun k=>(grown_set _ _ k).symm⟩
     ·have hv1:(X == 0)=false:=by simp [hv]
      have hT2:T=s:=by rw [HT.out,if_neg (by rw [HE2.out,← hX];exact hv)]
      have hEX:E=X:=by rw [HE2.out,hX]
      have HT2:=Lib.hid hT2
      have HEX:=Lib.hid hEX
      clear hT2 hv hX hEX
      go_wp2_with fail
      go_ret
      rw [HT2.out,HEX.out]
      exact hP.quiet hb6
   ·have hkt':decide ((k:Int)<gi n 2)=false:=by rw [decide_eq_false_iff_not];exact hkt
    have hE2:E=addE s.facts (chgF s n 1):=by rw [HE1.out,if_neg (by rw [chgQ_endZ HK.out (fun e=>hkt e.1)];decide)]
    have HE2:=Lib.hid hE2
    clear hE2
    have qF:=hPr.cFa
    have hRF:=hPr.rf
    have hfl:=hP.ok.fl
    have hgl:=hPr.gl
    have hadd:∀W,RF W wr.heap.size h.fa.1 s.facts→Calls Tryz.prog 208 #[.slice h.fa.1 s.facts.length h.fa.2,.agg #[.int .i64 s.now,.int .i64 (gi n 0),.int .i64 (gi n 1),.int .i64 (gi n 2),.int .i64 1]] W (RetF W (addR s.facts (chgF s n 1)) (addE s.facts (chgF s n 1))):=fun W hr=>raddX_any s.facts (chgF s n 1) (by omega) h.fa.1 h.fa.2 wr.heap.size W hr
    have HADD:=Lib.hid hadd
    clear hadd
    go_wp2_with fail
    have hadd2:=HADD.out wr.drew hRF.drew
    have HADD2:=Lib.hid hadd2
    clear hadd2
    go_cut [9,10] (fun l e wx=>∃A' c',l=.slice A' (addR s.facts (chgF s n 1)).length c'∧e=.int .i64 (addE s.facts (chgF s n 1))∧OwnF wx wr.heap.size A' c' (addR s.facts (chgF s n 1))∧Below wr.heap.size wr wx)
    case first =>
     clear HE2 HAV HT HEE HADD hwo hdl hP hR hbr bR hPr hy hfl hab2 HK qM
     go_region_held3 (fun w'=>w'.cell? ⟨g,13,none⟩=some (.slice h.fa.1 s.facts.length h.fa.2)∧w'.cell? ⟨w2.heap.size,0,none⟩=some (.int .i64 s.now)∧w'.cell? ⟨w2.heap.size,1,none⟩=some (.int .i64 (gi n 0))∧w'.cell? ⟨w2.heap.size,2,none⟩=some (.int .i64 (gi n 1))∧w'.cell? ⟨w2.heap.size,3,none⟩=some (.int .i64 (gi n 2))∧w'.cell? ⟨w2.heap.size,4,none⟩=some (.int .i64 1))
      (first | exact ⟨qF,v0,v1,v2,v3,v4⟩ | exact ⟨k0,k1,k2,k3,k4,k5⟩ | go_keep)
      (first | (go_at_call 208;(with_reducible refine HADD2.out.mono ?_);rintro e w5 ⟨A',c',rfl,own5,hb5⟩;have hb5':Below wr.heap.size wr w5:=((Below.refl wr.heap.size wr).drew).trans hb5;have k0:=(hb5'.cell (p:=⟨g,13,none⟩) hgl).trans qF;have k1:=(hb5'.cell (p:=⟨w2.heap.size,0,none⟩) hltR).trans v0;have k2:=(hb5'.cell (p:=⟨w2.heap.size,1,none⟩) hltR).trans v1;have k3:=(hb5'.cell (p:=⟨w2.heap.size,2,none⟩) hltR).trans v2;have k4:=(hb5'.cell (p:=⟨w2.heap.size,3,none⟩) hltR).trans v3;have k5:=(hb5'.cell (p:=⟨w2.heap.size,4,none⟩) hltR).trans v4))
     all_goals
      go_wp2_with fail
      go_meet
      exact ⟨A',c',rfl,rfl,own5,hb5'⟩
    case rest =>
    obtain ⟨A',c',rfl,rfl,own5,hb5'⟩:=hcut
    obtain ⟨w5,hw5⟩:∃w5,w5=wc:=⟨_,rfl⟩
    rw [← hw5] at own5 hb5' ⊢
    clear hw5
    have hb6:=hbr.trans (hb5'.mono hbr.size)
    have hP4:=hP.below' hb6
    have hgf:=hP4.box.free 13
    have hgc:=hP4.cFa
    obtain ⟨X,hX⟩:∃X,X=addE s.facts (chgF s n 1):=⟨_,rfl⟩
    rw [← hX]
    by_cases hv:X=0
    ·have hv1:(X == 0)=true:=by simp [hv]
     have hEz:E=0:=by rw [HE2.out,← hX,hv]
     have hz:=addE_zero (hX.symm.trans hv)
     have haR:addR s.facts (chgF s n 1)=s.facts ++ [chgF s n 1]:=by unfold addR;rw [if_pos hz]
     rw [haR] at own5
     have hT2:T={ s with facts:=s.facts ++ [chgF s n 1] }:=by rw [HT.out,if_pos hEz]
     have hR4:ReadsF (Jm (grown F w w5) g h) w5 5 A' (s.facts ++ [chgF s n 1]).length (cellsF (s.facts ++ [chgF s n 1])):=ReadsF.of_own' own5 (fun k h1 h2=>hP.new_jm (Nat.le_trans hbr.size h1) h2)
     have hok:=hP.ok.chg (n:=n) (.inr rfl) (by rw [← HEE.out];exact hEz)
     have hS:=hP4.setFacts (c:=c') hR4 own5.cap hok
     have HT2:=Lib.hid hT2
     have HEz:=Lib.hid hEz
     have HaR:=Lib.hid haR
     have HV:=Lib.hid hv
     clear hT2 hR4 hEz haR hX hv hz
     go_wp2_with fail
     go_ret
     rw [HT2.out,HEz.out,HaR.out]
     first | (rw [HV.out];exact ⟨rfl,(Off.of_below hb6).setCell (.inl hP.gF) _,_,hS.re fun k=>(grown_set _ _ k).symm⟩) | exact ⟨by rw [HV.out],(Off.of_below hb6).setCell (.inl hP.gF) _,_,hS.re fun k=>(grown_set _ _ k).symm⟩
    ·have hv1:(X == 0)=false:=by simp [hv]
     have hT2:T=s:=by rw [HT.out,if_neg (by rw [HE2.out,← hX];exact hv)]
     have hEX:E=X:=by rw [HE2.out,hX]
     have HT2:=Lib.hid hT2
     have HEX:=Lib.hid hEX
     clear hT2 hv hX hEX
     go_wp2_with fail
     go_ret
     rw [HT2.out,HEX.out]
     exact hP.quiet hb6
end
section
variable {w w4 w5:World}{F:Nat→Prop}{g:Nat}{h:Hr}{s:Of}
theorem rdo_3 (hP:RO w F g h s)(txt:Wd)(r:Rq)(hp:prs txt=some r)(hk:r.kind=3)(hl:s.orders.length<200) :
  Calls Tryz.prog 53 #[.pointer (some ⟨g,0,none⟩),St txt] w (RetR w F g (doE s txt) (doS s txt)):=by
 obtain ⟨hr,hlen60⟩:=prs_ok hp
 have hq:=rparse_yes (by omega) hp w
 have hdE:=doE_some (o:=s) hp hl
 have hdS:=fun (hz:doE s txt=0)=>doS_good hz hp
 have hdB:=fun (hz:¬ doE s txt=0)=>doS_bad hz
 rw [hdE] at hdS hdB ⊢
 rw [hk] at hq
 have hw:headW 3=wOrder:=rfl
 rw [hw] at hq
 have hxo:=exS_ords s r
 have hxk:=fun hz=>exS_ok hP.ok hr hz
 have n0:=hr.n0
 have n1:=hr.n1
 have hln:r.nums.length=3:=hr.three (by omega) (by omega)
 rw [hln] at hq
 obtain ⟨E,hE⟩:∃E,exE s r=E:=⟨_,rfl⟩
 obtain ⟨X,hX⟩:∃X,X=if exE s r=0 then exS s r else s:=⟨_,rfl⟩
 have hX0:X.orders=s.orders:=by rw [hX];split;exact hxo;rfl
 have hX1:E=0→OfOk { X with orders:=s.orders ++ [txt] }∧{ X with orders:=s.orders ++ [txt] }=doS s txt:=fun hz=>by
  rw [hX,hE,if_pos hz]
  exact ⟨(hxk (hE.trans hz)).orders hp (by rw [hxo];exact hl) (by rw [hxo]),(hdS (hE.trans hz)).symm⟩
 have hX2:E≠0→X=s∧doS s txt=s:=fun hz=>by
  rw [hX,hE,if_neg hz]
  exact ⟨rfl,hdB (by rw [hE];exact hz)⟩
 have hcon:∀W A0 c0,Below w.heap.size w W→RN W A0 r.nums→Calls Tryz.prog 138 #[.pointer (some ⟨g,0,none⟩),.agg #[St wOrder,St r.name,.slice A0 3 c0]] W (RetR W F g E X):=fun W A0 c0 hb hRN=>by
  have hc:=rorder_any (hP.below hb) r.name r.nums hln n1 (hr.nums 1 (by omega)).2 (hr.nums 2 (by omega)).2 A0 c0 hRN
  rw [hln] at hc
  rw [hX,← hE,exE_ord hk,exS_ord hk]
  exact hc
 have HX0:=Lib.hid hX0;have HX1:=Lib.hid hX1;have HX2:=Lib.hid hX2
 have HCON:=Lib.hid hcon
 rw [hE]
 have HQ:=Lib.hid hq
 have HR:=Lib.hid hr
 have HPP:=Lib.hid hp
 obtain ⟨NM,hNM⟩:∃NM,NM=r.name:=⟨_,rfl⟩
 rw [← hNM] at HQ HCON
 have hgl:=hP.gl
 have hl':decide ((200:Int)≤(s.orders.length:Int))=false:=by rw [decide_eq_false_iff_not];omega
 have q0:(wOrder == [97,116])=false:=rfl
 have q1:(wOrder == [100,105,115,104])=false:=rfl
 have q2:(wOrder == [99,104,105,108,100])=false:=rfl
 have q3:(wOrder == [111,114,100,101,114])=true:=rfl
 have q4:(wOrder == [99,97,110,99,101,108])=false:=rfl
 have q5:(wOrder == [102,114,101,101])=false:=rfl
 have q6:(wOrder == [99,111,111,107])=false:=rfl
 have q7:(wOrder == [101,97,116])=false:=rfl
 obtain ⟨WD,hWD⟩:∃WD,WD=wOrder:=⟨_,rfl⟩
 rw [← hWD] at q0 q1 q2 q3 q4 q5 q6 q7 HQ HCON
 obtain ⟨B,hB⟩:∃B,B=bok s:=⟨_,rfl⟩
 have hBl:B.length≤12200:=by rw [hB];have:=bokTo_len s.orders hP.ok.short s.orders.length;have:=hP.ok.ol;unfold bok;omega
 have HB:=Lib.hid hB
 have HWD:=Lib.hid hWD
 have hc1:(⟨txt.toArray⟩:ByteArray) ++ ⟨#[10]⟩=⟨(txt ++ [10]).toArray⟩:=st_app txt [10]
 have hc2:(⟨B.toArray⟩:ByteArray) ++ ⟨(txt ++ [10]).toArray⟩=⟨(B ++ (txt ++ [10])).toArray⟩:=st_app B (txt ++ [10])
 have HC1:=Lib.hid hc1;have HC2:=Lib.hid hc2
 have hsum1:¬ 9223372036854775807<txt.length+1:=by omega
 have hsum2:¬ 9223372036854775807<B.length+(txt.length+1):=by omega
 have hol:=hP.ok.ol
 clear hq hdE hdS hdB hw hxo hxk hX0 hX1 hX2 hX hcon hE hr hp hk hNM hB hWD hc1 hc2 n0 n1
 go_enter Tryz.func53,Tryz.ntmps53
 go_wp2_with (go_at_call 134;(with_reducible refine HQ.out.mono ?_);rintro e w3 ⟨A3,c3,rfl,own3,hb3⟩;have hcap:=own3.capN;have hR3:=RN.of_own own3;obtain ⟨w4,hw4⟩:∃w4,w3.alloc (.cells #[St WD,St NM,.slice A3 3 c3] 198)=w4:=⟨_,rfl⟩;have hb34:Below w3.heap.size w3 w4:=(by rw [← hw4];exact (Below.refl _ _).alloc (Nat.le_refl _) _);have hb4:=hb3.trans (hb34.mono hb3.size);have hR4:=hR3.below hb34;have b4:Box w4 w3.heap.size #[St WD,St NM,.slice A3 3 c3]:=(by rw [← hw4];exact Box.new _ _ _);have x0:=b4.cell 0;have x1:=b4.cell 1;have x2:=b4.cell 2;have hlt4:=b4.lt;simp only [gqA,gqB,gqC] at x0 x1 x2;have hP4:=hP.below hb4;have q17:=hP4.cOd)
 go_at_call 138
 with_reducible refine (HCON.out _ A3 c3 hb4 hR4).mono ?_
 rintro e w5 hr5;have he5:=hr5.1;subst he5;have HR5:=Lib.hid hr5;clear hr5
 all_goals
  have hrb:=RetR.back hP hb4 HR5.out
  obtain ⟨_,ho5,h5,hP5⟩:=HR5.out
  have y17:=hP5.cOd;have y18:=hP5.cBk;have z17:=hP5.box.free 17;have z18:=hP5.box.free 18
  rw [HX0.out] at y17
  have hbx:bok X=B:=by rw [HB.out];unfold bok;rw [HX0.out]
  rw [hbx] at y18
  have HRB:=Lib.hid hrb
  clear hrb hbx
  by_cases hv:E=0
  ·obtain ⟨k1,k2⟩:=HX1.out hv
   subst hv
   have hfin:=RetR.fin hP HRB.out HX0.out k1
   rw [k2,← HB.out] at hfin
   have HFIN:=Lib.hid hfin
   clear hfin k1 k2 HR5 HRB
   go_wp2_with fail
   rw [HC1.out,HC2.out]
   go_ret
   exact HFIN.out
  ·obtain ⟨k1,k2⟩:=HX2.out hv
   have hv1:(E == 0)=false:=by simp [hv]
   have hfin:=HRB.out
   rw [k1] at hfin
   have HFIN:=Lib.hid hfin
   have HK2:=Lib.hid k2
   clear hfin k1 k2 HR5 HRB hv
   go_wp2_with fail
   go_ret
   rw [HK2.out]
   exact HFIN.out
end
section
variable {w:World}{F:Nat→Prop}{g:Nat}{h:Hr}{s:Of}
theorem rcancel_any (hP:RO w F g h s)(name:Wd)(n:List Int)(hn:n.length=3)(hb1:0≤gi n 1)(hb2:gi n 1≤2000000)(hb3:gi n 2≤2000000)(A:Option Addr)(c:Nat)(hR:RN w A n) :
  Calls Tryz.prog 138 #[.pointer (some ⟨g,0,none⟩),.agg #[St wCancel,St name,.slice A n.length c]] w (RetR w F g (chgE s n 0) (if chgE s n 0=0 then { s with facts:=s.facts ++ [chgF s n 0] } else s)):=by
 obtain ⟨ad,rfl,hab0,e0⟩:=hR.at0 (by omega)
 have e1:=hR.cellk (k:=1) (by omega) (by omega)
 have e2:=hR.cellk (k:=2) (by omega) (by omega)
 rw [hn]
 obtain ⟨w2,hw2⟩:∃w2,w.alloc (.cells #[St wCancel,St name,.slice (some ad) 3 c] 198)=w2:=⟨_,rfl⟩
 have hy:Below w.heap.size w w2:=by rw [← hw2];exact (Below.refl _ w).alloc (Nat.le_refl _) _
 have b0:Box w2 w.heap.size #[St wCancel,St name,.slice (some ad) 3 c]:=by rw [← hw2];exact Box.new w _ _
 have x0:=b0.cell 0;have x2:=b0.cell 2
 simp only [gqA,gqB,gqC] at x0 x2
 have hlt0:=b0.lt
 have hP2:=hP.below hy
 have y0:=(hy.cell hab0).trans e0
 have y1:=(hy.cell (p:=⟨ad.block,ad.off+1,none⟩) hab0).trans e1
 have y2:=(hy.cell (p:=⟨ad.block,ad.off+2,none⟩) hab0).trans e2
 have hcon:=rchild_any hP2 (gi n 0)
 cases hk:hasK s.kids (gi n 0) with
 | false =>
  have he:chgE s n 0=5:=by unfold chgE;rw [if_pos hk]
  rw [he,if_neg (by decide)]
  rw [← hn]
  exact rordered_none hP wCancel name n hn (some ad) c hR hk
 | true =>
  obtain ⟨i,hi,hix,hin,hio⟩:=kix_some hk
  rw [hix] at hcon
  have HC:=Lib.hid hcon
  have hi0:decide ((i:Int)<0)=false:=by rw [decide_eq_false_iff_not];omega
  have hE1:chgE s n 0=addE s.facts (chgF s n 0):=by
   unfold chgE
   rw [if_neg (by rw [hk];decide),if_neg (fun h=>absurd h.1 (by decide))]
  have HE1:=Lib.hid hE1
  clear hE1
  clear hcon hin hio hk hix
  obtain ⟨av,hav⟩:∃av,av=(gk s.kids i).avoid:=⟨_,rfl⟩
  have HAV:=Lib.hid hav
  clear hav
  obtain ⟨E,hE⟩:∃E,E=chgE s n 0:=⟨_,rfl⟩
  rw [← hE] at HE1 ⊢
  obtain ⟨T,hT⟩:∃T,T=if E=0 then { s with facts:=s.facts ++ [chgF s n 0] } else s:=⟨_,rfl⟩
  rw [← hT]
  have HT:=Lib.hid hT
  have HEE:=Lib.hid hE
  clear hT hE
  have hdl:=days_le hP.ok.tm
  have hab2:ad.block<w2.heap.size:=Nat.lt_of_lt_of_le hab0 hy.size
  have q10:=hP2.cNow
  have hgl2:=hP2.gl
  have hwo:(wCancel == [111,114,100,101,114])=false:=rfl
  go_enter Tryz.func138,Tryz.ntmps138
  go_wp2_with (go_at_call 98;(with_reducible refine HC.out.mono ?_);rintro e w5 ⟨rfl,hw5⟩;have hw6:=hw5.symm;clear hw5;subst hw6)
  go_cut [6] (fun p wx=>p=.pointer (some ⟨w2.heap.size,0,none⟩)∧Box wx w2.heap.size #[.int .i64 s.now,.int .i64 (gi n 0),.int .i64 (gi n 1),.int .i64 (gi n 2),.int .i64 0]∧Below w2.heap.size w2 wx)
  case first =>
   clear HE1 HAV HT HEE HC hwo hdl hP2 hP hR
   go_region
   all_goals
    go_wp2_with fail
    go_meet
    exact ⟨rfl,(Box.new w2 _ _).drewN 1,((Below.refl _ _).alloc (Nat.le_refl _) _).drew⟩
  case rest =>
  obtain ⟨rfl,bF,hbf⟩:=hcut
  obtain ⟨wf,hwf⟩:∃wf,wf=wc:=⟨_,rfl⟩
  rw [← hwf] at bF hbf ⊢
  have b0f:=b0.below hbf
  clear hwf x0 x2 y0 y1 y2 q10 hw2
  have c0:=b0f.cell 0
  simp only [gqA,gqB,gqC] at c0
  have hltF:=bF.lt
  have hyf:=hy.trans (hbf.mono hy.size)
  have bR:=bF
  have hbr:=hyf
  have HE2:=HE1
  have hPr:=hP.below hbr
  have v0:=bR.cell 0;have v1:=bR.cell 1
  simp only [gqA,gqB,gqC] at v0 v1
  clear HE1
  have qF:=hPr.cFa
  have hRF:=hPr.rf
  have hfl:=hP.ok.fl
  have hgl:=hPr.gl
  have hadd:∀W,RF W wf.heap.size h.fa.1 s.facts→Calls Tryz.prog 208 #[.slice h.fa.1 s.facts.length h.fa.2,.agg #[.int .i64 s.now,.int .i64 (gi n 0),.int .i64 (gi n 1),.int .i64 (gi n 2),.int .i64 0]] W (RetF W (addR s.facts (chgF s n 0)) (addE s.facts (chgF s n 0))):=fun W hr=>raddX_any s.facts (chgF s n 0) (by omega) h.fa.1 h.fa.2 wf.heap.size W hr
  have HADD:=Lib.hid hadd
  clear hadd
  have v2:=bR.cell 2;have v3:=bR.cell 3;have v4:=bR.cell 4;have hltR:=bR.lt
  simp only [gqA,gqB,gqC] at v2 v3 v4
  go_wp2_with fail
  have hadd2:=HADD.out wf.drew hRF.drew
  have HADD2:=Lib.hid hadd2
  clear hadd2
  go_cut [9,10] (fun l e wx=>∃A' c',l=.slice A' (addR s.facts (chgF s n 0)).length c'∧e=.int .i64 (addE s.facts (chgF s n 0))∧OwnF wx wf.heap.size A' c' (addR s.facts (chgF s n 0))∧Below wf.heap.size wf wx)
  case first =>
   clear HE2 HAV HT HEE HC HADD hwo hdl hP2 hP hR hbr bR bF hPr hy hyf hbf b0f c0 b0 hfl hab2
   go_region_held3 (fun w'=>w'.cell? ⟨g,13,none⟩=some (.slice h.fa.1 s.facts.length h.fa.2)∧w'.cell? ⟨w2.heap.size,0,none⟩=some (.int .i64 s.now)∧w'.cell? ⟨w2.heap.size,1,none⟩=some (.int .i64 (gi n 0))∧w'.cell? ⟨w2.heap.size,2,none⟩=some (.int .i64 (gi n 1))∧w'.cell? ⟨w2.heap.size,3,none⟩=some (.int .i64 (gi n 2))∧w'.cell? ⟨w2.heap.size,4,none⟩=some (.int .i64 0))
    (first | exact ⟨qF,v0,v1,v2,v3,v4⟩ | exact ⟨k0,k1,k2,k3,k4,k5⟩ | go_keep)
    (first | (go_at_call 208;(with_reducible refine HADD2.out.mono ?_);rintro e w5 ⟨A',c',rfl,own5,hb5⟩;have hb5':Below wf.heap.size wf w5:=((Below.refl wf.heap.size wf).drew).trans hb5;have k0:=(hb5'.cell (p:=⟨g,13,none⟩) hgl).trans qF;have k1:=(hb5'.cell (p:=⟨w2.heap.size,0,none⟩) hltR).trans v0;have k2:=(hb5'.cell (p:=⟨w2.heap.size,1,none⟩) hltR).trans v1;have k3:=(hb5'.cell (p:=⟨w2.heap.size,2,none⟩) hltR).trans v2;have k4:=(hb5'.cell (p:=⟨w2.heap.size,3,none⟩) hltR).trans v3;have k5:=(hb5'.cell (p:=⟨w2.heap.size,4,none⟩) hltR).trans v4))
   all_goals
    go_wp2_with fail
    go_meet
    exact ⟨A',c',rfl,rfl,own5,hb5'⟩
  case rest =>
  obtain ⟨A',c',rfl,rfl,own5,hb5'⟩:=hcut
  obtain ⟨w5,hw5⟩:∃w5,w5=wc:=⟨_,rfl⟩
  rw [← hw5] at own5 hb5' ⊢
  clear hw5
  have hb6:=hbr.trans (hb5'.mono hbr.size)
  have hP4:=hP.below' hb6
  have hgf:=hP4.box.free 13
  have hgc:=hP4.cFa
  obtain ⟨X,hX⟩:∃X,X=addE s.facts (chgF s n 0):=⟨_,rfl⟩
  rw [← hX]
  by_cases hv:X=0
  ·have hv1:(X == 0)=true:=by simp [hv]
   have hEz:E=0:=by rw [HE2.out,← hX,hv]
   have hz:=addE_zero (hX.symm.trans hv)
   have haR:addR s.facts (chgF s n 0)=s.facts ++ [chgF s n 0]:=by unfold addR;rw [if_pos hz]
   rw [haR] at own5
   have hT2:T={ s with facts:=s.facts ++ [chgF s n 0] }:=by rw [HT.out,if_pos hEz]
   have hR4:ReadsF (Jm (grown F w w5) g h) w5 5 A' (s.facts ++ [chgF s n 0]).length (cellsF (s.facts ++ [chgF s n 0])):=ReadsF.of_own' own5 (fun k h1 h2=>hP.new_jm (Nat.le_trans hbr.size h1) h2)
   have hok:=hP.ok.chg (n:=n) (.inl rfl) (by rw [← HEE.out];exact hEz)
   have hS:=hP4.setFacts (c:=c') hR4 own5.cap hok
   have HT2:=Lib.hid hT2
   have HEz:=Lib.hid hEz
   have HaR:=Lib.hid haR
   have HV:=Lib.hid hv
   clear hT2 hR4 hEz haR hX hv hz
   go_wp2_with fail
   go_ret
   rw [HT2.out,HEz.out,HaR.out]
   first | (rw [HV.out];exact ⟨rfl,(Off.of_below hb6).setCell (.inl hP.gF) _,_,hS.re fun k=>(grown_set _ _ k).symm⟩) | exact ⟨by rw [HV.out],(Off.of_below hb6).setCell (.inl hP.gF) _,_,hS.re fun k=>(grown_set _ _ k).symm⟩
  ·have hv1:(X == 0)=false:=by simp [hv]
   have hT2:T=s:=by rw [HT.out,if_neg (by rw [HE2.out,← hX];exact hv)]
   have hEX:E=X:=by rw [HE2.out,hX]
   have HT2:=Lib.hid hT2
   have HEX:=Lib.hid hEX
   clear hT2 hv hX hEX
   go_wp2_with fail
   go_ret
   rw [HT2.out,HEX.out]
   exact hP.quiet hb6
end
section
variable {w w4 w5:World}{F:Nat→Prop}{g:Nat}{h:Hr}{s:Of}
theorem rdo_4 (hP:RO w F g h s)(txt:Wd)(r:Rq)(hp:prs txt=some r)(hk:r.kind=4)(hl:s.orders.length<200) :
  Calls Tryz.prog 53 #[.pointer (some ⟨g,0,none⟩),St txt] w (RetR w F g (doE s txt) (doS s txt)):=by
 obtain ⟨hr,hlen60⟩:=prs_ok hp
 have hq:=rparse_yes (by omega) hp w
 have hdE:=doE_some (o:=s) hp hl
 have hdS:=fun (hz:doE s txt=0)=>doS_good hz hp
 have hdB:=fun (hz:¬ doE s txt=0)=>doS_bad hz
 rw [hdE] at hdS hdB ⊢
 rw [hk] at hq
 have hw:headW 4=wCancel:=rfl
 rw [hw] at hq
 have hxo:=exS_ords s r
 have hxk:=fun hz=>exS_ok hP.ok hr hz
 have n0:=hr.n0
 have n1:=hr.n1
 have hln:r.nums.length=3:=hr.three (by omega) (by omega)
 rw [hln] at hq
 obtain ⟨E,hE⟩:∃E,exE s r=E:=⟨_,rfl⟩
 obtain ⟨X,hX⟩:∃X,X=if exE s r=0 then exS s r else s:=⟨_,rfl⟩
 have hX0:X.orders=s.orders:=by rw [hX];split;exact hxo;rfl
 have hX1:E=0→OfOk { X with orders:=s.orders ++ [txt] }∧{ X with orders:=s.orders ++ [txt] }=doS s txt:=fun hz=>by
  rw [hX,hE,if_pos hz]
  exact ⟨(hxk (hE.trans hz)).orders hp (by rw [hxo];exact hl) (by rw [hxo]),(hdS (hE.trans hz)).symm⟩
 have hX2:E≠0→X=s∧doS s txt=s:=fun hz=>by
  rw [hX,hE,if_neg hz]
  exact ⟨rfl,hdB (by rw [hE];exact hz)⟩
 have hcon:∀W A0 c0,Below w.heap.size w W→RN W A0 r.nums→Calls Tryz.prog 138 #[.pointer (some ⟨g,0,none⟩),.agg #[St wCancel,St r.name,.slice A0 3 c0]] W (RetR W F g E X):=fun W A0 c0 hb hRN=>by
  have hc:=rcancel_any (hP.below hb) r.name r.nums hln n1 (hr.nums 1 (by omega)).2 (hr.nums 2 (by omega)).2 A0 c0 hRN
  rw [hln] at hc
  rw [hX,← hE,exE_can hk,exS_can hk]
  exact hc
 have HX0:=Lib.hid hX0;have HX1:=Lib.hid hX1;have HX2:=Lib.hid hX2
 have HCON:=Lib.hid hcon
 rw [hE]
 have HQ:=Lib.hid hq
 have HR:=Lib.hid hr
 have HPP:=Lib.hid hp
 obtain ⟨NM,hNM⟩:∃NM,NM=r.name:=⟨_,rfl⟩
 rw [← hNM] at HQ HCON
 have hgl:=hP.gl
 have hl':decide ((200:Int)≤(s.orders.length:Int))=false:=by rw [decide_eq_false_iff_not];omega
 have q0:(wCancel == [97,116])=false:=rfl
 have q1:(wCancel == [100,105,115,104])=false:=rfl
 have q2:(wCancel == [99,104,105,108,100])=false:=rfl
 have q3:(wCancel == [111,114,100,101,114])=false:=rfl
 have q4:(wCancel == [99,97,110,99,101,108])=true:=rfl
 have q5:(wCancel == [102,114,101,101])=false:=rfl
 have q6:(wCancel == [99,111,111,107])=false:=rfl
 have q7:(wCancel == [101,97,116])=false:=rfl
 obtain ⟨WD,hWD⟩:∃WD,WD=wCancel:=⟨_,rfl⟩
 rw [← hWD] at q0 q1 q2 q3 q4 q5 q6 q7 HQ HCON
 obtain ⟨B,hB⟩:∃B,B=bok s:=⟨_,rfl⟩
 have hBl:B.length≤12200:=by rw [hB];have:=bokTo_len s.orders hP.ok.short s.orders.length;have:=hP.ok.ol;unfold bok;omega
 have HB:=Lib.hid hB
 have HWD:=Lib.hid hWD
 have hc1:(⟨txt.toArray⟩:ByteArray) ++ ⟨#[10]⟩=⟨(txt ++ [10]).toArray⟩:=st_app txt [10]
 have hc2:(⟨B.toArray⟩:ByteArray) ++ ⟨(txt ++ [10]).toArray⟩=⟨(B ++ (txt ++ [10])).toArray⟩:=st_app B (txt ++ [10])
 have HC1:=Lib.hid hc1;have HC2:=Lib.hid hc2
 have hsum1:¬ 9223372036854775807<txt.length+1:=by omega
 have hsum2:¬ 9223372036854775807<B.length+(txt.length+1):=by omega
 have hol:=hP.ok.ol
 clear hq hdE hdS hdB hw hxo hxk hX0 hX1 hX2 hX hcon hE hr hp hk hNM hB hWD hc1 hc2 n0 n1
 go_enter Tryz.func53,Tryz.ntmps53
 go_wp2_with (go_at_call 134;(with_reducible refine HQ.out.mono ?_);rintro e w3 ⟨A3,c3,rfl,own3,hb3⟩;have hcap:=own3.capN;have hR3:=RN.of_own own3;obtain ⟨w4,hw4⟩:∃w4,w3.alloc (.cells #[St WD,St NM,.slice A3 3 c3] 198)=w4:=⟨_,rfl⟩;have hb34:Below w3.heap.size w3 w4:=(by rw [← hw4];exact (Below.refl _ _).alloc (Nat.le_refl _) _);have hb4:=hb3.trans (hb34.mono hb3.size);have hR4:=hR3.below hb34;have b4:Box w4 w3.heap.size #[St WD,St NM,.slice A3 3 c3]:=(by rw [← hw4];exact Box.new _ _ _);have x0:=b4.cell 0;have x1:=b4.cell 1;have x2:=b4.cell 2;have hlt4:=b4.lt;simp only [gqA,gqB,gqC] at x0 x1 x2;have hP4:=hP.below hb4;have q17:=hP4.cOd)
 go_at_call 138
 with_reducible refine (HCON.out _ A3 c3 hb4 hR4).mono ?_
 rintro e w5 hr5;have he5:=hr5.1;subst he5;have HR5:=Lib.hid hr5;clear hr5
 all_goals
  have hrb:=RetR.back hP hb4 HR5.out
  obtain ⟨_,ho5,h5,hP5⟩:=HR5.out
  have y17:=hP5.cOd;have y18:=hP5.cBk;have z17:=hP5.box.free 17;have z18:=hP5.box.free 18
  rw [HX0.out] at y17
  have hbx:bok X=B:=by rw [HB.out];unfold bok;rw [HX0.out]
  rw [hbx] at y18
  have HRB:=Lib.hid hrb
  clear hrb hbx
  by_cases hv:E=0
  ·obtain ⟨k1,k2⟩:=HX1.out hv
   subst hv
   have hfin:=RetR.fin hP HRB.out HX0.out k1
   rw [k2,← HB.out] at hfin
   have HFIN:=Lib.hid hfin
   clear hfin k1 k2 HR5 HRB
   go_wp2_with fail
   rw [HC1.out,HC2.out]
   go_ret
   exact HFIN.out
  ·obtain ⟨k1,k2⟩:=HX2.out hv
   have hv1:(E == 0)=false:=by simp [hv]
   have hfin:=HRB.out
   rw [k1] at hfin
   have HFIN:=Lib.hid hfin
   have HK2:=Lib.hid k2
   clear hfin k1 k2 HR5 HRB hv
   go_wp2_with fail
   go_ret
   rw [HK2.out]
   exact HFIN.out
end
section
variable {w w4 w5:World}{F:Nat→Prop}{g:Nat}{h:Hr}{s:Of}
theorem rdo_5 (hP:RO w F g h s)(txt:Wd)(r:Rq)(hp:prs txt=some r)(hk:r.kind=5)(hl:s.orders.length<200) :
  Calls Tryz.prog 53 #[.pointer (some ⟨g,0,none⟩),St txt] w (RetR w F g (doE s txt) (doS s txt)):=by
 obtain ⟨hr,hlen60⟩:=prs_ok hp
 have hq:=rparse_yes (by omega) hp w
 have hdE:=doE_some (o:=s) hp hl
 have hdS:=fun (hz:doE s txt=0)=>doS_good hz hp
 have hdB:=fun (hz:¬ doE s txt=0)=>doS_bad hz
 rw [hdE] at hdS hdB ⊢
 rw [hk] at hq
 have hw:headW 5=wFree:=rfl
 rw [hw] at hq
 have hxo:=exS_ords s r
 have hxk:=fun hz=>exS_ok hP.ok hr hz
 have n0:=hr.n0
 have n1:=hr.n1
 have hln:r.nums.length=3:=hr.three (by omega) (by omega)
 rw [hln] at hq
 obtain ⟨E,hE⟩:∃E,exE s r=E:=⟨_,rfl⟩
 obtain ⟨X,hX⟩:∃X,X=if exE s r=0 then exS s r else s:=⟨_,rfl⟩
 have hX0:X.orders=s.orders:=by rw [hX];split;exact hxo;rfl
 have hX1:E=0→OfOk { X with orders:=s.orders ++ [txt] }∧{ X with orders:=s.orders ++ [txt] }=doS s txt:=fun hz=>by
  rw [hX,hE,if_pos hz]
  exact ⟨(hxk (hE.trans hz)).orders hp (by rw [hxo];exact hl) (by rw [hxo]),(hdS (hE.trans hz)).symm⟩
 have hX2:E≠0→X=s∧doS s txt=s:=fun hz=>by
  rw [hX,hE,if_neg hz]
  exact ⟨rfl,hdB (by rw [hE];exact hz)⟩
 have hcon:∀W,Below w.heap.size w W→Calls Tryz.prog 139 #[.pointer (some ⟨g,0,none⟩),.int .i64 (gi r.nums 0),.int .i64 (gi r.nums 1),.int .i64 (gi r.nums 2)] W (RetR W F g E X):=fun W hb=>by
  have hc:=rofree_any (hP.below hb) r.nums hln
  rw [hX,← hE,exE_free hk,exS_free hk]
  exact hc
 have HX0:=Lib.hid hX0;have HX1:=Lib.hid hX1;have HX2:=Lib.hid hX2
 have HCON:=Lib.hid hcon
 rw [hE]
 have HQ:=Lib.hid hq
 have HR:=Lib.hid hr
 have HPP:=Lib.hid hp
 obtain ⟨NM,hNM⟩:∃NM,NM=r.name:=⟨_,rfl⟩
 rw [← hNM] at HQ
 have hgl:=hP.gl
 have hl':decide ((200:Int)≤(s.orders.length:Int))=false:=by rw [decide_eq_false_iff_not];omega
 have q0:(wFree == [97,116])=false:=rfl
 have q1:(wFree == [100,105,115,104])=false:=rfl
 have q2:(wFree == [99,104,105,108,100])=false:=rfl
 have q3:(wFree == [111,114,100,101,114])=false:=rfl
 have q4:(wFree == [99,97,110,99,101,108])=false:=rfl
 have q5:(wFree == [102,114,101,101])=true:=rfl
 have q6:(wFree == [99,111,111,107])=false:=rfl
 have q7:(wFree == [101,97,116])=false:=rfl
 obtain ⟨WD,hWD⟩:∃WD,WD=wFree:=⟨_,rfl⟩
 rw [← hWD] at q0 q1 q2 q3 q4 q5 q6 q7 HQ
 obtain ⟨B,hB⟩:∃B,B=bok s:=⟨_,rfl⟩
 have hBl:B.length≤12200:=by rw [hB];have:=bokTo_len s.orders hP.ok.short s.orders.length;have:=hP.ok.ol;unfold bok;omega
 have HB:=Lib.hid hB
 have HWD:=Lib.hid hWD
 have hc1:(⟨txt.toArray⟩:ByteArray) ++ ⟨#[10]⟩=⟨(txt ++ [10]).toArray⟩:=st_app txt [10]
 have hc2:(⟨B.toArray⟩:ByteArray) ++ ⟨(txt ++ [10]).toArray⟩=⟨(B ++ (txt ++ [10])).toArray⟩:=st_app B (txt ++ [10])
 have HC1:=Lib.hid hc1;have HC2:=Lib.hid hc2
 have hsum1:¬ 9223372036854775807<txt.length+1:=by omega
 have hsum2:¬ 9223372036854775807<B.length+(txt.length+1):=by omega
 have hol:=hP.ok.ol
 clear hq hdE hdS hdB hw hxo hxk hX0 hX1 hX2 hX hcon hE hr hp hk hNM hB hWD hc1 hc2 n0 n1
 go_enter Tryz.func53,Tryz.ntmps53
 go_wp2_with (go_at_call 134;(with_reducible refine HQ.out.mono ?_);rintro e w3 ⟨A3,c3,rfl,own3,hb3⟩;have hcap:=own3.capN;have hR3:=RN.of_own own3;obtain ⟨w4,hw4⟩:∃w4,w3.alloc (.cells #[St WD,St NM,.slice A3 3 c3] 198)=w4:=⟨_,rfl⟩;have hb34:Below w3.heap.size w3 w4:=(by rw [← hw4];exact (Below.refl _ _).alloc (Nat.le_refl _) _);have hb4:=hb3.trans (hb34.mono hb3.size);have hR4:=hR3.below hb34;have b4:Box w4 w3.heap.size #[St WD,St NM,.slice A3 3 c3]:=(by rw [← hw4];exact Box.new _ _ _);have x0:=b4.cell 0;have x1:=b4.cell 1;have x2:=b4.cell 2;have hlt4:=b4.lt;simp only [gqA,gqB,gqC] at x0 x1 x2;have hP4:=hP.below hb4;have q17:=hP4.cOd;obtain ⟨ad,hA,hab,e0⟩:=hR4.at0 (by omega);subst hA;have e1:=hR4.cellk (k:=1) (by omega) (by omega);have e2:=hR4.cellk (k:=2) (by omega) (by omega))
 have hb5:=hb4.trans ((Below.refl w4.heap.size w4).drew.mono hb4.size)
 go_still_tail 13,(by kernel_rfl)
 change wpList _ _ _ _ _ w4.drew
 go_wp2_with fail
 refine (HCON.out w4.drew hb5).mono ?_
 rintro e w5 hr5;have he5:=hr5.1;subst he5;have HR5:=Lib.hid hr5;clear hr5
 all_goals
  have hrb:=RetR.back hP hb5 HR5.out
  obtain ⟨_,ho5,h5,hP5⟩:=HR5.out
  have y17:=hP5.cOd;have y18:=hP5.cBk;have z17:=hP5.box.free 17;have z18:=hP5.box.free 18
  rw [HX0.out] at y17
  have hbx:bok X=B:=by rw [HB.out];unfold bok;rw [HX0.out]
  rw [hbx] at y18
  have HRB:=Lib.hid hrb
  clear hrb hbx
  by_cases hv:E=0
  ·obtain ⟨k1,k2⟩:=HX1.out hv
   subst hv
   have hfin:=RetR.fin hP HRB.out HX0.out k1
   rw [k2,← HB.out] at hfin
   have HFIN:=Lib.hid hfin
   clear hfin k1 k2 HR5 HRB
   go_wp2_with fail
   rw [HC1.out,HC2.out]
   go_ret
   exact HFIN.out
  ·obtain ⟨k1,k2⟩:=HX2.out hv
   have hv1:(E == 0)=false:=by simp [hv]
   have hfin:=HRB.out
   rw [k1] at hfin
   have HFIN:=Lib.hid hfin
   have HK2:=Lib.hid k2
   clear hfin k1 k2 HR5 HRB hv
   go_wp2_with fail
   go_ret
   rw [HK2.out]
   exact HFIN.out
end
section
variable {w w4 w5:World}{F:Nat→Prop}{g:Nat}{h:Hr}{s:Of}
theorem rdo_6 (hP:RO w F g h s)(txt:Wd)(r:Rq)(hp:prs txt=some r)(hk:r.kind=6)(hl:s.orders.length<200) :
  Calls Tryz.prog 53 #[.pointer (some ⟨g,0,none⟩),St txt] w (RetR w F g (doE s txt) (doS s txt)):=by
 obtain ⟨hr,hlen60⟩:=prs_ok hp
 have hq:=rparse_yes (by omega) hp w
 have hdE:=doE_some (o:=s) hp hl
 have hdS:=fun (hz:doE s txt=0)=>doS_good hz hp
 have hdB:=fun (hz:¬ doE s txt=0)=>doS_bad hz
 rw [hdE] at hdS hdB ⊢
 rw [hk] at hq
 have hw:headW 6=wCook:=rfl
 rw [hw] at hq
 have hxo:=exS_ords s r
 have hxk:=fun hz=>exS_ok hP.ok hr hz
 have n0:=hr.n0
 have n1:=hr.n1
 have hln:r.nums.length=2:=hr.two (by omega)
 rw [hln] at hq
 obtain ⟨E,hE⟩:∃E,exE s r=E:=⟨_,rfl⟩
 obtain ⟨X,hX⟩:∃X,X=if exE s r=0 then exS s r else s:=⟨_,rfl⟩
 have hX0:X.orders=s.orders:=by rw [hX];split;exact hxo;rfl
 have hX1:E=0→OfOk { X with orders:=s.orders ++ [txt] }∧{ X with orders:=s.orders ++ [txt] }=doS s txt:=fun hz=>by
  rw [hX,hE,if_pos hz]
  exact ⟨(hxk (hE.trans hz)).orders hp (by rw [hxo];exact hl) (by rw [hxo]),(hdS (hE.trans hz)).symm⟩
 have hX2:E≠0→X=s∧doS s txt=s:=fun hz=>by
  rw [hX,hE,if_neg hz]
  exact ⟨rfl,hdB (by rw [hE];exact hz)⟩
 have hcon:∀W,Below w.heap.size w W→Calls Tryz.prog 140 #[.pointer (some ⟨g,0,none⟩),.int .i64 (gi r.nums 0),.int .i64 (gi r.nums 1)] W (RetR W F g E X):=fun W hb=>by
  have hc:=rcook_any (hP.below hb) (gi r.nums 0) (gi r.nums 1) n1
  rw [hX,← hE,exE_cook hk,exS_cook hk]
  exact hc
 have HX0:=Lib.hid hX0;have HX1:=Lib.hid hX1;have HX2:=Lib.hid hX2
 have HCON:=Lib.hid hcon
 rw [hE]
 have HQ:=Lib.hid hq
 have HR:=Lib.hid hr
 have HPP:=Lib.hid hp
 obtain ⟨NM,hNM⟩:∃NM,NM=r.name:=⟨_,rfl⟩
 rw [← hNM] at HQ
 have hgl:=hP.gl
 have hl':decide ((200:Int)≤(s.orders.length:Int))=false:=by rw [decide_eq_false_iff_not];omega
 have q0:(wCook == [97,116])=false:=rfl
 have q1:(wCook == [100,105,115,104])=false:=rfl
 have q2:(wCook == [99,104,105,108,100])=false:=rfl
 have q3:(wCook == [111,114,100,101,114])=false:=rfl
 have q4:(wCook == [99,97,110,99,101,108])=false:=rfl
 have q5:(wCook == [102,114,101,101])=false:=rfl
 have q6:(wCook == [99,111,111,107])=true:=rfl
 have q7:(wCook == [101,97,116])=false:=rfl
 obtain ⟨WD,hWD⟩:∃WD,WD=wCook:=⟨_,rfl⟩
 rw [← hWD] at q0 q1 q2 q3 q4 q5 q6 q7 HQ
 obtain ⟨B,hB⟩:∃B,B=bok s:=⟨_,rfl⟩
 have hBl:B.length≤12200:=by rw [hB];have:=bokTo_len s.orders hP.ok.short s.orders.length;have:=hP.ok.ol;unfold bok;omega
 have HB:=Lib.hid hB
 have HWD:=Lib.hid hWD
 have hc1:(⟨txt.toArray⟩:ByteArray) ++ ⟨#[10]⟩=⟨(txt ++ [10]).toArray⟩:=st_app txt [10]
 have hc2:(⟨B.toArray⟩:ByteArray) ++ ⟨(txt ++ [10]).toArray⟩=⟨(B ++ (txt ++ [10])).toArray⟩:=st_app B (txt ++ [10])
 have HC1:=Lib.hid hc1;have HC2:=Lib.hid hc2
 have hsum1:¬ 9223372036854775807<txt.length+1:=by omega
 have hsum2:¬ 9223372036854775807<B.length+(txt.length+1):=by omega
 have hol:=hP.ok.ol
 clear hq hdE hdS hdB hw hxo hxk hX0 hX1 hX2 hX hcon hE hr hp hk hNM hB hWD hc1 hc2 n0 n1
 go_enter Tryz.func53,Tryz.ntmps53
 go_wp2_with (go_at_call 134;(with_reducible refine HQ.out.mono ?_);rintro e w3 ⟨A3,c3,rfl,own3,hb3⟩;have hcap:=own3.capN;have hR3:=RN.of_own own3;obtain ⟨w4,hw4⟩:∃w4,w3.alloc (.cells #[St WD,St NM,.slice A3 2 c3] 198)=w4:=⟨_,rfl⟩;have hb34:Below w3.heap.size w3 w4:=(by rw [← hw4];exact (Below.refl _ _).alloc (Nat.le_refl _) _);have hb4:=hb3.trans (hb34.mono hb3.size);have hR4:=hR3.below hb34;have b4:Box w4 w3.heap.size #[St WD,St NM,.slice A3 2 c3]:=(by rw [← hw4];exact Box.new _ _ _);have x0:=b4.cell 0;have x1:=b4.cell 1;have x2:=b4.cell 2;have hlt4:=b4.lt;simp only [gqA,gqB,gqC] at x0 x1 x2;have hP4:=hP.below hb4;have q17:=hP4.cOd;obtain ⟨ad,hA,hab,e0⟩:=hR4.at0 (by omega);subst hA;have e1:=hR4.cellk (k:=1) (by omega) (by omega))
 have hb5:=hb4.trans ((Below.refl w4.heap.size w4).drew.mono hb4.size)
 go_region_with (go_at_call 140;(with_reducible refine (HCON.out _ hb5).mono ?_);rintro e w5 hr5;have he5:=hr5.1;subst he5;have HR5:=Lib.hid hr5;clear hr5)
 all_goals
  have hrb:=RetR.back hP hb5 HR5.out
  obtain ⟨_,ho5,h5,hP5⟩:=HR5.out
  have y17:=hP5.cOd;have y18:=hP5.cBk;have z17:=hP5.box.free 17;have z18:=hP5.box.free 18
  rw [HX0.out] at y17
  have hbx:bok X=B:=by rw [HB.out];unfold bok;rw [HX0.out]
  rw [hbx] at y18
  have HRB:=Lib.hid hrb
  clear hrb hbx
  by_cases hv:E=0
  ·obtain ⟨k1,k2⟩:=HX1.out hv
   subst hv
   have hfin:=RetR.fin hP HRB.out HX0.out k1
   rw [k2,← HB.out] at hfin
   have HFIN:=Lib.hid hfin
   clear hfin k1 k2 HR5 HRB
   go_wp2_with fail
   rw [HC1.out,HC2.out]
   go_ret
   exact HFIN.out
  ·obtain ⟨k1,k2⟩:=HX2.out hv
   have hv1:(E == 0)=false:=by simp [hv]
   have hfin:=HRB.out
   rw [k1] at hfin
   have HFIN:=Lib.hid hfin
   have HK2:=Lib.hid k2
   clear hfin k1 k2 HR5 HRB hv
   go_wp2_with fail
   go_ret
   rw [HK2.out]
   exact HFIN.out
end
end Go.Proofs.YtiapkffihpgdcaaGreatDoor
