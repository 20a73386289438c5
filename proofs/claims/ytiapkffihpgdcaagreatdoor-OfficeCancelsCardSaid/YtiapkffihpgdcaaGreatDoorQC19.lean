import Derived.Test.YtiapkffihpgdcaaGreatDoorQC12
import Derived.Test.YtiapkffihpgdcaaGreatDoorQC18
import Derived.Deep.RegionHeld3
set_option linter.unusedVariables false
set_option linter.unusedSimpArgs false
set_option maxRecDepth 100000
set_option maxHeartbeats 4000000
namespace Go.Proofs.YtiapkffihpgdcaaGreatDoor
open Go.RowKit
theorem copyBook_any (b:Bk)(hb:BkOk b)(hL:BkLen b)(F:Nat→Prop)(A1 A2:Option Addr)(c1 c2:Nat)(hp hq hr:Nat→SlH)(w:World)(hR:RBk F w A1 A2 b hp hq hr) :
  Calls Tryz.prog 69 #[.agg #[.int .i64 b.props,.slice A1 b.items.length c1,.slice A2 b.rules.length c2]] w fun e w'=>∃A1' c1' A2' c2' hp' hq' hr',e=.returned (.agg #[.int .i64 b.props,.slice A1' b.items.length c1',.slice A2' b.rules.length c2'])∧RBk (fun k=>w.heap.size≤k) w' A1' A2' b hp' hq' hr'∧Below w.heap.size w w':=by
 have h20:=hb.i20;have h16:=hb.r16
 obtain ⟨w2,hw2⟩:∃w2,((w.alloc (.cells #[.int .i64 b.props,.slice A1 b.items.length c1,.slice A2 b.rules.length c2] 30)).alloc (.cells #[.int .i64 0,.slice none 0 0,.slice none 0 0] 30))=w2:=⟨_,rfl⟩
 have hy:Below w.heap.size w w2:=by rw [← hw2];exact ((Below.refl _ w).alloc (Nat.le_refl _) _).alloc (by simp) _
 have b0:Box w2 w.heap.size #[.int .i64 b.props,.slice A1 b.items.length c1,.slice A2 b.rules.length c2]:=by rw [← hw2];exact (Box.new w _ _).alloc _
 have b1:Box w2 (w.heap.size+1) #[.int .i64 0,.slice none 0 0,.slice none 0 0]:=by rw [← hw2];exact (Box.new (w.alloc (.cells #[.int .i64 b.props,.slice A1 b.items.length c1,.slice A2 b.rules.length c2] 30)) _ _).at' (by simp)
 have hs2:w2.heap.size=w.heap.size+2:=by rw [← hw2];simp
 have hR2:=hR.below hy
 have d1:Reads w2.drew w2.drew.heap.size 2 A1 b.items.length _:=hR2.it.row.1
 have d2:Reads w2.drew w2.drew.heap.size 2 A2 b.rules.length _:=hR2.rl.row.1
 have x0:=b0.cell 0;have x1:=b0.cell 1;have x2:=b0.cell 2
 have f0:=b0.free 0;have f1:=b0.free 1;have f2:=b0.free 2
 have b0d:=b0.drewN 1
 have b1d:=b1.drewN 1
 simp only [gqA,gqB,gqC] at x0 x1 x2
 have o1:∀u ∈ cells2 b.items.length (fun k=>slV (hp k) (gIt b.items k).parts) (fun k=>slV (hq k) (gIt b.items k).has),u.oneCell'=true:=cells2_one (fun _ _=>rfl) (fun _ _=>rfl)
 have o2:∀u ∈ cells2 b.rules.length (fun k=>slV (hr k) (gRl b.rules k).iff) (fun k=>.int .i64 (gRl b.rules k).thn),u.oneCell'=true:=cells2_one (fun _ _=>rfl) (fun _ _=>rfl)
 go_enter Tryz.func69,Tryz.ntmps69
 go_wp2_with fail
 go_cut [11] (fun s wx=>∃A1' c1' A2' c2',CopyI w wx wx.heap.size b A1' A2' c1' c2' hp hq hr hp hq hr 0 0)
 case first =>
  go_region_with (first | (go_at_call 155;(with_reducible refine (clone_item b.items.length _ (by omega) o1 A1 c1 _ d1).mono ?_);rintro e wA ⟨AA,cA,rfl,ownA,hbA⟩;have hsA:w2.heap.size≤wA.heap.size:=hbA.size;have y0:=(b0d.below hbA).cell 0;have y1:=(b0d.below hbA).cell 1;have y2:=(b0d.below hbA).cell 2;have g0:=(b0d.below hbA).free 0;have g1:=(b0d.below hbA).free 1;have g2:=(b0d.below hbA).free 2;simp only [gqA,gqB,gqC] at y0 y1 y2) | (go_at_call 156;(with_reducible refine (clone_rule b.rules.length _ (by omega) o2 A2 c2 _ (d2.below' hbA (Nat.le_refl _) |>.more hbA.size)).mono ?_);rintro e wB ⟨AB,cB,rfl,ownB,hbB⟩;have hsB:wA.heap.size≤wB.heap.size:=hbB.size;have z0:=((b0d.below hbA).below hbB).cell 0;have z1:=((b0d.below hbA).below hbB).cell 1;have z2:=((b0d.below hbA).below hbB).cell 2;have e0:=((b0d.below hbA).below hbB).free 0;have e1:=((b0d.below hbA).below hbB).free 1;have e2:=((b0d.below hbA).below hbB).free 2;simp only [gqA,gqB,gqC] at z0 z1 z2))
  all_goals
   go_wp2_with fail
   go_meet
   have hz:Below w2.heap.size w2 wB:=(Below.refl w2.heap.size w2).drew.trans (hbA.trans (hbB.mono hsA))
   have hz3:=(((hy.trans (hz.mono hy.size)).setCell (p:=⟨w.heap.size,1,none⟩) (by show w.heap.size≤w.heap.size;omega) (.slice AA b.items.length cA)).setCell (p:=⟨w.heap.size,2,none⟩) (by show w.heap.size≤w.heap.size;omega) (.slice AB b.rules.length cB))
   have g0:=((b0.below hz).set 1 (.slice AA b.items.length cA) (by simp)).set 2 (.slice AB b.rules.length cB) (by simp)
   have ownA2:=ownsRow_setCell_below (ownsRow_setCell_below (own_below ownA hbB fun x hx=>(World.ownsRow.lt ownA x hx).2) (show w.heap.size<w2.heap.size by omega) (.slice AA b.items.length cA) (a:=⟨w.heap.size,1,none⟩)) (show w.heap.size<w2.heap.size by omega) (.slice AB b.rules.length cB) (a:=⟨w.heap.size,2,none⟩)
   have ownB2:=ownsRow_setCell_below (ownsRow_setCell_below ownB (show w.heap.size<wA.heap.size by omega) (.slice AA b.items.length cA) (a:=⟨w.heap.size,1,none⟩)) (show w.heap.size<wA.heap.size by omega) (.slice AB b.rules.length cB) (a:=⟨w.heap.size,2,none⟩)
   refine ⟨AA,cA,AB,cB,by simpa using g0,((b1.below hz).far (by simp) _).far (by simp) _,?_,?_,fun i hi=>by omega,fun i hi=>⟨rfl,rfl⟩,fun i hi=>by omega,fun i hi=>rfl,?_,hz3,Nat.le_refl _,?_⟩
   ·exact own_base ownA2 (by show _≤w2.heap.size;omega)
   ·exact own_base ownB2 (by omega)
   ·intro x hx
    rcases hx with hx | hx
    ·exact (World.ownsRow.lt ownA2 x hx).2
    ·exact (World.ownsRow.lt ownB2 x hx).2
   ·simp [World.setCell];omega
 case rest =>
  obtain ⟨A1',c1',A2',c2',HI0⟩:=hcut
  clear x0 x1 x2 f0 f1 f2 o1 o2 d1 d2 b0 b1 b0d b1d
  have y0:=HI0.box.cell 0;have y1:=HI0.box.cell 1;have y2:=HI0.box.cell 2
  simp only [gqA,gqB,gqC] at y0 y1 y2
  go_wp2
  obtain ⟨B,hB⟩:∃B,B=wc.heap.size:=⟨_,rfl⟩
  go_loopw [17] (fun x wr=>∃(k:Nat) (hp' hq':Nat→SlH),k≤b.items.length∧x=.int .i64 k∧CopyI w wr B b A1' A2' c1' c2' hp hq hr hp' hq' hr k 0) (fun x _=>b.items.length-(intOf x).toNat)
  case atStart=>exact ⟨0,hp,hq,by omega,rfl,by rw [hB];exact HI0⟩
  case round =>
   clear y0 y1 y2 hB HI0
   obtain ⟨k,hp',hq',hk,rfl,HI⟩:=hrel
   have y0:=HI.box.cell 0;have y1:=HI.box.cell 1;have y2:=HI.box.cell 2
   simp only [gqA,gqB,gqC] at y0 y1 y2
   by_cases hlt:k<b.items.length
   ·obtain ⟨g,rfl,hbg,hgs,d0,d1,f0,f1,_,_⟩:=own2_at HI.it hlt
    have hgB:g<B:=HI.low g (.inl rfl)
    have hsB:=HI.size
    obtain ⟨e1,e2⟩:=HI.old k (Nat.le_refl _)
    unfold itP slV at d0;unfold itH slV at d1
    rw [e1] at d0;rw [e2] at d1
    have hrk:=(hR.below HI.below).it
    obtain ⟨w5,hw5⟩:∃w5,wr.alloc (.cells #[.slice (hp k).1 (gIt b.items k).parts.length (hp k).2,.slice (hq k).1 (gIt b.items k).has.length (hq k).2] 120)=w5:=⟨_,rfl⟩
    have hb5:Below wr.heap.size wr w5:=by rw [← hw5];exact (Below.refl _ wr).alloc (Nat.le_refl _) _
    have b5:Box w5 wr.heap.size #[.slice (hp k).1 (gIt b.items k).parts.length (hp k).2,.slice (hq k).1 (gIt b.items k).has.length (hq k).2]:=by rw [← hw5];exact (Box.new wr _ _)
    have u0:=b5.cell 0;have u1:=b5.cell 1
    simp only [gqA,gqB,gqC] at u0 u1
    have s5:=b5.lt
    have b5d:=b5.drewN 1
    have HI5:=HI.keep hb5
    have bxd:=HI5.box.drewN 1
    have v1:=HI5.box.cell 1
    simp only [gqA,gqB,gqC] at v1
    obtain ⟨g',e',_,gs5,q0,q1,qf0,qf1,_,_⟩:=own2_at HI5.it hlt
    cases e'
    have r1:RN w5.drew (hp k).1 (gIt b.items k).parts:=(show RN w5 (hp k).1 (gIt b.items k).parts from ((hrk.parts k hlt).rn).below hb5)
    have r2:RN w5.drew (hq k).1 (gIt b.items k).has:=(show RN w5 (hq k).1 (gIt b.items k).has from ((hrk.has k hlt).rn).below hb5)
    have lp:=hL.parts k hlt;have lh:=hL.has k hlt
    go_wp2_with fail
    go_region_with (first | (go_at_call 154;(with_reducible refine (clone_any (gIt b.items k).parts lp (hp k).1 _ _ r1).mono ?_);rintro e wA ⟨AA,cA,rfl,ownA,hbA⟩;have hsA:w5.heap.size≤wA.heap.size:=hbA.size;have z0:=(b5d.below hbA).cell 0;have z1:=(b5d.below hbA).cell 1;have z2:=(bxd.below hbA).cell 1;have z3:=(hbA.frozen (p:=⟨g,k*2,none⟩) (by exact gs5)).trans qf0;have z4:=(hbA.frozen (p:=⟨g,k*2+1,none⟩) (by exact gs5)).trans qf1;have z5:=(hbA.cell (p:=⟨g,k*2,none⟩) (by exact gs5)).trans q0;have z6:=(hbA.cell (p:=⟨g,k*2+1,none⟩) (by exact gs5)).trans q1;simp only [gqA,gqB,gqC] at z0 z1 z2) | (go_at_call 154;(with_reducible refine (clone_any (gIt b.items k).has lh (hq k).1 _ _ (r2.below hbA)).mono ?_);rintro e wB ⟨AB,cB,rfl,ownB,hbB⟩;have hsB2:wA.heap.size≤wB.heap.size:=hbB.size;have z0':=((b5d.below hbA).below hbB).cell 0;have z1':=((b5d.below hbA).below hbB).cell 1;have z2':=((bxd.below hbA).below hbB).cell 1;have z3':=(hbB.frozen (p:=⟨g,k*2,none⟩) (by show g<wA.heap.size;omega)).trans z3;have z4':=(hbB.frozen (p:=⟨g,k*2+1,none⟩) (by show g<wA.heap.size;omega)).trans z4;have z5':=(hbB.cell (p:=⟨g,k*2,none⟩) (by show g<wA.heap.size;omega)).trans z5;have z6':=(hbB.cell (p:=⟨g,k*2+1,none⟩) (by show g<wA.heap.size;omega)).trans z6;simp only [gqA,gqB,gqC] at z0' z1' z2'))
    all_goals
     have HIB:=HI5.keep ((Below.refl w5.heap.size w5).drew.trans (hbA.trans (hbB.mono hsA)))
     have hP:RNF (fun x=>B≤x) wB AA (gIt b.items k).parts:=((RNF.of_own' ownA).below hbB).mono fun x hx=>Nat.le_trans (Nat.le_trans hsB hb5.size) hx
     have hQ:RNF (fun x=>B≤x) wB AB (gIt b.items k).has:=(RNF.of_own' ownB).mono fun x hx=>Nat.le_trans (Nat.le_trans (Nat.le_trans hsB hb5.size) hsA) hx
     have HS:=HIB.step hlt rfl (P:=(AA,cA)) (Q:=(AB,cB)) hP hQ
     clear HI HI5 HIB hP hQ
     go_wp2_with fail
     go_roundw
     case rel=>exact ⟨k+1,_,_,by omega,by go_num,HS⟩
     case measure=>simp [intOf];omega
   ·obtain rfl:k=b.items.length:=by omega
    go_wp2
    go_loopw [37] (fun x wr=>∃(j:Nat) (hr':Nat→SlH),j≤b.rules.length∧x=.int .i64 j∧CopyI w wr B b A1' A2' c1' c2' hp hq hr hp' hq' hr' b.items.length j) (fun x _=>b.rules.length-(intOf x).toNat)
    case atStart=>exact ⟨0,hr,by omega,rfl,HI⟩
    case round =>
     clear y0 y1 y2 HI
     obtain ⟨j,hr',hj,rfl,HI⟩:=hrel
     have y0:=HI.box.cell 0;have y1:=HI.box.cell 1;have y2:=HI.box.cell 2
     simp only [gqA,gqB,gqC] at y0 y1 y2
     by_cases hlj:j<b.rules.length
     ·obtain ⟨g,rfl,hbg,hgs,d0,d1,f0,f1,_,_⟩:=own2_at HI.rl hlj
      have hgB:g<B:=HI.low g (.inr rfl)
      have hsB:=HI.size
      have e1:=HI.oldr j (Nat.le_refl _)
      unfold rlI slV at d0
      rw [e1] at d0
      have hrk:=(hR.below HI.below).rl
      have r1:RN wr.drew (hr j).1 (gRl b.rules j).iff:=(show RN wr (hr j).1 (gRl b.rules j).iff from (hrk.iff j hlj).rn)
      have lp:=hL.iff j hlj
      have bxd:=HI.box.drewN 1
      go_wp2_with fail
      go_region_with (go_at_call 154;(with_reducible refine (clone_any (gRl b.rules j).iff lp (hr j).1 _ _ r1).mono ?_);rintro e wA ⟨AA,cA,rfl,ownA,hbA⟩;have hsA:wr.heap.size≤wA.heap.size:=hbA.size;have z2:=(bxd.below hbA).cell 2;have z3:=(hbA.frozen (p:=⟨g,j*2,none⟩) (by exact hgs)).trans f0;have z5:=(hbA.cell (p:=⟨g,j*2,none⟩) (by exact hgs)).trans d0;simp only [gqA,gqB,gqC] at z2)
      all_goals
       have HIB:=HI.keep ((Below.refl wr.heap.size wr).drew.trans hbA)
       have hP:RNF (fun x=>B≤x) wA AA (gRl b.rules j).iff:=(RNF.of_own' ownA).mono fun x hx=>Nat.le_trans hsB hx
       have HS:=HIB.stepr hlj rfl (P:=(AA,cA)) hP
       clear HI HIB hP
       go_wp2_with fail
       go_roundw
       case rel=>exact ⟨j+1,_,by omega,by go_num,HS⟩
       case measure=>simp [intOf];omega
     ·obtain rfl:j=b.rules.length:=by omega
      have z0:=HI.res.cell 0;have z1:=HI.res.cell 1;have z2:=HI.res.cell 2
      have g0:=HI.res.free 0;have g1:=HI.res.free 1;have g2:=HI.res.free 2
      simp only [gqA,gqB,gqC] at z0 z1 z2
      go_wp2_with fail
      have q3:=((HI.res.set 0 (.int .i64 b.props) (by simp)).set 1 (.slice A1' b.items.length c1') (by simp)).set 2 (.slice A2' b.rules.length c2') (by simp)
      have v0:=q3.cell 0;have v1:=q3.cell 1;have v2:=q3.cell 2
      simp at v0 v1 v2
      have hb':=((HI.below.setCell (p:=⟨w.heap.size+1,0,none⟩) (by show w.heap.size≤w.heap.size+1;omega) (.int .i64 b.props)).setCell (p:=⟨w.heap.size+1,1,none⟩) (by show w.heap.size≤w.heap.size+1;omega) (.slice A1' b.items.length c1')).setCell (p:=⟨w.heap.size+1,2,none⟩) (by show w.heap.size≤w.heap.size+1;omega) (.slice A2' b.rules.length c2')
      have hk2:Keeps (fun x=>x≠w.heap.size+1) wr (((wr.setCell ⟨w.heap.size+1,0,none⟩ (.int .i64 b.props)).setCell ⟨w.heap.size+1,1,none⟩ (.slice A1' b.items.length c1')).setCell ⟨w.heap.size+1,2,none⟩ (.slice A2' b.rules.length c2')):=⟨by simp [World.setCell],fun x hx _=>by rw [Below.heap_setCell _ _ _ _ hx,Below.heap_setCell _ _ _ _ hx,Below.heap_setCell _ _ _ _ hx]⟩
      have hBw:w.heap.size+2≤B:=HI.base
      refine bodyPost_ret (v:=.agg #[.int .i64 b.props,.slice A1' b.items.length c1',.slice A2' b.rules.length c2']) (by simp [results,Tryz.results69,go_sem,v0,v1,v2]) rfl ?_
      refine ⟨A1',c1',A2',c2',hp',hq',hr',rfl,⟨⟨?_,fun i hi=>?_,fun i hi=>?_⟩,⟨?_,fun i hi=>?_⟩⟩,hb'⟩
      ·refine ReadsF.mono (ReadsF.kept (F:=fun x=>w.heap.size+2≤x) (ReadsF.of_own HI.it fun x hx=>(World.ownsRow.lt HI.it x hx).1) (hk2.mono fun x hx=>by have:w.heap.size+2≤x:=hx;omega)) fun x hx=>by have:w.heap.size+2≤x:=hx;omega
      ·exact ((HI.new i hi).1.kept (hk2.mono fun x hx=>by have:B≤x:=hx;omega)).mono fun x hx=>by have:B≤x:=hx;omega
      ·exact ((HI.new i hi).2.kept (hk2.mono fun x hx=>by have:B≤x:=hx;omega)).mono fun x hx=>by have:B≤x:=hx;omega
      ·refine ReadsF.mono (ReadsF.kept (F:=fun x=>w.heap.size+2≤x) (ReadsF.of_own HI.rl fun x hx=>(World.ownsRow.lt HI.rl x hx).1) (hk2.mono fun x hx=>by have:w.heap.size+2≤x:=hx;omega)) fun x hx=>by have:w.heap.size+2≤x:=hx;omega
      ·exact ((HI.newr i hi).kept (hk2.mono fun x hx=>by have:B≤x:=hx;omega)).mono fun x hx=>by have:B≤x:=hx;omega
/-- The first number that is not 0. -/
def orI (l:List Int):Int:=(l.find? fun x=>decide (x≠0)).getD 0
def orZ (l:List Int)(k:Nat):Prop:=∀i,i<k→gi l i=0
theorem orI_none {l:List Int}(h:orZ l l.length):orI l=0:=by
 unfold orI
 rw [List.find?_eq_none.2 fun x hx=>?_];rfl
 obtain ⟨i,hi,rfl⟩:=List.mem_iff_getElem.1 hx
 have:=h i hi
 simpa [gi,hi] using this
theorem orI_some {l:List Int}{k:Nat}(hk:k<l.length)(h:orZ l k)(hn:gi l k≠0):orI l=gi l k:=by
 unfold orI
 have:l.find? (fun x=>decide (x≠0))=some l[k]:=by
  rw [List.find?_eq_some_iff_getElem]
  refine ⟨by simpa [gi,hk] using hn,k,hk,rfl,fun j hj=>?_⟩
  have:=h j hj
  simp [gi,show j<l.length by omega] at this
  simpa using this
 rw [this]
 simp [gi,hk]
theorem orI_new (t:Tm)(c:Cy)(b:Bk):orI [tE t,cE c,bkE b]=newE t c b:=by
 unfold orI newE
 by_cases h1:tE t=0
 ·rw [if_neg (by simp [h1]),List.find?_cons_of_neg (by simp [h1])]
  by_cases h2:cE c=0
  ·rw [if_neg (by simp [h2]),List.find?_cons_of_neg (by simp [h2])]
   by_cases h3:bkE b=0
   ·rw [List.find?_cons_of_neg (by simp [h3]),h3];rfl
   ·rw [List.find?_cons_of_pos (by simp [h3])];rfl
  ·rw [if_pos h2,List.find?_cons_of_pos (by simp [h2])];rfl
 ·rw [if_pos h1,List.find?_cons_of_pos (by simp [h1])];rfl
theorem or_any (l:List Int)(hl:l.length≤1000000)(A:Option Addr)(c:Nat)(w:World)(hR:RN w A l) :
  Calls Tryz.prog 64 #[.slice A l.length c] w fun e w'=>e=.returned (.int .i64 (orI l))∧w=w':=by
 obtain ⟨S,hS⟩:∃S,S=orI l:=⟨_,rfl⟩
 rw [← hS]
 have HS:=Lib.hid hS;clear hS
 go_enter Tryz.func64,Tryz.ntmps64
 go_wp2
 go_loop [8] (fun x=>∃k:Nat,k≤l.length∧x=.int .i64 k∧Hid (orZ l k)) (fun x=>l.length-(intOf x).toNat)
 case atStart=>exact ⟨0,by omega,rfl,fun i hi=>by omega⟩
 case round =>
  obtain ⟨k,hkl,rfl,HK⟩:=hrel
  by_cases hlt:k<l.length
  ·obtain ⟨ad,rfl,hab,c0⟩:=hR.at_ hlt
   obtain ⟨x,hx⟩:∃x,x=gi l k:=⟨_,rfl⟩
   rw [← hx] at c0
   have HX:=Lib.hid hx
   clear hx
   by_cases hz:x=0
   ·subst hz
    have HN:Hid (orZ l (k+1)):=by
     show orZ l (k+1)
     intro i hi
     by_cases e:i=k
     ·subst e;exact HX.out.symm
     ·exact HK.out i (by omega)
    clear HK
    go_wp2
    go_round
    case rel=>exact ⟨k+1,by omega,by go_num,HN⟩
    case measure=>simp [intOf];omega
   ·have hz':(x != 0)=true:=by simp [hz]
    have HV:=Lib.hid (HS.out.trans ((orI_some hlt HK.out (by rw [← HX.out];exact hz)).trans HX.out.symm))
    clear HK HS hz
    go_wp2
    go_ret
    exact ⟨ret_int HV.out.symm,rfl⟩
  ·obtain rfl:k=l.length:=by omega
   have HV:=Lib.hid (HS.out.trans (orI_none HK.out))
   go_wp2
   go_ret
   exact ⟨ret_int HV.out.symm,rfl⟩
end Go.Proofs.YtiapkffihpgdcaaGreatDoor
namespace Go.Proofs.YtiapkffihpgdcaaGreatDoor
open Go.RowKit Go.Maps
section
variable {B:Nat}{w w':World}{A A1 A2:Option Addr}{l:List Int}{b:Bk}{hp hq hr:Nat→SlH}
/-- The blocks from B on. -/
def Fr (B:Nat)(w:World)(k:Nat):Prop:=B≤k∧k<w.heap.size
theorem Fr.grow (hs:w.heap.size≤w'.heap.size):∀k,Fr B w k→Fr B w' k:=fun k hk=>⟨hk.1,Nat.lt_of_lt_of_le hk.2 hs⟩
theorem rnf_be (h:RNF (Fr B w) w A l)(hb:Below w.heap.size w w'):RNF (Fr B w') w' A l:=(h.below hb).mono (Fr.grow hb.size)
theorem rnf_al (h:RNF (Fr B w) w A l)(o:Obj):RNF (Fr B (w.alloc o)) (w.alloc o) A l:=rnf_be h ((Below.refl _ _).alloc (Nat.le_refl _) o)
theorem rnf_dr (h:RNF (Fr B w) w A l):RNF (Fr B w.drew) w.drew A l:=rnf_be h (Below.refl _ _).drew
theorem rbk_be (h:RBk (Fr B w) w A1 A2 b hp hq hr)(hb:Below w.heap.size w w'):RBk (Fr B w') w' A1 A2 b hp hq hr:=(h.below hb).mono (Fr.grow hb.size)
theorem rbk_al (h:RBk (Fr B w) w A1 A2 b hp hq hr)(o:Obj):RBk (Fr B (w.alloc o)) (w.alloc o) A1 A2 b hp hq hr:=rbk_be h ((Below.refl _ _).alloc (Nat.le_refl _) o)
theorem rbk_dr (h:RBk (Fr B w) w A1 A2 b hp hq hr):RBk (Fr B w.drew) w.drew A1 A2 b hp hq hr:=rbk_be h (Below.refl _ _).drew
def f0:Int→Option Int:=fun _=>none
theorem RBk.fresh {B0:Nat}{hp hq hr:Nat→SlH}(h:RBk (fun k=>B0≤k) w A1 A2 b hp hq hr)(B:Nat)(hB:B≤B0):RBk (Fr B w) w A1 A2 b hp hq hr:=by
 have key:∀{size n:Nat} {A:Option Addr} {xs:List Value},ReadsF (fun k=>B0≤k) w size A n xs→ReadsF (Fr B w) w size A n xs:=fun h=>⟨h.1,fun ad e hn=>by
  obtain ⟨ad',e',hb,_⟩:=h.1.2 hn
  have h2:B0≤ad.block:=h.2 ad e hn
  rw [e] at e';cases e'
  exact ⟨by omega,hb⟩⟩
 exact ⟨⟨key h.it.row,fun k hk=>key (h.it.parts k hk),fun k hk=>key (h.it.has k hk)⟩,⟨key h.rl.row,fun k hk=>key (h.rl.iff k hk)⟩⟩
theorem mp_be {x:Nat}{f:Int→Option Int}{N:Nat}(h:MP w N x f)(hb:Below w.heap.size w w'):MP w' N x f:=h.kept (F:=fun _=>True) (.of_below hb) trivial
theorem mp_al {x:Nat}{f:Int→Option Int}{N:Nat}(h:MP w N x f)(o:Obj):MP (w.alloc o) N x f:=mp_be h ((Below.refl _ _).alloc (Nat.le_refl _) o)
theorem mp_dr {x:Nat}{f:Int→Option Int}{N:Nat}(h:MP w N x f):MP w.drew N x f:=mp_be h (Below.refl _ _).drew
theorem mp_made (w:World):MP (w.alloc (.map #[] 0)) 0 w.heap.size f0:=⟨0,.map [],Nat.le_refl _,World.ownsMap_made _ _ _ _,fun d _=>⟨rfl,rfl⟩⟩
end
theorem mp_made' {w:World}{x:Nat}(hx:x=w.heap.size):MP (w.alloc (.map #[] 0)) 0 x f0:=by subst hx;exact mp_made w
def cellsN (t:Tm)(c:Cy)(b:Bk)(tr tc bi br:SlH)(ck et:Nat)(mv:Value):Array Value:=#[.int .i32 0,.int .u32 0,.int .i64 t.len,.slice tr.1 t.rest.length tr.2,.slice tc.1 t.clo.length tc.2,.int .i64 c.n,.int .i64 c.f,.int .i64 c.k,
 .int .i64 b.props,.slice bi.1 b.items.length bi.2,.slice br.1 b.rules.length br.2,mv,.int .i64 0,.slice none 0 0,.slice none 0 0,.slice none 0 0,.slice none 0 0,.map (some ck),.map (some et),.slice none 0 0]
/-- The new office,its menus still to come. -/
def NewCut (B:Nat)(t:Tm)(c:Cy)(b:Bk)(s:Value)(wx:World):Prop :=
 ∃(g:Nat) (tr tc bi br:SlH) (hp hq hr:Nat→SlH) (ck et:Nat),s=.pointer (some ⟨g,0,none⟩)∧wx.heap.size=g+1∧B≤g∧Box wx g (cellsN t c b tr tc bi br ck et (.slice none 0 0)) ∧
  RNF (fun k=>B≤k∧k<g) wx tr.1 t.rest∧RNF (fun k=>B≤k∧k<g) wx tc.1 t.clo∧RBk (fun k=>B≤k∧k<g) wx bi.1 br.1 b hp hq hr∧MP wx 0 ck f0∧MP wx 0 et f0∧(B≤ck∧ck<g)∧(B≤et∧et<g)∧et≠ck
theorem NewCut.of {B:Nat}{t:Tm}{c:Cy}{b:Bk}{WP:World}(tr tc bi br:SlH){hp hq hr:Nat→SlH}{ck et g:Nat}(hgW:g=WP.heap.size)(hB:B≤WP.heap.size)(h1:RNF (Fr B WP) WP tr.1 t.rest)(h2:RNF (Fr B WP) WP tc.1 t.clo)(h3:RBk (Fr B WP) WP bi.1 br.1 b hp hq hr)
  (m1:MP WP 0 ck f0) (m2:MP WP 0 et f0) (hck:B≤ck) (het:B≤et) (hne:et≠ck):NewCut B t c b (.pointer (some ⟨g,0,none⟩)) (WP.alloc (.cells (cellsN t c b tr tc bi br ck et (.slice none 0 0)) 136)):=by
 subst hgW
 have hb:=(Below.refl WP.heap.size WP).alloc (Nat.le_refl _) (.cells (cellsN t c b tr tc bi br ck et (.slice none 0 0)) 136)
 exact ⟨WP.heap.size,tr,tc,bi,br,hp,hq,hr,ck,et,rfl,by simp,hB,Box.new _ _ _,h1.below hb,h2.below hb,h3.below hb,mp_al m1 _,mp_al m2 _,⟨hck,m1.lt⟩,⟨het,m2.lt⟩,hne⟩
theorem MP.nocell {w:World}{N x:Nat}{f:Int→Option Int}(h:MP w N x f)(p:Addr)(hp:p.block=x):w.cell? p=none:=by
 obtain ⟨n,D,hn,⟨es,clock,hb,r⟩,hd⟩:=h
 unfold World.cell?
 rw [hp,hb]
theorem ReadsF.not_map {F:Nat→Prop}{w:World}{size n:Nat}{A:Option Addr}{xs:List Value}(h:ReadsF F w size A n xs)(hs:0<size){x:Nat}(hm:∀p:Addr,p.block=x→w.cell? p=none):ReadsF (fun k=>F k∧k≠x) w size A n xs :=
 ⟨h.1,fun ad e hn=>⟨h.2 ad e hn,fun e2=>by
  obtain ⟨ad',e',_,hc⟩:=h.1.2 hn
  rw [e] at e';cases e'
  have hl:0<xs.length:=by rw [h.1.1];exact Nat.mul_pos hn hs
  have:=hc 0 xs[0] (by simp [hl])
  rw [hm _ (by rw [block_of_add];exact e2)] at this
  cases this⟩⟩
theorem RBk.not_map {F:Nat→Prop}{w:World}{A1 A2:Option Addr}{b:Bk}{hp hq hr:Nat→SlH}(h:RBk F w A1 A2 b hp hq hr){x:Nat}(hm:∀p:Addr,p.block=x→w.cell? p=none):RBk (fun k=>F k∧k≠x) w A1 A2 b hp hq hr :=
 ⟨⟨ReadsF.not_map h.it.row (by omega) hm,fun k hk=>ReadsF.not_map (h.it.parts k hk) (by omega) hm,fun k hk=>ReadsF.not_map (h.it.has k hk) (by omega) hm⟩,⟨ReadsF.not_map h.rl.row (by omega) hm,fun k hk=>ReadsF.not_map (h.rl.iff k hk) (by omega) hm⟩⟩
/-- The new office,all of it there. -/
theorem PO.made {B g:Nat}{t:Tm}{c:Cy}{b:Bk}{w:World}{tr tc bi br:SlH}{hp hq hr:Nat→SlH}{ck et:Nat}{A:Option Addr}{cp:Nat}(h7:7≤B)(hBg:B≤g)(hgw:g<w.heap.size)
  (box:Box w g (cellsN t c b tr tc bi br ck et (.slice A (mnL t c).length cp))) (h1:RNF (fun k=>B≤k∧k<g) w tr.1 t.rest) (h2:RNF (fun k=>B≤k∧k<g) w tc.1 t.clo) (h3:RBk (fun k=>B≤k∧k<g) w bi.1 br.1 b hp hq hr)
  (m1:MP w 0 ck f0) (m2:MP w 0 et f0) (hck:B≤ck∧ck<g) (het:B≤et∧et<g) (hne:et≠ck) (own:OwnN w (g+1) A cp (mnL t c)) (ok:newE t c b=0) :
  PO 0 0 w (fun k=>B≤k∧k<w.heap.size) g ⟨tr,tc,bi,br,hp,hq,hr,(A,cp),(none,0),(none,0),fun _=>(none,0),(none,0),(none,0),ck,et,(none,0)⟩ (new0 t c b):=by
 have hF:∀k,((B≤k∧k<g)∧k≠ck)∧k≠et→Im (fun k=>B≤k∧k<w.heap.size) g ⟨tr,tc,bi,br,hp,hq,hr,(A,cp),(none,0),(none,0),fun _=>(none,0),(none,0),(none,0),ck,et,(none,0)⟩ k:=fun k hk=>⟨⟨hk.1.1.1,by have:=hk.1.1.2;omega⟩,by have:=hk.1.1.2;omega,hk.1.2,hk.2,by simp [blkOf],by simp [blkOf],by simp [blkOf]⟩
 have n1:=m1.nocell
 have n2:=m2.nocell
 exact ⟨box,fun k hk=>⟨by omega,hk.2⟩,⟨hBg,hgw⟩,(ReadsF.not_map (ReadsF.not_map h1 (by omega) n1) (by omega) n2).mono hF,(ReadsF.not_map (ReadsF.not_map h2 (by omega) n1) (by omega) n2).mono hF,((h3.not_map n1).not_map n2).mono hF,
  ReadsF.of_own' own (fun k h1 h2=>⟨⟨by omega,h2⟩,by omega,by show k≠ck;omega,by show k≠et;omega,by simp [blkOf],by simp [blkOf],by simp [blkOf]⟩),
  ⟨⟨rfl,fun h=>by simp [new0] at h⟩,fun _ _ h=>by simp [new0] at h⟩,⟨⟨rfl,fun h=>by simp [new0] at h⟩,fun _ _ h=>by simp [new0] at h⟩,fun k hk=>by simp [new0] at hk,
  World.ownsRow_nil _ _ _ _,World.ownsRow_nil _ _ _ _,World.ownsRow_nil _ _ _ _,m1,m2,⟨⟨hck.1,show ck<w.heap.size by omega⟩,show ck≠g by omega⟩,⟨⟨het.1,show et<w.heap.size by omega⟩,show et≠g by omega,hne⟩,fun k e=>by simp [blkOf] at e,fun k e=>by simp [blkOf] at e,fun k e=>by simp [blkOf] at e,Nat.le_refl _,OfOk.new ok⟩
end Go.Proofs.YtiapkffihpgdcaaGreatDoor
