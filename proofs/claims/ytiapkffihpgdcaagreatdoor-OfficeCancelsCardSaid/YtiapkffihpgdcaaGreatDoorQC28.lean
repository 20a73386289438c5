import Derived.Test.YtiapkffihpgdcaaGreatDoorQC14
import Derived.Test.YtiapkffihpgdcaaGreatDoorQC22
import Derived.Test.YtiapkffihpgdcaaGreatDoorQC23
import Derived.Test.YtiapkffihpgdcaaGreatDoorQC24
import Derived.Test.YtiapkffihpgdcaaGreatDoorQC26
import Derived.Test.YtiapkffihpgdcaaGreatDoorQC27
import Derived.Shelf.Strings.OnBuilder
import Derived.Shelf.Strings.Builder1
import Derived.Ground.NamesProg
import Derived.StillTailTactics
import Derived.BigRegion
set_option linter.unusedVariables false
set_option linter.unusedSimpArgs false
set_option maxRecDepth 100000
set_option maxHeartbeats 4000000
namespace Go.Proofs.YtiapkffihpgdcaaGreatDoor
open Go.RowKit
theorem rparse_rest (s hq xq:Wd)(t:List Wd)(hll:1≤s.length∧s.length≤60)(hw:wds s=hq :: xq :: t)(hdish:hq≠wDish)(w:World):Calls Tryz.prog 134 #[St s] w (RetQ s w):=by
 obtain ⟨w2,hw2⟩:∃w2,w.alloc (.cells #[St [],St [],.slice none 0 0] 198)=w2:=⟨_,rfl⟩
 have hy:Below w.heap.size w w2:=by rw [← hw2];exact (Below.refl _ w).alloc (Nat.le_refl _) _
 have b0:Box w2 w.heap.size #[St [],St [],.slice none 0 0]:=by rw [← hw2];exact Box.new w _ _
 have hs2:w.heap.size<w2.heap.size:=b0.lt
 have z0:=b0.cell 0;have z1:=b0.cell 1;have z2:=b0.cell 2
 have g0:=b0.free 0;have g1:=b0.free 1;have g2:=b0.free 2
 simp only [gqA,gqB,gqC] at z0 z1 z2
 have hz3:Below w.heap.size w (((w2.setCell ⟨w.heap.size,0,none⟩ (St [])).setCell ⟨w.heap.size,1,none⟩ (St [])).setCell ⟨w.heap.size,2,none⟩ (.slice none 0 0)):=((hy.setCell (p:=⟨w.heap.size,0,none⟩) (Nat.le_refl _) _).setCell (p:=⟨w.heap.size,1,none⟩) (Nat.le_refl _) _).setCell (p:=⟨w.heap.size,2,none⟩) (Nat.le_refl _) _
 have hcw:=rwords_any s (by omega) w2
 have hsh:=wds_short s
 have hwl:(hq :: xq :: t).length≤s.length+1:=by have:=wds_take_len s s.length (Nat.le_refl _);rw [List.take_length,hw] at this;exact this
 rw [hw] at hcw hsh
 have h1':decide ((s.length:Int)<1)=false:=by rw [decide_eq_false_iff_not];omega
 have h60':decide ((60:Int)<(s.length:Int))=false:=by rw [decide_eq_false_iff_not];omega
 have htl:(hq :: xq :: t).length≤61:=by omega
 simp only [List.length_cons] at htl
 have HSH:=Lib.hid hsh
 clear hwl hsh
 obtain ⟨o1,o2,o3⟩:=rOk_plain hll hw (.inl hdish)
 have HO1:=Lib.hid o1;have HO2:=Lib.hid o2;have HO3:=Lib.hid o3
 have HCW:=Lib.hid hcw
 have HW:=Lib.hid hw
 have hwd:(hq == [100,105,115,104])=false:=by rw [beq_eq_false_iff_ne];exact hdish
 clear hcw hw o1 o2 o3 hdish
 go_enter Tryz.func134,Tryz.ntmps134
 go_wp2_with (go_at_call 201;(with_reducible refine HCW.out.mono ?_);rintro e w3 ⟨A3,c3,rfl,own3,hb3,hc3⟩;obtain ⟨b3,hA3,hbb3,hbs3,k0,_,_⟩:=own3.at9 (k:=0) (by simp);subst hA3;simp only [List.getD_cons_zero] at k0;have b3':=b0.below hb3;have b3c:=b3'.cell 0;have b3d:=b3'.cell 1;have b3e:=b3'.cell 2;have b3f:=b3'.free 0;have b3g:=b3'.free 1;have b3h:=b3'.free 2;simp only [gqA,gqB,gqC] at b3c b3d b3e;have hcap:=own3.capZ;simp only [List.length_cons] at hcap;obtain ⟨c4,hc4⟩:∃c4,c3=c4+2:=⟨c3-2,(by omega)⟩;subst hc4;have hcap2:t.length≤c4:=(by omega))
 obtain ⟨w5,hw5⟩:∃w5,w3.alloc (.cells #[St hq,.string ⟨#[]⟩,.slice none 0 0] 198)=w5:=⟨_,rfl⟩
 have hb5:Below w3.heap.size w3 w5:=by rw [← hw5];exact (Below.refl _ _).alloc (Nat.le_refl _) _
 have bO:Box w5 w3.heap.size #[St hq,St [],.slice none 0 0]:=by rw [← hw5];exact Box.new w3 _ _
 have bR:Box w5 w.heap.size #[St [],St [],.slice none 0 0]:=b3'.below hb5
 have hRS0:ReadsF (fun b=>b<w3.heap.size) w3 1 (some ⟨b3,1,none⟩:Option Addr) (xq :: t).length (strs (xq :: t)):=rs_from own3 1 (by simp)
 have hRS:=hRS0.below hb5
 obtain ⟨AW,hAW⟩:∃AW,(some ⟨b3,1,none⟩:Option Addr)=AW:=⟨_,rfl⟩
 rw [hAW] at hRS
 rw [hw5,hAW]
 have hsO:=bO.lt
 have hsw:w.heap.size<w3.heap.size:=Nat.lt_of_lt_of_le hs2 hb3.size
 have hsw5:w.heap.size<w5.heap.size:=Nat.lt_trans hsw hsO
 have hy3:=hy.trans (hb3.mono hy.size)
 have hy5:Below w.heap.size w w5:=hy3.trans (hb5.mono hy3.size)
 clear hw5 z0 z1 z2 g0 g1 g2 hz3 b3' own3 hRS0 b0 hw2 HCW k0 hAW b3c b3d b3e b3f b3g b3h
 go_loopw [6] (fun x wr=>∃(k:Nat) (A:Option Addr) (c:Nat) (L:List Int),k≤(t.length+1)∧x=.int .i64 k∧Hid (L=((xq :: t).take k).map numV)∧Hid (numsTo (xq :: t) k=true)∧Box wr w3.heap.size #[St hq,St [],.slice A k c]∧wr.ownsRow w5.heap.size 3 1 (.slice A k c) k (ints L)∧Keeps (fun b=>b<w3.heap.size) w5 wr∧Below w.heap.size w wr) (fun x _=>(t.length+1)-(intOf x).toNat)
 case atStart=>exact ⟨0,none,0,[],by omega,rfl,rfl,rfl,bO,World.ownsRow_nil _ _ _ _,Keeps.refl _ _,hy5⟩
 case round =>
  obtain ⟨k,A,c,L,hk,rfl,HL,HN,bx,own,hK,hyr⟩:=hrel
  have q0:=bx.cell 0;have q1:=bx.cell 1;have q2:=bx.cell 2;have f2:=bx.free 2
  have bRr:=bR.kept hK hsw
  have y0:=bRr.cell 0;have y1:=bRr.cell 1;have y2:=bRr.cell 2
  have p0:=bRr.free 0;have p1:=bRr.free 1;have p2:=bRr.free 2
  simp only [gqA,gqB,gqC] at q0 q1 q2 y0 y1 y2
  have hwr5:w5.heap.size≤wr.heap.size:=hK.size
  by_cases hlt:k<(t.length+1)
  ·obtain ⟨ad,eA,hab,c0⟩:=RS.at_ (show RS wr AW (xq :: t) from (hRS.kept hK).1) (show k<(xq :: t).length from hlt)
   subst eA
   have hkl:k<(xq :: t).length:=hlt
   have hwk:((xq :: t)[k]'hkl).length≤1000000000:=by have:=HSH.out ((xq :: t)[k]'hkl) (by first | exact List.mem_cons_of_mem _ (List.getElem_mem hkl) | exact List.mem_cons_of_mem _ (List.mem_cons_of_mem _ (List.getElem_mem hkl)));omega
   have hgD:(xq :: t).getD k []=(xq :: t)[k]'hkl:=by rw [List.getD_eq_getElem?_getD,List.getElem?_eq_getElem hkl];rfl
   have hgT:=takeZ (xq :: t) (show k<(xq :: t).length from hlt)
   obtain ⟨y,hy'⟩:∃y,y=(xq :: t)[k]'hkl:=⟨_,rfl⟩
   rw [← hy'] at c0 hwk hgD hgT
   have HGD:=Lib.hid hgD;have HGT:=Lib.hid hgT
   have HNM:=Lib.hid (rnumber_any9 y hwk)
   clear hgD hgT hy'
   cases hok:numOk y with
   | false =>
    have hno:rOk s=false:=by rw [HO3.out,numsTo_badZ (k:=k) (by rw [HGD.out];exact hok) (show k<(xq :: t).length from hlt)];rfl
    go_wp2_with (go_at_call 203;(with_reducible refine (HNM.out _).mono ?_);rintro e w' ⟨rfl,rfl⟩;rw [hok])
    (try simp only [Exit.inBlock,Exit.then])
    refine bodyPost_ret (v:=.tuple #[.agg #[St [],St [],.slice none 0 0],.bool false]) ?_ rfl (RetQ.no hno (((hyr.setCell (p:=⟨w.heap.size,0,none⟩) (Nat.le_refl _) _).setCell (p:=⟨w.heap.size,1,none⟩) (Nat.le_refl _) _).setCell (p:=⟨w.heap.size,2,none⟩) (Nat.le_refl _) _))
    first | (rw [results_cell_tmp rfl];done) | (rw [results_cell_tmp rfl];go_simp)
   | true =>
    have HN2:Hid (numsTo (xq :: t) (k+1)=true):=by show _=_;simp only [numsTo];rw [HN.out,HGD.out,hok];rfl
    go_wp2_with (first
     | (go_at_call 203;(with_reducible refine (HNM.out _).mono ?_);rintro e w' ⟨rfl,rfl⟩;rw [hok])
     | (at_builtin;refine wpList_app1 rfl _ _ rfl Tryz.underlying22 info_int rfl (by omega) rfl own rfl rfl (by simp [Value.oneCell']) (by omega) (by omega) (by omega) ?_;intro A'' c'' w4 own4 hb4;have hb4O:=hb4 _ (Nat.le_refl _);have bx4:=bx.keep hb4O hsO;have r2:=bx4.cell 2;have e2:=bx4.free 2;simp only [gqA,gqB,gqC] at r2))
    have e1:ints L ++ [.int .i64 (numV y)]=ints (L ++ [numV y]):=by simp [ints]
    rw [e1] at own4
    go_roundw
    case rel=>exact ⟨k+1,A'',c'',L ++ [numV y],by omega,by go_num,(by show _=_;rw [HL.out,HGT.out,List.map_append];rfl),HN2,(by simpa using bx4.set 2 (.slice A'' (k+1) c'') (by simp)),ownsRow_setCell_below own4 hsO _,hK.on ((keepsB_below (hb4 w3.heap.size (Nat.le_of_lt hsO))).on (keepsB_set (p:=⟨w3.heap.size,2,none⟩) (Nat.le_refl _) _)),(hyr.trans (hb4 w.heap.size (Nat.le_of_lt hsw5))).setCell (p:=⟨w3.heap.size,2,none⟩) (Nat.le_of_lt hsw) _⟩
    case measure=>simp [intOf];omega
  ·obtain rfl:k=(t.length+1):=by omega
   have HLL:=HL.out
   have hNN:numsTo (xq :: t) (xq :: t).length=true:=HN.out
   have hrk:rOk s=decide (0≤numsI hq∧(((t.length:Int)+1)=numsI hq∨hq=wChild∧numsI hq<((t.length:Int)+1))):=by
    rw [HO3.out,hNN,Bool.true_and,rCnt_eq HW.out]
    all_goals first | rfl | (rw [decide_eq_decide];simp)
   have hnb:=rnumbers_any hq
   obtain ⟨C,hC⟩:∃C,C=numsI hq:=⟨_,rfl⟩
   have hcb : -1≤C∧C≤3:=by rw [hC];exact numsI_bd hq
   rw [← hC] at hrk hnb
   have HRK:=Lib.hid hrk;have HNB:=Lib.hid hnb
   obtain ⟨hc1,hc2⟩:=hcb
   clear hrk hnb hC
   by_cases t0:0≤C
   ·have d0:decide (0≤C)=true:=by rw [decide_eq_true_eq];exact t0
    by_cases t1:((t.length:Int)+1)=C
    ·have d1:(((t.length:Int)+1) == C)=true:=by rw [beq_iff_eq];exact t1
     have ht:decide (0≤C∧(((t.length:Int)+1)=C∨hq=wChild∧C<((t.length:Int)+1)))=true:=by rw [decide_eq_true_eq];exact ⟨t0,.inl t1⟩
     have HT:=Lib.hid ht
     clear ht t1
     go_wp2_with (go_at_call 204;(with_reducible refine (HNB.out _).mono ?_);rintro e w' ⟨rfl,rfl⟩)
     go_region
     all_goals
      go_wp2_with fail
      (try simp only [Exit.inBlock,Exit.then])
      refine bodyPost_ret (v:=.tuple #[.agg #[St hq,St [],.slice A (t.length+1) c],.bool true]) ?_ rfl ⟨.agg #[St hq,St [],.slice A (t.length+1) c],by rw [HRK.out,HT.out],fun _=>⟨A,c,by rw [HW.out,HO1.out,HO2.out];rfl,?_⟩,⟨_,_,_,_,_,rfl⟩,?_⟩
      ·first | (rw [results_cell_tmp rfl];done) | (rw [results_cell_tmp rfl];go_simp)
      ·rw [HO2.out]
       unfold OwnN
       rw [List.length_map]
       have HLL2:L=((xq :: t)).map numV:=HLL.trans (congrArg (List.map numV) (List.take_of_length_le (Nat.le_refl _)))
       rw [← HLL2]
       exact own_base (ownsRow_setCell_below (ownsRow_setCell_below (ownsRow_setCell_below own hsw5 _) hsw5 _) hsw5 _) (Nat.le_of_lt hsw5)
      ·exact (((hyr.setCell (p:=⟨w.heap.size,0,none⟩) (Nat.le_refl _) _).setCell (p:=⟨w.heap.size,1,none⟩) (Nat.le_refl _) _).setCell (p:=⟨w.heap.size,2,none⟩) (Nat.le_refl _) _).drew
    ·have d1:(((t.length:Int)+1) == C)=false:=by rw [beq_eq_false_iff_ne];exact t1
     by_cases t2:hq=wChild
     ·have d2:(hq == [99,104,105,108,100])=true:=by rw [beq_iff_eq];exact t2
      by_cases t3:C<((t.length:Int)+1)
      ·have d3:decide (C<((t.length:Int)+1))=true:=by rw [decide_eq_true_eq];exact t3
       have ht:decide (0≤C∧(((t.length:Int)+1)=C∨hq=wChild∧C<((t.length:Int)+1)))=true:=by rw [decide_eq_true_eq];exact ⟨t0,.inr ⟨t2,t3⟩⟩
       have HT:=Lib.hid ht
       clear ht t1 t2
       go_wp2_with (go_at_call 204;(with_reducible refine (HNB.out _).mono ?_);rintro e w' ⟨rfl,rfl⟩)
       go_region
       all_goals
        go_wp2_with fail
        (try simp only [Exit.inBlock,Exit.then])
        refine bodyPost_ret (v:=.tuple #[.agg #[St hq,St [],.slice A (t.length+1) c],.bool true]) ?_ rfl ⟨.agg #[St hq,St [],.slice A (t.length+1) c],by rw [HRK.out,HT.out],fun _=>⟨A,c,by rw [HW.out,HO1.out,HO2.out];rfl,?_⟩,⟨_,_,_,_,_,rfl⟩,?_⟩
        ·first | (rw [results_cell_tmp rfl];done) | (rw [results_cell_tmp rfl];go_simp)
        ·rw [HO2.out]
         unfold OwnN
         rw [List.length_map]
         have HLL2:L=((xq :: t)).map numV:=HLL.trans (congrArg (List.map numV) (List.take_of_length_le (Nat.le_refl _)))
         rw [← HLL2]
         exact own_base (ownsRow_setCell_below (ownsRow_setCell_below (ownsRow_setCell_below own hsw5 _) hsw5 _) hsw5 _) (Nat.le_of_lt hsw5)
        ·exact (((hyr.setCell (p:=⟨w.heap.size,0,none⟩) (Nat.le_refl _) _).setCell (p:=⟨w.heap.size,1,none⟩) (Nat.le_refl _) _).setCell (p:=⟨w.heap.size,2,none⟩) (Nat.le_refl _) _).drew
      ·have d3:decide (C<((t.length:Int)+1))=false:=by rw [decide_eq_false_iff_not];exact t3
       have ht:decide (0≤C∧(((t.length:Int)+1)=C∨hq=wChild∧C<((t.length:Int)+1)))=false:=by rw [decide_eq_false_iff_not];exact fun e=>e.2.elim (fun h1=>t1 h1) (fun h1=>t3 h1.2)
       have HT:=Lib.hid ht
       clear ht t1 t2
       go_wp2_with (go_at_call 204;(with_reducible refine (HNB.out _).mono ?_);rintro e w' ⟨rfl,rfl⟩)
       go_region
       all_goals
        go_wp2_with fail
        (try simp only [Exit.inBlock,Exit.then])
        refine bodyPost_ret (v:=.tuple #[.agg #[St hq,St [],.slice A (t.length+1) c],.bool false]) ?_ rfl ⟨.agg #[St hq,St [],.slice A (t.length+1) c],by rw [HRK.out,HT.out],fun _=>⟨A,c,by rw [HW.out,HO1.out,HO2.out];rfl,?_⟩,⟨_,_,_,_,_,rfl⟩,?_⟩
        ·first | (rw [results_cell_tmp rfl];done) | (rw [results_cell_tmp rfl];go_simp)
        ·rw [HO2.out]
         unfold OwnN
         rw [List.length_map]
         have HLL2:L=((xq :: t)).map numV:=HLL.trans (congrArg (List.map numV) (List.take_of_length_le (Nat.le_refl _)))
         rw [← HLL2]
         exact own_base (ownsRow_setCell_below (ownsRow_setCell_below (ownsRow_setCell_below own hsw5 _) hsw5 _) hsw5 _) (Nat.le_of_lt hsw5)
        ·exact (((hyr.setCell (p:=⟨w.heap.size,0,none⟩) (Nat.le_refl _) _).setCell (p:=⟨w.heap.size,1,none⟩) (Nat.le_refl _) _).setCell (p:=⟨w.heap.size,2,none⟩) (Nat.le_refl _) _).drew
     ·have d2:(hq == [99,104,105,108,100])=false:=by rw [beq_eq_false_iff_ne];exact t2
      have ht:decide (0≤C∧(((t.length:Int)+1)=C∨hq=wChild∧C<((t.length:Int)+1)))=false:=by rw [decide_eq_false_iff_not];exact fun e=>e.2.elim (fun h1=>t1 h1) (fun h1=>t2 h1.1)
      have HT:=Lib.hid ht
      clear ht t1 t2
      go_wp2_with (go_at_call 204;(with_reducible refine (HNB.out _).mono ?_);rintro e w' ⟨rfl,rfl⟩)
      go_region
      all_goals
       go_wp2_with fail
       (try simp only [Exit.inBlock,Exit.then])
       refine bodyPost_ret (v:=.tuple #[.agg #[St hq,St [],.slice A (t.length+1) c],.bool false]) ?_ rfl ⟨.agg #[St hq,St [],.slice A (t.length+1) c],by rw [HRK.out,HT.out],fun _=>⟨A,c,by rw [HW.out,HO1.out,HO2.out];rfl,?_⟩,⟨_,_,_,_,_,rfl⟩,?_⟩
       ·first | (rw [results_cell_tmp rfl];done) | (rw [results_cell_tmp rfl];go_simp)
       ·rw [HO2.out]
        unfold OwnN
        rw [List.length_map]
        have HLL2:L=((xq :: t)).map numV:=HLL.trans (congrArg (List.map numV) (List.take_of_length_le (Nat.le_refl _)))
        rw [← HLL2]
        exact own_base (ownsRow_setCell_below (ownsRow_setCell_below (ownsRow_setCell_below own hsw5 _) hsw5 _) hsw5 _) (Nat.le_of_lt hsw5)
       ·exact (((hyr.setCell (p:=⟨w.heap.size,0,none⟩) (Nat.le_refl _) _).setCell (p:=⟨w.heap.size,1,none⟩) (Nat.le_refl _) _).setCell (p:=⟨w.heap.size,2,none⟩) (Nat.le_refl _) _).drew
   ·have d0:decide (0≤C)=false:=by rw [decide_eq_false_iff_not];exact t0
    have ht:decide (0≤C∧(((t.length:Int)+1)=C∨hq=wChild∧C<((t.length:Int)+1)))=false:=by rw [decide_eq_false_iff_not];exact fun h1=>t0 h1.1
    have HT:=Lib.hid ht
    clear ht
    go_wp2_with (go_at_call 204;(with_reducible refine (HNB.out _).mono ?_);rintro e w' ⟨rfl,rfl⟩)
    go_region
    all_goals
     go_wp2_with fail
     (try simp only [Exit.inBlock,Exit.then])
     refine bodyPost_ret (v:=.tuple #[.agg #[St hq,St [],.slice A (t.length+1) c],.bool false]) ?_ rfl ⟨.agg #[St hq,St [],.slice A (t.length+1) c],by rw [HRK.out,HT.out],fun _=>⟨A,c,by rw [HW.out,HO1.out,HO2.out];rfl,?_⟩,⟨_,_,_,_,_,rfl⟩,?_⟩
     ·first | (rw [results_cell_tmp rfl];done) | (rw [results_cell_tmp rfl];go_simp)
     ·rw [HO2.out]
      unfold OwnN
      rw [List.length_map]
      have HLL2:L=((xq :: t)).map numV:=HLL.trans (congrArg (List.map numV) (List.take_of_length_le (Nat.le_refl _)))
      rw [← HLL2]
      exact own_base (ownsRow_setCell_below (ownsRow_setCell_below (ownsRow_setCell_below own hsw5 _) hsw5 _) hsw5 _) (Nat.le_of_lt hsw5)
     ·exact (((hyr.setCell (p:=⟨w.heap.size,0,none⟩) (Nat.le_refl _) _).setCell (p:=⟨w.heap.size,1,none⟩) (Nat.le_refl _) _).setCell (p:=⟨w.heap.size,2,none⟩) (Nat.le_refl _) _).drew
end Go.Proofs.YtiapkffihpgdcaaGreatDoor
namespace Go.Proofs.YtiapkffihpgdcaaGreatDoor
theorem rparse_any (s:Wd)(hs:s.length≤1000000000)(w:World):Calls Tryz.prog 134 #[St s] w (RetQ s w):=by
 by_cases h1:s.length<1
 ·exact rparse_len s (.inl h1) hs w
 by_cases h60:60<s.length
 ·exact rparse_len s (.inr h60) hs w
 have hll:1≤s.length∧s.length≤60:=⟨by omega,by omega⟩
 cases hx:wds s with
 | nil=>exact absurd hx (wds_ne s)
 | cons h t =>
  cases t with
  | nil=>exact rparse_one s h hll hx w
  | cons x t =>
   by_cases hd:h=wDish
   ·cases hl:letB x with
    | true=>exact rparse_dish s h x t hll hx hd hl w
    | false=>exact rparse_bad s h x t hll hx hd hl w
   ·exact rparse_rest s h x t hll hx hd w
end Go.Proofs.YtiapkffihpgdcaaGreatDoor
namespace Go.Proofs.YtiapkffihpgdcaaGreatDoor
open Go.RowKit Go.MuLone Go.Shelf
theorem bokTo_len (l:List Wd)(h:∀w ∈ l,w.length≤60):∀k,(bokTo l k).length≤61*k
 | 0=>by simp [bokTo]
 | k+1=>by
  have ih:=bokTo_len l h k
  have h1:(l.getD k []).length≤60:=by
   rw [List.getD_eq_getElem?_getD]
   cases hx:l[k]? with
   | none=>simp
   | some x=>obtain ⟨hk,rfl⟩:=List.getElem?_eq_some_iff.1 hx;exact h _ (List.getElem_mem hk)
  simp only [bokTo,List.length_append,List.length_cons,List.length_nil]
  omega
section
variable {L:Int}{N:Nat}{w:World}{F:Nat→Prop}{g:Nat}{h:Hd}{s:Of}
theorem OfOk.short (hs:OfOk s):∀w ∈ s.orders,w.length≤60:=fun w hw=>(hs.lines w hw).2.2
end
end Go.Proofs.YtiapkffihpgdcaaGreatDoor
namespace Go.Proofs.YtiapkffihpgdcaaGreatDoor
open Go.RowKit Go.Sort
theorem hd_shortZ {l:List Wd}{n:Nat}(h:∀w ∈ l,w.length≤n):(hd l).length≤n:=by
 cases l with
 | nil=>simp [hd]
 | cons a r=>exact h a (by simp)
theorem prs_short {s:Wd}{r:Rq}(hp:prs s=some r):r.name.length≤s.length∧r.nums.length≤s.length+1:=by
 have hsh:=wds_short s
 have hl:(wds s).length≤s.length+1:=by have:=wds_take_len s s.length (Nat.le_refl _);rwa [List.take_length] at this
 rcases rOk_prs s with ⟨h1,_⟩ | ⟨r',h1,_,_,h4,h5⟩
 ·rw [hp] at h1;cases h1
 ·rw [hp] at h1
  cases h1
  rw [← h4,← h5,List.length_map]
  constructor
  ·unfold rNm
   split
   ·exact hd_shortZ fun w hw=>hsh w (List.mem_of_mem_tail hw)
   ·simp
  ·unfold rWs
   split
   ·rw [List.length_tail,List.length_tail];omega
   ·rw [List.length_tail];omega
theorem OwnN.capN {w:World}{base c:Nat}{A:Option Addr}{l:List Int}(h:OwnN w base A c l):l.length≤c:=by
 unfold OwnN at h
 rcases h.2 with ⟨h1,h2⟩ | ⟨g,cap,cur,h1,_,_,h4,_⟩
 ·omega
 ·injection h1 with _ _ h1;omega
theorem RN.tailZ {w:World}{ad:Addr}{l:List Int}(h:RN w (some ad) l):RN w (some (ad.add 1)) l.tail:=by
 cases l with
 | nil=>exact ⟨rfl,fun hn=>by simp at hn⟩
 | cons x r =>
  refine ⟨by simp [ints],fun hn=>?_⟩
  obtain ⟨ad',e,hb,hc⟩:=h.2 (by simp)
  cases e
  refine ⟨_,rfl,by rw [block_of_add];exact hb,fun j u hu=>?_⟩
  have:=hc (j+1) u (by simpa [ints] using hu)
  rwa [show ad.add (j+1)=(ad.add 1).add j from by cases ad;simp only [Addr.add];split <;> split <;> simp_all <;> omega] at this
theorem rparse_no {s:Wd}(hs:s.length≤1000000000)(hp:prs s=none)(w:World):Calls Tryz.prog 134 #[St s] w fun e w'=>∃x y A k c,e=.returned (.tuple #[.agg #[St x,St y,.slice A k c],.bool false])∧Below w.heap.size w w':=by
 refine (rparse_any s hs w).mono ?_
 rintro e w' ⟨v,he,_,⟨x,y,A,k,c,rfl⟩,hb⟩
 rcases rOk_prs s with ⟨_,h2⟩ | ⟨r,h1,_⟩
 ·rw [h2] at he;exact ⟨x,y,A,k,c,he,hb⟩
 ·rw [hp] at h1;cases h1
theorem rparse_yes {s:Wd}{r:Rq}(hs:s.length≤1000000000)(hp:prs s=some r)(w:World):Calls Tryz.prog 134 #[St s] w fun e w'=>∃A c,e=.returned (.tuple #[.agg #[St (headW r.kind),St r.name,.slice A r.nums.length c],.bool true])∧OwnN w' w.heap.size A c r.nums∧Below w.heap.size w w':=by
 refine (rparse_any s hs w).mono ?_
 rintro e w' ⟨v,he,hv,_,hb⟩
 rcases rOk_prs s with ⟨h1,_⟩ | ⟨r',h1,h2,h3,h4,h5⟩
 ·rw [hp] at h1;cases h1
 ·rw [hp] at h1
  cases h1
  obtain ⟨A,c,rfl,ho⟩:=hv h2
  rw [h2,h3,h4] at he
  have hl:(rWs s).length=r.nums.length:=by rw [← h5,List.length_map]
  rw [hl] at he
  rw [h5] at ho
  exact ⟨A,c,he,ho,hb⟩
theorem exS_ords (o:Of)(r:Rq):(exS o r).orders=o.orders:=by
 unfold exS
 repeat' split
 all_goals rfl
theorem exS_ok {o:Of}(h:OfOk o){r:Rq}(hr:RqOk r)(he:exE o r=0):OfOk (exS o r):=by
 have k0:=hr.k0;have k7:=hr.k7
 have hc:r.kind=0∨r.kind=1∨r.kind=2∨r.kind=3∨r.kind=4∨r.kind=5∨r.kind=6∨r.kind=7:=by omega
 rcases hc with hc | hc | hc | hc | hc | hc | hc | hc
 ·rw [exE_at hc] at he
  rw [exS_at hc]
  by_cases a:gi r.nums 0<o.now
  ·rw [if_pos a] at he;cases he
  rw [if_neg a] at he
  by_cases b:1440000<gi r.nums 0
  ·rw [if_pos b] at he;cases he
  exact h.at_ (by omega) (by omega)
 ·rw [exE_dish hc] at he;rw [exS_dish hc];exact h.dish (hr.name hc) hr.n0 he
 ·rw [exE_kid hc] at he;rw [exS_kid hc];exact h.kid hr.n0 he
 ·rw [exE_ord hc] at he;rw [exS_ord hc];exact h.chg (.inr rfl) he
 ·rw [exE_can hc] at he;rw [exS_can hc];exact h.chg (.inl rfl) he
 ·rw [exE_free hc] at he;rw [exS_free hc];exact h.free he
 ·rw [exE_cook hc] at he;rw [exS_cook hc];exact h.cook hr.n1 he
 ·rw [exE_eat hc] at he;rw [exS_eat hc];exact h.eat hr.n1 he
section
variable {w w4 w5:World}{F:Nat→Prop}{g:Nat}{h:Hr}{s:Of}
theorem RetR.back (hP:RO w F g h s)(hb:Below w.heap.size w w4){E:Int}{T:Of}{e:Ending}(hr:RetR w4 F g E T e w5):RetR w F g E T e w5:=by
 obtain ⟨he,ho,h',hP'⟩:=hr
 have hs:=hb.size
 refine ⟨he,(Off.of_below hb).trans ho (fun k hk=>.inl hk),h',hP'.wide (fun k hk=>?_) (hP.grown_lo (Nat.le_trans hs ho.size))⟩
 rcases hk with hk | ⟨h1,h2⟩
 ·exact .inl hk
 ·exact .inr ⟨by omega,h2⟩
/-- What is left when the order was done: it is counted and written down. -/
theorem RetR.fin {T:Of}{e:Ending}(hP:RO w F g h s)(hr:RetR w F g 0 T e w5){txt:Wd}(hT:T.orders=s.orders)(ok:OfOk { T with orders:=s.orders ++ [txt] }) :
  RetR w F g 0 { T with orders:=s.orders ++ [txt] } (.returned (.int .i64 0)) ((w5.setCell ⟨g,17,none⟩ (.int .i64 ((s.orders.length:Int)+1))).setCell ⟨g,18,none⟩ (St (bok s ++ (txt ++ [10])))):=by
 obtain ⟨_,ho,h',hP'⟩:=hr
 have hS:=hP'.setOrders (l:=s.orders ++ [txt]) ok
 have e1:((s.orders ++ [txt]).length:Int)=(s.orders.length:Int)+1:=by simp
 have e2:bok { T with orders:=s.orders ++ [txt] }=bok s ++ (txt ++ [10]):=by rw [bok_eq,bok_eq,bokL_app];simp [bokL]
 rw [e1,e2] at hS
 refine ⟨rfl,(ho.setCell (p:=⟨g,17,none⟩) (.inl hP.gF) _).setCell (p:=⟨g,18,none⟩) (.inl hP.gF) _,h',?_⟩
 have hg:∀k,grown F w w5 k=grown F w ((w5.setCell ⟨g,17,none⟩ (.int .i64 ((s.orders.length:Int)+1))).setCell ⟨g,18,none⟩ (St (bok s ++ (txt ++ [10])))) k:=fun k=>by rw [grown_set,grown_set]
 exact hS.re hg
end
section
variable {w w4 w5:World}{F:Nat→Prop}{g:Nat}{h:Hr}{s:Of}
theorem rdo_0 (hP:RO w F g h s)(txt:Wd)(r:Rq)(hp:prs txt=some r)(hk:r.kind=0)(hl:s.orders.length<200) :
  Calls Tryz.prog 53 #[.pointer (some ⟨g,0,none⟩),St txt] w (RetR w F g (doE s txt) (doS s txt)):=by
 obtain ⟨hr,hlen60⟩:=prs_ok hp
 have hq:=rparse_yes (by omega) hp w
 have hdE:=doE_some (o:=s) hp hl
 have hdS:=fun (hz:doE s txt=0)=>doS_good hz hp
 have hdB:=fun (hz:¬ doE s txt=0)=>doS_bad hz
 rw [hdE] at hdS hdB ⊢
 rw [hk] at hq
 have hw:headW 0=wAt:=rfl
 rw [hw] at hq
 have hxo:=exS_ords s r
 have hxk:=fun hz=>exS_ok hP.ok hr hz
 have n0:=hr.n0
 have n1:=hr.n1
 have hln:r.nums.length=1:=hr.one (by omega)
 rw [hln] at hq
 obtain ⟨E,hE⟩:∃E,exE s r=E:=⟨_,rfl⟩
 obtain ⟨X,hX⟩:∃X,X=if exE s r=0 then exS s r else s:=⟨_,rfl⟩
 have hX0:X.orders=s.orders:=by rw [hX];split;exact hxo;rfl
 have hX1:E=0→OfOk { X with orders:=s.orders ++ [txt] }∧{ X with orders:=s.orders ++ [txt] }=doS s txt:=fun hz=>by
  rw [hX,hE,if_pos hz]
  exact ⟨(hxk (hE.trans hz)).orders hp (by rw [hxo];exact hl) (by rw [hxo]),(hdS (hE.trans hz)).symm⟩
 have hX2:E≠0→X=s∧doS s txt=s:=fun hz=>by
  rw [hX,hE,if_neg hz]
  exact ⟨rfl,hdB (by rw [hE];exact hz)⟩
 have hcon:∀W,Below w.heap.size w W→Calls Tryz.prog 135 #[.pointer (some ⟨g,0,none⟩),.int .i64 (gi r.nums 0)] W (RetR W F g E X):=fun W hb=>by
  have hc:=rat_any (hP.below hb) (gi r.nums 0)
  have e1:(if gi r.nums 0<s.now then s else if 1440000<gi r.nums 0 then s else { s with now:=gi r.nums 0 })=X:=by
   rw [hX,exE_at hk,exS_at hk]
   by_cases a:gi r.nums 0<s.now
   ·rw [if_pos a,if_pos a];rfl
   ·rw [if_neg a,if_neg a]
    by_cases b:1440000<gi r.nums 0
    ·rw [if_pos b,if_pos b];rfl
    ·rw [if_neg b,if_neg b];rfl
  rw [e1,← exE_at hk,hE] at hc
  exact hc
 have HX0:=Lib.hid hX0;have HX1:=Lib.hid hX1;have HX2:=Lib.hid hX2
 have HCON:=Lib.hid hcon
 rw [hE]
 have HQ:=Lib.hid hq
 have HR:=Lib.hid hr
 have HPP:=Lib.hid hp
 obtain ⟨NM,hNM⟩:∃NM,NM=r.name:=⟨_,rfl⟩
 rw [← hNM] at HQ
 have hgl:=hP.gl
 have hl':decide ((200:Int)≤(s.orders.length:Int))=false:=by rw [decide_eq_false_iff_not];omega
 have q0:(wAt == [97,116])=true:=rfl
 have q1:(wAt == [100,105,115,104])=false:=rfl
 have q2:(wAt == [99,104,105,108,100])=false:=rfl
 have q3:(wAt == [111,114,100,101,114])=false:=rfl
 have q4:(wAt == [99,97,110,99,101,108])=false:=rfl
 have q5:(wAt == [102,114,101,101])=false:=rfl
 have q6:(wAt == [99,111,111,107])=false:=rfl
 have q7:(wAt == [101,97,116])=false:=rfl
 obtain ⟨WD,hWD⟩:∃WD,WD=wAt:=⟨_,rfl⟩
 rw [← hWD] at q0 q1 q2 q3 q4 q5 q6 q7 HQ
 obtain ⟨B,hB⟩:∃B,B=bok s:=⟨_,rfl⟩
 have hBl:B.length≤12200:=by rw [hB];have:=bokTo_len s.orders hP.ok.short s.orders.length;have:=hP.ok.ol;unfold bok;omega
 have HB:=Lib.hid hB
 have HWD:=Lib.hid hWD
 have hc1:(⟨txt.toArray⟩:ByteArray) ++ ⟨#[10]⟩=⟨(txt ++ [10]).toArray⟩:=st_app txt [10]
 have hc2:(⟨B.toArray⟩:ByteArray) ++ ⟨(txt ++ [10]).toArray⟩=⟨(B ++ (txt ++ [10])).toArray⟩:=st_app B (txt ++ [10])
 have HC1:=Lib.hid hc1;have HC2:=Lib.hid hc2
 have hsum1:¬ 9223372036854775807<txt.length+1:=by omega
 have hsum2:¬ 9223372036854775807<B.length+(txt.length+1):=by omega
 have hol:=hP.ok.ol
 clear hq hdE hdS hdB hw hxo hxk hX0 hX1 hX2 hX hcon hE hr hp hk hNM hB hWD hc1 hc2 n0 n1
 go_enter Tryz.func53,Tryz.ntmps53
 go_wp2_with (go_at_call 134;(with_reducible refine HQ.out.mono ?_);rintro e w3 ⟨A3,c3,rfl,own3,hb3⟩;have hcap:=own3.capN;have hR3:=RN.of_own own3;obtain ⟨w4,hw4⟩:∃w4,w3.alloc (.cells #[St WD,St NM,.slice A3 1 c3] 198)=w4:=⟨_,rfl⟩;have hb34:Below w3.heap.size w3 w4:=(by rw [← hw4];exact (Below.refl _ _).alloc (Nat.le_refl _) _);have hb4:=hb3.trans (hb34.mono hb3.size);have hR4:=hR3.below hb34;have b4:Box w4 w3.heap.size #[St WD,St NM,.slice A3 1 c3]:=(by rw [← hw4];exact Box.new _ _ _);have x0:=b4.cell 0;have x1:=b4.cell 1;have x2:=b4.cell 2;have hlt4:=b4.lt;simp only [gqA,gqB,gqC] at x0 x1 x2;have hP4:=hP.below hb4;have q17:=hP4.cOd;obtain ⟨ad,hA,hab,e0⟩:=hR4.at0 (by omega);subst hA)
 go_at_call 135
 with_reducible refine (HCON.out _ hb4).mono ?_
 rintro e w5 hr5;have he5:=hr5.1;subst he5;have HR5:=Lib.hid hr5;clear hr5
 all_goals
  have hrb:=RetR.back hP hb4 HR5.out
  obtain ⟨_,ho5,h5,hP5⟩:=HR5.out
  have y17:=hP5.cOd;have y18:=hP5.cBk;have z17:=hP5.box.free 17;have z18:=hP5.box.free 18
  rw [HX0.out] at y17
  have hbx:bok X=B:=by rw [HB.out];unfold bok;rw [HX0.out]
  rw [hbx] at y18
  have HRB:=Lib.hid hrb
  clear hrb hbx
  by_cases hv:E=0
  ·obtain ⟨k1,k2⟩:=HX1.out hv
   subst hv
   have hfin:=RetR.fin hP HRB.out HX0.out k1
   rw [k2,← HB.out] at hfin
   have HFIN:=Lib.hid hfin
   clear hfin k1 k2 HR5 HRB
   go_wp2_with fail
   rw [HC1.out,HC2.out]
   go_ret
   exact HFIN.out
  ·obtain ⟨k1,k2⟩:=HX2.out hv
   have hv1:(E == 0)=false:=by simp [hv]
   have hfin:=HRB.out
   rw [k1] at hfin
   have HFIN:=Lib.hid hfin
   have HK2:=Lib.hid k2
   clear hfin k1 k2 HR5 HRB hv
   go_wp2_with fail
   go_ret
   rw [HK2.out]
   exact HFIN.out
end
section
variable {w w4 w5:World}{F:Nat→Prop}{g:Nat}{h:Hr}{s:Of}
theorem rdo_1 (hP:RO w F g h s)(txt:Wd)(r:Rq)(hp:prs txt=some r)(hk:r.kind=1)(hl:s.orders.length<200) :
  Calls Tryz.prog 53 #[.pointer (some ⟨g,0,none⟩),St txt] w (RetR w F g (doE s txt) (doS s txt)):=by
 obtain ⟨hr,hlen60⟩:=prs_ok hp
 have hq:=rparse_yes (by omega) hp w
 have hdE:=doE_some (o:=s) hp hl
 have hdS:=fun (hz:doE s txt=0)=>doS_good hz hp
 have hdB:=fun (hz:¬ doE s txt=0)=>doS_bad hz
 rw [hdE] at hdS hdB ⊢
 rw [hk] at hq
 have hw:headW 1=wDish:=rfl
 rw [hw] at hq
 have hxo:=exS_ords s r
 have hxk:=fun hz=>exS_ok hP.ok hr hz
 have n0:=hr.n0
 have n1:=hr.n1
 have hln:r.nums.length=1:=hr.one (by omega)
 rw [hln] at hq
 obtain ⟨E,hE⟩:∃E,exE s r=E:=⟨_,rfl⟩
 obtain ⟨X,hX⟩:∃X,X=if exE s r=0 then exS s r else s:=⟨_,rfl⟩
 have hX0:X.orders=s.orders:=by rw [hX];split;exact hxo;rfl
 have hX1:E=0→OfOk { X with orders:=s.orders ++ [txt] }∧{ X with orders:=s.orders ++ [txt] }=doS s txt:=fun hz=>by
  rw [hX,hE,if_pos hz]
  exact ⟨(hxk (hE.trans hz)).orders hp (by rw [hxo];exact hl) (by rw [hxo]),(hdS (hE.trans hz)).symm⟩
 have hX2:E≠0→X=s∧doS s txt=s:=fun hz=>by
  rw [hX,hE,if_neg hz]
  exact ⟨rfl,hdB (by rw [hE];exact hz)⟩
 have hcon:∀W,Below w.heap.size w W→Calls Tryz.prog 136 #[.pointer (some ⟨g,0,none⟩),St r.name,.int .i64 (gi r.nums 0)] W (RetR W F g E X):=fun W hb=>by
  have hc:=rdish_any (hP.below hb) r.name (hr.name hk) (by have:=(prs_short hp).1;omega) (gi r.nums 0) n0
  rw [hX,← hE,exE_dish hk,exS_dish hk]
  exact hc
 have HX0:=Lib.hid hX0;have HX1:=Lib.hid hX1;have HX2:=Lib.hid hX2
 have HCON:=Lib.hid hcon
 rw [hE]
 have HQ:=Lib.hid hq
 have HR:=Lib.hid hr
 have HPP:=Lib.hid hp
 obtain ⟨NM,hNM⟩:∃NM,NM=r.name:=⟨_,rfl⟩
 rw [← hNM] at HQ HCON
 have hgl:=hP.gl
 have hl':decide ((200:Int)≤(s.orders.length:Int))=false:=by rw [decide_eq_false_iff_not];omega
 have q0:(wDish == [97,116])=false:=rfl
 have q1:(wDish == [100,105,115,104])=true:=rfl
 have q2:(wDish == [99,104,105,108,100])=false:=rfl
 have q3:(wDish == [111,114,100,101,114])=false:=rfl
 have q4:(wDish == [99,97,110,99,101,108])=false:=rfl
 have q5:(wDish == [102,114,101,101])=false:=rfl
 have q6:(wDish == [99,111,111,107])=false:=rfl
 have q7:(wDish == [101,97,116])=false:=rfl
 obtain ⟨WD,hWD⟩:∃WD,WD=wDish:=⟨_,rfl⟩
 rw [← hWD] at q0 q1 q2 q3 q4 q5 q6 q7 HQ
 obtain ⟨B,hB⟩:∃B,B=bok s:=⟨_,rfl⟩
 have hBl:B.length≤12200:=by rw [hB];have:=bokTo_len s.orders hP.ok.short s.orders.length;have:=hP.ok.ol;unfold bok;omega
 have HB:=Lib.hid hB
 have HWD:=Lib.hid hWD
 have hc1:(⟨txt.toArray⟩:ByteArray) ++ ⟨#[10]⟩=⟨(txt ++ [10]).toArray⟩:=st_app txt [10]
 have hc2:(⟨B.toArray⟩:ByteArray) ++ ⟨(txt ++ [10]).toArray⟩=⟨(B ++ (txt ++ [10])).toArray⟩:=st_app B (txt ++ [10])
 have HC1:=Lib.hid hc1;have HC2:=Lib.hid hc2
 have hsum1:¬ 9223372036854775807<txt.length+1:=by omega
 have hsum2:¬ 9223372036854775807<B.length+(txt.length+1):=by omega
 have hol:=hP.ok.ol
 clear hq hdE hdS hdB hw hxo hxk hX0 hX1 hX2 hX hcon hE hr hp hk hNM hB hWD hc1 hc2 n0 n1
 go_enter Tryz.func53,Tryz.ntmps53
 go_wp2_with (go_at_call 134;(with_reducible refine HQ.out.mono ?_);rintro e w3 ⟨A3,c3,rfl,own3,hb3⟩;have hcap:=own3.capN;have hR3:=RN.of_own own3;obtain ⟨w4,hw4⟩:∃w4,w3.alloc (.cells #[St WD,St NM,.slice A3 1 c3] 198)=w4:=⟨_,rfl⟩;have hb34:Below w3.heap.size w3 w4:=(by rw [← hw4];exact (Below.refl _ _).alloc (Nat.le_refl _) _);have hb4:=hb3.trans (hb34.mono hb3.size);have hR4:=hR3.below hb34;have b4:Box w4 w3.heap.size #[St WD,St NM,.slice A3 1 c3]:=(by rw [← hw4];exact Box.new _ _ _);have x0:=b4.cell 0;have x1:=b4.cell 1;have x2:=b4.cell 2;have hlt4:=b4.lt;simp only [gqA,gqB,gqC] at x0 x1 x2;have hP4:=hP.below hb4;have q17:=hP4.cOd;obtain ⟨ad,hA,hab,e0⟩:=hR4.at0 (by omega);subst hA)
 have hb5:=hb4.trans ((Below.refl w4.heap.size w4).drew.mono hb4.size)
 go_region_with (go_at_call 136;(with_reducible refine (HCON.out _ hb5).mono ?_);rintro e w5 hr5;have he5:=hr5.1;subst he5;have HR5:=Lib.hid hr5;clear hr5)
 all_goals
  have hrb:=RetR.back hP hb5 HR5.out
  obtain ⟨_,ho5,h5,hP5⟩:=HR5.out
  have y17:=hP5.cOd;have y18:=hP5.cBk;have z17:=hP5.box.free 17;have z18:=hP5.box.free 18
  rw [HX0.out] at y17
  have hbx:bok X=B:=by rw [HB.out];unfold bok;rw [HX0.out]
  rw [hbx] at y18
  have HRB:=Lib.hid hrb
  clear hrb hbx
  by_cases hv:E=0
  ·obtain ⟨k1,k2⟩:=HX1.out hv
   subst hv
   have hfin:=RetR.fin hP HRB.out HX0.out k1
   rw [k2,← HB.out] at hfin
   have HFIN:=Lib.hid hfin
   clear hfin k1 k2 HR5 HRB
   go_wp2_with fail
   rw [HC1.out,HC2.out]
   go_ret
   exact HFIN.out
  ·obtain ⟨k1,k2⟩:=HX2.out hv
   have hv1:(E == 0)=false:=by simp [hv]
   have hfin:=HRB.out
   rw [k1] at hfin
   have HFIN:=Lib.hid hfin
   have HK2:=Lib.hid k2
   clear hfin k1 k2 HR5 HRB hv
   go_wp2_with fail
   go_ret
   rw [HK2.out]
   exact HFIN.out
end
section
variable {w w4 w5:World}{F:Nat→Prop}{g:Nat}{h:Hr}{s:Of}
theorem rdo_2 (hP:RO w F g h s)(txt:Wd)(r:Rq)(hp:prs txt=some r)(hk:r.kind=2)(hl:s.orders.length<200) :
  Calls Tryz.prog 53 #[.pointer (some ⟨g,0,none⟩),St txt] w (RetR w F g (doE s txt) (doS s txt)):=by
 obtain ⟨hr,hlen60⟩:=prs_ok hp
 have hq:=rparse_yes (by omega) hp w
 have hdE:=doE_some (o:=s) hp hl
 have hdS:=fun (hz:doE s txt=0)=>doS_good hz hp
 have hdB:=fun (hz:¬ doE s txt=0)=>doS_bad hz
 rw [hdE] at hdS hdB ⊢
 rw [hk] at hq
 have hw:headW 2=wChild:=rfl
 rw [hw] at hq
 have hxo:=exS_ords s r
 have hxk:=fun hz=>exS_ok hP.ok hr hz
 have n0:=hr.n0
 have n1:=hr.n1
 obtain ⟨m,hm⟩:∃m,r.nums.length=m+1:=⟨r.nums.length-1,by have:=hr.len1 (by omega);omega⟩
 rw [hm] at hq
 obtain ⟨E,hE⟩:∃E,exE s r=E:=⟨_,rfl⟩
 obtain ⟨X,hX⟩:∃X,X=if exE s r=0 then exS s r else s:=⟨_,rfl⟩
 have hX0:X.orders=s.orders:=by rw [hX];split;exact hxo;rfl
 have hX1:E=0→OfOk { X with orders:=s.orders ++ [txt] }∧{ X with orders:=s.orders ++ [txt] }=doS s txt:=fun hz=>by
  rw [hX,hE,if_pos hz]
  exact ⟨(hxk (hE.trans hz)).orders hp (by rw [hxo];exact hl) (by rw [hxo]),(hdS (hE.trans hz)).symm⟩
 have hX2:E≠0→X=s∧doS s txt=s:=fun hz=>by
  rw [hX,hE,if_neg hz]
  exact ⟨rfl,hdB (by rw [hE];exact hz)⟩
 have hcon:∀W A0 c0,Below w.heap.size w W→RN W A0 r.nums.tail→Calls Tryz.prog 137 #[.pointer (some ⟨g,0,none⟩),.int .i64 (gi r.nums 0),.slice A0 m c0] W (RetR W F g E X):=fun W A0 c0 hb hRN=>by
  have htl:r.nums.tail.length=m:=by rw [List.length_tail,hm];rfl
  have hc:=rborn_any (hP.below hb) (gi r.nums 0) n0 r.nums.tail (by have:=(prs_short hp).2;omega) A0 c0 hRN
  rw [htl] at hc
  rw [hX,← hE,exE_kid hk,exS_kid hk]
  exact hc
 have HX0:=Lib.hid hX0;have HX1:=Lib.hid hX1;have HX2:=Lib.hid hX2
 have HCON:=Lib.hid hcon
 rw [hE]
 have HQ:=Lib.hid hq
 have HR:=Lib.hid hr
 have HPP:=Lib.hid hp
 obtain ⟨NM,hNM⟩:∃NM,NM=r.name:=⟨_,rfl⟩
 rw [← hNM] at HQ
 have hgl:=hP.gl
 have hl':decide ((200:Int)≤(s.orders.length:Int))=false:=by rw [decide_eq_false_iff_not];omega
 have q0:(wChild == [97,116])=false:=rfl
 have q1:(wChild == [100,105,115,104])=false:=rfl
 have q2:(wChild == [99,104,105,108,100])=true:=rfl
 have q3:(wChild == [111,114,100,101,114])=false:=rfl
 have q4:(wChild == [99,97,110,99,101,108])=false:=rfl
 have q5:(wChild == [102,114,101,101])=false:=rfl
 have q6:(wChild == [99,111,111,107])=false:=rfl
 have q7:(wChild == [101,97,116])=false:=rfl
 obtain ⟨WD,hWD⟩:∃WD,WD=wChild:=⟨_,rfl⟩
 rw [← hWD] at q0 q1 q2 q3 q4 q5 q6 q7 HQ
 obtain ⟨B,hB⟩:∃B,B=bok s:=⟨_,rfl⟩
 have hBl:B.length≤12200:=by rw [hB];have:=bokTo_len s.orders hP.ok.short s.orders.length;have:=hP.ok.ol;unfold bok;omega
 have HB:=Lib.hid hB
 have HWD:=Lib.hid hWD
 have hc1:(⟨txt.toArray⟩:ByteArray) ++ ⟨#[10]⟩=⟨(txt ++ [10]).toArray⟩:=st_app txt [10]
 have hc2:(⟨B.toArray⟩:ByteArray) ++ ⟨(txt ++ [10]).toArray⟩=⟨(B ++ (txt ++ [10])).toArray⟩:=st_app B (txt ++ [10])
 have HC1:=Lib.hid hc1;have HC2:=Lib.hid hc2
 have hsum1:¬ 9223372036854775807<txt.length+1:=by omega
 have hsum2:¬ 9223372036854775807<B.length+(txt.length+1):=by omega
 have hol:=hP.ok.ol
 clear hq hdE hdS hdB hw hxo hxk hX0 hX1 hX2 hX hcon hE hr hp hk hNM hB hWD hc1 hc2 n0 n1
 go_enter Tryz.func53,Tryz.ntmps53
 go_wp2_with (go_at_call 134;(with_reducible refine HQ.out.mono ?_);rintro e w3 ⟨A3,c3,rfl,own3,hb3⟩;have hcap:=own3.capN;have hR3:=RN.of_own own3;obtain ⟨w4,hw4⟩:∃w4,w3.alloc (.cells #[St WD,St NM,.slice A3 (m+1) c3] 198)=w4:=⟨_,rfl⟩;have hb34:Below w3.heap.size w3 w4:=(by rw [← hw4];exact (Below.refl _ _).alloc (Nat.le_refl _) _);have hb4:=hb3.trans (hb34.mono hb3.size);have hR4:=hR3.below hb34;have b4:Box w4 w3.heap.size #[St WD,St NM,.slice A3 (m+1) c3]:=(by rw [← hw4];exact Box.new _ _ _);have x0:=b4.cell 0;have x1:=b4.cell 1;have x2:=b4.cell 2;have hlt4:=b4.lt;simp only [gqA,gqB,gqC] at x0 x1 x2;have hP4:=hP.below hb4;have q17:=hP4.cOd;obtain ⟨ad,hA,hab,e0⟩:=hR4.at0 (by omega);subst hA)
 rw [hm] at hcap
 have hb5:=hb4.trans ((Below.refl w4.heap.size w4).drew.mono hb4.size)
 by_cases hc:c3=1
 ·have hR5:RN w4.drew (some ad) r.nums.tail:=by
   have:r.nums.tail=[]:=List.eq_nil_of_length_eq_zero (by rw [List.length_tail,hm];omega)
   rw [this]
   exact ⟨rfl,fun hn=>by simp at hn⟩
  go_region_with (go_at_call 137;(with_reducible refine (HCON.out _ _ _ hb5 hR5).mono ?_);rintro e w5 hr5;have he5:=hr5.1;subst he5;have HR5:=Lib.hid hr5;clear hr5)
  all_goals
   have hrb:=RetR.back hP hb5 HR5.out
   obtain ⟨_,ho5,h5,hP5⟩:=HR5.out
   have y17:=hP5.cOd;have y18:=hP5.cBk;have z17:=hP5.box.free 17;have z18:=hP5.box.free 18
   rw [HX0.out] at y17
   have hbx:bok X=B:=by rw [HB.out];unfold bok;rw [HX0.out]
   rw [hbx] at y18
   have HRB:=Lib.hid hrb
   clear hrb hbx
   by_cases hv:E=0
   ·obtain ⟨k1,k2⟩:=HX1.out hv
    subst hv
    have hfin:=RetR.fin hP HRB.out HX0.out k1
    rw [k2,← HB.out] at hfin
    have HFIN:=Lib.hid hfin
    clear hfin k1 k2 HR5 HRB
    go_wp2_with fail
    rw [HC1.out,HC2.out]
    go_ret
    exact HFIN.out
   ·obtain ⟨k1,k2⟩:=HX2.out hv
    have hv1:(E == 0)=false:=by simp [hv]
    have hfin:=HRB.out
    rw [k1] at hfin
    have HFIN:=Lib.hid hfin
    have HK2:=Lib.hid k2
    clear hfin k1 k2 HR5 HRB hv
    go_wp2_with fail
    go_ret
    rw [HK2.out]
    exact HFIN.out
 ·have hR5:RN w4.drew (some ⟨ad.block,ad.off+1,none⟩) r.nums.tail:=by
   have:=RN.tailZ (show RN w4.drew (some ad) r.nums from hR4.below (Below.refl w4.heap.size w4).drew)
   rwa [show ad.add 1=⟨ad.block,ad.off+1,none⟩ from by unfold Addr.add;rw [if_neg (by omega)]] at this
  go_region_with (go_at_call 137;(with_reducible refine (HCON.out _ _ _ hb5 hR5).mono ?_);rintro e w5 hr5;have he5:=hr5.1;subst he5;have HR5:=Lib.hid hr5;clear hr5)
  all_goals
   have hrb:=RetR.back hP hb5 HR5.out
   obtain ⟨_,ho5,h5,hP5⟩:=HR5.out
   have y17:=hP5.cOd;have y18:=hP5.cBk;have z17:=hP5.box.free 17;have z18:=hP5.box.free 18
   rw [HX0.out] at y17
   have hbx:bok X=B:=by rw [HB.out];unfold bok;rw [HX0.out]
   rw [hbx] at y18
   have HRB:=Lib.hid hrb
   clear hrb hbx
   by_cases hv:E=0
   ·obtain ⟨k1,k2⟩:=HX1.out hv
    subst hv
    have hfin:=RetR.fin hP HRB.out HX0.out k1
    rw [k2,← HB.out] at hfin
    have HFIN:=Lib.hid hfin
    clear hfin k1 k2 HR5 HRB
    go_wp2_with fail
    rw [HC1.out,HC2.out]
    go_ret
    exact HFIN.out
   ·obtain ⟨k1,k2⟩:=HX2.out hv
    have hv1:(E == 0)=false:=by simp [hv]
    have hfin:=HRB.out
    rw [k1] at hfin
    have HFIN:=Lib.hid hfin
    have HK2:=Lib.hid k2
    clear hfin k1 k2 HR5 HRB hv
    go_wp2_with fail
    go_ret
    rw [HK2.out]
    exact HFIN.out
end
section
variable {w:World}{F:Nat→Prop}{g:Nat}{h:Hr}{s:Of}
theorem rordered_none (hP:RO w F g h s)(WD name:Wd)(n:List Int)(hn:n.length=3)(A:Option Addr)(c:Nat)(hR:RN w A n)(hk:hasK s.kids (gi n 0)=false) :
  Calls Tryz.prog 138 #[.pointer (some ⟨g,0,none⟩),.agg #[St WD,St name,.slice A n.length c]] w (RetR w F g 5 s):=by
 obtain ⟨ad,rfl,hab0,e0⟩:=hR.at0 (by omega)
 have e1:=hR.cellk (k:=1) (by omega) (by omega)
 have e2:=hR.cellk (k:=2) (by omega) (by omega)
 rw [hn]
 obtain ⟨w2,hw2⟩:∃w2,w.alloc (.cells #[St WD,St name,.slice (some ad) 3 c] 198)=w2:=⟨_,rfl⟩
 have hy:Below w.heap.size w w2:=by rw [← hw2];exact (Below.refl _ w).alloc (Nat.le_refl _) _
 have b0:Box w2 w.heap.size #[St WD,St name,.slice (some ad) 3 c]:=by rw [← hw2];exact Box.new w _ _
 have x0:=b0.cell 0;have x2:=b0.cell 2
 simp only [gqA,gqB,gqC] at x0 x2
 have hlt0:=b0.lt
 have hP2:=hP.below hy
 have y0:=(hy.cell hab0).trans e0
 have y1:=(hy.cell (p:=⟨ad.block,ad.off+1,none⟩) hab0).trans e1
 have y2:=(hy.cell (p:=⟨ad.block,ad.off+2,none⟩) hab0).trans e2
 have hcon:=rchild_any hP2 (gi n 0)
 rw [kix_none hk] at hcon
 have HC:=Lib.hid hcon
 clear hcon hk
 go_enter Tryz.func138,Tryz.ntmps138
 go_wp2_with (go_at_call 98;(with_reducible refine HC.out.mono ?_);rintro e w5 ⟨rfl,hw5⟩;have hw6:=hw5.symm;clear hw5;subst hw6)
 go_ret
 exact hP.quiet hy
end
end Go.Proofs.YtiapkffihpgdcaaGreatDoor
