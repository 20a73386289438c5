import Derived.Test.YtiapkffihpgdcaaGreatDoorQC24
set_option linter.unusedVariables false
set_option linter.unusedSimpArgs false
set_option maxRecDepth 100000
set_option maxHeartbeats 4000000
namespace Go.Proofs.YtiapkffihpgdcaaGreatDoor
open Go.RowKit
theorem rparse_one (s hq:Wd)(hll:1≤s.length∧s.length≤60)(hw:wds s=[hq])(w:World):Calls Tryz.prog 134 #[St s] w (RetQ s w):=by
 obtain ⟨w2,hw2⟩:∃w2,w.alloc (.cells #[St [],St [],.slice none 0 0] 198)=w2:=⟨_,rfl⟩
 have hy:Below w.heap.size w w2:=by rw [← hw2];exact (Below.refl _ w).alloc (Nat.le_refl _) _
 have b0:Box w2 w.heap.size #[St [],St [],.slice none 0 0]:=by rw [← hw2];exact Box.new w _ _
 have hs2:w.heap.size<w2.heap.size:=b0.lt
 have z0:=b0.cell 0;have z1:=b0.cell 1;have z2:=b0.cell 2
 have g0:=b0.free 0;have g1:=b0.free 1;have g2:=b0.free 2
 simp only [gqA,gqB,gqC] at z0 z1 z2
 have hz3:Below w.heap.size w (((w2.setCell ⟨w.heap.size,0,none⟩ (St [])).setCell ⟨w.heap.size,1,none⟩ (St [])).setCell ⟨w.heap.size,2,none⟩ (.slice none 0 0)):=((hy.setCell (p:=⟨w.heap.size,0,none⟩) (Nat.le_refl _) _).setCell (p:=⟨w.heap.size,1,none⟩) (Nat.le_refl _) _).setCell (p:=⟨w.heap.size,2,none⟩) (Nat.le_refl _) _
 have hcw:=rwords_any s (by omega) w2
 have hsh:=wds_short s
 have hwl:([hq]).length≤s.length+1:=by have:=wds_take_len s s.length (Nat.le_refl _);rw [List.take_length,hw] at this;exact this
 rw [hw] at hcw hsh
 have h1':decide ((s.length:Int)<1)=false:=by rw [decide_eq_false_iff_not];omega
 have h60':decide ((60:Int)<(s.length:Int))=false:=by rw [decide_eq_false_iff_not];omega
 have htl:([hq]).length≤61:=by omega
 simp only [List.length_cons] at htl
 have HSH:=Lib.hid hsh
 clear hwl hsh
 obtain ⟨o1,o2,o3⟩:=rOk_plain hll hw (.inr rfl)
 have HO1:=Lib.hid o1;have HO2:=Lib.hid o2;have HO3:=Lib.hid o3
 have HCW:=Lib.hid hcw
 have HW:=Lib.hid hw
 obtain ⟨qd,hqd⟩:∃qd,(hq == [100,105,115,104])=qd:=⟨_,rfl⟩
 clear hcw hw o1 o2 o3
 cases qd
 all_goals
  go_enter Tryz.func134,Tryz.ntmps134
  go_wp2_with (go_at_call 201;(with_reducible refine HCW.out.mono ?_);rintro e w3 ⟨A3,c3,rfl,own3,hb3,hc3⟩;obtain ⟨b3,hA3,hbb3,hbs3,k0,_,_⟩:=own3.at9 (k:=0) (by simp);subst hA3;simp only [List.getD_cons_zero] at k0;have b3':=b0.below hb3;have b3c:=b3'.cell 0;have b3d:=b3'.cell 1;have b3e:=b3'.cell 2;have b3f:=b3'.free 0;have b3g:=b3'.free 1;have b3h:=b3'.free 2;simp only [gqA,gqB,gqC] at b3c b3d b3e;have hc4:=hc3 rfl;subst hc4)
  obtain ⟨w5,hw5⟩:∃w5,w3.alloc (.cells #[St hq,.string ⟨#[]⟩,.slice none 0 0] 198)=w5:=⟨_,rfl⟩
  have hb5:Below w3.heap.size w3 w5:=by rw [← hw5];exact (Below.refl _ _).alloc (Nat.le_refl _) _
  have bO:Box w5 w3.heap.size #[St hq,St [],.slice none 0 0]:=by rw [← hw5];exact Box.new w3 _ _
  have bR:Box w5 w.heap.size #[St [],St [],.slice none 0 0]:=b3'.below hb5
  have hRS0:ReadsF (fun b=>b<w3.heap.size) w3 1 (some ⟨b3,0,none⟩:Option Addr) ([]:List Wd).length (strs ([]:List Wd)):=⟨⟨rfl,fun hn=>by simp at hn⟩,fun _ _ hn=>by simp at hn⟩
  have hRS:=hRS0.below hb5
  obtain ⟨AW,hAW⟩:∃AW,(some ⟨b3,0,none⟩:Option Addr)=AW:=⟨_,rfl⟩
  rw [hAW] at hRS
  rw [hw5,hAW]
  have hsO:=bO.lt
  have hsw:w.heap.size<w3.heap.size:=Nat.lt_of_lt_of_le hs2 hb3.size
  have hsw5:w.heap.size<w5.heap.size:=Nat.lt_trans hsw hsO
  have hy3:=hy.trans (hb3.mono hy.size)
  have hy5:Below w.heap.size w w5:=hy3.trans (hb5.mono hy3.size)
  clear hw5 z0 z1 z2 g0 g1 g2 hz3 b3' own3 hRS0 b0 hw2 HCW k0 hAW b3c b3d b3e b3f b3g b3h
  go_loopw [6] (fun x wr=>∃(k:Nat) (A:Option Addr) (c:Nat) (L:List Int),k≤0∧x=.int .i64 k∧Hid (L=(([]:List Wd).take k).map numV)∧Hid (numsTo ([]:List Wd) k=true)∧Box wr w3.heap.size #[St hq,St [],.slice A k c]∧wr.ownsRow w5.heap.size 3 1 (.slice A k c) k (ints L)∧Keeps (fun b=>b<w3.heap.size) w5 wr∧Below w.heap.size w wr) (fun x _=>0-(intOf x).toNat)
  case atStart=>exact ⟨0,none,0,[],by omega,rfl,rfl,rfl,bO,World.ownsRow_nil _ _ _ _,Keeps.refl _ _,hy5⟩
  case round =>
   obtain ⟨k,A,c,L,hk,rfl,HL,HN,bx,own,hK,hyr⟩:=hrel
   have q0:=bx.cell 0;have q1:=bx.cell 1;have q2:=bx.cell 2;have f2:=bx.free 2
   have bRr:=bR.kept hK hsw
   have y0:=bRr.cell 0;have y1:=bRr.cell 1;have y2:=bRr.cell 2
   have p0:=bRr.free 0;have p1:=bRr.free 1;have p2:=bRr.free 2
   simp only [gqA,gqB,gqC] at q0 q1 q2 y0 y1 y2
   have hwr5:w5.heap.size≤wr.heap.size:=hK.size
   by_cases hlt:k<0
   ·exact absurd hlt (Nat.not_lt_zero _)
   ·obtain rfl:k=0:=by omega
    have HLL:=HL.out
    have hNN:numsTo ([]:List Wd) ([]:List Wd).length=true:=HN.out
    have hrk:rOk s=decide (0≤numsI hq∧((0:Int)=numsI hq∨hq=wChild∧numsI hq<(0:Int))):=by
     rw [HO3.out,hNN,Bool.true_and,rCnt_eq HW.out]
     all_goals first | rfl | (rw [decide_eq_decide];simp)
    have hnb:=rnumbers_any hq
    obtain ⟨C,hC⟩:∃C,C=numsI hq:=⟨_,rfl⟩
    have hcb : -1≤C∧C≤3:=by rw [hC];exact numsI_bd hq
    rw [← hC] at hrk hnb
    have HRK:=Lib.hid hrk;have HNB:=Lib.hid hnb
    obtain ⟨hc1,hc2⟩:=hcb
    clear hrk hnb hC
    by_cases t0:0≤C
    ·have d0:decide (0≤C)=true:=by rw [decide_eq_true_eq];exact t0
     by_cases t1:(0:Int)=C
     ·have d1:((0:Int) == C)=true:=by rw [beq_iff_eq];exact t1
      have ht:decide (0≤C∧((0:Int)=C∨hq=wChild∧C<(0:Int)))=true:=by rw [decide_eq_true_eq];exact ⟨t0,.inl t1⟩
      have HT:=Lib.hid ht
      clear ht t1
      go_wp2_with (go_at_call 204;(with_reducible refine (HNB.out _).mono ?_);rintro e w' ⟨rfl,rfl⟩)
      go_region
      all_goals
       go_wp2_with fail
       (try simp only [Exit.inBlock,Exit.then])
       refine bodyPost_ret (v:=.tuple #[.agg #[St hq,St [],.slice A 0 c],.bool true]) ?_ rfl ⟨.agg #[St hq,St [],.slice A 0 c],by rw [HRK.out,HT.out],fun _=>⟨A,c,by rw [HW.out,HO1.out,HO2.out];rfl,?_⟩,⟨_,_,_,_,_,rfl⟩,?_⟩
       ·first | (rw [results_cell_tmp rfl];done) | (rw [results_cell_tmp rfl];go_simp)
       ·rw [HO2.out]
        unfold OwnN
        rw [List.length_map]
        have HLL2:L=(([]:List Wd)).map numV:=HLL.trans (congrArg (List.map numV) (List.take_of_length_le (Nat.le_refl _)))
        rw [← HLL2]
        exact own_base (ownsRow_setCell_below (ownsRow_setCell_below (ownsRow_setCell_below own hsw5 _) hsw5 _) hsw5 _) (Nat.le_of_lt hsw5)
       ·exact (((hyr.setCell (p:=⟨w.heap.size,0,none⟩) (Nat.le_refl _) _).setCell (p:=⟨w.heap.size,1,none⟩) (Nat.le_refl _) _).setCell (p:=⟨w.heap.size,2,none⟩) (Nat.le_refl _) _).drew
     ·have d1:((0:Int) == C)=false:=by rw [beq_eq_false_iff_ne];exact t1
      by_cases t2:hq=wChild
      ·have d2:(hq == [99,104,105,108,100])=true:=by rw [beq_iff_eq];exact t2
       by_cases t3:C<(0:Int)
       ·have d3:decide (C<(0:Int))=true:=by rw [decide_eq_true_eq];exact t3
        exact absurd t3 (by omega)
       ·have d3:decide (C<(0:Int))=false:=by rw [decide_eq_false_iff_not];exact t3
        have ht:decide (0≤C∧((0:Int)=C∨hq=wChild∧C<(0:Int)))=false:=by rw [decide_eq_false_iff_not];exact fun e=>e.2.elim (fun h1=>t1 h1) (fun h1=>t3 h1.2)
        have HT:=Lib.hid ht
        clear ht t1 t2
        go_wp2_with (go_at_call 204;(with_reducible refine (HNB.out _).mono ?_);rintro e w' ⟨rfl,rfl⟩)
        go_region
        all_goals
         go_wp2_with fail
         (try simp only [Exit.inBlock,Exit.then])
         refine bodyPost_ret (v:=.tuple #[.agg #[St hq,St [],.slice A 0 c],.bool false]) ?_ rfl ⟨.agg #[St hq,St [],.slice A 0 c],by rw [HRK.out,HT.out],fun _=>⟨A,c,by rw [HW.out,HO1.out,HO2.out];rfl,?_⟩,⟨_,_,_,_,_,rfl⟩,?_⟩
         ·first | (rw [results_cell_tmp rfl];done) | (rw [results_cell_tmp rfl];go_simp)
         ·rw [HO2.out]
          unfold OwnN
          rw [List.length_map]
          have HLL2:L=(([]:List Wd)).map numV:=HLL.trans (congrArg (List.map numV) (List.take_of_length_le (Nat.le_refl _)))
          rw [← HLL2]
          exact own_base (ownsRow_setCell_below (ownsRow_setCell_below (ownsRow_setCell_below own hsw5 _) hsw5 _) hsw5 _) (Nat.le_of_lt hsw5)
         ·exact (((hyr.setCell (p:=⟨w.heap.size,0,none⟩) (Nat.le_refl _) _).setCell (p:=⟨w.heap.size,1,none⟩) (Nat.le_refl _) _).setCell (p:=⟨w.heap.size,2,none⟩) (Nat.le_refl _) _).drew
      ·have d2:(hq == [99,104,105,108,100])=false:=by rw [beq_eq_false_iff_ne];exact t2
       have ht:decide (0≤C∧((0:Int)=C∨hq=wChild∧C<(0:Int)))=false:=by rw [decide_eq_false_iff_not];exact fun e=>e.2.elim (fun h1=>t1 h1) (fun h1=>t2 h1.1)
       have HT:=Lib.hid ht
       clear ht t1 t2
       go_wp2_with (go_at_call 204;(with_reducible refine (HNB.out _).mono ?_);rintro e w' ⟨rfl,rfl⟩)
       go_region
       all_goals
        go_wp2_with fail
        (try simp only [Exit.inBlock,Exit.then])
        refine bodyPost_ret (v:=.tuple #[.agg #[St hq,St [],.slice A 0 c],.bool false]) ?_ rfl ⟨.agg #[St hq,St [],.slice A 0 c],by rw [HRK.out,HT.out],fun _=>⟨A,c,by rw [HW.out,HO1.out,HO2.out];rfl,?_⟩,⟨_,_,_,_,_,rfl⟩,?_⟩
        ·first | (rw [results_cell_tmp rfl];done) | (rw [results_cell_tmp rfl];go_simp)
        ·rw [HO2.out]
         unfold OwnN
         rw [List.length_map]
         have HLL2:L=(([]:List Wd)).map numV:=HLL.trans (congrArg (List.map numV) (List.take_of_length_le (Nat.le_refl _)))
         rw [← HLL2]
         exact own_base (ownsRow_setCell_below (ownsRow_setCell_below (ownsRow_setCell_below own hsw5 _) hsw5 _) hsw5 _) (Nat.le_of_lt hsw5)
        ·exact (((hyr.setCell (p:=⟨w.heap.size,0,none⟩) (Nat.le_refl _) _).setCell (p:=⟨w.heap.size,1,none⟩) (Nat.le_refl _) _).setCell (p:=⟨w.heap.size,2,none⟩) (Nat.le_refl _) _).drew
    ·have d0:decide (0≤C)=false:=by rw [decide_eq_false_iff_not];exact t0
     have ht:decide (0≤C∧((0:Int)=C∨hq=wChild∧C<(0:Int)))=false:=by rw [decide_eq_false_iff_not];exact fun h1=>t0 h1.1
     have HT:=Lib.hid ht
     clear ht
     go_wp2_with (go_at_call 204;(with_reducible refine (HNB.out _).mono ?_);rintro e w' ⟨rfl,rfl⟩)
     go_region
     all_goals
      go_wp2_with fail
      (try simp only [Exit.inBlock,Exit.then])
      refine bodyPost_ret (v:=.tuple #[.agg #[St hq,St [],.slice A 0 c],.bool false]) ?_ rfl ⟨.agg #[St hq,St [],.slice A 0 c],by rw [HRK.out,HT.out],fun _=>⟨A,c,by rw [HW.out,HO1.out,HO2.out];rfl,?_⟩,⟨_,_,_,_,_,rfl⟩,?_⟩
      ·first | (rw [results_cell_tmp rfl];done) | (rw [results_cell_tmp rfl];go_simp)
      ·rw [HO2.out]
       unfold OwnN
       rw [List.length_map]
       have HLL2:L=(([]:List Wd)).map numV:=HLL.trans (congrArg (List.map numV) (List.take_of_length_le (Nat.le_refl _)))
       rw [← HLL2]
       exact own_base (ownsRow_setCell_below (ownsRow_setCell_below (ownsRow_setCell_below own hsw5 _) hsw5 _) hsw5 _) (Nat.le_of_lt hsw5)
      ·exact (((hyr.setCell (p:=⟨w.heap.size,0,none⟩) (Nat.le_refl _) _).setCell (p:=⟨w.heap.size,1,none⟩) (Nat.le_refl _) _).setCell (p:=⟨w.heap.size,2,none⟩) (Nat.le_refl _) _).drew
theorem rparse_bad (s hq xq:Wd)(t:List Wd)(hll:1≤s.length∧s.length≤60)(hw:wds s=hq :: xq :: t)(hdish:hq=wDish)(hlx:letB xq=false)(w:World):Calls Tryz.prog 134 #[St s] w (RetQ s w):=by
 obtain ⟨w2,hw2⟩:∃w2,w.alloc (.cells #[St [],St [],.slice none 0 0] 198)=w2:=⟨_,rfl⟩
 have hy:Below w.heap.size w w2:=by rw [← hw2];exact (Below.refl _ w).alloc (Nat.le_refl _) _
 have b0:Box w2 w.heap.size #[St [],St [],.slice none 0 0]:=by rw [← hw2];exact Box.new w _ _
 have hs2:w.heap.size<w2.heap.size:=b0.lt
 have z0:=b0.cell 0;have z1:=b0.cell 1;have z2:=b0.cell 2
 have g0:=b0.free 0;have g1:=b0.free 1;have g2:=b0.free 2
 simp only [gqA,gqB,gqC] at z0 z1 z2
 have hz3:Below w.heap.size w (((w2.setCell ⟨w.heap.size,0,none⟩ (St [])).setCell ⟨w.heap.size,1,none⟩ (St [])).setCell ⟨w.heap.size,2,none⟩ (.slice none 0 0)):=((hy.setCell (p:=⟨w.heap.size,0,none⟩) (Nat.le_refl _) _).setCell (p:=⟨w.heap.size,1,none⟩) (Nat.le_refl _) _).setCell (p:=⟨w.heap.size,2,none⟩) (Nat.le_refl _) _
 have hcw:=rwords_any s (by omega) w2
 have hsh:=wds_short s
 have hwl:(hq :: xq :: t).length≤s.length+1:=by have:=wds_take_len s s.length (Nat.le_refl _);rw [List.take_length,hw] at this;exact this
 rw [hw] at hcw hsh
 have h1':decide ((s.length:Int)<1)=false:=by rw [decide_eq_false_iff_not];omega
 have h60':decide ((60:Int)<(s.length:Int))=false:=by rw [decide_eq_false_iff_not];omega
 have htl:(hq :: xq :: t).length≤61:=by omega
 simp only [List.length_cons] at htl
 have HSH:=Lib.hid hsh
 clear hwl hsh
 obtain ⟨o1,o2,o3⟩:=rOk_dish hll (by rw [hw,hdish])
 have hwd:(hq == [100,105,115,104])=true:=by rw [beq_iff_eq];exact hdish
 rw [hlx] at o3
 have hno:rOk s=false:=o3
 have HCW:=Lib.hid hcw
 have hxl:xq.length≤1000000000:=by have:=HSH.out xq (by simp);omega
 clear hcw hw o1 o2 o3 hdish
 go_enter Tryz.func134,Tryz.ntmps134
 go_wp2_with (first | (go_at_call 201;(with_reducible refine HCW.out.mono ?_);rintro e w3 ⟨A3,c3,rfl,own3,hb3,hc3⟩;obtain ⟨b3,hA3,hbb3,hbs3,k0,_,_⟩:=own3.at9 (k:=0) (by simp);subst hA3;simp only [List.getD_cons_zero] at k0;have b3':=b0.below hb3;have b3c:=b3'.cell 0;have b3d:=b3'.cell 1;have b3e:=b3'.cell 2;have b3f:=b3'.free 0;have b3g:=b3'.free 1;have b3h:=b3'.free 2;simp only [gqA,gqB,gqC] at b3c b3d b3e;have hcap:=own3.capZ;simp only [List.length_cons] at hcap;obtain ⟨c4,hc4⟩:∃c4,c3=c4+2:=⟨c3-2,(by omega)⟩;subst hc4;have hcap2:t.length≤c4:=(by omega);obtain ⟨_,e4,_,_,k1,_,_⟩:=own3.at9 (k:=1) (by simp);cases e4;simp only [List.getD_cons_succ,List.getD_cons_zero] at k1;have hlt3:w.heap.size<w3.heap.size:=(Nat.lt_of_lt_of_le hs2 hb3.size);have hne3:w.heap.size≠w3.heap.size:=Nat.ne_of_lt hlt3;have hne3':w3.heap.size≠w.heap.size:=Ne.symm hne3) | (go_at_call 202;(with_reducible refine (isWord_any xq hxl _).mono ?_);rintro e w' ⟨rfl,rfl⟩;rw [hlx]))
 all_goals
  (try simp only [Exit.inBlock,Exit.then])
  refine bodyPost_ret (v:=.tuple #[.agg #[St [],St [],.slice none 0 0],.bool false]) ?_ rfl (RetQ.no hno ?_)
  ·first | (rw [results_cell_tmp rfl];done) | (rw [results_cell_tmp rfl];go_simp)
  ·have hs3:w2.heap.size≤w3.heap.size:=hb3.size
   have hy3:=hy.trans (hb3.mono hy.size)
   first | exact ((((hy3.setCell (p:=⟨w.heap.size,0,none⟩) (Nat.le_refl _) _).setCell (p:=⟨w.heap.size,1,none⟩) (Nat.le_refl _) _).setCell (p:=⟨w.heap.size,2,none⟩) (Nat.le_refl _) _).alloc (by simp;omega) _) | exact (((((hy3.alloc hy3.size _).setCell (p:=⟨w3.heap.size,1,none⟩) (by show w.heap.size≤w3.heap.size;omega) _).setCell (p:=⟨w.heap.size,0,none⟩) (Nat.le_refl _) _).setCell (p:=⟨w.heap.size,1,none⟩) (Nat.le_refl _) _).setCell (p:=⟨w.heap.size,2,none⟩) (Nat.le_refl _) _)
theorem rparse_dish (s hq xq:Wd)(t:List Wd)(hll:1≤s.length∧s.length≤60)(hw:wds s=hq :: xq :: t)(hdish:hq=wDish)(hlx:letB xq=true)(w:World):Calls Tryz.prog 134 #[St s] w (RetQ s w):=by
 obtain ⟨w2,hw2⟩:∃w2,w.alloc (.cells #[St [],St [],.slice none 0 0] 198)=w2:=⟨_,rfl⟩
 have hy:Below w.heap.size w w2:=by rw [← hw2];exact (Below.refl _ w).alloc (Nat.le_refl _) _
 have b0:Box w2 w.heap.size #[St [],St [],.slice none 0 0]:=by rw [← hw2];exact Box.new w _ _
 have hs2:w.heap.size<w2.heap.size:=b0.lt
 have z0:=b0.cell 0;have z1:=b0.cell 1;have z2:=b0.cell 2
 have g0:=b0.free 0;have g1:=b0.free 1;have g2:=b0.free 2
 simp only [gqA,gqB,gqC] at z0 z1 z2
 have hz3:Below w.heap.size w (((w2.setCell ⟨w.heap.size,0,none⟩ (St [])).setCell ⟨w.heap.size,1,none⟩ (St [])).setCell ⟨w.heap.size,2,none⟩ (.slice none 0 0)):=((hy.setCell (p:=⟨w.heap.size,0,none⟩) (Nat.le_refl _) _).setCell (p:=⟨w.heap.size,1,none⟩) (Nat.le_refl _) _).setCell (p:=⟨w.heap.size,2,none⟩) (Nat.le_refl _) _
 have hcw:=rwords_any s (by omega) w2
 have hsh:=wds_short s
 have hwl:(hq :: xq :: t).length≤s.length+1:=by have:=wds_take_len s s.length (Nat.le_refl _);rw [List.take_length,hw] at this;exact this
 rw [hw] at hcw hsh
 have h1':decide ((s.length:Int)<1)=false:=by rw [decide_eq_false_iff_not];omega
 have h60':decide ((60:Int)<(s.length:Int))=false:=by rw [decide_eq_false_iff_not];omega
 have htl:(hq :: xq :: t).length≤61:=by omega
 simp only [List.length_cons] at htl
 have HSH:=Lib.hid hsh
 clear hwl hsh
 obtain ⟨o1,o2,o3⟩:=rOk_dish hll (by rw [hw,hdish])
 have hwd:(hq == [100,105,115,104])=true:=by rw [beq_iff_eq];exact hdish
 rw [hlx,Bool.true_and] at o3
 have HO1:=Lib.hid o1;have HO2:=Lib.hid o2;have HO3:=Lib.hid o3
 have HCW:=Lib.hid hcw
 have HW:=Lib.hid hw
 have hxl:xq.length≤1000000000:=by have:=HSH.out xq (by simp);omega
 clear hcw hw o1 o2 o3 hdish
 go_enter Tryz.func134,Tryz.ntmps134
 go_wp2_with (first | (go_at_call 201;(with_reducible refine HCW.out.mono ?_);rintro e w3 ⟨A3,c3,rfl,own3,hb3,hc3⟩;obtain ⟨b3,hA3,hbb3,hbs3,k0,_,_⟩:=own3.at9 (k:=0) (by simp);subst hA3;simp only [List.getD_cons_zero] at k0;have b3':=b0.below hb3;have b3c:=b3'.cell 0;have b3d:=b3'.cell 1;have b3e:=b3'.cell 2;have b3f:=b3'.free 0;have b3g:=b3'.free 1;have b3h:=b3'.free 2;simp only [gqA,gqB,gqC] at b3c b3d b3e;have hcap:=own3.capZ;simp only [List.length_cons] at hcap;obtain ⟨c4,hc4⟩:∃c4,c3=c4+2:=⟨c3-2,(by omega)⟩;subst hc4;have hcap2:t.length≤c4:=(by omega);obtain ⟨_,e4,_,_,k1,_,_⟩:=own3.at9 (k:=1) (by simp);cases e4;simp only [List.getD_cons_succ,List.getD_cons_zero] at k1;have hlt3:w.heap.size<w3.heap.size:=(Nat.lt_of_lt_of_le hs2 hb3.size);have hne3:w.heap.size≠w3.heap.size:=Nat.ne_of_lt hlt3;have hne3':w3.heap.size≠w.heap.size:=Ne.symm hne3) | (go_at_call 202;(with_reducible refine (isWord_any xq hxl _).mono ?_);rintro e w' ⟨rfl,rfl⟩;rw [hlx]))
 ·have hc40:c4=0:=by omega
  have ht0:t=[]:=List.eq_nil_of_length_eq_zero (by omega)
  subst ht0
  subst hc40
  obtain ⟨w5,hw5⟩:∃w5,w3.alloc (.cells #[.string ⟨hq.toArray⟩,.string ⟨xq.toArray⟩,.slice none 0 0] 198)=w5:=⟨_,rfl⟩
  have hb5:Below w3.heap.size w3 w5:=by rw [← hw5];exact (Below.refl _ _).alloc (Nat.le_refl _) _
  have bO:Box w5 w3.heap.size #[St hq,St xq,.slice none 0 0]:=by rw [← hw5];exact Box.new w3 _ _
  have bR:Box w5 w.heap.size #[St [],St [],.slice none 0 0]:=b3'.below hb5
  have hRS0:ReadsF (fun b=>b<w3.heap.size) w3 1 (some ⟨b3,1,none⟩:Option Addr) ([]:List Wd).length (strs ([]:List Wd)):=⟨⟨rfl,fun hn=>by simp at hn⟩,fun _ _ hn=>by simp at hn⟩
  have hRS:=hRS0.below hb5
  obtain ⟨AW,hAW⟩:∃AW,(some ⟨b3,1,none⟩:Option Addr)=AW:=⟨_,rfl⟩
  rw [hAW] at hRS
  rw [hw5,hAW]
  have hsO:=bO.lt
  have hsw:w.heap.size<w3.heap.size:=Nat.lt_of_lt_of_le hs2 hb3.size
  have hsw5:w.heap.size<w5.heap.size:=Nat.lt_trans hsw hsO
  have hy3:=hy.trans (hb3.mono hy.size)
  have hy5:Below w.heap.size w w5:=hy3.trans (hb5.mono hy3.size)
  clear hw5 z0 z1 z2 g0 g1 g2 hz3 b3' own3 hRS0 b0 hw2 HCW k0 hAW b3c b3d b3e b3f b3g b3h
  go_loopw [6] (fun x wr=>∃(k:Nat) (A:Option Addr) (c:Nat) (L:List Int),k≤0∧x=.int .i64 k∧Hid (L=(([]:List Wd).take k).map numV)∧Hid (numsTo ([]:List Wd) k=true)∧Box wr w3.heap.size #[St hq,St xq,.slice A k c]∧wr.ownsRow w5.heap.size 3 1 (.slice A k c) k (ints L)∧Keeps (fun b=>b<w3.heap.size) w5 wr∧Below w.heap.size w wr) (fun x _=>0-(intOf x).toNat)
  case atStart=>exact ⟨0,none,0,[],by omega,rfl,rfl,rfl,bO,World.ownsRow_nil _ _ _ _,Keeps.refl _ _,hy5⟩
  case round =>
   obtain ⟨k,A,c,L,hk,rfl,HL,HN,bx,own,hK,hyr⟩:=hrel
   have q0:=bx.cell 0;have q1:=bx.cell 1;have q2:=bx.cell 2;have f2:=bx.free 2
   have bRr:=bR.kept hK hsw
   have y0:=bRr.cell 0;have y1:=bRr.cell 1;have y2:=bRr.cell 2
   have p0:=bRr.free 0;have p1:=bRr.free 1;have p2:=bRr.free 2
   simp only [gqA,gqB,gqC] at q0 q1 q2 y0 y1 y2
   have hwr5:w5.heap.size≤wr.heap.size:=hK.size
   by_cases hlt:k<0
   ·exact absurd hlt (Nat.not_lt_zero _)
   ·obtain rfl:k=0:=by omega
    have HLL:=HL.out
    have hNN:numsTo ([]:List Wd) ([]:List Wd).length=true:=HN.out
    have hrk:rOk s=decide (0≤numsI hq∧((0:Int)=numsI hq∨hq=wChild∧numsI hq<(0:Int))):=by
     rw [HO3.out,hNN,Bool.true_and,rCnt_eq HW.out]
     all_goals first | rfl | (rw [decide_eq_decide];simp)
    have hnb:=rnumbers_any hq
    obtain ⟨C,hC⟩:∃C,C=numsI hq:=⟨_,rfl⟩
    have hcb : -1≤C∧C≤3:=by rw [hC];exact numsI_bd hq
    rw [← hC] at hrk hnb
    have HRK:=Lib.hid hrk;have HNB:=Lib.hid hnb
    obtain ⟨hc1,hc2⟩:=hcb
    clear hrk hnb hC
    by_cases t0:0≤C
    ·have d0:decide (0≤C)=true:=by rw [decide_eq_true_eq];exact t0
     by_cases t1:(0:Int)=C
     ·have d1:((0:Int) == C)=true:=by rw [beq_iff_eq];exact t1
      have ht:decide (0≤C∧((0:Int)=C∨hq=wChild∧C<(0:Int)))=true:=by rw [decide_eq_true_eq];exact ⟨t0,.inl t1⟩
      have HT:=Lib.hid ht
      clear ht t1
      go_wp2_with (go_at_call 204;(with_reducible refine (HNB.out _).mono ?_);rintro e w' ⟨rfl,rfl⟩)
      go_region
      all_goals
       go_wp2_with fail
       (try simp only [Exit.inBlock,Exit.then])
       refine bodyPost_ret (v:=.tuple #[.agg #[St hq,St xq,.slice A 0 c],.bool true]) ?_ rfl ⟨.agg #[St hq,St xq,.slice A 0 c],by rw [HRK.out,HT.out],fun _=>⟨A,c,by rw [HW.out,HO1.out,HO2.out];rfl,?_⟩,⟨_,_,_,_,_,rfl⟩,?_⟩
       ·first | (rw [results_cell_tmp rfl];done) | (rw [results_cell_tmp rfl];go_simp)
       ·rw [HO2.out]
        unfold OwnN
        rw [List.length_map]
        have HLL2:L=(([]:List Wd)).map numV:=HLL.trans (congrArg (List.map numV) (List.take_of_length_le (Nat.le_refl _)))
        rw [← HLL2]
        exact own_base (ownsRow_setCell_below (ownsRow_setCell_below (ownsRow_setCell_below own hsw5 _) hsw5 _) hsw5 _) (Nat.le_of_lt hsw5)
       ·exact (((hyr.setCell (p:=⟨w.heap.size,0,none⟩) (Nat.le_refl _) _).setCell (p:=⟨w.heap.size,1,none⟩) (Nat.le_refl _) _).setCell (p:=⟨w.heap.size,2,none⟩) (Nat.le_refl _) _).drew
     ·have d1:((0:Int) == C)=false:=by rw [beq_eq_false_iff_ne];exact t1
      by_cases t2:hq=wChild
      ·have d2:(hq == [99,104,105,108,100])=true:=by rw [beq_iff_eq];exact t2
       by_cases t3:C<(0:Int)
       ·have d3:decide (C<(0:Int))=true:=by rw [decide_eq_true_eq];exact t3
        exact absurd t3 (by omega)
       ·have d3:decide (C<(0:Int))=false:=by rw [decide_eq_false_iff_not];exact t3
        have ht:decide (0≤C∧((0:Int)=C∨hq=wChild∧C<(0:Int)))=false:=by rw [decide_eq_false_iff_not];exact fun e=>e.2.elim (fun h1=>t1 h1) (fun h1=>t3 h1.2)
        have HT:=Lib.hid ht
        clear ht t1 t2
        go_wp2_with (go_at_call 204;(with_reducible refine (HNB.out _).mono ?_);rintro e w' ⟨rfl,rfl⟩)
        go_region
        all_goals
         go_wp2_with fail
         (try simp only [Exit.inBlock,Exit.then])
         refine bodyPost_ret (v:=.tuple #[.agg #[St hq,St xq,.slice A 0 c],.bool false]) ?_ rfl ⟨.agg #[St hq,St xq,.slice A 0 c],by rw [HRK.out,HT.out],fun _=>⟨A,c,by rw [HW.out,HO1.out,HO2.out];rfl,?_⟩,⟨_,_,_,_,_,rfl⟩,?_⟩
         ·first | (rw [results_cell_tmp rfl];done) | (rw [results_cell_tmp rfl];go_simp)
         ·rw [HO2.out]
          unfold OwnN
          rw [List.length_map]
          have HLL2:L=(([]:List Wd)).map numV:=HLL.trans (congrArg (List.map numV) (List.take_of_length_le (Nat.le_refl _)))
          rw [← HLL2]
          exact own_base (ownsRow_setCell_below (ownsRow_setCell_below (ownsRow_setCell_below own hsw5 _) hsw5 _) hsw5 _) (Nat.le_of_lt hsw5)
         ·exact (((hyr.setCell (p:=⟨w.heap.size,0,none⟩) (Nat.le_refl _) _).setCell (p:=⟨w.heap.size,1,none⟩) (Nat.le_refl _) _).setCell (p:=⟨w.heap.size,2,none⟩) (Nat.le_refl _) _).drew
      ·have d2:(hq == [99,104,105,108,100])=false:=by rw [beq_eq_false_iff_ne];exact t2
       have ht:decide (0≤C∧((0:Int)=C∨hq=wChild∧C<(0:Int)))=false:=by rw [decide_eq_false_iff_not];exact fun e=>e.2.elim (fun h1=>t1 h1) (fun h1=>t2 h1.1)
       have HT:=Lib.hid ht
       clear ht t1 t2
       go_wp2_with (go_at_call 204;(with_reducible refine (HNB.out _).mono ?_);rintro e w' ⟨rfl,rfl⟩)
       go_region
       all_goals
        go_wp2_with fail
        (try simp only [Exit.inBlock,Exit.then])
        refine bodyPost_ret (v:=.tuple #[.agg #[St hq,St xq,.slice A 0 c],.bool false]) ?_ rfl ⟨.agg #[St hq,St xq,.slice A 0 c],by rw [HRK.out,HT.out],fun _=>⟨A,c,by rw [HW.out,HO1.out,HO2.out];rfl,?_⟩,⟨_,_,_,_,_,rfl⟩,?_⟩
        ·first | (rw [results_cell_tmp rfl];done) | (rw [results_cell_tmp rfl];go_simp)
        ·rw [HO2.out]
         unfold OwnN
         rw [List.length_map]
         have HLL2:L=(([]:List Wd)).map numV:=HLL.trans (congrArg (List.map numV) (List.take_of_length_le (Nat.le_refl _)))
         rw [← HLL2]
         exact own_base (ownsRow_setCell_below (ownsRow_setCell_below (ownsRow_setCell_below own hsw5 _) hsw5 _) hsw5 _) (Nat.le_of_lt hsw5)
        ·exact (((hyr.setCell (p:=⟨w.heap.size,0,none⟩) (Nat.le_refl _) _).setCell (p:=⟨w.heap.size,1,none⟩) (Nat.le_refl _) _).setCell (p:=⟨w.heap.size,2,none⟩) (Nat.le_refl _) _).drew
    ·have d0:decide (0≤C)=false:=by rw [decide_eq_false_iff_not];exact t0
     have ht:decide (0≤C∧((0:Int)=C∨hq=wChild∧C<(0:Int)))=false:=by rw [decide_eq_false_iff_not];exact fun h1=>t0 h1.1
     have HT:=Lib.hid ht
     clear ht
     go_wp2_with (go_at_call 204;(with_reducible refine (HNB.out _).mono ?_);rintro e w' ⟨rfl,rfl⟩)
     go_region
     all_goals
      go_wp2_with fail
      (try simp only [Exit.inBlock,Exit.then])
      refine bodyPost_ret (v:=.tuple #[.agg #[St hq,St xq,.slice A 0 c],.bool false]) ?_ rfl ⟨.agg #[St hq,St xq,.slice A 0 c],by rw [HRK.out,HT.out],fun _=>⟨A,c,by rw [HW.out,HO1.out,HO2.out];rfl,?_⟩,⟨_,_,_,_,_,rfl⟩,?_⟩
      ·first | (rw [results_cell_tmp rfl];done) | (rw [results_cell_tmp rfl];go_simp)
      ·rw [HO2.out]
       unfold OwnN
       rw [List.length_map]
       have HLL2:L=(([]:List Wd)).map numV:=HLL.trans (congrArg (List.map numV) (List.take_of_length_le (Nat.le_refl _)))
       rw [← HLL2]
       exact own_base (ownsRow_setCell_below (ownsRow_setCell_below (ownsRow_setCell_below own hsw5 _) hsw5 _) hsw5 _) (Nat.le_of_lt hsw5)
      ·exact (((hyr.setCell (p:=⟨w.heap.size,0,none⟩) (Nat.le_refl _) _).setCell (p:=⟨w.heap.size,1,none⟩) (Nat.le_refl _) _).setCell (p:=⟨w.heap.size,2,none⟩) (Nat.le_refl _) _).drew
 ·have hc40:0<c4:=by omega
  obtain ⟨w5,hw5⟩:∃w5,w3.alloc (.cells #[.string ⟨hq.toArray⟩,.string ⟨xq.toArray⟩,.slice none 0 0] 198)=w5:=⟨_,rfl⟩
  have hb5:Below w3.heap.size w3 w5:=by rw [← hw5];exact (Below.refl _ _).alloc (Nat.le_refl _) _
  have bO:Box w5 w3.heap.size #[St hq,St xq,.slice none 0 0]:=by rw [← hw5];exact Box.new w3 _ _
  have bR:Box w5 w.heap.size #[St [],St [],.slice none 0 0]:=b3'.below hb5
  have hRS0:ReadsF (fun b=>b<w3.heap.size) w3 1 (some ⟨b3,2,none⟩:Option Addr) t.length (strs t):=rs_from own3 2 (by simp)
  have hRS:=hRS0.below hb5
  obtain ⟨AW,hAW⟩:∃AW,(some ⟨b3,2,none⟩:Option Addr)=AW:=⟨_,rfl⟩
  rw [hAW] at hRS
  rw [hw5,hAW]
  have hsO:=bO.lt
  have hsw:w.heap.size<w3.heap.size:=Nat.lt_of_lt_of_le hs2 hb3.size
  have hsw5:w.heap.size<w5.heap.size:=Nat.lt_trans hsw hsO
  have hy3:=hy.trans (hb3.mono hy.size)
  have hy5:Below w.heap.size w w5:=hy3.trans (hb5.mono hy3.size)
  clear hw5 z0 z1 z2 g0 g1 g2 hz3 b3' own3 hRS0 b0 hw2 HCW k0 hAW b3c b3d b3e b3f b3g b3h
  go_loopw [6] (fun x wr=>∃(k:Nat) (A:Option Addr) (c:Nat) (L:List Int),k≤t.length∧x=.int .i64 k∧Hid (L=(t.take k).map numV)∧Hid (numsTo t k=true)∧Box wr w3.heap.size #[St hq,St xq,.slice A k c]∧wr.ownsRow w5.heap.size 3 1 (.slice A k c) k (ints L)∧Keeps (fun b=>b<w3.heap.size) w5 wr∧Below w.heap.size w wr) (fun x _=>t.length-(intOf x).toNat)
  case atStart=>exact ⟨0,none,0,[],by omega,rfl,rfl,rfl,bO,World.ownsRow_nil _ _ _ _,Keeps.refl _ _,hy5⟩
  case round =>
   obtain ⟨k,A,c,L,hk,rfl,HL,HN,bx,own,hK,hyr⟩:=hrel
   have q0:=bx.cell 0;have q1:=bx.cell 1;have q2:=bx.cell 2;have f2:=bx.free 2
   have bRr:=bR.kept hK hsw
   have y0:=bRr.cell 0;have y1:=bRr.cell 1;have y2:=bRr.cell 2
   have p0:=bRr.free 0;have p1:=bRr.free 1;have p2:=bRr.free 2
   simp only [gqA,gqB,gqC] at q0 q1 q2 y0 y1 y2
   have hwr5:w5.heap.size≤wr.heap.size:=hK.size
   by_cases hlt:k<t.length
   ·obtain ⟨ad,eA,hab,c0⟩:=RS.at_ (show RS wr AW t from (hRS.kept hK).1) (show k<t.length from hlt)
    subst eA
    have hkl:k<t.length:=hlt
    have hwk:(t[k]'hkl).length≤1000000000:=by have:=HSH.out (t[k]'hkl) (by first | exact List.mem_cons_of_mem _ (List.getElem_mem hkl) | exact List.mem_cons_of_mem _ (List.mem_cons_of_mem _ (List.getElem_mem hkl)));omega
    have hgD:t.getD k []=t[k]'hkl:=by rw [List.getD_eq_getElem?_getD,List.getElem?_eq_getElem hkl];rfl
    have hgT:=takeZ t (show k<t.length from hlt)
    obtain ⟨y,hy'⟩:∃y,y=t[k]'hkl:=⟨_,rfl⟩
    rw [← hy'] at c0 hwk hgD hgT
    have HGD:=Lib.hid hgD;have HGT:=Lib.hid hgT
    have HNM:=Lib.hid (rnumber_any9 y hwk)
    clear hgD hgT hy'
    cases hok:numOk y with
    | false =>
     have hno:rOk s=false:=by rw [HO3.out,numsTo_badZ (k:=k) (by rw [HGD.out];exact hok) (show k<t.length from hlt)];rfl
     go_wp2_with (go_at_call 203;(with_reducible refine (HNM.out _).mono ?_);rintro e w' ⟨rfl,rfl⟩;rw [hok])
     (try simp only [Exit.inBlock,Exit.then])
     refine bodyPost_ret (v:=.tuple #[.agg #[St [],St [],.slice none 0 0],.bool false]) ?_ rfl (RetQ.no hno (((hyr.setCell (p:=⟨w.heap.size,0,none⟩) (Nat.le_refl _) _).setCell (p:=⟨w.heap.size,1,none⟩) (Nat.le_refl _) _).setCell (p:=⟨w.heap.size,2,none⟩) (Nat.le_refl _) _))
     first | (rw [results_cell_tmp rfl];done) | (rw [results_cell_tmp rfl];go_simp)
    | true =>
     have HN2:Hid (numsTo t (k+1)=true):=by show _=_;simp only [numsTo];rw [HN.out,HGD.out,hok];rfl
     go_wp2_with (first
      | (go_at_call 203;(with_reducible refine (HNM.out _).mono ?_);rintro e w' ⟨rfl,rfl⟩;rw [hok])
      | (at_builtin;refine wpList_app1 rfl _ _ rfl Tryz.underlying22 info_int rfl (by omega) rfl own rfl rfl (by simp [Value.oneCell']) (by omega) (by omega) (by omega) ?_;intro A'' c'' w4 own4 hb4;have hb4O:=hb4 _ (Nat.le_refl _);have bx4:=bx.keep hb4O hsO;have r2:=bx4.cell 2;have e2:=bx4.free 2;simp only [gqA,gqB,gqC] at r2))
     have e1:ints L ++ [.int .i64 (numV y)]=ints (L ++ [numV y]):=by simp [ints]
     rw [e1] at own4
     go_roundw
     case rel=>exact ⟨k+1,A'',c'',L ++ [numV y],by omega,by go_num,(by show _=_;rw [HL.out,HGT.out,List.map_append];rfl),HN2,(by simpa using bx4.set 2 (.slice A'' (k+1) c'') (by simp)),ownsRow_setCell_below own4 hsO _,hK.on ((keepsB_below (hb4 w3.heap.size (Nat.le_of_lt hsO))).on (keepsB_set (p:=⟨w3.heap.size,2,none⟩) (Nat.le_refl _) _)),(hyr.trans (hb4 w.heap.size (Nat.le_of_lt hsw5))).setCell (p:=⟨w3.heap.size,2,none⟩) (Nat.le_of_lt hsw) _⟩
     case measure=>simp [intOf];omega
   ·obtain rfl:k=t.length:=by omega
    have HLL:=HL.out
    have hNN:numsTo t t.length=true:=HN.out
    have hrk:rOk s=decide (0≤numsI hq∧((t.length:Int)=numsI hq∨hq=wChild∧numsI hq<(t.length:Int))):=by
     rw [HO3.out,hNN,Bool.true_and,rCnt_eq HW.out]
     all_goals first | rfl | (rw [decide_eq_decide];simp)
    have hnb:=rnumbers_any hq
    obtain ⟨C,hC⟩:∃C,C=numsI hq:=⟨_,rfl⟩
    have hcb : -1≤C∧C≤3:=by rw [hC];exact numsI_bd hq
    rw [← hC] at hrk hnb
    have HRK:=Lib.hid hrk;have HNB:=Lib.hid hnb
    obtain ⟨hc1,hc2⟩:=hcb
    clear hrk hnb hC
    by_cases t0:0≤C
    ·have d0:decide (0≤C)=true:=by rw [decide_eq_true_eq];exact t0
     by_cases t1:(t.length:Int)=C
     ·have d1:((t.length:Int) == C)=true:=by rw [beq_iff_eq];exact t1
      have ht:decide (0≤C∧((t.length:Int)=C∨hq=wChild∧C<(t.length:Int)))=true:=by rw [decide_eq_true_eq];exact ⟨t0,.inl t1⟩
      have HT:=Lib.hid ht
      clear ht t1
      go_wp2_with (go_at_call 204;(with_reducible refine (HNB.out _).mono ?_);rintro e w' ⟨rfl,rfl⟩)
      go_region
      all_goals
       go_wp2_with fail
       (try simp only [Exit.inBlock,Exit.then])
       refine bodyPost_ret (v:=.tuple #[.agg #[St hq,St xq,.slice A t.length c],.bool true]) ?_ rfl ⟨.agg #[St hq,St xq,.slice A t.length c],by rw [HRK.out,HT.out],fun _=>⟨A,c,by rw [HW.out,HO1.out,HO2.out];rfl,?_⟩,⟨_,_,_,_,_,rfl⟩,?_⟩
       ·first | (rw [results_cell_tmp rfl];done) | (rw [results_cell_tmp rfl];go_simp)
       ·rw [HO2.out]
        unfold OwnN
        rw [List.length_map]
        have HLL2:L=(t).map numV:=HLL.trans (congrArg (List.map numV) (List.take_of_length_le (Nat.le_refl _)))
        rw [← HLL2]
        exact own_base (ownsRow_setCell_below (ownsRow_setCell_below (ownsRow_setCell_below own hsw5 _) hsw5 _) hsw5 _) (Nat.le_of_lt hsw5)
       ·exact (((hyr.setCell (p:=⟨w.heap.size,0,none⟩) (Nat.le_refl _) _).setCell (p:=⟨w.heap.size,1,none⟩) (Nat.le_refl _) _).setCell (p:=⟨w.heap.size,2,none⟩) (Nat.le_refl _) _).drew
     ·have d1:((t.length:Int) == C)=false:=by rw [beq_eq_false_iff_ne];exact t1
      by_cases t2:hq=wChild
      ·have d2:(hq == [99,104,105,108,100])=true:=by rw [beq_iff_eq];exact t2
       by_cases t3:C<(t.length:Int)
       ·have d3:decide (C<(t.length:Int))=true:=by rw [decide_eq_true_eq];exact t3
        have ht:decide (0≤C∧((t.length:Int)=C∨hq=wChild∧C<(t.length:Int)))=true:=by rw [decide_eq_true_eq];exact ⟨t0,.inr ⟨t2,t3⟩⟩
        have HT:=Lib.hid ht
        clear ht t1 t2
        go_wp2_with (go_at_call 204;(with_reducible refine (HNB.out _).mono ?_);rintro e w' ⟨rfl,rfl⟩)
        go_region
        all_goals
         go_wp2_with fail
         (try simp only [Exit.inBlock,Exit.then])
         refine bodyPost_ret (v:=.tuple #[.agg #[St hq,St xq,.slice A t.length c],.bool true]) ?_ rfl ⟨.agg #[St hq,St xq,.slice A t.length c],by rw [HRK.out,HT.out],fun _=>⟨A,c,by rw [HW.out,HO1.out,HO2.out];rfl,?_⟩,⟨_,_,_,_,_,rfl⟩,?_⟩
         ·first | (rw [results_cell_tmp rfl];done) | (rw [results_cell_tmp rfl];go_simp)
         ·rw [HO2.out]
          unfold OwnN
          rw [List.length_map]
          have HLL2:L=(t).map numV:=HLL.trans (congrArg (List.map numV) (List.take_of_length_le (Nat.le_refl _)))
          rw [← HLL2]
          exact own_base (ownsRow_setCell_below (ownsRow_setCell_below (ownsRow_setCell_below own hsw5 _) hsw5 _) hsw5 _) (Nat.le_of_lt hsw5)
         ·exact (((hyr.setCell (p:=⟨w.heap.size,0,none⟩) (Nat.le_refl _) _).setCell (p:=⟨w.heap.size,1,none⟩) (Nat.le_refl _) _).setCell (p:=⟨w.heap.size,2,none⟩) (Nat.le_refl _) _).drew
       ·have d3:decide (C<(t.length:Int))=false:=by rw [decide_eq_false_iff_not];exact t3
        have ht:decide (0≤C∧((t.length:Int)=C∨hq=wChild∧C<(t.length:Int)))=false:=by rw [decide_eq_false_iff_not];exact fun e=>e.2.elim (fun h1=>t1 h1) (fun h1=>t3 h1.2)
        have HT:=Lib.hid ht
        clear ht t1 t2
        go_wp2_with (go_at_call 204;(with_reducible refine (HNB.out _).mono ?_);rintro e w' ⟨rfl,rfl⟩)
        go_region
        all_goals
         go_wp2_with fail
         (try simp only [Exit.inBlock,Exit.then])
         refine bodyPost_ret (v:=.tuple #[.agg #[St hq,St xq,.slice A t.length c],.bool false]) ?_ rfl ⟨.agg #[St hq,St xq,.slice A t.length c],by rw [HRK.out,HT.out],fun _=>⟨A,c,by rw [HW.out,HO1.out,HO2.out];rfl,?_⟩,⟨_,_,_,_,_,rfl⟩,?_⟩
         ·first | (rw [results_cell_tmp rfl];done) | (rw [results_cell_tmp rfl];go_simp)
         ·rw [HO2.out]
          unfold OwnN
          rw [List.length_map]
          have HLL2:L=(t).map numV:=HLL.trans (congrArg (List.map numV) (List.take_of_length_le (Nat.le_refl _)))
          rw [← HLL2]
          exact own_base (ownsRow_setCell_below (ownsRow_setCell_below (ownsRow_setCell_below own hsw5 _) hsw5 _) hsw5 _) (Nat.le_of_lt hsw5)
         ·exact (((hyr.setCell (p:=⟨w.heap.size,0,none⟩) (Nat.le_refl _) _).setCell (p:=⟨w.heap.size,1,none⟩) (Nat.le_refl _) _).setCell (p:=⟨w.heap.size,2,none⟩) (Nat.le_refl _) _).drew
      ·have d2:(hq == [99,104,105,108,100])=false:=by rw [beq_eq_false_iff_ne];exact t2
       have ht:decide (0≤C∧((t.length:Int)=C∨hq=wChild∧C<(t.length:Int)))=false:=by rw [decide_eq_false_iff_not];exact fun e=>e.2.elim (fun h1=>t1 h1) (fun h1=>t2 h1.1)
       have HT:=Lib.hid ht
       clear ht t1 t2
       go_wp2_with (go_at_call 204;(with_reducible refine (HNB.out _).mono ?_);rintro e w' ⟨rfl,rfl⟩)
       go_region
       all_goals
        go_wp2_with fail
        (try simp only [Exit.inBlock,Exit.then])
        refine bodyPost_ret (v:=.tuple #[.agg #[St hq,St xq,.slice A t.length c],.bool false]) ?_ rfl ⟨.agg #[St hq,St xq,.slice A t.length c],by rw [HRK.out,HT.out],fun _=>⟨A,c,by rw [HW.out,HO1.out,HO2.out];rfl,?_⟩,⟨_,_,_,_,_,rfl⟩,?_⟩
        ·first | (rw [results_cell_tmp rfl];done) | (rw [results_cell_tmp rfl];go_simp)
        ·rw [HO2.out]
         unfold OwnN
         rw [List.length_map]
         have HLL2:L=(t).map numV:=HLL.trans (congrArg (List.map numV) (List.take_of_length_le (Nat.le_refl _)))
         rw [← HLL2]
         exact own_base (ownsRow_setCell_below (ownsRow_setCell_below (ownsRow_setCell_below own hsw5 _) hsw5 _) hsw5 _) (Nat.le_of_lt hsw5)
        ·exact (((hyr.setCell (p:=⟨w.heap.size,0,none⟩) (Nat.le_refl _) _).setCell (p:=⟨w.heap.size,1,none⟩) (Nat.le_refl _) _).setCell (p:=⟨w.heap.size,2,none⟩) (Nat.le_refl _) _).drew
    ·have d0:decide (0≤C)=false:=by rw [decide_eq_false_iff_not];exact t0
     have ht:decide (0≤C∧((t.length:Int)=C∨hq=wChild∧C<(t.length:Int)))=false:=by rw [decide_eq_false_iff_not];exact fun h1=>t0 h1.1
     have HT:=Lib.hid ht
     clear ht
     go_wp2_with (go_at_call 204;(with_reducible refine (HNB.out _).mono ?_);rintro e w' ⟨rfl,rfl⟩)
     go_region
     all_goals
      go_wp2_with fail
      (try simp only [Exit.inBlock,Exit.then])
      refine bodyPost_ret (v:=.tuple #[.agg #[St hq,St xq,.slice A t.length c],.bool false]) ?_ rfl ⟨.agg #[St hq,St xq,.slice A t.length c],by rw [HRK.out,HT.out],fun _=>⟨A,c,by rw [HW.out,HO1.out,HO2.out];rfl,?_⟩,⟨_,_,_,_,_,rfl⟩,?_⟩
      ·first | (rw [results_cell_tmp rfl];done) | (rw [results_cell_tmp rfl];go_simp)
      ·rw [HO2.out]
       unfold OwnN
       rw [List.length_map]
       have HLL2:L=(t).map numV:=HLL.trans (congrArg (List.map numV) (List.take_of_length_le (Nat.le_refl _)))
       rw [← HLL2]
       exact own_base (ownsRow_setCell_below (ownsRow_setCell_below (ownsRow_setCell_below own hsw5 _) hsw5 _) hsw5 _) (Nat.le_of_lt hsw5)
      ·exact (((hyr.setCell (p:=⟨w.heap.size,0,none⟩) (Nat.le_refl _) _).setCell (p:=⟨w.heap.size,1,none⟩) (Nat.le_refl _) _).setCell (p:=⟨w.heap.size,2,none⟩) (Nat.le_refl _) _).drew
end Go.Proofs.YtiapkffihpgdcaaGreatDoor
