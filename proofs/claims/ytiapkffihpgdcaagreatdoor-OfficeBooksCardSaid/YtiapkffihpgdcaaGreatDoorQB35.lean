import Derived.Test.YtiapkffihpgdcaaGreatDoorQB3
import Derived.Test.YtiapkffihpgdcaaGreatDoorQB10
import Derived.Test.YtiapkffihpgdcaaGreatDoorQB19
import Derived.Test.YtiapkffihpgdcaaGreatDoorQB23
import Derived.Test.YtiapkffihpgdcaaGreatDoorQB24
import Derived.Test.YtiapkffihpgdcaaGreatDoorQB30
import Derived.Test.YtiapkffihpgdcaaGreatDoorQB34
import Derived.BigRegion
set_option linter.unusedVariables false
set_option linter.unusedSimpArgs false
set_option maxRecDepth 100000
set_option maxHeartbeats 4000000
namespace Go.Proofs.YtiapkffihpgdcaaGreatDoor
open Go.RowKit Go.Sort
section
variable {w:World}{F:Nat→Prop}{g:Nat}{h:Hr}{s:Of}
theorem roLabel_any (hP:RO w F g h s)(n:Wd) :
  Calls Tryz.prog 42 #[.pointer (some ⟨g,0,none⟩),St n] w fun e w'=>∃A c,e=.returned (.tuple #[.slice A (lbnR s n).length c,.int .i64 (lbnE s n)])∧RNF (fun k=>w.heap.size≤k) w' A (lbnR s n)∧Below w.heap.size w w':=by
 have q:=hP.cDs
 have hdl:=hP.ok.dl'
 obtain ⟨LE,hLE⟩:∃LE,LE=lbnE s n:=⟨_,rfl⟩
 obtain ⟨LR,hLR⟩:∃LR,LR=lbnR s n:=⟨_,rfl⟩
 rw [← hLE,← hLR]
 have HLE:=Lib.hid hLE;have HLR:=Lib.hid hLR
 have hL:=hP.ok.bk.len
 have q8:=hP.cProps;have q9:=hP.cItems;have q10:=hP.cRules
 clear hLE hLR
 go_enter Tryz.func42,Tryz.ntmps42
 go_wp2_with fail
 go_loop [6] (fun x=>∃k:Nat,k≤s.dishes.length∧x=.int .i64 k∧Hid (anyTo (fun i=>decide ((gd s.dishes i).name=n)) k=false)) (fun x=>s.dishes.length-(intOf x).toNat)
 case atStart=>exact ⟨0,by omega,rfl,rfl⟩
 case round =>
  obtain ⟨k,hk,rfl,HK⟩:=hrel
  by_cases hlt:k<s.dishes.length
  ·obtain ⟨ad,hA,hab,t0,t1⟩:=hP.dish.at_ hlt
   rw [hA] at q
   by_cases hn:(gd s.dishes k).name=n
   ·have hd:dishB s.dishes n=true:=anyTo_yes (k:=k) (p:=fun i=>decide ((gd s.dishes i).name=n)) (by simp [hn]) hlt
    have hkk:gd s.dishes k=dshOf s.dishes n:=by
     obtain ⟨j,hj,hix,_,hgd⟩:=dix_some hd
     have:=dix_first hlt hn HK.out
     obtain rfl:j=k:=by omega
     exact hgd
    have e1:LE=nmE s.bk (gd s.dishes k).item:=HLE.out.trans (by rw [(lbn_yes hd).1,hkk])
    have e2:LR=labR s.bk (gd s.dishes k).item:=HLR.out.trans (by rw [(lbn_yes hd).2,hkk])
    subst e1
    subst e2
    have hn':((gd s.dishes k).name == n)=true:=by simp [hn]
    have HR:=Lib.hid (rLabel_any s.bk hL (gd s.dishes k).item _ _ _ h.bi.2 h.br.2 _ _ _ w.drew (hP.below (Below.refl _ w).drew).bk)
    clear HLE HLR HK hd hkk hn
    go_wp2_with fail
    go_region_with (go_at_call 106;(with_reducible refine HR.out.mono ?_);rintro e w3 ⟨A',c',rfl,own3,hb3⟩)
    all_goals
     go_wp2_with fail
     go_ret2
     exact ⟨A',c',rfl,RNF.of_own' own3,(Below.refl w.heap.size w).drew.trans hb3⟩
   ·have HN:Hid (anyTo (fun i=>decide ((gd s.dishes i).name=n)) (k+1)=false):=by show _=_;simp only [anyTo];rw [HK.out];simp [hn]
    have hn':((gd s.dishes k).name == n)=false:=by simp [hn]
    clear HK hn
    go_wp2
    go_round
    case rel=>exact ⟨k+1,by omega,by go_num,HN⟩
    case measure=>simp [intOf];omega
  ·obtain rfl:k=s.dishes.length:=by omega
   have e1:LE=5:=HLE.out.trans (lbn_no HK.out).1
   have e2:LR=[]:=HLR.out.trans (lbn_no HK.out).2
   subst e1
   subst e2
   clear HLE HLR HK
   go_wp2
   go_ret2
   first | exact ⟨none,0,rfl,RNF.nil _ _ _,Below.refl _ _⟩ | exact ⟨⟨0,rfl⟩,RNF.nil _ _ _,Below.refl _ _⟩ | exact ⟨none,⟨0,rfl⟩,RNF.nil _ _ _,Below.refl _ _⟩ | exact ⟨none,0,⟨rfl,rfl⟩,RNF.nil _ _ _,Below.refl _ _⟩ | exact ⟨none,⟨0,rfl,rfl⟩,RNF.nil _ _ _,Below.refl _ _⟩ | exact ⟨none,⟨rfl,0,rfl⟩,RNF.nil _ _ _,Below.refl _ _⟩ | exact ⟨none,0,rfl,rfl,RNF.nil _ _ _,Below.refl _ _⟩ | exact ⟨none,0,RNF.nil _ _ _,Below.refl _ _⟩ | trace_state
end
section
variable {w:World}{F:Nat→Prop}{g:Nat}{h:Hr}{s:Of}
theorem rprices_any (w:World):Calls Tryz.prog 101 #[] w fun e w'=>∃A,e=.returned (.slice A 9 9)∧RN w' A prices∧Below w.heap.size w w':=by
 have b4:Box (w.alloc (.cells (ints prices).toArray 3)) w.heap.size (ints prices).toArray:=Box.new w _ _
 have hr:=RN.of_box b4
 go_enter Tryz.func101,Tryz.ntmps101
 go_wp2_with fail
 go_ret
 exact ⟨_,rfl,hr,(Below.refl _ w).alloc (Nat.le_refl _) _⟩
theorem rDue_any (hP:RO w F g h s)(c:Int) :
  Calls Tryz.prog 40 #[.pointer (some ⟨g,0,none⟩),.int .i64 c] w fun e w'=>e=.returned (.tuple #[.int .i64 (dueR s c),.int .i64 (dueE s c)])∧Below w.heap.size w w':=by
 have hcon:=rchild_any hP c
 cases hc:hasK s.kids c with
 | false =>
  have h1:dueE s c=5:=by unfold dueE;rw [hc];rfl
  have h2:dueR s c=0:=by unfold dueR;rw [hc];rfl
  rw [h1,h2]
  rw [kix_none hc] at hcon
  have HC:=Lib.hid hcon
  clear h1 h2 hcon hc
  go_enter Tryz.func40,Tryz.ntmps40
  go_wp2_with (go_at_call 98;(with_reducible refine HC.out.mono ?_);rintro e w2 ⟨rfl,hw2⟩;have hw3:=hw2.symm;clear hw2;subst hw3)
  go_ret2
  exact ⟨rfl,Below.refl _ _⟩
 | true =>
  obtain ⟨i,hi,hix,_,_⟩:=kix_some hc
  have h1:dueE s c=0:=by unfold dueE;rw [if_pos hc]
  have h2:dueR s c=dueTo s c s.days:=by unfold dueR;rw [if_pos hc]
  rw [h1,h2]
  rw [hix] at hcon
  have HC:=Lib.hid hcon
  have hi0:decide ((i:Int)<0)=false:=by rw [decide_eq_false_iff_not];omega
  have hpay:=fun (d:Nat) (hd:d<s.days)=>pay_due hP.ok hc hd
  have HPAY:=Lib.hid hpay
  have hdl:=days_le hP.ok.tm
  have qM:=hP.cMn
  have hgl:=hP.gl
  clear h1 h2 hix hcon hc hpay
  go_enter Tryz.func40,Tryz.ntmps40
  go_wp2_with (go_at_call 98;(with_reducible refine HC.out.mono ?_);rintro e w2 ⟨rfl,hw2⟩;have hw3:=hw2.symm;clear hw2;subst hw3)
  go_loopw [6,7] (fun n x wr=>∃k:Nat,k≤s.days∧n=.int .i64 (dueTo s c k)∧x=.int .i64 k∧Below w.heap.size w wr) (fun _ x _=>s.days-(intOf x).toNat)
  case atStart=>exact ⟨0,by omega,rfl,rfl,Below.refl _ _⟩
  case round =>
   obtain ⟨k,hk,rfl,rfl,hbl⟩:=hrel
   have hPr:=hP.below hbl
   have hsz:=hbl.size
   have qMr:=hPr.cMn
   by_cases hlt:k<s.days
   ·have hco:=ropn_any hPr k
    have hbd:=dueTo_bd hP.ok c k
    obtain ⟨S,hS⟩:∃S,S=dueTo s c k:=⟨_,rfl⟩
    rw [← hS] at hbd
    cases ho:s.opn k with
    | false =>
     rw [ho] at hco
     have HCO:=Lib.hid hco
     have hn:=dueTo_no (c:=c) ho
     rw [← hS] at hn ⊢
     have HN:=Lib.hid hn
     clear hco hn hS ho
     go_wp2_with (go_at_call 99;(with_reducible refine HCO.out.mono ?_);rintro e w5 ⟨rfl,hw5⟩;have hw6:=hw5.symm;clear hw5;subst hw6)
     go_roundw
     case rel=>exact ⟨k+1,by omega,by rw [HN.out],by go_num,hbl⟩
     case measure=>simp [intOf];omega
    | true =>
     rw [ho] at hco
     have HCO:=Lib.hid hco
     have hn:=dueTo_yes (c:=c) ho
     obtain ⟨hp1,hp2⟩:=HPAY.out k hlt
     have hpb:=payI_bd (Vld.of hP.ok.fv) (r:=s.rights) prices_ok c k
     obtain ⟨P,hPP⟩:∃P,P=payI s.facts s.rights prices 1440 c k:=⟨_,rfl⟩
     have hpy:∀(W:World) (A:Option Addr),Below wr.heap.size wr W→RN W A prices→Calls Tryz.prog 100 #[.slice h.fa.1 s.facts.length h.fa.2,.slice h.ri.1 s.rights.length h.ri.2,.slice A 9 9,.int .i64 1440,.int .i64 c,.int .i64 k] W fun e w'=>e=.returned (.tuple #[.int .i64 P,.int .i64 0])∧Below W.heap.size W w':=fun W A hb hr=>by
      have hx:=rpayX_any s.facts s.rights prices 1440 c k (by have:=hP.ok.fl;omega) (by have:=hP.ok.rl;omega) (by decide) h.fa.1 h.ri.1 A h.fa.2 h.ri.2 9 _ W (hPr.rf.below hb) (Reads.below' hPr.ri.1 hb (Nat.le_refl _) |>.more hb.size) hr
      rw [hp1,hp2,← hPP] at hx
      exact hx
     have HPY:=Lib.hid hpy
     rw [← hPP] at hpb hn
     rw [← hS] at hn ⊢
     have HN:=Lib.hid hn
     have c13:=hPr.cFa;have c14:=hPr.cRi
     clear hco hn hS ho hp1 hp2 hpy hPP
     go_wp2_with (go_at_call 99;(with_reducible refine HCO.out.mono ?_);rintro e w5 ⟨rfl,hw5⟩;have hw6:=hw5.symm;clear hw5;subst hw6)
     go_region_held3 (fun w'=>w'.cell? ⟨g,13,none⟩=some (.slice h.fa.1 s.facts.length h.fa.2)∧w'.cell? ⟨g,14,none⟩=some (.slice h.ri.1 s.rights.length h.ri.2))
      (first | go_keep | (go_split_ands;refine ⟨?_,?_⟩ <;> (rw [hb3.cell (by first | omega | (simp;omega))];go_keep)) | (go_split_ands;refine ⟨?_,?_⟩ <;> (rw [hb4.cell (by first | omega | (simp;omega))];go_keep)))
      (first | (go_at_call 101;(with_reducible refine (rprices_any _).mono ?_);rintro e w3 ⟨A3,rfl,hp3,hb3⟩;have hs3:wr.heap.size≤w3.heap.size:=hb3.size) | (go_at_call 100;(with_reducible refine (HPY.out _ A3 ((Below.refl wr.heap.size wr).drew.trans (hb3.mono (by simp))) hp3).mono ?_);rintro e w4 ⟨rfl,hb4⟩;have hs4:w3.heap.size≤w4.heap.size:=hb4.size))
     all_goals
      have hb5:=hbl.trans ((((Below.refl wr.heap.size wr).drew.trans (hb3.mono (by simp))).trans (hb4.mono hs3)).mono hsz)
      go_wp2_with fail
      go_roundw
      case rel=>exact ⟨k+1,by omega,by rw [HN.out],by go_num,hb5⟩
      case measure=>simp [intOf];omega
   ·obtain rfl:k=s.days:=by omega
    go_wp2_with fail
    go_ret2
    exact ⟨rfl,hbl⟩
end
theorem osameInts_any (l m:List Int)(A A':Option Addr)(c c':Nat)(w:World)(hl:RN w A l)(hm:RN w A' m)(hb:l.length≤1000000000)(hb':m.length≤1000000000) :
  Calls Tryz.prog 43 #[.slice A l.length c,.slice A' m.length c'] w fun e w'=>e=.returned (.bool (decide (l=m)))∧Below w.heap.size w w':=by
 have HC:=Lib.hid (sameInts_any l m A A' c c' w hl hm hb hb')
 go_enter Tryz.func43,Tryz.ntmps43
 go_wp2_with (go_at_call 107;(with_reducible refine HC.out.mono ?_);rintro e w2 ⟨rfl,hb2⟩)
 go_ret
 exact ⟨rfl,hb2⟩
section
variable {N:Nat}{w:World}{F F':Nat→Prop}{g x:Nat}{h:Hd}{h':Hr}{s:Of}
theorem sameDay_any (hP:PO 0 N w F g h s)(hO:RO w F' x h' s)(d:Int) :
  Calls Tryz.prog 39 #[.pointer (some ⟨g,0,none⟩),.pointer (some ⟨x,0,none⟩),.int .i64 d] w fun e w'=>e=.returned (.bool true)∧Below w.heap.size w w':=by
 have h1:=Lib.hid (fun (w':World) (hb:Below w.heap.size w w')=>oMeal_any (hP.below hb) d)
 have h2:=Lib.hid (fun (w':World) (hb:Below w.heap.size w w')=>rMeal_any (hO.below hb) d)
 have h3:=Lib.hid (fun (w':World) (hb:Below w.heap.size w w')=>oPortions_any (hP.below hb) d)
 have h4:=Lib.hid (fun (w':World) (hb:Below w.heap.size w w')=>rPortions_any (hO.below hb) d)
 have h5:=Lib.hid (fun (w':World) (hb:Below w.heap.size w w')=>Served_any (hP.below hb) d)
 have h6:=Lib.hid (fun (w':World) (hb:Below w.heap.size w w')=>rServed_any (hO.below hb) d)
 go_enter Tryz.func39,Tryz.ntmps39
 go_wp2_with (first
  | (go_at_call 49;(with_reducible refine (h1.out _ (Below.refl _ _)).mono ?_);rintro e w1 ⟨rfl,b1⟩)
  | (go_at_call 95;(with_reducible refine (h2.out _ b1).mono ?_);rintro e w2 ⟨rfl,b2⟩;have c2:=b1.trans (b2.mono b1.size))
  | (go_at_call 44;(with_reducible refine (h3.out _ c2).mono ?_);rintro e w3 ⟨rfl,b3⟩;have c3:=c2.trans (b3.mono c2.size))
  | (go_at_call 96;(with_reducible refine (h4.out _ c3).mono ?_);rintro e w4 ⟨rfl,b4⟩;have c4:=c3.trans (b4.mono c3.size))
  | (go_at_call 46;(with_reducible refine (h5.out _ c4).mono ?_);rintro e w5 ⟨rfl,b5⟩;have c5:=c4.trans (b5.mono c4.size))
  | (go_at_call 97;(with_reducible refine (h6.out _ c5).mono ?_);rintro e w6 ⟨rfl,b6⟩;have c6:=c5.trans (b6.mono c5.size)))
 go_ret
 exact ⟨rfl,c6⟩
theorem RF.of_readsF {l:List Fact}{A:Option Addr}{I:Nat→Prop}(h:ReadsF I w 5 A l.length (cellsF l)):RF w w.heap.size A l:=⟨Nat.le_refl _,h.1⟩
theorem equal_any (hP:PO 0 N w F g h s)(hO:RO w F' x h' s) :
  Calls Tryz.prog 54 #[.pointer (some ⟨g,0,none⟩),.pointer (some ⟨x,0,none⟩)] w fun e w'=>e=.returned (.bool true)∧Below w.heap.size w w':=by
 have hx:=hO.gl
 have hdl:=days_le hP.ok.tm
 have hd1:s.dishes.length≤40:=by have:=hP.ok.dl;have:=hP.ok.cy.n2;omega
 have hk1:=hP.ok.kl
 have hf1:=hP.ok.fl
 have HD:=Lib.hid (oDishes_any hP)
 have HK:=Lib.hid (fun (w':World) (hb:Below w.heap.size w w')=>oEaters_any (hP.below hb))
 go_enter Tryz.func54,Tryz.ntmps54
 go_wp2_with (first
  | (go_at_call 47;(with_reducible refine HD.out.mono ?_);rintro e w1 ⟨DA,Dc,rfl,rdD,b1⟩)
  | (go_at_call 26;(with_reducible refine (HK.out _ b1).mono ?_);rintro e w2 ⟨KA,Kc,ek,rfl,rdK,b2⟩))
 have c2:=b1.trans (b2.mono b1.size)
 have rD:RDh (fun _=>True) w2 DA s.dishes:=R2.mono (R2.below (F:=fun k=>w.heap.size≤k) rdD b2) fun _ _=>trivial
 have rK:RKd (fun _=>True) w2 KA s.kids ek:=rdK.mono fun _ _=>trivial
 have hP2:=hP.below c2
 have hO2:=hO.below c2
 have HN:=Lib.hid (fun (w':World) (hb:Below w2.heap.size w2 w')=>oNow_any (hP2.below hb))
 have HF:=Lib.hid (fun (w':World) (hb:Below w2.heap.size w2 w')=>oFacts_any (hP2.below hb))
 have HB:=Lib.hid (fun (w':World) (hb:Below w2.heap.size w2 w')=>oBook_any (hP2.below hb))
 have hl2:x<w2.heap.size:=Nat.lt_of_lt_of_le hx c2.size
 have x0:=hO2.cNow;have x1:=hO2.cDs;have x2:=hO2.cKd;have x3:=hO2.cFa;have x4:=hO2.cBk
 obtain ⟨BT,hBT⟩:∃BT,BT=St (bok s):=⟨_,rfl⟩
 clear HD HK rdD rdK b1 b2
 go_cut [63] (fun v wx=>v=.bool false∧Below w2.heap.size w2 wx)
 case first =>
  go_region_held3 (fun w'=>w'.cell? ⟨x,10,none⟩=some (.int .i64 s.now)∧w'.cell? ⟨x,11,none⟩=some (.slice h'.ds.1 s.dishes.length h'.ds.2)∧w'.cell? ⟨x,12,none⟩=some (.slice h'.kd.1 s.kids.length h'.kd.2)∧w'.cell? ⟨x,13,none⟩=some (.slice h'.fa.1 s.facts.length h'.fa.2)∧w'.cell? ⟨x,18,none⟩=some (St (bok s)))
   (first | exact ⟨k0,k1,k2,k3,k4⟩ | go_keep)
   (first
    | (go_at_call 21;(with_reducible refine (HN.out _ (Below.refl w2.heap.size w2).drew).mono ?_);rintro e wA ⟨rfl,bA⟩;have cA:=(Below.refl w2.heap.size w2).drew.trans bA;have oA:=hO2.below cA;have k0:=oA.cNow;have k1:=oA.cDs;have k2:=oA.cKd;have k3:=oA.cFa;have k4:=oA.cBk)
    | (go_at_call 24;(with_reducible refine (HF.out _ cA).mono ?_);rintro e wB ⟨FA,Fc,rfl,rdB,bB⟩;have cB:=cA.trans (bB.mono cA.size);have oB:=hO2.below cB;have k0:=oB.cNow;have k1:=oB.cDs;have k2:=oB.cKd;have k3:=oB.cFa;have k4:=oB.cBk;have HS:=Lib.hid (sameFacts_any s.facts s.facts FA h'.fa.1 Fc h'.fa.2 _ _ wB (RF.of_readsF rdB) oB.rf (by omega) (by omega)))
    | (go_at_call 142;(with_reducible refine HS.out.mono ?_);rintro e wC ⟨rfl,bC⟩;have cC:=cB.trans (bC.mono cB.size);have oC:=hO2.below cC;have k0:=oC.cNow;have k1:=oC.cDs;have k2:=oC.cKd;have k3:=oC.cFa;have k4:=oC.cBk)
    | (go_at_call 23;(with_reducible refine (HB.out _ cC).mono ?_);rintro e wD ⟨rfl,bD⟩;have cD:=cC.trans (bD.mono cC.size);have oD:=hO2.below cD;have k0:=oD.cNow;have k1:=oD.cDs;have k2:=oD.cKd;have k3:=oD.cFa;have k4:=oD.cBk))
  all_goals
   go_wp2_with fail
   go_meet
   exact ⟨rfl,cD⟩
 case rest =>
  obtain ⟨rfl,b3⟩:=hcut
  clear x0 x1 x2 x3 x4 hBT HN HF HB
  obtain ⟨w3,hw3⟩:∃w3,w3=wc:=⟨_,rfl⟩
  rw [← hw3] at b3 ⊢
  clear hw3
  have c3:=c2.trans (b3.mono c2.size)
  replace rD:=R2.below rD b3
  replace rK:=rK.below b3
  have hP3:=hP2.below b3
  have hO3:=hO2.below b3
  clear hP2 hO2
  go_wp2_with fail
  go_loopw [7] (fun v wr=>∃k:Nat,k≤s.dishes.length∧v=.int .i64 k∧Below w3.heap.size w3 wr) (fun v _=>s.dishes.length-(intOf v).toNat)
  case atStart=>exact ⟨0,by omega,rfl,Below.refl _ _⟩
  case round =>
   obtain ⟨k,hk,rfl,hb⟩:=hrel
   by_cases hlt:k<s.dishes.length
   ·have hOr:=hO3.below hb
    obtain ⟨ad,rfl,hab,e0,e1⟩:=RDh.at_ (R2.below rD hb) hlt
    have q:=hOr.cDs
    obtain ⟨ad',ha',hab',f0,f1⟩:=hOr.dish.at_ hlt
    rw [ha'] at q
    have n1:((gd s.dishes k).item != (gd s.dishes k).item)=false:=by simp
    have n2:((gd s.dishes k).name != (gd s.dishes k).name)=false:=by simp
    clear ha'
    go_wp2_with fail
    go_quiet (fail)
    go_wp2_with fail
    go_roundw
    case rel=>exact ⟨k+1,by omega,by go_num,Go.below_drewN hb _⟩
    case measure=>simp [intOf];omega
   ·obtain rfl:k=s.dishes.length:=by omega
    go_wp2_with fail
    obtain ⟨w4,rfl⟩:∃w4:World,w4=wr:=⟨_,rfl⟩
    go_loopw [8] (fun v wr=>∃k:Nat,k≤s.kids.length∧v=.int .i64 k∧Below w4.heap.size w4 wr) (fun v _=>s.kids.length-(intOf v).toNat)
    case atStart=>exact ⟨0,by omega,rfl,Below.refl _ _⟩
    case round =>
     obtain ⟨k,hk,rfl,hb2⟩:=hrel
     have hbr:=hb.trans (hb2.mono hb.size)
     by_cases hlt:k<s.kids.length
     ·have hPr:=hP3.below hbr
      have hOr:=hO3.below hbr
      have hrk:=rK.below hbr
      have hav:=hrk.avoid k hlt
      obtain ⟨ad,rfl,hab,e0,e1⟩:=hrk.at_ hlt
      have q:=hOr.cKd
      have hav':=hOr.av k hlt
      obtain ⟨ad',ha',hab',_,f0,f1⟩:=hOr.kids.at_ hlt
      rw [ha'] at q
      have hal:(gk s.kids k).avoid.length≤1000:=by
       have h1:=hP.ok.ka _ (gk_mem hlt)
       have h2:=isSet_len h1 hP.ok.bk.p0
       have h3:=hP.ok.bk.p10
       omega
      have HA:=Lib.hid (Due_any hPr (gk s.kids k).num)
      have HB:=Lib.hid (fun (w':World) (hb:Below wr.heap.size wr w')=>rDue_any (hOr.below hb) (gk s.kids k).num)
      have HH:=Lib.hid hOr
      have HR:=Lib.hid hrk
      have HV:=Lib.hid hav
      have HV':=Lib.hid hav'
      obtain ⟨nm,hnm⟩:∃nm,nm=(gk s.kids k).num:=⟨_,rfl⟩
      obtain ⟨av,hav3⟩:∃av,av=(gk s.kids k).avoid:=⟨_,rfl⟩
      rw [← hav3] at e1 f1 HV HV' hal
      rw [← hnm] at e0 f0 HA HB
      unfold slN at f1
      clear ha' hPr hrk hav hav' hnm hav3
      have E0:=Lib.hid e0;have E1:=Lib.hid e1;have F0:=Lib.hid f0;have F1:=Lib.hid f1;have QQ:=Lib.hid q
      go_wp2_with (first
       | (go_at_call 29;(with_reducible refine HA.out.mono ?_);rintro e w5 ⟨rfl,b5⟩;have q5:=(b5.cell (p:=⟨x,12,none⟩) HH.out.gl).trans QQ.out;have f5:=(b5.cell (by exact hab')).trans F0.out)
       | (go_at_call 40;(with_reducible refine (HB.out _ b5).mono ?_);rintro e w6 ⟨rfl,b6⟩))
      have b56:=b5.trans (b6.mono b5.size)
      have h6:=HH.out.below b56
      have g0:=cell_regrown ((b56.cell (by exact hab)).trans E0.out)
      have g1:=cell_regrown ((b56.cell (by exact hab)).trans E1.out)
      have g2:=cell_regrown ((b56.cell (by exact hab')).trans F0.out)
      have g3:=cell_regrown ((b56.cell (by exact hab')).trans F1.out)
      have g4:=cell_regrown ((b56.cell (p:=⟨x,12,none⟩) HH.out.gl).trans QQ.out)
      have r1:RN w6 (ek k).1 av:=(RNF.rn HV.out).below b56
      have r2:RN w6 (h'.hk k).1 av:=(RNF.rn HV'.out).below b56
      have cA:∀d' os,Calls Tryz.prog 43 #[.slice (ek k).1 av.length (ek k).2,.slice (h'.hk k).1 av.length (h'.hk k).2] (grow (redrawn w6 d') os) fun e w''=>e=.returned (.bool true)∧∃p:Regrown,w''=grow (redrawn w6 p.d) p.os:=fun d' os =>
       Calls.regrown_of ((osameInts_any av av _ _ _ _ _ (r1.below (below_regrown w6 d' os)) (r2.below (below_regrown w6 d' os)) (by omega) (by omega)).mono fun e w' hh=>⟨by rw [hh.1];simp,hh.2⟩)
      obtain ⟨DR,hDR⟩:∃DR,DR=dueR s nm:=⟨_,rfl⟩
      obtain ⟨DE,hDE⟩:∃DE,DE=dueE s nm:=⟨_,rfl⟩
      rw [← hDR,← hDE]
      have n1:(nm != nm)=false:=by simp
      have n2:(DR != DR)=false:=by simp
      have n3:(DE != DE)=false:=by simp
      clear hDR hDE r1 r2 e0 e1 f0 f1 q q5 f5 h6
      go_wp2_with fail
      refine wp_region_quiet_below (by kernel_rfl) (by kernel_rfl) ?_
      repeat (go_big_quiet_step (first | with_reducible exact cA _ _))
      refine wpQuiet_nil ?_
      intro _ hw'
      obtain ⟨⟨dq,osq⟩,hw''⟩:=hw'
      subst hw''
      go_wp2_with fail
      go_roundw
      case rel=>exact ⟨k+1,by omega,by go_num,hb2.trans ((b56.trans ((below_regrown w6 dq osq).mono b56.size)).mono hb2.size)⟩
      case measure=>simp [intOf];omega
     ·obtain rfl:k=s.kids.length:=by omega
      go_wp2_with fail
      obtain ⟨w5,rfl⟩:∃w5:World,w5=wr:=⟨_,rfl⟩
      go_loopw [13] (fun v wr=>∃k:Nat,k≤s.days∧v=.int .i64 k∧Below w5.heap.size w5 wr) (fun v _=>s.days-(intOf v).toNat)
      case atStart=>exact ⟨0,by omega,rfl,Below.refl _ _⟩
      case round =>
       obtain ⟨k,hk,rfl,hb3⟩:=hrel
       have hbq:=hbr.trans (hb3.mono hbr.size)
       have hOr:=hO3.below hbq
       have q:=hOr.cMn
       have HS:=Lib.hid (sameDay_any (hP3.below hbq) hOr k)
       by_cases hlt:k<s.days
       ·go_wp2_with (go_at_call 39;(with_reducible refine HS.out.mono ?_);rintro e w6 ⟨rfl,b6⟩)
        go_roundw
        case rel=>exact ⟨k+1,by omega,by go_num,hb3.trans (b6.mono hb3.size)⟩
        case measure=>simp [intOf];omega
       ·go_wp2_with fail
        go_ret
        exact ⟨rfl,c3.trans (hbq.mono c3.size)⟩
end
end Go.Proofs.YtiapkffihpgdcaaGreatDoor
namespace Go.Proofs.YtiapkffihpgdcaaGreatDoor
open Go.RowKit
section
variable {w0 w:World}{N g x:Nat}{s s':Of}
theorem DN.equal (hd:DN w0 N g x s s w):Calls Tryz.prog 54 #[.pointer (some ⟨g,0,none⟩),.pointer (some ⟨x,0,none⟩)] w fun e w'=>e=.returned (.bool true)∧Below w.heap.size w w':=by
 obtain ⟨F,F',h,h',hd⟩:=hd
 exact equal_any hd.po hd.ro
theorem DN.sameDay (hd:DN w0 N g x s s w)(d:Int):Calls Tryz.prog 39 #[.pointer (some ⟨g,0,none⟩),.pointer (some ⟨x,0,none⟩),.int .i64 d] w fun e w'=>e=.returned (.bool true)∧Below w.heap.size w w':=by
 obtain ⟨F,F',h,h',hd⟩:=hd
 exact sameDay_any hd.po hd.ro d
theorem DN.due (hd:DN w0 N g x s s' w)(c:Int):Calls Tryz.prog 29 #[.pointer (some ⟨g,0,none⟩),.int .i64 c] w fun e w'=>e=.returned (.tuple #[.int .i64 (dueR s c),.int .i64 (dueE s c)])∧Below w.heap.size w w':=by
 obtain ⟨F,F',h,h',hd⟩:=hd
 exact Due_any hd.po c
theorem DN.rdue (hd:DN w0 N g x s s' w)(c:Int):Calls Tryz.prog 40 #[.pointer (some ⟨x,0,none⟩),.int .i64 c] w fun e w'=>e=.returned (.tuple #[.int .i64 (dueR s' c),.int .i64 (dueE s' c)])∧Below w.heap.size w w':=by
 obtain ⟨F,F',h,h',hd⟩:=hd
 exact rDue_any hd.ro c
theorem DN.label (hd:DN w0 N g x s s' w)(n:Wd):Calls Tryz.prog 41 #[.pointer (some ⟨g,0,none⟩),St n] w fun e w'=>∃A c,e=.returned (.tuple #[.slice A (lbnR s n).length c,.int .i64 (lbnE s n)])∧RNF (fun k=>w.heap.size≤k) w' A (lbnR s n)∧Below w.heap.size w w':=by
 obtain ⟨F,F',h,h',hd⟩:=hd
 exact oLabel_any hd.po hd.env.z n
theorem DN.rlabel (hd:DN w0 N g x s s' w)(n:Wd):Calls Tryz.prog 42 #[.pointer (some ⟨x,0,none⟩),St n] w fun e w'=>∃A c,e=.returned (.tuple #[.slice A (lbnR s' n).length c,.int .i64 (lbnE s' n)])∧RNF (fun k=>w.heap.size≤k) w' A (lbnR s' n)∧Below w.heap.size w w':=by
 obtain ⟨F,F',h,h',hd⟩:=hd
 exact roLabel_any hd.ro n
theorem DN.book (hd:DN w0 N g x s s' w):Calls Tryz.prog 23 #[.pointer (some ⟨g,0,none⟩)] w fun e w'=>e=.returned (St (bok s))∧Below w.heap.size w w':=by
 obtain ⟨F,F',h,h',hd⟩:=hd
 exact oBook_any hd.po
end
theorem lbn_len (s:Of)(n:Wd):(lbnR s n).length≤20:=by
 unfold lbnR
 split
 ·unfold labR;split
  ·exact bitsL_len _
  ·exact Nat.zero_le _
 ·exact Nat.zero_le _
theorem bok_do {s:Of}{t:Wd}(h:doE s t=0):bok (doS s t)=bok s ++ t ++ [10]:=by rw [bok_eq,bok_eq,doS_orders h,bokL_app];simp [bokL]
theorem bok_len {s:Of}(h:OfOk s):(bok s).length≤61*s.orders.length∧s.orders.length≤1000000:=by
 have h1:=bokTo_len s.orders h.short s.orders.length
 have h2:=h.ol
 exact ⟨h1,by omega⟩
end Go.Proofs.YtiapkffihpgdcaaGreatDoor
