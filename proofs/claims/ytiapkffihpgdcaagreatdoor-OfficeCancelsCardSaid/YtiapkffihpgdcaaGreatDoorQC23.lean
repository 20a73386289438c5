import Derived.Test.YtiapkffihpgdcaaGreatDoorQC9
import Derived.Test.YtiapkffihpgdcaaGreatDoorQC12
import Derived.Test.YtiapkffihpgdcaaGreatDoorQC13
import Derived.Test.YtiapkffihpgdcaaGreatDoorQC18
import Derived.Test.YtiapkffihpgdcaaGreatDoorQC22
set_option linter.unusedVariables false
set_option linter.unusedSimpArgs false
set_option maxRecDepth 100000
set_option maxHeartbeats 4000000
namespace Go.Proofs.YtiapkffihpgdcaaGreatDoor
open Go.RowKit Go.Sort
section
variable {w w':World}{F F':Nat→Prop}{g:Nat}{h h':Hr}{s s':Of}
theorem RO.app_ds (hP:RO w F g h s){wr W w7:World}(h1:Below w.heap.size w wr)(h2:Below wr.heap.size wr W)(x:Dh){A3:Option Addr}{c3:Nat}(own7:w7.ownsRow 0 174 2 (.slice A3 (s.dishes.length+1) c3) (s.dishes.length+1) (cells2 s.dishes.length (fun k=>St (gd s.dishes k).name) (fun k=>.int .i64 (gd s.dishes k).item) ++ [St x.name,.int .i64 x.item]))
  (hg7:W.grownBy w7 (blkOf (h.ds.1,h.ds.2))) (hk7:blkOf (A3,c3)=blkOf (h.ds.1,h.ds.2)∨blkOf (A3,c3)=some W.heap.size) (ok:OfOk { s with dishes:=s.dishes ++ [x] }) :
  Off F w (w7.setCell ⟨g,11,none⟩ (.slice A3 (s.dishes.length+1) c3))∧RO (w7.setCell ⟨g,11,none⟩ (.slice A3 (s.dishes.length+1) c3)) (grown F w (w7.setCell ⟨g,11,none⟩ (.slice A3 (s.dishes.length+1) c3))) g { h with ds:=(A3,c3) } { s with dishes:=s.dishes ++ [x] }:=by
 have hPr:=hP.below h1
 have hlen:(s.dishes ++ [x]).length=s.dishes.length+1:=by simp
 have hgb:∀k,blkOf h.ds=some k→k≠g:=fun k e=>(hP.dsF k e).2
 have hsz:wr.heap.size≤w7.heap.size:=Nat.le_trans h2.size hg7.size
 have hng:(h.ds.1,h.ds.2)=h.ds:=rfl
 rw [hng] at hg7 hk7
 have hA:∀k,blkOf (A3,c3)=some k→k≠g:=fun k e=>by
  rcases hk7 with e2 | e2
  ·rw [e2] at e;exact hgb k e
  ·rw [e2] at e;injection e with e;have:=h2.size;have:=hPr.gl;omega
 have hne:blkOf h.ds≠some g:=fun e=>hgb g e rfl
 have hkp:∀k,k<wr.heap.size→k≠g→blkOf h.ds≠some k→(w7.setCell ⟨g,11,none⟩ (.slice A3 (s.dishes.length+1) c3)).heap[k]? = wr.heap[k]?:=fun k hk h3 h4=>(set_other _ _ _ _ h3).trans ((hg7.block k (Nat.lt_of_lt_of_le hk h2.size) (fun e=>h4 e.symm)).trans (h2.block k hk))
 have bx:Box w7 g (cellsR s h):=⟨Nat.lt_of_lt_of_le hPr.gl hsz,fun j=>(grown_at (p:=⟨g,j,none⟩) h2 hg7 hPr.gl hne).1.trans (hPr.box.cell j),fun j=>(grown_at (p:=⟨g,j,none⟩) h2 hg7 hPr.gl hne).2.trans (hPr.box.free j)⟩
 have bx2:Box (w7.setCell ⟨g,11,none⟩ (.slice A3 (s.dishes.length+1) c3)) g (cellsR { s with dishes:=s.dishes ++ [x] } { h with ds:=(A3,c3) }):=by
  have:=bx.set 11 (.slice A3 (s.dishes.length+1) c3) (by simp [cellsR])
  have e:(cellsR s h).setIfInBounds 11 (.slice A3 (s.dishes.length+1) c3)=cellsR { s with dishes:=s.dishes ++ [x] } { h with ds:=(A3,c3) }:=by
   unfold cellsR
   simp only [hlen]
   rfl
  rw [← e];exact this
 have ow:(w7.setCell ⟨g,11,none⟩ (.slice A3 (s.dishes.length+1) c3)).ownsRow 0 174 2 (slN (A3,c3) (s.dishes ++ [x]).length) (s.dishes ++ [x]).length (cells2 s.dishes.length (fun k=>St (gd s.dishes k).name) (fun k=>.int .i64 (gd s.dishes k).item) ++ [St x.name,.int .i64 x.item]):=by
  rw [hlen]
  exact ownsRow_setCell_other own7 (fun e=>by have e3:(Value.slice A3 (s.dishes.length+1) c3).ownBlock=blkOf (A3,c3):=own_blk (A3,c3) _;rw [e3] at e;exact hA _ e rfl) _
 rw [← cells2_snoc_ds] at ow
 have hcd:∀k,blkOf h.ck=some k→blkOf h.ds≠some k:=fun k e e2=>own_ty_ne hPr.ds hPr.ck (by decide) (by rw [own_blk];exact e) (by rw [own_blk];exact e2)
 have hed:∀k,blkOf h.et=some k→blkOf h.ds≠some k:=fun k e e2=>own_ty_ne hPr.ds hPr.et (by decide) (by rw [own_blk];exact e) (by rw [own_blk];exact e2)
 have hsw:w.heap.size≤wr.heap.size:=h1.size
 obtain ⟨W8,hW8⟩:∃W8,W8=w7.setCell ⟨g,11,none⟩ (.slice A3 (s.dishes.length+1) c3):=⟨_,rfl⟩
 have h8s:W8.heap.size=w7.heap.size:=by rw [hW8,set_size]
 have o1:Off F w W:=.of_below (h1.trans (h2.mono h1.size))
 have o2:Off F w W8:=by rw [hW8];exact (o1.grown hg7 (fun k e=>.inl (hP.dsF k e).1)).setCell (.inl hP.gF) _
 rw [← hW8] at hkp bx2 ow ⊢
 have hK:Keeps (fun k=>k≠g∧blkOf h.ds≠some k) wr W8:=⟨by rw [h8s];exact hsz,fun k hk hs=>hkp k hs hk.1 hk.2⟩
 have hlo:=hP.grown_lo (w':=W8) (by rw [h8s];omega)
 have hJ:∀k,Jm F g h k→Jm (grown F w W8) g { h with ds:=(A3,c3) } k:=fun k hk=>⟨.inl hk.1,hk.2.1,fun e=>by
  have e':blkOf (A3,c3)=some k:=e
  rcases hk7 with e2 | e2
  ·rw [e2] at e';exact hk.2.2.1 e'
  ·rw [e2] at e';injection e' with e';have:=(hPr.lo k hk.1).2;have:=h2.size;omega,hk.2.2.2.1,hk.2.2.2.2⟩
 have hi:Keeps (Jm F g h) wr W8:=hK.mono fun k hk=>⟨hk.2.1,hk.2.2.1⟩
 refine ⟨o2,⟨bx2,hlo,.inl hP.gF,(hPr.rest.kept hi).mono hJ,(hPr.clo.kept hi).mono hJ,(hPr.bk.kept hi).mono hJ,(hPr.mn.kept hi).mono hJ,ReadsF.mono (hPr.fa.kept hi) hJ,ReadsF.mono (hPr.ri.kept hi) hJ,ReadsF.mono (hPr.kd.kept hi) hJ,fun k hk'=>((hPr.av k hk').kept hi).mono hJ,ow,
  own_kept hPr.ck hK fun k e=>?_,own_kept hPr.et hK fun k e=>?_,fun k e=>⟨?_,hA k e⟩,fun k e=>⟨.inl (hP.ckF k e).1,(hP.ckF k e).2⟩,fun k e=>⟨.inl (hP.etF k e).1,(hP.etF k e).2⟩,ok,hPr.fc⟩⟩
 ·rw [own_blk] at e;exact ⟨(hP.ckF k e).2,hcd k e⟩
 ·rw [own_blk] at e;exact ⟨(hP.etF k e).2.1,hed k e⟩
 ·have e':blkOf (A3,c3)=some k:=e
  have hlt:k<W8.heap.size:=by
   have:=World.ownsRow.lt ow k (by rw [own_blk];exact e')
   exact this.2
  rcases hk7 with e2 | e2
  ·rw [e2] at e';exact .inl (hP.dsF k e').1
  ·rw [e2] at e';injection e' with e';have:=h2.size;exact .inr ⟨by omega,hlt⟩
end
theorem rvalid_any (s:Wd)(hs:s.length≤1000000000)(hl:letB s=true)(w:World):Calls Tryz.prog 205 #[St s] w fun e w'=>e=.returned (.bool (decide (s.length≤8∧97≤(gb s 0).toNat)))∧w'=w:=by
 have hne:0<s.length:=by
  cases s with
  | nil=>simp [letB] at hl
  | cons a r=>simp
 have hsz:0<ByteArray.size ⟨s.toArray⟩:=by rw [st_size];exact hne
 have hg0:=st_get s 0 hsz
 have hgb:gb s 0=(⟨s.toArray⟩:ByteArray)[0]'hsz:=by rw [hg0];simp [gb,hne]
 rw [hgb]
 have hcon:=isWord_any s hs w
 rw [hl] at hcon
 have HC:=Lib.hid hcon
 clear hg0 hgb hcon hl
 by_cases h8:s.length≤8
 ·have h8':decide ((s.length:Int)≤8)=true:=by rw [decide_eq_true_eq];omega
  by_cases h97:((⟨s.toArray⟩:ByteArray)[0]'hsz).toNat<97
  ·have h97':decide ((97:Int)≤(((⟨s.toArray⟩:ByteArray)[0]'hsz).toNat:Int))=false:=by rw [decide_eq_false_iff_not];omega
   go_enter Tryz.func205,Tryz.ntmps205
   go_wp2_with (go_at_call 202;(with_reducible refine HC.out.mono ?_);rintro e w5 ⟨rfl,hw5⟩;have hw6:=hw5.symm;clear hw5;subst hw6)
   go_ret
   exact ⟨ret_bool (by symm;rw [decide_eq_false_iff_not];omega),rfl⟩
  ·have h97':decide ((97:Int)≤(((⟨s.toArray⟩:ByteArray)[0]'hsz).toNat:Int))=true:=by rw [decide_eq_true_eq];omega
   go_enter Tryz.func205,Tryz.ntmps205
   go_wp2_with (go_at_call 202;(with_reducible refine HC.out.mono ?_);rintro e w5 ⟨rfl,hw5⟩;have hw6:=hw5.symm;clear hw5;subst hw6)
   go_ret
   exact ⟨ret_bool (by symm;rw [decide_eq_true_eq];omega),rfl⟩
 ·have h8':decide ((s.length:Int)≤8)=false:=by rw [decide_eq_false_iff_not];omega
  go_enter Tryz.func205,Tryz.ntmps205
  go_wp2_with (go_at_call 202;(with_reducible refine HC.out.mono ?_);rintro e w5 ⟨rfl,hw5⟩;have hw6:=hw5.symm;clear hw5;subst hw6)
  go_ret
  exact ⟨ret_bool (by symm;rw [decide_eq_false_iff_not];omega),rfl⟩
theorem info_rdish:(Tryz.prog.info? 174).map (fun i=>(i.zero,i.size,i.bytes))=some (some (.agg #[.string ⟨#[]⟩,.int .i64 0]),2,24):=by kernel_rfl
section
variable {w:World}{F:Nat→Prop}{g:Nat}{h:Hr}{s:Of}
theorem rdish_any (hP:RO w F g h s)(name:Wd)(hn:letB name=true)(hnl:name.length≤1000000000)(item:Int)(h0:0≤item) :
  Calls Tryz.prog 136 #[.pointer (some ⟨g,0,none⟩),St name,.int .i64 item] w (RetR w F g (serE s name item) (if serE s name item=0 then { s with dishes:=s.dishes ++ [⟨name,item⟩] } else s)):=by
 obtain ⟨E,hEE⟩:∃E,E=serE s name item:=⟨_,rfl⟩
 rw [← hEE]
 obtain ⟨T,hT⟩:∃T,T=if E=0 then { s with dishes:=s.dishes ++ [⟨name,item⟩] } else s:=⟨_,rfl⟩
 rw [← hT]
 have HT:=Lib.hid hT
 have HE:=Lib.hid hEE
 clear hT hEE
 have q11:=hP.cDs;have q3:=hP.cN;have q7:=hP.cItems
 have hdl:=hP.ok.dl
 have hcn:=hP.ok.cy.n2
 have hbd:∀{c:Int} {w':World},E=c→c≠0→Below w.heap.size w w'→RetR w F g E T (.returned (.int .i64 c)) w':=fun {c w'} h1 h2 hb=>by
  have:T=s:=by rw [HT.out,if_neg (by rw [h1];exact h2)]
  rw [this,h1]
  exact hP.quiet hb
 have HBD:Hid (∀{c:Int} {w':World},E=c→c≠0→Below w.heap.size w w'→RetR w F g E T (.returned (.int .i64 c)) w'):=hbd
 clear hbd
 have HVN:=Lib.hid (rvalid_any name hnl hn w)
 by_cases hc:s.cy.n≤(s.dishes.length:Int)
 ·have hc':decide (s.cy.n≤(s.dishes.length:Int))=true:=by rw [decide_eq_true_eq];exact hc
  have HV:=Lib.hid (show E=12 by rw [HE.out,serE,if_pos hc])
  go_enter Tryz.func136,Tryz.ntmps136
  go_wp2
  go_ret
  exact HBD.out HV.out (by decide) (Below.refl _ _)
 have hc':decide (s.cy.n≤(s.dishes.length:Int))=false:=by rw [decide_eq_false_iff_not];exact hc
 have HCC:=Lib.hid hc
 go_enter Tryz.func136,Tryz.ntmps136
 go_wp2_with fail
 go_loop [8] (fun x=>∃k:Nat,k≤s.dishes.length∧x=.int .i64 k∧Hid (anyTo (fun i=>decide ((gd s.dishes i).name=name)) k=false)) (fun x=>s.dishes.length-(intOf x).toNat)
 case atStart=>exact ⟨0,by omega,rfl,rfl⟩
 case round =>
  obtain ⟨k,hk,rfl,HK⟩:=hrel
  by_cases hlt:k<s.dishes.length
  ·obtain ⟨ad,hA,hab,t0,t1⟩:=hP.dish.at_ hlt
   rw [hA] at q11
   by_cases hnn:(gd s.dishes k).name=name
   ·have hd:dishB s.dishes name=true:=anyTo_yes (k:=k) (p:=fun i=>decide ((gd s.dishes i).name=name)) (by simp [hnn]) hlt
    have hn':((gd s.dishes k).name == name)=true:=by simp [hnn]
    have HV:=Lib.hid (show E=2 by rw [HE.out,serE,if_neg (show ¬ s.cy.n≤(s.dishes.length:Int) by omega),if_pos (by unfold nameB;rw [hd,Bool.not_true,Bool.and_false])])
    clear HK hd hnn
    go_wp2_with fail
    go_ret
    exact HBD.out HV.out (by decide) (Below.refl _ _)
   ·have HN:Hid (anyTo (fun i=>decide ((gd s.dishes i).name=name)) (k+1)=false):=by show _=_;simp only [anyTo];rw [HK.out];simp [hnn]
    have hn':((gd s.dishes k).name == name)=false:=by simp [hnn]
    clear HK hnn
    go_wp2
    go_round
    case rel=>exact ⟨k+1,by omega,by go_num,HN⟩
    case measure=>simp [intOf];omega
  ·obtain rfl:k=s.dishes.length:=by omega
   have hd:dishB s.dishes name=false:=HK.out
   clear HK
   by_cases hval:name.length≤8∧97≤(gb name 0).toNat
   ·have hvt:decide (name.length≤8∧97≤(gb name 0).toNat)=true:=by rw [decide_eq_true_eq];exact hval
    have hcv:=HVN.out
    rw [hvt] at hcv
    have HCV:=Lib.hid hcv
    have HNM:=Lib.hid (show nameB s name=true by unfold nameB;rw [hd,hvt];rfl)
    clear hcv hvt hval hd HVN
    by_cases hi:(s.bk.items.length:Int)≤item
    ·have hi':decide ((s.bk.items.length:Int)≤item)=true:=by rw [decide_eq_true_eq];exact hi
     have HV:=Lib.hid (show E=5 by rw [HE.out,serE,if_neg (show ¬ s.cy.n≤(s.dishes.length:Int) by omega),if_neg (by rw [HNM.out];decide),if_pos hi])
     go_wp2_with (go_at_call 205;(with_reducible refine HCV.out.mono ?_);rintro e w5 ⟨rfl,hw5⟩;have hw6:=hw5.symm;clear hw5;subst hw6)
     go_ret
     exact HBD.out HV.out (by decide) (Below.refl _ _)
    ·have hi':decide ((s.bk.items.length:Int)≤item)=false:=by rw [decide_eq_false_iff_not];exact hi
     have hev:E=if anyTo (hurtB s item) s.kids.length then 14 else 0:=by rw [HE.out,serE,if_neg (show ¬ s.cy.n≤(s.dishes.length:Int) by omega),if_neg (by rw [HNM.out];decide),if_neg hi]
     have HEV:=Lib.hid hev
     clear hev
     have hdays:=days_le hP.ok.tm
     have hk100:=hP.ok.kl
     have r12:=hP.cKd
     go_wp2_with (go_at_call 205;(with_reducible refine HCV.out.mono ?_);rintro e w5 ⟨rfl,hw5⟩;have hw6:=hw5.symm;clear hw5;subst hw6)
     go_loopw [9] (fun x wr=>∃k:Nat,k≤s.kids.length∧x=.int .i64 k∧Hid (anyTo (hurtB s item) k=false)∧Below w.heap.size w wr) (fun x _=>s.kids.length-(intOf x).toNat)
     case atStart=>exact ⟨0,by omega,rfl,rfl,Below.refl _ _⟩
     case round =>
      obtain ⟨k,hkl,rfl,HK,hbl⟩:=hrel
      have hs3:=hbl.size
      have hPk:=hP.below hbl
      have s12:=hPk.cKd
      by_cases hlt:k<s.kids.length
      ·obtain ⟨adK,eK,hbK,_,dK0,dK1⟩:=hPk.kids.at_ hlt
       rw [eK] at s12
       clear eK
       unfold slN at dK1
       have hvd:=(hPk.av k hlt).rn
       have hvl:(gk s.kids k).avoid.length≤1000000000:=by have:=hP.ok.avl hlt;omega
       have hub:hurtB s item k=(harmB s.bk item (gk s.kids k).avoid && anyTo (fun d=>s.menu d == (s.dishes.length:Int) && eatB s (gk s.kids k).num d) s.days):=rfl
       obtain ⟨av,hav⟩:∃av,av=(gk s.kids k).avoid:=⟨_,rfl⟩
       obtain ⟨nu,hnu⟩:∃nu,nu=(gk s.kids k).num:=⟨_,rfl⟩
       rw [← hav] at dK1 hvd hvl hub
       rw [← hnu] at dK0 hub
       obtain ⟨H,hH⟩:∃H,H=harmB s.bk item av:=⟨_,rfl⟩
       rw [← hH] at hub
       have HH:=Lib.hid hH
       have HUB:=Lib.hid hub
       clear hav hnu hH hub
       obtain ⟨w5,hw5⟩:∃w5,wr.alloc (.cells #[.int .i64 nu,.slice (h.hk k).1 av.length (h.hk k).2] 208)=w5:=⟨_,rfl⟩
       have hb5:Below wr.heap.size wr w5:=by rw [← hw5];exact (Below.refl _ wr).alloc (Nat.le_refl _) _
       have b5:Box w5 wr.heap.size #[.int .i64 nu,.slice (h.hk k).1 av.length (h.hk k).2]:=by rw [← hw5];exact (Box.new wr _ _)
       have u0:=b5.cell 0
       have u1:=b5.cell 1
       simp only [gqA,gqB,gqC] at u0 u1
       have hbl5:=hbl.trans (hb5.mono hs3)
       have hP5:=hPk.below hb5
       have hvd5:=hvd.below hb5
       have HHM:=Lib.hid (rharms_any hP5 nu av hvl _ (h.hk k).2 hvd5 item)
       cases H with
       | false =>
        have HN:Hid (anyTo (hurtB s item) (k+1)=false):=by
         show _=_
         simp only [anyTo]
         rw [HK.out,HUB.out];rfl
        clear HK HUB
        go_wp2_with (go_at_call 206;(with_reducible refine HHM.out.mono ?_);rintro e w6 ⟨rfl,hb6⟩;have HHX:=HH.out;rw [← HHX];clear HHX)
        go_roundw
        case rel=>first | exact ⟨k+1,by omega,by go_num,HN,hbl5.trans (hb6.mono hbl5.size)⟩ | ((repeat apply Exists.intro);exact ⟨⟨k+1,by omega,by go_num,HN,hbl5.trans (hb6.mono hbl5.size)⟩,rfl⟩)
        case measure=>simp [intOf];omega
       | true =>
        go_wp2_with (go_at_call 206;(with_reducible refine HHM.out.mono ?_);rintro e w6 ⟨rfl,hb6⟩;have HHX:=HH.out;rw [← HHX];clear HHX)
        have hbl6:=hbl5.trans (hb6.mono hbl5.size)
        have hP6:=hP5.below hb6
        have b6:=b5.below hb6
        have hs6:wr.heap.size<w6.heap.size:=b6.lt
        clear hw5 u0 u1 b5 dK0 dK1 hvd hvd5 hPk hP5 hbK s12
        go_loopw [11] (fun y wq=>∃d:Nat,d≤s.days∧y=.int .i64 d∧Hid (anyTo (fun d=>s.menu d == (s.dishes.length:Int) && eatB s nu d) d=false)∧Below w6.heap.size w6 wq) (fun y _=>s.days-(intOf y).toNat)
        case atStart=>exact ⟨0,by omega,rfl,rfl,Below.refl _ _⟩
        case round =>
         obtain ⟨d,hdl2,rfl,HD,hbq⟩:=hrel
         have hPq:=hP6.below hbq
         have q9:=hPq.cMn
         by_cases hdt:d<s.days
         ·obtain ⟨adm,em,hmb,cm⟩:=hPq.menu hdt
          rw [em] at q9
          clear em
          have v0:=(b6.below hbq).cell 0
          simp only [gqA,gqB,gqC] at v0
          have hbx:=hbl6.trans (hbq.mono hbl6.size)
          have HHS:=Lib.hid (rhas_any9 hPq nu d)
          obtain ⟨m,hm⟩:∃m,s.menu d=m:=⟨_,rfl⟩
          rw [hm] at cm
          by_cases hmm:m=(s.dishes.length:Int)
          ·have hmm':(m == (s.dishes.length:Int))=true:=by simp [hmm]
           cases heat:eatB s nu d with
           | true =>
            have HV:=Lib.hid (show E=14 by
             rw [HEV.out,if_pos]
             refine anyTo_yes (k:=k) ?_ hlt
             rw [HUB.out,Bool.true_and]
             exact anyTo_yes (k:=d) (by rw [hm,hmm',heat];rfl) hdt)
            clear hm hmm HD HK HUB
            go_wp2_with (go_at_call 207;(with_reducible refine HHS.out.mono ?_);rintro e w7 ⟨rfl,hb7⟩;rw [heat])
            go_ret
            exact HBD.out HV.out (by decide) (hbx.trans (hb7.mono hbx.size))
           | false =>
            have HN:Hid (anyTo (fun d=>s.menu d == (s.dishes.length:Int) && eatB s nu d) (d+1)=false):=by
             show _=_
             simp only [anyTo]
             rw [HD.out,heat,Bool.and_false];rfl
            clear hm hmm HD
            go_wp2_with (go_at_call 207;(with_reducible refine HHS.out.mono ?_);rintro e w7 ⟨rfl,hb7⟩;rw [heat])
            go_roundw
            case rel=>first | exact ⟨d+1,by omega,by go_num,HN,hbq.trans (hb7.mono hbq.size)⟩ | ((repeat apply Exists.intro);exact ⟨⟨d+1,by omega,by go_num,HN,hbq.trans (hb7.mono hbq.size)⟩,rfl⟩)
            case measure=>simp [intOf];omega
          ·have hmm':(m == (s.dishes.length:Int))=false:=by simp [hmm]
           have HN:Hid (anyTo (fun d=>s.menu d == (s.dishes.length:Int) && eatB s nu d) (d+1)=false):=by
            show _=_
            simp only [anyTo]
            rw [HD.out,hm,hmm'];rfl
           clear hm hmm HD
           go_wp2_with fail
           go_roundw
           case rel=>exact ⟨d+1,by omega,by go_num,HN,hbq⟩
           case measure=>simp [intOf];omega
         ·obtain rfl:d=s.days:=by omega
          have HN:Hid (anyTo (hurtB s item) (k+1)=false):=by
           show _=_
           simp only [anyTo]
           rw [HK.out,HUB.out,HD.out];rfl
          go_wp2_with fail
          go_roundw
          case rel=>first | exact ⟨k+1,by omega,by go_num,HN,hbl6.trans (hbq.mono hbl6.size)⟩ | ((repeat apply Exists.intro);exact ⟨⟨k+1,by omega,by go_num,HN,hbl6.trans (hbq.mono hbl6.size)⟩,rfl⟩)
          case measure=>simp [intOf];omega
      ·obtain rfl:k=s.kids.length:=by omega
       have hEz:E=0:=by rw [HEV.out,if_neg (by rw [HK.out];decide)]
       have hT2:T={ s with dishes:=s.dishes ++ [⟨name,item⟩] }:=by rw [HT.out,if_pos hEz]
       have hok:=hP.ok.dish hn h0 (by rw [← HE.out];exact hEz)
       have HEz:=Lib.hid hEz
       have HT2:=Lib.hid hT2
       clear hEz hT2
       have qr:=hPk.cDs
       have qf:=hPk.box.free 11
       have hgr:=hPk.gl
       have ow:=hPk.ds
       unfold slN at ow
       have hblk:=hPk.dsF
       have hXW:∀{W:World},Below wr.heap.size wr W→∀{w7:World},W.grownBy w7 (blkOf (h.ds.1,h.ds.2))→w7.cell? ⟨g,11,none⟩=some (.slice h.ds.1 s.dishes.length h.ds.2)∧w7.frozen? ⟨g,11,none⟩=false:=fun {W} hW {w7} hg=>by
        have:=grown_at hW hg (p:=⟨g,11,none⟩) hgr (fun e=>(hblk g e).2 rfl)
        exact ⟨this.1.trans qr,this.2.trans qf⟩
       go_wp2_with (at_builtin;refine wpList_app3 rfl _ _ rfl Tryz.underlying95 info_rdish rfl (by omega) rfl ow (news:=[St name,.int .i64 item]) rfl rfl (by simp [Value.oneCell']) (by omega) (by omega) (by simp) ?_;intro A3 c3 w7 own7 hg7 hk7;have hX7:=hXW ((Below.refl _ wr).alloc (Nat.le_refl _) _) hg7;have z7:=hX7.1;have f7:=hX7.2;clear hX7)
       go_ret
       obtain ⟨o1,o2⟩:=hP.app_ds hbl ((Below.refl _ wr).alloc (Nat.le_refl _) _) ⟨name,item⟩ own7 hg7 hk7 hok
       rw [HT2.out,HEz.out]
       exact ⟨rfl,o1,_,o2⟩
   ·have hvt:decide (name.length≤8∧97≤(gb name 0).toNat)=false:=by rw [decide_eq_false_iff_not];exact hval
    have hcv:=HVN.out
    rw [hvt] at hcv
    have HCV:=Lib.hid hcv
    have HV:=Lib.hid (show E=2 by rw [HE.out,serE,if_neg (show ¬ s.cy.n≤(s.dishes.length:Int) by omega),if_pos (by unfold nameB;rw [hvt];rfl)])
    clear hcv hvt hval hd HVN
    go_wp2_with (go_at_call 205;(with_reducible refine HCV.out.mono ?_);rintro e w5 ⟨rfl,hw5⟩;have hw6:=hw5.symm;clear hw5;subst hw6)
    go_ret
    exact HBD.out HV.out (by decide) (Below.refl _ _)
end
theorem ksC_app (m:List KS)(x:KS):ksC (m ++ [x])=ksC m ++ [.int .i64 x.1.num,slN x.2 x.1.avoid.length]:=by
 unfold ksC
 rw [List.length_append,List.length_singleton,cells2_succ]
 congr 1
 ·exact cells2_congr (fun k hk=>by rw [gKS_snoc_old _ _ hk]) (fun k hk=>by rw [gKS_snoc_old _ _ hk])
 ·rw [gKS_snoc_new]
theorem info_rchild:(Tryz.prog.info? 208).map (fun i=>(i.zero,i.size,i.bytes))=some (some (.agg #[.int .i64 0,.slice none 0 0]),2,32):=by kernel_rfl
theorem bnTo_lenZ (l:List Kd)(c:Kd):∀k,(bnTo l c k).out.length≤2*k
 | 0=>by simp [bnTo]
 | k+1=>by
  have ih:=bnTo_lenZ l c k
  simp only [bnTo,bnStep]
  split
  ·simp;omega
  ·simp;omega
/-- The children's list that is made anew,so far. -/
structure BoI (w:World) (J:Nat→Prop) (l:List Kd) (A:Option Addr) (c:Nat) (m:List KS) (wr:World):Prop where
 fst:m.map Prod.fst=l
 own:wr.ownsRow w.heap.size 208 2 (.slice A m.length c) m.length (ksC m)
 av:∀x ∈ m,RNF J w x.2.1 x.1.avoid∨OwnN wr w.heap.size x.2.1 x.2.2 x.1.avoid
 below:Below w.heap.size w wr
section
variable {w wr w':World}{J:Nat→Prop}{l:List Kd}{A:Option Addr}{c:Nat}{m:List KS}
theorem BoI.len (h:BoI w J l A c m wr):m.length=l.length:=by rw [← h.fst,List.length_map]
theorem BoI.keep (h:BoI w J l A c m wr)(hb:Below wr.heap.size wr w'):BoI w J l A c m w' :=
 ⟨h.fst,own_below h.own hb fun x hx=>(World.ownsRow.lt h.own x hx).2,fun x hx=>(h.av x hx).imp id fun ho=>own_below ho hb fun k hk=>(World.ownsRow.lt ho k hk).2,h.below.trans (hb.mono h.below.size)⟩
theorem BoI.app (h:BoI w J l A c m wr)(x:KS){A':Option Addr}{c':Nat}(own':w'.ownsRow w.heap.size 208 2 (.slice A' (m.length+1) c') (m.length+1) (ksC m ++ [.int .i64 x.1.num,slN x.2 x.1.avoid.length]))(hb:Below w.heap.size wr w')
  (hk:∀(b2 e2 s2 n2:Nat) (v2:Value) (xs2:List Value),wr.ownsRow b2 e2 s2 v2 n2 xs2→e2≠208→w'.ownsRow b2 e2 s2 v2 n2 xs2) (hx:RNF J w x.2.1 x.1.avoid∨OwnN wr w.heap.size x.2.1 x.2.2 x.1.avoid):BoI w J (l ++ [x.1]) A' c' (m ++ [x]) w':=by
 have hl:(m ++ [x]).length=m.length+1:=by simp
 refine ⟨by rw [List.map_append,h.fst];rfl,?_,fun y hy=>?_,h.below.trans hb⟩
 ·rw [hl,ksC_app];exact own'
 ·have:RNF J w y.2.1 y.1.avoid∨OwnN wr w.heap.size y.2.1 y.2.2 y.1.avoid:=by
   rcases List.mem_append.1 hy with hy | hy
   ·exact h.av y hy
   ·rw [List.mem_singleton.1 hy];exact hx
  exact this.imp id fun ho=>hk _ _ _ _ _ _ ho (by decide)
end
section
variable {w:World}{F:Nat→Prop}{g:Nat}{h:Hr}{s:Of}
/-- The list that was made anew is the office's. -/
theorem RO.putKids (hP:RO w F g h s){wr:World}{l:List Kd}{A:Option Addr}{c:Nat}{m:List KS}(hI:BoI w (Jm F g h) l A c m wr)(ok:OfOk { s with kids:=l }) :
  RetR w F g 0 { s with kids:=l } (.returned (.int .i64 0)) (wr.setCell ⟨g,12,none⟩ (.slice A l.length c)):=by
 have hb:=hI.below
 have hP4:=hP.below' hb
 have hJ:∀k,Jm F g h k→Jm (grown F w wr) g h k:=fun k=>Jm.mono fun _ hk=>.inl hk
 have hl:=hI.len
 have e:ksC m=cells2 l.length (fun k=>.int .i64 (gk l k).num) (fun k=>slN (gKS m k).2 (gk l k).avoid.length):=by rw [ksC_fst,hI.fst]
 have hr:ReadsF (Jm (grown F w wr) g h) wr 2 A l.length (cells2 l.length (fun k=>.int .i64 (gk l k).num) (fun k=>slN (gKS m k).2 (gk l k).avoid.length)):=by
  have:=ReadsF.of_own' (F:=Jm (grown F w wr) g h) hI.own fun k h1 h2=>hP.new_jm h1 h2
  rw [hl,e] at this
  exact this
 have hv:∀k,k<l.length→RNF (Jm (grown F w wr) g h) wr (gKS m k).2.1 (gk l k).avoid:=fun k hk=>by
  have hk':k<m.length:=by omega
  have e1:gk l k=(gKS m k).1:=by rw [← hI.fst,gk_fst m hk']
  rw [e1]
  rcases hI.av _ (gKS_mem hk') with h1 | h1
  ·exact (h1.below hb).mono hJ
  ·exact ReadsF.of_own' h1 fun k h1 h2=>hP.new_jm h1 h2
 have hS:=hP4.setKids (c:=c) hr hv ok
 exact ⟨rfl,(Off.of_below hb).setCell (.inl hP.gF) _,_,hS.re fun k=>(grown_set _ _ k).symm⟩
theorem rborn_any (hP:RO w F g h s)(n:Int)(hn0:0≤n)(av:List Int)(hav:av.length≤1000)(A0:Option Addr)(c0:Nat)(hR:RN w A0 av) :
  Calls Tryz.prog 137 #[.pointer (some ⟨g,0,none⟩),.int .i64 n,.slice A0 av.length c0] w (RetR w F g (metE s n av) (if metE s n av=0 then { s with kids:=insK s.kids ⟨n,av⟩ } else s)):=by
 obtain ⟨E,hEE⟩:∃E,E=metE s n av:=⟨_,rfl⟩
 rw [← hEE]
 obtain ⟨T,hT⟩:∃T,T=if E=0 then { s with kids:=insK s.kids ⟨n,av⟩ } else s:=⟨_,rfl⟩
 rw [← hT]
 have HT:=Lib.hid hT
 have HE:=Lib.hid hEE
 clear hT hEE
 have q6:=hP.cProps
 have hp0:=hP.ok.bk.p0
 have hp1:=hP.ok.bk.p10
 have hbd:∀{c:Int} {w':World},E=c→c≠0→Below w.heap.size w w'→RetR w F g E T (.returned (.int .i64 c)) w':=fun {c w'} h1 h2 hb=>by
  have:T=s:=by rw [HT.out,if_neg (by rw [h1];exact h2)]
  rw [this,h1]
  exact hP.quiet hb
 have HBD:Hid (∀{c:Int} {w':World},E=c→c≠0→Below w.heap.size w w'→RetR w F g E T (.returned (.int .i64 c)) w'):=hbd
 clear hbd
 by_cases h99:99<n
 ·have h99':decide ((99:Int)<n)=true:=by rw [decide_eq_true_eq];exact h99
  have HV:=Lib.hid (show E=1 by rw [HE.out,metE,if_pos h99])
  go_enter Tryz.func137,Tryz.ntmps137
  go_wp2
  go_ret
  exact HBD.out HV.out (by decide) (Below.refl _ _)
 have h99':decide ((99:Int)<n)=false:=by rw [decide_eq_false_iff_not];exact h99
 have his:=risSet_any av (s.bk.props-1) (by omega) A0 c0 w hR
 rw [show s.bk.props-1+1=s.bk.props by omega] at his
 cases hset:isSet av s.bk.props with
 | false =>
  have HV:=Lib.hid (show E=1 by rw [HE.out,metE,if_neg h99,if_pos hset])
  rw [hset] at his
  have HIS:=Lib.hid his
  clear his hset
  go_enter Tryz.func137,Tryz.ntmps137
  go_wp2_with (go_at_call 195;(with_reducible refine HIS.out.mono ?_);rintro e w2 ⟨rfl,hb2⟩)
  go_ret
  exact HBD.out HV.out (by decide) hb2
 | true =>
  rw [hset] at his
  have HIS:=Lib.hid his
  have HSET:=Lib.hid hset
  clear his hset
  cases hk:hasK s.kids n with
  | true =>
   obtain ⟨i,hi,hix,_,_⟩:=kix_some hk
   have hi0:decide ((0:Int)≤(i:Int))=true:=by rw [decide_eq_true_eq];omega
   have HV:=Lib.hid (show E=6 by rw [HE.out,metE,if_neg h99,if_neg (by rw [HSET.out];decide),if_pos hk])
   clear hk
   go_enter Tryz.func137,Tryz.ntmps137
   go_wp2_with (first | (go_at_call 195;(with_reducible refine HIS.out.mono ?_);rintro e w2 ⟨rfl,hb2⟩;have hcn:=rchild_any (hP.below hb2) n;rw [hix] at hcn;have HCN:=Lib.hid hcn;clear hcn) | (go_at_call 98;(with_reducible refine HCN.out.mono ?_);rintro e w5 ⟨rfl,hw5⟩;have hw6:=hw5.symm;clear hw5;subst hw6))
   go_ret
   exact HBD.out HV.out (by decide) hb2
  | false =>
   have hkx:=kix_none hk
   have hEz:E=0:=by rw [HE.out,metE,if_neg h99,if_neg (by rw [HSET.out];decide),if_neg (by rw [hk];decide)]
   have hok:=hP.ok.kid hn0 (by rw [← HE.out];exact hEz)
   have hTT:T={ s with kids:=insK s.kids ⟨n,av⟩ }:=by rw [HT.out,if_pos hEz]
   have HTT:=Lib.hid hTT
   have HEz:=Lib.hid hEz
   have HOK:=Lib.hid hok
   have hkl:=hP.ok.kl
   clear hk hEz hok hTT HBD HE HT
   go_enter Tryz.func137,Tryz.ntmps137
   go_wp2_with (first | (go_at_call 195;(with_reducible refine HIS.out.mono ?_);rintro e w2 ⟨rfl,hb2⟩;have hcn:=rchild_any (hP.below hb2) n;rw [hkx] at hcn;have HCN:=Lib.hid hcn;clear hcn) | (go_at_call 98;(with_reducible refine HCN.out.mono ?_);rintro e w5 ⟨rfl,hw5⟩;have hw6:=hw5.symm;clear hw5;subst hw6))
   have HI0:BoI w (Jm F g h) (bnTo s.kids ⟨n,av⟩ 0).out none 0 [] w2:=⟨rfl,World.ownsRow_nil _ _ _ _,fun x hx=>absurd hx (by simp),hb2⟩
   go_loopw [7,8,9] (fun o d x wr=>∃(k:Nat) (A:Option Addr) (c:Nat) (m:List KS),k≤s.kids.length∧x=.int .i64 k∧d=.bool (bnTo s.kids ⟨n,av⟩ k).done∧o=.slice A m.length c∧BoI w (Jm F g h) (bnTo s.kids ⟨n,av⟩ k).out A c m wr) (fun _ _ x _=>s.kids.length-(intOf x).toNat)
   case atStart=>exact ⟨0,none,0,[],by omega,rfl,rfl,rfl,HI0⟩
   case round =>
    clear HI0
    obtain ⟨k,A,c,m,hkk,rfl,rfl,rfl,HI⟩:=hrel
    have hPr:=hP.below HI.below
    have q12:=hPr.cKd
    have hmb:m.length≤2*k:=by rw [HI.len];exact bnTo_lenZ s.kids ⟨n,av⟩ k
    have hRr:RN wr A0 av:=hR.below HI.below
    have HCI:=Lib.hid (copyInts_any av A0 c0 wr hRr (by omega))
    by_cases hlt:k<s.kids.length
    ·obtain ⟨ad,eK,hab,_,d0,d1⟩:=hPr.kids.at_ hlt
     rw [eK] at q12
     clear eK
     unfold slN at d1
     have hst:bnTo s.kids ⟨n,av⟩ (k+1)=bnStep (bnTo s.kids ⟨n,av⟩ k) ⟨n,av⟩ (gk s.kids k):=rfl
     have HST:=Lib.hid hst
     have hav0:=hP.av k hlt
     have HAV:=Lib.hid hav0
     clear hst hav0
     by_cases hgo:(bnTo s.kids ⟨n,av⟩ k).done=false∧n<(gk s.kids k).num
     ·obtain ⟨g1,g2⟩:=hgo
      have g2':decide (n<(gk s.kids k).num)=true:=by rw [decide_eq_true_eq];exact g2
      have hnx:(bnTo s.kids ⟨n,av⟩ (k+1)).done=true∧(bnTo s.kids ⟨n,av⟩ (k+1)).out=(bnTo s.kids ⟨n,av⟩ k).out ++ [⟨n,av⟩] ++ [gk s.kids k]:=by
       rw [HST.out];unfold bnStep;rw [g1,g2'];exact ⟨rfl,rfl⟩
      have HNX:=Lib.hid hnx
      rw [g1]
      clear hnx g2
      go_wp2_with (first
       | (go_at_call 197;(with_reducible refine HCI.out.mono ?_);rintro e w4 ⟨AA,cA,rfl,ownA,hbA⟩;have HI4:=HI.keep hbA;have ownA0:OwnN w4 w.heap.size AA cA av:=(own_base ownA HI.below.size);have own4:=HI4.own;have hs4:=HI4.below.size)
       | (at_builtin;refine wpList_app2 rfl _ _ rfl Tryz.underlying96 info_rchild rfl (by omega) rfl own4 (news:=[.int .i64 n,.slice AA av.length cA]) rfl rfl rfl (by simp [Value.oneCell']) (by omega) (by omega) hs4 ?_;intro A5 c5 w5 own5 hb5 hk5;have HI5:=HI4.app (⟨⟨n,av⟩,(AA,cA)⟩:KS) own5 (hb5 _ (Nat.le_refl _)) hk5 (.inr ownA0);have hl5:(m ++ [(⟨⟨n,av⟩,(AA,cA)⟩:KS)]).length=m.length+1:=(by simp);have own6:=HI5.own;rw [hl5] at own6;have hs5:=HI5.below.size;have hP5:=hP.below HI5.below;have z12:=hP5.cKd;obtain ⟨ad5,eK5,hab5,_,e0,e1⟩:=hP5.kids.at_ hlt;rw [eK5] at z12;clear eK5;unfold slN at e1)
       | (at_builtin;refine wpList_app2 rfl _ _ rfl Tryz.underlying96 info_rchild rfl (by omega) rfl own6 (news:=[.int .i64 (gk s.kids k).num,.slice (h.hk k).1 (gk s.kids k).avoid.length (h.hk k).2]) rfl rfl rfl (by simp [Value.oneCell']) (by omega) (by omega) hs5 ?_;intro A7 c7 w7 own7 hb7 hk7))
      rw [← hl5] at own7
      have HI7:=HI5.app (⟨gk s.kids k,h.hk k⟩:KS) own7 (hb7 _ (Nat.le_refl _)) hk7 (.inl HAV.out)
      rw [← HNX.out.2] at HI7
      go_roundw
      case rel=>exact ⟨k+1,A7,c7,_,by omega,by go_num,by rw [HNX.out.1],by simp,HI7⟩
      case measure=>simp [intOf];omega
     ·have hnx:(bnTo s.kids ⟨n,av⟩ (k+1)).done=(bnTo s.kids ⟨n,av⟩ k).done∧(bnTo s.kids ⟨n,av⟩ (k+1)).out=(bnTo s.kids ⟨n,av⟩ k).out ++ [gk s.kids k]:=by
       rw [HST.out];unfold bnStep
       rw [if_neg]
       ·exact ⟨rfl,rfl⟩
       ·rw [Bool.and_eq_true,Bool.not_eq_true',decide_eq_true_eq];exact hgo
      have HNX:=Lib.hid hnx
      have own4:=HI.own
      have hs4:=HI.below.size
      cases hdn:(bnTo s.kids ⟨n,av⟩ k).done with
      | true =>
       clear hnx hgo
       go_wp2_with (at_builtin;refine wpList_app2 rfl _ _ rfl Tryz.underlying96 info_rchild rfl (by omega) rfl own4 (news:=[.int .i64 (gk s.kids k).num,.slice (h.hk k).1 (gk s.kids k).avoid.length (h.hk k).2]) rfl rfl rfl (by simp [Value.oneCell']) (by omega) (by omega) hs4 ?_;intro A7 c7 w7 own7 hb7 hk7)
       have HI7:=HI.app (⟨gk s.kids k,h.hk k⟩:KS) own7 (hb7 _ (Nat.le_refl _)) hk7 (.inl HAV.out)
       rw [← HNX.out.2] at HI7
       go_roundw
       case rel=>exact ⟨k+1,A7,c7,_,by omega,by go_num,by rw [HNX.out.1,hdn],by simp,HI7⟩
       case measure=>simp [intOf];omega
      | false =>
       have g2':decide (n<(gk s.kids k).num)=false:=by rw [decide_eq_false_iff_not];exact fun e=>hgo ⟨hdn,e⟩
       clear hnx hgo
       go_wp2_with (at_builtin;refine wpList_app2 rfl _ _ rfl Tryz.underlying96 info_rchild rfl (by omega) rfl own4 (news:=[.int .i64 (gk s.kids k).num,.slice (h.hk k).1 (gk s.kids k).avoid.length (h.hk k).2]) rfl rfl rfl (by simp [Value.oneCell']) (by omega) (by omega) hs4 ?_;intro A7 c7 w7 own7 hb7 hk7)
       have HI7:=HI.app (⟨gk s.kids k,h.hk k⟩:KS) own7 (hb7 _ (Nat.le_refl _)) hk7 (.inl HAV.out)
       rw [← HNX.out.2] at HI7
       go_roundw
       case rel=>exact ⟨k+1,A7,c7,_,by omega,by go_num,by rw [HNX.out.1,hdn],by simp,HI7⟩
       case measure=>simp [intOf];omega
    ·obtain rfl:k=s.kids.length:=by omega
     have hend:=bn_insK s.kids ⟨n,av⟩
     have HEND:=Lib.hid hend
     clear hend
     cases hdn:(bnTo s.kids ⟨n,av⟩ s.kids.length).done with
     | true =>
      have hfin:(bnTo s.kids ⟨n,av⟩ s.kids.length).out=insK s.kids ⟨n,av⟩:=by have:=HEND.out;unfold bnEnd at this;rw [hdn] at this;exact this
      rw [hfin] at HI
      have hml2:=HI.len
      have hput:=hP.putKids HI HOK.out
      rw [← hml2] at hput
      have HPUT:=Lib.hid hput
      have hgc:=(hP.below HI.below).cKd
      have hgf:=(hP.below HI.below).box.free 12
      clear hfin hput hml2
      go_wp2_with fail
      go_ret
      rw [HTT.out,HEz.out]
      exact HPUT.out
     | false =>
      have hfin:(bnTo s.kids ⟨n,av⟩ s.kids.length).out ++ [⟨n,av⟩]=insK s.kids ⟨n,av⟩:=by have:=HEND.out;unfold bnEnd at this;rw [hdn] at this;exact this
      have HFIN:=Lib.hid hfin
      clear hfin
      go_wp2_with (first
       | (go_at_call 197;(with_reducible refine HCI.out.mono ?_);rintro e w4 ⟨AA,cA,rfl,ownA,hbA⟩;have HI4:=HI.keep hbA;have ownA0:OwnN w4 w.heap.size AA cA av:=(own_base ownA HI.below.size);have own4:=HI4.own;have hs4:=HI4.below.size)
       | (at_builtin;refine wpList_app2 rfl _ _ rfl Tryz.underlying96 info_rchild rfl (by omega) rfl own4 (news:=[.int .i64 n,.slice AA av.length cA]) rfl rfl rfl (by simp [Value.oneCell']) (by omega) (by omega) hs4 ?_;intro A5 c5 w5 own5 hb5 hk5;have HI5:=HI4.app (⟨⟨n,av⟩,(AA,cA)⟩:KS) own5 (hb5 _ (Nat.le_refl _)) hk5 (.inr ownA0);rw [HFIN.out] at HI5;have hml2:=HI5.len;have hl5:(m ++ [(⟨⟨n,av⟩,(AA,cA)⟩:KS)]).length=m.length+1:=(by simp);rw [hl5] at hml2;have hput:=hP.putKids HI5 HOK.out;rw [← hml2] at hput;have HPUT:=Lib.hid hput;clear hput hml2;have hgc:=(hP.below HI5.below).cKd;have hgf:=(hP.below HI5.below).box.free 12))
      go_ret
      rw [HTT.out,HEz.out]
      exact HPUT.out
end
/-- The rules that were copied so far: the row,and each rule's own list. -/
structure CpR (w:World) (b:Bk) (A:Option Addr) (c:Nat) (hr:Nat→SlH) (k:Nat) (wr:World):Prop where
 own:wr.ownsRow w.heap.size 166 2 (.slice A k c) k (cells2 k (fun i=>slV (hr i) (gRl b.rules i).iff) (fun i=>.int .i64 (gRl b.rules i).thn))
 lst:∀i,i<k→OwnN wr w.heap.size (hr i).1 (hr i).2 (gRl b.rules i).iff
 below:Below w.heap.size w wr
section
variable {w wr w':World}{b:Bk}{A:Option Addr}{c k:Nat}{hr:Nat→SlH}
theorem CpR.keep (h:CpR w b A c hr k wr)(hb:Below wr.heap.size wr w'):CpR w b A c hr k w' :=
 ⟨own_below h.own hb fun x hx=>(World.ownsRow.lt h.own x hx).2,fun i hi=>own_below (h.lst i hi) hb fun x hx=>(World.ownsRow.lt (h.lst i hi) x hx).2,h.below.trans (hb.mono h.below.size)⟩
theorem CpR.app (h:CpR w b A c hr k wr)(P:SlH){A':Option Addr}{c':Nat}
  (own':w'.ownsRow w.heap.size 166 2 (.slice A' (k+1) c') (k+1) (cells2 k (fun i=>slV (hr i) (gRl b.rules i).iff) (fun i=>.int .i64 (gRl b.rules i).thn) ++ [slV P (gRl b.rules k).iff,.int .i64 (gRl b.rules k).thn]))
  (hb:Below w.heap.size wr w')
  (hk:∀(b2 e2 s2 n2:Nat) (v2:Value) (xs2:List Value),wr.ownsRow b2 e2 s2 v2 n2 xs2→e2≠166→w'.ownsRow b2 e2 s2 v2 n2 xs2)
  (hx:OwnN wr w.heap.size P.1 P.2 (gRl b.rules k).iff):CpR w b A' c' (fun i=>if i=k then P else hr i) (k+1) w':=by
 refine ⟨?_,fun i hi=>?_,h.below.trans hb⟩
 ·rw [cells2_succ]
  have e:cells2 k (fun i=>slV (if i=k then P else hr i) (gRl b.rules i).iff) (fun i=>.int .i64 (gRl b.rules i).thn)=cells2 k (fun i=>slV (hr i) (gRl b.rules i).iff) (fun i=>.int .i64 (gRl b.rules i).thn) :=
   cells2_congr (fun i hi=>by rw [if_neg (by omega)]) (fun _ _=>rfl)
  rw [e,if_pos rfl]
  exact own'
 ·by_cases e:i=k
  ·subst e
   rw [if_pos rfl]
   exact hk _ _ _ _ _ _ hx (by decide)
  ·rw [if_neg e]
   exact hk _ _ _ _ _ _ (h.lst i (by omega)) (by decide)
end
theorem rcopyRules_any (b:Bk)(hrl:b.rules.length≤1000)(hS:∀k,k<b.rules.length→(gRl b.rules k).iff.length≤1000000)(F:Nat→Prop)(A2:Option Addr)(c2:Nat)(hr:Nat→SlH)(w:World)(hR:RRl F w A2 b.rules hr) :
  Calls Tryz.prog 198 #[.slice A2 b.rules.length c2] w fun e w'=>∃A' c' hr',e=.returned (.slice A' b.rules.length c')∧CpR w b A' c' hr' b.rules.length w':=by
 have HI0:CpR w b none 0 hr 0 w:=⟨World.ownsRow_nil _ _ _ _,fun i hi=>by omega,Below.refl _ _⟩
 go_enter Tryz.func198,Tryz.ntmps198
 go_wp2_with fail
 go_loopw [3,4] (fun o x wr=>∃(k:Nat) (A:Option Addr) (c:Nat) (hr':Nat→SlH),k≤b.rules.length∧x=.int .i64 k∧o=.slice A k c∧CpR w b A c hr' k wr) (fun _ x _=>b.rules.length-(intOf x).toNat)
 case atStart=>exact ⟨0,none,0,hr,by omega,rfl,rfl,HI0⟩
 case round =>
  clear HI0
  obtain ⟨k,A,c,hr',hk,rfl,rfl,HI⟩:=hrel
  by_cases hlt:k<b.rules.length
  ·obtain ⟨ad,rfl,hab,_,d0,d1⟩:=hR.row.at_ hlt
   unfold slV at d0
   have hrk:=hR.below HI.below
   have hci:=copyInts_any (gRl b.rules k).iff (hr k).1 (hr k).2 wr.drew (show RN wr.drew (hr k).1 (gRl b.rules k).iff from (hrk.iff k hlt).rn) (hS k hlt)
   have HCI:=Lib.hid hci
   have hsz:=HI.below.size
   obtain ⟨LL,hLL⟩:∃LL,LL=(gRl b.rules k).iff:=⟨_,rfl⟩
   have HLL:=Lib.hid hLL
   rw [← hLL] at d0 HCI
   obtain ⟨TH,hTH⟩:∃TH,TH=(gRl b.rules k).thn:=⟨_,rfl⟩
   have HTH:=Lib.hid hTH
   rw [← hTH] at d1
   clear hrk hci hLL hTH
   have D0:=Lib.hid d0;have D1:=Lib.hid d1
   replace d0:=(HI.below.cell (by exact hab)).trans d0
   replace d1:=(HI.below.cell (by exact hab)).trans d1
   go_wp2_with fail
   go_region_held3 (fun w'=>w'.cell? (ad.add (k*2))=some (.slice (hr k).1 LL.length (hr k).2)∧w'.cell? ⟨(ad.add (k*2)).block,(ad.add (k*2)).off+1,none⟩=some (.int .i64 TH))
    (first | go_keep | exact ⟨k0,k1⟩ | exact ⟨m0,m1⟩)
    (first
     | (go_at_call 197;(with_reducible refine HCI.out.mono ?_);rintro e wA ⟨AA,cA,rfl,ownA,hbA⟩;have hBA:Below wr.heap.size wr wA:=(Below.refl wr.heap.size wr).drew.trans hbA;have HI4:=HI.keep hBA;have ownA0:OwnN wA w.heap.size AA cA LL:=(own_base ownA HI.below.size);have own4:=HI4.own;have hs4:=HI4.below.size;have k0:=(HI4.below.cell (by exact hab)).trans D0.out;have k1:=(HI4.below.cell (by exact hab)).trans D1.out)
     | (refine step_app2 (by rfl) _ _ (by rfl) Tryz.underlying28 info_rule' rfl (by omega) (by rfl) (World.ownsRow.alloc own4 _) (news:=[.slice AA LL.length cA,.int .i64 TH]) ⟨wA.heap.size,0,none⟩ (by rfl) (by rfl) (World.news_of_block (cs:=#[.slice AA LL.length cA,.int .i64 TH]) (t:=166) (fr:=(0,0)) (heap_alloc_new wA _)) (by simp [Value.oneCell']) (by omega) (by omega) (by have:=hs4;simp;omega) ?_;intro A7 c7 w7 own7 hb7 hk7;have hbz:=HI4.below.trans ((((Below.refl wA.heap.size wA).alloc (Nat.le_refl _) (.cells #[.slice AA LL.length cA,.int .i64 TH] 166)).mono hs4).trans (hb7 w.heap.size (Nat.le_refl _)));have m0:=(hbz.cell (by exact hab)).trans D0.out;have m1:=(hbz.cell (by exact hab)).trans D1.out))
   all_goals
    rw [HLL.out] at ownA0 own7
    rw [HTH.out] at own7
    have HI7:=HI4.app (AA,cA) own7 ((((Below.refl wA.heap.size wA).alloc (Nat.le_refl _) _).mono hs4).trans (hb7 w.heap.size (Nat.le_refl _))) (fun b2 e2 s2 n2 v2 xs2 ho he=>hk7 _ _ _ _ _ _ (World.ownsRow.alloc ho _) he) ownA0
    go_wp2_with fail
    go_roundw
    case rel=>exact ⟨k+1,A7,c7,_,by omega,by go_num,rfl,HI7⟩
    case measure=>simp [intOf];omega
  ·obtain rfl:k=b.rules.length:=by omega
   go_wp2_with fail
   go_ret
   exact ⟨A,c,hr',rfl,HI⟩
end Go.Proofs.YtiapkffihpgdcaaGreatDoor
