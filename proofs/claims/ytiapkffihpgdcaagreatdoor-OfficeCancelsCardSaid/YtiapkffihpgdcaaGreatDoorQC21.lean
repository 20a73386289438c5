import Derived.Test.YtiapkffihpgdcaaGreatDoorQC12
import Derived.Test.YtiapkffihpgdcaaGreatDoorQC14
import Derived.Test.YtiapkffihpgdcaaGreatDoorQC18
import Derived.Test.YtiapkffihpgdcaaGreatDoorQC20
set_option linter.unusedVariables false
set_option linter.unusedSimpArgs false
set_option maxRecDepth 100000
set_option maxHeartbeats 4000000
namespace Go.Proofs.YtiapkffihpgdcaaGreatDoor
open Go.RowKit Go.Sort
theorem RN.of_box {w:World}{g:Nat}{l:List Int}(h:Box w g (ints l).toArray):RN w (some ⟨g,0,none⟩) l:=by
 refine ⟨by simp [ints],fun _=>⟨_,rfl,h.lt,fun j u hu=>?_⟩⟩
 have:=h.cell j
 rw [gqA,hu] at this
 have e:(⟨g,0,none⟩:Addr).add j=⟨g,j,none⟩:=by cases j <;> simp [Addr.add]
 rw [e];exact this
theorem prices_ok:bG prices 1440=true:=by decide
section
variable {L:Int}{N:Nat}{w:World}{F:Nat→Prop}{g:Nat}{h:Hd}{s:Of}
theorem pay_due (hs:OfOk s){c:Int}(hc:hasK s.kids c=true){d:Nat}(hd:d<s.days):payE s.facts s.rights prices 1440 c d=0∧payR s.facts s.rights prices 1440 c d=payI s.facts s.rights prices 1440 c d:=by
 obtain ⟨x,hx,hn⟩:=(hasK_iff _ _).1 hc
 have h1:=hs.kn x hx
 have h2:=days_le hs.tm
 have hb:bEO s.facts s.rights prices 1440=0:=by
  unfold bEO
  rw [if_neg (by rw [hs.fv];decide),if_neg (by rw [hs.rv];decide),if_pos prices_ok]
 have he:payE s.facts s.rights prices 1440 c d=0:=by
  unfold payE
  rw [if_neg (by rw [hb];decide),if_pos (by rw [Bool.and_eq_true,inB_true,inB_true];have:s.days=s.days:=rfl;omega)]
 exact ⟨he,by unfold payR;rw [if_pos he]⟩
theorem dueTo_bd (hs:OfOk s)(c:Int):∀k,0≤dueTo s c k∧dueTo s c k≤10000*k
 | 0=>⟨Int.le_refl _,Int.le_refl _⟩
 | k+1=>by
  have:=dueTo_bd hs c k
  have h2:=payI_bd (Vld.of hs.fv) (r:=s.rights) prices_ok c k
  unfold dueTo
  split <;> omega
theorem dueTo_yes {c:Int}{k:Nat}(h:s.opn k=true):dueTo s c (k+1)=dueTo s c k+payI s.facts s.rights prices 1440 c k:=by
 show dueTo s c k+(if s.opn k then _ else 0)=_
 rw [if_pos h]
theorem dueTo_no {c:Int}{k:Nat}(h:s.opn k=false):dueTo s c (k+1)=dueTo s c k:=by
 show dueTo s c k+(if s.opn k then _ else 0)=_
 rw [if_neg (by rw [h];decide)];exact Int.add_zero _
theorem odue_any (hP:PO L N w F g h s)(c:Int) :
  Calls Tryz.prog 91 #[.pointer (some ⟨g,0,none⟩),.int .i64 c] w fun e w'=>e=.returned (.tuple #[.int .i64 (dueR s c),.int .i64 (dueE s c)])∧Below w.heap.size w w':=by
 have hcon:=child_any hP c
 have hgl:=hP.gl
 have hmk:∀w,(Instr.makeSlice 22 (.int .i64 9) (.int .i64 9)).run Tryz.prog w=.ok (.slice (some ⟨w.heap.size,0,none⟩) 9 9) (w.alloc (.cells #[.int .i64 0,.int .i64 0,.int .i64 0,.int .i64 0,.int .i64 0,.int .i64 0,.int .i64 0,.int .i64 0,.int .i64 0] 3)):=fun w=>by kernel_rfl
 cases hc:hasK s.kids c with
 | false =>
  have h1:dueE s c=5:=by unfold dueE;rw [if_neg (by rw [hc];decide)]
  have h2:dueR s c=0:=by unfold dueR;rw [if_neg (by rw [hc];decide)]
  have hk:=kix_none hc
  rw [h1,h2]
  rw [hk] at hcon
  have HC:=Lib.hid hcon
  clear h1 h2 hk hcon hc
  go_enter Tryz.func91,Tryz.ntmps91
  go_wp2_with (go_at_call 173;(with_reducible refine HC.out.mono ?_);rintro e w2 ⟨rfl,hb2⟩)
  go_ret2
  exact ⟨rfl,hb2⟩
 | true =>
  obtain ⟨i,hi,hix,_,_⟩:=kix_some hc
  have h1:dueE s c=0:=by unfold dueE;rw [if_pos hc]
  have h2:dueR s c=dueTo s c s.days:=by unfold dueR;rw [if_pos hc]
  rw [h1,h2]
  rw [hix] at hcon
  have HC:=Lib.hid hcon
  have hi0:decide ((i:Int)<0)=false:=by rw [decide_eq_false_iff_not];omega
  have hpay:=fun (d:Nat) (hd:d<s.days)=>pay_due hP.ok hc hd
  have HPAY:=Lib.hid hpay
  have hdl:=days_le hP.ok.tm
  have qM:=hP.cMn
  rw [mnL_len] at qM
  clear h1 h2 hix hcon hc hpay
  go_enter Tryz.func91,Tryz.ntmps91
  go_wp2_with (go_at_call 173;(with_reducible refine HC.out.mono ?_);rintro e w2 ⟨rfl,hb2⟩;have qM2:=(hP.below hb2).cMn;rw [mnL_len] at qM2;have hg2:=(hP.below hb2).gl)
  obtain ⟨w4,hw4⟩:∃w4,w4=w2.alloc (.cells #[.int .i64 100,.int .i64 0,.int .i64 0,.int .i64 0,.int .i64 0,.int .i64 0,.int .i64 0,.int .i64 0,.int .i64 0] 3):=⟨_,rfl⟩
  have b4:Box w4 w2.heap.size (ints prices).toArray:=by rw [hw4];exact Box.new w2 _ _
  have hb4:Below w.heap.size w w4:=by rw [hw4];exact hb2.alloc hb2.size _
  have hr4:=RN.of_box b4
  rw [← hw4]
  clear hw4 qM2 hmk
  go_loopw [7,23] (fun n x wr=>∃k:Nat,k≤s.days∧n=.int .i64 (dueTo s c k)∧x=.int .i64 k∧Below w4.heap.size w4 wr) (fun _ x _=>s.days-(intOf x).toNat)
  case atStart=>exact ⟨0,by omega,rfl,rfl,Below.refl _ _⟩
  case round =>
   obtain ⟨k,hk,rfl,rfl,hbl⟩:=hrel
   have hbw:Below w.heap.size w wr:=hb4.trans (hbl.mono hb4.size)
   have hPr:=hP.below hbw
   have hsz:=hbw.size
   by_cases hlt:k<s.days
   ·have hco:=opn_any hPr k
    have hbd:=dueTo_bd hP.ok c k
    obtain ⟨S,hS⟩:∃S,S=dueTo s c k:=⟨_,rfl⟩
    rw [← hS] at hbd
    cases ho:s.opn k with
    | false =>
     rw [ho] at hco
     have HCO:=Lib.hid hco
     have hn:=dueTo_no (c:=c) ho
     rw [← hS] at hn ⊢
     have HN:=Lib.hid hn
     clear hco hn hS ho
     go_wp2_with (go_at_call 174;(with_reducible refine HCO.out.mono ?_);rintro e w5 ⟨rfl,hw5⟩;have hw6:=hw5.symm;clear hw5;subst hw6)
     go_roundw
     case rel=>exact ⟨k+1,by omega,by rw [HN.out],by go_num,hbl⟩
     case measure=>simp [intOf];omega
    | true =>
     rw [ho] at hco
     have HCO:=Lib.hid hco
     have hn:=dueTo_yes (c:=c) ho
     obtain ⟨hp1,hp2⟩:=HPAY.out k hlt
     have hpb:=payI_bd (Vld.of hP.ok.fv) (r:=s.rights) prices_ok c k
     have hcp:=fun d' os=>payX_any s.facts s.rights prices 1440 c k (by have:=hP.ok.fl;omega) (by have:=hP.ok.rl;omega) (by decide) h.fa.1 h.ri.1 (some ⟨w2.heap.size,0,none⟩) h.fa.2 h.ri.2 9 _ hP.fc (grow (redrawn wr d') os) (hPr.rf.below (below_regrown wr d' os)) (Reads.below' hPr.ri.1 (below_regrown wr d' os) (Nat.le_refl _) |>.more (below_regrown wr d' os).size) ((hr4.below hbl).below (below_regrown wr d' os))
     rw [hp1,hp2] at hcp
     obtain ⟨P,hPP⟩:∃P,P=payI s.facts s.rights prices 1440 c k:=⟨_,rfl⟩
     rw [← hPP] at hcp hpb hn
     rw [← hS] at hn ⊢
     have HN:=Lib.hid hn
     have cA:∀d' os,Calls Tryz.prog 175 #[.slice h.fa.1 s.facts.length h.fa.2,.slice h.ri.1 s.rights.length h.ri.2,.slice (some ⟨w2.heap.size,0,none⟩) 9 9,.int .i64 1440,.int .i64 c,.int .i64 k] (grow (redrawn wr d') os) fun e w''=>e=.returned (.tuple #[.int .i64 P,.int .i64 0])∧∃p:Regrown,w''=grow (redrawn wr p.d) p.os:=fun d' os =>
      Calls.regrown_of (hcp d' os)
     have k0:=cell_regrown hPr.cFa;have k1:=cell_regrown hPr.cRi
     clear hco hn hS ho hp1 hp2 hcp hPP
     go_wp2_with (go_at_call 174;(with_reducible refine HCO.out.mono ?_);rintro e w5 ⟨rfl,hw5⟩;have hw6:=hw5.symm;clear hw5;subst hw6)
     refine wp_region_quiet_below (by kernel_rfl) (by kernel_rfl) ?_
     repeat (go_big_quiet_step (first | with_reducible exact cA _ _))
     refine wpQuiet_nil ?_
     intro _ hw'
     obtain ⟨⟨dq,osq⟩,hw''⟩:=hw'
     subst hw''
     go_wp2_with fail
     go_roundw
     case rel=>exact ⟨k+1,by omega,by rw [HN.out],by go_num,hbl.trans ((below_regrown wr dq osq).mono hbl.size)⟩
     case measure=>simp [intOf];omega
   ·obtain rfl:k=s.days:=by omega
    go_wp2_with fail
    go_ret2
    exact ⟨rfl,hbw⟩
end
end Go.Proofs.YtiapkffihpgdcaaGreatDoor
namespace Go.Proofs.YtiapkffihpgdcaaGreatDoor
open Go.RowKit Go.MuLone
theorem Box.setg {w:World}{k g j:Nat}{v:Value}{cs:Array Value}(hb:Box w k cs)(hk:k≠g):Box (w.setCell ⟨g,j,none⟩ v) k cs :=
 hb.kept (F:=fun k=>k≠g) ⟨by rw [set_size];exact Nat.le_refl _,fun k hk _=>set_other _ _ _ _ hk⟩ hk
theorem below_set_both {B:Nat}{a b:World}(h:Below B a b)(p:Addr)(v:Value):Below B (a.setCell p v) (b.setCell p v) :=
 ⟨h.os,h.tape,h.output,by rw [set_size,set_size];exact h.size,fun k hk=>by simp [World.setCell,Array.getElem?_modify,h.block k hk]⟩
/-- Below the low blocks all is as it was,when the lock is let go. -/
theorem lock_low {w wA w2 wW:World}{g:Nat}(h0:wA.cell? ⟨g,0,none⟩=some (.int .i32 0))(hA:Below w.heap.size w wA)(h2:Below wA.heap.size (wA.setCell ⟨g,0,none⟩ (.int .i32 1)) w2)(hW:Below w.heap.size w2 wW) :
  Below w.heap.size w (wW.setCell ⟨g,0,none⟩ (.int .i32 0)) :=
 (hA.trans ((lock_restore h0 rfl (by rw [set_size];exact h2)).mono hA.size)).trans (below_set_both hW _ _)
theorem lockedSv_any {N:Nat}{w:World}{F:Nat→Prop}{g:Nat}{h:Hd}{s:Of}(hP:PO 0 N w F g h s){K:FuncId}{caps:Array Value}{E:Int}(a b c d:Int)(hK:∀args w,(callFunc K args).run Tryz.prog w=.ok (.enter K args) w)
  (hC:∀wx,Below w.heap.size w wx→Calls Tryz.prog K caps (wx.setCell ⟨g,0,none⟩ (.int .i32 1)) fun e w'=>e=.returned (.tuple #[.agg #[.int .i64 a,.int .i64 b,.int .i64 c,.int .i64 d],.int .i64 E])∧Below wx.heap.size (wx.setCell ⟨g,0,none⟩ (.int .i32 1)) w') :
  Calls Tryz.prog 114 #[.pointer (some ⟨g,0,none⟩),.func (.func K) #[] caps] w fun e w'=>e=.returned (.tuple #[if E=0 then .agg #[.int .i64 a,.int .i64 b,.int .i64 c,.int .i64 d] else .agg #[.int .i64 0,.int .i64 0,.int .i64 0,.int .i64 0],.int .i64 E])∧Below w.heap.size w w':=by
 obtain ⟨wA,hwA⟩:∃wA,(w.alloc (.cells #[.int .i64 0,.int .i64 0,.int .i64 0,.int .i64 0] 180)).alloc (.cells #[.int .i64 0,.int .i64 0,.int .i64 0,.int .i64 0] 180)=wA:=⟨_,rfl⟩
 have hbA:Below w.heap.size w wA:=by rw [← hwA];exact ((Below.refl _ w).alloc (Nat.le_refl _) _).alloc (by simp) _
 have bR:Box wA w.heap.size #[.int .i64 0,.int .i64 0,.int .i64 0,.int .i64 0]:=by rw [← hwA];exact (Box.new w _ _).alloc _
 have bZ:Box wA (w.heap.size+1) #[.int .i64 0,.int .i64 0,.int .i64 0,.int .i64 0]:=by rw [← hwA];exact (Box.new (w.alloc _) _ _).at' (by simp)
 have hPA:=hP.below hbA
 have h0:=hPA.cLk
 have f0:=hPA.box.free 0
 have hgl:=hP.gl
 have hgA:=hPA.gl
 have HC:=Lib.hid (hC wA hbA)
 have hlt1:=bR.lt
 have hlt2:=bZ.lt
 clear hC
 by_cases hE:E=0
 ·have hE':(E != 0)=false:=by simp [hE]
  have HE:=Lib.hid hE;clear hE
  go_enter_defers Tryz.func114,Tryz.ntmps114
  go_wp2_with (first | (go_at_call 78;refine (lock_free muLib ⟨g,0,none⟩ _ h0 f0).mono ?_;rintro e w' ⟨rfl,rfl⟩))
  refine HC.out.mono ?_
  rintro e w2 ⟨rfl,hb2⟩
  have hg2:g<w2.heap.size:=Nat.lt_of_lt_of_le hgA (by have:=hb2.size;rw [set_size] at this;exact this)
  have c2:w2.cell? ⟨g,0,none⟩=some (.int .i32 1):=(hb2.cell (p:=⟨g,0,none⟩) hgA).trans (World.cell?_setCell_same wA ⟨g,0,none⟩ (.int .i32 1) h0)
  have f2:w2.frozen? ⟨g,0,none⟩=false:=(hb2.frozen (p:=⟨g,0,none⟩) hgA).trans (by rw [World.frozen?_setCell];exact f0)
  have bR2:Box w2 w.heap.size #[.int .i64 0,.int .i64 0,.int .i64 0,.int .i64 0]:=(bR.setg (g:=g) (j:=0) (v:=.int .i32 1) (by omega)).below (by rw [set_size];exact hb2)
  have bZ2:Box w2 (w.heap.size+1) #[.int .i64 0,.int .i64 0,.int .i64 0,.int .i64 0]:=(bZ.setg (g:=g) (j:=0) (v:=.int .i32 1) (by omega)).below (by rw [set_size];exact hb2)
  have hl2:=bR2.lt
  have hl3:=bZ2.lt
  have q0:=bR2.cell 0;have q1:=bR2.cell 1;have q2:=bR2.cell 2;have q3:=bR2.cell 3
  have z0:=bZ2.cell 0;have z1:=bZ2.cell 1;have z2:=bZ2.cell 2;have z3:=bZ2.cell 3
  simp only [gqA,gqB,gqC] at q0 q1 q2 q3 z0 z1 z2 z3
  have q0':=fun (o:Obj)=>(World.cell?_alloc_lt w2 o ⟨w.heap.size,0,none⟩ (show w.heap.size<w2.heap.size by omega)).trans q0
  have q1':=fun (o:Obj)=>(World.cell?_alloc_lt w2 o ⟨w.heap.size,1,none⟩ (show w.heap.size<w2.heap.size by omega)).trans q1
  have q2':=fun (o:Obj)=>(World.cell?_alloc_lt w2 o ⟨w.heap.size,2,none⟩ (show w.heap.size<w2.heap.size by omega)).trans q2
  have q3':=fun (o:Obj)=>(World.cell?_alloc_lt w2 o ⟨w.heap.size,3,none⟩ (show w.heap.size<w2.heap.size by omega)).trans q3
  have z0':=fun (o:Obj)=>(World.cell?_alloc_lt w2 o ⟨w.heap.size+1,0,none⟩ (show w.heap.size+1<w2.heap.size by omega)).trans z0
  have z1':=fun (o:Obj)=>(World.cell?_alloc_lt w2 o ⟨w.heap.size+1,1,none⟩ (show w.heap.size+1<w2.heap.size by omega)).trans z1
  have z2':=fun (o:Obj)=>(World.cell?_alloc_lt w2 o ⟨w.heap.size+1,2,none⟩ (show w.heap.size+1<w2.heap.size by omega)).trans z2
  have z3':=fun (o:Obj)=>(World.cell?_alloc_lt w2 o ⟨w.heap.size+1,3,none⟩ (show w.heap.size+1<w2.heap.size by omega)).trans z3
  have fq0:=bR2.free 0;have fq1:=bR2.free 1;have fq2:=bR2.free 2;have fq3:=bR2.free 3
  clear h0 f0 hwA
  go_wp2_with fail
  have bW:Box (((((w2.setCell ⟨w.heap.size,0,none⟩ (.int .i64 a)).setCell ⟨w.heap.size,1,none⟩ (.int .i64 b)).setCell ⟨w.heap.size,2,none⟩ (.int .i64 c)).setCell ⟨w.heap.size,3,none⟩ (.int .i64 d)).alloc (.cells #[.int .i64 a,.int .i64 b,.int .i64 c,.int .i64 d] 180)) w.heap.size #[.int .i64 a,.int .i64 b,.int .i64 c,.int .i64 d] :=
   ((((bR2.set 0 (.int .i64 a) (by simp)).set 1 (.int .i64 b) (by simp)).set 2 (.int .i64 c) (by simp)).set 3 (.int .i64 d) (by simp)).alloc _
  have hbW:Below w.heap.size w2 (((((w2.setCell ⟨w.heap.size,0,none⟩ (.int .i64 a)).setCell ⟨w.heap.size,1,none⟩ (.int .i64 b)).setCell ⟨w.heap.size,2,none⟩ (.int .i64 c)).setCell ⟨w.heap.size,3,none⟩ (.int .i64 d)).alloc (.cells #[.int .i64 a,.int .i64 b,.int .i64 c,.int .i64 d] 180)) :=
   (((((Below.refl _ w2).setCell (p:=⟨w.heap.size,0,none⟩) (Nat.le_refl _) _).setCell (p:=⟨w.heap.size,1,none⟩) (Nat.le_refl _) _).setCell (p:=⟨w.heap.size,2,none⟩) (Nat.le_refl _) _).setCell (p:=⟨w.heap.size,3,none⟩) (Nat.le_refl _) _).alloc (by simp [World.setCell];omega) _
  generalize (((((w2.setCell ⟨w.heap.size,0,none⟩ (.int .i64 a)).setCell ⟨w.heap.size,1,none⟩ (.int .i64 b)).setCell ⟨w.heap.size,2,none⟩ (.int .i64 c)).setCell ⟨w.heap.size,3,none⟩ (.int .i64 d)).alloc (.cells #[.int .i64 a,.int .i64 b,.int .i64 c,.int .i64 d] 180))=wW at bW hbW ⊢
  have cW:=(hbW.cell (p:=⟨g,0,none⟩) hgl).trans c2
  have fW:=(hbW.frozen (p:=⟨g,0,none⟩) hgl).trans f2
  have hB:=lock_low hPA.cLk hbA hb2 hbW
  refine leaves_cons (f:=79) (args:=#[.pointer (some ⟨g,0,none⟩)]) (by simp) (by simp [go_sem]) ?_
  refine (unlock_deferred muLib ⟨g,0,none⟩ .returning _ cW fW).mono ?_
  rintro e u' w'' ⟨rfl,rfl,rfl⟩
  have bE:=bW.setg (g:=g) (j:=0) (v:=.int .i32 0) (by omega)
  have y0:=bE.cell 0;have y1:=bE.cell 1;have y2:=bE.cell 2;have y3:=bE.cell 3
  simp only [gqA,gqB,gqC] at y0 y1 y2 y3
  refine ⟨.tuple #[.agg #[.int .i64 a,.int .i64 b,.int .i64 c,.int .i64 d],.int .i64 0],?_,by first | rfl | (rw [if_pos HE.out,HE.out]),hB⟩
  rw [results_cell_tmp rfl]
  go_simp
 ·have hE':(E != 0)=true:=by simp [hE]
  have HE:=Lib.hid hE;clear hE
  go_enter_defers Tryz.func114,Tryz.ntmps114
  go_wp2_with (first | (go_at_call 78;refine (lock_free muLib ⟨g,0,none⟩ _ h0 f0).mono ?_;rintro e w' ⟨rfl,rfl⟩))
  refine HC.out.mono ?_
  rintro e w2 ⟨rfl,hb2⟩
  have hg2:g<w2.heap.size:=Nat.lt_of_lt_of_le hgA (by have:=hb2.size;rw [set_size] at this;exact this)
  have c2:w2.cell? ⟨g,0,none⟩=some (.int .i32 1):=(hb2.cell (p:=⟨g,0,none⟩) hgA).trans (World.cell?_setCell_same wA ⟨g,0,none⟩ (.int .i32 1) h0)
  have f2:w2.frozen? ⟨g,0,none⟩=false:=(hb2.frozen (p:=⟨g,0,none⟩) hgA).trans (by rw [World.frozen?_setCell];exact f0)
  have bR2:Box w2 w.heap.size #[.int .i64 0,.int .i64 0,.int .i64 0,.int .i64 0]:=(bR.setg (g:=g) (j:=0) (v:=.int .i32 1) (by omega)).below (by rw [set_size];exact hb2)
  have bZ2:Box w2 (w.heap.size+1) #[.int .i64 0,.int .i64 0,.int .i64 0,.int .i64 0]:=(bZ.setg (g:=g) (j:=0) (v:=.int .i32 1) (by omega)).below (by rw [set_size];exact hb2)
  have hl2:=bR2.lt
  have hl3:=bZ2.lt
  have q0:=bR2.cell 0;have q1:=bR2.cell 1;have q2:=bR2.cell 2;have q3:=bR2.cell 3
  have z0:=bZ2.cell 0;have z1:=bZ2.cell 1;have z2:=bZ2.cell 2;have z3:=bZ2.cell 3
  simp only [gqA,gqB,gqC] at q0 q1 q2 q3 z0 z1 z2 z3
  have q0':=fun (o:Obj)=>(World.cell?_alloc_lt w2 o ⟨w.heap.size,0,none⟩ (show w.heap.size<w2.heap.size by omega)).trans q0
  have q1':=fun (o:Obj)=>(World.cell?_alloc_lt w2 o ⟨w.heap.size,1,none⟩ (show w.heap.size<w2.heap.size by omega)).trans q1
  have q2':=fun (o:Obj)=>(World.cell?_alloc_lt w2 o ⟨w.heap.size,2,none⟩ (show w.heap.size<w2.heap.size by omega)).trans q2
  have q3':=fun (o:Obj)=>(World.cell?_alloc_lt w2 o ⟨w.heap.size,3,none⟩ (show w.heap.size<w2.heap.size by omega)).trans q3
  have z0':=fun (o:Obj)=>(World.cell?_alloc_lt w2 o ⟨w.heap.size+1,0,none⟩ (show w.heap.size+1<w2.heap.size by omega)).trans z0
  have z1':=fun (o:Obj)=>(World.cell?_alloc_lt w2 o ⟨w.heap.size+1,1,none⟩ (show w.heap.size+1<w2.heap.size by omega)).trans z1
  have z2':=fun (o:Obj)=>(World.cell?_alloc_lt w2 o ⟨w.heap.size+1,2,none⟩ (show w.heap.size+1<w2.heap.size by omega)).trans z2
  have z3':=fun (o:Obj)=>(World.cell?_alloc_lt w2 o ⟨w.heap.size+1,3,none⟩ (show w.heap.size+1<w2.heap.size by omega)).trans z3
  have fq0:=bR2.free 0;have fq1:=bR2.free 1;have fq2:=bR2.free 2;have fq3:=bR2.free 3
  clear h0 f0 hwA
  go_wp2_with fail
  have bW:Box (((((w2.setCell ⟨w.heap.size,0,none⟩ (.int .i64 0)).setCell ⟨w.heap.size,1,none⟩ (.int .i64 0)).setCell ⟨w.heap.size,2,none⟩ (.int .i64 0)).setCell ⟨w.heap.size,3,none⟩ (.int .i64 0)).alloc (.cells #[.int .i64 a,.int .i64 b,.int .i64 c,.int .i64 d] 180)) w.heap.size #[.int .i64 0,.int .i64 0,.int .i64 0,.int .i64 0] :=
   ((((bR2.set 0 (.int .i64 0) (by simp)).set 1 (.int .i64 0) (by simp)).set 2 (.int .i64 0) (by simp)).set 3 (.int .i64 0) (by simp)).alloc _
  have hbW:Below w.heap.size w2 (((((w2.setCell ⟨w.heap.size,0,none⟩ (.int .i64 0)).setCell ⟨w.heap.size,1,none⟩ (.int .i64 0)).setCell ⟨w.heap.size,2,none⟩ (.int .i64 0)).setCell ⟨w.heap.size,3,none⟩ (.int .i64 0)).alloc (.cells #[.int .i64 a,.int .i64 b,.int .i64 c,.int .i64 d] 180)) :=
   (((((Below.refl _ w2).setCell (p:=⟨w.heap.size,0,none⟩) (Nat.le_refl _) _).setCell (p:=⟨w.heap.size,1,none⟩) (Nat.le_refl _) _).setCell (p:=⟨w.heap.size,2,none⟩) (Nat.le_refl _) _).setCell (p:=⟨w.heap.size,3,none⟩) (Nat.le_refl _) _).alloc (by simp [World.setCell];omega) _
  generalize (((((w2.setCell ⟨w.heap.size,0,none⟩ (.int .i64 0)).setCell ⟨w.heap.size,1,none⟩ (.int .i64 0)).setCell ⟨w.heap.size,2,none⟩ (.int .i64 0)).setCell ⟨w.heap.size,3,none⟩ (.int .i64 0)).alloc (.cells #[.int .i64 a,.int .i64 b,.int .i64 c,.int .i64 d] 180))=wW at bW hbW ⊢
  have cW:=(hbW.cell (p:=⟨g,0,none⟩) hgl).trans c2
  have fW:=(hbW.frozen (p:=⟨g,0,none⟩) hgl).trans f2
  have hB:=lock_low hPA.cLk hbA hb2 hbW
  refine leaves_cons (f:=79) (args:=#[.pointer (some ⟨g,0,none⟩)]) (by simp) (by simp [go_sem]) ?_
  refine (unlock_deferred muLib ⟨g,0,none⟩ .returning _ cW fW).mono ?_
  rintro e u' w'' ⟨rfl,rfl,rfl⟩
  have bE:=bW.setg (g:=g) (j:=0) (v:=.int .i32 0) (by omega)
  have y0:=bE.cell 0;have y1:=bE.cell 1;have y2:=bE.cell 2;have y3:=bE.cell 3
  simp only [gqA,gqB,gqC] at y0 y1 y2 y3
  refine ⟨.tuple #[.agg #[.int .i64 0,.int .i64 0,.int .i64 0,.int .i64 0],.int .i64 E],?_,by first | rfl | (rw [if_neg HE.out]),hB⟩
  rw [results_cell_tmp rfl]
  go_simp
theorem results_tmp5 {fn:Func}{a b c d e:Tmp}(h:fn.results=#[.tmp a,.tmp b,.tmp c,.tmp d,.tmp e])(tmps:Array Value)(P:Program)(w:World) :
  (results fn tmps).run P w=.ok (.tuple #[tmps.getD a undef,tmps.getD b undef,tmps.getD c undef,tmps.getD d undef,tmps.getD e undef]) w:=by
 simp only [results,h]
 simp [Sem.run_bind,Result.andThen]
theorem RetL.plain {E:Int}{Z V:Value}{g:Nat}{w:World}{Q:Value→World→Prop}{e:Ending}{w':World}(h:RetL E Z g w Q e w')(hQ:∀v x,Q v x→v=V)(hZ:E≠0→V=Z):e=.returned (.tuple #[V,.int .i64 E])∧Below w.heap.size w w':=by
 obtain ⟨v,w2,he,hq,_,_,hb⟩:=h
 refine ⟨?_,hb⟩
 rw [he,hQ v w2 hq]
 by_cases hE:E=0
 ·rw [if_pos hE]
 ·rw [if_neg hE,hZ hE]
section
variable {L:Int}{N:Nat}{w:World}{F:Nat→Prop}{g:Nat}{h:Hd}{s:Of}
theorem cDue_any (hP:PO L N w F g h s)(c:Int){b1 b2:Nat}(x1:w.cell? ⟨b1,0,none⟩=some (.pointer (some ⟨g,0,none⟩)))(x2:w.cell? ⟨b2,0,none⟩=some (.int .i64 c)) :
  Calls Tryz.prog 90 #[.pointer (some ⟨b1,0,none⟩),.pointer (some ⟨b2,0,none⟩)] w fun e w'=>e=.returned (.tuple #[.int .i64 (dueR s c),.int .i64 (dueE s c)])∧Below w.heap.size w w':=by
 have HC:=Lib.hid (odue_any hP c)
 go_enter Tryz.func90,Tryz.ntmps90
 go_wp2_with (go_at_call 91;(with_reducible refine HC.out.mono ?_);rintro e w2 ⟨rfl,hb2⟩)
 go_ret2
 exact ⟨rfl,hb2⟩
theorem cServed_any (hP:PO L N w F g h s)(d:Int){b1 b2:Nat}(x1:w.cell? ⟨b1,0,none⟩=some (.pointer (some ⟨g,0,none⟩)))(x2:w.cell? ⟨b2,0,none⟩=some (.int .i64 d))(l1:b1<w.heap.size)(l2:b2<w.heap.size) :
  Calls Tryz.prog 115 #[.pointer (some ⟨b1,0,none⟩),.pointer (some ⟨b2,0,none⟩)] w fun e w'=>e=.returned (.tuple #[svV s d,.int .i64 (svdE s d)])∧Below w.heap.size w w':=by
 obtain ⟨w2,hw2⟩:∃w2,w.alloc (.cells #[.int .i64 0,.int .i64 0,.int .i64 0,.int .i64 0] 180)=w2:=⟨_,rfl⟩
 have hb2:Below w.heap.size w w2:=by rw [← hw2];exact (Below.refl _ w).alloc (Nat.le_refl _) _
 have b2':Box w2 w.heap.size #[.int .i64 0,.int .i64 0,.int .i64 0,.int .i64 0]:=by rw [← hw2];exact Box.new w _ _
 have hs2:=b2'.lt
 have y1:=(hb2.cell (p:=⟨b1,0,none⟩) l1).trans x1
 have y2:=(hb2.cell (p:=⟨b2,0,none⟩) l2).trans x2
 have hc:=oserved_any (hP.below hb2) d
 obtain ⟨a1,a2,a3,a4,hv⟩:∃a1 a2 a3 a4,svV s d=.agg #[.int .i64 a1,.int .i64 a2,.int .i64 a3,.int .i64 a4]:=⟨_,_,_,_,rfl⟩
 rw [hv] at hc ⊢
 have HC:=Lib.hid hc
 clear hc hv
 go_enter Tryz.func115,Tryz.ntmps115
 go_wp2_with (go_at_call 116;(with_reducible refine HC.out.mono ?_);rintro e w3 ⟨rfl,hb3⟩;have b3:=b2'.below hb3;have q0:=b3.cell 0;have q1:=b3.cell 1;have q2:=b3.cell 2;have q3:=b3.cell 3;have f0:=b3.free 0;have f1:=b3.free 1;have f2:=b3.free 2;have f3:=b3.free 3;simp only [gqA,gqB,gqC] at q0 q1 q2 q3)
 (try simp only [Exit.inBlock,Exit.then])
 refine bodyPost_ret (v:=.tuple #[.agg #[.int .i64 a1,.int .i64 a2,.int .i64 a3,.int .i64 a4],.int .i64 (svdE s d)]) ?_ rfl ⟨rfl,?_⟩
 ·rw [results_cell_tmp rfl]
  go_simp
 ·exact ((((hb2.trans (hb3.mono hb2.size)).setCell (p:=⟨w.heap.size,0,none⟩) (Nat.le_refl _) _).setCell (p:=⟨w.heap.size,1,none⟩) (Nat.le_refl _) _).setCell (p:=⟨w.heap.size,2,none⟩) (Nat.le_refl _) _).setCell (p:=⟨w.heap.size,3,none⟩) (Nat.le_refl _) _
end
section
variable {N:Nat}{w:World}{F:Nat→Prop}{g:Nat}{h:Hd}{s:Of}
theorem Due_any (hP:PO 0 N w F g h s)(c:Int) :
  Calls Tryz.prog 29 #[.pointer (some ⟨g,0,none⟩),.int .i64 c] w fun e w'=>e=.returned (.tuple #[.int .i64 (dueR s c),.int .i64 (dueE s c)])∧Below w.heap.size w w':=by
 obtain ⟨w2,hw2⟩:∃w2,(w.alloc (.cells #[.pointer (some ⟨g,0,none⟩)] 35)).alloc (.cells #[.int .i64 c] 3)=w2:=⟨_,rfl⟩
 have hb2:Below w.heap.size w w2:=by rw [← hw2];exact ((Below.refl _ w).alloc (Nat.le_refl _) _).alloc (by simp) _
 have b1:Box w2 w.heap.size #[.pointer (some ⟨g,0,none⟩)]:=by rw [← hw2];exact (Box.new w _ _).alloc _
 have b2:Box w2 (w.heap.size+1) #[.int .i64 c]:=by rw [← hw2];exact (Box.new (w.alloc _) _ _).at' (by simp)
 have x1:=b1.cell 0
 simp only [gqA,gqB,gqC] at x1
 have hP2:=hP.below hb2
 have hgl:=hP.gl
 have hK:∀args w,(callFunc 90 args).run Tryz.prog w=.ok (.enter 90 args) w:=enters_of Tryz.func90 (by kernel_rfl) rfl
 have hR:dueE s c≠0→dueR s c=0:=fun hn=>by unfold dueR;unfold dueE at hn;split at hn <;> simp_all
 have hcl:=lockedInt_any hP2 (K:=90) (caps:=#[.pointer (some ⟨w.heap.size,0,none⟩),.pointer (some ⟨w.heap.size+1,0,none⟩)]) (E:=dueE s c) (Q:=fun v _=>v=.int .i64 (dueR s c)) hK
  ((cDue_any (hP2.lock rfl) c ((b1.setg (by omega)).cell 0) ((b2.setg (by omega)).cell 0)).mono fun e w' hh=>⟨_,hh.1,rfl,by have:=hh.2;rw [set_size] at this;exact this⟩)
 have HC:=Lib.hid (hcl.mono fun e w' hh=>hh.plain (V:=.int .i64 (dueR s c)) (fun _ _ hv=>hv) fun hn=>by rw [hR hn])
 clear hcl hK
 go_enter Tryz.func29,Tryz.ntmps29
 go_wp2_with (go_at_call 70;(with_reducible refine HC.out.mono ?_);rintro e w3 ⟨rfl,hb3⟩)
 go_ret2
 exact ⟨rfl,hb2.trans (hb3.mono hb2.size)⟩
theorem Served_any (hP:PO 0 N w F g h s)(d:Int) :
  Calls Tryz.prog 46 #[.pointer (some ⟨g,0,none⟩),.int .i64 d] w fun e w'=>e=.returned (.tuple #[.int .i64 (ckd s d),.int .i64 (etn s d),.int .i64 (wst s d),.int .i64 (mis s d),.int .i64 (svdE s d)])∧Below w.heap.size w w':=by
 obtain ⟨w2,hw2⟩:∃w2,(w.alloc (.cells #[.pointer (some ⟨g,0,none⟩)] 35)).alloc (.cells #[.int .i64 d] 3)=w2:=⟨_,rfl⟩
 have hb2:Below w.heap.size w w2:=by rw [← hw2];exact ((Below.refl _ w).alloc (Nat.le_refl _) _).alloc (by simp) _
 have b1:Box w2 w.heap.size #[.pointer (some ⟨g,0,none⟩)]:=by rw [← hw2];exact (Box.new w _ _).alloc _
 have b2:Box w2 (w.heap.size+1) #[.int .i64 d]:=by rw [← hw2];exact (Box.new (w.alloc _) _ _).at' (by simp)
 have x1:=b1.cell 0
 simp only [gqA,gqB,gqC] at x1
 have hP2:=hP.below hb2
 have hgl:=hP.gl
 have hK:∀args w,(callFunc 115 args).run Tryz.prog w=.ok (.enter 115 args) w:=enters_of Tryz.func115 (by kernel_rfl) rfl
 have hl1:=b1.lt;have hl2:=b2.lt
 have hcl:=lockedSv_any hP2 (K:=115) (caps:=#[.pointer (some ⟨w.heap.size,0,none⟩),.pointer (some ⟨w.heap.size+1,0,none⟩)]) (E:=svdE s d) (ckd s d) (etn s d) (wst s d) (mis s d) hK
  (fun wx hx=>(cServed_any ((hP2.below hx).lock rfl) d (((b1.below hx).setg (by omega)).cell 0) (((b2.below hx).setg (by omega)).cell 0) (by rw [set_size];exact (b1.below hx).lt) (by rw [set_size];exact (b2.below hx).lt)).mono fun e w' hh=>⟨hh.1,by have:=hh.2;rw [set_size] at this;exact this⟩)
 have hZ:=svV_no (s:=s) (d:=d)
 obtain ⟨V1,V2,V3,V4,h1,h2,h3,h4⟩:∃V1 V2 V3 V4,V1=ckd s d∧V2=etn s d∧V3=wst s d∧V4=mis s d:=⟨_,_,_,_,rfl,rfl,rfl,rfl⟩
 unfold svV at hZ
 rw [← h1,← h2,← h3,← h4] at hcl hZ ⊢
 have HC:=Lib.hid (hcl.mono fun e w' (hh:_∧_)=>(⟨by rw [hh.1];by_cases hE:svdE s d=0 <;> simp [hE,hZ],hh.2⟩:e=.returned (.tuple #[.agg #[.int .i64 V1,.int .i64 V2,.int .i64 V3,.int .i64 V4],.int .i64 (svdE s d)])∧Below w2.heap.size w2 w'))
 clear hcl hK hZ h1 h2 h3 h4
 go_enter Tryz.func46,Tryz.ntmps46
 go_wp2_with (go_at_call 114;(with_reducible refine HC.out.mono ?_);rintro e w3 ⟨rfl,hb3⟩)
 go_quiet (fail)
 go_wp2_with fail
 refine bodyPost_ret (results_tmp5 rfl _ _ _) rfl ⟨rfl,Go.below_drewN ((hb2.trans (hb3.mono hb2.size)).alloc (Nat.le_trans hb2.size hb3.size) _) nq⟩
end
end Go.Proofs.YtiapkffihpgdcaaGreatDoor
namespace Go.Proofs.YtiapkffihpgdcaaGreatDoor
open Go.RowKit
def fxT:Tm:=⟨5,[],[]⟩
def fxC:Cy:=⟨1,0,0⟩
def fxB:Bk:=⟨1,[⟨[],[0]⟩],[]⟩
def xw1:Wd:=[100,105,115,104,32,115,111,117,112,32,48]
def xw2:Wd:=[99,104,105,108,100,32,55,32,48]
def xw3:Wd:=[111,114,100,101,114,32,55,32,48,32,53]
def xw4:Wd:=[99,104,105,108,100,32,56]
def xw5:Wd:=[111,114,100,101,114,32,56,32,48,32,53]
def xw6:Wd:=[99,111,111,107,32,48,32,51]
def xw7:Wd:=[101,97,116,32,48,32,50]
def xs0:Of:=new0 fxT fxC fxB
def xs1:Of:=doS xs0 xw1
def xs2:Of:=doS xs1 xw2
def xs3:Of:=doS xs2 xw3
def xs4:Of:=doS xs3 xw4
def xs5:Of:=doS xs4 xw5
def xs6:Of:=doS xs5 xw6
def xs7:Of:=doS xs6 xw7
theorem x_new:newE fxT fxC fxB=0:=by kernel_rfl
theorem x_1:doE xs0 xw1=0:=by kernel_rfl
theorem x_2:doE xs1 xw2=0:=by kernel_rfl
theorem x_3:doE xs2 xw3=14:=by kernel_rfl
theorem x_4:doE xs3 xw4=0:=by kernel_rfl
theorem x_5:doE xs4 xw5=0:=by kernel_rfl
theorem x_6:doE xs5 xw6=0:=by kernel_rfl
theorem x_7:doE xs6 xw7=0:=by kernel_rfl
theorem x_sv:svdE xs7 0=0∧ckd xs7 0=3∧etn xs7 0=2∧wst xs7 0=1∧mis xs7 0=0:=⟨by kernel_rfl,by kernel_rfl,by kernel_rfl,by kernel_rfl,by kernel_rfl⟩
theorem x_due:dueE xs7 8=0∧dueR xs7 8=500:=⟨by kernel_rfl,by kernel_rfl⟩
def xhq (a:Nat):Nat→SlH:=fun _=>(some ⟨a,0,none⟩,1)
def xh0:Nat→SlH:=fun _=>(none,0)
theorem x_book {w:World}{a b:Nat}(ba:Box w a #[.int .i64 0])(bb:Box w b #[.slice none 0 0,.slice (some ⟨a,0,none⟩) 1 1]):RBk (fun _=>True) w (some ⟨b,0,none⟩) none fxB xh0 (xhq a) xh0:=by
 refine ⟨⟨⟨⟨rfl,fun _=>⟨⟨b,0,none⟩,rfl,bb.lt,fun j u hu=>?_⟩⟩,fun _ _ _=>trivial⟩,fun k hk=>?_,fun k hk=>?_⟩,⟨R2.nil _ _ _ _ _,fun k hk=>absurd hk (Nat.not_lt_zero k)⟩⟩
 ·have:=bb.cell j
  have e:(⟨b,0,none⟩:Addr).add j=⟨b,j,none⟩:=by cases j <;> simp [Addr.add]
  rw [e,this,gqA]
  exact hu
 ·obtain rfl:k=0:=by have:fxB.items.length=1:=rfl;omega
  exact ⟨⟨rfl,fun h=>absurd h (Nat.not_lt_zero _)⟩,fun _ _ _=>trivial⟩
 ·obtain rfl:k=0:=by have:fxB.items.length=1:=rfl;omega
  exact ⟨RN.of_box (l:=[0]) ba,fun _ _ _=>trivial⟩
theorem example_any (w:World):Calls Tryz.prog 19 #[] w fun e w'=>∃a b:Nat,e=.returned (.agg #[.int .i64 5,.slice none 0 0,.slice none 0 0,.int .i64 1,.int .i64 0,.int .i64 0,.int .i64 1,.slice (some ⟨b,0,none⟩) 1 1,.slice none 0 0]) ∧
  Box w' a #[.int .i64 0]∧Box w' b #[.slice none 0 0,.slice (some ⟨a,0,none⟩) 1 1]∧Below w.heap.size w w':=by
 go_enter Tryz.func19,Tryz.ntmps19
 go_wp2_with fail
 have q:=(((Box.new w 32 #[.int .i64 5,.slice none 0 0,.slice none 0 0,.int .i64 1,.int .i64 0,.int .i64 0,.int .i64 1,.slice (some ⟨w.heap.size+1+1,0,none⟩) 1 1,.slice none 0 0]).alloc (.cells #[.int .i64 0] 3)).alloc (.cells #[.slice none 0 0,.slice (some ⟨w.heap.size+1,0,none⟩) 1 1] 120))
 have q0:=q.cell 0;have q1:=q.cell 1;have q2:=q.cell 2;have q3:=q.cell 3;have q4:=q.cell 4;have q5:=q.cell 5;have q6:=q.cell 6;have q7:=q.cell 7;have q8:=q.cell 8
 simp only [gqA,gqB,gqC] at q0 q1 q2 q3 q4 q5 q6 q7 q8
 (try simp only [Exit.inBlock,Exit.then])
 refine bodyPost_ret (v:=.agg #[.int .i64 5,.slice none 0 0,.slice none 0 0,.int .i64 1,.int .i64 0,.int .i64 0,.int .i64 1,.slice (some ⟨w.heap.size+1+1,0,none⟩) 1 1,.slice none 0 0]) (by simp [results,Tryz.results19,go_sem,q0,q1,q2,q3,q4,q5,q6,q7,q8]) rfl ⟨w.heap.size+1,w.heap.size+1+1,rfl,?_,?_,?_⟩
 ·exact ((Box.new (w.alloc _) _ _).at' (by simp)).alloc _
 ·exact (Box.new ((w.alloc _).alloc _) _ _).at' (by simp)
 ·exact (((Below.refl _ w).alloc (Nat.le_refl _) _).alloc (by simp) _).alloc (by simp;omega) _
/-- An office in some memory,behind some orders;the blocks Z are not its own. -/
def KN (w0:World)(N:Nat)(Z:Nat→Prop)(g:Nat)(s:Of)(w:World):Prop :=
 ∃(F:Nat→Prop) (h:Hd),PO 0 N w F g h s∧EnvA w∧Below w0.heap.size w0 w∧(∀k,F k→w0.heap.size≤k)∧∀k,Z k→k<w.heap.size∧¬ F k
section
variable {w0 w w':World}{N:Nat}{Z:Nat→Prop}{g:Nat}{s:Of}
theorem KN.below (hk:KN w0 N Z g s w)(hb:Below w.heap.size w w'):KN w0 N Z g s w':=by
 obtain ⟨F,h,hP,hE,hy,hF,hZ⟩:=hk
 exact ⟨F,h,hP.below hb,hE.below hb,hy.trans (hb.mono hy.size),hF,fun k hz=>⟨Nat.lt_of_lt_of_le (hZ k hz).1 hb.size,(hZ k hz).2⟩⟩
theorem KN.mine (hk:KN w0 N Z g s w)(o:Obj):KN w0 N (fun k=>k=w.heap.size) g s (w.alloc o):=by
 obtain ⟨F,h,hP,hE,hy,hF,hZ⟩:=hk
 have hb:Below w.heap.size w (w.alloc o):=(Below.refl _ w).alloc (Nat.le_refl _) _
 exact ⟨F,h,hP.below hb,hE.below hb,hy.trans (hb.mono hy.size),hF,fun k hz=>⟨by subst hz;simp,fun hk=>by subst hz;exact absurd (hP.lo _ hk).2 (Nat.lt_irrefl _)⟩⟩
theorem KN.do_ (hk:KN w0 N Z g s w)(hN:N<1000000000)(txt:Wd)(ht:txt.length≤1000000000) :
  Calls Tryz.prog 25 #[.pointer (some ⟨g,0,none⟩),St txt] w fun e w'=>e=.returned (.int .i64 (doE s txt))∧KN w0 (N+1) Z g (doS s txt) w'∧∀b cs,Z b→Box w b cs→Box w' b cs:=by
 obtain ⟨F,h,hP,hE,hy,hF,hZ⟩:=hk
 refine (Do_any hP hE hN txt ht).mono ?_
 rintro e w' ⟨he,ho,h',hP'⟩
 have hs:=ho.size
 refine ⟨he,⟨grown F w w',h',hP',hE.off ho hP.f7,hy.trans (ho.to_below hF hy.size),?_,?_⟩,fun b cs hz hb=>hb.off ho (hZ b hz).2⟩
 ·rintro k (hk | hk)
  ·exact hF k hk
  ·have:=hy.size;omega
 ·intro k hz
  have:=hZ k hz
  exact ⟨by omega,fun hk=>hk.elim this.2 (fun hk=>by omega)⟩
theorem KN.served (hk:KN w0 N Z g s w)(d:Int) :
  Calls Tryz.prog 46 #[.pointer (some ⟨g,0,none⟩),.int .i64 d] w fun e w'=>e=.returned (.tuple #[.int .i64 (ckd s d),.int .i64 (etn s d),.int .i64 (wst s d),.int .i64 (mis s d),.int .i64 (svdE s d)])∧KN w0 N Z g s w':=by
 have hk':=hk
 obtain ⟨F,h,hP,_⟩:=hk'
 exact (Served_any hP d).mono fun e w' hh=>⟨hh.1,hk.below hh.2⟩
theorem KN.due (hk:KN w0 N Z g s w)(c:Int) :
  Calls Tryz.prog 29 #[.pointer (some ⟨g,0,none⟩),.int .i64 c] w fun e w'=>e=.returned (.tuple #[.int .i64 (dueR s c),.int .i64 (dueE s c)])∧KN w0 N Z g s w':=by
 have hk':=hk
 obtain ⟨F,h,hP,_⟩:=hk'
 exact (Due_any hP c).mono fun e w' hh=>⟨hh.1,hk.below hh.2⟩
theorem KN.at_ (hk:KN w0 N Z g s w):Below w0.heap.size w0 w:=by
 obtain ⟨F,h,_,_,hy,_⟩:=hk
 exact hy
end
/-- The office of the examples,made. -/
theorem x_made {w0 w:World}(hE:EnvA w)(hy:Below w0.heap.size w0 w){a b:Nat}(ba:Box w a #[.int .i64 0])(bb:Box w b #[.slice none 0 0,.slice (some ⟨a,0,none⟩) 1 1]) :
  Calls Tryz.prog 20 #[.agg #[.int .i64 5,.slice none 0 0,.slice none 0 0],.agg #[.int .i64 1,.int .i64 0,.int .i64 0],.agg #[.int .i64 1,.slice (some ⟨b,0,none⟩) 1 1,.slice none 0 0]] w fun e w'=>∃g,e=.returned (.tuple #[.pointer (some ⟨g,0,none⟩),.int .i64 0])∧KN w0 0 (fun _=>False) g xs0 w':=by
 obtain ⟨_,_,hb⟩:=newE_ok x_new
 have h:=new_any fxT fxC fxB (by decide) (by decide) hb.len none none 0 0 (fun _=>True) (some ⟨b,0,none⟩) none 1 0 xh0 (xhq a) xh0 w ⟨rfl,fun h=>absurd h (Nat.not_lt_zero _)⟩ ⟨rfl,fun h=>absurd h (Nat.not_lt_zero _)⟩ (x_book ba bb) hE.z.size
 refine Calls.mono (R:=RetNew w (newE fxT fxC fxB) fxT fxC fxB) h ?_
 rintro e w' (⟨h0,_⟩ | ⟨_,g,h,he,hP,hb⟩)
 ·exact absurd x_new h0
 ·refine ⟨g,he,_,h,hP,hE.below hb,hy.trans (hb.mono hy.size),fun k hk=>Nat.le_trans hy.size hk.1,fun k hz=>hz.elim⟩
def xwd:Nat→Wd
 | 0=>xw4
 | 1=>xw5
 | 2=>xw6
 | _=>xw7
def xst:Nat→Of
 | 0=>xs3
 | k+1=>doS (xst k) (xwd k)
theorem x_st:∀k,k<4→doE (xst k) (xwd k)=0
 | 0,_=>x_4
 | 1,_=>x_5
 | 2,_=>x_6
 | 3,_=>x_7
 | k+4,h=>absurd h (by omega)
theorem x_wd:∀k,(xwd k).length≤1000000000
 | 0=>by decide
 | 1=>by decide
 | 2=>by decide
 | k+3=>by show xw7.length≤1000000000;decide
end Go.Proofs.YtiapkffihpgdcaaGreatDoor
namespace Go.Proofs.YtiapkffihpgdcaaGreatDoor
open Go.RowKit Go.Sort
section
variable {w:World}{F:Nat→Prop}{g:Nat}{h:Hr}{s:Of}
theorem rchild_any (hP:RO w F g h s)(n:Int) :
  Calls Tryz.prog 98 #[.pointer (some ⟨g,0,none⟩),.int .i64 n] w fun e w'=>e=.returned (.int .i64 (kix s.kids n))∧w'=w:=by
 obtain ⟨S,hS⟩:∃S,S=kix s.kids n:=⟨_,rfl⟩
 rw [← hS]
 have HS:=Lib.hid hS;clear hS
 have q:=hP.cKd
 have hkl:=hP.ok.kl
 go_enter Tryz.func98,Tryz.ntmps98
 go_wp2
 go_loop [5] (fun x=>∃k:Nat,k≤s.kids.length∧x=.int .i64 k∧Hid (kidTo s.kids n k=false)) (fun x=>s.kids.length-(intOf x).toNat)
 case atStart=>exact ⟨0,by omega,rfl,rfl⟩
 case round =>
  obtain ⟨k,hk,rfl,HK⟩:=hrel
  by_cases hlt:k<s.kids.length
  ·obtain ⟨ad,hA,hab,_,d0,d1⟩:=hP.kids.at_ hlt
   rw [hA] at q
   by_cases hn:(gk s.kids k).num=n
   ·have HV:=Lib.hid (HS.out.trans (kix_first hlt hn HK.out))
    have hn':((gk s.kids k).num == n)=true:=by simp [hn]
    clear HS HK hn
    go_wp2
    go_ret
    exact ⟨ret_int HV.out.symm,rfl⟩
   ·have HN:=Lib.hid (kidTo_next HK.out hn)
    have hn':((gk s.kids k).num == n)=false:=by simp [hn]
    clear HS HK hn
    go_wp2
    go_round
    case rel=>exact ⟨k+1,by omega,by go_num,HN⟩
    case measure=>simp [intOf];omega
  ·obtain rfl:k=s.kids.length:=by omega
   have HV:=Lib.hid (HS.out.trans (kix_none HK.out))
   clear HS HK
   go_wp2
   go_ret
   exact ⟨ret_int HV.out.symm,rfl⟩
theorem ropn_any (hP:RO w F g h s)(d:Int) :
  Calls Tryz.prog 99 #[.pointer (some ⟨g,0,none⟩),.int .i64 d] w fun e w'=>e=.returned (.bool (s.opn d))∧w'=w:=by
 rw [Of.opn_mn]
 have q:w.cell? ⟨g,9,none⟩=some (.slice h.mn.1 (mnL s.tm s.cy).length h.mn.2):=hP.box.cell 9
 have hm:=hP.mn.rn
 obtain ⟨M,hM⟩:∃M,M=mnL s.tm s.cy:=⟨_,rfl⟩
 rw [← hM] at q hm ⊢
 clear hM
 by_cases h0:0≤d
 ·obtain ⟨n,rfl⟩:∃n:Nat,d=n:=⟨d.toNat,by omega⟩
  by_cases h1:n<M.length
  ·obtain ⟨ad,e,hab,c0⟩:=hm.at_ h1
   rw [e] at q
   by_cases h2:0≤gi M n
   all_goals
    go_enter Tryz.func99,Tryz.ntmps99
    go_wp2
    go_ret
    exact ⟨ret_bool (by first | (rw [decide_eq_decide];simp;omega) | (symm;rw [decide_eq_true_eq];exact ⟨by omega,by omega,by simpa using h2⟩) | (symm;rw [decide_eq_false_iff_not];simp;omega)),rfl⟩
  ·go_enter Tryz.func99,Tryz.ntmps99
   go_wp2
   go_ret
   exact ⟨ret_bool (by symm;rw [decide_eq_false_iff_not];omega),rfl⟩
 ·go_enter Tryz.func99,Tryz.ntmps99
  go_wp2
  go_ret
  exact ⟨ret_bool (by first | (symm;rw [decide_eq_false_iff_not];omega) | (simp;omega)),rfl⟩
theorem rhas_any9 (hP:RO w F g h s)(c d:Int) :
  Calls Tryz.prog 207 #[.pointer (some ⟨g,0,none⟩),.int .i64 c,.int .i64 d] w fun e w'=>e=.returned (.bool (eatB s c d))∧Below w.heap.size w w':=by
 have k0:=cell_regrown hP.cFa;have k1:=cell_regrown hP.cNow
 have hl:=hP.ok.fl
 have cA:∀d' os,Calls Tryz.prog 267 #[.slice h.fa.1 s.facts.length h.fa.2,.int .i64 s.now,.int .i64 c,.int .i64 d] (grow (redrawn w d') os) fun e w''=>e=.returned (.tuple #[.int .i64 (knownR s.facts s.now c d),.int .i64 (askE s.facts c d)])∧∃p:Regrown,w''=grow (redrawn w p.d) p.os:=fun d' os =>
  Calls.regrown_of (rknownX_any s.facts s.now c d (by omega) _ _ _ _ (hP.rf.below (below_regrown w d' os)))
 unfold eatB
 go_enter Tryz.func207,Tryz.ntmps207
 go_wp2_with fail
 refine wp_region_quiet_below (by kernel_rfl) (by kernel_rfl) ?_
 repeat (go_big_quiet_step (first | with_reducible exact cA _ _))
 refine wpQuiet_nil ?_
 intro _ hw'
 obtain ⟨⟨dq,osq⟩,hw''⟩:=hw'
 subst hw''
 go_wp2_with fail
 go_ret
 exact ⟨rfl,below_regrown w dq osq⟩
theorem rharms_any (hP:RO w F g h s)(num:Int)(av:List Int)(hav:av.length≤1000000000)(A:Option Addr)(c:Nat)(hR:RN w A av)(item:Int) :
  Calls Tryz.prog 206 #[.pointer (some ⟨g,0,none⟩),.int .i64 item,.agg #[.int .i64 num,.slice A av.length c]] w fun e w'=>e=.returned (.bool (harmB s.bk item av))∧Below w.heap.size w w':=by
 obtain ⟨w2,hw2⟩:∃w2,w.alloc (.cells #[.int .i64 num,.slice A av.length c] 208)=w2:=⟨_,rfl⟩
 have hy:Below w.heap.size w w2:=by rw [← hw2];exact (Below.refl _ w).alloc (Nat.le_refl _) _
 have b0:Box w2 w.heap.size #[.int .i64 num,.slice A av.length c]:=by rw [← hw2];exact Box.new w _ _
 have hP2:=hP.below hy
 have q8:=hP2.cProps;have q9:=hP2.cItems;have q10:=hP2.cRules
 have hL:=hP.ok.bk.len
 have hR2:=hR.below hy
 have hlt0:=b0.lt
 obtain ⟨S,hS⟩:∃S,S=harmB s.bk item av:=⟨_,rfl⟩
 rw [← hS]
 have HS:=Lib.hid hS;clear hS
 have hll:(labR s.bk item).length≤20:=by
  unfold labR
  by_cases hq:nmE s.bk item=0
  ·rw [if_pos hq];exact bitsL_len _
  ·rw [if_neg hq];simp
 go_enter Tryz.func206,Tryz.ntmps206
 go_wp2_with (go_at_call 106;(with_reducible refine (rLabel_any s.bk hL item _ _ _ _ _ _ _ _ _ hP2.bk).mono ?_);rintro e w3 ⟨A3,c3,rfl,own3,hb3⟩;have hL3:=RN.of_own own3;have b3:=b0.below hb3;have x1:=b3.cell 1;simp only [gqA,gqB,gqC] at x1;have hR3:=hR2.below hb3)
 clear own3
 go_loop [9] (fun x=>∃k:Nat,k≤av.length∧x=.int .i64 k∧Hid (anyTo (fun i=>hasB (labR s.bk item) (gi av i)) k=false)) (fun x=>av.length-(intOf x).toNat)
 case atStart=>exact ⟨0,by omega,rfl,rfl⟩
 case round =>
  obtain ⟨k,hk,rfl,HK⟩:=hrel
  by_cases hlt:k<av.length
  ·obtain ⟨ad,rfl,hab,c0⟩:=hR3.at_ hlt
   have hcon:=has_any (labR s.bk item) (gi av k) (by omega) A3 c3 w3 hL3
   cases hq:hasB (labR s.bk item) (gi av k) with
   | true =>
    have HV:=Lib.hid (HS.out.trans (show harmB s.bk item av=true from anyTo_yes (k:=k) (p:=fun i=>hasB (labR s.bk item) (gi av i)) hq hlt))
    rw [hq] at hcon
    have HC:=Lib.hid hcon
    clear HK HS hcon hq
    go_wp2_with (go_at_call 86;(with_reducible refine HC.out.mono ?_);rintro e w' ⟨rfl,hw'⟩;have hw4:=hw'.symm;clear hw';subst hw4)
    go_ret
    exact ⟨ret_bool HV.out.symm,hy.trans (hb3.mono hy.size)⟩
   | false =>
    have HN:Hid (anyTo (fun i=>hasB (labR s.bk item) (gi av i)) (k+1)=false):=by show _=_;simp only [anyTo];rw [HK.out,hq];rfl
    rw [hq] at hcon
    have HC:=Lib.hid hcon
    clear HK hcon hq
    go_wp2_with (go_at_call 86;(with_reducible refine HC.out.mono ?_);rintro e w' ⟨rfl,hw'⟩;have hw4:=hw'.symm;clear hw';subst hw4)
    go_round
    case rel=>exact ⟨k+1,by omega,by go_num,HN⟩
    case measure=>simp [intOf];omega
  ·obtain rfl:k=av.length:=by omega
   have HV:=Lib.hid (HS.out.trans (show harmB s.bk item av=false from HK.out))
   clear HS HK
   go_wp2
   go_ret
   exact ⟨ret_bool HV.out.symm,hy.trans (hb3.mono hy.size)⟩
end
end Go.Proofs.YtiapkffihpgdcaaGreatDoor
namespace Go.Proofs.YtiapkffihpgdcaaGreatDoor
open Go.RowKit
theorem rnew_bad (t:Tm)(c:Cy)(b:Bk)(hlr:t.rest.length≤1000000000)(hlc:t.clo.length≤1000000000)(hL:BkLen b)(A1 A2:Option Addr)(c1 c2:Nat)(F0:Nat→Prop)(B1 B2:Option Addr)(d1 d2:Nat)(hp hq hr:Nat→SlH)(w:World)
  (h1:RN w A1 t.rest) (h2:RN w A2 t.clo) (hR:RBk F0 w B1 B2 b hp hq hr) (hne:newE t c b≠0) :
  Calls Tryz.prog 52 #[.agg #[.int .i64 t.len,.slice A1 t.rest.length c1,.slice A2 t.clo.length c2],.agg #[.int .i64 c.n,.int .i64 c.f,.int .i64 c.k],.agg #[.int .i64 b.props,.slice B1 b.items.length d1,.slice B2 b.rules.length d2]] w fun e w'=>e=.returned (.tuple #[.pointer none,.int .i64 (newE t c b)])∧Below w.heap.size w w':=by
 obtain ⟨w2,hw2⟩:∃w2,(((w.alloc (.cells #[.int .i64 t.len,.slice A1 t.rest.length c1,.slice A2 t.clo.length c2] 24)).alloc (.cells #[.int .i64 c.n,.int .i64 c.f,.int .i64 c.k] 26)).alloc (.cells #[.int .i64 b.props,.slice B1 b.items.length d1,.slice B2 b.rules.length d2] 30))=w2:=⟨_,rfl⟩
 have hy:Below w.heap.size w w2:=by rw [← hw2];exact (((Below.refl _ w).alloc (Nat.le_refl _) _).alloc (by simp) _).alloc (by simp;omega) _
 have b0:Box w2 w.heap.size #[.int .i64 t.len,.slice A1 t.rest.length c1,.slice A2 t.clo.length c2]:=by rw [← hw2];exact ((Box.new w _ _).alloc _).alloc _
 have b1:Box w2 (w.heap.size+1) #[.int .i64 c.n,.int .i64 c.f,.int .i64 c.k]:=by rw [← hw2];exact ((Box.new (w.alloc (.cells #[.int .i64 t.len,.slice A1 t.rest.length c1,.slice A2 t.clo.length c2] 24)) _ _).at' (by simp)).alloc _
 have b2:Box w2 (w.heap.size+1+1) #[.int .i64 b.props,.slice B1 b.items.length d1,.slice B2 b.rules.length d2]:=by rw [← hw2];exact (Box.new ((w.alloc (.cells #[.int .i64 t.len,.slice A1 t.rest.length c1,.slice A2 t.clo.length c2] 24)).alloc (.cells #[.int .i64 c.n,.int .i64 c.f,.int .i64 c.k] 26)) _ _).at' (by simp)
 have r1:=h1.below hy
 have r2:=h2.below hy
 have r3:=hR.below hy
 have x0:=b0.cell 0;have x1:=b0.cell 1;have x2:=b0.cell 2
 simp only [gqA,gqB,gqC] at x0 x1 x2
 have HV:=Lib.hid (rtvalidate_any t A1 A2 c1 c2 w2 r1 r2 hlr hlc)
 obtain ⟨E,hE⟩:∃E,E=newE t c b:=⟨_,rfl⟩
 rw [← hE] at hne ⊢
 have HE:=Lib.hid hE
 clear hE
 by_cases ht:tE t=0
 ·rw [ht] at HV
  by_cases hc:cE c=0
  ·have hEb:E=bkE b:=by rw [HE.out];unfold newE;rw [if_neg (by rw [ht];decide),if_neg (by rw [hc];decide)]
   have hbn:(E != 0)=true:=by simp [hne]
   have HEB:=Lib.hid hEb
   clear hEb hne
   go_enter Tryz.func52,Tryz.ntmps52
   go_wp2_with (first
    | (go_at_call 128;(with_reducible refine HV.out.mono ?_);rintro e wA ⟨rfl,hbA⟩;have y1:=b1.below hbA;have k0:=y1.cell 0;have k1:=y1.cell 1;have k2:=y1.cell 2;simp only [gqA,gqB,gqC] at k0 k1 k2)
    | (go_at_call 129;(with_reducible refine (rcvalidate_any c _).mono ?_);rintro e wB ⟨rfl,hbB⟩;rw [hc];have y2:=(b2.below hbA).below hbB;have n0:=y2.cell 0;have n1:=y2.cell 1;have n2:=y2.cell 2;simp only [gqA,gqB,gqC] at n0 n1 n2)
    | (go_at_call 130;(with_reducible refine (rvalidBk_any b hL F0 B1 B2 d1 d2 hp hq hr _ ((r3.below hbA).below hbB)).mono ?_);rintro e wC ⟨rfl,hbC⟩;rw [← HEB.out]))
   go_ret2
   exact ⟨rfl,hy.trans ((hbA.trans ((hbB.trans (hbC.mono hbB.size)).mono hbA.size)).mono hy.size)⟩
  ·have hEb:E=cE c:=by rw [HE.out];unfold newE;rw [if_neg (by rw [ht];decide),if_pos hc]
   have hbn:(E != 0)=true:=by simp [hne]
   have HEB:=Lib.hid hEb
   clear hEb hne hc
   go_enter Tryz.func52,Tryz.ntmps52
   go_wp2_with (first
    | (go_at_call 128;(with_reducible refine HV.out.mono ?_);rintro e wA ⟨rfl,hbA⟩;have y1:=b1.below hbA;have k0:=y1.cell 0;have k1:=y1.cell 1;have k2:=y1.cell 2;simp only [gqA,gqB,gqC] at k0 k1 k2)
    | (go_at_call 129;(with_reducible refine (rcvalidate_any c _).mono ?_);rintro e wB ⟨rfl,hbB⟩;rw [← HEB.out]))
   go_ret2
   exact ⟨rfl,hy.trans ((hbA.trans (hbB.mono hbA.size)).mono hy.size)⟩
 ·have hEb:E=tE t:=by rw [HE.out];unfold newE;rw [if_pos ht]
  have hbn:(E != 0)=true:=by simp [hne]
  rw [← hEb] at HV
  clear hEb hne ht
  go_enter Tryz.func52,Tryz.ntmps52
  go_wp2_with (go_at_call 128;(with_reducible refine HV.out.mono ?_);rintro e wA ⟨rfl,hbA⟩)
  go_ret2
  exact ⟨rfl,hy.trans (hbA.mono hy.size)⟩
end Go.Proofs.YtiapkffihpgdcaaGreatDoor
