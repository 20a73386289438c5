import Derived.Test.YtiapkffihpgdcaaGreatDoorQB13
import Derived.Test.YtiapkffihpgdcaaGreatDoorQB15
import Derived.Test.YtiapkffihpgdcaaGreatDoorQB21
import Derived.Test.YtiapkffihpgdcaaGreatDoorQB22
set_option linter.unusedVariables false
set_option linter.unusedSimpArgs false
set_option maxRecDepth 100000
set_option maxHeartbeats 4000000
namespace Go.Proofs.YtiapkffihpgdcaaGreatDoor
open Go.RowKit Go.Sort Go.MuLone
/-- A list that a locked question hands back. -/
theorem RetL.list {g size n:Nat}{w:World}{xs:List Value}{Z:Value}{e:Ending}{w':World}
  (h:RetL 0 Z g w (fun v x=>∃A c,v=.slice A n c∧ReadsF (fun k=>w.heap.size≤k) x size A n xs) e w') (hg:g<w.heap.size) :
  ∃A c,e=.returned (.tuple #[.slice A n c,.int .i64 0])∧ReadsF (fun k=>w.heap.size≤k) w' size A n xs∧Below w.heap.size w w':=by
 obtain ⟨v,w2,he,⟨A,c,rfl,hr⟩,hw,_,hb⟩:=h
 rw [if_pos rfl] at he
 subst hw
 exact ⟨A,c,he,hr.kept ⟨by rw [set_size];exact Nat.le_refl _,fun k hk _=>set_other _ _ _ _ (by omega)⟩,hb⟩
theorem isSet_small {l:List Int}(h:isSet l 7=true):l.length≤7:=by
 have:=isSet_len h (by decide)
 omega
section
variable {L:Int}{N:Nat}{w:World}{F:Nat→Prop}{g:Nat}{h:Hd}{s:Of}
theorem cNow_any (hP:PO L N w F g h s){b1:Nat}(x1:w.cell? ⟨b1,0,none⟩=some (.pointer (some ⟨g,0,none⟩))) :
  Calls Tryz.prog 71 #[.pointer (some ⟨b1,0,none⟩)] w fun e w'=>e=.returned (.tuple #[.int .i64 s.now,.int .i64 0])∧Below w.heap.size w w':=by
 have q:=hP.cNow
 go_enter Tryz.func71,Tryz.ntmps71
 go_wp2_with fail
 go_ret2
 exact ⟨rfl,Below.refl _ _⟩
theorem cPortions_any (hP:PO L N w F g h s)(d:Int){b1 b2:Nat}(x1:w.cell? ⟨b1,0,none⟩=some (.pointer (some ⟨g,0,none⟩)))(x2:w.cell? ⟨b2,0,none⟩=some (.int .i64 d)) :
  Calls Tryz.prog 108 #[.pointer (some ⟨b1,0,none⟩),.pointer (some ⟨b2,0,none⟩)] w fun e w'=>e=.returned (.tuple #[.int .i64 (porR s d),.int .i64 (dayE s d)])∧Below w.heap.size w w':=by
 have HC:=Lib.hid (portions_any hP d)
 go_enter Tryz.func108,Tryz.ntmps108
 go_wp2_with (go_at_call 109;(with_reducible refine HC.out.mono ?_);rintro e w2 ⟨rfl,hb2⟩)
 go_ret2
 exact ⟨rfl,hb2⟩
theorem cFacts_any (hP:PO L N w F g h s){b1:Nat}(x1:w.cell? ⟨b1,0,none⟩=some (.pointer (some ⟨g,0,none⟩))) :
  Calls Tryz.prog 76 #[.pointer (some ⟨b1,0,none⟩)] w fun e w'=>∃A c,e=.returned (.tuple #[.slice A s.facts.length c,.int .i64 0])∧ReadsF (fun k=>w.heap.size≤k) w' 5 A s.facts.length (cellsF s.facts)∧Below w.heap.size w w':=by
 have q:=hP.cFa
 have HC:=Lib.hid (clone_anyO s.facts (by have:=hP.ok.fl;omega) h.fa.1 h.fa.2 _ w hP.rf)
 go_enter Tryz.func76,Tryz.ntmps76
 go_wp2_with (go_at_call 77;(with_reducible refine HC.out.mono ?_);rintro e w2 ⟨A',c',rfl,own2,hb2⟩)
 go_ret2
 exact ⟨A',c',rfl,ReadsF.of_own own2 fun k hk=>(World.ownsRow.lt own2 k hk).1,hb2⟩
theorem OfOk.dl' (hs:OfOk s):s.dishes.length≤40:=by
 have:=hs.dl
 have:=hs.cy.n2
 omega
theorem cDishes_any (hP:PO L N w F g h s){b1:Nat}(x1:w.cell? ⟨b1,0,none⟩=some (.pointer (some ⟨g,0,none⟩))) :
  Calls Tryz.prog 118 #[.pointer (some ⟨b1,0,none⟩)] w fun e w'=>∃A c,e=.returned (.tuple #[.slice A s.dishes.length c,.int .i64 0])∧ReadsF (fun k=>w.heap.size≤k) w' 2 A s.dishes.length (cells2 s.dishes.length (fun k=>St (gd s.dishes k).name) (fun k=>.int .i64 (gd s.dishes k).item))∧Below w.heap.size w w':=by
 have q:=hP.cDs
 have HC:=Lib.hid (clone_dish s.dishes.length (cells2 s.dishes.length (fun k=>St (gd s.dishes k).name) (fun k=>.int .i64 (gd s.dishes k).item)) (by have:=hP.ok.dl';omega) (cells2_one (fun _ _=>rfl) (fun _ _=>rfl)) h.ds.1 h.ds.2 w (Reads.of_own hP.ds))
 go_enter Tryz.func118,Tryz.ntmps118
 go_wp2_with (go_at_call 119;(with_reducible refine HC.out.mono ?_);rintro e w2 ⟨A',c',rfl,own2,hb2⟩)
 go_ret2
 exact ⟨A',c',rfl,ReadsF.of_own own2 fun k hk=>(World.ownsRow.lt own2 k hk).1,hb2⟩
theorem melE_no {d:Int}(hn:menuE s.tm s.cy d≠0):melE s d=menuE s.tm s.cy d∧melR s d=[]:=by
 have h1:melE s d=menuE s.tm s.cy d:=by unfold melE;rw [if_pos hn]
 exact ⟨h1,by unfold melR;rw [if_neg (by rw [h1];exact hn)]⟩
theorem melE_none {d:Int}(hn:menuE s.tm s.cy d=0)(hl:(s.dishes.length:Int)≤menuR s.tm s.cy d):melE s d=5∧melR s d=[]:=by
 have h1:melE s d=5:=by unfold melE;rw [if_neg (by simp [hn]),if_pos hl]
 exact ⟨h1,by unfold melR;rw [if_neg (by rw [h1];decide)]⟩
theorem melE_yes {d:Int}(hn:menuE s.tm s.cy d=0)(hl:menuR s.tm s.cy d<(s.dishes.length:Int)):melE s d=0∧melR s d=(gd s.dishes (menuR s.tm s.cy d).toNat).name:=by
 have h1:melE s d=0:=by unfold melE;rw [if_neg (by simp [hn]),if_neg (by omega)]
 exact ⟨h1,by unfold melR;rw [if_pos h1]⟩
theorem menuE_in {t:Tm}{c:Cy}{d:Int}(hn:menuE t c d=0):0≤d∧d<t.len∧opB t d=true:=by
 unfold menuE at hn
 by_cases h1:bE t c≠0
 ·rw [if_pos h1] at hn;exact absurd hn h1
 rw [if_neg h1] at hn
 cases h2:inB d 0 (t.len-1) with
 | false=>rw [h2] at hn;simp at hn
 | true =>
  rw [h2] at hn
  have:=inB_true.1 h2
  cases h3:opB t d with
  | false=>rw [h3] at hn;simp at hn
  | true=>exact ⟨by omega,by omega,rfl⟩
theorem menuR_ge {t:Tm}{c:Cy}{d:Int}(hc:CyOk c)(hn:menuE t c d=0):0≤menuR t c d∧menuR t c d<c.n:=by
 obtain ⟨h1,h2,h3⟩:=menuE_in hn
 rw [menuR_yes hn]
 exact ⟨(mnAt_nonneg hc _).2 (by rw [Int.toNat_of_nonneg h1];exact h3),(mnAt_bd hc _).2⟩
theorem cMeal_any (hP:PO L N w F g h s)(d:Int){b1 b2:Nat}(x1:w.cell? ⟨b1,0,none⟩=some (.pointer (some ⟨g,0,none⟩)))(x2:w.cell? ⟨b2,0,none⟩=some (.int .i64 d))(l1:b1<w.heap.size)(l2:b2<w.heap.size) :
  Calls Tryz.prog 123 #[.pointer (some ⟨b1,0,none⟩),.pointer (some ⟨b2,0,none⟩)] w fun e w'=>e=.returned (.tuple #[St (melR s d),.int .i64 (melE s d)])∧Below w.heap.size w w':=by
 have hcp:=fun d' os=>menu_any s.cy d s.tm h.tr.1 h.tc.1 h.tr.2 h.tc.2 (grow (redrawn w d') os) (hP.rest.rn.below (below_regrown w d' os)) (hP.clo.rn.below (below_regrown w d' os)) (by have:=isSet_small hP.ok.tm.rest;omega) (by have:=hP.ok.tm.clo60;omega)
 obtain ⟨E,hE⟩:∃E,E=menuE s.tm s.cy d:=⟨_,rfl⟩
 obtain ⟨R,hR⟩:∃R,R=menuR s.tm s.cy d:=⟨_,rfl⟩
 rw [← hE,← hR] at hcp
 have cA:∀d' os,Calls Tryz.prog 50 #[.agg #[.int .i64 s.tm.len,.slice h.tr.1 s.tm.rest.length h.tr.2,.slice h.tc.1 s.tm.clo.length h.tc.2],.agg #[.int .i64 s.cy.n,.int .i64 s.cy.f,.int .i64 s.cy.k],.int .i64 d] (grow (redrawn w d') os) fun e w''=>e=.returned (.tuple #[.int .i64 R,.int .i64 E])∧∃p:Regrown,w''=grow (redrawn w p.d) p.os:=fun d' os =>
  Calls.regrown_of (hcp d' os)
 have k0:=cell_regrown hP.cLen;have k1:=cell_regrown hP.cRest;have k2:=cell_regrown hP.cClo;have k3:=cell_regrown hP.cN;have k4:=cell_regrown hP.cF;have k5:=cell_regrown hP.cK
 have k6:=cell_regrown x1;have k7:=cell_regrown x2;have k8:=cell_regrown hP.cDs
 have hdc:=fun d' os=>(hP.below (below_regrown w d' os)).dish
 have hbd:=fun (hn:menuE s.tm s.cy d=0)=>menuR_ge hP.ok.cy hn
 rw [← hE,← hR] at hbd
 have hv1:=fun hn=>melE_no (s:=s) (d:=d) hn
 have hv2:=fun hn hl=>melE_none (s:=s) (d:=d) hn hl
 have hv3:=fun hn hl=>melE_yes (s:=s) (d:=d) hn hl
 rw [← hE] at hv1
 rw [← hE,← hR] at hv2 hv3
 obtain ⟨VE,hVE⟩:∃VE,VE=melE s d:=⟨_,rfl⟩
 obtain ⟨VR,hVR⟩:∃VR,VR=melR s d:=⟨_,rfl⟩
 rw [← hVE,← hVR] at hv1 hv2 hv3 ⊢
 have H1:=Lib.hid hv1;have H2:=Lib.hid hv2;have H3:=Lib.hid hv3;have HB:=Lib.hid hbd;have HD:=Lib.hid hdc
 clear hcp hv1 hv2 hv3 hbd hdc hE hR hVE hVR
 go_enter Tryz.func123,Tryz.ntmps123
 go_wp2_with fail
 refine wp_region_quiet_below (by kernel_rfl) (by kernel_rfl) ?_
 repeat (go_big_quiet_step (first | with_reducible exact cA _ _))
 refine wpQuiet_nil ?_
 intro _ hw'
 obtain ⟨⟨dq,osq⟩,hw''⟩:=hw'
 subst hw''
 have hb:=below_regrown w dq osq
 by_cases hE:E=0
 ·obtain ⟨hR0,_⟩:=HB.out hE
  have hE':(E != 0)=false:=by simp [hE]
  by_cases hl:R<(s.dishes.length:Int)
  ·obtain ⟨e1,e2⟩:=H3.out hE hl
   have hl':decide ((s.dishes.length:Int)≤R)=false:=by rw [decide_eq_false_iff_not];omega
   obtain ⟨k,rfl⟩:=Int.eq_ofNat_of_zero_le hR0
   obtain ⟨ad,eA,hab,d0,d1⟩:=(HD.out dq osq).at_ (k:=k) (by omega)
   rw [eA] at k8
   subst e1
   rw [Int.toNat_natCast] at e2
   have HE2:=Lib.hid e2
   clear e2 hE HB H1 H2 H3 HD
   go_wp2_with fail
   go_ret2
   exact ⟨by rw [HE2.out];rfl,hb⟩
  ·obtain ⟨e1,e2⟩:=H2.out hE (by omega)
   have hl':decide ((s.dishes.length:Int)≤R)=true:=by rw [decide_eq_true_eq];omega
   subst e1
   subst e2
   clear hE HB H1 H2 H3 HD
   go_wp2_with fail
   go_ret2
   exact ⟨rfl,hb⟩
 ·obtain ⟨e1,e2⟩:=H1.out hE
  have hE':(E != 0)=true:=by simp [hE]
  subst e1
  subst e2
  clear hE HB H1 H2 H3 HD
  go_wp2_with fail
  go_ret2
  exact ⟨rfl,hb⟩
end
section
variable {N:Nat}{w:World}{F:Nat→Prop}{g:Nat}{h:Hd}{s:Of}
theorem oNow_any (hP:PO 0 N w F g h s) :
  Calls Tryz.prog 21 #[.pointer (some ⟨g,0,none⟩)] w fun e w'=>e=.returned (.int .i64 s.now)∧Below w.heap.size w w':=by
 obtain ⟨w2,hw2⟩:∃w2,w.alloc (.cells #[.pointer (some ⟨g,0,none⟩)] 35)=w2:=⟨_,rfl⟩
 have hb2:Below w.heap.size w w2:=by rw [← hw2];exact (Below.refl _ w).alloc (Nat.le_refl _) _
 have b1:Box w2 w.heap.size #[.pointer (some ⟨g,0,none⟩)]:=by rw [← hw2];exact Box.new w _ _
 have x1:=b1.cell 0
 simp only [gqA,gqB,gqC] at x1
 have hP2:=hP.below hb2
 have hgl:=hP.gl
 have hg2:=hP2.gl
 have hl1:=b1.lt
 have hK:∀args w,(callFunc 71 args).run Tryz.prog w=.ok (.enter 71 args) w:=enters_of Tryz.func71 (by kernel_rfl) rfl
 have hcl:=lockedInt_any hP2 (K:=71) (caps:=#[.pointer (some ⟨w.heap.size,0,none⟩)]) (E:=0) (Q:=fun v _=>v=.int .i64 s.now) hK
  ((cNow_any (hP2.lock rfl) ((b1.setg (by omega)).cell 0)).mono fun e w' hh=>⟨_,hh.1,rfl,by have:=hh.2;rw [set_size] at this;exact this⟩)
 have HC:=Lib.hid (hcl.mono fun e w' hh=>hh.plain (V:=.int .i64 s.now) (fun _ _ hv=>hv) fun hn=>absurd rfl hn)
 clear hcl hK
 go_enter Tryz.func21,Tryz.ntmps21
 go_wp2_with (go_at_call 70;(with_reducible refine HC.out.mono ?_);rintro e w3 ⟨rfl,hb3⟩)
 go_ret
 exact ⟨rfl,hb2.trans (hb3.mono hb2.size)⟩
theorem oPortions_any (hP:PO 0 N w F g h s)(d:Int) :
  Calls Tryz.prog 44 #[.pointer (some ⟨g,0,none⟩),.int .i64 d] w fun e w'=>e=.returned (.tuple #[.int .i64 (porR s d),.int .i64 (dayE s d)])∧Below w.heap.size w w':=by
 obtain ⟨w2,hw2⟩:∃w2,(w.alloc (.cells #[.pointer (some ⟨g,0,none⟩)] 35)).alloc (.cells #[.int .i64 d] 3)=w2:=⟨_,rfl⟩
 have hb2:Below w.heap.size w w2:=by rw [← hw2];exact ((Below.refl _ w).alloc (Nat.le_refl _) _).alloc (by simp) _
 have b1:Box w2 w.heap.size #[.pointer (some ⟨g,0,none⟩)]:=by rw [← hw2];exact (Box.new w _ _).alloc _
 have b2:Box w2 (w.heap.size+1) #[.int .i64 d]:=by rw [← hw2];exact (Box.new (w.alloc _) _ _).at' (by simp)
 have hl2:=b2.lt
 have x1:=b1.cell 0
 simp only [gqA,gqB,gqC] at x1
 have hP2:=hP.below hb2
 have hgl:=hP.gl
 have hg2:=hP2.gl
 have hl1:=b1.lt
 have hK:∀args w,(callFunc 108 args).run Tryz.prog w=.ok (.enter 108 args) w:=enters_of Tryz.func108 (by kernel_rfl) rfl
 have hR:dayE s d≠0→porR s d=0:=fun hn=>porR_no hn
 have hcl:=lockedInt_any hP2 (K:=108) (caps:=#[.pointer (some ⟨w.heap.size,0,none⟩),.pointer (some ⟨w.heap.size+1,0,none⟩)]) (E:=dayE s d) (Q:=fun v _=>v=.int .i64 (porR s d)) hK
  ((cPortions_any (hP2.lock rfl) d ((b1.setg (by omega)).cell 0) ((b2.setg (by omega)).cell 0)).mono fun e w' hh=>⟨_,hh.1,rfl,by have:=hh.2;rw [set_size] at this;exact this⟩)
 have HC:=Lib.hid (hcl.mono fun e w' hh=>hh.plain (V:=.int .i64 (porR s d)) (fun _ _ hv=>hv) fun hn=>by rw [hR hn])
 clear hcl hK
 go_enter Tryz.func44,Tryz.ntmps44
 go_wp2_with (go_at_call 70;(with_reducible refine HC.out.mono ?_);rintro e w3 ⟨rfl,hb3⟩)
 go_ret2
 exact ⟨rfl,hb2.trans (hb3.mono hb2.size)⟩
theorem oMeal_any (hP:PO 0 N w F g h s)(d:Int) :
  Calls Tryz.prog 49 #[.pointer (some ⟨g,0,none⟩),.int .i64 d] w fun e w'=>e=.returned (.tuple #[St (melR s d),.int .i64 (melE s d)])∧Below w.heap.size w w':=by
 obtain ⟨w2,hw2⟩:∃w2,(w.alloc (.cells #[.pointer (some ⟨g,0,none⟩)] 35)).alloc (.cells #[.int .i64 d] 3)=w2:=⟨_,rfl⟩
 have hb2:Below w.heap.size w w2:=by rw [← hw2];exact ((Below.refl _ w).alloc (Nat.le_refl _) _).alloc (by simp) _
 have b1:Box w2 w.heap.size #[.pointer (some ⟨g,0,none⟩)]:=by rw [← hw2];exact (Box.new w _ _).alloc _
 have b2:Box w2 (w.heap.size+1) #[.int .i64 d]:=by rw [← hw2];exact (Box.new (w.alloc _) _ _).at' (by simp)
 have hl2:=b2.lt
 have x1:=b1.cell 0
 simp only [gqA,gqB,gqC] at x1
 have hP2:=hP.below hb2
 have hgl:=hP.gl
 have hg2:=hP2.gl
 have hl1:=b1.lt
 have hK:∀args w,(callFunc 123 args).run Tryz.prog w=.ok (.enter 123 args) w:=enters_of Tryz.func123 (by kernel_rfl) rfl
 have hR:melE s d≠0→melR s d=[]:=fun hn=>by unfold melR;rw [if_neg hn]
 have hcl:=lockedStr_any hP2 (K:=123) (caps:=#[.pointer (some ⟨w.heap.size,0,none⟩),.pointer (some ⟨w.heap.size+1,0,none⟩)]) (E:=melE s d) (Q:=fun v _=>v=St (melR s d)) hK
  ((cMeal_any (hP2.lock rfl) d ((b1.setg (by omega)).cell 0) ((b2.setg (by omega)).cell 0) (by rw [set_size];exact hl1) (by rw [set_size];exact hl2)).mono fun e w' hh=>⟨_,hh.1,rfl,by have:=hh.2;rw [set_size] at this;exact this⟩)
 have HC:=Lib.hid (hcl.mono fun e w' hh=>hh.plain (V:=St (melR s d)) (fun _ _ hv=>hv) fun hn=>by rw [hR hn])
 clear hcl hK
 go_enter Tryz.func49,Tryz.ntmps49
 go_wp2_with (go_at_call 72;(with_reducible refine HC.out.mono ?_);rintro e w3 ⟨rfl,hb3⟩)
 go_ret2
 exact ⟨rfl,hb2.trans (hb3.mono hb2.size)⟩
theorem oFacts_any (hP:PO 0 N w F g h s) :
  Calls Tryz.prog 24 #[.pointer (some ⟨g,0,none⟩)] w fun e w'=>∃A c,e=.returned (.slice A s.facts.length c)∧ReadsF (fun k=>w.heap.size≤k) w' 5 A s.facts.length (cellsF s.facts)∧Below w.heap.size w w':=by
 obtain ⟨w2,hw2⟩:∃w2,w.alloc (.cells #[.pointer (some ⟨g,0,none⟩)] 35)=w2:=⟨_,rfl⟩
 have hb2:Below w.heap.size w w2:=by rw [← hw2];exact (Below.refl _ w).alloc (Nat.le_refl _) _
 have b1:Box w2 w.heap.size #[.pointer (some ⟨g,0,none⟩)]:=by rw [← hw2];exact Box.new w _ _
 have x1:=b1.cell 0
 simp only [gqA,gqB,gqC] at x1
 have hP2:=hP.below hb2
 have hgl:=hP.gl
 have hg2:=hP2.gl
 have hl1:=b1.lt
 have hK:∀args w,(callFunc 76 args).run Tryz.prog w=.ok (.enter 76 args) w:=enters_of Tryz.func76 (by kernel_rfl) rfl
 have hcl:=lockedFa_any hP2 (K:=76) (caps:=#[.pointer (some ⟨w.heap.size,0,none⟩)]) (E:=0) (Q:=fun v x=>∃A c,v=.slice A s.facts.length c∧ReadsF (fun k=>w2.heap.size≤k) x 5 A s.facts.length (cellsF s.facts)) hK
  ((cFacts_any (hP2.lock rfl) ((b1.setg (by omega)).cell 0)).mono fun e w' ⟨A,c,he,hr,hb⟩=>⟨_,he,⟨A,c,rfl,by rw [set_size] at hr;exact hr⟩,by rw [set_size] at hb;exact hb⟩)
 have HC:=Lib.hid (hcl.mono fun e w' hh=>hh.list hg2)
 clear hcl hK
 go_enter Tryz.func24,Tryz.ntmps24
 go_wp2_with (go_at_call 75;(with_reducible refine HC.out.mono ?_);rintro e w3 ⟨A,c,rfl,hr,hb3⟩)
 go_ret
 exact ⟨A,c,rfl,hr.mono fun k hk=>Nat.le_trans hb2.size hk,hb2.trans (hb3.mono hb2.size)⟩
theorem oDishes_any (hP:PO 0 N w F g h s) :
  Calls Tryz.prog 47 #[.pointer (some ⟨g,0,none⟩)] w fun e w'=>∃A c,e=.returned (.slice A s.dishes.length c)∧ReadsF (fun k=>w.heap.size≤k) w' 2 A s.dishes.length (cells2 s.dishes.length (fun k=>St (gd s.dishes k).name) (fun k=>.int .i64 (gd s.dishes k).item))∧Below w.heap.size w w':=by
 obtain ⟨w2,hw2⟩:∃w2,w.alloc (.cells #[.pointer (some ⟨g,0,none⟩)] 35)=w2:=⟨_,rfl⟩
 have hb2:Below w.heap.size w w2:=by rw [← hw2];exact (Below.refl _ w).alloc (Nat.le_refl _) _
 have b1:Box w2 w.heap.size #[.pointer (some ⟨g,0,none⟩)]:=by rw [← hw2];exact Box.new w _ _
 have x1:=b1.cell 0
 simp only [gqA,gqB,gqC] at x1
 have hP2:=hP.below hb2
 have hgl:=hP.gl
 have hg2:=hP2.gl
 have hl1:=b1.lt
 have hK:∀args w,(callFunc 118 args).run Tryz.prog w=.ok (.enter 118 args) w:=enters_of Tryz.func118 (by kernel_rfl) rfl
 have hcl:=lockedDs_any hP2 (K:=118) (caps:=#[.pointer (some ⟨w.heap.size,0,none⟩)]) (E:=0) (Q:=fun v x=>∃A c,v=.slice A s.dishes.length c∧ReadsF (fun k=>w2.heap.size≤k) x 2 A s.dishes.length (cells2 s.dishes.length (fun k=>St (gd s.dishes k).name) (fun k=>.int .i64 (gd s.dishes k).item))) hK
  ((cDishes_any (hP2.lock rfl) ((b1.setg (by omega)).cell 0)).mono fun e w' ⟨A,c,he,hr,hb⟩=>⟨_,he,⟨A,c,rfl,by rw [set_size] at hr;exact hr⟩,by rw [set_size] at hb;exact hb⟩)
 have HC:=Lib.hid (hcl.mono fun e w' hh=>hh.list hg2)
 clear hcl hK
 go_enter Tryz.func47,Tryz.ntmps47
 go_wp2_with (go_at_call 117;(with_reducible refine HC.out.mono ?_);rintro e w3 ⟨A,c,rfl,hr,hb3⟩)
 go_ret
 exact ⟨A,c,rfl,hr.mono fun k hk=>Nat.le_trans hb2.size hk,hb2.trans (hb3.mono hb2.size)⟩
end
end Go.Proofs.YtiapkffihpgdcaaGreatDoor
namespace Go.Proofs.YtiapkffihpgdcaaGreatDoor
open Go.RowKit Go.Sort
section
variable {w:World}{F:Nat→Prop}{g:Nat}{h:Hr}{s:Of}
theorem rchild_any (hP:RO w F g h s)(n:Int) :
  Calls Tryz.prog 98 #[.pointer (some ⟨g,0,none⟩),.int .i64 n] w fun e w'=>e=.returned (.int .i64 (kix s.kids n))∧w'=w:=by
 obtain ⟨S,hS⟩:∃S,S=kix s.kids n:=⟨_,rfl⟩
 rw [← hS]
 have HS:=Lib.hid hS;clear hS
 have q:=hP.cKd
 have hkl:=hP.ok.kl
 go_enter Tryz.func98,Tryz.ntmps98
 go_wp2
 go_loop [5] (fun x=>∃k:Nat,k≤s.kids.length∧x=.int .i64 k∧Hid (kidTo s.kids n k=false)) (fun x=>s.kids.length-(intOf x).toNat)
 case atStart=>exact ⟨0,by omega,rfl,rfl⟩
 case round =>
  obtain ⟨k,hk,rfl,HK⟩:=hrel
  by_cases hlt:k<s.kids.length
  ·obtain ⟨ad,hA,hab,_,d0,d1⟩:=hP.kids.at_ hlt
   rw [hA] at q
   by_cases hn:(gk s.kids k).num=n
   ·have HV:=Lib.hid (HS.out.trans (kix_first hlt hn HK.out))
    have hn':((gk s.kids k).num == n)=true:=by simp [hn]
    clear HS HK hn
    go_wp2
    go_ret
    exact ⟨ret_int HV.out.symm,rfl⟩
   ·have HN:=Lib.hid (kidTo_next HK.out hn)
    have hn':((gk s.kids k).num == n)=false:=by simp [hn]
    clear HS HK hn
    go_wp2
    go_round
    case rel=>exact ⟨k+1,by omega,by go_num,HN⟩
    case measure=>simp [intOf];omega
  ·obtain rfl:k=s.kids.length:=by omega
   have HV:=Lib.hid (HS.out.trans (kix_none HK.out))
   clear HS HK
   go_wp2
   go_ret
   exact ⟨ret_int HV.out.symm,rfl⟩
theorem ropn_any (hP:RO w F g h s)(d:Int) :
  Calls Tryz.prog 99 #[.pointer (some ⟨g,0,none⟩),.int .i64 d] w fun e w'=>e=.returned (.bool (s.opn d))∧w'=w:=by
 rw [Of.opn_mn]
 have q:w.cell? ⟨g,9,none⟩=some (.slice h.mn.1 (mnL s.tm s.cy).length h.mn.2):=hP.box.cell 9
 have hm:=hP.mn.rn
 obtain ⟨M,hM⟩:∃M,M=mnL s.tm s.cy:=⟨_,rfl⟩
 rw [← hM] at q hm ⊢
 clear hM
 by_cases h0:0≤d
 ·obtain ⟨n,rfl⟩:∃n:Nat,d=n:=⟨d.toNat,by omega⟩
  by_cases h1:n<M.length
  ·obtain ⟨ad,e,hab,c0⟩:=hm.at_ h1
   rw [e] at q
   by_cases h2:0≤gi M n
   all_goals
    go_enter Tryz.func99,Tryz.ntmps99
    go_wp2
    go_ret
    exact ⟨ret_bool (by first | (rw [decide_eq_decide];simp;omega) | (symm;rw [decide_eq_true_eq];exact ⟨by omega,by omega,by simpa using h2⟩) | (symm;rw [decide_eq_false_iff_not];simp;omega)),rfl⟩
  ·go_enter Tryz.func99,Tryz.ntmps99
   go_wp2
   go_ret
   exact ⟨ret_bool (by symm;rw [decide_eq_false_iff_not];omega),rfl⟩
 ·go_enter Tryz.func99,Tryz.ntmps99
  go_wp2
  go_ret
  exact ⟨ret_bool (by first | (symm;rw [decide_eq_false_iff_not];omega) | (simp;omega)),rfl⟩
theorem rhas_any9 (hP:RO w F g h s)(c d:Int) :
  Calls Tryz.prog 207 #[.pointer (some ⟨g,0,none⟩),.int .i64 c,.int .i64 d] w fun e w'=>e=.returned (.bool (eatB s c d))∧Below w.heap.size w w':=by
 have k0:=cell_regrown hP.cFa;have k1:=cell_regrown hP.cNow
 have hl:=hP.ok.fl
 have cA:∀d' os,Calls Tryz.prog 267 #[.slice h.fa.1 s.facts.length h.fa.2,.int .i64 s.now,.int .i64 c,.int .i64 d] (grow (redrawn w d') os) fun e w''=>e=.returned (.tuple #[.int .i64 (knownR s.facts s.now c d),.int .i64 (askE s.facts c d)])∧∃p:Regrown,w''=grow (redrawn w p.d) p.os:=fun d' os =>
  Calls.regrown_of (rknownX_any s.facts s.now c d (by omega) _ _ _ _ (hP.rf.below (below_regrown w d' os)))
 unfold eatB
 go_enter Tryz.func207,Tryz.ntmps207
 go_wp2_with fail
 refine wp_region_quiet_below (by kernel_rfl) (by kernel_rfl) ?_
 repeat (go_big_quiet_step (first | with_reducible exact cA _ _))
 refine wpQuiet_nil ?_
 intro _ hw'
 obtain ⟨⟨dq,osq⟩,hw''⟩:=hw'
 subst hw''
 go_wp2_with fail
 go_ret
 exact ⟨rfl,below_regrown w dq osq⟩
theorem rharms_any (hP:RO w F g h s)(num:Int)(av:List Int)(hav:av.length≤1000000000)(A:Option Addr)(c:Nat)(hR:RN w A av)(item:Int) :
  Calls Tryz.prog 206 #[.pointer (some ⟨g,0,none⟩),.int .i64 item,.agg #[.int .i64 num,.slice A av.length c]] w fun e w'=>e=.returned (.bool (harmB s.bk item av))∧Below w.heap.size w w':=by
 obtain ⟨w2,hw2⟩:∃w2,w.alloc (.cells #[.int .i64 num,.slice A av.length c] 208)=w2:=⟨_,rfl⟩
 have hy:Below w.heap.size w w2:=by rw [← hw2];exact (Below.refl _ w).alloc (Nat.le_refl _) _
 have b0:Box w2 w.heap.size #[.int .i64 num,.slice A av.length c]:=by rw [← hw2];exact Box.new w _ _
 have hP2:=hP.below hy
 have q8:=hP2.cProps;have q9:=hP2.cItems;have q10:=hP2.cRules
 have hL:=hP.ok.bk.len
 have hR2:=hR.below hy
 have hlt0:=b0.lt
 obtain ⟨S,hS⟩:∃S,S=harmB s.bk item av:=⟨_,rfl⟩
 rw [← hS]
 have HS:=Lib.hid hS;clear hS
 have hll:(labR s.bk item).length≤20:=by
  unfold labR
  by_cases hq:nmE s.bk item=0
  ·rw [if_pos hq];exact bitsL_len _
  ·rw [if_neg hq];simp
 go_enter Tryz.func206,Tryz.ntmps206
 go_wp2_with (go_at_call 106;(with_reducible refine (rLabel_any s.bk hL item _ _ _ _ _ _ _ _ _ hP2.bk).mono ?_);rintro e w3 ⟨A3,c3,rfl,own3,hb3⟩;have hL3:=RN.of_own own3;have b3:=b0.below hb3;have x1:=b3.cell 1;simp only [gqA,gqB,gqC] at x1;have hR3:=hR2.below hb3)
 clear own3
 go_loop [9] (fun x=>∃k:Nat,k≤av.length∧x=.int .i64 k∧Hid (anyTo (fun i=>hasB (labR s.bk item) (gi av i)) k=false)) (fun x=>av.length-(intOf x).toNat)
 case atStart=>exact ⟨0,by omega,rfl,rfl⟩
 case round =>
  obtain ⟨k,hk,rfl,HK⟩:=hrel
  by_cases hlt:k<av.length
  ·obtain ⟨ad,rfl,hab,c0⟩:=hR3.at_ hlt
   have hcon:=has_any (labR s.bk item) (gi av k) (by omega) A3 c3 w3 hL3
   cases hq:hasB (labR s.bk item) (gi av k) with
   | true =>
    have HV:=Lib.hid (HS.out.trans (show harmB s.bk item av=true from anyTo_yes (k:=k) (p:=fun i=>hasB (labR s.bk item) (gi av i)) hq hlt))
    rw [hq] at hcon
    have HC:=Lib.hid hcon
    clear HK HS hcon hq
    go_wp2_with (go_at_call 86;(with_reducible refine HC.out.mono ?_);rintro e w' ⟨rfl,hw'⟩;have hw4:=hw'.symm;clear hw';subst hw4)
    go_ret
    exact ⟨ret_bool HV.out.symm,hy.trans (hb3.mono hy.size)⟩
   | false =>
    have HN:Hid (anyTo (fun i=>hasB (labR s.bk item) (gi av i)) (k+1)=false):=by show _=_;simp only [anyTo];rw [HK.out,hq];rfl
    rw [hq] at hcon
    have HC:=Lib.hid hcon
    clear HK hcon hq
    go_wp2_with (go_at_call 86;(with_reducible refine HC.out.mono ?_);rintro e w' ⟨rfl,hw'⟩;have hw4:=hw'.symm;clear hw';subst hw4)
    go_round
    case rel=>exact ⟨k+1,by omega,by go_num,HN⟩
    case measure=>simp [intOf];omega
  ·obtain rfl:k=av.length:=by omega
   have HV:=Lib.hid (HS.out.trans (show harmB s.bk item av=false from HK.out))
   clear HS HK
   go_wp2
   go_ret
   exact ⟨ret_bool HV.out.symm,hy.trans (hb3.mono hy.size)⟩
theorem rMeal_any (hP:RO w F g h s)(d:Int) :
  Calls Tryz.prog 95 #[.pointer (some ⟨g,0,none⟩),.int .i64 d] w fun e w'=>e=.returned (.tuple #[St (melR s d),.int .i64 (melE s d)])∧Below w.heap.size w w':=by
 have hcp:=fun d' os=>rmenu_any s.cy d s.tm h.tr.1 h.tc.1 h.tr.2 h.tc.2 (grow (redrawn w d') os) (hP.rest.rn.below (below_regrown w d' os)) (hP.clo.rn.below (below_regrown w d' os)) (by have:=isSet_small hP.ok.tm.rest;omega) (by have:=hP.ok.tm.clo60;omega)
 obtain ⟨E,hE⟩:∃E,E=menuE s.tm s.cy d:=⟨_,rfl⟩
 obtain ⟨R,hR⟩:∃R,R=menuR s.tm s.cy d:=⟨_,rfl⟩
 rw [← hE,← hR] at hcp
 have cA:∀d' os,Calls Tryz.prog 178 #[.agg #[.int .i64 s.tm.len,.slice h.tr.1 s.tm.rest.length h.tr.2,.slice h.tc.1 s.tm.clo.length h.tc.2],.agg #[.int .i64 s.cy.n,.int .i64 s.cy.f,.int .i64 s.cy.k],.int .i64 d] (grow (redrawn w d') os) fun e w''=>e=.returned (.tuple #[.int .i64 R,.int .i64 E])∧∃p:Regrown,w''=grow (redrawn w p.d) p.os:=fun d' os =>
  Calls.regrown_of (hcp d' os)
 have k0:=cell_regrown hP.cLen;have k1:=cell_regrown hP.cRest;have k2:=cell_regrown hP.cClo;have k3:=cell_regrown hP.cN;have k4:=cell_regrown hP.cF;have k5:=cell_regrown hP.cK
 have k8:=cell_regrown hP.cDs
 have hdc:=fun d' os=>(hP.below (below_regrown w d' os)).dish
 have hbd:=fun (hn:menuE s.tm s.cy d=0)=>menuR_ge hP.ok.cy hn
 rw [← hE,← hR] at hbd
 have hv1:=fun hn=>melE_no (s:=s) (d:=d) hn
 have hv2:=fun hn hl=>melE_none (s:=s) (d:=d) hn hl
 have hv3:=fun hn hl=>melE_yes (s:=s) (d:=d) hn hl
 rw [← hE] at hv1
 rw [← hE,← hR] at hv2 hv3
 obtain ⟨VE,hVE⟩:∃VE,VE=melE s d:=⟨_,rfl⟩
 obtain ⟨VR,hVR⟩:∃VR,VR=melR s d:=⟨_,rfl⟩
 rw [← hVE,← hVR] at hv1 hv2 hv3 ⊢
 have H1:=Lib.hid hv1;have H2:=Lib.hid hv2;have H3:=Lib.hid hv3;have HB:=Lib.hid hbd;have HD:=Lib.hid hdc
 clear hcp hv1 hv2 hv3 hbd hdc hE hR hVE hVR
 go_enter Tryz.func95,Tryz.ntmps95
 go_wp2_with fail
 refine wp_region_quiet_below (by kernel_rfl) (by kernel_rfl) ?_
 repeat (go_big_quiet_step (first | with_reducible exact cA _ _))
 refine wpQuiet_nil ?_
 intro _ hw'
 obtain ⟨⟨dq,osq⟩,hw''⟩:=hw'
 subst hw''
 have hb:=below_regrown w dq osq
 by_cases hE:E=0
 ·obtain ⟨hR0,_⟩:=HB.out hE
  have hE':(E != 0)=false:=by simp [hE]
  by_cases hl:R<(s.dishes.length:Int)
  ·obtain ⟨e1,e2⟩:=H3.out hE hl
   have hl':decide ((s.dishes.length:Int)≤R)=false:=by rw [decide_eq_false_iff_not];omega
   obtain ⟨k,rfl⟩:=Int.eq_ofNat_of_zero_le hR0
   obtain ⟨ad,eA,hab,d0,d1⟩:=(HD.out dq osq).at_ (k:=k) (by omega)
   rw [eA] at k8
   subst e1
   rw [Int.toNat_natCast] at e2
   have HE2:=Lib.hid e2
   clear e2 hE HB H1 H2 H3 HD
   go_wp2_with fail
   go_ret2
   exact ⟨by rw [HE2.out];rfl,hb⟩
  ·obtain ⟨e1,e2⟩:=H2.out hE (by omega)
   have hl':decide ((s.dishes.length:Int)≤R)=true:=by rw [decide_eq_true_eq];omega
   subst e1
   subst e2
   clear hE HB H1 H2 H3 HD
   go_wp2_with fail
   go_ret2
   exact ⟨rfl,hb⟩
 ·obtain ⟨e1,e2⟩:=H1.out hE
  have hE':(E != 0)=true:=by simp [hE]
  subst e1
  subst e2
  clear hE HB H1 H2 H3 HD
  go_wp2_with fail
  go_ret2
  exact ⟨rfl,hb⟩
end
end Go.Proofs.YtiapkffihpgdcaaGreatDoor
namespace Go.Proofs.YtiapkffihpgdcaaGreatDoor
open Go.RowKit
theorem rnew_bad (t:Tm)(c:Cy)(b:Bk)(hlr:t.rest.length≤1000000000)(hlc:t.clo.length≤1000000000)(hL:BkLen b)(A1 A2:Option Addr)(c1 c2:Nat)(F0:Nat→Prop)(B1 B2:Option Addr)(d1 d2:Nat)(hp hq hr:Nat→SlH)(w:World)
  (h1:RN w A1 t.rest) (h2:RN w A2 t.clo) (hR:RBk F0 w B1 B2 b hp hq hr) (hne:newE t c b≠0) :
  Calls Tryz.prog 52 #[.agg #[.int .i64 t.len,.slice A1 t.rest.length c1,.slice A2 t.clo.length c2],.agg #[.int .i64 c.n,.int .i64 c.f,.int .i64 c.k],.agg #[.int .i64 b.props,.slice B1 b.items.length d1,.slice B2 b.rules.length d2]] w fun e w'=>e=.returned (.tuple #[.pointer none,.int .i64 (newE t c b)])∧Below w.heap.size w w':=by
 obtain ⟨w2,hw2⟩:∃w2,(((w.alloc (.cells #[.int .i64 t.len,.slice A1 t.rest.length c1,.slice A2 t.clo.length c2] 24)).alloc (.cells #[.int .i64 c.n,.int .i64 c.f,.int .i64 c.k] 26)).alloc (.cells #[.int .i64 b.props,.slice B1 b.items.length d1,.slice B2 b.rules.length d2] 30))=w2:=⟨_,rfl⟩
 have hy:Below w.heap.size w w2:=by rw [← hw2];exact (((Below.refl _ w).alloc (Nat.le_refl _) _).alloc (by simp) _).alloc (by simp;omega) _
 have b0:Box w2 w.heap.size #[.int .i64 t.len,.slice A1 t.rest.length c1,.slice A2 t.clo.length c2]:=by rw [← hw2];exact ((Box.new w _ _).alloc _).alloc _
 have b1:Box w2 (w.heap.size+1) #[.int .i64 c.n,.int .i64 c.f,.int .i64 c.k]:=by rw [← hw2];exact ((Box.new (w.alloc (.cells #[.int .i64 t.len,.slice A1 t.rest.length c1,.slice A2 t.clo.length c2] 24)) _ _).at' (by simp)).alloc _
 have b2:Box w2 (w.heap.size+1+1) #[.int .i64 b.props,.slice B1 b.items.length d1,.slice B2 b.rules.length d2]:=by rw [← hw2];exact (Box.new ((w.alloc (.cells #[.int .i64 t.len,.slice A1 t.rest.length c1,.slice A2 t.clo.length c2] 24)).alloc (.cells #[.int .i64 c.n,.int .i64 c.f,.int .i64 c.k] 26)) _ _).at' (by simp)
 have r1:=h1.below hy
 have r2:=h2.below hy
 have r3:=hR.below hy
 have x0:=b0.cell 0;have x1:=b0.cell 1;have x2:=b0.cell 2
 simp only [gqA,gqB,gqC] at x0 x1 x2
 have HV:=Lib.hid (rtvalidate_any t A1 A2 c1 c2 w2 r1 r2 hlr hlc)
 obtain ⟨E,hE⟩:∃E,E=newE t c b:=⟨_,rfl⟩
 rw [← hE] at hne ⊢
 have HE:=Lib.hid hE
 clear hE
 by_cases ht:tE t=0
 ·rw [ht] at HV
  by_cases hc:cE c=0
  ·have hEb:E=bkE b:=by rw [HE.out];unfold newE;rw [if_neg (by rw [ht];decide),if_neg (by rw [hc];decide)]
   have hbn:(E != 0)=true:=by simp [hne]
   have HEB:=Lib.hid hEb
   clear hEb hne
   go_enter Tryz.func52,Tryz.ntmps52
   go_wp2_with (first
    | (go_at_call 128;(with_reducible refine HV.out.mono ?_);rintro e wA ⟨rfl,hbA⟩;have y1:=b1.below hbA;have k0:=y1.cell 0;have k1:=y1.cell 1;have k2:=y1.cell 2;simp only [gqA,gqB,gqC] at k0 k1 k2)
    | (go_at_call 129;(with_reducible refine (rcvalidate_any c _).mono ?_);rintro e wB ⟨rfl,hbB⟩;rw [hc];have y2:=(b2.below hbA).below hbB;have n0:=y2.cell 0;have n1:=y2.cell 1;have n2:=y2.cell 2;simp only [gqA,gqB,gqC] at n0 n1 n2)
    | (go_at_call 130;(with_reducible refine (rvalidBk_any b hL F0 B1 B2 d1 d2 hp hq hr _ ((r3.below hbA).below hbB)).mono ?_);rintro e wC ⟨rfl,hbC⟩;rw [← HEB.out]))
   go_ret2
   exact ⟨rfl,hy.trans ((hbA.trans ((hbB.trans (hbC.mono hbB.size)).mono hbA.size)).mono hy.size)⟩
  ·have hEb:E=cE c:=by rw [HE.out];unfold newE;rw [if_neg (by rw [ht];decide),if_pos hc]
   have hbn:(E != 0)=true:=by simp [hne]
   have HEB:=Lib.hid hEb
   clear hEb hne hc
   go_enter Tryz.func52,Tryz.ntmps52
   go_wp2_with (first
    | (go_at_call 128;(with_reducible refine HV.out.mono ?_);rintro e wA ⟨rfl,hbA⟩;have y1:=b1.below hbA;have k0:=y1.cell 0;have k1:=y1.cell 1;have k2:=y1.cell 2;simp only [gqA,gqB,gqC] at k0 k1 k2)
    | (go_at_call 129;(with_reducible refine (rcvalidate_any c _).mono ?_);rintro e wB ⟨rfl,hbB⟩;rw [← HEB.out]))
   go_ret2
   exact ⟨rfl,hy.trans ((hbA.trans (hbB.mono hbA.size)).mono hy.size)⟩
 ·have hEb:E=tE t:=by rw [HE.out];unfold newE;rw [if_pos ht]
  have hbn:(E != 0)=true:=by simp [hne]
  rw [← hEb] at HV
  clear hEb hne ht
  go_enter Tryz.func52,Tryz.ntmps52
  go_wp2_with (go_at_call 128;(with_reducible refine HV.out.mono ?_);rintro e wA ⟨rfl,hbA⟩)
  go_ret2
  exact ⟨rfl,hy.trans (hbA.mono hy.size)⟩
end Go.Proofs.YtiapkffihpgdcaaGreatDoor
namespace Go.Proofs.YtiapkffihpgdcaaGreatDoor
open Go.RowKit Go.Sort
section
variable {w w':World}{F F':Nat→Prop}{g:Nat}{h h':Hr}{s s':Of}
theorem Jm.mono (hF:∀k,F k→F' k){k:Nat}(hi:Jm F g h k):Jm F' g h k:=⟨hF k hi.1,hi.2⟩
theorem RO.wide (hP:RO w F g h s)(hF:∀k,F k→F' k)(hl:∀k,F' k→7≤k∧k<w.heap.size):RO w F' g h s:=by
 have hi:∀k,Jm F g h k→Jm F' g h k:=fun k=>Jm.mono hF
 exact ⟨hP.box,hl,hF _ hP.gF,hP.rest.mono hi,hP.clo.mono hi,hP.bk.mono hi,hP.mn.mono hi,hP.fa.mono hi,hP.ri.mono hi,hP.kd.mono hi,fun k hk'=>(hP.av k hk').mono hi,hP.ds,hP.ck,hP.et,
  fun k e=>⟨hF _ (hP.dsF k e).1,(hP.dsF k e).2⟩,fun k e=>⟨hF _ (hP.ckF k e).1,(hP.ckF k e).2⟩,fun k e=>⟨hF _ (hP.etF k e).1,(hP.etF k e).2⟩,hP.ok,hP.fc⟩
theorem RO.grown_lo (hP:RO w F g h s)(hs:w.heap.size≤w'.heap.size):∀k,grown F w w' k→7≤k∧k<w'.heap.size:=fun k hk=>by
 rcases hk with hk | hk
 ·have:=hP.lo k hk;omega
 ·have:=hP.lo g hP.gF;omega
theorem RO.below' (hP:RO w F g h s)(hb:Below w.heap.size w w'):RO w' (grown F w w') g h s:=(hP.below hb).wide (fun _ hk=>.inl hk) (hP.grown_lo hb.size)
theorem RO.re (hP:RO w F g h s)(hF:∀k,F k=F' k):RO w F' g h s:=by
 have:F=F':=funext hF
 rw [← this];exact hP
/-- What is new is no block that is written to. -/
theorem RO.new_jm (hP:RO w F g h s){k:Nat}(h1:w.heap.size≤k)(h2:k<w'.heap.size):Jm (grown F w w') g h k:=by
 have a1:=hP.gl
 refine ⟨.inr ⟨h1,h2⟩,by omega,fun e=>?_,fun e=>?_,fun e=>?_⟩
 ·have:=(hP.lo k (hP.dsF k e).1).2;omega
 ·have:=(hP.lo k (hP.ckF k e).1).2;omega
 ·have:=(hP.lo k (hP.etF k e).1).2;omega
/-- What a method of the document's office leaves that writes. -/
def RetR (w:World)(F:Nat→Prop)(g:Nat)(code:Int)(s':Of)(e:Ending)(w':World):Prop :=
 e=.returned (.int .i64 code)∧Off F w w'∧∃h',RO w' (grown F w w') g h' s'
theorem RO.quiet (hP:RO w F g h s){code:Int}(hb:Below w.heap.size w w'):RetR w F g code s (.returned (.int .i64 code)) w':=⟨rfl,.of_below hb,h,hP.below' hb⟩
/-- Stores into the office's own cells;the lists that nothing writes to may be others. -/
theorem RO.put (hP:RO w F g h s)(box:Box w' g (cellsR s' h'))(hk:Keeps (fun k=>k≠g) w w')(e:s'.tm=s.tm∧s'.cy=s.cy∧s'.bk=s.bk∧s'.cooked=s.cooked∧s'.eaten=s.eaten∧s'.dishes=s.dishes)
  (eh:h'.tr=h.tr∧h'.tc=h.tc∧h'.bi=h.bi∧h'.br=h.br∧h'.hp=h.hp∧h'.hq=h.hq∧h'.hr=h.hr∧h'.mn=h.mn∧h'.ck=h.ck∧h'.et=h.et∧h'.ds=h.ds)
  (fa:ReadsF (Jm F g h) w 5 h'.fa.1 s'.facts.length (cellsF s'.facts)) (ri:ReadsF (Jm F g h) w 3 h'.ri.1 s'.rights.length (cellsS s'.rights))
  (kd:ReadsF (Jm F g h) w 2 h'.kd.1 s'.kids.length (cells2 s'.kids.length (fun k=>.int .i64 (gk s'.kids k).num) (fun k=>slN (h'.hk k) (gk s'.kids k).avoid.length)))
  (av:∀k,k<s'.kids.length→RNF (Jm F g h) w (h'.hk k).1 (gk s'.kids k).avoid) (ok:OfOk s') (fc:s'.facts.length≤h'.fa.2):RO w' F g h' s':=by
 obtain ⟨e1,e2,e3,e4,e5,e6⟩:=e
 obtain ⟨r1,r2,r3,r4,r5,r6,r7,r8,r9,r10,r11⟩:=eh
 have hJ:Jm F g h'=Jm F g h:=by funext k;unfold Jm;rw [r9,r10,r11]
 have hi:Keeps (Jm F g h) w w':=hk.mono fun k hk=>hk.2.1
 have hd:s'.days=s.days:=by unfold Of.days;rw [e1]
 refine ⟨box,fun k hk'=>⟨(hP.lo k hk').1,Nat.lt_of_lt_of_le (hP.lo k hk').2 hk.size⟩,hP.gF,?_,?_,?_,?_,?_,?_,?_,?_,?_,?_,?_,?_,?_,?_,ok,fc⟩
 ·rw [hJ,r1,e1];exact hP.rest.kept hi
 ·rw [hJ,r2,e1];exact hP.clo.kept hi
 ·rw [hJ,r3,r4,r5,r6,r7,e3];exact hP.bk.kept hi
 ·rw [hJ,r8,e1,e2];exact hP.mn.kept hi
 ·rw [hJ];exact fa.kept hi
 ·rw [hJ];exact ri.kept hi
 ·rw [hJ];exact kd.kept hi
 ·rw [hJ];exact fun k hk'=>(av k hk').kept hi
 ·rw [r11,e6];exact own_kept hP.ds hk fun k e=>(hP.dsF k (by rw [own_blk] at e;exact e)).2
 ·rw [r9,e4,hd];exact own_kept hP.ck hk fun k e=>(hP.ckF k (by rw [own_blk] at e;exact e)).2
 ·rw [r10,e5,hd];exact own_kept hP.et hk fun k e=>(hP.etF k (by rw [own_blk] at e;exact e)).2.1
 ·rw [r11];exact hP.dsF
 ·rw [r9];exact hP.ckF
 ·rw [r9,r10];exact hP.etF
theorem keeps_g {g j:Nat}(w:World)(v:Value):Keeps (fun k=>k≠g) w (w.setCell ⟨g,j,none⟩ v):=⟨by rw [set_size];exact Nat.le_refl _,fun k hk _=>set_other _ _ _ _ hk⟩
theorem Keeps.trans' {a b c:World}(h1:Keeps F a b)(h2:Keeps F b c):Keeps F a c:=⟨Nat.le_trans h1.size h2.size,fun k hk hs=>(h2.block k hk (Nat.lt_of_lt_of_le hs h1.size)).trans (h1.block k hk hs)⟩
/-- The minute turns. -/
theorem RO.setNow (hP:RO w F g h s)(n:Int)(ok:OfOk { s with now:=n }):RO (w.setCell ⟨g,10,none⟩ (.int .i64 n)) F g h { s with now:=n } :=
 hP.put (hP.box.set 10 _ (by simp [cellsR])) (keeps_g _ _) ⟨rfl,rfl,rfl,rfl,rfl,rfl⟩ ⟨rfl,rfl,rfl,rfl,rfl,rfl,rfl,rfl,rfl,rfl,rfl⟩ hP.fa hP.ri hP.kd hP.av ok hP.fc
theorem RO.setFacts (hP:RO w F g h s){A:Option Addr}{c:Nat}{l:List Fact}(hr:ReadsF (Jm F g h) w 5 A l.length (cellsF l))(hc:l.length≤c)(ok:OfOk { s with facts:=l }) :
  RO (w.setCell ⟨g,13,none⟩ (.slice A l.length c)) F g { h with fa:=(A,c) } { s with facts:=l } :=
 hP.put (hP.box.set 13 _ (by simp [cellsR])) (keeps_g _ _) ⟨rfl,rfl,rfl,rfl,rfl,rfl⟩ ⟨rfl,rfl,rfl,rfl,rfl,rfl,rfl,rfl,rfl,rfl,rfl⟩ hr hP.ri hP.kd hP.av ok hc
theorem RO.setRights (hP:RO w F g h s){A:Option Addr}{c:Nat}{l:List Sp}(hr:ReadsF (Jm F g h) w 3 A l.length (cellsS l))(ok:OfOk { s with rights:=l }) :
  RO (w.setCell ⟨g,14,none⟩ (.slice A l.length c)) F g { h with ri:=(A,c) } { s with rights:=l } :=
 hP.put (hP.box.set 14 _ (by simp [cellsR])) (keeps_g _ _) ⟨rfl,rfl,rfl,rfl,rfl,rfl⟩ ⟨rfl,rfl,rfl,rfl,rfl,rfl,rfl,rfl,rfl,rfl,rfl⟩ hP.fa hr hP.kd hP.av ok hP.fc
theorem RO.setKids (hP:RO w F g h s){A:Option Addr}{c:Nat}{l:List Kd}{hk:Nat→SlH}(hr:ReadsF (Jm F g h) w 2 A l.length (cells2 l.length (fun k=>.int .i64 (gk l k).num) (fun k=>slN (hk k) (gk l k).avoid.length)))
  (hv:∀k,k<l.length→RNF (Jm F g h) w (hk k).1 (gk l k).avoid) (ok:OfOk { s with kids:=l }) :
  RO (w.setCell ⟨g,12,none⟩ (.slice A l.length c)) F g { h with kd:=(A,c),hk:=hk } { s with kids:=l } :=
 hP.put (hP.box.set 12 _ (by simp [cellsR])) (keeps_g _ _) ⟨rfl,rfl,rfl,rfl,rfl,rfl⟩ ⟨rfl,rfl,rfl,rfl,rfl,rfl,rfl,rfl,rfl,rfl,rfl⟩ hP.fa hP.ri hr hv ok hP.fc
/-- The order is counted and written down. -/
theorem RO.setOrders (hP:RO w F g h s){l:List Wd}(ok:OfOk { s with orders:=l }) :
  RO ((w.setCell ⟨g,17,none⟩ (.int .i64 l.length)).setCell ⟨g,18,none⟩ (St (bok { s with orders:=l }))) F g h { s with orders:=l } :=
 hP.put ((hP.box.set 17 (.int .i64 l.length) (by simp [cellsR])).set 18 (St (bok { s with orders:=l })) (by simp [cellsR])) ((keeps_g _ _).trans' (keeps_g _ _)) ⟨rfl,rfl,rfl,rfl,rfl,rfl⟩ ⟨rfl,rfl,rfl,rfl,rfl,rfl,rfl,rfl,rfl,rfl,rfl⟩ hP.fa hP.ri hP.kd hP.av ok hP.fc
theorem rat_any (hP:RO w F g h s)(n:Int) :
  Calls Tryz.prog 135 #[.pointer (some ⟨g,0,none⟩),.int .i64 n] w (RetR w F g (if n<s.now then 7 else if 1440000<n then 4 else 0) (if n<s.now then s else if 1440000<n then s else { s with now:=n })):=by
 have q:=hP.cNow
 have q2:=hP.box.free 10
 by_cases h1:n<s.now
 ·rw [if_pos h1,if_pos h1]
  go_enter Tryz.func135,Tryz.ntmps135
  go_wp2
  go_ret
  exact hP.quiet (Below.refl _ _)
 ·rw [if_neg h1,if_neg h1]
  by_cases h2:1440000<n
  ·rw [if_pos h2,if_pos h2]
   go_enter Tryz.func135,Tryz.ntmps135
   go_wp2
   go_ret
   exact hP.quiet (Below.refl _ _)
  ·rw [if_neg h2,if_neg h2]
   have hs':=hP.setNow n (hP.ok.at_ (by omega) (by omega))
   go_enter Tryz.func135,Tryz.ntmps135
   go_wp2
   go_ret
   refine ⟨rfl,(Off.refl F w).setCell (.inl hP.gF) _,h,hs'.wide (fun _ hk=>.inl hk) fun k hk=>?_⟩
   rw [set_size]
   rcases hk with hk | hk
   ·exact hP.lo k hk
   ·rw [set_size] at hk;omega
theorem ints_set9 (l:List Int)(n:Nat)(v:Int):(ints l).set n (.int .i64 v)=ints (l.set n v):=by simp [ints,List.map_set]
/-- One of the two rows for the days is written. -/
theorem RO.setCook (hP:RO w F g h s){b n:Nat}(hA:h.ck.1=some ⟨b,0,none⟩)(hn:n<s.days)(v:Int)(ok:OfOk { s with cooked:=updF s.cooked n v }) :
  RO (w.setCell ⟨b,n,none⟩ (.int .i64 v)) F g h { s with cooked:=updF s.cooked n v }:=by
 have hb:blkOf h.ck=some b:=by unfold blkOf;rw [hA];rfl
 obtain ⟨hbF,hbg⟩:=hP.ckF b hb
 have hk:Keeps (fun k=>k≠b) w (w.setCell ⟨b,n,none⟩ (.int .i64 v)):=keeps_g _ _
 have hi:Keeps (Jm F g h) w (w.setCell ⟨b,n,none⟩ (.int .i64 v)):=hk.mono fun k hk e=>hk.2.2.2.1 (by rw [hb,e])
 have hrow:=hP.ck
 have hcv:slN h.ck (dyTo s.cooked s.days).length=.slice (some ⟨b,0,none⟩) (dyTo s.cooked s.days).length h.ck.2:=by unfold slN;rw [hA]
 rw [hcv] at hrow
 have hst:=(World.ownsRow.stored hrow n (.int .i64 v)).1
 have hset:(ints (dyTo s.cooked s.days)).set n (.int .i64 v)=ints (dyTo (updF s.cooked n v) s.days):=by rw [← dyTo_set _ _ _ _ hn];exact ints_set9 _ _ _
 rw [hset] at hst
 have hlen:(dyTo s.cooked s.days).length=(dyTo (updF s.cooked n v) s.days).length:=by rw [dyTo_len,dyTo_len]
 have hbox:Box (w.setCell ⟨b,n,none⟩ (.int .i64 v)) g (cellsR { s with cooked:=updF s.cooked n v } h):=by
  have hx:=hP.box.kept hk (Ne.symm hbg)
  have hc:cellsR { s with cooked:=updF s.cooked n v } h=cellsR s h:=by
   unfold cellsR
   rw [show (dyTo ({ s with cooked:=updF s.cooked n v }:Of).cooked ({ s with cooked:=updF s.cooked n v }:Of).days).length=(dyTo s.cooked s.days).length from hlen.symm]
   rfl
  rw [hc];exact hx
 refine ⟨hbox,fun k hk'=>by rw [set_size];exact hP.lo k hk',hP.gF,hP.rest.kept hi,hP.clo.kept hi,hP.bk.kept hi,hP.mn.kept hi,hP.fa.kept hi,hP.ri.kept hi,hP.kd.kept hi,fun k hk'=>(hP.av k hk').kept hi,?_,?_,?_,hP.dsF,hP.ckF,hP.etF,ok,hP.fc⟩
 ·refine own_kept hP.ds hk fun k e=>?_
  rintro rfl
  exact own_ty_ne hP.ds hP.ck (by decide) (by rw [own_blk];exact hb) e
 ·show World.ownsRow _ _ _ _ (slN h.ck (dyTo (updF s.cooked n v) s.days).length) (dyTo (updF s.cooked n v) s.days).length _
  rw [← hlen,hcv];exact hst
 ·refine own_kept hP.et hk fun k e=>?_
  rintro rfl
  exact (hP.etF k (by rw [own_blk] at e;exact e)).2.2 hb
theorem RO.setEat (hP:RO w F g h s){b n:Nat}(hA:h.et.1=some ⟨b,0,none⟩)(hn:n<s.days)(v:Int)(ok:OfOk { s with eaten:=updF s.eaten n v }) :
  RO (w.setCell ⟨b,n,none⟩ (.int .i64 v)) F g h { s with eaten:=updF s.eaten n v }:=by
 have hb:blkOf h.et=some b:=by unfold blkOf;rw [hA];rfl
 obtain ⟨hbF,hbg,hbc⟩:=hP.etF b hb
 have hk:Keeps (fun k=>k≠b) w (w.setCell ⟨b,n,none⟩ (.int .i64 v)):=keeps_g _ _
 have hi:Keeps (Jm F g h) w (w.setCell ⟨b,n,none⟩ (.int .i64 v)):=hk.mono fun k hk e=>hk.2.2.2.2 (by rw [hb,e])
 have hrow:=hP.et
 have hcv:slN h.et (dyTo s.eaten s.days).length=.slice (some ⟨b,0,none⟩) (dyTo s.eaten s.days).length h.et.2:=by unfold slN;rw [hA]
 rw [hcv] at hrow
 have hst:=(World.ownsRow.stored hrow n (.int .i64 v)).1
 have hset:(ints (dyTo s.eaten s.days)).set n (.int .i64 v)=ints (dyTo (updF s.eaten n v) s.days):=by rw [← dyTo_set _ _ _ _ hn];exact ints_set9 _ _ _
 rw [hset] at hst
 have hlen:(dyTo s.eaten s.days).length=(dyTo (updF s.eaten n v) s.days).length:=by rw [dyTo_len,dyTo_len]
 have hbox:Box (w.setCell ⟨b,n,none⟩ (.int .i64 v)) g (cellsR { s with eaten:=updF s.eaten n v } h):=by
  have hx:=hP.box.kept hk (Ne.symm hbg)
  have hc:cellsR { s with eaten:=updF s.eaten n v } h=cellsR s h:=by
   unfold cellsR
   rw [show (dyTo ({ s with eaten:=updF s.eaten n v }:Of).eaten ({ s with eaten:=updF s.eaten n v }:Of).days).length=(dyTo s.eaten s.days).length from hlen.symm]
   rfl
  rw [hc];exact hx
 refine ⟨hbox,fun k hk'=>by rw [set_size];exact hP.lo k hk',hP.gF,hP.rest.kept hi,hP.clo.kept hi,hP.bk.kept hi,hP.mn.kept hi,hP.fa.kept hi,hP.ri.kept hi,hP.kd.kept hi,fun k hk'=>(hP.av k hk').kept hi,?_,?_,?_,hP.dsF,hP.ckF,hP.etF,ok,hP.fc⟩
 ·refine own_kept hP.ds hk fun k e=>?_
  rintro rfl
  exact own_ty_ne hP.ds hP.et (by decide) (by rw [own_blk];exact hb) e
 ·refine own_kept hP.ck hk fun k e=>?_
  rintro rfl
  exact hbc (by rw [own_blk] at e;exact e)
 ·show World.ownsRow _ _ _ _ (slN h.et (dyTo (updF s.eaten n v) s.days).length) (dyTo (updF s.eaten n v) s.days).length _
  rw [← hlen,hcv];exact hst
end
end Go.Proofs.YtiapkffihpgdcaaGreatDoor
