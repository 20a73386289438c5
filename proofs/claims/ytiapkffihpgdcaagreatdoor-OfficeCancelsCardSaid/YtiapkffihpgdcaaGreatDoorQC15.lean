import Derived.Test.YtiapkffihpgdcaaGreatDoorQC13
import Derived.Test.YtiapkffihpgdcaaGreatDoorQC14
import Derived.Deep.RegionLaw
import Derived.BigQuiet
import Derived.Deep.RegionWith
set_option linter.unusedVariables false
set_option linter.unusedSimpArgs false
set_option maxRecDepth 100000
set_option maxHeartbeats 4000000
namespace Go.Proofs.YtiapkffihpgdcaaGreatDoor
open Go.RowKit
/-- As step_app2,but tells all that the append leaves. -/
theorem step_app3 {P : Program} {W : World} {ops : Array Oper} {o : Oper} {a : Act} {K : Act → World → Prop} {Q : Exit → Act → World → Prop} {E : Prop} (hgd : o.guard = none) (s x : Operand) {t e : TypeId}
    (ho : o.op = .call { callee := .builtin .append, args := #[s, x], argTypes := #[t, t] }) {z : Value} {size bytes : Nat} (ht : P.underlying t = some (.slice e))
    (hinfo : (P.info? e).map (fun i => (i.zero, i.size, i.bytes)) = some (some z, size, bytes)) (hzs : z.cells.size = size) (hsz : 0 < size)
    {base : Nat} {A : Option Addr} {n c : Nat} {xs : List Value} (hs : a.eval s = .slice A n c) (hown : W.ownsRow base e size (.slice A n c) n xs)
    {news : List Value} (ad : Addr) (hx : a.eval x = .slice (some ad) 1 1) (hl : news.length = size) (hnews : ∀ j u, news[j]? = some u → W.cell? (ad.add j) = some u) (h1 : ∀ u ∈ news, u.oneCell' = true)
    (hn : n + 1 ≤ 1000000000) (hbytes : bytes ≤ 1000) (hbase : base ≤ W.heap.size)
    (h : ∀ A' c' w', w'.ownsRow base e size (.slice A' (n + 1) c') (n + 1) (xs ++ news) → W.grownBy w' (blkOf (A, c)) → (blkOf (A', c') = blkOf (A, c) ∨ blkOf (A', c') = some W.heap.size) → K (a.put o.dst (.slice A' (n + 1) c')) w') :
    if Region.wanted o (yielded ops a.tmps) = true then Oper.wp P o a W K Q else E := by
  have hw : Region.wanted o (yielded ops a.tmps) = true := by simp [Region.wanted, hgd]
  rw [if_pos hw]
  obtain ⟨i, hi, hz0, hz1, hz2⟩ := info_parts hinfo
  have hb : (n + 1) * bytes ≤ 140737488355328 := by
    have : (n + 1) * bytes ≤ 1000000000 * 1000 := Nat.mul_le_mul hn hbytes
    omega
  have e1 : (Value.slice A n c).ownBlock = blkOf (A, c) := own_blk (A, c) n
  refine wp_append_any W s x t ho base e i z size bytes ht hi hz0 hz1 hz2 hzs hsz _ n xs hs hown (ad.block + 1) (some ad) 1 1 news hx ⟨by omega, fun _ => ⟨ad, rfl, by omega, hnews⟩⟩ h1 (by unfold maxLen; omega) hb hbase ?_
  intro v' w' hown' hg hx'
  obtain ⟨A', c', hv⟩ := own_shape hown'
  rw [hv] at hown' hx'
  rw [hv]
  rw [e1] at hg hx'
  have e2 : (Value.slice A' (n + 1) c').ownBlock = blkOf (A', c') := own_blk (A', c') (n + 1)
  rw [e2] at hx'
  exact h A' c' w' hown' hg hx'
theorem info_dish:(Tryz.prog.info? 81).map (fun i=>(i.zero,i.size,i.bytes))=some (some (.agg #[St [],.int .i64 0]),2,24):=by kernel_rfl
section
variable {L:Int}{N:Nat}{w:World}{F:Nat→Prop}{g:Nat}{h:Hd}{s:Of}
theorem serve_any (hP:PO L N w F g h s)(hE:EnvZ w)(name:Wd)(hn:letB name=true)(hn60:name.length≤1000000000)(item:Int)(h0:0≤item) :
  Calls Tryz.prog 236 #[.pointer (some ⟨g,0,none⟩),St name,.int .i64 item] w (RetO L N w F g (serE s name item) (if serE s name item=0 then { s with dishes:=s.dishes ++ [⟨name,item⟩] } else s)):=by
 have hne:0<name.length:=by
  cases name with
  | nil=>simp [letB] at hn
  | cons a r=>simp
 obtain ⟨E,hEE⟩:∃E,E=serE s name item:=⟨_,rfl⟩
 rw [← hEE]
 obtain ⟨T,hT⟩:∃T,T=if E=0 then { s with dishes:=s.dishes ++ [⟨name,item⟩] } else s:=⟨_,rfl⟩
 rw [← hT]
 have HT:=Lib.hid hT
 have HE:=Lib.hid hEE
 clear hT hEE
 obtain ⟨w2,hw2⟩:∃w2,w.alloc (.cells #[St name] 9)=w2:=⟨_,rfl⟩
 have hy:Below w.heap.size w w2:=by rw [← hw2];exact (Below.refl _ w).alloc (Nat.le_refl _) _
 have b0:Box w2 w.heap.size #[St name]:=by rw [← hw2];exact Box.new w _ _
 have x0:=b0.cell 0
 simp only [gqA,gqB,gqC] at x0
 have hP2:=hP.below hy
 have hE2:=hE.below hy
 have q13:=hP2.cDs;have q5:=hP2.cN;have q9:=hP2.cItems
 have hdl:=hP.ok.dl
 have hcn:=hP.ok.cy.n2
 have hbd:∀{c:Int} {w':World},E=c→c≠0→Below w2.heap.size w2 w'→RetO L N w F g E T (.returned (.int .i64 c)) w':=fun {c w'} h1 h2 hb=>by
  have:T=s:=by rw [HT.out,if_neg (by rw [h1];exact h2)]
  rw [this,h1]
  exact hP.quiet (Nat.le_refl _) (hy.trans (hb.mono hy.size))
 have HBD:Hid (∀{c:Int} {w':World},E=c→c≠0→Below w2.heap.size w2 w'→RetO L N w F g E T (.returned (.int .i64 c)) w'):=hbd
 clear hbd
 by_cases hc:s.cy.n≤(s.dishes.length:Int)
 ·have hc':decide (s.cy.n≤(s.dishes.length:Int))=true:=by rw [decide_eq_true_eq];exact hc
  have HV:=Lib.hid (show E=12 by rw [HE.out,serE,if_pos hc])
  go_enter Tryz.func236,Tryz.ntmps236
  go_wp2
  go_ret
  exact HBD.out HV.out (by decide) (Below.refl _ _)
 ·have hc':decide (s.cy.n≤(s.dishes.length:Int))=false:=by rw [decide_eq_false_iff_not];exact hc
  have hsz:0<ByteArray.size ⟨name.toArray⟩:=by rw [st_size];exact hne
  have hg0:=st_get name 0 hsz
  have hgb:gb name 0=(⟨name.toArray⟩:ByteArray)[0]'hsz:=by rw [hg0];simp [gb,hne]
  by_cases h8:8<name.length
  ·have HV:=Lib.hid (show E=2 by rw [HE.out,serE,if_neg hc,if_pos (by unfold nameB;rw [decide_eq_false (by omega)];rfl)])
   go_enter Tryz.func236,Tryz.ntmps236
   go_wp2
   go_ret
   exact HBD.out HV.out (by decide) (Below.refl _ _)
  by_cases h97:((⟨name.toArray⟩:ByteArray)[0]'hsz).toNat<97
  ·have HV:=Lib.hid (show E=2 by rw [HE.out,serE,if_neg hc,if_pos (by unfold nameB;rw [hgb,decide_eq_false (by omega)];rfl)])
   clear hg0 hgb
   go_enter Tryz.func236,Tryz.ntmps236
   go_wp2
   go_ret
   exact HBD.out HV.out (by decide) (Below.refl _ _)
  cases hd:dishB s.dishes name with
  | true =>
   have HV:=Lib.hid (show E=2 by rw [HE.out,serE,if_neg hc,if_pos (by unfold nameB;rw [hd,Bool.not_true,Bool.and_false])])
   clear hg0 hgb
   go_enter Tryz.func236,Tryz.ntmps236
   go_wp2_with (go_at_call 285;(with_reducible refine (containsDish_any s.dishes name (by omega) _ _ _ _ hP2.dish x0 b0.lt).mono ?_);rintro e w3 ⟨rfl,hb3⟩;rw [hd])
   go_ret
   exact HBD.out HV.out (by decide) hb3
  | false =>
   have hnm:nameB s name=true:=by unfold nameB;rw [hgb,hd,decide_eq_true (by omega)];rfl
   have HNM:=Lib.hid hnm
   clear hg0 hgb hnm
   by_cases hi:(s.bk.items.length:Int)≤item
   ·have hi':decide ((s.bk.items.length:Int)≤item)=true:=by rw [decide_eq_true_eq];exact hi
    have HV:=Lib.hid (show E=5 by rw [HE.out,serE,if_neg hc,if_neg (by rw [HNM.out];decide),if_pos hi])
    go_enter Tryz.func236,Tryz.ntmps236
    go_wp2_with (go_at_call 285;(with_reducible refine (containsDish_any s.dishes name (by omega) _ _ _ _ hP2.dish x0 b0.lt).mono ?_);rintro e w3 ⟨rfl,hb3⟩;rw [hd];have hP3:=hP2.below hb3;have r9:=hP3.cItems)
    go_ret
    exact HBD.out HV.out (by decide) hb3
   ·have hi':decide ((s.bk.items.length:Int)≤item)=false:=by rw [decide_eq_false_iff_not];exact hi
    have hev:E=if anyTo (hurtB s item) s.kids.length then 14 else 0:=by rw [HE.out,serE,if_neg hc,if_neg (by rw [HNM.out];decide),if_neg hi]
    have HEV:=Lib.hid hev
    clear hev
    obtain ⟨kA,hkA⟩:∃kA,h.kd.1=kA:=⟨_,rfl⟩
    have HKA:=Lib.hid hkA
    obtain ⟨mA,hmA⟩:∃mA,h.mn.1=mA:=⟨_,rfl⟩
    have HMA:=Lib.hid hmA
    clear hkA hmA
    have h8':decide ((8:Int)<(name.length:Int))=false:=by rw [decide_eq_false_iff_not];omega
    have h97':decide ((((⟨name.toArray⟩:ByteArray)[0]'hsz).toNat:Int)<97)=false:=by rw [decide_eq_false_iff_not];omega
    go_enter Tryz.func236,Tryz.ntmps236
    go_wp2_with (go_at_call 285;(with_reducible refine (containsDish_any s.dishes name (by omega) _ _ _ _ hP2.dish x0 b0.lt).mono ?_);rintro e w3 ⟨rfl,hb3⟩;rw [hd];have hP3:=hP2.below hb3;have r9:=hP3.cItems;have r14:=hP3.cKd;have HKAX:=HKA.out;rw [HKAX] at r14;clear HKAX)
    have hP3:=hP2.below hb3
    have hE3:=hE2.below hb3
    have hx3:=b0.below hb3
    have hy3:=hy.trans (hb3.mono hy.size)
    have hdays:=days_le hP.ok.tm
    have hk100:=hP.ok.kl
    clear x0 q13 q5 q9 hP2 hE2 hw2 b0 r9 r14 hE
    go_loopw [56] (fun x wr=>∃k:Nat,k≤s.kids.length∧x=.int .i64 k∧Hid (anyTo (hurtB s item) k=false)∧Below w3.heap.size w3 wr) (fun x _=>s.kids.length-(intOf x).toNat)
    case atStart=>exact ⟨0,by omega,rfl,rfl,Below.refl _ _⟩
    case round =>
     obtain ⟨k,hkl,rfl,HK,hbl⟩:=hrel
     have hs3:=hbl.size
     have hPk:=hP3.below hbl
     by_cases hlt:k<s.kids.length
     ·obtain ⟨adK,eK,hbK,_,dK0,dK1⟩:=hPk.kids.at_ hlt
      obtain rfl:kA=some adK:=HKA.out.symm.trans eK
      clear eK
      unfold slN at dK1
      have hvd:=(hPk.av k hlt).rn
      have hp0:=hP.ok.bk.p0
      have hp10:=hP.ok.bk.p10
      have hvl:(gk s.kids k).avoid.length≤1000000000:=by have:=isSet_len (hP.ok.ka _ (gk_mem hlt)) (by omega);omega
      have hub:hurtB s item k=(harmB s.bk item (gk s.kids k).avoid && anyTo (fun d=>s.menu d == (s.dishes.length:Int) && eatB s (gk s.kids k).num d) s.days):=rfl
      obtain ⟨av,hav⟩:∃av,av=(gk s.kids k).avoid:=⟨_,rfl⟩
      obtain ⟨nu,hnu⟩:∃nu,nu=(gk s.kids k).num:=⟨_,rfl⟩
      rw [← hav] at dK1 hvd hvl hub
      rw [← hnu] at dK0 hub
      obtain ⟨H,hH⟩:∃H,H=harmB s.bk item av:=⟨_,rfl⟩
      rw [← hH] at hub
      have HH:=Lib.hid hH
      have HUB:=Lib.hid hub
      clear hav hnu hH hub
      obtain ⟨w5,hw5⟩:∃w5,wr.alloc (.cells #[.int .i64 nu,.slice (h.hk k).1 av.length (h.hk k).2] 56)=w5:=⟨_,rfl⟩
      have hb5:Below wr.heap.size wr w5:=by rw [← hw5];exact (Below.refl _ wr).alloc (Nat.le_refl _) _
      have b5:Box w5 wr.heap.size #[.int .i64 nu,.slice (h.hk k).1 av.length (h.hk k).2]:=by rw [← hw5];exact (Box.new wr _ _)
      have u0:=b5.cell 0
      have u1:=b5.cell 1
      simp only [gqA,gqB,gqC] at u0 u1
      have hbl5:=hbl.trans (hb5.mono hs3)
      have hP5:=hPk.below hb5
      have hE5:=hE3.below hbl5
      have hvd5:=hvd.below hb5
      cases H with
      | false =>
       have HN:Hid (anyTo (hurtB s item) (k+1)=false):=by
        show _=_
        simp only [anyTo]
        rw [HK.out,HUB.out];rfl
       clear HK HUB
       go_wp2_with (go_at_call 211;(with_reducible refine (harms_any hP5 hE5 nu av hvl _ _ hvd5 item).mono ?_);rintro e w6 ⟨rfl,hb6⟩;have HHX:=HH.out;rw [← HHX];clear HHX)
       go_roundw
       case rel=>first | exact ⟨k+1,by omega,by go_num,HN,hbl5.trans (hb6.mono hbl5.size)⟩ | ((repeat apply Exists.intro);exact ⟨⟨k+1,by omega,by go_num,HN,hbl5.trans (hb6.mono hbl5.size)⟩,rfl⟩)
       case measure=>simp [intOf];omega
      | true =>
       go_wp2_with (go_at_call 211;(with_reducible refine (harms_any hP5 hE5 nu av hvl _ _ hvd5 item).mono ?_);rintro e w6 ⟨rfl,hb6⟩;have HHX:=HH.out;rw [← HHX];clear HHX;have hP6:=hP5.below hb6;have q6:=hP6.cMn;have HMAX:=HMA.out;rw [mnL_len,HMAX] at q6;clear HMAX)
       have hbl6:=hbl5.trans (hb6.mono hbl5.size)
       have hP6:=hP5.below hb6
       have b6:=b5.below hb6
       have hs6:wr.heap.size<w6.heap.size:=b6.lt
       clear hw5 u0 u1 b5 dK0 dK1 hvd hvd5 hPk hP5 hE5 hbK
       go_loopw [70] (fun y wq=>∃d:Nat,d≤s.days∧y=.int .i64 d∧Hid (anyTo (fun d=>s.menu d == (s.dishes.length:Int) && eatB s nu d) d=false)∧Below w6.heap.size w6 wq) (fun y _=>s.days-(intOf y).toNat)
       case atStart=>exact ⟨0,by omega,rfl,rfl,Below.refl _ _⟩
       case round =>
        obtain ⟨d,hdl2,rfl,HD,hbq⟩:=hrel
        by_cases hdt:d<s.days
        ·have hPq:=hP6.below hbq
         obtain ⟨adm,em,hmb,cm⟩:=hPq.mn.rn.at_ (k:=d) (by rw [mnL_len];exact hdt)
         rw [mnL_gi s hdt] at cm
         obtain rfl:mA=some adm:=HMA.out.symm.trans em
         clear em
         have v0:=(b6.below hbq).cell 0
         simp only [gqA,gqB,gqC] at v0
         have hbx:=hbl6.trans (hbq.mono hbl6.size)
         obtain ⟨m,hm⟩:∃m,s.menu d=m:=⟨_,rfl⟩
         rw [hm] at cm
         by_cases hmm:m=(s.dishes.length:Int)
         ·have hmm':(m == (s.dishes.length:Int))=true:=by simp [hmm]
          cases heat:eatB s nu d with
          | true =>
           have HV:=Lib.hid (show E=14 by
            rw [HEV.out,if_pos]
            refine anyTo_yes (k:=k) ?_ hlt
            rw [HUB.out,Bool.true_and]
            exact anyTo_yes (k:=d) (by rw [hm,hmm',heat];rfl) hdt)
           clear hm hmm HD HK HUB
           go_wp2_with (go_at_call 187;(with_reducible refine (eats_any hPq nu d).mono ?_);rintro e w7 ⟨rfl,hb7⟩;rw [heat])
           go_ret
           exact HBD.out HV.out (by decide) ((hb3.trans (hbx.mono hb3.size)).trans (hb7.mono (hb3.trans (hbx.mono hb3.size)).size))
          | false =>
           have HN:Hid (anyTo (fun d=>s.menu d == (s.dishes.length:Int) && eatB s nu d) (d+1)=false):=by
            show _=_
            simp only [anyTo]
            rw [HD.out,heat,Bool.and_false];rfl
           clear hm hmm HD
           go_wp2_with (go_at_call 187;(with_reducible refine (eats_any hPq nu d).mono ?_);rintro e w7 ⟨rfl,hb7⟩;rw [heat])
           go_roundw
           case rel=>first | exact ⟨d+1,by omega,by go_num,HN,hbq.trans (hb7.mono hbq.size)⟩ | ((repeat apply Exists.intro);exact ⟨⟨d+1,by omega,by go_num,HN,hbq.trans (hb7.mono hbq.size)⟩,rfl⟩)
           case measure=>simp [intOf];omega
         ·have hmm':(m == (s.dishes.length:Int))=false:=by simp [hmm]
          have HN:Hid (anyTo (fun d=>s.menu d == (s.dishes.length:Int) && eatB s nu d) (d+1)=false):=by
           show _=_
           simp only [anyTo]
           rw [HD.out,hm,hmm'];rfl
          clear hm hmm HD
          go_wp2_with fail
          go_roundw
          case rel=>exact ⟨d+1,by omega,by go_num,HN,hbq⟩
          case measure=>simp [intOf];omega
        ·obtain rfl:d=s.days:=by omega
         have HN:Hid (anyTo (hurtB s item) (k+1)=false):=by
          show _=_
          simp only [anyTo]
          rw [HK.out,HUB.out,HD.out];rfl
         go_wp2_with fail
         go_roundw
         case rel=>first | exact ⟨k+1,by omega,by go_num,HN,hbl6.trans (hbq.mono hbl6.size)⟩ | ((repeat apply Exists.intro);exact ⟨⟨k+1,by omega,by go_num,HN,hbl6.trans (hbq.mono hbl6.size)⟩,rfl⟩)
         case measure=>simp [intOf];omega
     ·obtain rfl:k=s.kids.length:=by omega
      have hEz:E=0:=by rw [HEV.out,if_neg (by rw [HK.out];decide)]
      have hT2:T={ s with dishes:=s.dishes ++ [⟨name,item⟩] }:=by rw [HT.out,if_pos hEz]
      have hok:=hP.ok.dish hn h0 (by rw [← HE.out];exact hEz)
      have HEz:=Lib.hid hEz
      have HT2:=Lib.hid hT2
      clear hEz hT2
      have hPr:=hPk
      have xr:=(hx3.below hbl).cell 0
      simp only [gqA,gqB,gqC] at xr
      have qr:=hPr.cDs
      have qf:=hPr.box.free 13
      have hgr:=hPr.gl
      have hxl:=(hx3.below hbl).lt
      have hbo:=hP.gl
      have hwr:Below w.heap.size w wr:=hy3.trans (hbl.mono hy3.size)
      have ow:=hPr.ds
      unfold slN at ow
      go_wp2_with fail
      have hne0:=World.new_ne wr _ qr
      have hne1:=World.new_ne wr _ xr
      have hblk:=hPr.dsF
      have hXW:∀{W:World},Below wr.heap.size wr W→∀{w7:World},W.grownBy w7 (blkOf (h.ds.1,h.ds.2))→w7.cell? ⟨g,13,none⟩=some (.slice h.ds.1 s.dishes.length h.ds.2)∧w7.frozen? ⟨g,13,none⟩=false:=fun {W} hW {w7} hg=>by
       have:=grown_at hW hg (p:=⟨g,13,none⟩) hgr (fun e=>(hblk g e).2.1 rfl)
       exact ⟨this.1.trans qr,this.2.trans qf⟩
      go_region_law (refine step_app3 (by rfl) _ _ (by rfl) Tryz.underlying78 info_dish rfl (by omega) (by rfl) (World.ownsRow.alloc ow _) (news:=[St name,.int .i64 item]) ⟨wr.heap.size,0,none⟩ (by rfl) (by rfl) (World.news_of_block (cs:=#[St name,.int .i64 item]) (t:=81) (fr:=(0,0)) (heap_alloc_new _ _)) (by simp [Value.oneCell']) (by omega) (by omega) (by simp) ?_;intro A3 c3 w7 own7 hg7 hk7;have hX7:=hXW (by repeat (first | exact Below.refl _ _ | refine Below.drew ?_ | refine Below.alloc ?_ (Nat.le_refl _) _)) hg7;have z7:=hX7.1;have f7:=hX7.2;clear hX7)
      all_goals
       go_wp2_with fail
       go_ret
       obtain ⟨o1,o2⟩:=hP.app_ds hwr (by repeat (first | exact Below.refl _ _ | refine Below.drew ?_ | refine Below.alloc ?_ (Nat.le_refl _) _)) ⟨name,item⟩ own7 hg7 hk7 hok
       rw [HT2.out,HEz.out]
       exact ⟨rfl,o1,_,o2⟩
end
theorem info_child:(Tryz.prog.info? 56).map (fun i=>(i.zero,i.size,i.bytes))=some (some (.agg #[.int .i64 0,.slice none 0 0]),2,32):=by kernel_rfl
section
variable {L:Int}{N:Nat}{w:World}{F:Nat→Prop}{g:Nat}{h:Hd}{s:Of}
theorem metE_set {n:Int}{av:List Int}(h1:¬ 99<n)(h2:isSet av s.bk.props=false):metE s n av=1:=by unfold metE;rw [if_neg h1,if_pos h2]
theorem meet_any (hP:PO L N w F g h s)(n:Int)(hn0:0≤n)(av:List Int)(hav:∀k,k<av.length→0≤gi av k)(hl:av.length≤1000000)(A:Option Addr)(c:Nat)(hR:RN w A av) :
  Calls Tryz.prog 237 #[.pointer (some ⟨g,0,none⟩),.int .i64 n,.slice A av.length c] w (RetO L N w F g (metE s n av) (if metE s n av=0 then { s with kids:=insK s.kids ⟨n,av⟩ } else s)):=by
 obtain ⟨E,hEE⟩:∃E,E=metE s n av:=⟨_,rfl⟩
 rw [← hEE]
 obtain ⟨T,hT⟩:∃T,T=if E=0 then { s with kids:=insK s.kids ⟨n,av⟩ } else s:=⟨_,rfl⟩
 rw [← hT]
 have HT:=Lib.hid hT
 have HE:=Lib.hid hEE
 clear hT hEE
 have q8:=hP.cProps
 have hbd:∀{c:Int} {w':World},E=c→c≠0→Below w.heap.size w w'→RetO L N w F g E T (.returned (.int .i64 c)) w':=fun {c w'} h1 h2 hb=>by
  have:T=s:=by rw [HT.out,if_neg (by rw [h1];exact h2)]
  rw [this,h1]
  exact hP.quiet (Nat.le_refl _) hb
 have HBD:Hid (∀{c:Int} {w':World},E=c→c≠0→Below w.heap.size w w'→RetO L N w F g E T (.returned (.int .i64 c)) w'):=hbd
 clear hbd
 by_cases h99:99<n
 ·have HV:=Lib.hid (show E=1 by rw [HE.out,metE,if_pos h99])
  go_enter Tryz.func237,Tryz.ntmps237
  go_wp2
  go_ret
  exact HBD.out HV.out (by decide) (Below.refl _ _)
 ·have h1:∀k,k<av.length→setOk av s.bk.props k=false→E=1:=fun k hk h=>by rw [HE.out];exact metE_set h99 (isSet_bad hk h)
  have H1:=Lib.hid h1
  clear h1
  go_enter Tryz.func237,Tryz.ntmps237
  go_wp2_with fail
  go_loop [13] (fun x=>∃k:Nat,k≤av.length∧x=.int .i64 k∧Hid (setTo av s.bk.props k=true)) (fun x=>av.length-(intOf x).toNat)
  case atStart=>exact ⟨0,by omega,rfl,rfl⟩
  case round =>
   obtain ⟨k,hk,rfl,HK⟩:=hrel
   by_cases hlt:k<av.length
   ·obtain ⟨ad,rfl,hab,c0⟩:=hR.at_ hlt
    have hv0:=hav k hlt
    cases hq:setOk av s.bk.props k with
    | true =>
     obtain ⟨q1,q2,q3⟩:=(setOk_iff _ _ _).1 hq
     have hnx:setTo av s.bk.props (k+1)=true:=by simp only [setTo,HK.out,hq];rfl
     have HNX:=Lib.hid hnx
     have H3:=Lib.hid q3
     have hq2:decide (s.bk.props≤gi av k)=false:=by rw [decide_eq_false_iff_not];omega
     clear hnx hq q3
     by_cases hk0:k=0
     ·have hd:decide (0<k)=false:=by simp;omega
      clear hk0
      go_wp2_with fail
      go_round
      case rel=>exact ⟨k+1,by omega,by go_num,HNX⟩
      case measure=>simp [intOf];omega
     ·obtain ⟨ad',e',hab',d0⟩:=hR.at_ (k:=k-1) (by omega)
      cases e'
      have hkp:0<k:=by omega
      have q3:gi av (k-1)<gi av k:=by have:=H3.out;omega
      have hq3:decide (gi av k≤gi av (k-1))=false:=by rw [decide_eq_false_iff_not];omega
      clear hk0
      go_wp2_with fail
      go_round
      case rel=>exact ⟨k+1,by omega,by go_num,HNX⟩
      case measure=>simp [intOf];omega
    | false =>
     have HB:=Lib.hid (H1.out k hlt hq)
     have hN:=(setOk_not _ _ _).1 hq
     clear hq
     by_cases hp:s.bk.props≤gi av k
     ·have hq2:decide (s.bk.props≤gi av k)=true:=by rw [decide_eq_true_eq];exact hp
      clear hN
      go_wp2_with fail
      go_ret
      exact HBD.out HB.out (by decide) (Below.refl _ _)
     ·have hk0:0<k:=by
       rcases Nat.eq_zero_or_pos k with h0 | h0
       ·exact absurd ⟨hv0,by omega,.inl h0⟩ hN
       ·exact h0
      obtain ⟨ad',e',hab',d0⟩:=hR.at_ (k:=k-1) (by omega)
      cases e'
      have hp3:gi av k≤gi av (k-1):=by
       by_cases hx:gi av (k-1)<gi av k
       ·exact absurd ⟨hv0,by omega,.inr hx⟩ hN
       ·omega
      have hq2:decide (s.bk.props≤gi av k)=false:=by rw [decide_eq_false_iff_not];omega
      have hq3:decide (gi av k≤gi av (k-1))=true:=by rw [decide_eq_true_eq];exact hp3
      clear hN
      go_wp2_with fail
      go_ret
      exact HBD.out HB.out (by decide) (Below.refl _ _)
   ·obtain rfl:k=av.length:=by omega
    have hset:isSet av s.bk.props=true:=HK.out
    cases hh:hasK s.kids n with
    | true =>
     have HV:=Lib.hid (show E=6 by rw [HE.out,metE,if_neg (show ¬ 99<n by omega),if_neg (by rw [hset];decide),if_pos hh])
     obtain ⟨i,hi,hix,_,_⟩:=kix_some hh
     have HIX:=Lib.hid hix
     have hi0:decide (0≤(i:Int))=true:=by rw [decide_eq_true_eq];omega
     clear hix hset
     go_wp2_with (go_at_call 173;(with_reducible refine (child_any hP n).mono ?_);rintro e w1 ⟨rfl,hb1⟩;have HIXX:=HIX.out;rw [HIXX];clear HIXX)
     go_ret
     exact HBD.out HV.out (by decide) hb1
    | false =>
     have hEz:E=0:=by rw [HE.out,metE,if_neg (show ¬ 99<n by omega),if_neg (by rw [hset];decide),if_neg (by rw [hh];decide)]
     have hT2:T={ s with kids:=insK s.kids ⟨n,av⟩ }:=by rw [HT.out,if_pos hEz]
     have hok:=hP.ok.kid hn0 (show metE s n av=0 by rw [← HE.out];exact hEz)
     have hnn:∀x ∈ s.kids,x.num≠n:=fun x hx e=>by
      have:hasK s.kids n=true:=(hasK_iff _ _).2 ⟨x,hx,e⟩
      rw [this] at hh;cases hh
     have HEz:=Lib.hid hEz
     have HT2:=Lib.hid hT2
     have HNN:=Lib.hid hnn
     have hix:=kix_none hh
     have HIX:=Lib.hid hix
     clear hEz hT2 hix hset hnn
     go_wp2_with (go_at_call 173;(with_reducible refine (child_any hP n).mono ?_);rintro e w1 ⟨rfl,hb1⟩;have HIXX:=HIX.out;rw [HIXX];clear HIXX)
     have hP1:=hP.below hb1
     have q:=hP1.cKd
     have f:=hP1.box.free 14
     have hR1:=hR.below hb1
     have hgl:=hP1.gl
     have hk100:=hP.ok.kl
     have hs1:=hb1.size
     have ow:w1.ownsRow 0 56 2 (.slice h.kd.1 s.kids.length h.kd.2) s.kids.length (cells2 s.kids.length (fun k=>.int .i64 (gk s.kids k).num) (fun k=>slN (h.hk k) (gk s.kids k).avoid.length)):=hP1.kd
     have hne:blkOf (h.kd.1,h.kd.2)≠some g:=fun e=>(hP.kdF g e).2.1 rfl
     have HNE:=Lib.hid hne
     clear hne
     go_wp2_with fail
     have hn1:=World.new_ne w1 _ q
     go_region_law (first
      | (go_simp;go_at_call 154;refine (clone_any av (by omega) A c _ ?_).mono ?_;(first | exact hR1 | exact hR1.drew);rintro e w2 ⟨A2,c2,rfl,own2,hb2⟩;have hb2':Below w1.heap.size w1 w2:=((by repeat (first | exact Below.refl _ _ | refine Below.drew ?_ | refine Below.alloc ?_ (Nat.le_refl _) _):Below w1.heap.size w1 _)).trans hb2;have hs2:=hb2'.size;have q2:=(hb2'.cell (p:=⟨g,14,none⟩) hgl).trans q;have ow2:=own_below ow hb2' (fun k hk=>(World.ownsRow.lt ow k hk).2);have hg2:g<w2.heap.size:=Nat.lt_of_lt_of_le hgl hs2;have q2a:=fun (o:Obj)=>(World.cell?_alloc_lt w2 o ⟨g,14,none⟩ hg2).trans q2)
      | (refine step_app3 (by rfl) _ _ (by rfl) Tryz.underlying46 info_child rfl (by omega) (by rfl) (World.ownsRow.alloc ow2 _) (news:=[.int .i64 n,.slice A2 av.length c2]) ⟨w2.heap.size,0,none⟩ (by rfl) (by rfl) (World.news_of_block (cs:=#[.int .i64 n,.slice A2 av.length c2]) (t:=56) (fr:=(0,0)) (heap_alloc_new _ _)) (by simp [Value.oneCell']) (by omega) (by omega) (by simp) ?_;intro A3 c3 w7 own7 hg7 hk7;have hX7:=grown_at (wr:=w1) (hb2'.trans (Below.mono (by repeat (first | exact Below.refl _ _ | refine Below.drew ?_ | refine Below.alloc ?_ (Nat.le_refl _) _)) hs2)) hg7 (p:=⟨g,14,none⟩) hgl HNE.out;have z7:=hX7.1.trans q;have f7:=hX7.2.trans f;clear hX7))
     all_goals
      obtain ⟨KL,hKL⟩:∃KL,KL=ksOf s.kids h.hk ++ [((⟨n,av⟩:Kd),(A2,c2))]:=⟨_,rfl⟩
      have hKll:KL.length=s.kids.length+1:=by rw [hKL,List.length_append,ksOf_len];rfl
      have hA3:(Value.slice A3 (s.kids.length+1) c3).ownBlock≠some g:=fun e=>by
       have e3:(Value.slice A3 (s.kids.length+1) c3).ownBlock=blkOf (A3,c3):=own_blk (A3,c3) _
       rw [e3] at e
       rcases hk7 with e2 | e2
       ·rw [e2] at e;exact HNE.out e
       ·rw [e2] at e;injection e with e;simp at e;omega
      obtain ⟨w8,hw8⟩:∃w8,w7.setCell ⟨g,14,none⟩ (.slice A3 (s.kids.length+1) c3)=w8:=⟨_,rfl⟩
      have c8:w8.cell? ⟨g,14,none⟩=some (.slice A3 (s.kids.length+1) c3):=by rw [← hw8];exact World.cell?_setCell_same w7 ⟨g,14,none⟩ _ z7
      have o8:w8.ownsRow 0 56 2 (.slice A3 KL.length c3) KL.length (ksC KL):=by
       rw [hKL,ksC_snoc,← hKL,hKll,← hw8]
       exact ownsRow_setCell_other own7 hA3 _
      have hcon:=sortK_some KL (by omega) (by omega) A3 c3 0 w8 o8 (Nat.zero_le _)
      rw [hKll] at hcon
      have HCON:=Lib.hid hcon
      have HKL:=Lib.hid hKL
      have HW8:=Lib.hid hw8
      have HNA:=Lib.hid hA3
      have OWN2:=Lib.hid (own_base own2 (base':=w.heap.size) (by simp;omega))
      have OK:=Lib.hid hok
      rw [hw8]
      clear hcon hKL hKll hw8 hA3 own2 o8 own7 z7 f7 q2a q2 ow2
      go_wp2_with fail
      refine HCON.out.mono ?_
      rintro e w9 ⟨rfl,m,hp,hm,own9,hg9⟩
      go_wp2_with fail
      go_ret
      rw [HT2.out,HEz.out]
      rw [HKL.out] at hp
      rw [← HW8.out] at hg9
      obtain ⟨o1,o2⟩:=hP.app_kd (c:=⟨n,av⟩) (hb1.trans (hb2'.mono hs1)) OWN2.out (by repeat (first | exact Below.refl _ _ | refine Below.drew ?_ | refine Below.alloc ?_ (Nat.le_refl _) _)) hg7 hk7 hp hm own9 hg9 HNN.out OK.out
      exact ⟨rfl,o1,_,o2⟩
end
end Go.Proofs.YtiapkffihpgdcaaGreatDoor
namespace Go.Proofs.YtiapkffihpgdcaaGreatDoor
open Go.RowKit Go.Sort
section
variable {L:Int}{N:Nat}{w:World}{F:Nat→Prop}{g:Nat}{h:Hd}{s:Of}
theorem cancel_any (hP:PO L N w F g h s)(hE:EnvZ w)(n:List Int)(hn:n.length=3)(A:Option Addr)(c:Nat)(hR:RN w A n) :
  Calls Tryz.prog 238 #[.pointer (some ⟨g,0,none⟩),.slice A n.length c,.int .i64 0] w (RetO L N w F g (chgE s n 0) (if chgE s n 0=0 then { s with facts:=s.facts ++ [chgF s n 0] } else s)):=by
 obtain ⟨ad,rfl,hab0,e0⟩:=hR.at0 (by omega)
 have e1:=hR.cellk (k:=1) (by omega) (by omega)
 have e2:=hR.cellk (k:=2) (by omega) (by omega)
 rw [hn]
 cases hk:hasK s.kids (gi n 0) with
 | false =>
  have he:chgE s n 0=5:=by unfold chgE;rw [if_pos hk]
  rw [he,if_neg (by decide)]
  have hk':=kix_no hk
  rw [decide_eq_true_eq] at hk'
  clear he
  go_enter Tryz.func238,Tryz.ntmps238
  go_wp2_with (go_at_call 173;(with_reducible refine (child_any hP (gi n 0)).mono ?_);rintro e w2 ⟨rfl,hb2⟩)
  go_ret
  exact hP.quiet (Nat.le_refl _) hb2
 | true =>
  obtain ⟨i,hi,hix,hin,hio⟩:=kix_some hk
  have hE1:chgE s n 0=addE s.facts (chgF s n 0):=by
   unfold chgE
   rw [if_neg (by rw [hk];decide),if_neg (fun h=>by cases h.1)]
  have HE1:=Lib.hid hE1
  have HIX:=Lib.hid hix
  have hkx:=kix_yes hk
  rw [decide_eq_false_iff_not] at hkx
  clear hE1 hin hio hk hix
  obtain ⟨E,hE⟩:∃E,E=chgE s n 0:=⟨_,rfl⟩
  rw [← hE] at HE1 ⊢
  obtain ⟨T,hT⟩:∃T,T=if E=0 then { s with facts:=s.facts ++ [chgF s n 0] } else s:=⟨_,rfl⟩
  rw [← hT]
  have HT:=Lib.hid hT
  have HEE:=Lib.hid hE
  clear hT hE
  have hi0:decide ((i:Int)<0)=false:=by rw [decide_eq_false_iff_not];omega
  have hdl:=days_le hP.ok.tm
  go_enter Tryz.func238,Tryz.ntmps238
  go_wp2_with (go_at_call 173;(with_reducible refine (child_any hP (gi n 0)).mono ?_);rintro e w1 ⟨rfl,hb1⟩;have HIXX:=HIX.out;rw [HIXX];clear HIXX;have y0:=(hb1.cell hab0).trans e0;have y1:=(hb1.cell (p:=⟨ad.block,ad.off+1,none⟩) hab0).trans e1;have y2:=(hb1.cell (p:=⟨ad.block,ad.off+2,none⟩) hab0).trans e2)
  go_loopw [8] (fun x wr=>∃k:Int,x=.int .i64 k∧Below w1.heap.size w1 wr) (fun _ _=>0)
  case atStart=>exact ⟨gi n 1,rfl,Below.refl _ _⟩
  case round =>
   obtain ⟨k,rfl,hbl⟩:=hrel
   have hPr:=hP.below (hb1.trans (hbl.mono hb1.size))
   have qM:=hPr.cMn
   have hab1:ad.block<w1.heap.size:=Nat.lt_of_lt_of_le hab0 hb1.size
   have z2:=(hbl.cell (p:=⟨ad.block,ad.off+2,none⟩) hab1).trans y2
   rw [mnL_len] at qM
   by_cases hlt:k<min (gi n 2) (s.days:Int)
   ·have hlt':decide (k<min (gi n 2) (s.days:Int))=true:=by rw [decide_eq_true_eq];exact hlt
    have hE2:E=addE s.facts (chgF s n 0):=by exact HE1.out
    have HE2:=Lib.hid hE2
    clear hE2
    go_wp2_with fail
    go_quiet (fail)
    have hbd:Below w.heap.size w (wr.drewN nq):=below_drewN (hb1.trans (hbl.mono hb1.size)) nq
    clear hPr qM z2 hlt'
    generalize wr.drewN nq=wd at *
    have hPd:=hP.below hbd
    have qF:=hPd.cFa;have qN:=hPd.cNow
    have hab2:ad.block<w.heap.size:=hab0
    have z0:=(hbd.cell hab2).trans e0
    have z1:=(hbd.cell (p:=⟨ad.block,ad.off+1,none⟩) hab2).trans e1
    have z2:=(hbd.cell (p:=⟨ad.block,ad.off+2,none⟩) hab2).trans e2
    go_wp2_with fail
    have hfl:=hP.ok.fl
    have hgl:=hPd.gl
    have hab3:ad.block<wd.heap.size:=Nat.lt_of_lt_of_le hab2 hbd.size
    have hRF:=hPd.rf
    go_region_held3 (fun w'=>w'.cell? ⟨g,15,none⟩=some (.slice h.fa.1 s.facts.length h.fa.2)∧w'.cell? ⟨g,12,none⟩=some (.int .i64 s.now)∧w'.cell? ad=some (.int .i64 (gi n 0))∧w'.cell? ⟨ad.block,ad.off+1,none⟩=some (.int .i64 (gi n 1))∧w'.cell? ⟨ad.block,ad.off+2,none⟩=some (.int .i64 (gi n 2)))
     (first | go_keep | exact ⟨k0,k1,k2,k3,k4⟩)
     (first | (go_at_call 290;refine (addX_any s.facts (chgF s n 0) (by omega) h.fa.1 h.fa.2 wd.heap.size _ ?_).mono ?_;(first | exact hRF | exact hRF.drew);rintro e w2 ⟨A',c',rfl,own2,hb2⟩;have hb2':Below wd.heap.size wd w2:=((Below.refl wd.heap.size wd).drew).trans hb2;have k0:=(hb2'.cell (p:=⟨g,15,none⟩) hgl).trans qF;have k1:=(hb2'.cell (p:=⟨g,12,none⟩) hgl).trans qN;have k2:=(hb2'.cell hab3).trans z0;have k3:=(hb2'.cell (p:=⟨ad.block,ad.off+1,none⟩) hab3).trans z1;have k4:=(hb2'.cell (p:=⟨ad.block,ad.off+2,none⟩) hab3).trans z2))
    have hb5:=hbd.trans (hb2'.mono hbd.size)
    have hP4:=hP.below' hb5
    have hgf:=hP4.box.free 15
    obtain ⟨X,hX⟩:∃X,X=addE s.facts (chgF s n 0):=⟨_,rfl⟩
    rw [← hX]
    by_cases hv:X=0
    ·have hv1:(X == 0)=true:=by simp [hv]
     have hEz:E=0:=by rw [HE2.out,← hX,hv]
     have hz:=addE_zero (hX.symm.trans hv)
     have haR:addR s.facts (chgF s n 0)=s.facts ++ [chgF s n 0]:=by unfold addR;rw [if_pos hz]
     rw [haR] at own2
     have hT2:T={ s with facts:=s.facts ++ [chgF s n 0] }:=by rw [HT.out,if_pos hEz]
     have hR4:ReadsF (Im (grown F w w2) g h) w2 5 A' (s.facts ++ [chgF s n 0]).length (cellsF (s.facts ++ [chgF s n 0])):=ReadsF.of_own' own2 (fun k h1 h2=>hP.new_im (Nat.le_trans hbd.size h1) h2)
     have hok:=hP.ok.chg (n:=n) (.inl rfl) (by rw [← HEE.out];exact hEz)
     have hS:=hP4.setFacts (c:=c') hR4 own2.cap hok
     have HT2:=Lib.hid hT2
     have HEz:=Lib.hid hEz
     have HaR:=Lib.hid haR
     have HX:=Lib.hid hX
     have HV:=Lib.hid hv
     clear hT2 hR4 hEz haR hX hv hz
     go_wp2_with fail
     go_ret
     rw [HT2.out,HEz.out,HaR.out,HV.out]
     exact ⟨rfl,(Off.of_below hb5).setCell (.inl hP.gF) _,_,hS.re fun k=>(grown_set _ _ k).symm⟩
    ·have hv1:(X == 0)=false:=by simp [hv]
     have hT2:T=s:=by rw [HT.out,if_neg (by rw [HE2.out,← hX];exact hv)]
     have hEX:E=X:=by rw [HE2.out,hX]
     have HT2:=Lib.hid hT2
     have HEX:=Lib.hid hEX
     clear hT2 hv hX hEX
     go_wp2_with fail
     go_ret
     rw [HT2.out,HEX.out]
     exact hP.quiet (Nat.le_refl _) hb5
   ·have hlt':decide (k<min (gi n 2) (s.days:Int))=false:=by rw [decide_eq_false_iff_not];exact hlt
    have hE2:E=addE s.facts (chgF s n 0):=by exact HE1.out
    have HE2:=Lib.hid hE2
    clear hE2
    go_wp2_with fail
    go_quiet (fail)
    have hbd:Below w.heap.size w (wr.drewN nq):=below_drewN (hb1.trans (hbl.mono hb1.size)) nq
    clear hPr qM z2 hlt'
    generalize wr.drewN nq=wd at *
    have hPd:=hP.below hbd
    have qF:=hPd.cFa;have qN:=hPd.cNow
    have hab2:ad.block<w.heap.size:=hab0
    have z0:=(hbd.cell hab2).trans e0
    have z1:=(hbd.cell (p:=⟨ad.block,ad.off+1,none⟩) hab2).trans e1
    have z2:=(hbd.cell (p:=⟨ad.block,ad.off+2,none⟩) hab2).trans e2
    go_wp2_with fail
    have hfl:=hP.ok.fl
    have hgl:=hPd.gl
    have hab3:ad.block<wd.heap.size:=Nat.lt_of_lt_of_le hab2 hbd.size
    have hRF:=hPd.rf
    go_region_held3 (fun w'=>w'.cell? ⟨g,15,none⟩=some (.slice h.fa.1 s.facts.length h.fa.2)∧w'.cell? ⟨g,12,none⟩=some (.int .i64 s.now)∧w'.cell? ad=some (.int .i64 (gi n 0))∧w'.cell? ⟨ad.block,ad.off+1,none⟩=some (.int .i64 (gi n 1))∧w'.cell? ⟨ad.block,ad.off+2,none⟩=some (.int .i64 (gi n 2)))
     (first | go_keep | exact ⟨k0,k1,k2,k3,k4⟩)
     (first | (go_at_call 290;refine (addX_any s.facts (chgF s n 0) (by omega) h.fa.1 h.fa.2 wd.heap.size _ ?_).mono ?_;(first | exact hRF | exact hRF.drew);rintro e w2 ⟨A',c',rfl,own2,hb2⟩;have hb2':Below wd.heap.size wd w2:=((Below.refl wd.heap.size wd).drew).trans hb2;have k0:=(hb2'.cell (p:=⟨g,15,none⟩) hgl).trans qF;have k1:=(hb2'.cell (p:=⟨g,12,none⟩) hgl).trans qN;have k2:=(hb2'.cell hab3).trans z0;have k3:=(hb2'.cell (p:=⟨ad.block,ad.off+1,none⟩) hab3).trans z1;have k4:=(hb2'.cell (p:=⟨ad.block,ad.off+2,none⟩) hab3).trans z2))
    have hb5:=hbd.trans (hb2'.mono hbd.size)
    have hP4:=hP.below' hb5
    have hgf:=hP4.box.free 15
    obtain ⟨X,hX⟩:∃X,X=addE s.facts (chgF s n 0):=⟨_,rfl⟩
    rw [← hX]
    by_cases hv:X=0
    ·have hv1:(X == 0)=true:=by simp [hv]
     have hEz:E=0:=by rw [HE2.out,← hX,hv]
     have hz:=addE_zero (hX.symm.trans hv)
     have haR:addR s.facts (chgF s n 0)=s.facts ++ [chgF s n 0]:=by unfold addR;rw [if_pos hz]
     rw [haR] at own2
     have hT2:T={ s with facts:=s.facts ++ [chgF s n 0] }:=by rw [HT.out,if_pos hEz]
     have hR4:ReadsF (Im (grown F w w2) g h) w2 5 A' (s.facts ++ [chgF s n 0]).length (cellsF (s.facts ++ [chgF s n 0])):=ReadsF.of_own' own2 (fun k h1 h2=>hP.new_im (Nat.le_trans hbd.size h1) h2)
     have hok:=hP.ok.chg (n:=n) (.inl rfl) (by rw [← HEE.out];exact hEz)
     have hS:=hP4.setFacts (c:=c') hR4 own2.cap hok
     have HT2:=Lib.hid hT2
     have HEz:=Lib.hid hEz
     have HaR:=Lib.hid haR
     have HX:=Lib.hid hX
     have HV:=Lib.hid hv
     clear hT2 hR4 hEz haR hX hv hz
     go_wp2_with fail
     go_ret
     rw [HT2.out,HEz.out,HaR.out,HV.out]
     exact ⟨rfl,(Off.of_below hb5).setCell (.inl hP.gF) _,_,hS.re fun k=>(grown_set _ _ k).symm⟩
    ·have hv1:(X == 0)=false:=by simp [hv]
     have hT2:T=s:=by rw [HT.out,if_neg (by rw [HE2.out,← hX];exact hv)]
     have hEX:E=X:=by rw [HE2.out,hX]
     have HT2:=Lib.hid hT2
     have HEX:=Lib.hid hEX
     clear hT2 hv hX hEX
     go_wp2_with fail
     go_ret
     rw [HT2.out,HEX.out]
     exact hP.quiet (Nat.le_refl _) hb5
end
end Go.Proofs.YtiapkffihpgdcaaGreatDoor
namespace Go.Proofs.YtiapkffihpgdcaaGreatDoor
open Go.RowKit
section
variable {L:Int}{N:Nat}{w:World}{F:Nat→Prop}{g:Nat}{h:Hd}{s:Of}
theorem RetO.back {w2 w':World}{s':Of}{code:Int}{e:Ending}(hP:PO L N w F g h s)(hb:Below w.heap.size w w2){N':Nat}(hr:RetO L N' w2 F g code s' e w'):RetO L N' w F g code s' e w':=by
 obtain ⟨he,ho,h',hP'⟩:=hr
 refine ⟨he,(Off.of_below hb).trans ho (fun k hk=>.inl hk),h',hP'.wide (fun k hk=>?_) (grown_lo hP (Nat.le_trans hb.size ho.size))⟩
 rcases hk with hk | ⟨h1,h2⟩
 ·exact .inl hk
 ·exact .inr ⟨Nat.le_trans hb.size h1,h2⟩
theorem RetO.more {w':World}{s':Of}{code:Int}{e:Ending}{N' N2:Nat}(hN:N'≤N2)(hr:RetO L N' w F g code s' e w'):RetO L N2 w F g code s' e w':=by
 obtain ⟨he,ho,h',hP'⟩:=hr
 exact ⟨he,ho,h',hP'.more hN⟩
theorem RN.cell0 {w:World}{ad:Addr}{l:List Int}(h:RN w (some ad) l)(hk:0<l.length):ad.block<w.heap.size∧w.cell? ad=some (.int .i64 (gi l 0)):=by
 obtain ⟨ad',e,hb,hc⟩:=h.at0 hk
 cases e
 exact ⟨hb,hc⟩
theorem RN.tail1 {w:World}{ad:Addr}{l:List Int}(h:RN w (some ad) l)(hk:0<l.length):RN w (some (ad.add 1)) l.tail:=by
 cases l with
 | nil=>simp at hk
 | cons x r =>
  refine ⟨by simp [ints],fun hn=>?_⟩
  obtain ⟨ad',e,hb,hc⟩:=h.2 (by simp)
  cases e
  refine ⟨_,rfl,by rw [block_of_add];exact hb,fun j u hu=>?_⟩
  have:=hc (j+1) u (by simpa [ints] using hu)
  rwa [show ad.add (j+1)=(ad.add 1).add j from by cases ad;simp only [Addr.add];split <;> split <;> simp_all <;> omega] at this
theorem RN.nil' {w:World}{A:Option Addr}:RN w A []:=⟨rfl,fun h=>by simp at h⟩
theorem gi_tail (l:List Int)(k:Nat):gi l.tail k=gi l (k+1):=by cases l <;> simp [gi]
end
section
variable {L:Int}{N:Nat}{w:World}{F:Nat→Prop}{g:Nat}{h:Hd}{s:Of}
theorem exec_0 (hP:PO L N w F g h s)(hE:EnvZ w)(hN:N<1000000000)(name:Wd)(nums:List Int)(hr:RqOk ⟨0,name,nums⟩)(hnl:name.length≤1000000000)(hll:nums.length≤1000000)(A:Option Addr)(c:Nat)(hR:RN w A nums)(hc:nums.length≤c) :
  Calls Tryz.prog 167 #[.pointer (some ⟨g,0,none⟩),.agg #[.int .i64 0,St name,.slice A nums.length c]] w (RetO L (N+1) w F g (exE s ⟨0,name,nums⟩) (if exE s ⟨0,name,nums⟩=0 then exS s ⟨0,name,nums⟩ else s)):=by
 obtain ⟨w2,hw2⟩:∃w2,w.alloc (.cells #[.int .i64 0,St name,.slice A nums.length c] 239)=w2:=⟨_,rfl⟩
 have hy:Below w.heap.size w w2:=by rw [← hw2];exact (Below.refl _ w).alloc (Nat.le_refl _) _
 have b0:Box w2 w.heap.size #[.int .i64 0,St name,.slice A nums.length c]:=by rw [← hw2];exact Box.new w _ _
 have hP2:=hP.below hy
 have hE2:=hE.below hy
 have hR2:=hR.below hy
 have x0:=b0.cell 0
 have x1:=b0.cell 1
 have x2:=b0.cell 2
 simp only [gqA,gqB,gqC] at x0 x1 x2
 have hlen:=hr.one (by dsimp only;decide)
 have hlen0:0<nums.length:=by have:nums.length=1:=hlen;omega
 have hb0:=(hr.nums 0 hlen0).1
 have hb0:0≤gi nums 0:=hb0
 obtain ⟨ad,rfl,_,_⟩:=hR.at0 hlen0
 obtain ⟨hab,e0⟩:=hR2.cell0 hlen0
 have HLEN:=Lib.hid hlen
 rw [exE_at rfl,exS_at rfl]
 have hif:(if (if gi nums 0<s.now then 7 else if 1440000<gi nums 0 then 4 else 0:Int)=0 then { s with now:=gi nums 0 } else s)=(if gi nums 0<s.now then s else if 1440000<gi nums 0 then s else { s with now:=gi nums 0 }):=by
  by_cases h1:gi nums 0<s.now
  ·rw [if_pos h1,if_pos h1,if_neg (by decide)]
  ·by_cases h2:1440000<gi nums 0
   ·rw [if_neg h1,if_neg h1,if_pos h2,if_pos h2,if_neg (by decide)]
   ·rw [if_neg h1,if_neg h1,if_neg h2,if_neg h2,if_pos rfl]
 have hcon:=wait_any hP2 (gi nums 0)
 obtain ⟨E,hE'⟩:∃E,E=(if gi nums 0<s.now then 7 else if 1440000<gi nums 0 then 4 else 0:Int):=⟨_,rfl⟩
 obtain ⟨T,hT'⟩:∃T,T=(if gi nums 0<s.now then s else if 1440000<gi nums 0 then s else { s with now:=gi nums 0 }):=⟨_,rfl⟩
 show Calls _ _ _ _ (RetO L (N+1) w F g (if gi nums 0<s.now then 7 else if 1440000<gi nums 0 then 4 else 0:Int) (if (if gi nums 0<s.now then 7 else if 1440000<gi nums 0 then 4 else 0:Int)=0 then { s with now:=gi nums 0 } else s))
 rw [hif]
 rw [← hE',← hT'] at hcon ⊢
 clear hif hE' hT'
 have HC:=Lib.hid hcon
 clear hcon
 clear hlen
 go_enter Tryz.func167,Tryz.ntmps167
 go_wp2_with (go_at_call 235;(with_reducible refine HC.out.mono ?_);rintro e w3 hr3;have he3:=hr3.1;subst he3;have HR:=Lib.hid hr3;clear hr3)
 go_ret
 exact (RetO.back hP hy HR.out).more (Nat.le_succ _)
theorem exec_3 (hP:PO L N w F g h s)(hE:EnvZ w)(hN:N<1000000000)(name:Wd)(nums:List Int)(hr:RqOk ⟨3,name,nums⟩)(hnl:name.length≤1000000000)(hll:nums.length≤1000000)(A:Option Addr)(c:Nat)(hR:RN w A nums)(hc:nums.length≤c) :
  Calls Tryz.prog 167 #[.pointer (some ⟨g,0,none⟩),.agg #[.int .i64 3,St name,.slice A nums.length c]] w (RetO L (N+1) w F g (exE s ⟨3,name,nums⟩) (if exE s ⟨3,name,nums⟩=0 then exS s ⟨3,name,nums⟩ else s)):=by
 obtain ⟨w2,hw2⟩:∃w2,w.alloc (.cells #[.int .i64 3,St name,.slice A nums.length c] 239)=w2:=⟨_,rfl⟩
 have hy:Below w.heap.size w w2:=by rw [← hw2];exact (Below.refl _ w).alloc (Nat.le_refl _) _
 have b0:Box w2 w.heap.size #[.int .i64 3,St name,.slice A nums.length c]:=by rw [← hw2];exact Box.new w _ _
 have hP2:=hP.below hy
 have hE2:=hE.below hy
 have hR2:=hR.below hy
 have x0:=b0.cell 0
 have x1:=b0.cell 1
 have x2:=b0.cell 2
 simp only [gqA,gqB,gqC] at x0 x1 x2
 have hlen:=hr.three (by dsimp only;decide) (by dsimp only;decide)
 have hlen0:0<nums.length:=by have:nums.length=3:=hlen;omega
 have hb0:=(hr.nums 0 hlen0).1
 have hb0:0≤gi nums 0:=hb0
 obtain ⟨ad,rfl,_,_⟩:=hR.at0 hlen0
 obtain ⟨hab,e0⟩:=hR2.cell0 hlen0
 have hb1:0≤gi nums 1:=(hr.nums 1 (by have:nums.length=3:=hlen;show 1<nums.length;omega)).1
 have HLEN:=Lib.hid hlen
 rw [exE_ord rfl,exS_ord rfl]
 have hcon:=order_any hP2 hE2 nums HLEN.out hb1 _ c hR2
 obtain ⟨E,hE'⟩:∃E,E=chgE s nums 1:=⟨_,rfl⟩
 obtain ⟨T,hT'⟩:∃T,T=if E=0 then { s with facts:=s.facts ++ [chgF s nums 1] } else s:=⟨_,rfl⟩
 show Calls _ _ _ _ (RetO L (N+1) w F g (chgE s nums 1) (if chgE s nums 1=0 then { s with facts:=s.facts ++ [chgF s nums 1] } else s))
 rw [← hE'] at hcon ⊢
 rw [← hT'] at hcon ⊢
 clear hE' hT'
 have HC:=Lib.hid hcon
 clear hcon
 clear hlen
 go_enter Tryz.func167,Tryz.ntmps167
 go_wp2_with (go_at_call 238;(with_reducible refine HC.out.mono ?_);rintro e w3 hr3;have he3:=hr3.1;subst he3;have HR:=Lib.hid hr3;clear hr3)
 go_ret
 exact (RetO.back hP hy HR.out).more (Nat.le_succ _)
theorem exec_4 (hP:PO L N w F g h s)(hE:EnvZ w)(hN:N<1000000000)(name:Wd)(nums:List Int)(hr:RqOk ⟨4,name,nums⟩)(hnl:name.length≤1000000000)(hll:nums.length≤1000000)(A:Option Addr)(c:Nat)(hR:RN w A nums)(hc:nums.length≤c) :
  Calls Tryz.prog 167 #[.pointer (some ⟨g,0,none⟩),.agg #[.int .i64 4,St name,.slice A nums.length c]] w (RetO L (N+1) w F g (exE s ⟨4,name,nums⟩) (if exE s ⟨4,name,nums⟩=0 then exS s ⟨4,name,nums⟩ else s)):=by
 obtain ⟨w2,hw2⟩:∃w2,w.alloc (.cells #[.int .i64 4,St name,.slice A nums.length c] 239)=w2:=⟨_,rfl⟩
 have hy:Below w.heap.size w w2:=by rw [← hw2];exact (Below.refl _ w).alloc (Nat.le_refl _) _
 have b0:Box w2 w.heap.size #[.int .i64 4,St name,.slice A nums.length c]:=by rw [← hw2];exact Box.new w _ _
 have hP2:=hP.below hy
 have hE2:=hE.below hy
 have hR2:=hR.below hy
 have x0:=b0.cell 0
 have x1:=b0.cell 1
 have x2:=b0.cell 2
 simp only [gqA,gqB,gqC] at x0 x1 x2
 have hlen:=hr.three (by dsimp only;decide) (by dsimp only;decide)
 have hlen0:0<nums.length:=by have:nums.length=3:=hlen;omega
 have hb0:=(hr.nums 0 hlen0).1
 have hb0:0≤gi nums 0:=hb0
 obtain ⟨ad,rfl,_,_⟩:=hR.at0 hlen0
 obtain ⟨hab,e0⟩:=hR2.cell0 hlen0
 have hb1:0≤gi nums 1:=(hr.nums 1 (by have:nums.length=3:=hlen;show 1<nums.length;omega)).1
 have HLEN:=Lib.hid hlen
 rw [exE_can rfl,exS_can rfl]
 have hcon:=cancel_any hP2 hE2 nums HLEN.out _ c hR2
 obtain ⟨E,hE'⟩:∃E,E=chgE s nums 0:=⟨_,rfl⟩
 obtain ⟨T,hT'⟩:∃T,T=if E=0 then { s with facts:=s.facts ++ [chgF s nums 0] } else s:=⟨_,rfl⟩
 show Calls _ _ _ _ (RetO L (N+1) w F g (chgE s nums 0) (if chgE s nums 0=0 then { s with facts:=s.facts ++ [chgF s nums 0] } else s))
 rw [← hE'] at hcon ⊢
 rw [← hT'] at hcon ⊢
 clear hE' hT'
 have HC:=Lib.hid hcon
 clear hcon
 clear hlen
 go_enter Tryz.func167,Tryz.ntmps167
 go_wp2_with (go_at_call 238;(with_reducible refine HC.out.mono ?_);rintro e w3 hr3;have he3:=hr3.1;subst he3;have HR:=Lib.hid hr3;clear hr3)
 go_ret
 exact (RetO.back hP hy HR.out).more (Nat.le_succ _)
theorem exec_5 (hP:PO L N w F g h s)(hE:EnvZ w)(hN:N<1000000000)(name:Wd)(nums:List Int)(hr:RqOk ⟨5,name,nums⟩)(hnl:name.length≤1000000000)(hll:nums.length≤1000000)(A:Option Addr)(c:Nat)(hR:RN w A nums)(hc:nums.length≤c) :
  Calls Tryz.prog 167 #[.pointer (some ⟨g,0,none⟩),.agg #[.int .i64 5,St name,.slice A nums.length c]] w (RetO L (N+1) w F g (exE s ⟨5,name,nums⟩) (if exE s ⟨5,name,nums⟩=0 then exS s ⟨5,name,nums⟩ else s)):=by
 obtain ⟨w2,hw2⟩:∃w2,w.alloc (.cells #[.int .i64 5,St name,.slice A nums.length c] 239)=w2:=⟨_,rfl⟩
 have hy:Below w.heap.size w w2:=by rw [← hw2];exact (Below.refl _ w).alloc (Nat.le_refl _) _
 have b0:Box w2 w.heap.size #[.int .i64 5,St name,.slice A nums.length c]:=by rw [← hw2];exact Box.new w _ _
 have hP2:=hP.below hy
 have hE2:=hE.below hy
 have hR2:=hR.below hy
 have x0:=b0.cell 0
 have x1:=b0.cell 1
 have x2:=b0.cell 2
 simp only [gqA,gqB,gqC] at x0 x1 x2
 have hlen:=hr.three (by dsimp only;decide) (by dsimp only;decide)
 have hlen0:0<nums.length:=by have:nums.length=3:=hlen;omega
 have hb0:=(hr.nums 0 hlen0).1
 have hb0:0≤gi nums 0:=hb0
 obtain ⟨ad,rfl,_,_⟩:=hR.at0 hlen0
 obtain ⟨hab,e0⟩:=hR2.cell0 hlen0
 have hb1:0≤gi nums 1:=(hr.nums 1 (by have:nums.length=3:=hlen;show 1<nums.length;omega)).1
 have HLEN:=Lib.hid hlen
 rw [exE_free rfl,exS_free rfl]
 have hcon:=ofree_any hP2 nums HLEN.out _ c hR2
 obtain ⟨E,hE'⟩:∃E,E=freE s nums:=⟨_,rfl⟩
 obtain ⟨T,hT'⟩:∃T,T=if E=0 then { s with rights:=freR s nums } else s:=⟨_,rfl⟩
 show Calls _ _ _ _ (RetO L (N+1) w F g (freE s nums) (if freE s nums=0 then { s with rights:=freR s nums } else s))
 rw [← hE'] at hcon ⊢
 rw [← hT'] at hcon ⊢
 clear hE' hT'
 have HC:=Lib.hid hcon
 clear hcon
 clear hlen
 go_enter Tryz.func167,Tryz.ntmps167
 go_wp2_with (go_at_call 239;(with_reducible refine HC.out.mono ?_);rintro e w3 hr3;have he3:=hr3.1;subst he3;have HR:=Lib.hid hr3;clear hr3)
 go_ret
 exact (RetO.back hP hy HR.out).more (Nat.le_succ _)
end
end Go.Proofs.YtiapkffihpgdcaaGreatDoor
