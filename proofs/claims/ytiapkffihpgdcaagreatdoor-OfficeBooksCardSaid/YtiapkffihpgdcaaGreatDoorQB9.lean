import Derived.Test.YtiapkffihpgdcaaGreatDoorQB4
import Derived.Test.YtiapkffihpgdcaaGreatDoorQB8
set_option linter.unusedVariables false
set_option linter.unusedSimpArgs false
set_option maxRecDepth 100000
set_option maxHeartbeats 4000000
namespace Go.Proofs.YtiapkffihpgdcaaGreatDoor
theorem doE_none {o:Of}{s:Wd}(h:prs s=none):doE o s=3:=by unfold doE;rw [h]
theorem doE_some {o:Of}{s:Wd}{r:Rq}(h:prs s=some r)(hl:o.orders.length<200):doE o s=exE o r:=by unfold doE;rw [h];simp only;rw [if_neg (by omega)]
theorem doE_full {o:Of}{s:Wd}{r:Rq}(h:prs s=some r)(hl:200≤o.orders.length):doE o s=4:=by unfold doE;rw [h];simp only;rw [if_pos hl]
theorem doS_bad {o:Of}{s:Wd}(h:doE o s≠0):doS o s=o:=by unfold doS;rw [if_neg h]
theorem doE_zero {o:Of}{s:Wd}(h:doE o s=0):∃r,prs s=some r∧o.orders.length<200∧exE o r=0:=by
 cases hp:prs s with
 | none=>rw [doE_none hp] at h;cases h
 | some r =>
  by_cases hl:200≤o.orders.length
  ·rw [doE_full hp hl] at h;cases h
  ·rw [doE_some hp (by omega)] at h;exact ⟨r,rfl,by omega,h⟩
theorem doS_good {o:Of}{s:Wd}{r:Rq}(h:doE o s=0)(hp:prs s=some r):doS o s={ exS o r with orders:=o.orders ++ [s] }:=by
 unfold doS;rw [if_pos h,hp]
section
variable {o:Of}{r:Rq}
theorem exE_at (h:r.kind=0):exE o r=if gi r.nums 0<o.now then 7 else if 1440000<gi r.nums 0 then 4 else 0:=by unfold exE;rw [if_pos h]
theorem exE_dish (h:r.kind=1):exE o r=serE o r.name (gi r.nums 0):=by unfold exE;rw [if_neg (by omega),if_pos h]
theorem exE_kid (h:r.kind=2):exE o r=metE o (gi r.nums 0) r.nums.tail:=by unfold exE;rw [if_neg (by omega),if_neg (by omega),if_pos h]
theorem exE_ord (h:r.kind=3):exE o r=chgE o r.nums 1:=by unfold exE;rw [if_neg (by omega),if_neg (by omega),if_neg (by omega),if_pos h]
theorem exE_can (h:r.kind=4):exE o r=chgE o r.nums 0:=by unfold exE;rw [if_neg (by omega),if_neg (by omega),if_neg (by omega),if_neg (by omega),if_pos h]
theorem exE_free (h:r.kind=5):exE o r=freE o r.nums:=by unfold exE;rw [if_neg (by omega),if_neg (by omega),if_neg (by omega),if_neg (by omega),if_neg (by omega),if_pos h]
theorem exE_cook (h:r.kind=6):exE o r=cokE o (gi r.nums 0) (gi r.nums 1):=by unfold exE;rw [if_neg (by omega),if_neg (by omega),if_neg (by omega),if_neg (by omega),if_neg (by omega),if_neg (by omega),if_pos h]
theorem exE_eat (h:r.kind=7):exE o r=eteE o (gi r.nums 0) (gi r.nums 1):=by unfold exE;rw [if_neg (by omega),if_neg (by omega),if_neg (by omega),if_neg (by omega),if_neg (by omega),if_neg (by omega),if_neg (by omega)]
theorem exS_at (h:r.kind=0):exS o r={ o with now:=gi r.nums 0 }:=by unfold exS;rw [if_pos h]
theorem exS_dish (h:r.kind=1):exS o r={ o with dishes:=o.dishes ++ [⟨r.name,gi r.nums 0⟩] }:=by unfold exS;rw [if_neg (by omega),if_pos h]
theorem exS_kid (h:r.kind=2):exS o r={ o with kids:=insK o.kids ⟨gi r.nums 0,r.nums.tail⟩ }:=by unfold exS;rw [if_neg (by omega),if_neg (by omega),if_pos h]
theorem exS_ord (h:r.kind=3):exS o r={ o with facts:=o.facts ++ [chgF o r.nums 1] }:=by unfold exS;rw [if_neg (by omega),if_neg (by omega),if_neg (by omega),if_pos h]
theorem exS_can (h:r.kind=4):exS o r={ o with facts:=o.facts ++ [chgF o r.nums 0] }:=by unfold exS;rw [if_neg (by omega),if_neg (by omega),if_neg (by omega),if_neg (by omega),if_pos h]
theorem exS_free (h:r.kind=5):exS o r={ o with rights:=freR o r.nums }:=by unfold exS;rw [if_neg (by omega),if_neg (by omega),if_neg (by omega),if_neg (by omega),if_neg (by omega),if_pos h]
theorem exS_cook (h:r.kind=6):exS o r={ o with cooked:=updF o.cooked (gi r.nums 0) (gi r.nums 1) }:=by unfold exS;rw [if_neg (by omega),if_neg (by omega),if_neg (by omega),if_neg (by omega),if_neg (by omega),if_neg (by omega),if_pos h]
theorem exS_eat (h:r.kind=7):exS o r={ o with eaten:=updF o.eaten (gi r.nums 0) (gi r.nums 1) }:=by unfold exS;rw [if_neg (by omega),if_neg (by omega),if_neg (by omega),if_neg (by omega),if_neg (by omega),if_neg (by omega),if_neg (by omega)]
end
/-- All but the list of orders,and what it asks. -/
theorem OfOk.orders {o:Of}(h:OfOk o){s:Wd}{r:Rq}(hp:prs s=some r)(hl:o.orders.length<200){l:List Wd}(hl2:l=o.orders ++ [s]):OfOk { o with orders:=l }:=by
 subst hl2
 exact ⟨h.tm,h.cy,h.bk,h.now0,h.now1,h.dl,h.di,h.dn,h.kn,h.ka,h.ks,h.fv,h.fa,h.fk,h.fm,h.rv,h.ck,h.et,by simp;omega,fun x hx=>by
  rcases List.mem_append.1 hx with hx | hx
  ·exact h.os x hx
  ·rw [List.mem_singleton.1 hx];exact ⟨r,hp⟩,h.safe⟩
theorem gd_old (l:List Dh)(x:Dh){i:Nat}(h:i<l.length):gd (l ++ [x]) i=gd l i:=by simp [gd,List.getElem?_append_left h]
theorem gd_new (l:List Dh)(x:Dh):gd (l ++ [x]) l.length=x:=by simp [gd]
theorem OfOk.at_ {o:Of}(h:OfOk o){n:Int}(h1:o.now≤n)(h2:n≤1440000):OfOk { o with now:=n }:=by
 have fa':∀i,i<o.facts.length→(gf o.facts i).at_≤n:=fun i hi=>by have:=h.fa i hi;omega
 refine ⟨h.tm,h.cy,h.bk,by have:=h.now0;show 0≤n;omega,h2,h.dl,h.di,h.dn,h.kn,h.ka,h.ks,h.fv,fa',h.fk,h.fm,h.rv,h.ck,h.et,h.ol,h.os,fun x hx d hd hh=>?_⟩
 have:=h.safe x hx d hd hh
 unfold eatB knownR at this ⊢
 simp only at this ⊢
 rw [knw_late fa' h.fa]
 exact this
theorem OfOk.kid {o:Of}(h:OfOk o){n:Int}{av:List Int}(h0:0≤n)(he:metE o n av=0):OfOk { o with kids:=insK o.kids ⟨n,av⟩ }:=by
 unfold metE at he
 by_cases h99:99<n
 ·rw [if_pos h99] at he;cases he
 rw [if_neg h99] at he
 by_cases hs:isSet av o.bk.props=false
 ·rw [if_pos hs] at he;cases he
 rw [if_neg hs] at he
 by_cases hk:hasK o.kids n=true
 ·rw [if_pos hk] at he;cases he
 have hno:∀x ∈ o.kids,x.num≠n:=fun x hx e=>hk ((hasK_iff _ _).2 ⟨x,hx,e⟩)
 have hset:isSet av o.bk.props=true:=by cases hb:isSet av o.bk.props with | true=>rfl | false=>exact absurd hb hs
 have hkk:∀c,hasK o.kids c=true→hasK (insK o.kids ⟨n,av⟩) c=true:=fun c hc=>by
  obtain ⟨x,hx,e⟩:=(hasK_iff _ _).1 hc
  exact (hasK_iff _ _).2 ⟨x,(insK_mem _ _ _).2 (.inr hx),e⟩
 refine ⟨h.tm,h.cy,h.bk,h.now0,h.now1,h.dl,h.di,h.dn,fun x hx=>?_,fun x hx=>?_,insK_sorted h.ks hno,h.fv,h.fa,fun i hi=>hkk _ (h.fk i hi),h.fm,h.rv,h.ck,h.et,h.ol,h.os,fun x hx d hd hh=>?_⟩
 ·rcases (insK_mem _ _ _).1 hx with rfl | hx
  ·exact ⟨h0,by show n≤99;omega⟩
  ·exact h.kn x hx
 ·rcases (insK_mem _ _ _).1 hx with rfl | hx
  ·exact hset
  ·exact h.ka x hx
 ·rcases (insK_mem _ _ _).1 hx with rfl | hx
  ·show eatB o n d=false
   cases hb:eatB o n d with
   | false=>rfl
   | true =>
    exfalso
    unfold eatB at hb
    have hk1:=(knownR_bd _ _ _ _ (by simpa using hb)).1
    rw [knw_none fun i hi e=>hk (by have:=h.fk i hi;rw [e] at this;exact this)] at hk1
    cases hk1
  ·exact h.safe x hx d hd hh
theorem OfOk.dish {o:Of}(h:OfOk o){name:Wd}{item:Int}(hn:letB name=true)(h0:0≤item)(he:serE o name item=0):OfOk { o with dishes:=o.dishes ++ [⟨name,item⟩] }:=by
 unfold serE at he
 by_cases h1:o.cy.n≤o.dishes.length
 ·rw [if_pos h1] at he;cases he
 rw [if_neg h1] at he
 by_cases h2:nameB o name=false
 ·rw [if_pos h2] at he;cases he
 rw [if_neg h2] at he
 by_cases h3:(o.bk.items.length:Int)≤item
 ·rw [if_pos h3] at he;cases he
 rw [if_neg h3] at he
 by_cases h4:anyTo (hurtB o item) o.kids.length=true
 ·rw [if_pos h4] at he;cases he
 have h4':anyTo (hurtB o item) o.kids.length=false:=by simpa using h4
 have h2':name.length≤8:=by
  have:nameB o name=true:=by simpa using h2
  unfold nameB at this
  rw [Bool.and_eq_true,decide_eq_true_eq] at this
  exact this.1.1
 refine ⟨h.tm,h.cy,h.bk,h.now0,h.now1,by simp;omega,fun x hx=>?_,fun x hx=>?_,h.kn,h.ka,h.ks,h.fv,h.fa,h.fk,h.fm,h.rv,h.ck,h.et,h.ol,h.os,fun x hx d hd hh=>?_⟩
 ·rcases List.mem_append.1 hx with hx | hx
  ·exact h.di x hx
  ·rw [List.mem_singleton.1 hx];exact ⟨h0,by show item<(o.bk.items.length:Int);omega⟩
 ·rcases List.mem_append.1 hx with hx | hx
  ·exact h.dn x hx
  ·rw [List.mem_singleton.1 hx];exact ⟨hn,h2'⟩
 ·show eatB o x.num d=false
  unfold dayHarm at hh
  rw [Bool.and_eq_true,decide_eq_true_eq] at hh
  obtain ⟨⟨m0,m1⟩,hh⟩:=hh
  have m1':o.menu d<(o.dishes.length:Int)+1:=by
   have m2:o.menu d<((o.dishes ++ [(⟨name,item⟩:Dh)]).length:Int):=m1
   simpa using m2
  have m0':0≤o.menu d:=m0
  by_cases e:o.menu d=o.dishes.length
  ·have e2:({ o with dishes:=o.dishes ++ [⟨name,item⟩] }:Of).menu d=o.menu d:=rfl
   rw [e2,e,Int.toNat_natCast,gd_new] at hh
   obtain ⟨k,hk,rfl⟩:=gk_of_mem hx
   have hu:=(anyTo_false _ _).1 h4' k hk
   unfold hurtB at hu
   rw [show harmB o.bk item (gk o.kids k).avoid=true from hh,Bool.true_and] at hu
   have:=(anyTo_false _ _).1 hu d hd
   rw [e] at this
   simpa using this
  ·refine h.safe x hx d hd ?_
   unfold dayHarm
   rw [Bool.and_eq_true,decide_eq_true_eq]
   refine ⟨⟨m0',by omega⟩,?_⟩
   rw [gd_old _ _ (by show (o.menu d).toNat<o.dishes.length;omega)] at hh
   exact hh
theorem addE_zero {l:List Fact}{f:Fact}(h:addE l f=0):vld l=0∧vld (l ++ [f])=0:=by
 unfold addE at h
 by_cases h1:vld l=0
 ·rw [if_neg (by simp [h1])] at h;exact ⟨h1,h⟩
 ·rw [if_pos h1] at h;exact absurd h h1
theorem OfOk.chg {o:Of}(h:OfOk o){n:List Int}{m:Int}(hm:m=0∨m=1)(he:chgE o n m=0):OfOk { o with facts:=o.facts ++ [chgF o n m] }:=by
 unfold chgE at he
 by_cases h1:hasK o.kids (gi n 0)=false
 ·rw [if_pos h1] at he;cases he
 rw [if_neg h1] at he
 by_cases h2:m=1∧ordHarm o (kidOf o.kids (gi n 0)).avoid (gi n 1) (gi n 2)=true
 ·rw [if_pos h2] at he;cases he
 rw [if_neg h2] at he
 obtain ⟨v1,v2⟩:=addE_zero he
 have hK:hasK o.kids (gi n 0)=true:=by simpa using h1
 have spl:∀(P:Fact→Prop),(∀i,i<o.facts.length→P (gf o.facts i))→P (chgF o n m)→∀i,i<(o.facts ++ [chgF o n m]).length→P (gf (o.facts ++ [chgF o n m]) i):=fun P hP hn i hi=>by
  rw [List.length_append,List.length_singleton] at hi
  by_cases e:i<o.facts.length
  ·rw [gf_old _ _ e];exact hP i e
  ·have:i=o.facts.length:=by omega
   subst this
   rw [gf_new];exact hn
 refine ⟨h.tm,h.cy,h.bk,h.now0,h.now1,h.dl,h.di,h.dn,h.kn,h.ka,h.ks,v2,spl (fun f=>f.at_≤o.now) h.fa (Int.le_refl _),spl (fun f=>hasK o.kids f.ch=true) h.fk hK,spl (fun f=>f.me=0∨f.me=1) h.fm hm,h.rv,h.ck,h.et,h.ol,h.os,fun x hx d hd hh=>?_⟩
 have hx':=h.kn x hx
 have hd':=days_le h.tm
 have hd2:d<o.days:=hd
 cases hb:eatB { o with facts:=o.facts ++ [chgF o n m] } x.num d with
 | false=>rfl
 | true =>
  exfalso
  have hb':=(eatB_iff (o:={ o with facts:=o.facts ++ [chgF o n m] }) v2 hx'.1 hx'.2 (by omega) (by omega)).1 hb
  simp only at hb'
  have hold:eatB o x.num d=false:=h.safe x hx d hd hh
  cases hq:hit (chgF o n m) o.now x.num d with
  | false =>
   rw [knw_miss hq] at hb'
   rw [(eatB_iff v1 hx'.1 hx'.2 (by omega) (by omega)).2 hb'] at hold
   cases hold
  | true =>
   rw [knw_hit hq] at hb'
   have hm1:m=1:=hb'
   unfold hit at hq
   rw [Bool.and_eq_true,covB_iff] at hq
   obtain ⟨-,q1,q2,q3⟩:=hq
   have q1':gi n 0=x.num:=q1
   have q2':gi n 1≤d:=q2
   have q3':(d:Int)<gi n 2:=q3
   apply h2
   refine ⟨hm1,?_⟩
   obtain ⟨k1,k2⟩:=kidOf_mem hK
   have hxk:kidOf o.kids (gi n 0)=x:=kids_uniq h.ks k1 hx (by rw [k2,q1'])
   rw [hxk]
   unfold ordHarm
   rw [anyTo_iff]
   exact ⟨d,hd2,by rw [Bool.and_eq_true,decide_eq_true_eq];exact ⟨⟨q2',q3'⟩,hh⟩⟩
theorem OfOk.free {o:Of}(h:OfOk o){n:List Int}(he:freE o n=0):OfOk { o with rights:=freR o n }:=by
 unfold freE at he
 by_cases h1:hasK o.kids (gi n 0)=false
 ·rw [if_pos h1] at he;cases he
 rw [if_neg h1] at he
 exact ⟨h.tm,h.cy,h.bk,h.now0,h.now1,h.dl,h.di,h.dn,h.kn,h.ka,h.ks,h.fv,h.fa,h.fk,h.fm,he,h.ck,h.et,h.ol,h.os,h.safe⟩
theorem OfOk.cook {o:Of}(h:OfOk o){d n:Int}(h0:0≤n)(he:cokE o d n=0):OfOk { o with cooked:=updF o.cooked d n }:=by
 unfold cokE at he
 by_cases h1:o.opn d=false
 ·rw [if_pos h1] at he;cases he
 rw [if_neg h1] at he
 by_cases h2:(o.cooked d).isSome=true
 ·rw [if_pos h2] at he;cases he
 rw [if_neg h2] at he
 by_cases h3:100000<n
 ·rw [if_pos h3] at he;cases he
 refine ⟨h.tm,h.cy,h.bk,h.now0,h.now1,h.dl,h.di,h.dn,h.kn,h.ka,h.ks,h.fv,h.fa,h.fk,h.fm,h.rv,fun e m hem=>?_,fun e m hem=>?_,h.ol,h.os,h.safe⟩
 ·simp only [updF] at hem
  by_cases ed:e=d
  ·rw [if_pos ed] at hem
   cases hem
   subst ed
   exact ⟨show o.opn e=true by simpa using h1,h0,by omega⟩
  ·rw [if_neg ed] at hem;exact h.ck e m hem
 ·obtain ⟨k,k1,k2⟩:=h.et e m hem
  refine ⟨k,?_,k2⟩
  show updF o.cooked d n e=some k
  unfold updF
  rw [if_neg (fun ed=>h2 (by rw [← ed,k1];rfl))]
  exact k1
theorem OfOk.eat {o:Of}(h:OfOk o){d n:Int}(h0:0≤n)(he:eteE o d n=0):OfOk { o with eaten:=updF o.eaten d n }:=by
 unfold eteE at he
 by_cases h1:o.opn d=false
 ·rw [if_pos h1] at he;cases he
 rw [if_neg h1] at he
 by_cases h2:(o.cooked d).isNone=true∨(o.eaten d).isSome=true
 ·rw [if_pos h2] at he;cases he
 rw [if_neg h2] at he
 by_cases h3:(o.cooked d).getD 0<n
 ·rw [if_pos h3] at he;cases he
 refine ⟨h.tm,h.cy,h.bk,h.now0,h.now1,h.dl,h.di,h.dn,h.kn,h.ka,h.ks,h.fv,h.fa,h.fk,h.fm,h.rv,h.ck,fun e m hem=>?_,h.ol,h.os,h.safe⟩
 simp only [updF] at hem
 by_cases ed:e=d
 ·rw [if_pos ed] at hem
  cases hem
  subst ed
  cases hc:o.cooked e with
  | none=>exact absurd (.inl (by rw [hc];rfl)) h2
  | some k=>rw [hc] at h3;exact ⟨k,by first | exact hc | rfl,h0,by simpa using h3⟩
 ·rw [if_neg ed] at hem;exact h.et e m hem
theorem RqOk.n0 {r:Rq}(h:RqOk r):0≤gi r.nums 0:=by
 by_cases e:0<r.nums.length
 ·exact (h.nums 0 e).1
 ·have:=List.length_eq_zero_iff.1 (by omega:r.nums.length=0);simp [gi,this]
theorem RqOk.n1 {r:Rq}(h:RqOk r):0≤gi r.nums 1:=by
 by_cases e:1<r.nums.length
 ·exact (h.nums 1 e).1
 ·simp [gi,List.getElem?_eq_none (show r.nums.length≤1 by omega)]
theorem OfOk.step {o:Of}(h:OfOk o)(s:Wd):OfOk (doS o s):=by
 by_cases he:doE o s=0
 ·obtain ⟨r,hp,hl,hx⟩:=doE_zero he
  obtain ⟨hr,_⟩:=prs_ok hp
  rw [doS_good he hp]
  have hk:OfOk (exS o r)∧(exS o r).orders=o.orders:=by
   have k0:=hr.k0;have k7:=hr.k7
   have hc:r.kind=0∨r.kind=1∨r.kind=2∨r.kind=3∨r.kind=4∨r.kind=5∨r.kind=6∨r.kind=7:=by omega
   rcases hc with hc | hc | hc | hc | hc | hc | hc | hc
   ·rw [exE_at hc] at hx
    rw [exS_at hc]
    by_cases a:gi r.nums 0<o.now
    ·rw [if_pos a] at hx;cases hx
    rw [if_neg a] at hx
    by_cases b:1440000<gi r.nums 0
    ·rw [if_pos b] at hx;cases hx
    exact ⟨h.at_ (by omega) (by omega),rfl⟩
   ·rw [exE_dish hc] at hx;rw [exS_dish hc];exact ⟨h.dish (hr.name hc) hr.n0 hx,rfl⟩
   ·rw [exE_kid hc] at hx;rw [exS_kid hc];exact ⟨h.kid hr.n0 hx,rfl⟩
   ·rw [exE_ord hc] at hx;rw [exS_ord hc];exact ⟨h.chg (.inr rfl) hx,rfl⟩
   ·rw [exE_can hc] at hx;rw [exS_can hc];exact ⟨h.chg (.inl rfl) hx,rfl⟩
   ·rw [exE_free hc] at hx;rw [exS_free hc];exact ⟨h.free hx,rfl⟩
   ·rw [exE_cook hc] at hx;rw [exS_cook hc];exact ⟨h.cook hr.n1 hx,rfl⟩
   ·rw [exE_eat hc] at hx;rw [exS_eat hc];exact ⟨h.eat hr.n1 hx,rfl⟩
  exact hk.1.orders hp (by rw [hk.2];exact hl) (by rw [hk.2])
 ·rw [doS_bad he];exact h
end Go.Proofs.YtiapkffihpgdcaaGreatDoor
namespace Go.Proofs.YtiapkffihpgdcaaGreatDoor
open Go.RowKit
theorem right_any (a c f t m:Int)(w:World) :
  Calls Tryz.prog 210 #[.agg #[.int .i64 a,.int .i64 c,.int .i64 f,.int .i64 t,.int .i64 m]] w fun e w'=>e=.returned (.bool (rightN a c f t m))∧Below w.heap.size w w':=by
 go_enter Tryz.func210,Tryz.ntmps210
 go_wp2
 all_goals
  go_ret
  exact ⟨ret_bool (by unfold rightN;first | (rw [decide_eq_decide];omega) | (symm;rw [decide_eq_false_iff_not];omega)),by go_grown⟩
theorem isChild_any (n:Int)(w:World):Calls Tryz.prog 88 #[.int .i64 n] w fun e w'=>e=.returned (.bool (inB n 0 99))∧w'=w:=by
 go_enter Tryz.func88,Tryz.ntmps88
 go_wp2
 all_goals
  go_ret
  exact ⟨ret_bool (by unfold inB;first | (rw [decide_eq_decide];omega) | (symm;rw [decide_eq_false_iff_not];omega)),rfl⟩
theorem isDay_any (n:Int)(w:World):Calls Tryz.prog 111 #[.int .i64 n] w fun e w'=>e=.returned (.bool (inB n 0 999))∧w'=w:=by
 go_enter Tryz.func111,Tryz.ntmps111
 go_wp2
 all_goals
  go_ret
  exact ⟨ret_bool (by unfold inB;first | (rw [decide_eq_decide];omega) | (symm;rw [decide_eq_false_iff_not];omega)),rfl⟩
theorem within_anyO (n lo hi:Int)(w:World):Calls Tryz.prog 181 #[.int .i64 n,.int .i64 lo,.int .i64 hi] w fun e w'=>e=.returned (.bool (inB n lo hi))∧w'=w:=by
 go_enter Tryz.func181,Tryz.ntmps181
 go_wp2
 all_goals
  go_ret
  exact ⟨ret_bool (by unfold inB;first | (rw [decide_eq_decide];omega) | (symm;rw [decide_eq_false_iff_not];omega)),rfl⟩
theorem rdays_anyO (f t:Int)(w:World):Calls Tryz.prog 268 #[.int .i64 f,.int .i64 t] w fun e w'=>e=.returned (.bool (stretchB f t))∧w'=w:=by
 go_enter Tryz.func268,Tryz.ntmps268
 go_wp2
 all_goals
  go_ret
  exact ⟨ret_bool (by unfold stretchB;first | (rw [decide_eq_decide];omega) | (symm;rw [decide_eq_false_iff_not];omega)),rfl⟩
theorem validate_any (l:List Fact)(A:Option Addr)(c B:Nat)(w:World)(hR:RF w B A l)(hl:l.length≤1000000000) :
  Calls Tryz.prog 145 #[.slice A l.length c] w fun e w'=>e=.returned (.int .i64 (vld l))∧Below w.heap.size w w':=by
 go_enter Tryz.func145,Tryz.ntmps145
 by_cases h60:60<l.length
 ·go_wp2
  go_ret
  exact ⟨ret_int (by unfold vld;rw [if_pos h60]),by go_grown⟩
 ·go_wp2
  go_loopw [10] (fun i wr=>∃k:Nat,k≤l.length∧i=.int .i64 k∧Below w.heap.size w wr∧Hid (vG (-1) l=vG (prv l k) (l.drop k))) (fun i _=>l.length-(intOf i).toNat)
  case atStart=>exact ⟨0,by omega,rfl,Below.refl _ _,by rw [prv_zero];rfl⟩
  case round =>
   obtain ⟨k,hk,rfl,hbl,HV⟩:=hrel
   by_cases hlt:k<l.length
   ·obtain ⟨ad,rfl,hab,c0,c1,c2,c3,c4⟩:=(hR.below hbl).at_ hlt
    go_wp2_with fail
    refine (right_any _ _ _ _ _ _).mono ?_
    rintro e w1 ⟨rfl,hb1⟩
    obtain ⟨⟨b0,b1,b2,b3,b4⟩,hz1,hb2⟩:=box5 hb1 (by simp)
    have hb3:=hbl.trans (hb2.mono hbl.size)
    clear c0 c1 c2 c3 c4 hb1
    by_cases hr:rightB (gf l k)=true
    ·have hr':rightN (gf l k).at_ (gf l k).ch (gf l k).fr (gf l k).un (gf l k).me=true:=hr
     by_cases hk0:k=0
     ·subst hk0
      go_wp2_with fail
      go_quiet (fail)
      go_wp2
      go_roundw
      case rel=>exact ⟨1,by omega,rfl,below_drewN hb3 _,vld_next l 0 hlt HV.out hr (by omega)⟩
      case measure=>simp [intOf];omega
     ·have hkp:0<k:=by omega
      obtain ⟨ad',e',hab',c0,-⟩:=(hR.below hb3).at_ (k:=k-1) (by omega)
      cases e'
      by_cases hp:(gf l k).at_<(gf l (k-1)).at_
      ·go_wp2_with fail
       go_quiet (fail)
       go_wp2
       go_ret
       exact ⟨ret_int (vld_order l k hlt h60 HV.out hr hkp hp).symm,below_drewN hb3 _⟩
      ·go_wp2_with fail
       go_quiet (fail)
       go_wp2
       go_roundw
       case rel=>exact ⟨k+1,by omega,by go_num,below_drewN hb3 _,vld_next l k hlt HV.out hr (fun _=>by omega)⟩
       case measure=>simp [intOf];omega
    ·have hr':rightN (gf l k).at_ (gf l k).ch (gf l k).fr (gf l k).un (gf l k).me=false:=by simpa [rightB] using hr
     go_wp2
     go_ret
     exact ⟨ret_int (vld_wrong l k hlt h60 HV.out hr').symm,hb3⟩
   ·go_wp2
    go_ret
    exact ⟨ret_int (vld_end l k hlt h60 HV.out).symm,hbl⟩
theorem rvalidate_any (l:List Fact)(A:Option Addr)(c B:Nat)(w:World)(hR:RF w B A l)(hl:l.length≤1000000000) :
  Calls Tryz.prog 251 #[.slice A l.length c] w fun e w'=>e=.returned (.int .i64 (vld l))∧Below w.heap.size w w':=by
 go_enter Tryz.func251,Tryz.ntmps251
 by_cases h60:60<l.length
 ·go_wp2
  go_ret
  exact ⟨ret_int (by unfold vld;rw [if_pos h60]),by go_grown⟩
 ·go_wp2
  go_loopw [3] (fun i wr=>∃k:Nat,k≤l.length∧i=.int .i64 k∧Below w.heap.size w wr∧Hid (vG (-1) l=vG (prv l k) (l.drop k))) (fun i _=>l.length-(intOf i).toNat)
  case atStart=>exact ⟨0,by omega,rfl,Below.refl _ _,by rw [prv_zero];rfl⟩
  case round =>
   obtain ⟨k,hk,rfl,hbl,HV⟩:=hrel
   by_cases hlt:k<l.length
   ·obtain ⟨ad,rfl,hab,c0,c1,c2,c3,c4⟩:=(hR.below hbl).at_ hlt
    by_cases hr:rightB (gf l k)=true
    ·obtain ⟨r1,r2,r3,r4,r5,r6,r7,r8,r9⟩:=(right_iff _).1 hr
     have i1:inB (gf l k).at_ 0 1440000=true:=inB_true.2 ⟨r1,r2⟩
     have i2:inB (gf l k).ch 0 99=true:=inB_true.2 ⟨r3,r4⟩
     have i3:stretchB (gf l k).fr (gf l k).un=true:=by simp [stretchB];omega
     have i4:inB (gf l k).me 0 9=true:=inB_true.2 ⟨r8,r9⟩
     clear r1 r2 r3 r4 r5 r6 r7 r8 r9
     have hb3:=hbl.alloc hbl.size (.cells #[.int .i64 (gf l k).at_,.int .i64 (gf l k).ch,.int .i64 (gf l k).fr,.int .i64 (gf l k).un,.int .i64 (gf l k).me] 53)
     by_cases hk0:k=0
     ·have hd:decide (0<k)=false:=by simp;omega
      clear hk0
      go_wp2_with (first | (go_at_call 181;refine (within_anyO _ _ _ _).mono ?_;rintro e w' ⟨rfl,rfl⟩) | (go_at_call 268;refine (rdays_anyO _ _ _).mono ?_;rintro e w' ⟨rfl,rfl⟩))
      go_quiet (fail)
      go_wp2
      go_roundw
      case rel=>exact ⟨k+1,by omega,by go_num,below_drewN hb3 _,vld_next l k hlt HV.out hr (fun h=>by simp at hd;omega)⟩
      case measure=>simp [intOf];omega
     ·have hkp:0<k:=by omega
      obtain ⟨ad',e',hab',d0,-⟩:=(hR.below hbl).at_ (k:=k-1) (by omega)
      cases e'
      by_cases hp:(gf l k).at_<(gf l (k-1)).at_
      ·go_wp2_with (first | (go_at_call 181;refine (within_anyO _ _ _ _).mono ?_;rintro e w' ⟨rfl,rfl⟩) | (go_at_call 268;refine (rdays_anyO _ _ _).mono ?_;rintro e w' ⟨rfl,rfl⟩))
       go_quiet (fail)
       go_wp2
       go_ret
       exact ⟨ret_int (vld_order l k hlt h60 HV.out hr hkp hp).symm,below_drewN hb3 _⟩
      ·go_wp2_with (first | (go_at_call 181;refine (within_anyO _ _ _ _).mono ?_;rintro e w' ⟨rfl,rfl⟩) | (go_at_call 268;refine (rdays_anyO _ _ _).mono ?_;rintro e w' ⟨rfl,rfl⟩))
       go_quiet (fail)
       go_wp2
       go_roundw
       case rel=>exact ⟨k+1,by omega,by go_num,below_drewN hb3 _,vld_next l k hlt HV.out hr (fun _=>by omega)⟩
       case measure=>simp [intOf];omega
    ·have hr':rightB (gf l k)=false:=by simpa using hr
     have hn:¬ (inB (gf l k).at_ 0 1440000=true∧inB (gf l k).ch 0 99=true∧stretchB (gf l k).fr (gf l k).un=true∧inB (gf l k).me 0 9=true):=by
      intro hh;apply hr;rw [right_iff];simp [inB,stretchB] at hh;omega
     have HN:=Lib.hid hn;clear hn hr
     go_wp2_with (first | (go_at_call 181;refine (within_anyO _ _ _ _).mono ?_;rintro e w' ⟨rfl,rfl⟩) | (go_at_call 268;refine (rdays_anyO _ _ _).mono ?_;rintro e w' ⟨rfl,rfl⟩))
     all_goals first
      | exact absurd ⟨‹_›,‹_›,‹_›,by simpa using ‹(!inB (gf l k).me 0 9)=false›⟩ HN.out
      | (go_ret;exact ⟨ret_int (vld_wrong l k hlt h60 HV.out hr').symm,hbl.alloc hbl.size _⟩)
   ·go_wp2
    go_ret
    exact ⟨ret_int (vld_end l k hlt h60 HV.out).symm,hbl⟩
theorem asked_anyO (l:List Fact)(b:Bool)(A:Option Addr)(c B:Nat)(w:World)(hR:RF w B A l)(hl:l.length≤1000000000) :
  Calls Tryz.prog 110 #[.slice A l.length c,.bool b] w fun e w'=>e=.returned (.int .i64 (askd l b))∧Below w.heap.size w w':=by
 go_enter Tryz.func110,Tryz.ntmps110
 go_wp2_with fail
 refine (validate_any l A c B _ hR hl).mono ?_
 rintro e w1 ⟨rfl,hb1⟩
 by_cases hv:vld l=0
 ·have hv1:(vld l != 0)=false:=by simp [hv]
  have HV:=Lib.hid hv;clear hv
  cases b
  all_goals
   go_wp2
   go_ret
   exact ⟨ret_int (by simp [askd,HV.out]),hb1⟩
 ·have hv1:(vld l != 0)=true:=by simp [hv]
  have HV:=Lib.hid hv;clear hv
  go_wp2
  go_ret
  exact ⟨ret_int (by unfold askd;rw [if_pos HV.out]),hb1⟩
theorem rasked_any (l:List Fact)(child day:Int)(A:Option Addr)(c B:Nat)(w:World)(hR:RF w B A l)(hl:l.length≤1000000000) :
  Calls Tryz.prog 249 #[.slice A l.length c,.int .i64 child,.int .i64 day] w fun e w'=>e=.returned (.int .i64 (askd l (inB child 0 99 && inB day 0 999)))∧Below w.heap.size w w':=by
 go_enter Tryz.func249,Tryz.ntmps249
 go_wp2_with fail
 refine (rvalidate_any l A c B _ hR hl).mono ?_
 rintro e w1 ⟨rfl,hb1⟩
 by_cases hv:vld l=0
 ·have hv1:(vld l != 0)=false:=by simp [hv]
  have HV:=Lib.hid hv;clear hv
  by_cases h1:inB child 0 99=true
  ·by_cases h2:inB day 0 999=true
   ·go_wp2_with (go_at_call 181;refine (within_anyO _ _ _ _).mono ?_;rintro e w' ⟨rfl,rfl⟩)
    go_ret
    exact ⟨ret_int (by simp [askd,HV.out,h1,h2]),hb1⟩
   ·have h2':inB day 0 999=false:=by simpa using h2
    clear h2
    go_wp2_with (go_at_call 181;refine (within_anyO _ _ _ _).mono ?_;rintro e w' ⟨rfl,rfl⟩)
    go_ret
    exact ⟨ret_int (by simp [askd,HV.out,h1,h2']),hb1⟩
  ·have h1':inB child 0 99=false:=by simpa using h1
   clear h1
   go_wp2_with (go_at_call 181;refine (within_anyO _ _ _ _).mono ?_;rintro e w' ⟨rfl,rfl⟩)
   go_ret
   exact ⟨ret_int (by simp [askd,HV.out,h1']),hb1⟩
 ·have hv1:(vld l != 0)=true:=by simp [hv]
  have HV:=Lib.hid hv;clear hv
  go_wp2
  go_ret
  exact ⟨ret_int (by unfold askd;rw [if_pos HV.out]),hb1⟩
theorem untilf_any (a c f u m t:Int)(w:World) :
  Calls Tryz.prog 258 #[.agg #[.int .i64 a,.int .i64 c,.int .i64 f,.int .i64 u,.int .i64 m],.int .i64 t] w fun e w'=>e=.returned (.int .i64 (leq1 a t))∧Below w.heap.size w w':=by
 by_cases h:a≤t
 ·go_enter Tryz.func258,Tryz.ntmps258
  go_wp2
  go_ret
  exact ⟨ret_int (leq1_yes h).symm,by go_grown⟩
 ·go_enter Tryz.func258,Tryz.ntmps258
  go_wp2
  go_ret
  exact ⟨ret_int (leq1_no (by omega)).symm,by go_grown⟩
theorem covers_any (a c f u m child day:Int)(w:World) :
  Calls Tryz.prog 176 #[.agg #[.int .i64 a,.int .i64 c,.int .i64 f,.int .i64 u,.int .i64 m],.int .i64 child,.int .i64 day] w fun e w'=>e=.returned (.bool (covN c f u child day))∧Below w.heap.size w w':=by
 go_enter Tryz.func176,Tryz.ntmps176
 go_wp2
 all_goals
  go_ret
  exact ⟨ret_bool (by unfold covN;first | (rw [decide_eq_decide];omega) | (symm;rw [decide_eq_false_iff_not];omega)),by go_grown⟩
theorem search_anyO (l:List Fact)(t:Int)(hV:Vld l)(A:Option Addr)(c B:Nat)(w:World)(hR:RF w B A l) :
  Calls Tryz.prog 257 #[.slice A l.length c,.int .i64 t,.func (.func 258) #[] #[]] w fun e w' =>
   ∃n:Nat,IsCut l t n∧e=.returned (.tuple #[.int .i64 n,.bool false])∧Below w.heap.size w w':=by
 have hlen:=hV.len
 go_enter Tryz.func257,Tryz.ntmps257
 go_wp2
 go_loopw [9,10] (fun x y wr=>∃i j:Nat,i≤j∧j≤l.length∧x=.int .i64 i∧y=.int .i64 j∧Below w.heap.size w wr∧SrchO l t i j) (fun x y _=>(intOf y).toNat-(intOf x).toNat)
 case atStart=>exact ⟨0,l.length,by omega,by omega,rfl,rfl,Below.refl _ _,by intro m hm;omega,by intro m h1 h2;omega⟩
 case round =>
  obtain ⟨i,j,hij,hj,rfl,rfl,hbl,hs⟩:=hrel
  by_cases hlt:i<j
  ·obtain ⟨ad,rfl,hab,c0,c1,c2,c3,c4⟩:=(hR.below hbl).at_ (k:=(i+j) / 2) (by omega)
   go_wp2_with fail
   refine (untilf_any _ _ _ _ _ _ _).mono ?_
   rintro e w1 ⟨rfl,hb1⟩
   have hb3:=hbl.trans (hb1.mono hbl.size)
   clear c0 c1 c2 c3 c4 hb1
   by_cases ht:(gf l ((i+j) / 2)).at_≤t
   ·rw [leq1_yes ht]
    go_wp2
    go_roundw
    case rel=>exact ⟨(i+j) / 2+1,j,by omega,by omega,by go_num,rfl,hb3,fun m hm=>Int.le_trans (hV.sorted m ((i+j) / 2) (by omega) (by omega)) ht,hs.2⟩
    case measure=>simp [intOf];omega
   ·have ht':t<(gf l ((i+j) / 2)).at_:=by omega
    rw [leq1_no ht']
    go_wp2
    go_roundw
    case rel=>exact ⟨i,(i+j) / 2,by omega,by omega,rfl,by go_num,hb3,hs.1,fun m h1 h2=>Int.lt_of_lt_of_le ht' (hV.sorted ((i+j) / 2) m (by omega) (by omega))⟩
    case measure=>simp [intOf];omega
  ·have hcut:IsCut l t i:=⟨by omega,hs.1,fun m h1 h2=>hs.2 m (by omega) h2⟩
   by_cases hi:i<l.length
   ·obtain ⟨ad,rfl,hab,c0,c1,c2,c3,c4⟩:=(hR.below hbl).at_ hi
    go_wp2_with fail
    refine (untilf_any _ _ _ _ _ _ _).mono ?_
    rintro e w1 ⟨rfl,hb1⟩
    have hb3:=hbl.trans (hb1.mono hbl.size)
    clear c0 c1 c2 c3 c4 hb1
    rw [leq1_no (hcut.2.2 i (by omega) hi)]
    go_wp2
    go_ret2
    exact ⟨i,hcut,rfl,hb3⟩
   ·go_wp2
    go_ret2
    exact ⟨i,hcut,rfl,hbl⟩
theorem until_any (l:List Fact)(t:Int)(hV:Vld l)(A:Option Addr)(c B:Nat)(hc:l.length≤c)(w:World)(hR:RF w B A l) :
  Calls Tryz.prog 188 #[.slice A l.length c,.int .i64 t] w fun e w' =>
   ∃n:Nat,IsCut l t n∧e=.returned (.slice A n n)∧Below w.heap.size w w':=by
 have hlen:=hV.len
 go_enter Tryz.func188,Tryz.ntmps188
 go_wp2_with fail
 refine (search_anyO l t hV A c B _ hR).mono ?_
 rintro e w1 ⟨n,hcut,rfl,hb1⟩
 have hn:=hcut.1
 go_wp2
 go_ret
 exact ⟨n,hcut,rfl,hb1⟩
/-- The fact with the number i,with this number;zeros and -1 if there is none. -/
def foundV (l:List Fact)(i:Int):Value:=.agg #[.int .i64 (fAt l i),.int .i64 (fCh l i),.int .i64 (fFr l i),.int .i64 (fUn l i),.int .i64 (fMe l i),.int .i64 i]
theorem foundV_none (l:List Fact):foundV l (-1)=.agg #[.int .i64 0,.int .i64 0,.int .i64 0,.int .i64 0,.int .i64 0,.int .i64 (-1)]:=by simp [foundV,fAt,fCh,fFr,fUn,fMe]
theorem foundV_some (l:List Fact)(k:Nat):foundV l k=.agg #[.int .i64 (gf l k).at_,.int .i64 (gf l k).ch,.int .i64 (gf l k).fr,.int .i64 (gf l k).un,.int .i64 (gf l k).me,.int .i64 k]:=by
 have h:¬ (k:Int)<0:=by omega
 simp [foundV,fAt,fCh,fFr,fUn,fMe,h]
theorem reason_any (l:List Fact)(t child day:Int)(hV:Vld l)(A:Option Addr)(c B:Nat)(hc:l.length≤c)(w:World)(hR:RF w B A l) :
  Calls Tryz.prog 113 #[.slice A l.length c,.int .i64 t,.int .i64 child,.int .i64 day] w fun e w'=>e=.returned (foundV l (rsn l t child day))∧Below w.heap.size w w':=by
 have hlen:=hV.len
 go_enter Tryz.func113,Tryz.ntmps113
 go_wp2_with fail
 refine (until_any l t hV A c B hc _ (hR.below ((Below.refl _ _).alloc (Nat.le_refl _) _))).mono ?_
 rintro e w1 ⟨n,hcut,rfl,hb1⟩
 have hn:=hcut.1
 go_wp2
 go_loopw [10] (fun x wr=>∃i:Int,-1≤i∧i<n∧x=.int .i64 i∧Below (w.heap.size+1) (w.alloc (.cells #[.int .i64 0,.int .i64 0,.int .i64 0,.int .i64 0,.int .i64 0,.int .i64 0] 177)) wr∧Hid (rsn l t child day=rsnTo l t child day (i+1).toNat)) (fun x _=>(intOf x+1).toNat)
 case atStart=>exact ⟨(n:Int)-1,by omega,by omega,rfl,by simpa using hb1,by rw [rsn_cut hcut];congr 1;omega⟩
 case round =>
  obtain ⟨i,hi0,hin,rfl,hbl,HH⟩:=hrel
  obtain ⟨bc,bf,bz,hbl0⟩:=blk_facts hbl (by omega)
  by_cases hi:i<0
  ·have hfin:rsn l t child day = -1:=by rw [HH.out,show (i+1).toNat=0 by omega];rfl
   have HF:=Lib.hid hfin;clear hfin HH
   go_wp2
   refine bodyPost_ret (v:=.agg #[.int .i64 0,.int .i64 0,.int .i64 0,.int .i64 0,.int .i64 0,.int .i64 (-1)]) (by simp [results,Tryz.results113,go_sem,bc,bf]) rfl ⟨ret_val ?_,?_⟩
   ·rw [HF.out,foundV_none]
   ·go_grown
  ·obtain ⟨k,rfl⟩:=Int.eq_ofNat_of_zero_le (show 0≤i by omega)
   have hk:k<n:=by omega
   obtain ⟨ad,rfl,hab,c0,c1,c2,c3,c4⟩:=(hR.below hbl0).at_ (k:=k) (by omega)
   go_wp2_with fail
   refine (covers_any _ _ _ _ _ _ _ _).mono ?_
   rintro e w2 ⟨rfl,hb2⟩
   have hbl2:=hbl.trans (hb2.mono (by have:=hbl.size;simp at this;omega))
   obtain ⟨bc2,bf2,bz2,hbl20⟩:=blk_facts hbl2 (by omega)
   clear c0 c1 c2 c3 c4 bc bf hb2
   by_cases hcv:covB (gf l k) child day=true
   ·have hcv':covN (gf l k).ch (gf l k).fr (gf l k).un child day=true:=hcv
    have hfin:rsn l t child day=k:=by
     rw [HH.out,show ((k:Int)+1).toNat=k+1 by omega,rsnTo_hit]
     simp [hit,hcv,hcut.2.1 k hk]
    have HF:=Lib.hid hfin;clear hfin HH
    obtain ⟨ad',e',-,d0,d1,d2,d3,d4⟩:=(hR.below hbl20).at_ (k:=k) (by omega)
    cases e'
    go_wp2
    refine bodyPost_ret (v:=.agg #[.int .i64 (gf l k).at_,.int .i64 (gf l k).ch,.int .i64 (gf l k).fr,.int .i64 (gf l k).un,.int .i64 (gf l k).me,.int .i64 k]) (by simp [results,Tryz.results113,go_sem,bc2,bf2]) rfl ⟨ret_val ?_,?_⟩
    ·rw [HF.out,foundV_some]
    ·go_grown
   ·have hcv':covN (gf l k).ch (gf l k).fr (gf l k).un child day=false:=by simpa [covB] using hcv
    have hnext:rsn l t child day=rsnTo l t child day ((k:Int)-1+1).toNat:=by
     rw [HH.out,show ((k:Int)+1).toNat=k+1 by omega,show ((k:Int)-1+1).toNat=k by omega,rsnTo_miss]
     simp [hit,covB,hcv']
    have HF:=Lib.hid hnext;clear hnext HH
    go_wp2
    go_roundw
    case rel=>exact ⟨(k:Int)-1,by omega,by omega,rfl,hbl2,HF⟩
    case measure=>simp [intOf]
theorem rreason_any (l : List Fact) (t child day : Int) (hlen : l.length ≤ 1000000000) (A : Option Addr) (c B : Nat) (w : World) (hR : RF w B A l) :
    Calls Tryz.prog 297 #[.slice A l.length c, .int .i64 t, .int .i64 child, .int .i64 day] w fun e w' => e = .returned (.int .i64 (rsn l t child day)) ∧ w' = w := by
  go_enter Tryz.func297, Tryz.ntmps297
  go_wp2
  go_loop [9, 10] (fun o x => ∃ k : Nat, k ≤ l.length ∧ x = .int .i64 k ∧ o = .int .i64 (rsnTo l t child day k)) (fun _ x => l.length - (intOf x).toNat)
  case atStart => exact ⟨0, by omega, rfl, rfl⟩
  case round =>
    obtain ⟨k, hk, rfl, rfl⟩ := hrel
    by_cases hlt : k < l.length
    · obtain ⟨ad, rfl, hab, c0, c1, c2, c3, c4⟩ := hR.at_ (k := k) (by omega)
      by_cases hh : (gf l k).at_ ≤ t ∧ (gf l k).ch = child ∧ (gf l k).fr ≤ day ∧ day < (gf l k).un
      · have hs := rsnTo_hit l t child day k (by simp [hit, covB, covN]; omega)
        have HS := Lib.hid hs; clear hs
        obtain ⟨h1, h2, h3, h4⟩ := hh
        have h2' : ((gf l k).ch == child) = true := by simp [h2]
        clear h2
        go_wp2
        go_round
        case rel => exact ⟨k + 1, by omega, by go_num, by rw [HS.out]⟩
        case measure => simp [intOf]; omega
      · have hs := rsnTo_miss l t child day k (by simp [hit, covB, covN]; omega)
        have HS := Lib.hid hs; clear hs
        have HN := Lib.hid hh; clear hh
        go_wp2
        all_goals first
          | exact absurd ⟨‹_›, ‹_›, ‹_›, ‹_›⟩ HN.out
          | (go_round
             case rel => exact ⟨k + 1, by omega, by go_num, by rw [HS.out]⟩
             case measure => simp [intOf]; omega)
    · go_wp2
      go_ret
      exact ⟨ret_int (by unfold rsn; congr 1; omega), rfl⟩
theorem rknown_any (l:List Fact)(t child day:Int)(hlen:l.length≤1000000000)(A:Option Addr)(c B:Nat)(w:World)(hR:RF w B A l) :
  Calls Tryz.prog 253 #[.slice A l.length c,.int .i64 t,.int .i64 child,.int .i64 day] w fun e w'=>e=.returned (.int .i64 (knw l t child day))∧w'=w:=by
 have hbd : -1≤rsn l t child day∧rsn l t child day<l.length:=rsnTo_bd l t child day l.length
 obtain ⟨i,hi⟩:∃i,i=rsn l t child day:=⟨_,rfl⟩
 rw [show knw l t child day=fMe l i by rw [hi];rfl]
 rw [← hi] at hbd
 have HI:=Lib.hid hi;clear hi
 go_enter Tryz.func253,Tryz.ntmps253
 go_wp2_with fail
 refine (rreason_any l t child day hlen A c B _ hR).mono ?_
 rintro e w' ⟨rfl,rfl⟩
 rw [← HI.out]
 by_cases h0:i<0
 ·go_wp2
  go_ret
  exact ⟨ret_int (by unfold fMe;rw [if_pos h0]),rfl⟩
 ·obtain ⟨k,rfl⟩:=Int.eq_ofNat_of_zero_le (show 0≤i by omega)
  obtain ⟨ad,rfl,hab,c0,c1,c2,c3,c4⟩:=hR.at_ (k:=k) (by omega)
  go_wp2
  go_ret
  exact ⟨ret_int (by unfold fMe;rw [if_neg (by omega)];rfl),rfl⟩
def Sp.vals (s:Sp):List Value:=[.int .i64 s.fr,.int .i64 s.un,.int .i64 s.me]
def cellsS (l:List Sp):List Value:=l.flatMap Sp.vals
theorem cellsS_cons (s:Sp)(l:List Sp):cellsS (s :: l)=s.vals ++ cellsS l:=by simp [cellsS]
theorem cellsS_append (l r:List Sp):cellsS (l ++ r)=cellsS l ++ cellsS r:=by simp [cellsS]
theorem cellsS_at (l:List Sp)(k j:Nat)(hk:k<l.length)(hj:j<3):(cellsS l)[k*3+j]? = (gs l k).vals[j]?:=by
 induction l generalizing k with
 | nil=>simp at hk
 | cons f l ih =>
  rw [cellsS_cons]
  cases k with
  | zero=>rw [List.getElem?_append_left (by simp [Sp.vals];omega)];simp [gs]
  | succ k =>
   rw [List.getElem?_append_right (by simp [Sp.vals];omega)]
   have:(k+1)*3+j-f.vals.length=k*3+j:=by simp [Sp.vals];omega
   rw [this,ih k (by simpa using hk)]
   simp [gs]
/-- The slice (A,n=l.length) reads as the spans l. -/
def RSO (w:World)(A:Option Addr)(l:List Sp):Prop:=Reads w w.heap.size 3 A l.length (cellsS l)
section
variable {w w':World}{base c:Nat}{A:Option Addr}{l:List Sp}
theorem RSO.below (h:RSO w A l)(hb:Below w.heap.size w w'):RSO w' A l:=(Reads.below' h hb (Nat.le_refl _)).more hb.size
theorem RSO.at_ (h:RSO w A l){k:Nat}(hk:k<l.length):∃ad,A=some ad∧(ad.add (k*3)).block<w.heap.size∧w.cell? (ad.add (k*3))=some (.int .i64 (gs l k).fr) ∧
  w.cell? ⟨(ad.add (k*3)).block,(ad.add (k*3)).off+1,none⟩=some (.int .i64 (gs l k).un)∧w.cell? ⟨(ad.add (k*3)).block,(ad.add (k*3)).off+2,none⟩=some (.int .i64 (gs l k).me):=by
 obtain ⟨ad,e,hb,hc⟩:=h.2 (by omega)
 have hs:=fun j=>addr_succ ad (k*3) j
 exact ⟨ad,e,by rw [block_of_add];exact hb,hc (k*3+0) _ (cellsS_at l k 0 hk (by omega)),(hs 0) ▸ hc _ _ (cellsS_at l k 1 hk (by omega)),(hs 1) ▸ hc _ _ (cellsS_at l k 2 hk (by omega))⟩
end
theorem field_found (a b c d e f:Int)(w:World):(Instr.field 177 (.agg #[.int .i64 a,.int .i64 b,.int .i64 c,.int .i64 d,.int .i64 e,.int .i64 f]) 0).run Tryz.prog w=.ok (.agg #[.int .i64 a,.int .i64 b,.int .i64 c,.int .i64 d,.int .i64 e]) w:=by kernel_rfl
theorem field_meal (a b c d e:Int)(w:World):(Instr.field 53 (.agg #[.int .i64 a,.int .i64 b,.int .i64 c,.int .i64 d,.int .i64 e]) 4).run Tryz.prog w=.ok (.int .i64 e) w:=by kernel_rfl
theorem knownX_any (l:List Fact)(t child day:Int)(hl:l.length≤1000000000)(A:Option Addr)(c B:Nat)(hc:l.length≤c)(w:World)(hR:RF w B A l) :
  Calls Tryz.prog 58 #[.slice A l.length c,.int .i64 t,.int .i64 child,.int .i64 day] w fun e w'=>e=.returned (.tuple #[.int .i64 (knownR l t child day),.int .i64 (askE l child day)])∧Below w.heap.size w w':=by
 obtain ⟨E,hE⟩:∃E,E=askE l child day:=⟨_,rfl⟩
 have hE1:askd l (inB child 0 99 && inB day 0 999)=E:=by rw [hE];rfl
 rw [← hE]
 obtain ⟨KR,hKR⟩:∃KR,KR=knownR l t child day:=⟨_,rfl⟩
 rw [← hKR]
 have HK:=Lib.hid hKR;clear hKR
 have HE:=Lib.hid hE;clear hE
 have HE1:=Lib.hid hE1;clear hE1
 go_enter Tryz.func58,Tryz.ntmps58
 go_wp2_with fail
 refine (isChild_any _ _).mono ?_
 rintro e w' ⟨rfl,rfl⟩
 obtain ⟨b1,hb1⟩:∃b,b=inB child 0 99:=⟨_,rfl⟩
 rw [← hb1]
 rw [← hb1] at HE1
 clear hb1
 have hrest:∀w1,Below w'.heap.size w' w1→RF w1 B A l:=fun w1 hb=>hR.below hb
 cases b1 with
 | true =>
  go_wp2_with (go_at_call 111;refine (isDay_any _ _).mono ?_;rintro e w1 ⟨rfl,rfl⟩)
  refine (asked_anyO l _ A c B _ hR hl).mono ?_
  rintro e w1 ⟨rfl,hb1⟩
  rw [show inB day 0 999=(true && inB day 0 999) by simp,HE1.out]
  by_cases h0:E=0
  ·obtain ⟨hV,-⟩:=askE_ok (HE.out.symm.trans h0)
   have hk:KR=fMe l (rsn l t child day):=by rw [HK.out,knownR,if_pos (HE.out.symm.trans h0)];rfl
   have HKK:=Lib.hid hk
   have hE0:(E != 0)=false:=by simp [h0]
   have H0:=Lib.hid h0
   clear h0 hk
   go_wp2_with fail
   refine (reason_any l t child day hV A c B hc _ (hR.below hb1)).mono ?_
   rintro e w2 ⟨rfl,hb2⟩
   unfold foundV
   have hfld:=field_found
   have hfld2:=field_meal
   go_wp2
   go_ret2
   exact ⟨ret2 (by rw [HKK.out];rfl) (by rw [H0.out];rfl),hb1.trans (hb2.mono hb1.size)⟩
  ·have hE0:(E != 0)=true:=by simp [h0]
   have hk:KR=0:=by rw [HK.out,knownR,if_neg (fun h=>h0 (HE.out.trans h))]
   have HKK:=Lib.hid hk
   clear h0 hk
   go_wp2
   go_ret2
   exact ⟨ret2 (by rw [HKK.out];rfl) rfl,hb1⟩
 | false =>
  go_wp2_with fail
  refine (asked_anyO l _ A c B _ hR hl).mono ?_
  rintro e w1 ⟨rfl,hb1⟩
  rw [show askd l false=E by rw [← HE1.out];rfl]
  have h0:¬ E=0:=by rw [← HE1.out];intro h;have:=(askd_ok h).2;simp at this
  have hE0:(E != 0)=true:=by simp [h0]
  have hk:KR=0:=by rw [HK.out,knownR,if_neg (fun h=>h0 (HE.out.trans h))]
  have HKK:=Lib.hid hk
  clear h0 hk
  go_wp2
  go_ret2
  exact ⟨ret2 (by rw [HKK.out];rfl) rfl,hb1⟩
theorem rknownX_any (l:List Fact)(t child day:Int)(hl:l.length≤1000000000)(A:Option Addr)(c B:Nat)(w:World)(hR:RF w B A l) :
  Calls Tryz.prog 267 #[.slice A l.length c,.int .i64 t,.int .i64 child,.int .i64 day] w fun e w'=>e=.returned (.tuple #[.int .i64 (knownR l t child day),.int .i64 (askE l child day)])∧Below w.heap.size w w':=by
 obtain ⟨E,hE⟩:∃E,E=askE l child day:=⟨_,rfl⟩
 obtain ⟨KR,hKR⟩:∃KR,KR=knownR l t child day:=⟨_,rfl⟩
 rw [← hKR,← hE]
 have HK:=Lib.hid hKR;clear hKR
 have HE:=Lib.hid hE;clear hE
 go_enter Tryz.func267,Tryz.ntmps267
 go_wp2_with fail
 refine (rasked_any l _ _ A c B _ hR hl).mono ?_
 rintro e w1 ⟨rfl,hb1⟩
 rw [show askd l (inB child 0 99 && inB day 0 999)=E by rw [HE.out];rfl]
 by_cases h0:E=0
 ·have hk:KR=knw l t child day:=by rw [HK.out,knownR,if_pos (HE.out.symm.trans h0)]
  have HKK:=Lib.hid hk
  have hE0:(E != 0)=false:=by simp [h0]
  have H0:=Lib.hid h0
  clear h0 hk
  go_wp2_with fail
  refine (rknown_any l t child day hl A c B _ (hR.below hb1)).mono ?_
  rintro e w2 ⟨rfl,rfl⟩
  go_wp2
  go_ret2
  exact ⟨ret2 (by rw [HKK.out];rfl) (by rw [H0.out];rfl),hb1⟩
 ·have hE0:(E != 0)=true:=by simp [h0]
  have hk:KR=0:=by rw [HK.out,knownR,if_neg (fun h=>h0 (HE.out.trans h))]
  have HKK:=Lib.hid hk
  clear h0 hk
  go_wp2
  go_ret2
  exact ⟨ret2 (by rw [HKK.out];rfl) rfl,hb1⟩
theorem rchildren_any (l:List Fact)(t m:Int)(d:Nat)(hl:l.length≤1000000000)(A0:Option Addr)(c0 B:Nat)(w:World)(hR:RF w B A0 l) :
  Calls Tryz.prog 250 #[.slice A0 l.length c0,.int .i64 t,.int .i64 (d:Nat),.int .i64 m] w fun e w' =>
   ∃A c,e=.returned (.slice A (chTo l t m d 100).length c)∧OwnN w' w.heap.size A c (chTo l t m d 100)∧Below w.heap.size w w':=by
 go_enter Tryz.func250,Tryz.ntmps250
 go_wp2
 go_loopw [9,10] (fun o x wr=>∃k:Nat,k≤100∧x=.int .i64 k∧∃A c,o=.slice A (chTo l t m d k).length c∧OwnN wr w.heap.size A c (chTo l t m d k)∧Below w.heap.size w wr) (fun _ x _=>100-(intOf x).toNat)
 case atStart=>exact ⟨0,by omega,rfl,none,0,rfl,World.ownsRow_nil _ _ _ _,Below.refl _ _⟩
 case round =>
  obtain ⟨k,hk,rfl,A,c,rfl,own,hbl⟩:=hrel
  by_cases hlt:k<100
  ·have hll:=chTo_le l t m d k
   have hbs:=hbl.size
   cases hq:(knw l t k d == m) with
   | true =>
    have hs:=chTo_yes l t m d k hq
    have HS:=Lib.hid hs;clear hs
    go_wp2_with (first | (go_at_call 253;refine (rknown_any l _ _ _ hl A0 c0 B _ (hR.below hbl)).mono ?_;rintro e w' ⟨rfl,rfl⟩) | (at_builtin;refine wpList_app1 rfl _ _ rfl Tryz.underlying22 info_int rfl (by omega) rfl own rfl rfl (by simp [Value.oneCell']) (by omega) (by omega) (by omega) ?_;intro A' c' w2 own2 hb2))
    go_roundw
    case rel=>exact ⟨k+1,by omega,by go_num,A',c',by rw [HS.out,List.length_append];rfl,OwnN.snoc own2 rfl HS.out,hbl.trans (hb2 _ (Nat.le_refl _))⟩
    case measure=>simp [intOf];omega
   | false =>
    have hs:=chTo_no l t m d k hq
    have HS:=Lib.hid hs;clear hs
    go_wp2_with (first | (go_at_call 253;refine (rknown_any l _ _ _ hl A0 c0 B _ (hR.below hbl)).mono ?_;rintro e w' ⟨rfl,rfl⟩))
    go_roundw
    case rel=>exact ⟨k+1,by omega,by go_num,A,c,by rw [HS.out],by rw [HS.out];exact own,hbl⟩
    case measure=>simp [intOf];omega
  ·obtain rfl:k=100:=by omega
   go_wp2
   go_ret
   exact ⟨A,c,rfl,own,hbl⟩
theorem rchildrenX_any (l:List Fact)(t day m:Int)(hl:l.length≤1000000000)(A0:Option Addr)(c0 B:Nat)(w:World)(hR:RF w B A0 l) :
  Calls Tryz.prog 179 #[.slice A0 l.length c0,.int .i64 t,.int .i64 day,.int .i64 m] w (RetIn w (childR l t day m) (chE l day m)):=by
 obtain ⟨E,hE⟩:∃E,E=askd l (inB 0 0 99 && inB day 0 999):=⟨_,rfl⟩
 have hEE:=chE_other l day m
 rw [← hE] at hEE
 have HE:=Lib.hid hE;clear hE
 have HEE:=Lib.hid hEE;clear hEE
 obtain ⟨L,hL⟩:∃L,L=childR l t day m:=⟨_,rfl⟩
 obtain ⟨E2,hE2⟩:∃E,E=chE l day m:=⟨_,rfl⟩
 rw [← hL,← hE2]
 have HL:=Lib.hid hL;clear hL
 have HE2:=Lib.hid hE2;clear hE2
 go_enter Tryz.func179,Tryz.ntmps179
 go_wp2_with fail
 refine (rasked_any l _ _ A0 c0 B _ hR hl).mono ?_
 rintro e w1 ⟨rfl,hb1⟩
 rw [← HE.out]
 by_cases h0:E=0
 ·have hE0:(E != 0)=false:=by simp [h0]
  have H0:=Lib.hid h0;clear h0
  cases hm:inB m 0 9 with
  | true =>
   have h2:E2=0:=by rw [HE2.out,HEE.out,if_neg (by rw [H0.out];simp),if_pos hm]
   obtain ⟨hV,hd0,hd1,-⟩:=chE_ok (HE2.out.symm.trans h2)
   obtain ⟨d,rfl⟩:=Int.eq_ofNat_of_zero_le hd0
   have hk:L=chTo l t m d 100:=by rw [HL.out,childR,if_pos (HE2.out.symm.trans h2)];rfl
   have HLL:=Lib.hid hk
   have H2:=Lib.hid h2
   clear h2 hk
   go_wp2_with (first | (go_at_call 181;refine (within_anyO _ _ _ _).mono ?_;rintro e w' ⟨rfl,rfl⟩) | (go_at_call 250;refine (rchildren_any l t m d hl A0 c0 B _ (hR.below hb1)).mono ?_;rintro e w2 ⟨A,c,rfl,own2,hb2⟩))
   go_ret2
   exact ⟨A,c,ret2 (by rw [HLL.out];rfl) (by rw [H2.out];rfl),by rw [HLL.out];exact own_base own2 hb1.size,hb1.trans (hb2.mono hb1.size)⟩
  | false =>
   have h2:E2=1:=by rw [HE2.out,HEE.out,if_neg (by rw [H0.out];simp),if_neg (by rw [hm];simp)]
   have hk:L=[]:=by rw [HL.out,childR,if_neg (by rw [← HE2.out,h2];decide)]
   have HLL:=Lib.hid hk
   have H2:=Lib.hid h2
   clear h2 hk
   go_wp2_with (first | (go_at_call 181;refine (within_anyO _ _ _ _).mono ?_;rintro e w' ⟨rfl,rfl⟩))
   go_ret2
   exact ⟨none,0,ret2 (by rw [HLL.out];rfl) (by rw [H2.out];rfl),by rw [HLL.out];exact World.ownsRow_nil _ _ _ _,hb1⟩
 ·have hE0:(E != 0)=true:=by simp [h0]
  have h2:E2=E:=by rw [HE2.out,HEE.out,if_pos h0]
  have hk:L=[]:=by rw [HL.out,childR,if_neg (by rw [← HE2.out,h2];exact h0)]
  have HKK:=Lib.hid hk
  have H2:=Lib.hid h2
  clear h0 hk h2
  go_wp2
  go_ret2
  exact ⟨none,0,ret2 (by rw [HKK.out];rfl) (by rw [H2.out];rfl),by rw [HKK.out];exact World.ownsRow_nil _ _ _ _,hb1⟩
end Go.Proofs.YtiapkffihpgdcaaGreatDoor
