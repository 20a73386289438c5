import Derived.Test.YtiapkffihpgdcaaGreatDoorQC10
import Derived.Test.YtiapkffihpgdcaaGreatDoorQC14
import Derived.Test.YtiapkffihpgdcaaGreatDoorQC15
import Derived.Deep.RegionWith
import Derived.Maps.OwnSet
import Derived.Maps.Views
import Derived.StringKeys
set_option linter.unusedVariables false
set_option linter.unusedSimpArgs false
set_option maxRecDepth 100000
set_option maxHeartbeats 4000000
namespace Go.Proofs.YtiapkffihpgdcaaGreatDoor
open Go.RowKit
section
variable {L:Int}{N:Nat}{w:World}{F:Nat→Prop}{g:Nat}{h:Hd}{s:Of}
theorem exec_1 (hP:PO L N w F g h s)(hE:EnvZ w)(hN:N<1000000000)(name:Wd)(nums:List Int)(hr:RqOk ⟨1,name,nums⟩)(hnl:name.length≤1000000000)(hll:nums.length≤1000000)(A:Option Addr)(c:Nat)(hR:RN w A nums)(hc:nums.length≤c) :
  Calls Tryz.prog 167 #[.pointer (some ⟨g,0,none⟩),.agg #[.int .i64 1,St name,.slice A nums.length c]] w (RetO L (N+1) w F g (exE s ⟨1,name,nums⟩) (if exE s ⟨1,name,nums⟩=0 then exS s ⟨1,name,nums⟩ else s)):=by
 obtain ⟨w2,hw2⟩:∃w2,w.alloc (.cells #[.int .i64 1,St name,.slice A nums.length c] 239)=w2:=⟨_,rfl⟩
 have hy:Below w.heap.size w w2:=by rw [← hw2];exact (Below.refl _ w).alloc (Nat.le_refl _) _
 have b0:Box w2 w.heap.size #[.int .i64 1,St name,.slice A nums.length c]:=by rw [← hw2];exact Box.new w _ _
 have hP2:=hP.below hy
 have hE2:=hE.below hy
 have hR2:=hR.below hy
 have x0:=b0.cell 0
 have x1:=b0.cell 1
 have x2:=b0.cell 2
 simp only [gqA,gqB,gqC] at x0 x1 x2
 have hlen:=hr.one (by dsimp only;decide)
 have hlen0:0<nums.length:=by have:nums.length=1:=hlen;omega
 have hb0:=(hr.nums 0 hlen0).1
 have hb0:0≤gi nums 0:=hb0
 obtain ⟨ad,rfl,_,_⟩:=hR.at0 hlen0
 obtain ⟨hab,e0⟩:=hR2.cell0 hlen0
 have HLEN:=Lib.hid hlen
 rw [exE_dish rfl,exS_dish rfl]
 obtain ⟨E,hE'⟩:∃E,E=serE s name (gi nums 0):=⟨_,rfl⟩
 obtain ⟨T,hT'⟩:∃T,T=if E=0 then { s with dishes:=s.dishes ++ [⟨name,gi nums 0⟩] } else s:=⟨_,rfl⟩
 show Calls _ _ _ _ (RetO L (N+1) w F g (serE s name (gi nums 0)) (if serE s name (gi nums 0)=0 then { s with dishes:=s.dishes ++ [⟨name,gi nums 0⟩] } else s))
 rw [← hE',← hT']
 have hb3:Below w2.heap.size w2 w2.drew:=(Below.refl _ _).drew
 have hP3:=hP2.below hb3
 have hE3:=hE2.below hb3
 have hcon:=serve_any hP3 hE3 name (hr.name rfl) hnl (gi nums 0) hb0
 rw [← hE'] at hcon
 rw [← hT'] at hcon
 clear hE' hT'
 have HC:=Lib.hid hcon
 clear hcon
 clear hlen
 go_enter Tryz.func167,Tryz.ntmps167
 go_wp2_with fail
 go_region_with (go_at_call 236;(with_reducible refine HC.out.mono ?_);rintro e w3 hr3;have he3:=hr3.1;subst he3;have HR:=Lib.hid hr3;clear hr3)
 all_goals
  go_wp2_with fail
  go_ret
  exact (RetO.back hP (hy.trans (hb3.mono hy.size)) HR.out).more (Nat.le_succ _)
theorem exec_6 (hP:PO L N w F g h s)(hE:EnvZ w)(hN:N<1000000000)(name:Wd)(nums:List Int)(hr:RqOk ⟨6,name,nums⟩)(hnl:name.length≤1000000000)(hll:nums.length≤1000000)(A:Option Addr)(c:Nat)(hR:RN w A nums)(hc:nums.length≤c) :
  Calls Tryz.prog 167 #[.pointer (some ⟨g,0,none⟩),.agg #[.int .i64 6,St name,.slice A nums.length c]] w (RetO L (N+1) w F g (exE s ⟨6,name,nums⟩) (if exE s ⟨6,name,nums⟩=0 then exS s ⟨6,name,nums⟩ else s)):=by
 obtain ⟨w2,hw2⟩:∃w2,w.alloc (.cells #[.int .i64 6,St name,.slice A nums.length c] 239)=w2:=⟨_,rfl⟩
 have hy:Below w.heap.size w w2:=by rw [← hw2];exact (Below.refl _ w).alloc (Nat.le_refl _) _
 have b0:Box w2 w.heap.size #[.int .i64 6,St name,.slice A nums.length c]:=by rw [← hw2];exact Box.new w _ _
 have hP2:=hP.below hy
 have hE2:=hE.below hy
 have hR2:=hR.below hy
 have x0:=b0.cell 0
 have x1:=b0.cell 1
 have x2:=b0.cell 2
 simp only [gqA,gqB,gqC] at x0 x1 x2
 have hlen:=hr.two (by dsimp only;decide)
 have hlen0:0<nums.length:=by have:nums.length=2:=hlen;omega
 have hb0:=(hr.nums 0 hlen0).1
 have hb0:0≤gi nums 0:=hb0
 obtain ⟨ad,rfl,_,_⟩:=hR.at0 hlen0
 obtain ⟨hab,e0⟩:=hR2.cell0 hlen0
 have e1:=hR2.cellk (k:=1) (by have:nums.length=2:=hlen;omega) (by omega)
 have hb1:0≤gi nums 1:=(hr.nums 1 (by have:nums.length=2:=hlen;show 1<nums.length;omega)).1
 have hl1:1<nums.length:=by have:nums.length=2:=hlen;omega
 have HLEN:=Lib.hid hlen
 rw [exE_cook rfl,exS_cook rfl]
 obtain ⟨E,hE'⟩:∃E,E=cokE s (gi nums 0) (gi nums 1):=⟨_,rfl⟩
 obtain ⟨T,hT'⟩:∃T,T=if E=0 then { s with cooked:=updF s.cooked (gi nums 0) (gi nums 1) } else s:=⟨_,rfl⟩
 show Calls _ _ _ _ (RetO L (N+1) w F g (cokE s (gi nums 0) (gi nums 1)) (if cokE s (gi nums 0) (gi nums 1)=0 then { s with cooked:=updF s.cooked (gi nums 0) (gi nums 1) } else s))
 rw [← hE',← hT']
 have hb3:Below w2.heap.size w2 w2.drew:=(Below.refl _ _).drew
 have hP3:=hP2.below hb3
 have hE3:=hE2.below hb3
 have hcon:=cook_any hP3 hN (gi nums 0) (gi nums 1) hb1
 rw [← hE'] at hcon
 rw [← hT'] at hcon
 clear hE' hT'
 have HC:=Lib.hid hcon
 clear hcon
 clear hlen
 go_enter Tryz.func167,Tryz.ntmps167
 go_wp2_with fail
 go_region_with (go_at_call 240;(with_reducible refine HC.out.mono ?_);rintro e w3 hr3;have he3:=hr3.1;subst he3;have HR:=Lib.hid hr3;clear hr3)
 all_goals
  go_wp2_with fail
  go_ret
  exact (RetO.back hP (hy.trans (hb3.mono hy.size)) HR.out).more (Nat.le_refl _)
theorem exec_7 (hP:PO L N w F g h s)(hE:EnvZ w)(hN:N<1000000000)(name:Wd)(nums:List Int)(hr:RqOk ⟨7,name,nums⟩)(hnl:name.length≤1000000000)(hll:nums.length≤1000000)(A:Option Addr)(c:Nat)(hR:RN w A nums)(hc:nums.length≤c) :
  Calls Tryz.prog 167 #[.pointer (some ⟨g,0,none⟩),.agg #[.int .i64 7,St name,.slice A nums.length c]] w (RetO L (N+1) w F g (exE s ⟨7,name,nums⟩) (if exE s ⟨7,name,nums⟩=0 then exS s ⟨7,name,nums⟩ else s)):=by
 obtain ⟨w2,hw2⟩:∃w2,w.alloc (.cells #[.int .i64 7,St name,.slice A nums.length c] 239)=w2:=⟨_,rfl⟩
 have hy:Below w.heap.size w w2:=by rw [← hw2];exact (Below.refl _ w).alloc (Nat.le_refl _) _
 have b0:Box w2 w.heap.size #[.int .i64 7,St name,.slice A nums.length c]:=by rw [← hw2];exact Box.new w _ _
 have hP2:=hP.below hy
 have hE2:=hE.below hy
 have hR2:=hR.below hy
 have x0:=b0.cell 0
 have x1:=b0.cell 1
 have x2:=b0.cell 2
 simp only [gqA,gqB,gqC] at x0 x1 x2
 have hlen:=hr.two (by dsimp only;decide)
 have hlen0:0<nums.length:=by have:nums.length=2:=hlen;omega
 have hb0:=(hr.nums 0 hlen0).1
 have hb0:0≤gi nums 0:=hb0
 obtain ⟨ad,rfl,_,_⟩:=hR.at0 hlen0
 obtain ⟨hab,e0⟩:=hR2.cell0 hlen0
 have e1:=hR2.cellk (k:=1) (by have:nums.length=2:=hlen;omega) (by omega)
 have hb1:0≤gi nums 1:=(hr.nums 1 (by have:nums.length=2:=hlen;show 1<nums.length;omega)).1
 have hl1:1<nums.length:=by have:nums.length=2:=hlen;omega
 have HLEN:=Lib.hid hlen
 rw [exE_eat rfl,exS_eat rfl]
 obtain ⟨E,hE'⟩:∃E,E=eteE s (gi nums 0) (gi nums 1):=⟨_,rfl⟩
 obtain ⟨T,hT'⟩:∃T,T=if E=0 then { s with eaten:=updF s.eaten (gi nums 0) (gi nums 1) } else s:=⟨_,rfl⟩
 show Calls _ _ _ _ (RetO L (N+1) w F g (eteE s (gi nums 0) (gi nums 1)) (if eteE s (gi nums 0) (gi nums 1)=0 then { s with eaten:=updF s.eaten (gi nums 0) (gi nums 1) } else s))
 rw [← hE',← hT']
 have hb3:Below w2.heap.size w2 w2.drew:=(Below.refl _ _).drew
 have hP3:=hP2.below hb3
 have hE3:=hE2.below hb3
 have hcon:=eat_any hP3 hN (gi nums 0) (gi nums 1) hb1
 rw [← hE'] at hcon
 rw [← hT'] at hcon
 clear hE' hT'
 have HC:=Lib.hid hcon
 clear hcon
 clear hlen
 go_enter Tryz.func167,Tryz.ntmps167
 go_wp2_with fail
 go_region_with (go_at_call 241;(with_reducible refine HC.out.mono ?_);rintro e w3 hr3;have he3:=hr3.1;subst he3;have HR:=Lib.hid hr3;clear hr3)
 all_goals
  go_wp2_with fail
  go_ret
  exact (RetO.back hP (hy.trans (hb3.mono hy.size)) HR.out).more (Nat.le_refl _)
end
section
variable {L:Int}{N:Nat}{w:World}{F:Nat→Prop}{g:Nat}{h:Hd}{s:Of}
theorem exec_2 (hP:PO L N w F g h s)(hE:EnvZ w)(hN:N<1000000000)(name:Wd)(nums:List Int)(hr:RqOk ⟨2,name,nums⟩)(hnl:name.length≤1000000000)(hll:nums.length≤1000000)(A:Option Addr)(c:Nat)(hR:RN w A nums)(hc:nums.length≤c) :
  Calls Tryz.prog 167 #[.pointer (some ⟨g,0,none⟩),.agg #[.int .i64 2,St name,.slice A nums.length c]] w (RetO L (N+1) w F g (exE s ⟨2,name,nums⟩) (if exE s ⟨2,name,nums⟩=0 then exS s ⟨2,name,nums⟩ else s)):=by
 obtain ⟨w2,hw2⟩:∃w2,w.alloc (.cells #[.int .i64 2,St name,.slice A nums.length c] 239)=w2:=⟨_,rfl⟩
 have hy:Below w.heap.size w w2:=by rw [← hw2];exact (Below.refl _ w).alloc (Nat.le_refl _) _
 have b0:Box w2 w.heap.size #[.int .i64 2,St name,.slice A nums.length c]:=by rw [← hw2];exact Box.new w _ _
 have hP2:=hP.below hy
 have hE2:=hE.below hy
 have hR2:=hR.below hy
 have x0:=b0.cell 0
 have x1:=b0.cell 1
 have x2:=b0.cell 2
 simp only [gqA,gqB,gqC] at x0 x1 x2
 have hlen:=hr.len1 (by dsimp only;decide)
 have hlen0:0<nums.length:=hlen
 have hb0:=(hr.nums 0 hlen0).1
 have hb0:0≤gi nums 0:=hb0
 obtain ⟨ad,rfl,_,_⟩:=hR.at0 hlen0
 obtain ⟨hab,e0⟩:=hR2.cell0 hlen0
 have HLEN:=Lib.hid hlen
 rw [exE_kid rfl,exS_kid rfl]
 obtain ⟨E,hE'⟩:∃E,E=metE s (gi nums 0) nums.tail:=⟨_,rfl⟩
 obtain ⟨T,hT'⟩:∃T,T=if E=0 then { s with kids:=insK s.kids ⟨gi nums 0,nums.tail⟩ } else s:=⟨_,rfl⟩
 show Calls _ _ _ _ (RetO L (N+1) w F g (metE s (gi nums 0) nums.tail) (if metE s (gi nums 0) nums.tail=0 then { s with kids:=insK s.kids ⟨gi nums 0,nums.tail⟩ } else s))
 rw [← hE',← hT']
 have hb3:Below w2.heap.size w2 w2.drew:=(Below.refl _ _).drew
 have hP3:=hP2.below hb3
 have hE3:=hE2.below hb3
 by_cases hc1:c=1
 ·have hl1:nums.length=1:=by omega
  have htl:nums.tail=[]:=List.eq_nil_of_length_eq_zero (by rw [List.length_tail];omega)
  subst hc1
  have hT3:RN w2.drew (some ad) nums.tail:=by rw [htl];exact RN.nil'
  have hcon:=meet_any (c:=0) hP3 (gi nums 0) hb0 nums.tail (fun k hk=>by rw [htl] at hk;simp at hk) (by simp;omega) _ hT3
  rw [← hE'] at hcon
  rw [← hT'] at hcon
  have etl:nums.tail.length=0:=by rw [htl];rfl
  rw [etl] at hcon
  rw [hl1] at x2 hw2
  rw [hl1]
  have HL1:=Lib.hid hl1
  clear hl1
  clear hE' hT' htl etl
  have HC:=Lib.hid hcon
  clear hcon
  clear hlen
  go_enter Tryz.func167,Tryz.ntmps167
  go_wp2_with fail
  go_region_with (go_at_call 237;(with_reducible refine HC.out.mono ?_);rintro e w3 hr3;have he3:=hr3.1;subst he3;have HR:=Lib.hid hr3;clear hr3)
  all_goals
   go_wp2_with fail
   go_ret
   exact (RetO.back hP (hy.trans (hb3.mono hy.size)) HR.out).more (Nat.le_succ _)
 ·have hT3:RN w2.drew (some (ad.add 1)) nums.tail:=hR2.tail1 hlen0
  have hcon:=meet_any (c:=c-1) hP3 (gi nums 0) hb0 nums.tail (fun k hk=>by rw [gi_tail];exact (hr.nums (k+1) (by simp at hk;show k+1<nums.length;omega)).1) (by simp;omega) _ hT3
  rw [← hE'] at hcon
  rw [← hT'] at hcon
  rw [List.length_tail] at hcon
  clear hE' hT'
  have hadd:ad.add 1=⟨ad.block,ad.off+1,none⟩:=by simp [Addr.add]
  rw [hadd] at hcon
  clear hadd
  have HC:=Lib.hid hcon
  clear hcon
  clear hlen
  go_enter Tryz.func167,Tryz.ntmps167
  go_wp2_with fail
  go_region_with (go_at_call 237;(with_reducible refine HC.out.mono ?_);rintro e w3 hr3;have he3:=hr3.1;subst he3;have HR:=Lib.hid hr3;clear hr3)
  all_goals
   go_wp2_with fail
   go_ret
   exact (RetO.back hP (hy.trans (hb3.mono hy.size)) HR.out).more (Nat.le_succ _)
end
section
variable {L:Int}{N:Nat}{w:World}{F:Nat→Prop}{g:Nat}{h:Hd}{s:Of}
theorem execute_any (hP:PO L N w F g h s)(hE:EnvZ w)(hN:N<1000000000)(r:Rq)(hr:RqOk r)(hnl:r.name.length≤1000000000)(hll:r.nums.length≤1000000)(A:Option Addr)(c:Nat)(hR:RN w A r.nums)(hc:r.nums.length≤c) :
  Calls Tryz.prog 167 #[.pointer (some ⟨g,0,none⟩),.agg #[.int .i64 r.kind,St r.name,.slice A r.nums.length c]] w (RetO L (N+1) w F g (exE s r) (if exE s r=0 then exS s r else s)):=by
 obtain ⟨kind,name,nums⟩:=r
 have k0:0≤kind:=hr.k0
 have k7:kind≤7:=hr.k7
 have hk:kind=0∨kind=1∨kind=2∨kind=3∨kind=4∨kind=5∨kind=6∨kind=7:=by omega
 rcases hk with rfl | rfl | rfl | rfl | rfl | rfl | rfl | rfl
 ·exact exec_0 hP hE hN name nums hr hnl hll A c hR hc
 ·exact exec_1 hP hE hN name nums hr hnl hll A c hR hc
 ·exact exec_2 hP hE hN name nums hr hnl hll A c hR hc
 ·exact exec_3 hP hE hN name nums hr hnl hll A c hR hc
 ·exact exec_4 hP hE hN name nums hr hnl hll A c hR hc
 ·exact exec_5 hP hE hN name nums hr hnl hll A c hR hc
 ·exact exec_6 hP hE hN name nums hr hnl hll A c hR hc
 ·exact exec_7 hP hE hN name nums hr hnl hll A c hR hc
end
end Go.Proofs.YtiapkffihpgdcaaGreatDoor
namespace Go.Proofs.YtiapkffihpgdcaaGreatDoor
open Go.RowKit Go.Maps
theorem wpList_insert_own {H:Type}{P:Program}(w:World){ops:Array Oper}{rest:List Oper}{o:Oper}{a:Act}{Q:Exit→Act→World→Prop}
  (hg:o.guard=none) (m x v:Operand) (t:TypeId) (hop:o.op=Op.insert t m x v)
  (k e:TypeId) (K:Keyed P k) (ht:P.underlying t=some (.map k e)) (R:Value→Option (DataW H × List MemPlace)) (b n:Nat) (D:DataW H)
  (hm:a.eval m=.map (some b)) (hown:w.ownsMap P k R b n D) (hn:n<maxLen) (key val:Value) (kl:Lit) (hx:a.eval x=key) (hv:a.eval v=val) (hkey:keyOf P k key=some kl)
  (d:DataW H) (ps:List MemPlace) (hval:R val=some (d,ps))
  (hK:∀w',w'.ownsMap P k R b (n+1) (D.put kl d)→w.grownBy w' (some b)→wpList P ops Q rest (a.put o.dst undef) w') :
  wpList P ops Q (o :: rest) a w:=by
 refine wpList_plain hg fun K' hK'=>?_
 obtain ⟨w',hrun,r1,r2⟩:=hown.update K ht hn hkey hval
 unfold Oper.wp
 simp [execOp,hop,hm,hx,hv,hrun,Result.andThen]
 exact hK' _ _ (hK w' r1 r2)
def fmV (f:Fm):Value:=.agg #[.int .i64 f.kind,.bool f.name,.int .i64 f.nums,.bool f.many]
def fm0:Fm:=⟨0,false,0,false⟩
def fmD (f:Fm):DataW Unit:=.agg [.lit (.int .i64 f.kind),.lit (.bool f.name),.lit (.int .i64 f.nums),.lit (.bool f.many)]
def fmR (v:Value):Option (DataW Unit × List MemPlace) :=
 match v with
 | .agg cs=>match cs.toList with
  | [.int .i64 a,.bool b,.int .i64 c,.bool d]=>some (fmD ⟨a,b,c,d⟩,[])
  | _=>none
 | _=>none
theorem fmR_of (f:Fm):fmR (fmV f)=some (fmD f,[]):=rfl
theorem fmR_inv {v:Value}{f:Fm}{ps:List MemPlace}(h:fmR v=some (fmD f,ps)):v=fmV f:=by
 unfold fmR at h
 split at h
 ·rename_i cs
  split at h
  ·rename_i a b c d he
   simp only [Option.some.injEq,Prod.mk.injEq,fmD,DataW.agg.injEq,List.cons.injEq,DataW.lit.injEq,Lit.int.injEq,Lit.bool.injEq,true_and,and_true] at h
   obtain ⟨⟨rfl,rfl,rfl,rfl⟩,_⟩:=h
   have:cs=#[.int .i64 f.kind,.bool f.name,.int .i64 f.nums,.bool f.many]:=Array.ext' he
   rw [this];rfl
  ·cases h
 ·cases h
def fmPut (D:DataW Unit)(w:Wd)(f:Fm):DataW Unit:=D.put (.string w) (fmD f)
def fmAll:DataW Unit:=fmPut (fmPut (fmPut (fmPut (fmPut (fmPut (fmPut (fmPut (.map []) wAt ⟨0,false,1,false⟩) wDish ⟨1,true,1,false⟩) wChild ⟨2,false,1,true⟩) wOrder ⟨3,false,3,false⟩) wCancel ⟨4,false,3,false⟩) wFree ⟨5,false,3,false⟩) wCook ⟨6,false,2,false⟩) wEat ⟨7,false,2,false⟩
theorem fmPut_map {D:DataW Unit}(h:Maps.IsMap D)(w:Wd)(f:Fm):Maps.IsMap (fmPut D w f):=by
 obtain ⟨es,rfl⟩:=h
 exact ⟨_,rfl⟩
theorem fmPut_same {D:DataW Unit}(h:Maps.IsMap D)(w:Wd)(f:Fm)(z:DataW Unit):Maps.has (fmPut D w f) (.string w)=true∧(fmPut D w f).atKey (.string w) z=fmD f :=
 ⟨Maps.has_put_same h (by trivial) _,Maps.atKey_put_same h (by trivial) _ _⟩
theorem fmPut_other {D:DataW Unit}{w s:Wd}(hs:s≠w)(f:Fm)(z:DataW Unit):Maps.has (fmPut D w f) (.string s)=Maps.has D (.string s)∧(fmPut D w f).atKey (.string s) z=D.atKey (.string s) z :=
 ⟨Maps.has_put_other (fun e=>hs (by injection e)) _,Maps.atKey_put_other (fun e=>hs (by injection e)) _ _⟩
theorem fmAll_at (s:Wd):Maps.has fmAll (.string s)=(fmOf s).isSome∧fmAll.atKey (.string s) (fmD fm0)=fmD ((fmOf s).getD fm0):=by
 have h0:Maps.IsMap (DataW.map []:DataW Unit):=⟨_,rfl⟩
 have h1:=fmPut_map h0 wAt ⟨0,false,1,false⟩
 have h2:=fmPut_map h1 wDish ⟨1,true,1,false⟩
 have h3:=fmPut_map h2 wChild ⟨2,false,1,true⟩
 have h4:=fmPut_map h3 wOrder ⟨3,false,3,false⟩
 have h5:=fmPut_map h4 wCancel ⟨4,false,3,false⟩
 have h6:=fmPut_map h5 wFree ⟨5,false,3,false⟩
 have h7:=fmPut_map h6 wCook ⟨6,false,2,false⟩
 unfold fmAll
 by_cases e8:s=wEat
 ·subst e8;exact fmPut_same h7 _ _ _
 rw [(fmPut_other e8 _ (fmD fm0)).1,(fmPut_other e8 _ (fmD fm0)).2]
 by_cases e7:s=wCook
 ·subst e7;exact fmPut_same h6 _ _ _
 rw [(fmPut_other e7 _ (fmD fm0)).1,(fmPut_other e7 _ (fmD fm0)).2]
 by_cases e6:s=wFree
 ·subst e6;exact fmPut_same h5 _ _ _
 rw [(fmPut_other e6 _ (fmD fm0)).1,(fmPut_other e6 _ (fmD fm0)).2]
 by_cases e5:s=wCancel
 ·subst e5;exact fmPut_same h4 _ _ _
 rw [(fmPut_other e5 _ (fmD fm0)).1,(fmPut_other e5 _ (fmD fm0)).2]
 by_cases e4:s=wOrder
 ·subst e4;exact fmPut_same h3 _ _ _
 rw [(fmPut_other e4 _ (fmD fm0)).1,(fmPut_other e4 _ (fmD fm0)).2]
 by_cases e3:s=wChild
 ·subst e3;exact fmPut_same h2 _ _ _
 rw [(fmPut_other e3 _ (fmD fm0)).1,(fmPut_other e3 _ (fmD fm0)).2]
 by_cases e2:s=wDish
 ·subst e2;exact fmPut_same h1 _ _ _
 rw [(fmPut_other e2 _ (fmD fm0)).1,(fmPut_other e2 _ (fmD fm0)).2]
 by_cases e1:s=wAt
 ·subst e1;exact fmPut_same h0 _ _ _
 rw [(fmPut_other e1 _ (fmD fm0)).1,(fmPut_other e1 _ (fmD fm0)).2]
 have hn:fmOf s=none:=by unfold fmOf;rw [if_neg e1,if_neg e2,if_neg e3,if_neg e4,if_neg e5,if_neg e6,if_neg e7,if_neg e8]
 rw [hn]
 exact ⟨rfl,rfl⟩
theorem key_str (s:Wd)(hs:s.length≤1000000000):keyOf Tryz.prog 9 (St s)=some (.string s) :=
 WideMaps.keyOf_string_mk Tryz.underlying9 (by rw [st_size];unfold maxLen;omega)
theorem zeroForm (w:World):(zeroValue 293).run Tryz.prog w=.ok (fmV fm0) w:=by kernel_rfl
theorem strKey:Keyed Tryz.prog 9:=string_keyed Tryz.underlying9
theorem formOf_any (s:Wd)(hs:s.length≤1000000000)(w:World):Calls Tryz.prog 232 #[St s] w fun e w'=>e=.returned (.tuple #[fmV ((fmOf s).getD fm0),.bool (fmOf s).isSome])∧Below w.heap.size w w':=by
 have hmm:=@run_makeMap Tryz.prog
 obtain ⟨w1,hw1⟩:∃w1,w.alloc (.cells #[.int .i64 0,.bool false,.int .i64 0,.bool false] 293)=w1:=⟨_,rfl⟩
 have hb1:Below w.heap.size w w1:=by rw [← hw1];exact (Below.refl _ w).alloc (Nat.le_refl _) _
 have bx:Box w1 w.heap.size #[.int .i64 0,.bool false,.int .i64 0,.bool false]:=by rw [← hw1];exact (Box.new w _ _)
 obtain ⟨w2,hw2⟩:∃w2,w1.alloc (.map #[] 0)=w2:=⟨_,rfl⟩
 have hb2:Below w1.heap.size w1 w2:=by rw [← hw2];exact (Below.refl _ w1).alloc (Nat.le_refl _) _
 have own:w2.ownsMap Tryz.prog 9 fmR w1.heap.size 0 (.map []):=by rw [← hw2];exact World.ownsMap_made _ _ _ _
 have hs1:=bx.lt
 have hsz:w1.heap.size≤w2.heap.size:=hb2.size
 go_enter Tryz.func232,Tryz.ntmps232
 have own0:=own
 have hq0:=hsz
 clear own
 go_wp2_with (first | (refine wpList_insert_own _ rfl _ _ _ 326 rfl 9 293 strKey Tryz.underlying326 fmR w1.heap.size 0 _ rfl own0 (by unfold maxLen;omega) (St wAt) (fmV ⟨0,false,1,false⟩) (.string wAt) rfl rfl (key_str wAt (by decide)) (fmD ⟨0,false,1,false⟩) [] rfl ?_;intro w3 own1 hg1;have hb3:=hb2.grown hg1 hq0 (fun k hk=>by cases hk;exact Nat.le_refl _);have hq1:=hb3.size;clear own0 hg1) | (refine wpList_insert_own _ rfl _ _ _ 326 rfl 9 293 strKey Tryz.underlying326 fmR w1.heap.size 1 _ rfl own1 (by unfold maxLen;omega) (St wDish) (fmV ⟨1,true,1,false⟩) (.string wDish) rfl rfl (key_str wDish (by decide)) (fmD ⟨1,true,1,false⟩) [] rfl ?_;intro w4 own2 hg2;have hb4:=hb3.grown hg2 hq1 (fun k hk=>by cases hk;exact Nat.le_refl _);have hq2:=hb4.size;clear own1 hg2) | (refine wpList_insert_own _ rfl _ _ _ 326 rfl 9 293 strKey Tryz.underlying326 fmR w1.heap.size 2 _ rfl own2 (by unfold maxLen;omega) (St wChild) (fmV ⟨2,false,1,true⟩) (.string wChild) rfl rfl (key_str wChild (by decide)) (fmD ⟨2,false,1,true⟩) [] rfl ?_;intro w5 own3 hg3;have hb5:=hb4.grown hg3 hq2 (fun k hk=>by cases hk;exact Nat.le_refl _);have hq3:=hb5.size;clear own2 hg3) | (refine wpList_insert_own _ rfl _ _ _ 326 rfl 9 293 strKey Tryz.underlying326 fmR w1.heap.size 3 _ rfl own3 (by unfold maxLen;omega) (St wOrder) (fmV ⟨3,false,3,false⟩) (.string wOrder) rfl rfl (key_str wOrder (by decide)) (fmD ⟨3,false,3,false⟩) [] rfl ?_;intro w6 own4 hg4;have hb6:=hb5.grown hg4 hq3 (fun k hk=>by cases hk;exact Nat.le_refl _);have hq4:=hb6.size;clear own3 hg4) | (refine wpList_insert_own _ rfl _ _ _ 326 rfl 9 293 strKey Tryz.underlying326 fmR w1.heap.size 4 _ rfl own4 (by unfold maxLen;omega) (St wCancel) (fmV ⟨4,false,3,false⟩) (.string wCancel) rfl rfl (key_str wCancel (by decide)) (fmD ⟨4,false,3,false⟩) [] rfl ?_;intro w7 own5 hg5;have hb7:=hb6.grown hg5 hq4 (fun k hk=>by cases hk;exact Nat.le_refl _);have hq5:=hb7.size;clear own4 hg5) | (refine wpList_insert_own _ rfl _ _ _ 326 rfl 9 293 strKey Tryz.underlying326 fmR w1.heap.size 5 _ rfl own5 (by unfold maxLen;omega) (St wFree) (fmV ⟨5,false,3,false⟩) (.string wFree) rfl rfl (key_str wFree (by decide)) (fmD ⟨5,false,3,false⟩) [] rfl ?_;intro w8 own6 hg6;have hb8:=hb7.grown hg6 hq5 (fun k hk=>by cases hk;exact Nat.le_refl _);have hq6:=hb8.size;clear own5 hg6) | (refine wpList_insert_own _ rfl _ _ _ 326 rfl 9 293 strKey Tryz.underlying326 fmR w1.heap.size 6 _ rfl own6 (by unfold maxLen;omega) (St wCook) (fmV ⟨6,false,2,false⟩) (.string wCook) rfl rfl (key_str wCook (by decide)) (fmD ⟨6,false,2,false⟩) [] rfl ?_;intro w9 own7 hg7;have hb9:=hb8.grown hg7 hq6 (fun k hk=>by cases hk;exact Nat.le_refl _);have hq7:=hb9.size;clear own6 hg7) | (refine wpList_insert_own _ rfl _ _ _ 326 rfl 9 293 strKey Tryz.underlying326 fmR w1.heap.size 7 _ rfl own7 (by unfold maxLen;omega) (St wEat) (fmV ⟨7,false,2,false⟩) (.string wEat) rfl rfl (key_str wEat (by decide)) (fmD ⟨7,false,2,false⟩) [] rfl ?_;intro w10 own8 hg8;have hb10:=hb9.grown hg8 hq7 (fun k hk=>by cases hk;exact Nat.le_refl _);have hq8:=hb10.size;clear own7 hg8) | (refine wpList_lookup_own_ok _ rfl _ _ 326 rfl 9 293 strKey Tryz.underlying326 fmR (zeroForm _) (fmD fm0) [] (fmR_of fm0) w1.heap.size 8 _ rfl own8 (St s) (.string s) rfl (key_str s hs) ?_;intro v ps hv;have hh:=fmAll_at s;unfold fmAll fmPut at hh;rw [hh.1];rw [hh.2] at hv;have hve:=fmR_inv hv;subst hve;clear hv hh own8;generalize hok:(fmOf s).isSome=ok;generalize hff:(fmOf s).getD fm0=f;simp only [fmV];obtain ⟨w11,hw11⟩:∃w11,w10.alloc (.cells #[.int .i64 f.kind,.bool f.name,.int .i64 f.nums,.bool f.many] 293)=w11:=⟨_,rfl⟩;have hb11:Below w1.heap.size w1 w11:=(by rw [← hw11];exact hb10.alloc hq8 _);have bxr:=bx.below hb11;have bxn:Box w11 w10.heap.size #[.int .i64 f.kind,.bool f.name,.int .i64 f.nums,.bool f.many]:=(by rw [← hw11];exact Box.new _ _ _);have r0:=bxr.cell 0;have r1:=bxr.cell 1;have r2:=bxr.cell 2;have r3:=bxr.cell 3;have g0:=bxr.free 0;have g1:=bxr.free 1;have g2:=bxr.free 2;have g3:=bxr.free 3;have m0:=bxn.cell 0;have m1:=bxn.cell 1;have m2:=bxn.cell 2;have m3:=bxn.cell 3;simp only [gqA,gqB,gqC] at r0 r1 r2 r3 m0 m1 m2 m3))
 have q3:=(((bxr.set 0 (.int .i64 f.kind) (by simp)).set 1 (.bool f.name) (by simp)).set 2 (.int .i64 f.nums) (by simp)).set 3 (.bool f.many) (by simp)
 have v0:=q3.cell 0;have v1:=q3.cell 1;have v2:=q3.cell 2;have v3:=q3.cell 3
 simp at v0 v1 v2 v3
 refine bodyPost_ret (v:=.tuple #[.agg #[.int .i64 f.kind,.bool f.name,.int .i64 f.nums,.bool f.many],.bool ok]) (by simp [results,Tryz.results232,go_sem,v0,v1,v2,v3]) rfl ?_
 exact ⟨by rw [hok,hff];rfl,(((hb1.trans (hb11.mono hb1.size)).setCell (p:=⟨w.heap.size,0,none⟩) (Nat.le_refl _) _).setCell (p:=⟨w.heap.size,1,none⟩) (Nat.le_refl _) _).setCell (p:=⟨w.heap.size,2,none⟩) (Nat.le_refl _) _ |>.setCell (p:=⟨w.heap.size,3,none⟩) (Nat.le_refl _) _⟩
end Go.Proofs.YtiapkffihpgdcaaGreatDoor
