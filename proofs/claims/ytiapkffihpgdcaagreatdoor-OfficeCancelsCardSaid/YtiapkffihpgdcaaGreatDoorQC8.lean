import Derived.Test.YtiapkffihpgdcaaGreatDoorQC4
import Derived.Test.YtiapkffihpgdcaaGreatDoorQC5
import Derived.Test.YtiapkffihpgdcaaGreatDoorQC7
import Derived.Deep.RegionWith
set_option linter.unusedVariables false
set_option linter.unusedSimpArgs false
set_option maxRecDepth 100000
set_option maxHeartbeats 4000000
namespace Go.Proofs.YtiapkffihpgdcaaGreatDoor
open Go.RowKit
theorem named_any (b:Bk)(hL:BkLen b)(i:Int)(F:Nat→Prop)(A1 A2:Option Addr)(c1 c2:Nat)(hp hq hr:Nat→SlH)(w:World)(hR:RBk F w A1 A2 b hp hq hr) :
  Calls Tryz.prog 120 #[.agg #[.int .i64 b.props,.slice A1 b.items.length c1,.slice A2 b.rules.length c2],.int .i64 i] w fun e w'=>e=.returned (.int .i64 (nmE b i))∧Below w.heap.size w w':=by
 obtain ⟨S,hS⟩:∃S,S=nmE b i:=⟨_,rfl⟩
 rw [← hS]
 have HS:=Lib.hid hS;clear hS
 obtain ⟨w2,hw2⟩:∃w2,(w.alloc (.cells #[.int .i64 b.props,.slice A1 b.items.length c1,.slice A2 b.rules.length c2] 30))=w2:=⟨_,rfl⟩
 have hy:Below w.heap.size w w2:=by rw [← hw2];exact (Below.refl _ w).alloc (Nat.le_refl _) _
 have bx:Box w2 w.heap.size #[.int .i64 b.props,.slice A1 b.items.length c1,.slice A2 b.rules.length c2]:=by rw [← hw2];exact (Box.new w _ _)
 have x0:=bx.cell 0;have x1:=bx.cell 1;have x2:=bx.cell 2
 simp only [gqA,gqB,gqC] at x0 x1 x2
 have hR2:=hR.below hy
 have l1:=hL.it;have l2:=hL.rl
 have hsw:w.heap.size<w2.heap.size:=bx.lt
 by_cases hv:bkE b=0
 ·have hb0:(bkE b != 0)=false:=by simp [hv]
  have hE:S=if inB i 0 ((b.items.length:Int)-1) then 0 else 5:=by rw [HS.out];unfold nmE;rw [if_neg (by rw [hv];decide)]
  have HE:=Lib.hid hE
  clear hE HS hv
  by_cases p0:0≤i
  ·by_cases p1:i<b.items.length
   all_goals
    go_enter Tryz.func120,Tryz.ntmps120
    go_wp2_with (go_at_call 67;(with_reducible refine (validBk_any b hL F A1 A2 c1 c2 hp hq hr _ hR2).mono ?_);rintro e w3 ⟨rfl,hb3⟩;have z1:=(bx.below hb3).cell 1;simp only [gqA,gqB,gqC] at z1;have hs3:=hb3.size;clear x0 x1 x2)
    go_ret
    refine ⟨ret_int ?_,hy.trans (hb3.mono hy.size)⟩
    rw [HE.out];first | rw [inB_true.2 (by omega)];rfl | rw [inB_false.2 (by omega)];rfl
  ·go_enter Tryz.func120,Tryz.ntmps120
   go_wp2_with (go_at_call 67;(with_reducible refine (validBk_any b hL F A1 A2 c1 c2 hp hq hr _ hR2).mono ?_);rintro e w3 ⟨rfl,hb3⟩;have z1:=(bx.below hb3).cell 1;simp only [gqA,gqB,gqC] at z1;have hs3:=hb3.size;clear x0 x1 x2)
   go_ret
   refine ⟨ret_int ?_,hy.trans (hb3.mono hy.size)⟩
   rw [HE.out,inB_false.2 (by omega)];rfl
 ·have hb0:(bkE b != 0)=true:=by simp [hv]
  have hE:S=bkE b:=by rw [HS.out];unfold nmE;rw [if_pos hv]
  have HE:=Lib.hid hE
  clear hE HS hv
  go_enter Tryz.func120,Tryz.ntmps120
  go_wp2_with (go_at_call 67;(with_reducible refine (validBk_any b hL F A1 A2 c1 c2 hp hq hr _ hR2).mono ?_);rintro e w3 ⟨rfl,hb3⟩)
  go_ret
  exact ⟨ret_int (by rw [HE.out]),hy.trans (hb3.mono hy.size)⟩
theorem label_any (b:Bk)(hb:BkOk b)(hL:BkLen b)(i:Nat)(hi:i<b.items.length)(F:Nat→Prop)(A1 A2:Option Addr)(c1 c2:Nat)(hp hq hr:Nat→SlH)(w:World)(hE:EnvZ w)(hR:RBk F w A1 A2 b hp hq hr) :
  Calls Tryz.prog 122 #[.agg #[.int .i64 b.props,.slice A1 b.items.length c1,.slice A2 b.rules.length c2],.int .i64 i] w fun e w'=>e=.returned (.int .i64 (labN b i))∧Below w.heap.size w w':=by
 obtain ⟨w2,hw2⟩:∃w2,(w.alloc (.cells #[.int .i64 b.props,.slice A1 b.items.length c1,.slice A2 b.rules.length c2] 30))=w2:=⟨_,rfl⟩
 have hy:Below w.heap.size w w2:=by rw [← hw2];exact (Below.refl _ w).alloc (Nat.le_refl _) _
 have bx:Box w2 w.heap.size #[.int .i64 b.props,.slice A1 b.items.length c1,.slice A2 b.rules.length c2]:=by rw [← hw2];exact (Box.new w _ _)
 have x0:=bx.cell 0;have x1:=bx.cell 1;have x2:=bx.cell 2
 simp only [gqA,gqB,gqC] at x0 x1 x2
 have hR2:RBk F w2.drew A1 A2 b hp hq hr:=(hR.below hy).below (Below.refl _ _).drew
 have hE2:EnvZ w2.drew:=(hE.below hy).below (Below.refl _ _).drew
 have hsw:w.heap.size<w2.heap.size:=bx.lt
 have hbl:=basN_lt hb i
 go_enter Tryz.func122,Tryz.ntmps122
 go_wp2_with fail
 go_region_held3 (fun w'=>w'.cell? ⟨w.heap.size,0,none⟩=some (.int .i64 b.props)∧w'.cell? ⟨w.heap.size,1,none⟩=some (.slice A1 b.items.length c1)∧w'.cell? ⟨w.heap.size,2,none⟩=some (.slice A2 b.rules.length c2))
  (first | go_keep | (go_split_ands;refine ⟨?_,?_,?_⟩ <;> (rw [hb3.cell (by first | omega | (simp;omega))];go_keep)) | (go_split_ands;refine ⟨?_,?_,?_⟩ <;> (rw [hb4.cell (by first | omega | (simp;omega))];go_keep)))
  (first | (go_at_call 191;(with_reducible refine (base_any b hb hL i hi F A1 A2 c1 c2 hp hq hr _ hE2 hR2).mono ?_);rintro e w3 ⟨rfl,hb3⟩;have hs3:w2.heap.size≤w3.heap.size:=hb3.size) | (go_at_call 190;(with_reducible refine (closure_any b hb hL _ hbl F A2 c2 hr _ (hR2.rl.below hb3)).mono ?_);rintro e w4 ⟨rfl,hb4⟩;have hs4:w3.heap.size≤w4.heap.size:=hb4.size))
 all_goals
  go_wp2_with fail
  go_ret
  exact ⟨rfl,hy.trans (((Below.refl w2.heap.size w2).drew.trans (hb3.trans (hb4.mono hs3))).mono hy.size)⟩
theorem Label_any (b:Bk)(hL:BkLen b)(i:Int)(F:Nat→Prop)(A1 A2:Option Addr)(c1 c2:Nat)(hp hq hr:Nat→SlH)(w:World)(hE:EnvZ w)(hR:RBk F w A1 A2 b hp hq hr) :
  Calls Tryz.prog 48 #[.agg #[.int .i64 b.props,.slice A1 b.items.length c1,.slice A2 b.rules.length c2],.int .i64 i] w fun e w'=>∃A' c',e=.returned (.tuple #[.slice A' (labR b i).length c',.int .i64 (nmE b i)])∧OwnN w' w.heap.size A' c' (labR b i)∧Below w.heap.size w w':=by
 obtain ⟨w2,hw2⟩:∃w2,(w.alloc (.cells #[.int .i64 b.props,.slice A1 b.items.length c1,.slice A2 b.rules.length c2] 30))=w2:=⟨_,rfl⟩
 have hy:Below w.heap.size w w2:=by rw [← hw2];exact (Below.refl _ w).alloc (Nat.le_refl _) _
 have bx:Box w2 w.heap.size #[.int .i64 b.props,.slice A1 b.items.length c1,.slice A2 b.rules.length c2]:=by rw [← hw2];exact (Box.new w _ _)
 have x0:=bx.cell 0;have x1:=bx.cell 1;have x2:=bx.cell 2
 simp only [gqA,gqB,gqC] at x0 x1 x2
 have hR2:=hR.below hy
 have hE2:=hE.below hy
 have hsw:w.heap.size<w2.heap.size:=bx.lt
 by_cases hv:nmE b i=0
 ·obtain ⟨hb,i0,i1⟩:=nmE_ok hv
  obtain ⟨n,rfl⟩:∃n:Nat,i=n:=⟨i.toNat,by omega⟩
  have hn:n<b.items.length:=by omega
  have hl:labR b n=bitsL (labN b n):=by unfold labR;rw [if_pos hv];rfl
  have hlt:labN b n<2 ^ 20:=by have:=lt_ten hb (labN_lt hb n);omega
  rw [hl,hv]
  clear hl
  have HV:=Lib.hid hv;clear hv
  go_enter Tryz.func48,Tryz.ntmps48
  go_wp2_with (first
   | (go_at_call 120;(with_reducible refine (named_any b hL n F A1 A2 c1 c2 hp hq hr _ hR2).mono ?_);rintro e w3 ⟨rfl,hb3⟩;rw [HV.out];have z0:=(bx.below hb3).cell 0;have z1:=(bx.below hb3).cell 1;have z2:=(bx.below hb3).cell 2;simp only [gqA,gqB,gqC] at z0 z1 z2;have hs3:=hb3.size;have hR3:=hR2.below hb3;have hE3:=hE2.below hb3;clear x0 x1 x2)
   | (go_at_call 122;(with_reducible refine (label_any b hb hL n hn F A1 A2 c1 c2 hp hq hr _ hE3 hR3).mono ?_);rintro e w4 ⟨rfl,hb4⟩;have hs4:=hb4.size;have hE4:=hE3.below hb4)
   | (go_at_call 121;(with_reducible refine (list_any _ hlt _ hE4).mono ?_);rintro e w5 ⟨A',c',rfl,own,hb5⟩))
  go_ret2
  exact ⟨A',c',rfl,own_base own (by omega),hy.trans ((hb3.trans ((hb4.trans (hb5.mono hs4)).mono hs3)).mono hy.size)⟩
 ·have hb0:(nmE b i != 0)=true:=by simp [hv]
  have hl:labR b i=[]:=by unfold labR;rw [if_neg hv]
  rw [hl]
  clear hl hv
  go_enter Tryz.func48,Tryz.ntmps48
  go_wp2_with (go_at_call 120;(with_reducible refine (named_any b hL i F A1 A2 c1 c2 hp hq hr _ hR2).mono ?_);rintro e w3 ⟨rfl,hb3⟩)
  go_ret2
  exact ⟨none,0,rfl,World.ownsRow_nil _ _ _ _,hy.trans (hb3.mono hy.size)⟩
end Go.Proofs.YtiapkffihpgdcaaGreatDoor
namespace Go.Proofs.YtiapkffihpgdcaaGreatDoor
theorem digTo_iff (w:Wd)(k:Nat):digTo w k=true ↔ ∀i,i<k→digB (gb w i)=true:=by
 induction k with
 | zero=>simp [digTo]
 | succ k ih =>
  simp only [digTo,Bool.and_eq_true,ih]
  constructor
  ·rintro ⟨h1,h2⟩ i hi
   by_cases e:i=k
   ·subst e;exact h2
   ·exact h1 i (by omega)
  ·intro h;exact ⟨fun i hi=>h i (by omega),h k (by omega)⟩
theorem letTo_iff (w:Wd)(k:Nat):letTo w k=true ↔ ∀i,i<k→(lowB (gb w i) || digB (gb w i))=true:=by
 induction k with
 | zero=>simp [letTo]
 | succ k ih =>
  simp only [letTo,Bool.and_eq_true,ih]
  constructor
  ·rintro ⟨h1,h2⟩ i hi
   by_cases e:i=k
   ·subst e;exact h2
   ·exact h1 i (by omega)
  ·intro h;exact ⟨fun i hi=>h i (by omega),h k (by omega)⟩
theorem numsTo_iff (ws:List Wd)(k:Nat):numsTo ws k=true ↔ ∀i,i<k→numOk (ws.getD i [])=true:=by
 induction k with
 | zero=>simp [numsTo]
 | succ k ih =>
  simp only [numsTo,Bool.and_eq_true,ih]
  constructor
  ·rintro ⟨h1,h2⟩ i hi
   by_cases e:i=k
   ·subst e;exact h2
   ·exact h1 i (by omega)
  ·intro h;exact ⟨fun i hi=>h i (by omega),h k (by omega)⟩
theorem numTo'_lt {w:Wd}{k:Nat}(h:digTo w k=true):numTo' w k<10 ^ k:=by
 induction k with
 | zero=>simp [numTo']
 | succ k ih =>
  simp only [digTo,Bool.and_eq_true] at h
  have h1:=ih h.1
  have h2:(gb w k).toNat≤57:=by have:=h.2;unfold digB at this;rw [decide_eq_true_eq] at this;exact this.2
  simp only [numTo']
  rw [Nat.pow_succ]
  omega
theorem numV_bd (w:Wd)(h:numOk w=true):0≤numV w∧numV w≤2000000:=by
 unfold numOk at h
 rw [Bool.and_eq_true,Bool.and_eq_true,decide_eq_true_eq] at h
 unfold numV
 rw [h.1,h.2.1]
 simp only [Bool.and_self,if_true]
 omega
structure RqOk (r:Rq):Prop where
 k0:0≤r.kind
 k7:r.kind≤7
 nums:∀k,k<r.nums.length→0≤gi r.nums k∧gi r.nums k≤2000000
 len1:r.kind≤2→1≤r.nums.length
 one:r.kind≤1→r.nums.length=1
 three:3≤r.kind→r.kind≤5→r.nums.length=3
 two:6≤r.kind→r.nums.length=2
 name:r.kind=1→letB r.name=true
theorem rqN_some {f:Fm}{name:Wd}{ws:List Wd}{r:Rq}(h:rqN f name ws=some r):r=⟨f.kind,name,ws.map numV⟩∧fitB f ws.length=true∧numsTo ws ws.length=true:=by
 unfold rqN at h
 cases h1:fitB f ws.length with
 | false=>rw [h1] at h;cases h
 | true =>
  cases h2:numsTo ws ws.length with
  | false=>rw [h1,h2] at h;cases h
  | true=>rw [h1,h2] at h;cases h;exact ⟨rfl,rfl,rfl⟩
theorem gi_map (ws:List Wd)(k:Nat)(hk:k<ws.length):gi (ws.map numV) k=numV (ws.getD k []):=by simp [gi,hk]
theorem nums_bd {ws:List Wd}(h:numsTo ws ws.length=true):∀k,k<(ws.map numV).length→0≤gi (ws.map numV) k∧gi (ws.map numV) k≤2000000:=fun k hk=>by
 have hk':k<ws.length:=by simpa using hk
 rw [gi_map ws k hk']
 exact numV_bd _ ((numsTo_iff _ _).1 h k hk')
theorem fmOf_some {w:Wd}{f:Fm}(h:fmOf w=some f):f=⟨0,false,1,false⟩∨f=⟨1,true,1,false⟩∨f=⟨2,false,1,true⟩∨f=⟨3,false,3,false⟩∨f=⟨4,false,3,false⟩∨f=⟨5,false,3,false⟩∨f=⟨6,false,2,false⟩∨f=⟨7,false,2,false⟩:=by
 unfold fmOf at h
 by_cases h0:w=wAt
 ·rw [if_pos h0] at h;cases h;simp
 rw [if_neg h0] at h
 by_cases h1:w=wDish
 ·rw [if_pos h1] at h;cases h;simp
 rw [if_neg h1] at h
 by_cases h2:w=wChild
 ·rw [if_pos h2] at h;cases h;simp
 rw [if_neg h2] at h
 by_cases h3:w=wOrder
 ·rw [if_pos h3] at h;cases h;simp
 rw [if_neg h3] at h
 by_cases h4:w=wCancel
 ·rw [if_pos h4] at h;cases h;simp
 rw [if_neg h4] at h
 by_cases h5:w=wFree
 ·rw [if_pos h5] at h;cases h;simp
 rw [if_neg h5] at h
 by_cases h6:w=wCook
 ·rw [if_pos h6] at h;cases h;simp
 rw [if_neg h6] at h
 by_cases h7:w=wEat
 ·rw [if_pos h7] at h;cases h;simp
 rw [if_neg h7] at h
 cases h
theorem rqOk_of {f:Fm}{name:Wd}{ws:List Wd}{r:Rq}{w:Wd}(hf:fmOf w=some f)(h:rqN f name ws=some r)(hn:f.name=true→letB name=true):RqOk r:=by
 obtain ⟨rfl,h1,h2⟩:=rqN_some h
 have hb:=nums_bd h2
 unfold fitB at h1
 rw [decide_eq_true_eq] at h1
 rcases fmOf_some hf with rfl | rfl | rfl | rfl | rfl | rfl | rfl | rfl <;> simp at h1 hn <;> exact ⟨by simp,by simp,hb,by simp;try omega,by simp;try omega,by simp;try omega,by simp;try omega,by simp;try exact hn⟩
theorem prs_ok {s:Wd}{r:Rq}(h:prs s=some r):RqOk r∧s.length≤60:=by
 unfold prs at h
 cases hf:fmOf (hd (wds s)) with
 | none=>rw [hf] at h;cases h
 | some f =>
  rw [hf] at h
  simp only at h
  by_cases h60:60<s.length
  ·rw [if_pos h60] at h;cases h
  ·rw [if_neg h60] at h
   refine ⟨?_,by omega⟩
   cases hn:f.name with
   | false=>rw [hn] at h;simp only [Bool.false_eq_true,if_false] at h;exact rqOk_of hf h (by rw [hn];intro h;cases h)
   | true =>
    rw [hn] at h
    simp only [if_true] at h
    by_cases he:(wds s).tail=[]
    ·rw [if_pos he] at h;cases h
    ·rw [if_neg he] at h
     cases hl:letB (hd (wds s).tail) with
     | false=>rw [hl] at h;cases h
     | true=>rw [hl] at h;simp only [if_true] at h;exact rqOk_of hf h (fun _=>hl)
theorem gf_old (l:List Fact)(f:Fact){i:Nat}(h:i<l.length):gf (l ++ [f]) i=gf l i:=by simp [gf,List.getElem?_append_left h]
theorem gf_new (l:List Fact)(f:Fact):gf (l ++ [f]) l.length=f:=by simp [gf]
theorem rsnTo_snoc (l:List Fact)(f:Fact)(t c d:Int):rsnTo (l ++ [f]) t c d l.length=rsnTo l t c d l.length:=rsnTo_congr _ _ _ _ _ _ fun i hi=>gf_old l f hi
theorem knw_hit {l:List Fact}{f:Fact}{t c d:Int}(h:hit f t c d=true):knw (l ++ [f]) t c d=f.me:=by
 have hr:rsn (l ++ [f]) t c d=(l.length:Int):=by
  unfold rsn
  rw [List.length_append,List.length_singleton]
  exact rsnTo_hit _ _ _ _ _ (by rw [gf_new];exact h)
 unfold knw fMe
 rw [hr,if_neg (by omega),Int.toNat_natCast,gf_new]
theorem knw_miss {l:List Fact}{f:Fact}{t c d:Int}(h:hit f t c d=false):knw (l ++ [f]) t c d=knw l t c d:=by
 have hr:rsn (l ++ [f]) t c d=rsn l t c d:=by
  unfold rsn
  rw [List.length_append,List.length_singleton,rsnTo_miss _ _ _ _ _ (by rw [gf_new];exact h),rsnTo_snoc]
 unfold knw
 rw [hr]
 unfold fMe
 have hb:=rsnTo_bd l t c d l.length
 split
 ·rfl
 ·rw [gf_old l f (by unfold rsn at *;omega)]
theorem hit_late {f:Fact}{t t' c d:Int}(h:f.at_≤t)(h':f.at_≤t'):hit f t c d=hit f t' c d:=by
 unfold hit;rw [decide_eq_true h,decide_eq_true h']
theorem rsnTo_late {l:List Fact}{t t' c d:Int}(k:Nat)(h:∀i,i<k→(gf l i).at_≤t∧(gf l i).at_≤t'):rsnTo l t c d k=rsnTo l t' c d k:=by
 induction k with
 | zero=>rfl
 | succ k ih=>simp only [rsnTo];rw [ih fun i hi=>h i (by omega),hit_late (h k (by omega)).1 (h k (by omega)).2]
theorem knw_late {l:List Fact}{t t' c d:Int}(h:∀i,i<l.length→(gf l i).at_≤t)(h':∀i,i<l.length→(gf l i).at_≤t'):knw l t c d=knw l t' c d:=by
 unfold knw rsn
 rw [rsnTo_late l.length fun i hi=>⟨h i hi,h' i hi⟩]
theorem knw_none {l:List Fact}{t c d:Int}(h:∀i,i<l.length→(gf l i).ch≠c):knw l t c d=0 :=
 knw_of_hits (fun i hi hh=>by
  unfold hit at hh
  rw [Bool.and_eq_true,covB_iff] at hh
  exact absurd hh.2.1 (h i hi)) (.inr rfl)
theorem gk_mem {l:List Kd}{k:Nat}(h:k<l.length):gk l k ∈ l:=by unfold gk;rw [List.getD_eq_getElem?_getD,List.getElem?_eq_getElem h];exact List.getElem_mem h
theorem gk_of_mem {l:List Kd}{x:Kd}(h:x ∈ l):∃k,k<l.length∧gk l k=x:=by
 obtain ⟨k,hk,e⟩:=List.mem_iff_getElem.1 h
 exact ⟨k,hk,by unfold gk;rw [List.getD_eq_getElem?_getD,List.getElem?_eq_getElem hk];exact e⟩
theorem hasK_iff (l:List Kd)(n:Int):hasK l n=true ↔ ∃x ∈ l,x.num=n:=by
 unfold hasK kidTo
 rw [anyTo_iff]
 constructor
 ·rintro ⟨i,hi,h⟩;exact ⟨gk l i,gk_mem hi,by simpa using h⟩
 ·rintro ⟨x,hx,e⟩
  obtain ⟨k,hk,rfl⟩:=gk_of_mem hx
  exact ⟨k,hk,by simpa using e⟩
theorem kidOf_mem {l:List Kd}{n:Int}(h:hasK l n=true):kidOf l n ∈ l∧(kidOf l n).num=n:=by
 obtain ⟨x,hx,e⟩:=(hasK_iff l n).1 h
 unfold kidOf
 cases hf:l.find? fun x=>x.num == n with
 | none=>have:=List.find?_eq_none.1 hf x hx;simp [e] at this
 | some y =>
  have h1:=List.mem_of_find?_eq_some hf
  have h2:=List.find?_some hf
  exact ⟨h1,by simpa using h2⟩
theorem insK_mem (l:List Kd)(c x:Kd):x ∈ insK l c ↔ x=c∨x ∈ l:=by
 unfold insK
 rw [List.mem_append,List.mem_cons]
 have:=List.takeWhile_append_dropWhile (p:=fun x:Kd=>decide (x.num≤c.num)) (l:=l)
 constructor
 ·rintro (h | h | h)
  ·right;rw [← this];exact List.mem_append_left _ h
  ·exact .inl h
  ·right;rw [← this];exact List.mem_append_right _ h
 ·rintro (h | h)
  ·exact .inr (.inl h)
  ·rw [← this,List.mem_append] at h
   rcases h with h | h
   ·exact .inl h
   ·exact .inr (.inr h)
theorem dropW_gt {l:List Kd}{n:Int}(hs:l.Pairwise fun a b=>a.num<b.num):∀x ∈ l.dropWhile (fun x=>decide (x.num≤n)),n<x.num:=by
 induction l with
 | nil=>simp
 | cons a l ih =>
  intro x hx
  rw [List.dropWhile_cons] at hx
  rw [List.pairwise_cons] at hs
  split at hx
  ·exact ih hs.2 x hx
  ·rename_i h
   have h1:n<a.num:=by simpa using h
   rcases List.mem_cons.1 hx with rfl | h2
   ·exact h1
   ·have:=hs.1 x h2;omega
theorem takeW_le {l:List Kd}{n:Int}:∀x ∈ l.takeWhile (fun x=>decide (x.num≤n)),x.num≤n:=by
 induction l with
 | nil=>simp
 | cons a l ih =>
  intro x hx
  rw [List.takeWhile_cons] at hx
  split at hx
  ·rename_i h
   rcases List.mem_cons.1 hx with rfl | h2
   ·simpa using h
   ·exact ih x h2
  ·simp at hx
theorem insK_sorted {l:List Kd}{c:Kd}(hs:l.Pairwise fun a b=>a.num<b.num)(hn:∀x ∈ l,x.num≠c.num):(insK l c).Pairwise fun a b=>a.num<b.num:=by
 unfold insK
 have h1:(l.takeWhile (fun x=>decide (x.num≤c.num))).Pairwise fun a b=>a.num<b.num:=hs.sublist (List.takeWhile_sublist _)
 have h2:(l.dropWhile (fun x=>decide (x.num≤c.num))).Pairwise fun a b=>a.num<b.num:=hs.sublist (List.dropWhile_sublist _)
 rw [List.pairwise_append,List.pairwise_cons]
 have lt:∀x ∈ l.takeWhile (fun x=>decide (x.num≤c.num)),x.num<c.num:=fun x hx=>by
  have a:=takeW_le x hx
  have b:=hn x ((List.takeWhile_sublist _).subset hx)
  omega
 refine ⟨h1,⟨fun x hx=>dropW_gt hs x hx,h2⟩,fun x hx y hy=>?_⟩
 rcases List.mem_cons.1 hy with rfl | hy
 ·exact lt x hx
 ·have:=lt x hx;have:=dropW_gt hs y hy;omega
theorem kids_uniq {l:List Kd}(hs:l.Pairwise fun a b=>a.num<b.num){x y:Kd}(hx:x ∈ l)(hy:y ∈ l)(e:x.num=y.num):x=y:=by
 induction l with
 | nil=>simp at hx
 | cons a l ih =>
  rw [List.pairwise_cons] at hs
  rcases List.mem_cons.1 hx with h1 | h1 <;> rcases List.mem_cons.1 hy with h2 | h2
  ·rw [h1,h2]
  ·subst h1;have:=hs.1 y h2;omega
  ·subst h2;have:=hs.1 x h1;omega
  ·exact ih hs.2 h1 h2
structure OfOk (o:Of):Prop where
 tm:TmOk o.tm
 cy:CyOk o.cy
 bk:BkOk o.bk
 now0:0≤o.now
 now1:o.now≤1440000
 dl:(o.dishes.length:Int)≤o.cy.n
 di:∀x ∈ o.dishes,0≤x.item∧x.item<o.bk.items.length
 dn:∀x ∈ o.dishes,letB x.name=true∧x.name.length≤8
 kn:∀x ∈ o.kids,0≤x.num∧x.num≤99
 ka:∀x ∈ o.kids,isSet x.avoid o.bk.props=true
 ks:o.kids.Pairwise fun a b=>a.num<b.num
 fv:vld o.facts=0
 fa:∀i,i<o.facts.length→(gf o.facts i).at_≤o.now
 fk:∀i,i<o.facts.length→hasK o.kids (gf o.facts i).ch=true
 fm:∀i,i<o.facts.length→(gf o.facts i).me=0∨(gf o.facts i).me=1
 rv:vrt o.rights=0
 ck:∀d n,o.cooked d=some n→o.opn d=true∧0≤n∧n≤100000
 et:∀d n,o.eaten d=some n→∃m,o.cooked d=some m∧0≤n∧n≤m
 ol:o.orders.length≤200
 os:∀s ∈ o.orders,∃r,prs s=some r
 safe:∀x ∈ o.kids,∀d,d<o.days→dayHarm o x.avoid d=true→eatB o x.num d=false
theorem newE_ok {t:Tm}{c:Cy}{b:Bk}(h:newE t c b=0):TmOk t∧CyOk c∧BkOk b:=by
 unfold newE at h
 by_cases h1:tE t=0
 ·rw [if_neg (by simp [h1])] at h
  by_cases h2:cE c=0
  ·rw [if_neg (by simp [h2])] at h;exact ⟨TmOk.of h1,CyOk.of h2,BkOk.of h⟩
  ·rw [if_pos h2] at h;exact absurd h h2
 ·rw [if_pos h1] at h;exact absurd h h1
theorem OfOk.new {t:Tm}{c:Cy}{b:Bk}(h:newE t c b=0):OfOk (new0 t c b):=by
 obtain ⟨h1,h2,h3⟩:=newE_ok h
 exact ⟨h1,h2,h3,by simp [new0],by simp [new0],by have:=h2.n1;simp [new0];omega,by simp [new0],by simp [new0],by simp [new0],by simp [new0],by simp [new0],by show vld []=0;decide,by simp [new0],by simp [new0],by simp [new0],by show vrt []=0;decide,by simp [new0],by simp [new0],by simp [new0],by simp [new0],by simp [new0]⟩
theorem knownR_bd (l:List Fact)(t c d:Int):knownR l t c d=1→knw l t c d=1∧vld l=0∧0≤c∧c≤99∧0≤d∧d≤999:=fun h=>by
 unfold knownR at h
 split at h
 ·rename_i h0
  have:=askE_ok h0
  exact ⟨h,this.1.to,this.2⟩
 ·cases h
theorem askE_of {l:List Fact}{c d:Int}(h:vld l=0)(h1:0≤c)(h2:c≤99)(h3:0≤d)(h4:d≤999):askE l c d=0:=by
 unfold askE askd
 rw [if_neg (by simp [h]),inB_true.2 ⟨h1,h2⟩,inB_true.2 ⟨h3,h4⟩];rfl
theorem eatB_iff {o:Of}{c d:Int}(h:vld o.facts=0)(h1:0≤c)(h2:c≤99)(h3:0≤d)(h4:d≤999):eatB o c d=true ↔ knw o.facts o.now c d=1:=by
 unfold eatB knownR
 rw [if_pos (askE_of h h1 h2 h3 h4)]
 simp
theorem days_le {o:Of}(h:TmOk o.tm):o.days≤1000:=by unfold Of.days;have:=h.len2;omega
theorem doE_none {o:Of}{s:Wd}(h:prs s=none):doE o s=3:=by unfold doE;rw [h]
theorem doE_some {o:Of}{s:Wd}{r:Rq}(h:prs s=some r)(hl:o.orders.length<200):doE o s=exE o r:=by unfold doE;rw [h];simp only;rw [if_neg (by omega)]
theorem doE_full {o:Of}{s:Wd}{r:Rq}(h:prs s=some r)(hl:200≤o.orders.length):doE o s=4:=by unfold doE;rw [h];simp only;rw [if_pos hl]
theorem doS_bad {o:Of}{s:Wd}(h:doE o s≠0):doS o s=o:=by unfold doS;rw [if_neg h]
theorem doE_zero {o:Of}{s:Wd}(h:doE o s=0):∃r,prs s=some r∧o.orders.length<200∧exE o r=0:=by
 cases hp:prs s with
 | none=>rw [doE_none hp] at h;cases h
 | some r =>
  by_cases hl:200≤o.orders.length
  ·rw [doE_full hp hl] at h;cases h
  ·rw [doE_some hp (by omega)] at h;exact ⟨r,rfl,by omega,h⟩
theorem doS_good {o:Of}{s:Wd}{r:Rq}(h:doE o s=0)(hp:prs s=some r):doS o s={ exS o r with orders:=o.orders ++ [s] }:=by
 unfold doS;rw [if_pos h,hp]
section
variable {o:Of}{r:Rq}
theorem exE_at (h:r.kind=0):exE o r=if gi r.nums 0<o.now then 7 else if 1440000<gi r.nums 0 then 4 else 0:=by unfold exE;rw [if_pos h]
theorem exE_dish (h:r.kind=1):exE o r=serE o r.name (gi r.nums 0):=by unfold exE;rw [if_neg (by omega),if_pos h]
theorem exE_kid (h:r.kind=2):exE o r=metE o (gi r.nums 0) r.nums.tail:=by unfold exE;rw [if_neg (by omega),if_neg (by omega),if_pos h]
theorem exE_ord (h:r.kind=3):exE o r=chgE o r.nums 1:=by unfold exE;rw [if_neg (by omega),if_neg (by omega),if_neg (by omega),if_pos h]
theorem exE_can (h:r.kind=4):exE o r=chgE o r.nums 0:=by unfold exE;rw [if_neg (by omega),if_neg (by omega),if_neg (by omega),if_neg (by omega),if_pos h]
theorem exE_free (h:r.kind=5):exE o r=freE o r.nums:=by unfold exE;rw [if_neg (by omega),if_neg (by omega),if_neg (by omega),if_neg (by omega),if_neg (by omega),if_pos h]
theorem exE_cook (h:r.kind=6):exE o r=cokE o (gi r.nums 0) (gi r.nums 1):=by unfold exE;rw [if_neg (by omega),if_neg (by omega),if_neg (by omega),if_neg (by omega),if_neg (by omega),if_neg (by omega),if_pos h]
theorem exE_eat (h:r.kind=7):exE o r=eteE o (gi r.nums 0) (gi r.nums 1):=by unfold exE;rw [if_neg (by omega),if_neg (by omega),if_neg (by omega),if_neg (by omega),if_neg (by omega),if_neg (by omega),if_neg (by omega)]
theorem exS_at (h:r.kind=0):exS o r={ o with now:=gi r.nums 0 }:=by unfold exS;rw [if_pos h]
theorem exS_dish (h:r.kind=1):exS o r={ o with dishes:=o.dishes ++ [⟨r.name,gi r.nums 0⟩] }:=by unfold exS;rw [if_neg (by omega),if_pos h]
theorem exS_kid (h:r.kind=2):exS o r={ o with kids:=insK o.kids ⟨gi r.nums 0,r.nums.tail⟩ }:=by unfold exS;rw [if_neg (by omega),if_neg (by omega),if_pos h]
theorem exS_ord (h:r.kind=3):exS o r={ o with facts:=o.facts ++ [chgF o r.nums 1] }:=by unfold exS;rw [if_neg (by omega),if_neg (by omega),if_neg (by omega),if_pos h]
theorem exS_can (h:r.kind=4):exS o r={ o with facts:=o.facts ++ [chgF o r.nums 0] }:=by unfold exS;rw [if_neg (by omega),if_neg (by omega),if_neg (by omega),if_neg (by omega),if_pos h]
theorem exS_free (h:r.kind=5):exS o r={ o with rights:=freR o r.nums }:=by unfold exS;rw [if_neg (by omega),if_neg (by omega),if_neg (by omega),if_neg (by omega),if_neg (by omega),if_pos h]
theorem exS_cook (h:r.kind=6):exS o r={ o with cooked:=updF o.cooked (gi r.nums 0) (gi r.nums 1) }:=by unfold exS;rw [if_neg (by omega),if_neg (by omega),if_neg (by omega),if_neg (by omega),if_neg (by omega),if_neg (by omega),if_pos h]
theorem exS_eat (h:r.kind=7):exS o r={ o with eaten:=updF o.eaten (gi r.nums 0) (gi r.nums 1) }:=by unfold exS;rw [if_neg (by omega),if_neg (by omega),if_neg (by omega),if_neg (by omega),if_neg (by omega),if_neg (by omega),if_neg (by omega)]
end
/-- All but the list of orders,and what it asks. -/
theorem OfOk.orders {o:Of}(h:OfOk o){s:Wd}{r:Rq}(hp:prs s=some r)(hl:o.orders.length<200){l:List Wd}(hl2:l=o.orders ++ [s]):OfOk { o with orders:=l }:=by
 subst hl2
 exact ⟨h.tm,h.cy,h.bk,h.now0,h.now1,h.dl,h.di,h.dn,h.kn,h.ka,h.ks,h.fv,h.fa,h.fk,h.fm,h.rv,h.ck,h.et,by simp;omega,fun x hx=>by
  rcases List.mem_append.1 hx with hx | hx
  ·exact h.os x hx
  ·rw [List.mem_singleton.1 hx];exact ⟨r,hp⟩,h.safe⟩
theorem gd_old (l:List Dh)(x:Dh){i:Nat}(h:i<l.length):gd (l ++ [x]) i=gd l i:=by simp [gd,List.getElem?_append_left h]
theorem gd_new (l:List Dh)(x:Dh):gd (l ++ [x]) l.length=x:=by simp [gd]
theorem OfOk.at_ {o:Of}(h:OfOk o){n:Int}(h1:o.now≤n)(h2:n≤1440000):OfOk { o with now:=n }:=by
 have fa':∀i,i<o.facts.length→(gf o.facts i).at_≤n:=fun i hi=>by have:=h.fa i hi;omega
 refine ⟨h.tm,h.cy,h.bk,by have:=h.now0;show 0≤n;omega,h2,h.dl,h.di,h.dn,h.kn,h.ka,h.ks,h.fv,fa',h.fk,h.fm,h.rv,h.ck,h.et,h.ol,h.os,fun x hx d hd hh=>?_⟩
 have:=h.safe x hx d hd hh
 unfold eatB knownR at this ⊢
 simp only at this ⊢
 rw [knw_late fa' h.fa]
 exact this
theorem OfOk.kid {o:Of}(h:OfOk o){n:Int}{av:List Int}(h0:0≤n)(he:metE o n av=0):OfOk { o with kids:=insK o.kids ⟨n,av⟩ }:=by
 unfold metE at he
 by_cases h99:99<n
 ·rw [if_pos h99] at he;cases he
 rw [if_neg h99] at he
 by_cases hs:isSet av o.bk.props=false
 ·rw [if_pos hs] at he;cases he
 rw [if_neg hs] at he
 by_cases hk:hasK o.kids n=true
 ·rw [if_pos hk] at he;cases he
 have hno:∀x ∈ o.kids,x.num≠n:=fun x hx e=>hk ((hasK_iff _ _).2 ⟨x,hx,e⟩)
 have hset:isSet av o.bk.props=true:=by cases hb:isSet av o.bk.props with | true=>rfl | false=>exact absurd hb hs
 have hkk:∀c,hasK o.kids c=true→hasK (insK o.kids ⟨n,av⟩) c=true:=fun c hc=>by
  obtain ⟨x,hx,e⟩:=(hasK_iff _ _).1 hc
  exact (hasK_iff _ _).2 ⟨x,(insK_mem _ _ _).2 (.inr hx),e⟩
 refine ⟨h.tm,h.cy,h.bk,h.now0,h.now1,h.dl,h.di,h.dn,fun x hx=>?_,fun x hx=>?_,insK_sorted h.ks hno,h.fv,h.fa,fun i hi=>hkk _ (h.fk i hi),h.fm,h.rv,h.ck,h.et,h.ol,h.os,fun x hx d hd hh=>?_⟩
 ·rcases (insK_mem _ _ _).1 hx with rfl | hx
  ·exact ⟨h0,by show n≤99;omega⟩
  ·exact h.kn x hx
 ·rcases (insK_mem _ _ _).1 hx with rfl | hx
  ·exact hset
  ·exact h.ka x hx
 ·rcases (insK_mem _ _ _).1 hx with rfl | hx
  ·show eatB o n d=false
   cases hb:eatB o n d with
   | false=>rfl
   | true =>
    exfalso
    unfold eatB at hb
    have hk1:=(knownR_bd _ _ _ _ (by simpa using hb)).1
    rw [knw_none fun i hi e=>hk (by have:=h.fk i hi;rw [e] at this;exact this)] at hk1
    cases hk1
  ·exact h.safe x hx d hd hh
theorem OfOk.dish {o:Of}(h:OfOk o){name:Wd}{item:Int}(hn:letB name=true)(h0:0≤item)(he:serE o name item=0):OfOk { o with dishes:=o.dishes ++ [⟨name,item⟩] }:=by
 unfold serE at he
 by_cases h1:o.cy.n≤o.dishes.length
 ·rw [if_pos h1] at he;cases he
 rw [if_neg h1] at he
 by_cases h2:nameB o name=false
 ·rw [if_pos h2] at he;cases he
 rw [if_neg h2] at he
 by_cases h3:(o.bk.items.length:Int)≤item
 ·rw [if_pos h3] at he;cases he
 rw [if_neg h3] at he
 by_cases h4:anyTo (hurtB o item) o.kids.length=true
 ·rw [if_pos h4] at he;cases he
 have h4':anyTo (hurtB o item) o.kids.length=false:=by simpa using h4
 have h2':name.length≤8:=by
  have:nameB o name=true:=by simpa using h2
  unfold nameB at this
  rw [Bool.and_eq_true,decide_eq_true_eq] at this
  exact this.1.1
 refine ⟨h.tm,h.cy,h.bk,h.now0,h.now1,by simp;omega,fun x hx=>?_,fun x hx=>?_,h.kn,h.ka,h.ks,h.fv,h.fa,h.fk,h.fm,h.rv,h.ck,h.et,h.ol,h.os,fun x hx d hd hh=>?_⟩
 ·rcases List.mem_append.1 hx with hx | hx
  ·exact h.di x hx
  ·rw [List.mem_singleton.1 hx];exact ⟨h0,by show item<(o.bk.items.length:Int);omega⟩
 ·rcases List.mem_append.1 hx with hx | hx
  ·exact h.dn x hx
  ·rw [List.mem_singleton.1 hx];exact ⟨hn,h2'⟩
 ·show eatB o x.num d=false
  unfold dayHarm at hh
  rw [Bool.and_eq_true,decide_eq_true_eq] at hh
  obtain ⟨⟨m0,m1⟩,hh⟩:=hh
  have m1':o.menu d<(o.dishes.length:Int)+1:=by
   have m2:o.menu d<((o.dishes ++ [(⟨name,item⟩:Dh)]).length:Int):=m1
   simpa using m2
  have m0':0≤o.menu d:=m0
  by_cases e:o.menu d=o.dishes.length
  ·have e2:({ o with dishes:=o.dishes ++ [⟨name,item⟩] }:Of).menu d=o.menu d:=rfl
   rw [e2,e,Int.toNat_natCast,gd_new] at hh
   obtain ⟨k,hk,rfl⟩:=gk_of_mem hx
   have hu:=(anyTo_false _ _).1 h4' k hk
   unfold hurtB at hu
   rw [show harmB o.bk item (gk o.kids k).avoid=true from hh,Bool.true_and] at hu
   have:=(anyTo_false _ _).1 hu d hd
   rw [e] at this
   simpa using this
  ·refine h.safe x hx d hd ?_
   unfold dayHarm
   rw [Bool.and_eq_true,decide_eq_true_eq]
   refine ⟨⟨m0',by omega⟩,?_⟩
   rw [gd_old _ _ (by show (o.menu d).toNat<o.dishes.length;omega)] at hh
   exact hh
theorem addE_zero {l:List Fact}{f:Fact}(h:addE l f=0):vld l=0∧vld (l ++ [f])=0:=by
 unfold addE at h
 by_cases h1:vld l=0
 ·rw [if_neg (by simp [h1])] at h;exact ⟨h1,h⟩
 ·rw [if_pos h1] at h;exact absurd h h1
theorem OfOk.chg {o:Of}(h:OfOk o){n:List Int}{m:Int}(hm:m=0∨m=1)(he:chgE o n m=0):OfOk { o with facts:=o.facts ++ [chgF o n m] }:=by
 unfold chgE at he
 by_cases h1:hasK o.kids (gi n 0)=false
 ·rw [if_pos h1] at he;cases he
 rw [if_neg h1] at he
 by_cases h2:m=1∧ordHarm o (kidOf o.kids (gi n 0)).avoid (gi n 1) (gi n 2)=true
 ·rw [if_pos h2] at he;cases he
 rw [if_neg h2] at he
 obtain ⟨v1,v2⟩:=addE_zero he
 have hK:hasK o.kids (gi n 0)=true:=by simpa using h1
 have spl:∀(P:Fact→Prop),(∀i,i<o.facts.length→P (gf o.facts i))→P (chgF o n m)→∀i,i<(o.facts ++ [chgF o n m]).length→P (gf (o.facts ++ [chgF o n m]) i):=fun P hP hn i hi=>by
  rw [List.length_append,List.length_singleton] at hi
  by_cases e:i<o.facts.length
  ·rw [gf_old _ _ e];exact hP i e
  ·have:i=o.facts.length:=by omega
   subst this
   rw [gf_new];exact hn
 refine ⟨h.tm,h.cy,h.bk,h.now0,h.now1,h.dl,h.di,h.dn,h.kn,h.ka,h.ks,v2,spl (fun f=>f.at_≤o.now) h.fa (Int.le_refl _),spl (fun f=>hasK o.kids f.ch=true) h.fk hK,spl (fun f=>f.me=0∨f.me=1) h.fm hm,h.rv,h.ck,h.et,h.ol,h.os,fun x hx d hd hh=>?_⟩
 have hx':=h.kn x hx
 have hd':=days_le h.tm
 have hd2:d<o.days:=hd
 cases hb:eatB { o with facts:=o.facts ++ [chgF o n m] } x.num d with
 | false=>rfl
 | true =>
  exfalso
  have hb':=(eatB_iff (o:={ o with facts:=o.facts ++ [chgF o n m] }) v2 hx'.1 hx'.2 (by omega) (by omega)).1 hb
  simp only at hb'
  have hold:eatB o x.num d=false:=h.safe x hx d hd hh
  cases hq:hit (chgF o n m) o.now x.num d with
  | false =>
   rw [knw_miss hq] at hb'
   rw [(eatB_iff v1 hx'.1 hx'.2 (by omega) (by omega)).2 hb'] at hold
   cases hold
  | true =>
   rw [knw_hit hq] at hb'
   have hm1:m=1:=hb'
   unfold hit at hq
   rw [Bool.and_eq_true,covB_iff] at hq
   obtain ⟨-,q1,q2,q3⟩:=hq
   have q1':gi n 0=x.num:=q1
   have q2':gi n 1≤d:=q2
   have q3':(d:Int)<gi n 2:=q3
   apply h2
   refine ⟨hm1,?_⟩
   obtain ⟨k1,k2⟩:=kidOf_mem hK
   have hxk:kidOf o.kids (gi n 0)=x:=kids_uniq h.ks k1 hx (by rw [k2,q1'])
   rw [hxk]
   unfold ordHarm
   rw [anyTo_iff]
   exact ⟨d,hd2,by rw [Bool.and_eq_true,decide_eq_true_eq];exact ⟨⟨q2',q3'⟩,hh⟩⟩
theorem OfOk.free {o:Of}(h:OfOk o){n:List Int}(he:freE o n=0):OfOk { o with rights:=freR o n }:=by
 unfold freE at he
 by_cases h1:hasK o.kids (gi n 0)=false
 ·rw [if_pos h1] at he;cases he
 rw [if_neg h1] at he
 exact ⟨h.tm,h.cy,h.bk,h.now0,h.now1,h.dl,h.di,h.dn,h.kn,h.ka,h.ks,h.fv,h.fa,h.fk,h.fm,he,h.ck,h.et,h.ol,h.os,h.safe⟩
theorem OfOk.cook {o:Of}(h:OfOk o){d n:Int}(h0:0≤n)(he:cokE o d n=0):OfOk { o with cooked:=updF o.cooked d n }:=by
 unfold cokE at he
 by_cases h1:o.opn d=false
 ·rw [if_pos h1] at he;cases he
 rw [if_neg h1] at he
 by_cases h2:(o.cooked d).isSome=true
 ·rw [if_pos h2] at he;cases he
 rw [if_neg h2] at he
 by_cases h3:100000<n
 ·rw [if_pos h3] at he;cases he
 refine ⟨h.tm,h.cy,h.bk,h.now0,h.now1,h.dl,h.di,h.dn,h.kn,h.ka,h.ks,h.fv,h.fa,h.fk,h.fm,h.rv,fun e m hem=>?_,fun e m hem=>?_,h.ol,h.os,h.safe⟩
 ·simp only [updF] at hem
  by_cases ed:e=d
  ·rw [if_pos ed] at hem
   cases hem
   subst ed
   exact ⟨show o.opn e=true by simpa using h1,h0,by omega⟩
  ·rw [if_neg ed] at hem;exact h.ck e m hem
 ·obtain ⟨k,k1,k2⟩:=h.et e m hem
  refine ⟨k,?_,k2⟩
  show updF o.cooked d n e=some k
  unfold updF
  rw [if_neg (fun ed=>h2 (by rw [← ed,k1];rfl))]
  exact k1
theorem OfOk.eat {o:Of}(h:OfOk o){d n:Int}(h0:0≤n)(he:eteE o d n=0):OfOk { o with eaten:=updF o.eaten d n }:=by
 unfold eteE at he
 by_cases h1:o.opn d=false
 ·rw [if_pos h1] at he;cases he
 rw [if_neg h1] at he
 by_cases h2:(o.cooked d).isNone=true∨(o.eaten d).isSome=true
 ·rw [if_pos h2] at he;cases he
 rw [if_neg h2] at he
 by_cases h3:(o.cooked d).getD 0<n
 ·rw [if_pos h3] at he;cases he
 refine ⟨h.tm,h.cy,h.bk,h.now0,h.now1,h.dl,h.di,h.dn,h.kn,h.ka,h.ks,h.fv,h.fa,h.fk,h.fm,h.rv,h.ck,fun e m hem=>?_,h.ol,h.os,h.safe⟩
 simp only [updF] at hem
 by_cases ed:e=d
 ·rw [if_pos ed] at hem
  cases hem
  subst ed
  cases hc:o.cooked e with
  | none=>exact absurd (.inl (by rw [hc];rfl)) h2
  | some k=>rw [hc] at h3;exact ⟨k,by first | exact hc | rfl,h0,by simpa using h3⟩
 ·rw [if_neg ed] at hem;exact h.et e m hem
theorem RqOk.n0 {r:Rq}(h:RqOk r):0≤gi r.nums 0:=by
 by_cases e:0<r.nums.length
 ·exact (h.nums 0 e).1
 ·have:=List.length_eq_zero_iff.1 (by omega:r.nums.length=0);simp [gi,this]
theorem RqOk.n1 {r:Rq}(h:RqOk r):0≤gi r.nums 1:=by
 by_cases e:1<r.nums.length
 ·exact (h.nums 1 e).1
 ·simp [gi,List.getElem?_eq_none (show r.nums.length≤1 by omega)]
theorem OfOk.step {o:Of}(h:OfOk o)(s:Wd):OfOk (doS o s):=by
 by_cases he:doE o s=0
 ·obtain ⟨r,hp,hl,hx⟩:=doE_zero he
  obtain ⟨hr,_⟩:=prs_ok hp
  rw [doS_good he hp]
  have hk:OfOk (exS o r)∧(exS o r).orders=o.orders:=by
   have k0:=hr.k0;have k7:=hr.k7
   have hc:r.kind=0∨r.kind=1∨r.kind=2∨r.kind=3∨r.kind=4∨r.kind=5∨r.kind=6∨r.kind=7:=by omega
   rcases hc with hc | hc | hc | hc | hc | hc | hc | hc
   ·rw [exE_at hc] at hx
    rw [exS_at hc]
    by_cases a:gi r.nums 0<o.now
    ·rw [if_pos a] at hx;cases hx
    rw [if_neg a] at hx
    by_cases b:1440000<gi r.nums 0
    ·rw [if_pos b] at hx;cases hx
    exact ⟨h.at_ (by omega) (by omega),rfl⟩
   ·rw [exE_dish hc] at hx;rw [exS_dish hc];exact ⟨h.dish (hr.name hc) hr.n0 hx,rfl⟩
   ·rw [exE_kid hc] at hx;rw [exS_kid hc];exact ⟨h.kid hr.n0 hx,rfl⟩
   ·rw [exE_ord hc] at hx;rw [exS_ord hc];exact ⟨h.chg (.inr rfl) hx,rfl⟩
   ·rw [exE_can hc] at hx;rw [exS_can hc];exact ⟨h.chg (.inl rfl) hx,rfl⟩
   ·rw [exE_free hc] at hx;rw [exS_free hc];exact ⟨h.free hx,rfl⟩
   ·rw [exE_cook hc] at hx;rw [exS_cook hc];exact ⟨h.cook hr.n1 hx,rfl⟩
   ·rw [exE_eat hc] at hx;rw [exS_eat hc];exact ⟨h.eat hr.n1 hx,rfl⟩
  exact hk.1.orders hp (by rw [hk.2];exact hl) (by rw [hk.2])
 ·rw [doS_bad he];exact h
end Go.Proofs.YtiapkffihpgdcaaGreatDoor
namespace Go.Proofs.YtiapkffihpgdcaaGreatDoor
open Go.RowKit
theorem right_any (a c f t m:Int)(w:World) :
  Calls Tryz.prog 210 #[.agg #[.int .i64 a,.int .i64 c,.int .i64 f,.int .i64 t,.int .i64 m]] w fun e w'=>e=.returned (.bool (rightN a c f t m))∧Below w.heap.size w w':=by
 go_enter Tryz.func210,Tryz.ntmps210
 go_wp2
 all_goals
  go_ret
  exact ⟨ret_bool (by unfold rightN;first | (rw [decide_eq_decide];omega) | (symm;rw [decide_eq_false_iff_not];omega)),by go_grown⟩
theorem isChild_any (n:Int)(w:World):Calls Tryz.prog 88 #[.int .i64 n] w fun e w'=>e=.returned (.bool (inB n 0 99))∧w'=w:=by
 go_enter Tryz.func88,Tryz.ntmps88
 go_wp2
 all_goals
  go_ret
  exact ⟨ret_bool (by unfold inB;first | (rw [decide_eq_decide];omega) | (symm;rw [decide_eq_false_iff_not];omega)),rfl⟩
theorem isDay_any (n:Int)(w:World):Calls Tryz.prog 111 #[.int .i64 n] w fun e w'=>e=.returned (.bool (inB n 0 999))∧w'=w:=by
 go_enter Tryz.func111,Tryz.ntmps111
 go_wp2
 all_goals
  go_ret
  exact ⟨ret_bool (by unfold inB;first | (rw [decide_eq_decide];omega) | (symm;rw [decide_eq_false_iff_not];omega)),rfl⟩
theorem within_anyO (n lo hi:Int)(w:World):Calls Tryz.prog 181 #[.int .i64 n,.int .i64 lo,.int .i64 hi] w fun e w'=>e=.returned (.bool (inB n lo hi))∧w'=w:=by
 go_enter Tryz.func181,Tryz.ntmps181
 go_wp2
 all_goals
  go_ret
  exact ⟨ret_bool (by unfold inB;first | (rw [decide_eq_decide];omega) | (symm;rw [decide_eq_false_iff_not];omega)),rfl⟩
theorem rdays_anyO (f t:Int)(w:World):Calls Tryz.prog 268 #[.int .i64 f,.int .i64 t] w fun e w'=>e=.returned (.bool (stretchB f t))∧w'=w:=by
 go_enter Tryz.func268,Tryz.ntmps268
 go_wp2
 all_goals
  go_ret
  exact ⟨ret_bool (by unfold stretchB;first | (rw [decide_eq_decide];omega) | (symm;rw [decide_eq_false_iff_not];omega)),rfl⟩
theorem validate_any (l:List Fact)(A:Option Addr)(c B:Nat)(w:World)(hR:RF w B A l)(hl:l.length≤1000000000) :
  Calls Tryz.prog 145 #[.slice A l.length c] w fun e w'=>e=.returned (.int .i64 (vld l))∧Below w.heap.size w w':=by
 go_enter Tryz.func145,Tryz.ntmps145
 by_cases h60:60<l.length
 ·go_wp2
  go_ret
  exact ⟨ret_int (by unfold vld;rw [if_pos h60]),by go_grown⟩
 ·go_wp2
  go_loopw [10] (fun i wr=>∃k:Nat,k≤l.length∧i=.int .i64 k∧Below w.heap.size w wr∧Hid (vG (-1) l=vG (prv l k) (l.drop k))) (fun i _=>l.length-(intOf i).toNat)
  case atStart=>exact ⟨0,by omega,rfl,Below.refl _ _,by rw [prv_zero];rfl⟩
  case round =>
   obtain ⟨k,hk,rfl,hbl,HV⟩:=hrel
   by_cases hlt:k<l.length
   ·obtain ⟨ad,rfl,hab,c0,c1,c2,c3,c4⟩:=(hR.below hbl).at_ hlt
    go_wp2_with fail
    refine (right_any _ _ _ _ _ _).mono ?_
    rintro e w1 ⟨rfl,hb1⟩
    obtain ⟨⟨b0,b1,b2,b3,b4⟩,hz1,hb2⟩:=box5 hb1 (by simp)
    have hb3:=hbl.trans (hb2.mono hbl.size)
    clear c0 c1 c2 c3 c4 hb1
    by_cases hr:rightB (gf l k)=true
    ·have hr':rightN (gf l k).at_ (gf l k).ch (gf l k).fr (gf l k).un (gf l k).me=true:=hr
     by_cases hk0:k=0
     ·subst hk0
      go_wp2_with fail
      go_quiet (fail)
      go_wp2
      go_roundw
      case rel=>exact ⟨1,by omega,rfl,below_drewN hb3 _,vld_next l 0 hlt HV.out hr (by omega)⟩
      case measure=>simp [intOf];omega
     ·have hkp:0<k:=by omega
      obtain ⟨ad',e',hab',c0,-⟩:=(hR.below hb3).at_ (k:=k-1) (by omega)
      cases e'
      by_cases hp:(gf l k).at_<(gf l (k-1)).at_
      ·go_wp2_with fail
       go_quiet (fail)
       go_wp2
       go_ret
       exact ⟨ret_int (vld_order l k hlt h60 HV.out hr hkp hp).symm,below_drewN hb3 _⟩
      ·go_wp2_with fail
       go_quiet (fail)
       go_wp2
       go_roundw
       case rel=>exact ⟨k+1,by omega,by go_num,below_drewN hb3 _,vld_next l k hlt HV.out hr (fun _=>by omega)⟩
       case measure=>simp [intOf];omega
    ·have hr':rightN (gf l k).at_ (gf l k).ch (gf l k).fr (gf l k).un (gf l k).me=false:=by simpa [rightB] using hr
     go_wp2
     go_ret
     exact ⟨ret_int (vld_wrong l k hlt h60 HV.out hr').symm,hb3⟩
   ·go_wp2
    go_ret
    exact ⟨ret_int (vld_end l k hlt h60 HV.out).symm,hbl⟩
theorem rvalidate_any (l:List Fact)(A:Option Addr)(c B:Nat)(w:World)(hR:RF w B A l)(hl:l.length≤1000000000) :
  Calls Tryz.prog 251 #[.slice A l.length c] w fun e w'=>e=.returned (.int .i64 (vld l))∧Below w.heap.size w w':=by
 go_enter Tryz.func251,Tryz.ntmps251
 by_cases h60:60<l.length
 ·go_wp2
  go_ret
  exact ⟨ret_int (by unfold vld;rw [if_pos h60]),by go_grown⟩
 ·go_wp2
  go_loopw [3] (fun i wr=>∃k:Nat,k≤l.length∧i=.int .i64 k∧Below w.heap.size w wr∧Hid (vG (-1) l=vG (prv l k) (l.drop k))) (fun i _=>l.length-(intOf i).toNat)
  case atStart=>exact ⟨0,by omega,rfl,Below.refl _ _,by rw [prv_zero];rfl⟩
  case round =>
   obtain ⟨k,hk,rfl,hbl,HV⟩:=hrel
   by_cases hlt:k<l.length
   ·obtain ⟨ad,rfl,hab,c0,c1,c2,c3,c4⟩:=(hR.below hbl).at_ hlt
    by_cases hr:rightB (gf l k)=true
    ·obtain ⟨r1,r2,r3,r4,r5,r6,r7,r8,r9⟩:=(right_iff _).1 hr
     have i1:inB (gf l k).at_ 0 1440000=true:=inB_true.2 ⟨r1,r2⟩
     have i2:inB (gf l k).ch 0 99=true:=inB_true.2 ⟨r3,r4⟩
     have i3:stretchB (gf l k).fr (gf l k).un=true:=by simp [stretchB];omega
     have i4:inB (gf l k).me 0 9=true:=inB_true.2 ⟨r8,r9⟩
     clear r1 r2 r3 r4 r5 r6 r7 r8 r9
     have hb3:=hbl.alloc hbl.size (.cells #[.int .i64 (gf l k).at_,.int .i64 (gf l k).ch,.int .i64 (gf l k).fr,.int .i64 (gf l k).un,.int .i64 (gf l k).me] 53)
     by_cases hk0:k=0
     ·have hd:decide (0<k)=false:=by simp;omega
      clear hk0
      go_wp2_with (first | (go_at_call 181;refine (within_anyO _ _ _ _).mono ?_;rintro e w' ⟨rfl,rfl⟩) | (go_at_call 268;refine (rdays_anyO _ _ _).mono ?_;rintro e w' ⟨rfl,rfl⟩))
      go_quiet (fail)
      go_wp2
      go_roundw
      case rel=>exact ⟨k+1,by omega,by go_num,below_drewN hb3 _,vld_next l k hlt HV.out hr (fun h=>by simp at hd;omega)⟩
      case measure=>simp [intOf];omega
     ·have hkp:0<k:=by omega
      obtain ⟨ad',e',hab',d0,-⟩:=(hR.below hbl).at_ (k:=k-1) (by omega)
      cases e'
      by_cases hp:(gf l k).at_<(gf l (k-1)).at_
      ·go_wp2_with (first | (go_at_call 181;refine (within_anyO _ _ _ _).mono ?_;rintro e w' ⟨rfl,rfl⟩) | (go_at_call 268;refine (rdays_anyO _ _ _).mono ?_;rintro e w' ⟨rfl,rfl⟩))
       go_quiet (fail)
       go_wp2
       go_ret
       exact ⟨ret_int (vld_order l k hlt h60 HV.out hr hkp hp).symm,below_drewN hb3 _⟩
      ·go_wp2_with (first | (go_at_call 181;refine (within_anyO _ _ _ _).mono ?_;rintro e w' ⟨rfl,rfl⟩) | (go_at_call 268;refine (rdays_anyO _ _ _).mono ?_;rintro e w' ⟨rfl,rfl⟩))
       go_quiet (fail)
       go_wp2
       go_roundw
       case rel=>exact ⟨k+1,by omega,by go_num,below_drewN hb3 _,vld_next l k hlt HV.out hr (fun _=>by omega)⟩
       case measure=>simp [intOf];omega
    ·have hr':rightB (gf l k)=false:=by simpa using hr
     have hn:¬ (inB (gf l k).at_ 0 1440000=true∧inB (gf l k).ch 0 99=true∧stretchB (gf l k).fr (gf l k).un=true∧inB (gf l k).me 0 9=true):=by
      intro hh;apply hr;rw [right_iff];simp [inB,stretchB] at hh;omega
     have HN:=Lib.hid hn;clear hn hr
     go_wp2_with (first | (go_at_call 181;refine (within_anyO _ _ _ _).mono ?_;rintro e w' ⟨rfl,rfl⟩) | (go_at_call 268;refine (rdays_anyO _ _ _).mono ?_;rintro e w' ⟨rfl,rfl⟩))
     all_goals first
      | exact absurd ⟨‹_›,‹_›,‹_›,by simpa using ‹(!inB (gf l k).me 0 9)=false›⟩ HN.out
      | (go_ret;exact ⟨ret_int (vld_wrong l k hlt h60 HV.out hr').symm,hbl.alloc hbl.size _⟩)
   ·go_wp2
    go_ret
    exact ⟨ret_int (vld_end l k hlt h60 HV.out).symm,hbl⟩
theorem asked_anyO (l:List Fact)(b:Bool)(A:Option Addr)(c B:Nat)(w:World)(hR:RF w B A l)(hl:l.length≤1000000000) :
  Calls Tryz.prog 110 #[.slice A l.length c,.bool b] w fun e w'=>e=.returned (.int .i64 (askd l b))∧Below w.heap.size w w':=by
 go_enter Tryz.func110,Tryz.ntmps110
 go_wp2_with fail
 refine (validate_any l A c B _ hR hl).mono ?_
 rintro e w1 ⟨rfl,hb1⟩
 by_cases hv:vld l=0
 ·have hv1:(vld l != 0)=false:=by simp [hv]
  have HV:=Lib.hid hv;clear hv
  cases b
  all_goals
   go_wp2
   go_ret
   exact ⟨ret_int (by simp [askd,HV.out]),hb1⟩
 ·have hv1:(vld l != 0)=true:=by simp [hv]
  have HV:=Lib.hid hv;clear hv
  go_wp2
  go_ret
  exact ⟨ret_int (by unfold askd;rw [if_pos HV.out]),hb1⟩
theorem rasked_any (l:List Fact)(child day:Int)(A:Option Addr)(c B:Nat)(w:World)(hR:RF w B A l)(hl:l.length≤1000000000) :
  Calls Tryz.prog 249 #[.slice A l.length c,.int .i64 child,.int .i64 day] w fun e w'=>e=.returned (.int .i64 (askd l (inB child 0 99 && inB day 0 999)))∧Below w.heap.size w w':=by
 go_enter Tryz.func249,Tryz.ntmps249
 go_wp2_with fail
 refine (rvalidate_any l A c B _ hR hl).mono ?_
 rintro e w1 ⟨rfl,hb1⟩
 by_cases hv:vld l=0
 ·have hv1:(vld l != 0)=false:=by simp [hv]
  have HV:=Lib.hid hv;clear hv
  by_cases h1:inB child 0 99=true
  ·by_cases h2:inB day 0 999=true
   ·go_wp2_with (go_at_call 181;refine (within_anyO _ _ _ _).mono ?_;rintro e w' ⟨rfl,rfl⟩)
    go_ret
    exact ⟨ret_int (by simp [askd,HV.out,h1,h2]),hb1⟩
   ·have h2':inB day 0 999=false:=by simpa using h2
    clear h2
    go_wp2_with (go_at_call 181;refine (within_anyO _ _ _ _).mono ?_;rintro e w' ⟨rfl,rfl⟩)
    go_ret
    exact ⟨ret_int (by simp [askd,HV.out,h1,h2']),hb1⟩
  ·have h1':inB child 0 99=false:=by simpa using h1
   clear h1
   go_wp2_with (go_at_call 181;refine (within_anyO _ _ _ _).mono ?_;rintro e w' ⟨rfl,rfl⟩)
   go_ret
   exact ⟨ret_int (by simp [askd,HV.out,h1']),hb1⟩
 ·have hv1:(vld l != 0)=true:=by simp [hv]
  have HV:=Lib.hid hv;clear hv
  go_wp2
  go_ret
  exact ⟨ret_int (by unfold askd;rw [if_pos HV.out]),hb1⟩
end Go.Proofs.YtiapkffihpgdcaaGreatDoor
