import Derived.Test.YtiapkffihpgdcaaGreatDoorQB5
import Derived.Test.YtiapkffihpgdcaaGreatDoorQB6
import Derived.Deep.RegionWith
set_option linter.unusedVariables false
set_option linter.unusedSimpArgs false
set_option maxRecDepth 100000
set_option maxHeartbeats 4000000
namespace Go.Proofs.YtiapkffihpgdcaaGreatDoor
open Go.RowKit
theorem iff_ten {b:Bk}(hb:BkOk b){i k:Nat}(hi:i<b.rules.length)(hk:k<(gRl b.rules i).iff.length):0≤gi (gRl b.rules i).iff k∧gi (gRl b.rules i).iff k<10:=by
 have h1:=isSet_at (hb.iff i hi) hk
 have h2:=hb.p10
 omega
theorem lt_ten {b:Bk}(hb:BkOk b){m:Nat}(h:m<2 ^ b.props.toNat):m<2 ^ 10:=Nat.lt_of_lt_of_le h (Nat.pow_le_pow_right (by omega) (by have:=hb.p10;omega))
theorem closure_any (b:Bk)(hb:BkOk b)(hL:BkLen b)(m0:Nat)(h0:m0<2 ^ b.props.toNat)(F:Nat→Prop)(A2:Option Addr)(c2:Nat)(hr:Nat→SlH)(w:World)(hR:RRl F w A2 b.rules hr) :
  Calls Tryz.prog 190 #[.slice A2 b.rules.length c2,.int .i64 m0,.int .i64 (-1)] w fun e w'=>e=.returned (.int .i64 (cloN b.rules m0))∧Below w.heap.size w w':=by
 have l2:=hb.r16
 go_enter Tryz.func190,Tryz.ntmps190
 go_wp2;go_step3;go_wp2;go_step3;go_wp2
 go_loopg [1] 10 (fun g m wr=>∃M:Nat,m=.int .i64 M∧Hid (Mid b.rules m0 M)∧holes M 10≤g∧Below w.heap.size w wr)
 case atStart=>exact ⟨m0,rfl,Mid.start _ _,holes_le _ _,Below.refl _ _⟩
 case round =>
  obtain ⟨G,rfl⟩:∃G,G=gk:=⟨_,rfl⟩
  obtain ⟨w1,rfl⟩:∃w1,w1=wr:=⟨_,rfl⟩
  obtain ⟨M,rfl,HM,hh,hbl⟩:=hrel
  have hM10:=lt_ten hb (mid_lt hb h0 HM.out)
  have hM:M<2 ^ 20:=by omega
  go_wp2
  go_loopg [1,13] b.rules.length (fun g2 y x wx=>∃j:Nat,j+g2=b.rules.length∧x=.int .i64 j∧y=.int .i64 M∧Hid (noneTo b.rules M j=true)∧Below w.heap.size w wx)
  case atStart=>exact ⟨0,by omega,rfl,rfl,rfl,hbl⟩
  case round =>
   clear hbl
   obtain ⟨j,hj,rfl,rfl,HJ,hbl⟩:=hrel
   have hRk:=hR.below hbl
   have hsz:=hbl.size
   cases gk with
   | zero =>
    obtain rfl:j=b.rules.length:=by omega
    have hv:=Lib.hid (cloN_is (rules_ten hb) HM.out HJ.out)
    go_wp2
    try rw [Exit.noGoto_ret]
    go_ret
    exact ⟨ret_int (by rw [← hv.out]),hbl⟩
   | succ g2 =>
    have hlt:j<b.rules.length:=by omega
    obtain ⟨ad,rfl,hab,d0,d1⟩:=hRk.at_ hlt
    obtain ⟨A3,hA3⟩:∃A3,(hr j).1=A3:=⟨_,rfl⟩
    have r0:=(hRk.iff j hlt).rn
    rw [hA3] at d0 r0
    clear hA3
    obtain ⟨w5,hw5⟩:∃w5,wr.alloc (.cells #[.slice A3 (gRl b.rules j).iff.length (hr j).2,.int .i64 (gRl b.rules j).thn] 166)=w5:=⟨_,rfl⟩
    have hb5:Below wr.heap.size wr w5:=by rw [← hw5];exact (Below.refl _ wr).alloc (Nat.le_refl _) _
    have b5:Box w5 wr.heap.size #[.slice A3 (gRl b.rules j).iff.length (hr j).2,.int .i64 (gRl b.rules j).thn]:=by rw [← hw5];exact (Box.new wr _ _)
    have u0:=b5.cell 0;have u1:=b5.cell 1;have f1:=b5.free 1
    simp only [gqA,gqB,gqC] at u0 u1
    have r1:=r0.below hb5
    have lp:=hL.iff j hlt
    have s5:=b5.lt
    have hk5:=hbl.trans (hb5.mono hsz)
    obtain ⟨t0,t1⟩:=rules_ten hb j hlt
    go_wp2
    go_loopg [20] (gRl b.rules j).iff.length (fun g3 x wx=>∃p:Nat,p+g3=(gRl b.rules j).iff.length∧x=.int .i64 p∧Hid (allTo (gRl b.rules j).iff M p=true)∧wx=w5)
    case atStart=>exact ⟨0,by omega,rfl,rfl,rfl⟩
    case round =>
     obtain ⟨g3,rfl⟩:∃g3,g3=gk:=⟨_,rfl⟩
     obtain ⟨p,hp,rfl,HP,rfl⟩:=hrel
     cases g3 with
     | zero =>
      obtain rfl:p=(gRl b.rules j).iff.length:=by omega
      have hti:=test_all (gRl b.rules j).thn.toNat
      have htn:=test_not (gRl b.rules j).thn.toNat hM
      cases hq:M.testBit (gRl b.rules j).thn.toNat with
      | true =>
       rw [hq] at htn
       simp only [Bool.not_true] at htn
       have HN:Hid (noneTo b.rules M (j+1)=true):=by
        show noneTo b.rules M (j+1)=true
        have h1:newR (gRl b.rules j) M=false:=by unfold newR;rw [hq];simp
        simp [noneTo,HJ.out,h1]
       clear hq
       go_wp2
       go_roundg g2
       case measure=>omega
       case rel=>exact ⟨j+1,by omega,by go_num,rfl,HN,hk5⟩
      | false =>
       rw [hq] at htn
       simp only [Bool.not_false] at htn
       have hlt2:=holes_lt M (n:=10) (x:=(gRl b.rules j).thn) (by omega) hq
       obtain ⟨G',rfl⟩:∃G',G=G' + 1:=⟨G-1,by omega⟩
       have HO:=Lib.hid (or_bit hM t0 (by omega:(gRl b.rules j).thn<20))
       have HN:=Lib.hid (HM.out.step hlt HP.out)
       clear hq
       go_wp2
       go_roundg G'
       case measure=>omega
       case rel=>exact ⟨_,congrArg _ HO.out,HN,by omega,hk5⟩
     | succ g3 =>
      have hpl:p<(gRl b.rules j).iff.length:=by omega
      obtain ⟨ad2,rfl,hab2,c0⟩:=r1.at_ hpl
      obtain ⟨x0,x1⟩:=iff_ten hb hlt hpl
      have ht:=test_not (gi (gRl b.rules j).iff p).toNat hM
      cases hq:M.testBit (gi (gRl b.rules j).iff p).toNat with
      | true =>
       rw [hq] at ht
       simp only [Bool.not_true] at ht
       have HN:Hid (allTo (gRl b.rules j).iff M (p+1)=true):=by
        show allTo (gRl b.rules j).iff M (p+1)=true
        simp [allTo,HP.out,hq]
       clear hq
       go_wp2
       go_roundg g3
       case measure=>omega
       case rel=>exact ⟨p+1,by omega,by go_num,HN,rfl⟩
      | false =>
       rw [hq] at ht
       simp only [Bool.not_false] at ht
       have HN:Hid (noneTo b.rules M (j+1)=true):=by
        show noneTo b.rules M (j+1)=true
        have h1:newR (gRl b.rules j) M=false:=by unfold newR allIn;rw [allTo_bad _ _ hq hpl];rfl
        simp [noneTo,HJ.out,h1]
       clear hq
       go_wp2
       go_roundg g2
       case measure=>omega
       case rel=>exact ⟨j+1,by omega,by go_num,rfl,HN,hk5.setCell (by exact hsz) _⟩
def hasL (b:Bk)(l:List Int):Nat→Nat
 | 0=>0
 | k+1=>hasL b l k ||| maskN (gIt b.items (gi l k).toNat).has
theorem hasL_test (b:Bk)(l:List Int)(k p:Nat):(hasL b l k).testBit p=true ↔ ∃i,i<k∧(maskN (gIt b.items (gi l i).toNat).has).testBit p=true:=by
 induction k with
 | zero=>simp [hasL]
 | succ k ih =>
  simp only [hasL,Nat.testBit_or,Bool.or_eq_true,ih]
  constructor
  ·rintro (⟨i,hi,h⟩ | h)
   ·exact ⟨i,by omega,h⟩
   ·exact ⟨k,by omega,h⟩
  ·rintro ⟨i,hi,h⟩
   by_cases e:i=k
   ·subst e;exact .inr h
   ·exact .inl ⟨i,by omega,h⟩
theorem basTo_test (l:List It)(m n p:Nat):(basTo l m n).testBit p=true ↔ ∃i,i<n∧m.testBit i=true∧(maskN (gIt l i).has).testBit p=true:=by
 induction n with
 | zero=>simp [basTo]
 | succ n ih =>
  simp only [basTo]
  constructor
  ·intro h
   split at h
   ·rename_i hm
    rw [Nat.testBit_or,Bool.or_eq_true,ih] at h
    rcases h with ⟨i,h1,h2,h3⟩ | h
    ·exact ⟨i,by omega,h2,h3⟩
    ·exact ⟨n,by omega,hm,h⟩
   ·rw [ih] at h
    obtain ⟨i,h1,h2,h3⟩:=h
    exact ⟨i,by omega,h2,h3⟩
  ·rintro ⟨i,h1,h2,h3⟩
   by_cases e:i=n
   ·subst e
    rw [if_pos h2,Nat.testBit_or,h3,Bool.or_true]
   ·have:=ih.2 ⟨i,by omega,h2,h3⟩
    split
    ·rw [Nat.testBit_or,this,Bool.true_or]
    ·exact this
theorem hasL_all {b:Bk}(hb:BkOk b){i:Nat}(hi:i<b.items.length):hasL b (bitsL (conN b.items i)) (bitsL (conN b.items i)).length=basN b i:=by
 have hlt:=conN_lt hb hi
 have h20:=hb.i20
 apply Nat.eq_of_testBit_eq
 intro p
 rw [Bool.eq_iff_iff,hasL_test]
 unfold basN
 rw [basTo_test]
 constructor
 ·rintro ⟨j,hj,h⟩
  obtain ⟨g0,g1,g2⟩:=bitsL_at _ hj
  refine ⟨(gi (bitsL (conN b.items i)) j).toNat,?_,g2,h⟩
  by_cases hh:(gi (bitsL (conN b.items i)) j).toNat<b.items.length
  ·exact hh
  ·rw [Nat.testBit_lt_two_pow (Nat.lt_of_lt_of_le hlt (Nat.pow_le_pow_right (by omega) (by omega)))] at g2
   cases g2
 ·rintro ⟨j,hj,h2,h3⟩
  have hm:(j:Int) ∈ bitsL (conN b.items i):=(bitsTo_mem _ _ _).2 ⟨j,by omega,h2,rfl⟩
  obtain ⟨k,hk,he⟩:=List.mem_iff_getElem.1 hm
  rw [gi_getElem] at he
  exact ⟨k,hk,by rw [he];simpa using h3⟩
theorem hasL_lt {b:Bk}(hb:BkOk b){l:List Int}(hl:∀j,j<l.length→(gi l j).toNat<b.items.length):∀k,k≤l.length→hasL b l k<2 ^ 10
 | 0,_=>by simp [hasL]
 | k+1,hk=>by
  simp only [hasL]
  exact or_lt (hasL_lt hb hl k (by omega)) (Nat.lt_of_lt_of_le (has_lt hb (hl k (by omega))) (Nat.pow_le_pow_right (by omega) (by have:=hb.p10;omega)))
theorem base_any (b:Bk)(hb:BkOk b)(hL:BkLen b)(i:Nat)(hi:i<b.items.length)(F:Nat→Prop)(A1 A2:Option Addr)(c1 c2:Nat)(hp hq hr:Nat→SlH)(w:World)(hE:EnvZ w)(hR:RBk F w A1 A2 b hp hq hr) :
  Calls Tryz.prog 191 #[.agg #[.int .i64 b.props,.slice A1 b.items.length c1,.slice A2 b.rules.length c2],.int .i64 i] w fun e w'=>e=.returned (.int .i64 (basN b i))∧Below w.heap.size w w':=by
 obtain ⟨w2,hw2⟩:∃w2,(w.alloc (.cells #[.int .i64 b.props,.slice A1 b.items.length c1,.slice A2 b.rules.length c2] 30))=w2:=⟨_,rfl⟩
 have hy:Below w.heap.size w w2:=by rw [← hw2];exact (Below.refl _ w).alloc (Nat.le_refl _) _
 have bx:Box w2 w.heap.size #[.int .i64 b.props,.slice A1 b.items.length c1,.slice A2 b.rules.length c2]:=by rw [← hw2];exact (Box.new w _ _)
 have x0:=bx.cell 0;have x1:=bx.cell 1;have x2:=bx.cell 2
 simp only [gqA,gqB,gqC] at x0 x1 x2
 have hR2:=hR.below hy
 have hE2:=hE.below hy
 have h20:=hb.i20
 have hcl:=conN_lt hb hi
 have hc20:conN b.items i<2 ^ 20:=Nat.lt_of_lt_of_le hcl (Nat.pow_le_pow_right (by omega) h20)
 have hall:=Lib.hid (hasL_all hb hi)
 obtain ⟨L,hLL⟩:∃L,bitsL (conN b.items i)=L:=⟨_,rfl⟩
 have hLn:∀j,j<L.length→0≤gi L j∧(gi L j).toNat<b.items.length:=fun j hj=>by
  subst hLL
  obtain ⟨g0,g1,g2⟩:=bitsL_at _ hj
  refine ⟨g0,?_⟩
  by_cases hh:(gi (bitsL (conN b.items i)) j).toNat<b.items.length
  ·exact hh
  ·rw [Nat.testBit_lt_two_pow (Nat.lt_of_lt_of_le hcl (Nat.pow_le_pow_right (by omega) (by omega)))] at g2
   cases g2
 have hLl:L.length≤20:=by rw [← hLL];exact bitsL_len _
 go_enter Tryz.func191,Tryz.ntmps191
 go_wp2_with (first
  | (go_at_call 261;(with_reducible refine (contained_any b hb i hi F A1 A2 c1 c2 hp hq hr _ hR2).mono ?_);rintro e w3 ⟨rfl,hb3⟩;have hE3:=hE2.below hb3)
  | (go_at_call 121;(with_reducible refine (list_any (conN b.items i) hc20 _ hE3).mono ?_);rintro e w4 ⟨A',c',rfl,own,hb4⟩;have hb24:=hb3.trans (hb4.mono hb3.size);have bx4:=bx.below hb24;have hR4:=hR2.below hb24))
 rw [hLL] at own
 rw [hLL] at hall
 have y1:=bx4.cell 1
 simp only [gqA,gqB,gqC] at y1
 have hRL:=RN.of_own own
 clear x0 x1 x2
 go_wp2
 go_loop [5,13] (fun m x=>∃k:Nat,k≤L.length∧x=.int .i64 k∧m=.int .i64 (hasL b L k:Nat)) (fun _ x=>L.length-(intOf x).toNat)
 case atStart=>exact ⟨0,by omega,rfl,rfl⟩
 case round =>
  obtain ⟨k,hk,rfl,rfl⟩:=hrel
  by_cases hlt:k<L.length
  ·obtain ⟨ad,rfl,hab,c0⟩:=hRL.at_ hlt
   obtain ⟨n0,n1⟩:=hLn k hlt
   obtain ⟨x,hx⟩:∃x:Nat,gi L k=(x:Int):=⟨(gi L k).toNat,by omega⟩
   have hxt:(gi L k).toNat=x:=by omega
   rw [hxt] at n1
   rw [hx] at c0
   obtain ⟨ad2,rfl,hab2,d0,d1⟩:=hR4.it.at_ n1
   have r1:=(hR4.it.has x n1).rn
   have hm:hasL b L k<2 ^ 20:=Nat.lt_of_lt_of_le (hasL_lt hb (fun j hj=>(hLn j hj).2) k hk) (by decide)
   have hpr:maskN (gIt b.items x).has<2 ^ 20:=Nat.lt_of_lt_of_le (has_lt hb n1) (Nat.pow_le_pow_right (by omega) (by have:=hb.p10;omega))
   have hpe:∀j,j<(gIt b.items x).has.length→0≤gi (gIt b.items x).has j∧gi (gIt b.items x).has j<20:=fun j hj=>by have:=isSet_at (hb.has x n1) hj;have:=hb.p10;omega
   have lh:=hL.has x n1
   have lh2:(gIt b.items x).has.length≤1000000:=by have:=isSet_len (hb.has x n1) (by have:=hb.p0;omega);have:=hb.p10;omega
   have HO:=Lib.hid (or_mask hm hpr)
   have HS:Hid (hasL b L (k+1)=hasL b L k ||| maskN (gIt b.items x).has):=by show hasL b L (k+1)=_;simp only [hasL];rw [hxt]
   clear hx hxt
   go_wp2_with (go_at_call 262;(with_reducible refine (mask_any _ hpe lh2 _ _ _ r1).mono ?_);rintro e w' ⟨rfl,rfl⟩)
   go_round
   case rel=>exact ⟨k+1,by omega,by go_num,by rw [HS.out];exact congrArg _ HO.out⟩
   case measure=>simp [intOf];omega
  ·obtain rfl:k=L.length:=by omega
   go_wp2
   go_ret
   exact ⟨ret_int (by rw [hall.out]),hy.trans (hb24.mono hy.size)⟩
theorem named_any (b:Bk)(hL:BkLen b)(i:Int)(F:Nat→Prop)(A1 A2:Option Addr)(c1 c2:Nat)(hp hq hr:Nat→SlH)(w:World)(hR:RBk F w A1 A2 b hp hq hr) :
  Calls Tryz.prog 120 #[.agg #[.int .i64 b.props,.slice A1 b.items.length c1,.slice A2 b.rules.length c2],.int .i64 i] w fun e w'=>e=.returned (.int .i64 (nmE b i))∧Below w.heap.size w w':=by
 obtain ⟨S,hS⟩:∃S,S=nmE b i:=⟨_,rfl⟩
 rw [← hS]
 have HS:=Lib.hid hS;clear hS
 obtain ⟨w2,hw2⟩:∃w2,(w.alloc (.cells #[.int .i64 b.props,.slice A1 b.items.length c1,.slice A2 b.rules.length c2] 30))=w2:=⟨_,rfl⟩
 have hy:Below w.heap.size w w2:=by rw [← hw2];exact (Below.refl _ w).alloc (Nat.le_refl _) _
 have bx:Box w2 w.heap.size #[.int .i64 b.props,.slice A1 b.items.length c1,.slice A2 b.rules.length c2]:=by rw [← hw2];exact (Box.new w _ _)
 have x0:=bx.cell 0;have x1:=bx.cell 1;have x2:=bx.cell 2
 simp only [gqA,gqB,gqC] at x0 x1 x2
 have hR2:=hR.below hy
 have l1:=hL.it;have l2:=hL.rl
 have hsw:w.heap.size<w2.heap.size:=bx.lt
 by_cases hv:bkE b=0
 ·have hb0:(bkE b != 0)=false:=by simp [hv]
  have hE:S=if inB i 0 ((b.items.length:Int)-1) then 0 else 5:=by rw [HS.out];unfold nmE;rw [if_neg (by rw [hv];decide)]
  have HE:=Lib.hid hE
  clear hE HS hv
  by_cases p0:0≤i
  ·by_cases p1:i<b.items.length
   all_goals
    go_enter Tryz.func120,Tryz.ntmps120
    go_wp2_with (go_at_call 67;(with_reducible refine (validBk_any b hL F A1 A2 c1 c2 hp hq hr _ hR2).mono ?_);rintro e w3 ⟨rfl,hb3⟩;have z1:=(bx.below hb3).cell 1;simp only [gqA,gqB,gqC] at z1;have hs3:=hb3.size;clear x0 x1 x2)
    go_ret
    refine ⟨ret_int ?_,hy.trans (hb3.mono hy.size)⟩
    rw [HE.out];first | rw [inB_true.2 (by omega)];rfl | rw [inB_false.2 (by omega)];rfl
  ·go_enter Tryz.func120,Tryz.ntmps120
   go_wp2_with (go_at_call 67;(with_reducible refine (validBk_any b hL F A1 A2 c1 c2 hp hq hr _ hR2).mono ?_);rintro e w3 ⟨rfl,hb3⟩;have z1:=(bx.below hb3).cell 1;simp only [gqA,gqB,gqC] at z1;have hs3:=hb3.size;clear x0 x1 x2)
   go_ret
   refine ⟨ret_int ?_,hy.trans (hb3.mono hy.size)⟩
   rw [HE.out,inB_false.2 (by omega)];rfl
 ·have hb0:(bkE b != 0)=true:=by simp [hv]
  have hE:S=bkE b:=by rw [HS.out];unfold nmE;rw [if_pos hv]
  have HE:=Lib.hid hE
  clear hE HS hv
  go_enter Tryz.func120,Tryz.ntmps120
  go_wp2_with (go_at_call 67;(with_reducible refine (validBk_any b hL F A1 A2 c1 c2 hp hq hr _ hR2).mono ?_);rintro e w3 ⟨rfl,hb3⟩)
  go_ret
  exact ⟨ret_int (by rw [HE.out]),hy.trans (hb3.mono hy.size)⟩
theorem label_any (b:Bk)(hb:BkOk b)(hL:BkLen b)(i:Nat)(hi:i<b.items.length)(F:Nat→Prop)(A1 A2:Option Addr)(c1 c2:Nat)(hp hq hr:Nat→SlH)(w:World)(hE:EnvZ w)(hR:RBk F w A1 A2 b hp hq hr) :
  Calls Tryz.prog 122 #[.agg #[.int .i64 b.props,.slice A1 b.items.length c1,.slice A2 b.rules.length c2],.int .i64 i] w fun e w'=>e=.returned (.int .i64 (labN b i))∧Below w.heap.size w w':=by
 obtain ⟨w2,hw2⟩:∃w2,(w.alloc (.cells #[.int .i64 b.props,.slice A1 b.items.length c1,.slice A2 b.rules.length c2] 30))=w2:=⟨_,rfl⟩
 have hy:Below w.heap.size w w2:=by rw [← hw2];exact (Below.refl _ w).alloc (Nat.le_refl _) _
 have bx:Box w2 w.heap.size #[.int .i64 b.props,.slice A1 b.items.length c1,.slice A2 b.rules.length c2]:=by rw [← hw2];exact (Box.new w _ _)
 have x0:=bx.cell 0;have x1:=bx.cell 1;have x2:=bx.cell 2
 simp only [gqA,gqB,gqC] at x0 x1 x2
 have hR2:RBk F w2.drew A1 A2 b hp hq hr:=(hR.below hy).below (Below.refl _ _).drew
 have hE2:EnvZ w2.drew:=(hE.below hy).below (Below.refl _ _).drew
 have hsw:w.heap.size<w2.heap.size:=bx.lt
 have hbl:=basN_lt hb i
 go_enter Tryz.func122,Tryz.ntmps122
 go_wp2_with fail
 go_region_held3 (fun w'=>w'.cell? ⟨w.heap.size,0,none⟩=some (.int .i64 b.props)∧w'.cell? ⟨w.heap.size,1,none⟩=some (.slice A1 b.items.length c1)∧w'.cell? ⟨w.heap.size,2,none⟩=some (.slice A2 b.rules.length c2))
  (first | go_keep | (go_split_ands;refine ⟨?_,?_,?_⟩ <;> (rw [hb3.cell (by first | omega | (simp;omega))];go_keep)) | (go_split_ands;refine ⟨?_,?_,?_⟩ <;> (rw [hb4.cell (by first | omega | (simp;omega))];go_keep)))
  (first | (go_at_call 191;(with_reducible refine (base_any b hb hL i hi F A1 A2 c1 c2 hp hq hr _ hE2 hR2).mono ?_);rintro e w3 ⟨rfl,hb3⟩;have hs3:w2.heap.size≤w3.heap.size:=hb3.size) | (go_at_call 190;(with_reducible refine (closure_any b hb hL _ hbl F A2 c2 hr _ (hR2.rl.below hb3)).mono ?_);rintro e w4 ⟨rfl,hb4⟩;have hs4:w3.heap.size≤w4.heap.size:=hb4.size))
 all_goals
  go_wp2_with fail
  go_ret
  exact ⟨rfl,hy.trans (((Below.refl w2.heap.size w2).drew.trans (hb3.trans (hb4.mono hs3))).mono hy.size)⟩
theorem Label_any (b:Bk)(hL:BkLen b)(i:Int)(F:Nat→Prop)(A1 A2:Option Addr)(c1 c2:Nat)(hp hq hr:Nat→SlH)(w:World)(hE:EnvZ w)(hR:RBk F w A1 A2 b hp hq hr) :
  Calls Tryz.prog 48 #[.agg #[.int .i64 b.props,.slice A1 b.items.length c1,.slice A2 b.rules.length c2],.int .i64 i] w fun e w'=>∃A' c',e=.returned (.tuple #[.slice A' (labR b i).length c',.int .i64 (nmE b i)])∧OwnN w' w.heap.size A' c' (labR b i)∧Below w.heap.size w w':=by
 obtain ⟨w2,hw2⟩:∃w2,(w.alloc (.cells #[.int .i64 b.props,.slice A1 b.items.length c1,.slice A2 b.rules.length c2] 30))=w2:=⟨_,rfl⟩
 have hy:Below w.heap.size w w2:=by rw [← hw2];exact (Below.refl _ w).alloc (Nat.le_refl _) _
 have bx:Box w2 w.heap.size #[.int .i64 b.props,.slice A1 b.items.length c1,.slice A2 b.rules.length c2]:=by rw [← hw2];exact (Box.new w _ _)
 have x0:=bx.cell 0;have x1:=bx.cell 1;have x2:=bx.cell 2
 simp only [gqA,gqB,gqC] at x0 x1 x2
 have hR2:=hR.below hy
 have hE2:=hE.below hy
 have hsw:w.heap.size<w2.heap.size:=bx.lt
 by_cases hv:nmE b i=0
 ·obtain ⟨hb,i0,i1⟩:=nmE_ok hv
  obtain ⟨n,rfl⟩:∃n:Nat,i=n:=⟨i.toNat,by omega⟩
  have hn:n<b.items.length:=by omega
  have hl:labR b n=bitsL (labN b n):=by unfold labR;rw [if_pos hv];rfl
  have hlt:labN b n<2 ^ 20:=by have:=lt_ten hb (labN_lt hb n);omega
  rw [hl,hv]
  clear hl
  have HV:=Lib.hid hv;clear hv
  go_enter Tryz.func48,Tryz.ntmps48
  go_wp2_with (first
   | (go_at_call 120;(with_reducible refine (named_any b hL n F A1 A2 c1 c2 hp hq hr _ hR2).mono ?_);rintro e w3 ⟨rfl,hb3⟩;rw [HV.out];have z0:=(bx.below hb3).cell 0;have z1:=(bx.below hb3).cell 1;have z2:=(bx.below hb3).cell 2;simp only [gqA,gqB,gqC] at z0 z1 z2;have hs3:=hb3.size;have hR3:=hR2.below hb3;have hE3:=hE2.below hb3;clear x0 x1 x2)
   | (go_at_call 122;(with_reducible refine (label_any b hb hL n hn F A1 A2 c1 c2 hp hq hr _ hE3 hR3).mono ?_);rintro e w4 ⟨rfl,hb4⟩;have hs4:=hb4.size;have hE4:=hE3.below hb4)
   | (go_at_call 121;(with_reducible refine (list_any _ hlt _ hE4).mono ?_);rintro e w5 ⟨A',c',rfl,own,hb5⟩))
  go_ret2
  exact ⟨A',c',rfl,own_base own (by omega),hy.trans ((hb3.trans ((hb4.trans (hb5.mono hs4)).mono hs3)).mono hy.size)⟩
 ·have hb0:(nmE b i != 0)=true:=by simp [hv]
  have hl:labR b i=[]:=by unfold labR;rw [if_neg hv]
  rw [hl]
  clear hl hv
  go_enter Tryz.func48,Tryz.ntmps48
  go_wp2_with (go_at_call 120;(with_reducible refine (named_any b hL i F A1 A2 c1 c2 hp hq hr _ hR2).mono ?_);rintro e w3 ⟨rfl,hb3⟩)
  go_ret2
  exact ⟨none,0,rfl,World.ownsRow_nil _ _ _ _,hy.trans (hb3.mono hy.size)⟩
end Go.Proofs.YtiapkffihpgdcaaGreatDoor
namespace Go.Proofs.YtiapkffihpgdcaaGreatDoor
theorem digTo_iff (w:Wd)(k:Nat):digTo w k=true ↔ ∀i,i<k→digB (gb w i)=true:=by
 induction k with
 | zero=>simp [digTo]
 | succ k ih =>
  simp only [digTo,Bool.and_eq_true,ih]
  constructor
  ·rintro ⟨h1,h2⟩ i hi
   by_cases e:i=k
   ·subst e;exact h2
   ·exact h1 i (by omega)
  ·intro h;exact ⟨fun i hi=>h i (by omega),h k (by omega)⟩
theorem letTo_iff (w:Wd)(k:Nat):letTo w k=true ↔ ∀i,i<k→(lowB (gb w i) || digB (gb w i))=true:=by
 induction k with
 | zero=>simp [letTo]
 | succ k ih =>
  simp only [letTo,Bool.and_eq_true,ih]
  constructor
  ·rintro ⟨h1,h2⟩ i hi
   by_cases e:i=k
   ·subst e;exact h2
   ·exact h1 i (by omega)
  ·intro h;exact ⟨fun i hi=>h i (by omega),h k (by omega)⟩
theorem numsTo_iff (ws:List Wd)(k:Nat):numsTo ws k=true ↔ ∀i,i<k→numOk (ws.getD i [])=true:=by
 induction k with
 | zero=>simp [numsTo]
 | succ k ih =>
  simp only [numsTo,Bool.and_eq_true,ih]
  constructor
  ·rintro ⟨h1,h2⟩ i hi
   by_cases e:i=k
   ·subst e;exact h2
   ·exact h1 i (by omega)
  ·intro h;exact ⟨fun i hi=>h i (by omega),h k (by omega)⟩
theorem numTo'_lt {w:Wd}{k:Nat}(h:digTo w k=true):numTo' w k<10 ^ k:=by
 induction k with
 | zero=>simp [numTo']
 | succ k ih =>
  simp only [digTo,Bool.and_eq_true] at h
  have h1:=ih h.1
  have h2:(gb w k).toNat≤57:=by have:=h.2;unfold digB at this;rw [decide_eq_true_eq] at this;exact this.2
  simp only [numTo']
  rw [Nat.pow_succ]
  omega
theorem numV_bd (w:Wd)(h:numOk w=true):0≤numV w∧numV w≤2000000:=by
 unfold numOk at h
 rw [Bool.and_eq_true,Bool.and_eq_true,decide_eq_true_eq] at h
 unfold numV
 rw [h.1,h.2.1]
 simp only [Bool.and_self,if_true]
 omega
structure RqOk (r:Rq):Prop where
 k0:0≤r.kind
 k7:r.kind≤7
 nums:∀k,k<r.nums.length→0≤gi r.nums k∧gi r.nums k≤2000000
 len1:r.kind≤2→1≤r.nums.length
 one:r.kind≤1→r.nums.length=1
 three:3≤r.kind→r.kind≤5→r.nums.length=3
 two:6≤r.kind→r.nums.length=2
 name:r.kind=1→letB r.name=true
theorem rqN_some {f:Fm}{name:Wd}{ws:List Wd}{r:Rq}(h:rqN f name ws=some r):r=⟨f.kind,name,ws.map numV⟩∧fitB f ws.length=true∧numsTo ws ws.length=true:=by
 unfold rqN at h
 cases h1:fitB f ws.length with
 | false=>rw [h1] at h;cases h
 | true =>
  cases h2:numsTo ws ws.length with
  | false=>rw [h1,h2] at h;cases h
  | true=>rw [h1,h2] at h;cases h;exact ⟨rfl,rfl,rfl⟩
theorem gi_map (ws:List Wd)(k:Nat)(hk:k<ws.length):gi (ws.map numV) k=numV (ws.getD k []):=by simp [gi,hk]
theorem nums_bd {ws:List Wd}(h:numsTo ws ws.length=true):∀k,k<(ws.map numV).length→0≤gi (ws.map numV) k∧gi (ws.map numV) k≤2000000:=fun k hk=>by
 have hk':k<ws.length:=by simpa using hk
 rw [gi_map ws k hk']
 exact numV_bd _ ((numsTo_iff _ _).1 h k hk')
theorem fmOf_some {w:Wd}{f:Fm}(h:fmOf w=some f):f=⟨0,false,1,false⟩∨f=⟨1,true,1,false⟩∨f=⟨2,false,1,true⟩∨f=⟨3,false,3,false⟩∨f=⟨4,false,3,false⟩∨f=⟨5,false,3,false⟩∨f=⟨6,false,2,false⟩∨f=⟨7,false,2,false⟩:=by
 unfold fmOf at h
 by_cases h0:w=wAt
 ·rw [if_pos h0] at h;cases h;simp
 rw [if_neg h0] at h
 by_cases h1:w=wDish
 ·rw [if_pos h1] at h;cases h;simp
 rw [if_neg h1] at h
 by_cases h2:w=wChild
 ·rw [if_pos h2] at h;cases h;simp
 rw [if_neg h2] at h
 by_cases h3:w=wOrder
 ·rw [if_pos h3] at h;cases h;simp
 rw [if_neg h3] at h
 by_cases h4:w=wCancel
 ·rw [if_pos h4] at h;cases h;simp
 rw [if_neg h4] at h
 by_cases h5:w=wFree
 ·rw [if_pos h5] at h;cases h;simp
 rw [if_neg h5] at h
 by_cases h6:w=wCook
 ·rw [if_pos h6] at h;cases h;simp
 rw [if_neg h6] at h
 by_cases h7:w=wEat
 ·rw [if_pos h7] at h;cases h;simp
 rw [if_neg h7] at h
 cases h
theorem rqOk_of {f:Fm}{name:Wd}{ws:List Wd}{r:Rq}{w:Wd}(hf:fmOf w=some f)(h:rqN f name ws=some r)(hn:f.name=true→letB name=true):RqOk r:=by
 obtain ⟨rfl,h1,h2⟩:=rqN_some h
 have hb:=nums_bd h2
 unfold fitB at h1
 rw [decide_eq_true_eq] at h1
 rcases fmOf_some hf with rfl | rfl | rfl | rfl | rfl | rfl | rfl | rfl <;> simp at h1 hn <;> exact ⟨by simp,by simp,hb,by simp;try omega,by simp;try omega,by simp;try omega,by simp;try omega,by simp;try exact hn⟩
theorem prs_ok {s:Wd}{r:Rq}(h:prs s=some r):RqOk r∧s.length≤60:=by
 unfold prs at h
 cases hf:fmOf (hd (wds s)) with
 | none=>rw [hf] at h;cases h
 | some f =>
  rw [hf] at h
  simp only at h
  by_cases h60:60<s.length
  ·rw [if_pos h60] at h;cases h
  ·rw [if_neg h60] at h
   refine ⟨?_,by omega⟩
   cases hn:f.name with
   | false=>rw [hn] at h;simp only [Bool.false_eq_true,if_false] at h;exact rqOk_of hf h (by rw [hn];intro h;cases h)
   | true =>
    rw [hn] at h
    simp only [if_true] at h
    by_cases he:(wds s).tail=[]
    ·rw [if_pos he] at h;cases h
    ·rw [if_neg he] at h
     cases hl:letB (hd (wds s).tail) with
     | false=>rw [hl] at h;cases h
     | true=>rw [hl] at h;simp only [if_true] at h;exact rqOk_of hf h (fun _=>hl)
theorem gf_old (l:List Fact)(f:Fact){i:Nat}(h:i<l.length):gf (l ++ [f]) i=gf l i:=by simp [gf,List.getElem?_append_left h]
theorem gf_new (l:List Fact)(f:Fact):gf (l ++ [f]) l.length=f:=by simp [gf]
theorem rsnTo_snoc (l:List Fact)(f:Fact)(t c d:Int):rsnTo (l ++ [f]) t c d l.length=rsnTo l t c d l.length:=rsnTo_congr _ _ _ _ _ _ fun i hi=>gf_old l f hi
theorem knw_hit {l:List Fact}{f:Fact}{t c d:Int}(h:hit f t c d=true):knw (l ++ [f]) t c d=f.me:=by
 have hr:rsn (l ++ [f]) t c d=(l.length:Int):=by
  unfold rsn
  rw [List.length_append,List.length_singleton]
  exact rsnTo_hit _ _ _ _ _ (by rw [gf_new];exact h)
 unfold knw fMe
 rw [hr,if_neg (by omega),Int.toNat_natCast,gf_new]
theorem knw_miss {l:List Fact}{f:Fact}{t c d:Int}(h:hit f t c d=false):knw (l ++ [f]) t c d=knw l t c d:=by
 have hr:rsn (l ++ [f]) t c d=rsn l t c d:=by
  unfold rsn
  rw [List.length_append,List.length_singleton,rsnTo_miss _ _ _ _ _ (by rw [gf_new];exact h),rsnTo_snoc]
 unfold knw
 rw [hr]
 unfold fMe
 have hb:=rsnTo_bd l t c d l.length
 split
 ·rfl
 ·rw [gf_old l f (by unfold rsn at *;omega)]
theorem hit_late {f:Fact}{t t' c d:Int}(h:f.at_≤t)(h':f.at_≤t'):hit f t c d=hit f t' c d:=by
 unfold hit;rw [decide_eq_true h,decide_eq_true h']
theorem rsnTo_late {l:List Fact}{t t' c d:Int}(k:Nat)(h:∀i,i<k→(gf l i).at_≤t∧(gf l i).at_≤t'):rsnTo l t c d k=rsnTo l t' c d k:=by
 induction k with
 | zero=>rfl
 | succ k ih=>simp only [rsnTo];rw [ih fun i hi=>h i (by omega),hit_late (h k (by omega)).1 (h k (by omega)).2]
theorem knw_late {l:List Fact}{t t' c d:Int}(h:∀i,i<l.length→(gf l i).at_≤t)(h':∀i,i<l.length→(gf l i).at_≤t'):knw l t c d=knw l t' c d:=by
 unfold knw rsn
 rw [rsnTo_late l.length fun i hi=>⟨h i hi,h' i hi⟩]
theorem knw_none {l:List Fact}{t c d:Int}(h:∀i,i<l.length→(gf l i).ch≠c):knw l t c d=0 :=
 knw_of_hits (fun i hi hh=>by
  unfold hit at hh
  rw [Bool.and_eq_true,covB_iff] at hh
  exact absurd hh.2.1 (h i hi)) (.inr rfl)
theorem gk_mem {l:List Kd}{k:Nat}(h:k<l.length):gk l k ∈ l:=by unfold gk;rw [List.getD_eq_getElem?_getD,List.getElem?_eq_getElem h];exact List.getElem_mem h
theorem gk_of_mem {l:List Kd}{x:Kd}(h:x ∈ l):∃k,k<l.length∧gk l k=x:=by
 obtain ⟨k,hk,e⟩:=List.mem_iff_getElem.1 h
 exact ⟨k,hk,by unfold gk;rw [List.getD_eq_getElem?_getD,List.getElem?_eq_getElem hk];exact e⟩
theorem hasK_iff (l:List Kd)(n:Int):hasK l n=true ↔ ∃x ∈ l,x.num=n:=by
 unfold hasK kidTo
 rw [anyTo_iff]
 constructor
 ·rintro ⟨i,hi,h⟩;exact ⟨gk l i,gk_mem hi,by simpa using h⟩
 ·rintro ⟨x,hx,e⟩
  obtain ⟨k,hk,rfl⟩:=gk_of_mem hx
  exact ⟨k,hk,by simpa using e⟩
theorem kidOf_mem {l:List Kd}{n:Int}(h:hasK l n=true):kidOf l n ∈ l∧(kidOf l n).num=n:=by
 obtain ⟨x,hx,e⟩:=(hasK_iff l n).1 h
 unfold kidOf
 cases hf:l.find? fun x=>x.num == n with
 | none=>have:=List.find?_eq_none.1 hf x hx;simp [e] at this
 | some y =>
  have h1:=List.mem_of_find?_eq_some hf
  have h2:=List.find?_some hf
  exact ⟨h1,by simpa using h2⟩
theorem insK_mem (l:List Kd)(c x:Kd):x ∈ insK l c ↔ x=c∨x ∈ l:=by
 unfold insK
 rw [List.mem_append,List.mem_cons]
 have:=List.takeWhile_append_dropWhile (p:=fun x:Kd=>decide (x.num≤c.num)) (l:=l)
 constructor
 ·rintro (h | h | h)
  ·right;rw [← this];exact List.mem_append_left _ h
  ·exact .inl h
  ·right;rw [← this];exact List.mem_append_right _ h
 ·rintro (h | h)
  ·exact .inr (.inl h)
  ·rw [← this,List.mem_append] at h
   rcases h with h | h
   ·exact .inl h
   ·exact .inr (.inr h)
theorem dropW_gt {l:List Kd}{n:Int}(hs:l.Pairwise fun a b=>a.num<b.num):∀x ∈ l.dropWhile (fun x=>decide (x.num≤n)),n<x.num:=by
 induction l with
 | nil=>simp
 | cons a l ih =>
  intro x hx
  rw [List.dropWhile_cons] at hx
  rw [List.pairwise_cons] at hs
  split at hx
  ·exact ih hs.2 x hx
  ·rename_i h
   have h1:n<a.num:=by simpa using h
   rcases List.mem_cons.1 hx with rfl | h2
   ·exact h1
   ·have:=hs.1 x h2;omega
theorem takeW_le {l:List Kd}{n:Int}:∀x ∈ l.takeWhile (fun x=>decide (x.num≤n)),x.num≤n:=by
 induction l with
 | nil=>simp
 | cons a l ih =>
  intro x hx
  rw [List.takeWhile_cons] at hx
  split at hx
  ·rename_i h
   rcases List.mem_cons.1 hx with rfl | h2
   ·simpa using h
   ·exact ih x h2
  ·simp at hx
theorem insK_sorted {l:List Kd}{c:Kd}(hs:l.Pairwise fun a b=>a.num<b.num)(hn:∀x ∈ l,x.num≠c.num):(insK l c).Pairwise fun a b=>a.num<b.num:=by
 unfold insK
 have h1:(l.takeWhile (fun x=>decide (x.num≤c.num))).Pairwise fun a b=>a.num<b.num:=hs.sublist (List.takeWhile_sublist _)
 have h2:(l.dropWhile (fun x=>decide (x.num≤c.num))).Pairwise fun a b=>a.num<b.num:=hs.sublist (List.dropWhile_sublist _)
 rw [List.pairwise_append,List.pairwise_cons]
 have lt:∀x ∈ l.takeWhile (fun x=>decide (x.num≤c.num)),x.num<c.num:=fun x hx=>by
  have a:=takeW_le x hx
  have b:=hn x ((List.takeWhile_sublist _).subset hx)
  omega
 refine ⟨h1,⟨fun x hx=>dropW_gt hs x hx,h2⟩,fun x hx y hy=>?_⟩
 rcases List.mem_cons.1 hy with rfl | hy
 ·exact lt x hx
 ·have:=lt x hx;have:=dropW_gt hs y hy;omega
theorem kids_uniq {l:List Kd}(hs:l.Pairwise fun a b=>a.num<b.num){x y:Kd}(hx:x ∈ l)(hy:y ∈ l)(e:x.num=y.num):x=y:=by
 induction l with
 | nil=>simp at hx
 | cons a l ih =>
  rw [List.pairwise_cons] at hs
  rcases List.mem_cons.1 hx with h1 | h1 <;> rcases List.mem_cons.1 hy with h2 | h2
  ·rw [h1,h2]
  ·subst h1;have:=hs.1 y h2;omega
  ·subst h2;have:=hs.1 x h1;omega
  ·exact ih hs.2 h1 h2
structure OfOk (o:Of):Prop where
 tm:TmOk o.tm
 cy:CyOk o.cy
 bk:BkOk o.bk
 now0:0≤o.now
 now1:o.now≤1440000
 dl:(o.dishes.length:Int)≤o.cy.n
 di:∀x ∈ o.dishes,0≤x.item∧x.item<o.bk.items.length
 dn:∀x ∈ o.dishes,letB x.name=true∧x.name.length≤8
 kn:∀x ∈ o.kids,0≤x.num∧x.num≤99
 ka:∀x ∈ o.kids,isSet x.avoid o.bk.props=true
 ks:o.kids.Pairwise fun a b=>a.num<b.num
 fv:vld o.facts=0
 fa:∀i,i<o.facts.length→(gf o.facts i).at_≤o.now
 fk:∀i,i<o.facts.length→hasK o.kids (gf o.facts i).ch=true
 fm:∀i,i<o.facts.length→(gf o.facts i).me=0∨(gf o.facts i).me=1
 rv:vrt o.rights=0
 ck:∀d n,o.cooked d=some n→o.opn d=true∧0≤n∧n≤100000
 et:∀d n,o.eaten d=some n→∃m,o.cooked d=some m∧0≤n∧n≤m
 ol:o.orders.length≤200
 os:∀s ∈ o.orders,∃r,prs s=some r
 safe:∀x ∈ o.kids,∀d,d<o.days→dayHarm o x.avoid d=true→eatB o x.num d=false
theorem newE_ok {t:Tm}{c:Cy}{b:Bk}(h:newE t c b=0):TmOk t∧CyOk c∧BkOk b:=by
 unfold newE at h
 by_cases h1:tE t=0
 ·rw [if_neg (by simp [h1])] at h
  by_cases h2:cE c=0
  ·rw [if_neg (by simp [h2])] at h;exact ⟨TmOk.of h1,CyOk.of h2,BkOk.of h⟩
  ·rw [if_pos h2] at h;exact absurd h h2
 ·rw [if_pos h1] at h;exact absurd h h1
theorem OfOk.new {t:Tm}{c:Cy}{b:Bk}(h:newE t c b=0):OfOk (new0 t c b):=by
 obtain ⟨h1,h2,h3⟩:=newE_ok h
 exact ⟨h1,h2,h3,by simp [new0],by simp [new0],by have:=h2.n1;simp [new0];omega,by simp [new0],by simp [new0],by simp [new0],by simp [new0],by simp [new0],by show vld []=0;decide,by simp [new0],by simp [new0],by simp [new0],by show vrt []=0;decide,by simp [new0],by simp [new0],by simp [new0],by simp [new0],by simp [new0]⟩
theorem knownR_bd (l:List Fact)(t c d:Int):knownR l t c d=1→knw l t c d=1∧vld l=0∧0≤c∧c≤99∧0≤d∧d≤999:=fun h=>by
 unfold knownR at h
 split at h
 ·rename_i h0
  have:=askE_ok h0
  exact ⟨h,this.1.to,this.2⟩
 ·cases h
theorem askE_of {l:List Fact}{c d:Int}(h:vld l=0)(h1:0≤c)(h2:c≤99)(h3:0≤d)(h4:d≤999):askE l c d=0:=by
 unfold askE askd
 rw [if_neg (by simp [h]),inB_true.2 ⟨h1,h2⟩,inB_true.2 ⟨h3,h4⟩];rfl
theorem eatB_iff {o:Of}{c d:Int}(h:vld o.facts=0)(h1:0≤c)(h2:c≤99)(h3:0≤d)(h4:d≤999):eatB o c d=true ↔ knw o.facts o.now c d=1:=by
 unfold eatB knownR
 rw [if_pos (askE_of h h1 h2 h3 h4)]
 simp
theorem days_le {o:Of}(h:TmOk o.tm):o.days≤1000:=by unfold Of.days;have:=h.len2;omega
end Go.Proofs.YtiapkffihpgdcaaGreatDoor
