import Derived.Test.YtiapkffihpgdcaaGreatDoorQC3
import Derived.Test.YtiapkffihpgdcaaGreatDoorQC5
import Derived.Shelf.Spec.TrailingZeros
import Derived.Shelf.Sort.Plain
import Derived.Shelf.Slices.In.SortNone
import Derived.Shelf.Slices.Cells
import Derived.Lib.OwnBridge
import Derived.Lib.AppendIntMem
import Derived.Deep.RegionWith
import Derived.Lib.QuietBelow
set_option linter.unusedVariables false
set_option linter.unusedSimpArgs false
set_option maxRecDepth 100000
set_option maxHeartbeats 4000000
namespace Go.Proofs.YtiapkffihpgdcaaGreatDoor
open Go.RowKit
theorem mask_any (l:List Int)(hl:∀i,i<l.length→0≤gi l i∧gi l i<20)(hlen:l.length≤1000000)(A:Option Addr)(c:Nat)(w:World)(hR:RN w A l) :
  Calls Tryz.prog 262 #[.slice A l.length c] w fun e w'=>e=.returned (.int .i64 (maskN l))∧w=w':=by
 go_enter Tryz.func262,Tryz.ntmps262
 go_wp2
 go_loop [3,8] (fun m i=>∃k:Nat,k≤l.length∧i=.int .i64 k∧m=.int .i64 (maskTo l k)) (fun _ i=>l.length-(intOf i).toNat)
 case atStart=>exact ⟨0,Nat.zero_le _,rfl,rfl⟩
 case round =>
  obtain ⟨k,hk,rfl,rfl⟩:=hrel
  by_cases hlt:k<l.length
  ·obtain ⟨ad,rfl,hab,c0⟩:=hR.at_ hlt
   obtain ⟨x0,x1⟩:=hl k hlt
   have hm:=maskTo_lt (l:=l) (n:=20) (fun i hi=>hl i hi) k (by omega)
   have HX:=Lib.hid (or_bit hm x0 x1)
   obtain ⟨x,hx⟩:∃x,x=gi l k:=⟨_,rfl⟩
   rw [← hx] at c0 x0 x1 HX
   have HS:Hid (maskTo l (k+1)=maskTo l k ||| bit x):=by rw [hx];rfl
   clear hx hm
   go_wp2
   go_round
   case rel=>exact ⟨k+1,by omega,by go_num,by rw [HS.out];exact congrArg _ HX.out⟩
   case measure=>simp [intOf];omega
  ·have hkl:k=l.length:=by omega
   subst hkl
   go_wp2
   go_ret
   exact ⟨rfl,rfl⟩
theorem contained_any (b:Bk)(hb:BkOk b)(i:Nat)(hi:i<b.items.length)(F:Nat→Prop)(A1 A2:Option Addr)(c1 c2:Nat)(hp hq hr:Nat→SlH)(w:World)(hR:RBk F w A1 A2 b hp hq hr) :
  Calls Tryz.prog 261 #[.agg #[.int .i64 b.props,.slice A1 b.items.length c1,.slice A2 b.rules.length c2],.int .i64 i] w fun e w'=>e=.returned (.int .i64 (conN b.items i))∧Below w.heap.size w w':=by
 obtain ⟨w2,hw2⟩:∃w2,(w.alloc (.cells #[.int .i64 b.props,.slice A1 b.items.length c1,.slice A2 b.rules.length c2] 30))=w2:=⟨_,rfl⟩
 have hy:Below w.heap.size w w2:=by rw [← hw2];exact (Below.refl _ w).alloc (Nat.le_refl _) _
 have bx:Box w2 w.heap.size #[.int .i64 b.props,.slice A1 b.items.length c1,.slice A2 b.rules.length c2]:=by rw [← hw2];exact (Box.new w _ _)
 have x0:=bx.cell 0;have x1:=bx.cell 1;have x2:=bx.cell 2
 simp only [gqA,gqB,gqC] at x0 x1 x2
 have hR2:=hR.below hy
 have h20:=hb.i20
 go_enter Tryz.func261,Tryz.ntmps261
 go_wp2
 go_loop [5,6] (fun m x=>∃k M:Nat,k≤i+1∧x=.int .i64 ((k:Int)-1)∧m=.int .i64 (M:Int)∧M<2 ^ b.items.length∧Hid (conTo b.items M k=conN b.items i)) (fun _ x=>(intOf x+1).toNat)
 case atStart=>exact ⟨i+1,1 <<< i,by omega,by go_num,congrArg _ (shl_nat (by omega)),by rw [Nat.shiftLeft_eq,Nat.one_mul];exact Nat.pow_lt_pow_right (by omega) hi,rfl⟩
 case round =>
  obtain ⟨k,M,hk,rfl,rfl,hM,HC⟩:=hrel
  have hM2:M<2 ^ 20:=Nat.lt_of_lt_of_le hM (Nat.pow_le_pow_right (by omega) h20)
  by_cases hlt:0<k
  ·obtain ⟨k,rfl⟩:∃j,k=j+1:=⟨k-1,by omega⟩
   obtain ⟨ad,rfl,hab,d0,d1⟩:=hR2.it.at_ (k:=k) (by omega)
   have ht:=test_bit k hM2
   have hrn:=(hR2.it.parts k (by omega)).rn
   have hpl:=parts_lt hb (i:=k) (by omega)
   have hpr:maskN (gIt b.items k).parts<2 ^ b.items.length:=Nat.lt_of_lt_of_le hpl (Nat.pow_le_pow_right (by omega) (by omega))
   have hpe:∀j,j<(gIt b.items k).parts.length→0≤gi (gIt b.items k).parts j∧gi (gIt b.items k).parts j<20:=fun j hj=>by have:=isSet_at (hb.parts k (by omega)) hj;omega
   have h6:=hb.six k (by omega)
   cases hq:M.testBit k with
   | true =>
    rw [hq] at ht
    have HO:=Lib.hid (or_mask hM2 (Nat.lt_of_lt_of_le hpr (Nat.pow_le_pow_right (by omega) h20)))
    have HN:Hid (conTo b.items (M ||| maskN (gIt b.items k).parts) k=conN b.items i):=by have:=HC.out;simp only [conTo,hq,if_true] at this;exact this
    clear hq HC
    go_wp2_with (go_at_call 262;refine (mask_any _ hpe (by omega) _ _ _ hrn).mono ?_;rintro e w' ⟨rfl,rfl⟩)
    go_round
    case rel=>exact ⟨k,M ||| maskN (gIt b.items k).parts,by omega,by go_num,congrArg _ HO.out,or_lt hM hpr,HN⟩
    case measure=>simp [intOf]
   | false =>
    rw [hq] at ht
    have HN:Hid (conTo b.items M k=conN b.items i):=by have:=HC.out;simp only [conTo,hq] at this;exact this
    clear hq HC
    go_wp2
    go_round
    case rel=>exact ⟨k,M,by omega,by go_num,rfl,hM,HN⟩
    case measure=>simp [intOf]
  ·have hk0:k=0:=by omega
   subst hk0
   obtain rfl:M=conN b.items i:=HC.out
   go_wp2
   go_ret
   exact ⟨rfl,hy⟩
/-- What is asked of the listed variables. -/
structure EnvZ (w:World):Prop where
 max:∃m:Int,w.cell? ⟨1,0,none⟩=some (.int .i64 m)
 tab:Go.Proofs.TabAt 3 Lib.deBruijn64tab w
 size:7≤w.heap.size
theorem EnvZ.of {w w':World}(h:EnvZ w)(h1:w'.heap[1]? = w.heap[1]?)(h3:w'.heap[3]? = w.heap[3]?)(hs:w.heap.size≤w'.heap.size):EnvZ w' :=
 ⟨h.max.imp fun m hm=>(World.cell?_of_block (w:=w) h1).trans hm,fun j hj=>(World.cell?_of_block (w:=w) h3).trans (h.tab j hj),by have:=h.size;omega⟩
theorem EnvZ.below {w w':World}(h:EnvZ w)(hb:Below w.heap.size w w'):EnvZ w' :=
 h.of (hb.block 1 (by have:=h.size;omega)) (hb.block 3 (by have:=h.size;omega)) hb.size
theorem ctz_any (m:Nat)(h0:m≠0)(hm:m<2 ^ 20)(w:World)(hE:EnvZ w):Calls Tryz.prog 189 #[.int .u64 m] w fun e w'=>e=.returned (.int .i64 (lowB1 m))∧w'=w :=
 Any7.bits_TrailingZeros Tryz.lctz m (by omega) w (fun _=>hE.tab)
theorem list_any (m:Nat)(hm:m<2 ^ 20)(w:World)(hE:EnvZ w) :
  Calls Tryz.prog 121 #[.int .i64 m] w fun e w'=>∃A' c',e=.returned (.slice A' (bitsL m).length c')∧OwnN w' w.heap.size A' c' (bitsL m)∧Below w.heap.size w w':=by
 have hl20:=bitsL_len m
 go_enter Tryz.func121,Tryz.ntmps121
 go_wp2
 go_loopw [0,3] (fun x o wr=>∃(M:Nat) (l:List Int),M<2 ^ 20∧x=.int .i64 M∧Hid (l ++ bitsL M=bitsL m)∧∃A' c',o=.slice A' l.length c'∧OwnN wr w.heap.size A' c' l∧Below w.heap.size w wr) (fun x _ _=>(intOf x).toNat)
 case atStart=>exact ⟨m,[],hm,rfl,rfl,none,0,rfl,World.ownsRow_nil _ _ _ _,Below.refl _ _⟩
 case round =>
  obtain ⟨M,l,hM,rfl,HL,A',c',rfl,own,hy⟩:=hrel
  have hEr:=hE.below hy
  by_cases h0:M=0
  ·subst h0
   go_wp2
   go_ret
   have hv:l=bitsL m:=by have:=HL.out;rw [bits_zero,List.append_nil] at this;exact this
   rw [← hv]
   exact ⟨A',c',rfl,own,hy⟩
  ·have hne:((M:Int) == 0)=false:=by simp;omega
   have hL:(l ++ [(lowB1 M:Int)]) ++ bitsL (lowOff M)=bitsL m:=by have:=HL.out;rw [bits_low h0 hM] at this;rw [List.append_assoc];exact this
   have hll:l.length<20:=by have:=congrArg List.length hL;simp at this;omega
   have HO:=Lib.hid (and_low h0 hM)
   have HN:=Lib.hid hL
   have hlt:=lowOff_lt hM
   have hdec:lowOff M<M:=by
    have:lowOff M≤M-1:=Nat.and_le_right
    omega
   have hu:IntKind.u64.wrap (M:Int)=(M:Int):=by rw [IntKind.wrap_u64];omega
   have hbs:=hy.size
   clear hL HL
   go_wp2_with (first | (go_at_call 189;refine (ctz_any M h0 hM _ hEr).mono ?_;rintro e w' ⟨rfl,rfl⟩) | (at_builtin;refine wpList_app1 rfl _ _ rfl Tryz.underlying22 info_int rfl (by omega) rfl own rfl rfl (by simp [Value.oneCell']) (by omega) (by omega) (by omega) ?_;intro A'' c'' w3 own3 hb3))
   go_roundw
   case rel=>exact ⟨lowOff M,l ++ [(lowB1 M:Int)],hlt,congrArg _ HO.out,HN,A'',c'',by rw [List.length_append];rfl,OwnN.snoc own3 rfl rfl,hy.trans (hb3 _ (Nat.le_refl _))⟩
   case measure=>have:=HO.out;simp [intOf,this];omega
end Go.Proofs.YtiapkffihpgdcaaGreatDoor
namespace Go.Proofs.YtiapkffihpgdcaaGreatDoor
open Go.RowKit Go.Sort
theorem eql_any (l m:List Int)(A A':Option Addr)(c c':Nat)(w:World)(hl:RN w A l)(hm:RN w A' m)(hb:l.length≤1000000000)(hb':m.length≤1000000000) :
  Calls Tryz.prog 216 #[.slice A l.length c,.slice A' m.length c'] w fun e w'=>e=.returned (.bool (decide (l=m)))∧Below w.heap.size w w':=by
 by_cases hlen:l.length=m.length
 ·have hlen':((l.length:Int) != (m.length:Int))=false:=by simp [hlen]
  have HL:=Lib.hid hlen;clear hlen
  go_enter Tryz.func216,Tryz.ntmps216
  go_wp2
  go_loopw [13] (fun x wr=>∃k:Nat,k≤l.length∧x=.int .i64 k∧eqIn l m k∧Below w.heap.size w wr) (fun x _=>l.length-(intOf x).toNat)
  case atStart=>exact ⟨0,by omega,rfl,fun i hi=>by omega,Below.refl _ _⟩
  case round =>
   obtain ⟨k,hk,rfl,he,hbl⟩:=hrel
   by_cases hlt:k<l.length
   ·have hlt':k<m.length:=by rw [← HL.out];exact hlt
    obtain ⟨ad,rfl,hab,c0⟩:=(hl.below hbl).at_ hlt
    obtain ⟨ad',rfl,hab',d0⟩:=(hm.below hbl).at_ hlt'
    cases hq:(gi l k != gi m k) with
    | true =>
     have hne:gi l k≠gi m k:=by simpa using hq
     have HNE:=Lib.hid hne;clear hne
     go_wp2_with fail
     go_quiet (fail)
     go_wp2
     go_ret
     exact ⟨ret_bool (by symm;rw [decide_eq_false_iff_not];intro e;exact HNE.out (by rw [e])),below_drewN hbl _⟩
    | false =>
     have heq:gi l k=gi m k:=by simpa using hq
     have HEQ:=Lib.hid heq;clear heq
     go_wp2_with fail
     go_quiet (fail)
     go_wp2
     go_roundw
     case rel=>exact ⟨k+1,by omega,by go_num,fun i hi=>by
      by_cases e:i=k
      ·subst e;exact HEQ.out
      ·exact he i (by omega),below_drewN hbl _⟩
     case measure=>simp [intOf];omega
   ·obtain rfl:k=l.length:=by omega
    go_wp2
    go_ret
    exact ⟨ret_bool (by symm;rw [decide_eq_true_eq];exact eqIn_all HL.out he),hbl⟩
 ·have hlen':((l.length:Int) != (m.length:Int))=true:=by simp;omega
  have HL:=Lib.hid hlen;clear hlen
  go_enter Tryz.func216,Tryz.ntmps216
  go_wp2
  go_ret
  exact ⟨ret_bool (by symm;rw [decide_eq_false_iff_not];intro e;exact HL.out (by rw [e])),Below.refl _ _⟩
theorem sortI_len (l:List Int):(sortI l).length=l.length:=by unfold sortI;exact List.length_mergeSort l
theorem sort_any (l:List Int)(hl:l.length≤1000000000)(A:Option Addr)(c base:Nat)(w:World)(own:OwnN w base A c l)(hbs:base≤w.heap.size) :
  Calls Tryz.prog 274 #[.slice A l.length c] w fun e w'=>e=.returned (.tuple #[])∧OwnN w' base A c (sortI l)∧Below base w w':=by
 by_cases hn:(Value.slice A l.length c)=.slice none 0 0
 ·injection hn with e1 e2 e3
  have hl0:l=[]:=List.eq_nil_of_length_eq_zero e2
  subst hl0;subst e1;subst e3
  refine (Any.slices_Sort_int_none Tryz.lsort none 0 w).mono ?_
  rintro e w' ⟨rfl,rfl⟩
  exact ⟨rfl,by rw [show sortI []=[] by unfold sortI;simp];exact own,Below.refl _ _⟩
 ·obtain ⟨g,cap,e0,hbg,hgl,hcap,hmax,hlen,hH⟩:=Lib.holds_of_ownsRow (enc:=Value.int .i64) (zs:=l) own hn
  injection e0 with e1 _ e3
  subst e1;subst e3
  refine (Any.slices_Sort_int Tryz.lsort g 0 c l w hH hgl (by omega)).mono ?_
  rintro e w' ⟨rfl,n,os,rfl⟩
  have hown:=Lib.ownsRow_putRow (q:=n) (k:=l.length) (ys:=sortI l) (zs:=l) own (sortI_len l) (Nat.le_refl _)
  rw [List.take_of_length_le (by rw [sortI_len];exact Nat.le_refl _)] at hown
  refine ⟨rfl,?_,?_⟩
  ·unfold OwnN
   rw [sortI_len]
   exact Lib.ownsRow_grow hown 0 os
  ·have h1:=Lib.below_putRow (enc:=Value.int .i64) (q:=n) (d:=(sortI l).toArray) (Below.refl base w) hbg
   exact h1.trans (Lib.below_grow base _ (Nat.le_trans hbs h1.size) 0 os)
theorem comp_any' (l:List Int)(hl:l.length≤1000000000)(A:Option Addr)(c base:Nat)(w:World)(own:OwnN w base A c l)(hbs:base≤w.heap.size) :
  Calls Tryz.prog 275 #[.slice A l.length c] w fun e w'=>e=.returned (.slice A (Lib.compact l).length c)∧OwnN w' base A c (Lib.compact l)∧Below base w w':=by
 by_cases hn:(Value.slice A l.length c)=.slice none 0 0
 ·injection hn with e1 e2 e3
  have hl0:l=[]:=List.eq_nil_of_length_eq_zero e2
  subst hl0;subst e1;subst e3
  refine (Any.slices_Compact_int_empty Tryz.lcomp none 0 w).mono ?_
  rintro e w' ⟨rfl,rfl⟩
  exact ⟨rfl,own,Below.refl _ _⟩
 ·obtain ⟨g,cap,e0,hbg,hgl,hcap,hmax,hlen,hH⟩:=Lib.holds_of_ownsRow (enc:=Value.int .i64) (zs:=l) own hn
  injection e0 with e1 _ e3
  subst e1;subst e3
  have hle:=Lib.compact_length_le l
  refine (Any.slices_Compact_int Tryz.lcomp g 0 c l w hH (by omega) hcap).mono ?_
  rintro e w' ⟨rfl,n,rfl⟩
  have hown:=Lib.ownsRow_putRow (q:=n) (k:=(Lib.compact l).length) (ys:=Lib.compact l ++ List.replicate (l.length-(Lib.compact l).length) 0) (zs:=l) own (by simp;omega) hle
  rw [List.take_left'  rfl] at hown
  exact ⟨rfl,hown,Lib.below_putRow (Below.refl base w) hbg⟩
theorem sorted_any (l:List Int)(hl:l.length≤1000000000)(A:Option Addr)(c:Nat)(w:World)(hR:RN w A l) :
  Calls Tryz.prog 218 #[.slice A l.length c] w fun e w'=>∃A' c',e=.returned (.slice A' (srtd l).length c')∧OwnN w' w.heap.size A' c' (srtd l)∧Below w.heap.size w w':=by
 go_enter Tryz.func218,Tryz.ntmps218
 go_wp2_with (first
  | (go_at_call 154;refine (clone_any l (by omega) _ _ _ hR).mono ?_;rintro e w1 ⟨A1,c1,rfl,own1,hb1⟩)
  | (go_at_call 274;refine (sort_any l hl _ _ _ _ own1 hb1.size).mono ?_;rintro e w2 ⟨rfl,own2,hb2⟩;rw [← sortI_len l])
  | (go_at_call 275;refine (comp_any' (sortI l) (by rw [sortI_len];exact hl) _ _ _ _ own2 (Nat.le_trans hb1.size hb2.size)).mono ?_;rintro e w3 ⟨rfl,own3,hb3⟩))
 go_ret
 exact ⟨A1,c1,rfl,own3,hb1.trans (hb2.trans hb3)⟩
end Go.Proofs.YtiapkffihpgdcaaGreatDoor
namespace Go.Proofs.YtiapkffihpgdcaaGreatDoor
open Go.RowKit
theorem RN.at0 {w:World}{A:Option Addr}{l:List Int}(h:RN w A l)(hk:0<l.length):∃ad:Addr,A=some ad∧ad.block<w.heap.size∧w.cell? ad=some (.int .i64 (gi l 0)):=by
 obtain ⟨ad,e,hb,hc⟩:=h.at_ hk
 have e0:ad.add 0=ad:=by cases ad;simp [Addr.add]
 rw [e0] at hb hc
 exact ⟨ad,e,hb,hc⟩
theorem isSet'_any (l:List Int)(n:Int)(hl:l.length≤1000000000)(A:Option Addr)(c:Nat)(w:World)(hR:RN w A l) :
  Calls Tryz.prog 152 #[.slice A l.length c,.int .i64 n] w fun e w'=>e=.returned (.bool (isSet l n))∧Below w.heap.size w w':=by
 obtain ⟨S,hS⟩:∃S,S=isSet l n:=⟨_,rfl⟩
 rw [← hS]
 have HS:=Lib.hid (hS.trans (setQ_is l n).symm)
 clear hS
 cases hq:decide (l=srtd l) with
 | false =>
  go_enter Tryz.func152,Tryz.ntmps152
  go_wp2_with (first
   | (go_at_call 218;refine (sorted_any l hl _ _ _ hR).mono ?_;rintro e w1 ⟨A1,c1,rfl,own1,hb1⟩;have hR1:=hR.below hb1;have ho1:=RN.of_own own1;have hln:(srtd l).length≤l.length:=by (have:=Lib.compact_length_le (sortI l);rw [sortI_len] at this;exact this))
   | (go_at_call 216;refine (eql_any l (srtd l) _ _ _ _ _ hR1 ho1 (by omega) (by omega)).mono ?_;rintro e w2 ⟨rfl,hb2⟩;rw [hq]))
  go_ret
  exact ⟨ret_bool (by rw [HS.out];unfold setQ;rw [hq];rfl),hb1.trans (hb2.mono hb1.size)⟩
 | true =>
  by_cases h0:l.length=0
  ·have h0':((l.length:Int) == 0)=true:=by simp [h0]
   have HZ:=Lib.hid h0;clear h0
   go_enter Tryz.func152,Tryz.ntmps152
   go_wp2_with (first
    | (go_at_call 218;refine (sorted_any l hl _ _ _ hR).mono ?_;rintro e w1 ⟨A1,c1,rfl,own1,hb1⟩;have hR1:=hR.below hb1;have ho1:=RN.of_own own1;have hln:(srtd l).length≤l.length:=by (have:=Lib.compact_length_le (sortI l);rw [sortI_len] at this;exact this))
    | (go_at_call 216;refine (eql_any l (srtd l) _ _ _ _ _ hR1 ho1 (by omega) (by omega)).mono ?_;rintro e w2 ⟨rfl,hb2⟩;rw [hq]))
   go_ret
   exact ⟨ret_bool (by rw [HS.out];unfold setQ;rw [hq,decide_eq_true HZ.out];rfl),hb1.trans (hb2.mono hb1.size)⟩
  ·have h0':((l.length:Int) == 0)=false:=by rw [beq_eq_false_iff_ne];omega
   have h1:0<l.length:=by omega
   have HZ:=Lib.hid h0;clear h0
   obtain ⟨ad,rfl,hab,d0⟩:=hR.at0 h1
   obtain ⟨ad',e',hab',d1⟩:=hR.at_ (k:=l.length-1) (by omega)
   cases e'
   obtain ⟨x,hx⟩:∃x,x=gi l 0:=⟨_,rfl⟩
   obtain ⟨y,hy⟩:∃y,y=gi l (l.length-1):=⟨_,rfl⟩
   rw [← hx] at d0
   rw [← hy] at d1
   have HX:=Lib.hid hx;have HY:=Lib.hid hy
   clear hx hy
   by_cases p1:0≤x <;> by_cases p2:y<n
   all_goals
    go_enter Tryz.func152,Tryz.ntmps152
    go_wp2_with (first
     | (go_at_call 218;refine (sorted_any l hl _ _ _ hR).mono ?_;rintro e w1 ⟨A1,c1,rfl,own1,hb1⟩;have hR1:=hR.below hb1;have ho1:=RN.of_own own1;have hln:(srtd l).length≤l.length:=by (have:=Lib.compact_length_le (sortI l);rw [sortI_len] at this;exact this))
     | (go_at_call 216;refine (eql_any l (srtd l) _ _ _ _ _ hR1 ho1 (by omega) (by omega)).mono ?_;rintro e w2 ⟨rfl,hb2⟩;rw [hq];have hbb:=hb1.trans (hb2.mono hb1.size);have g0:=(hbb.cell hab).trans d0;have g1:=(hbb.cell hab').trans d1;have hsz:=hbb.size;clear d0 d1))
    go_ret
    refine ⟨ret_bool ?_,hbb⟩
    rw [HS.out];unfold setQ;rw [hq,decide_eq_false HZ.out,← HX.out,← HY.out];simp [p1,p2] <;> omega
theorem isRule_any (b:Bk)(k:Nat)(hl:(gRl b.rules k).iff.length≤1000000000)(A:Option Addr)(c:Nat)(w:World)(hR:RN w A (gRl b.rules k).iff) :
  Calls Tryz.prog 153 #[.agg #[.slice A (gRl b.rules k).iff.length c,.int .i64 (gRl b.rules k).thn],.int .i64 b.props] w fun e w'=>e=.returned (.bool (rlB b k))∧Below w.heap.size w w':=by
 obtain ⟨w2,hw2⟩:∃w2,(w.alloc (.cells #[.slice A (gRl b.rules k).iff.length c,.int .i64 (gRl b.rules k).thn] 166))=w2:=⟨_,rfl⟩
 have hy:Below w.heap.size w w2:=by rw [← hw2];exact (Below.refl _ w).alloc (Nat.le_refl _) _
 have bx:Box w2 w.heap.size #[.slice A (gRl b.rules k).iff.length c,.int .i64 (gRl b.rules k).thn]:=by rw [← hw2];exact (Box.new w _ _)
 have x0:=bx.cell 0;have x1:=bx.cell 1
 simp only [gqA,gqB,gqC] at x0 x1
 have hR2:=hR.below hy
 obtain ⟨S,hS⟩:∃S,S=rlB b k:=⟨_,rfl⟩
 rw [← hS]
 have HS:=Lib.hid hS
 clear hS
 cases hq:isSet (gRl b.rules k).iff b.props with
 | false =>
  have hv:S=false:=by rw [HS.out];unfold rlB;rw [hq];rfl
  have HV:=Lib.hid hv;clear hv
  go_enter Tryz.func153,Tryz.ntmps153
  go_wp2_with (go_at_call 152;refine (isSet'_any _ _ hl _ _ _ hR2).mono ?_;rintro e w3 ⟨rfl,hb3⟩;rw [hq])
  go_ret
  exact ⟨ret_bool (by rw [HV.out]),hy.trans (hb3.mono hy.size)⟩
 | true =>
  have hv:S=inB (gRl b.rules k).thn 0 (b.props-1):=by rw [HS.out];unfold rlB;rw [hq];rfl
  have HV:=Lib.hid hv;clear hv
  by_cases p1:0≤(gRl b.rules k).thn <;> by_cases p2:(gRl b.rules k).thn<b.props
  all_goals
   go_enter Tryz.func153,Tryz.ntmps153
   go_wp2_with (go_at_call 152;refine (isSet'_any _ _ hl _ _ _ hR2).mono ?_;rintro e w3 ⟨rfl,hb3⟩;rw [hq];have g1:=(bx.below hb3).cell 1;simp only [gqA,gqB,gqC] at g1;have hsz:=hb3.size;clear x0 x1)
   go_ret
   refine ⟨ret_bool ?_,hy.trans (hb3.mono hy.size)⟩
   rw [HV.out];unfold inB;first | (rw [decide_eq_decide];omega) | (symm;rw [decide_eq_true_eq];omega) | (symm;rw [decide_eq_false_iff_not];omega)
/-- How long a book's lists may be. -/
structure BkLen (b:Bk):Prop where
 it:b.items.length≤1000000000
 rl:b.rules.length≤1000000000
 parts:∀k,k<b.items.length→(gIt b.items k).parts.length≤1000000000
 has:∀k,k<b.items.length→(gIt b.items k).has.length≤1000000000
 iff:∀k,k<b.rules.length→(gRl b.rules k).iff.length≤1000000000
theorem rlTo_yes {b:Bk}{k:Nat}(h:rlTo b k=true)(h':rlB b k=true):rlTo b (k+1)=true:=by simp [rlTo,h,h']
theorem itTo_yes {b:Bk}{k:Nat}(h:itTo b k=0)(h':itE b k=0):itTo b (k+1)=0:=by
 rw [itTo_iff] at h ⊢
 intro i hi
 by_cases e:i=k
 ·subst e;exact h'
 ·exact h i (by omega)
theorem validBk_any (b:Bk)(hL:BkLen b)(F:Nat→Prop)(A1 A2:Option Addr)(c1 c2:Nat)(hp hq hr:Nat→SlH)(w:World)(hR:RBk F w A1 A2 b hp hq hr) :
  Calls Tryz.prog 67 #[.agg #[.int .i64 b.props,.slice A1 b.items.length c1,.slice A2 b.rules.length c2]] w fun e w'=>e=.returned (.int .i64 (bkE b))∧Below w.heap.size w w':=by
 obtain ⟨S,hS⟩:∃S,S=bkE b:=⟨_,rfl⟩
 rw [← hS]
 have HS:=Lib.hid hS;clear hS
 obtain ⟨w2,hw2⟩:∃w2,(w.alloc (.cells #[.int .i64 b.props,.slice A1 b.items.length c1,.slice A2 b.rules.length c2] 30))=w2:=⟨_,rfl⟩
 have hy:Below w.heap.size w w2:=by rw [← hw2];exact (Below.refl _ w).alloc (Nat.le_refl _) _
 have bx:Box w2 w.heap.size #[.int .i64 b.props,.slice A1 b.items.length c1,.slice A2 b.rules.length c2]:=by rw [← hw2];exact (Box.new w _ _)
 have x0:=bx.cell 0;have x1:=bx.cell 1;have x2:=bx.cell 2
 simp only [gqA,gqB,gqC] at x0 x1 x2
 have hR2:=hR.below hy
 have l1:=hL.it;have l2:=hL.rl
 have hsw:w.heap.size<w2.heap.size:=bx.lt
 by_cases p0:0≤b.props
 ·by_cases p1:b.props≤10
  ·have hin:inB b.props 0 10=true:=inB_true.2 ⟨p0,p1⟩
   by_cases q1:b.items.length≤20
   ·by_cases q2:b.rules.length≤16
    ·have hE:S=if itTo b b.items.length≠0 then itTo b b.items.length else if rlTo b b.rules.length then 0 else 1:=by
      rw [HS.out];unfold bkE;rw [hin,if_pos rfl,if_neg (by omega)]
     have HE:=Lib.hid hE
     clear hE hin HS
     go_enter Tryz.func67,Tryz.ntmps67
     go_wp2
     go_loopw [28] (fun x wr=>∃k:Nat,k≤b.items.length∧x=.int .i64 k∧Hid (itTo b k=0)∧Below w2.heap.size w2 wr) (fun x _=>b.items.length-(intOf x).toNat)
     case atStart=>exact ⟨0,by omega,rfl,rfl,Below.refl _ _⟩
     case round =>
      obtain ⟨k,hk,rfl,HK,hbl⟩:=hrel
      have hRk:=hR2.below hbl
      have hsz:=hbl.size
      by_cases hlt:k<b.items.length
      ·obtain ⟨ad,rfl,hab,d0,d1⟩:=hRk.it.at_ hlt
       obtain ⟨w5,hw5⟩:∃w5,wr.alloc (.cells #[.slice (hp k).1 (gIt b.items k).parts.length (hp k).2,.slice (hq k).1 (gIt b.items k).has.length (hq k).2] 120)=w5:=⟨_,rfl⟩
       have hb5:Below wr.heap.size wr w5:=by rw [← hw5];exact (Below.refl _ wr).alloc (Nat.le_refl _) _
       have b5:Box w5 wr.heap.size #[.slice (hp k).1 (gIt b.items k).parts.length (hp k).2,.slice (hq k).1 (gIt b.items k).has.length (hq k).2]:=by rw [← hw5];exact (Box.new wr _ _)
       have u0:=b5.cell 0;have u1:=b5.cell 1
       simp only [gqA,gqB,gqC] at u0 u1
       have r1:=((hRk.it.parts k hlt).rn).below hb5
       have r2:=((hRk.it.has k hlt).rn).below hb5
       have lp:=hL.parts k hlt;have lh:=hL.has k hlt
       have s5:=b5.lt
       have y0:=(bx.below (hbl.trans (hb5.mono hsz))).cell 0
       simp only [gqA,gqB,gqC] at y0
       by_cases h6:(gIt b.items k).parts.length≤6
       ·cases hs1:isSet (gIt b.items k).parts k with
        | true =>
         cases hs2:isSet (gIt b.items k).has b.props with
         | true =>
          have HN:=Lib.hid (itTo_yes HK.out (itE_to h6 hs1 hs2))
          clear HK HE
          go_wp2_with (first | (go_at_call 152;(with_reducible refine (isSet'_any (gIt b.items k).parts k (by omega) _ _ _ r1).mono ?_);rintro e w3 ⟨rfl,hb3⟩;rw [hs1];have hk3:=hbl.trans ((hb5.trans (hb3.mono (by omega))).mono hsz);have r3:=r2.below hb3;have v0:=(b5.below hb3).cell 0;have v1:=(b5.below hb3).cell 1;have z0:=(bx.below hk3).cell 0;simp only [gqA,gqB,gqC] at v0 v1 z0;have hs3:=hb3.size;clear u0 u1 y0) | (go_at_call 152;(with_reducible refine (isSet'_any (gIt b.items k).has b.props (by omega) _ _ _ r3).mono ?_);rintro e w4 ⟨rfl,hb4⟩;rw [hs2];have hk4:=hk3.trans (hb4.mono (by omega))))
          go_roundw
          case rel=>exact ⟨k+1,by omega,by go_num,HN,hk4⟩
          case measure=>simp [intOf];omega
         | false =>
          have he:itE b k=1:=by unfold itE;rw [if_neg (by omega),hs1,hs2];rfl
          have hv:S=1:=by rw [HE.out,itTo_bad b HK.out (by rw [he];decide) hlt,he];rfl
          have HV:=Lib.hid hv;clear hv he HE HK
          go_wp2_with (first | (go_at_call 152;(with_reducible refine (isSet'_any (gIt b.items k).parts k (by omega) _ _ _ r1).mono ?_);rintro e w3 ⟨rfl,hb3⟩;rw [hs1];have hk3:=hbl.trans ((hb5.trans (hb3.mono (by omega))).mono hsz);have r3:=r2.below hb3;have v0:=(b5.below hb3).cell 0;have v1:=(b5.below hb3).cell 1;have z0:=(bx.below hk3).cell 0;simp only [gqA,gqB,gqC] at v0 v1 z0;have hs3:=hb3.size;clear u0 u1 y0) | (go_at_call 152;(with_reducible refine (isSet'_any (gIt b.items k).has b.props (by omega) _ _ _ r3).mono ?_);rintro e w4 ⟨rfl,hb4⟩;rw [hs2];have hk4:=hk3.trans (hb4.mono (by omega))))
          go_ret
          exact ⟨ret_int HV.out.symm,hy.trans (hk4.mono hy.size)⟩
        | false =>
         have he:itE b k=1:=by unfold itE;rw [if_neg (by omega),hs1];rfl
         have hv:S=1:=by rw [HE.out,itTo_bad b HK.out (by rw [he];decide) hlt,he];rfl
         have HV:=Lib.hid hv;clear hv he HE HK
         go_wp2_with (first | (go_at_call 152;(with_reducible refine (isSet'_any (gIt b.items k).parts k (by omega) _ _ _ r1).mono ?_);rintro e w3 ⟨rfl,hb3⟩;rw [hs1];have hk3:=hbl.trans ((hb5.trans (hb3.mono (by omega))).mono hsz);have r3:=r2.below hb3;have v0:=(b5.below hb3).cell 0;have v1:=(b5.below hb3).cell 1;have z0:=(bx.below hk3).cell 0;simp only [gqA,gqB,gqC] at v0 v1 z0;have hs3:=hb3.size;clear u0 u1 y0))
         go_ret
         exact ⟨ret_int HV.out.symm,hy.trans (hk3.mono hy.size)⟩
       ·have h6':6<(gIt b.items k).parts.length:=by omega
        have he:itE b k=4:=by unfold itE;rw [if_pos h6']
        have hv:S=4:=by rw [HE.out,itTo_bad b HK.out (by rw [he];decide) hlt,he];rfl
        have HV:=Lib.hid hv;clear hv he HE HK
        clear h6
        go_wp2
        go_ret
        exact ⟨ret_int HV.out.symm,hy.trans ((hbl.trans (hb5.mono hsz)).mono hy.size)⟩
      ·obtain rfl:k=b.items.length:=by omega
       have hE2:S=if rlTo b b.rules.length then 0 else 1:=by rw [HE.out,HK.out];rfl
       have HE2:=Lib.hid hE2
       clear hE2 HE HK
       have y0:=(bx.below hbl).cell 0;have y1:=(bx.below hbl).cell 1;have y2:=(bx.below hbl).cell 2
       simp only [gqA,gqB,gqC] at y0 y1 y2
       go_wp2
       go_loopw [56] (fun x wr=>∃k:Nat,k≤b.rules.length∧x=.int .i64 k∧Hid (rlTo b k=true)∧Below w2.heap.size w2 wr) (fun x _=>b.rules.length-(intOf x).toNat)
       case atStart=>exact ⟨0,by omega,rfl,rfl,hbl⟩
       case round =>
        rename_i wr0
        clear hRk y0 y1 y2
        obtain ⟨k,hk,rfl,HK,hbl⟩:=hrel
        have hRk:=hR2.below hbl
        have hsz:=hbl.size
        by_cases hlt:k<b.rules.length
        ·obtain ⟨ad,rfl,hab,d0,d1⟩:=hRk.rl.at_ hlt
         obtain ⟨w5,hw5⟩:∃w5,wr.alloc (.cells #[.slice (hr k).1 (gRl b.rules k).iff.length (hr k).2,.int .i64 (gRl b.rules k).thn] 166)=w5:=⟨_,rfl⟩
         have hb5:Below wr.heap.size wr w5:=by rw [← hw5];exact (Below.refl _ wr).alloc (Nat.le_refl _) _
         have b5:Box w5 wr.heap.size #[.slice (hr k).1 (gRl b.rules k).iff.length (hr k).2,.int .i64 (gRl b.rules k).thn]:=by rw [← hw5];exact (Box.new wr _ _)
         have u0:=b5.cell 0;have u1:=b5.cell 1
         simp only [gqA,gqB,gqC] at u0 u1
         have r1:=((hRk.rl.iff k hlt).rn).below hb5
         have lp:=hL.iff k hlt
         have s5:=b5.lt
         have y0:=(bx.below (hbl.trans (hb5.mono hsz))).cell 0
         simp only [gqA,gqB,gqC] at y0
         cases hs1:rlB b k with
         | true =>
          have HN:=Lib.hid (rlTo_yes HK.out hs1)
          clear HK HE2
          go_wp2_with (go_at_call 153;(with_reducible refine (isRule_any b k lp _ _ _ r1).mono ?_);rintro e w3 ⟨rfl,hb3⟩;rw [hs1];have hk3:=hbl.trans ((hb5.trans (hb3.mono (by omega))).mono hsz))
          go_roundw
          case rel=>exact ⟨k+1,by omega,by go_num,HN,hk3⟩
          case measure=>simp [intOf];omega
         | false =>
          have hv:S=1:=by rw [HE2.out,rlTo_bad b hs1 hlt];rfl
          have HV:=Lib.hid hv;clear hv HK HE2
          go_wp2_with (go_at_call 153;(with_reducible refine (isRule_any b k lp _ _ _ r1).mono ?_);rintro e w3 ⟨rfl,hb3⟩;rw [hs1];have hk3:=hbl.trans ((hb5.trans (hb3.mono (by omega))).mono hsz))
          go_ret
          exact ⟨ret_int HV.out.symm,hy.trans (hk3.mono hy.size)⟩
        ·obtain rfl:k=b.rules.length:=by omega
         have hv:S=0:=by rw [HE2.out,HK.out];rfl
         have HV:=Lib.hid hv;clear hv HK HE2
         go_wp2
         go_ret
         exact ⟨ret_int HV.out.symm,hy.trans (hbl.mono hy.size)⟩
    ·have hv:S=4:=by rw [HS.out];unfold bkE;rw [hin,if_pos rfl,if_pos (by omega)]
     have HV:=Lib.hid hv;clear hv hin HS
     go_enter Tryz.func67,Tryz.ntmps67
     go_wp2
     go_ret
     exact ⟨ret_int HV.out.symm,hy⟩
   ·have hv:S=4:=by rw [HS.out];unfold bkE;rw [hin,if_pos rfl,if_pos (by omega)]
    have HV:=Lib.hid hv;clear hv hin HS
    go_enter Tryz.func67,Tryz.ntmps67
    go_wp2
    go_ret
    exact ⟨ret_int HV.out.symm,hy⟩
  ·have hv:S=1:=by rw [HS.out];unfold bkE;rw [inB_false.2 (by omega)];rfl
   have HV:=Lib.hid hv;clear hv HS
   go_enter Tryz.func67,Tryz.ntmps67
   go_wp2
   go_ret
   exact ⟨ret_int HV.out.symm,hy⟩
 ·have hv:S=1:=by rw [HS.out];unfold bkE;rw [inB_false.2 (by omega)];rfl
  have HV:=Lib.hid hv;clear hv HS
  go_enter Tryz.func67,Tryz.ntmps67
  go_wp2
  go_ret
  exact ⟨ret_int HV.out.symm,hy⟩
end Go.Proofs.YtiapkffihpgdcaaGreatDoor
namespace Go.Proofs.YtiapkffihpgdcaaGreatDoor
open Go.RowKit Go.Sort
theorem ruleOK_any (b:Bk)(k:Nat)(hl:(gRl b.rules k).iff.length≤1000000000)(A:Option Addr)(c:Nat)(w:World)(hR:RN w A (gRl b.rules k).iff)(hp0:0≤b.props)(hp1:b.props≤10) :
  Calls Tryz.prog 196 #[.agg #[.slice A (gRl b.rules k).iff.length c,.int .i64 (gRl b.rules k).thn],.int .i64 b.props] w fun e w'=>e=.returned (.bool (rlB b k))∧Below w.heap.size w w':=by
 obtain ⟨w2,hw2⟩:∃w2,(w.alloc (.cells #[.slice A (gRl b.rules k).iff.length c,.int .i64 (gRl b.rules k).thn] 166))=w2:=⟨_,rfl⟩
 have hy:Below w.heap.size w w2:=by rw [← hw2];exact (Below.refl _ w).alloc (Nat.le_refl _) _
 have bx:Box w2 w.heap.size #[.slice A (gRl b.rules k).iff.length c,.int .i64 (gRl b.rules k).thn]:=by rw [← hw2];exact (Box.new w _ _)
 have x0:=bx.cell 0;have x1:=bx.cell 1
 simp only [gqA,gqB,gqC] at x0 x1
 have hR2:=hR.below hy
 obtain ⟨S,hS⟩:∃S,S=rlB b k:=⟨_,rfl⟩
 rw [← hS]
 have HS:=Lib.hid hS
 clear hS
 cases hq:isSet (gRl b.rules k).iff b.props with
 | false =>
  have hv:S=false:=by rw [HS.out];unfold rlB;rw [hq];rfl
  have HV:=Lib.hid hv;clear hv
  go_enter Tryz.func196,Tryz.ntmps196
  go_wp2_with (go_at_call 195;refine (risSet_any _ (b.props-1) hl _ _ _ hR2).mono ?_;rintro e w3 ⟨rfl,hb3⟩;rw [show b.props-1+1=b.props by omega,hq])
  go_ret
  exact ⟨ret_bool (by rw [HV.out]),hy.trans (hb3.mono hy.size)⟩
 | true =>
  have hv:S=inB (gRl b.rules k).thn 0 (b.props-1):=by rw [HS.out];unfold rlB;rw [hq];rfl
  have HV:=Lib.hid hv;clear hv
  by_cases p1:0≤(gRl b.rules k).thn <;> by_cases p2:(gRl b.rules k).thn<b.props
  any_goals (exfalso;omega)
  all_goals
   go_enter Tryz.func196,Tryz.ntmps196
   go_wp2_with (go_at_call 195;refine (risSet_any _ (b.props-1) hl _ _ _ hR2).mono ?_;rintro e w3 ⟨rfl,hb3⟩;rw [show b.props-1+1=b.props by omega,hq];have g1:=(bx.below hb3).cell 1;simp only [gqA,gqB,gqC] at g1;have hsz:=hb3.size;clear x0 x1)
   go_ret
   refine ⟨ret_bool ?_,hy.trans (hb3.mono hy.size)⟩
   rw [HV.out];unfold inB;first | (rw [decide_eq_decide];omega) | (symm;rw [decide_eq_true_eq];omega) | (symm;rw [decide_eq_false_iff_not];omega)
theorem rvalidBk_any (b:Bk)(hL:BkLen b)(F:Nat→Prop)(A1 A2:Option Addr)(c1 c2:Nat)(hp hq hr:Nat→SlH)(w:World)(hR:RBk F w A1 A2 b hp hq hr) :
  Calls Tryz.prog 130 #[.agg #[.int .i64 b.props,.slice A1 b.items.length c1,.slice A2 b.rules.length c2]] w fun e w'=>e=.returned (.int .i64 (bkE b))∧Below w.heap.size w w':=by
 obtain ⟨S,hS⟩:∃S,S=bkE b:=⟨_,rfl⟩
 rw [← hS]
 have HS:=Lib.hid hS;clear hS
 obtain ⟨w2,hw2⟩:∃w2,(w.alloc (.cells #[.int .i64 b.props,.slice A1 b.items.length c1,.slice A2 b.rules.length c2] 30))=w2:=⟨_,rfl⟩
 have hy:Below w.heap.size w w2:=by rw [← hw2];exact (Below.refl _ w).alloc (Nat.le_refl _) _
 have bx:Box w2 w.heap.size #[.int .i64 b.props,.slice A1 b.items.length c1,.slice A2 b.rules.length c2]:=by rw [← hw2];exact (Box.new w _ _)
 have x0:=bx.cell 0;have x1:=bx.cell 1;have x2:=bx.cell 2
 simp only [gqA,gqB,gqC] at x0 x1 x2
 have hR2:=hR.below hy
 have l1:=hL.it;have l2:=hL.rl
 have hsw:w.heap.size<w2.heap.size:=bx.lt
 by_cases p0:0≤b.props
 ·by_cases p1:b.props≤10
  ·have hin:inB b.props 0 10=true:=inB_true.2 ⟨p0,p1⟩
   by_cases q1:b.items.length≤20
   ·by_cases q2:b.rules.length≤16
    ·have hE:S=if itTo b b.items.length≠0 then itTo b b.items.length else if rlTo b b.rules.length then 0 else 1:=by
      rw [HS.out];unfold bkE;rw [hin,if_pos rfl,if_neg (by omega)]
     have HE:=Lib.hid hE
     clear hE hin HS
     go_enter Tryz.func130,Tryz.ntmps130
     go_wp2
     go_loopw [3] (fun x wr=>∃k:Nat,k≤b.items.length∧x=.int .i64 k∧Hid (itTo b k=0)∧Below w2.heap.size w2 wr) (fun x _=>b.items.length-(intOf x).toNat)
     case atStart=>exact ⟨0,by omega,rfl,rfl,Below.refl _ _⟩
     case round =>
      obtain ⟨k,hk,rfl,HK,hbl⟩:=hrel
      have hRk:=hR2.below hbl
      have hsz:=hbl.size
      have y0:=(bx.below hbl).cell 0;have y1:=(bx.below hbl).cell 1;have y2:=(bx.below hbl).cell 2
      simp only [gqA,gqB,gqC] at y0 y1 y2
      by_cases hlt:k<b.items.length
      ·obtain ⟨ad,rfl,hab,d0,d1⟩:=hRk.it.at_ hlt
       have lp:=hL.parts k hlt;have lh:=hL.has k hlt
       have ew:IntKind.i64.wrap ((k:Int)-1)=(k:Int)-1:=IntWalk.i64_in _ (by omega)
       have ewp:IntKind.i64.wrap (b.props-1)=b.props-1:=IntWalk.i64_in _ (by omega)
       have k0:=cell_regrown y0;have k1:=cell_regrown y1;have k2:=cell_regrown d0;have k3:=cell_regrown d1
       have cA:∀d os,Calls Tryz.prog 195 #[.slice (hp k).1 (gIt b.items k).parts.length (hp k).2,.int .i64 ((k:Int)-1)] (grow (redrawn wr d) os) fun e w''=>e=.returned (.bool (isSet (gIt b.items k).parts k))∧∃p:Regrown,w''=grow (redrawn wr p.d) p.os:=fun d os=>by
        have h:=risSet_any (gIt b.items k).parts ((k:Int)-1) (by omega) (hp k).1 (hp k).2 _ ((hRk.it.parts k hlt).rn.below (below_regrown wr d os))
        rw [show (k:Int)-1+1=k by omega] at h
        exact Calls.regrown_of h
       have cB:∀d os,Calls Tryz.prog 195 #[.slice (hq k).1 (gIt b.items k).has.length (hq k).2,.int .i64 (b.props-1)] (grow (redrawn wr d) os) fun e w''=>e=.returned (.bool (isSet (gIt b.items k).has b.props))∧∃p:Regrown,w''=grow (redrawn wr p.d) p.os:=fun d os=>by
        have h:=risSet_any (gIt b.items k).has (b.props-1) (by omega) (hq k).1 (hq k).2 _ ((hRk.it.has k hlt).rn.below (below_regrown wr d os))
        rw [show b.props-1+1=b.props by omega] at h
        exact Calls.regrown_of h
       by_cases h6:(gIt b.items k).parts.length≤6
       ·cases hs1:isSet (gIt b.items k).parts k with
        | true =>
         rw [hs1] at cA
         cases hs2:isSet (gIt b.items k).has b.props with
         | true =>
          rw [hs2] at cB
          have HN:=Lib.hid (itTo_yes HK.out (itE_to h6 hs1 hs2))
          clear HK HE
          go_wp2_with fail
          refine wp_region_quiet_below (by kernel_rfl) (by kernel_rfl) ?_
          repeat (go_big_quiet_step (first | with_reducible exact cA _ _ | with_reducible exact cB _ _))
          refine wpQuiet_nil ?_
          intro _ hw'
          obtain ⟨⟨dq,osq⟩,hw''⟩:=hw'
          subst hw''
          have hb3:=below_regrown wr dq osq
          generalize grow (redrawn wr dq) osq=w3 at *
          go_wp2_with fail
          go_roundw
          case rel=>exact ⟨k+1,by omega,by go_num,HN,hbl.trans (hb3.mono hsz)⟩
          case measure=>simp [intOf];omega
         | false =>
          rw [hs2] at cB
          have he:itE b k=1:=by unfold itE;rw [if_neg (by omega),hs1,hs2];rfl
          have hv:S=1:=by rw [HE.out,itTo_bad b HK.out (by rw [he];decide) hlt,he];rfl
          have HV:=Lib.hid hv;clear hv he HE HK
          go_wp2_with fail
          refine wp_region_quiet_below (by kernel_rfl) (by kernel_rfl) ?_
          repeat (go_big_quiet_step (first | with_reducible exact cA _ _ | with_reducible exact cB _ _))
          refine wpQuiet_nil ?_
          intro _ hw'
          obtain ⟨⟨dq,osq⟩,hw''⟩:=hw'
          subst hw''
          have hb3:=below_regrown wr dq osq
          generalize grow (redrawn wr dq) osq=w3 at *
          go_wp2_with fail
          go_ret
          exact ⟨ret_int HV.out.symm,hy.trans ((hbl.trans (hb3.mono hsz)).mono hy.size)⟩
        | false =>
         rw [hs1] at cA
         have he:itE b k=1:=by unfold itE;rw [if_neg (by omega),hs1];rfl
         have hv:S=1:=by rw [HE.out,itTo_bad b HK.out (by rw [he];decide) hlt,he];rfl
         have HV:=Lib.hid hv;clear hv he HE HK
         go_wp2_with fail
         refine wp_region_quiet_below (by kernel_rfl) (by kernel_rfl) ?_
         repeat (go_big_quiet_step (first | with_reducible exact cA _ _))
         refine wpQuiet_nil ?_
         intro _ hw'
         obtain ⟨⟨dq,osq⟩,hw''⟩:=hw'
         subst hw''
         have hb3:=below_regrown wr dq osq
         generalize grow (redrawn wr dq) osq=w3 at *
         go_wp2_with fail
         go_ret
         exact ⟨ret_int HV.out.symm,hy.trans ((hbl.trans (hb3.mono hsz)).mono hy.size)⟩
       ·have h6':6<(gIt b.items k).parts.length:=by omega
        have he:itE b k=4:=by unfold itE;rw [if_pos h6']
        have hv:S=4:=by rw [HE.out,itTo_bad b HK.out (by rw [he];decide) hlt,he];rfl
        have HV:=Lib.hid hv;clear hv he HE HK
        clear h6
        go_wp2
        go_ret
        exact ⟨ret_int HV.out.symm,hy.trans (hbl.mono hy.size)⟩
      ·obtain rfl:k=b.items.length:=by omega
       have hE2:S=if rlTo b b.rules.length then 0 else 1:=by rw [HE.out,HK.out];rfl
       have HE2:=Lib.hid hE2
       clear hE2 HE HK
       go_wp2
       go_loopw [4] (fun x wr=>∃k:Nat,k≤b.rules.length∧x=.int .i64 k∧Hid (rlTo b k=true)∧Below w2.heap.size w2 wr) (fun x _=>b.rules.length-(intOf x).toNat)
       case atStart=>exact ⟨0,by omega,rfl,rfl,hbl⟩
       case round =>
        rename_i wr0
        clear hRk y0 y1 y2
        obtain ⟨k,hk,rfl,HK,hbl⟩:=hrel
        have hRk:=hR2.below hbl
        have hsz:=hbl.size
        have y0:=(bx.below hbl).cell 0;have y1:=(bx.below hbl).cell 1;have y2:=(bx.below hbl).cell 2
        simp only [gqA,gqB,gqC] at y0 y1 y2
        by_cases hlt:k<b.rules.length
        ·obtain ⟨ad,rfl,hab,d0,d1⟩:=hRk.rl.at_ hlt
         have lp:=hL.iff k hlt
         have k0:=cell_regrown y0;have k1:=cell_regrown y2;have k2:=cell_regrown d0;have k3:=cell_regrown d1
         have cR:∀d os,Calls Tryz.prog 196 #[.agg #[.slice (hr k).1 (gRl b.rules k).iff.length (hr k).2,.int .i64 (gRl b.rules k).thn],.int .i64 b.props] (grow (redrawn wr d) os) fun e w''=>e=.returned (.bool (rlB b k))∧∃p:Regrown,w''=grow (redrawn wr p.d) p.os:=fun d os =>
          Calls.regrown_of (ruleOK_any b k lp (hr k).1 (hr k).2 _ ((hRk.rl.iff k hlt).rn.below (below_regrown wr d os)) p0 p1)
         cases hs1:rlB b k with
         | true =>
          rw [hs1] at cR
          have HN:=Lib.hid (rlTo_yes HK.out hs1)
          clear HK HE2
          go_wp2_with fail
          refine wp_region_quiet_below (by kernel_rfl) (by kernel_rfl) ?_
          repeat (go_big_quiet_step (first | with_reducible exact cR _ _))
          refine wpQuiet_nil ?_
          intro _ hw'
          obtain ⟨⟨dq,osq⟩,hw''⟩:=hw'
          subst hw''
          have hb3:=below_regrown wr dq osq
          generalize grow (redrawn wr dq) osq=w3 at *
          go_wp2_with fail
          go_roundw
          case rel=>exact ⟨k+1,by omega,by go_num,HN,hbl.trans (hb3.mono hsz)⟩
          case measure=>simp [intOf];omega
         | false =>
          rw [hs1] at cR
          have hv:S=1:=by rw [HE2.out,rlTo_bad b hs1 hlt];rfl
          have HV:=Lib.hid hv;clear hv HK HE2
          go_wp2_with fail
          refine wp_region_quiet_below (by kernel_rfl) (by kernel_rfl) ?_
          repeat (go_big_quiet_step (first | with_reducible exact cR _ _))
          refine wpQuiet_nil ?_
          intro _ hw'
          obtain ⟨⟨dq,osq⟩,hw''⟩:=hw'
          subst hw''
          have hb3:=below_regrown wr dq osq
          generalize grow (redrawn wr dq) osq=w3 at *
          go_wp2_with fail
          go_ret
          exact ⟨ret_int HV.out.symm,hy.trans ((hbl.trans (hb3.mono hsz)).mono hy.size)⟩
        ·obtain rfl:k=b.rules.length:=by omega
         have hv:S=0:=by rw [HE2.out,HK.out];rfl
         have HV:=Lib.hid hv;clear hv HK HE2
         go_wp2
         go_ret
         exact ⟨ret_int HV.out.symm,hy.trans (hbl.mono hy.size)⟩
    ·have hv:S=4:=by rw [HS.out];unfold bkE;rw [hin,if_pos rfl,if_pos (by omega)]
     have HV:=Lib.hid hv;clear hv hin HS
     go_enter Tryz.func130,Tryz.ntmps130
     go_wp2
     go_ret
     exact ⟨ret_int HV.out.symm,hy⟩
   ·have hv:S=4:=by rw [HS.out];unfold bkE;rw [hin,if_pos rfl,if_pos (by omega)]
    have HV:=Lib.hid hv;clear hv hin HS
    go_enter Tryz.func130,Tryz.ntmps130
    go_wp2
    go_ret
    exact ⟨ret_int HV.out.symm,hy⟩
  ·have hv:S=1:=by rw [HS.out];unfold bkE;rw [inB_false.2 (by omega)];rfl
   have HV:=Lib.hid hv;clear hv HS
   go_enter Tryz.func130,Tryz.ntmps130
   go_wp2
   go_ret
   exact ⟨ret_int HV.out.symm,hy⟩
 ·have hv:S=1:=by rw [HS.out];unfold bkE;rw [inB_false.2 (by omega)];rfl
  have HV:=Lib.hid hv;clear hv HS
  go_enter Tryz.func130,Tryz.ntmps130
  go_wp2
  go_ret
  exact ⟨ret_int HV.out.symm,hy⟩
end Go.Proofs.YtiapkffihpgdcaaGreatDoor
