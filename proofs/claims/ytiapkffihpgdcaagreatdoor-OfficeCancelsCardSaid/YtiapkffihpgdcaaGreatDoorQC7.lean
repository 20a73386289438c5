import Derived.Test.YtiapkffihpgdcaaGreatDoorQC6
set_option linter.unusedVariables false
set_option linter.unusedSimpArgs false
set_option maxRecDepth 100000
set_option maxHeartbeats 4000000
namespace Go.Proofs.YtiapkffihpgdcaaGreatDoor
open Go.RowKit
def blM (m n:Nat):List Bool:=(List.range n).map m.testBit
def gB (l:List Bool)(k:Nat):Bool:=l.getD k false
def bls (l:List Bool):List Value:=l.map Value.bool
theorem blM_zero (n:Nat):List.replicate n false=blM 0 n:=by
 apply List.ext_getElem (by simp [blM])
 intro i h1 h2
 simp [blM]
theorem blM_set (m n x:Nat)(hx:x<n):(blM m n).set x true=blM (m ||| 1 <<< x) n:=by
 apply List.ext_getElem (by simp [blM])
 intro i h1 h2
 have hb:(1 <<< x).testBit i=decide (x=i):=by rw [Nat.shiftLeft_eq,Nat.one_mul,Nat.testBit_two_pow]
 simp only [List.getElem_set,blM,List.getElem_map,List.getElem_range,Nat.testBit_or,hb]
 by_cases e:x=i
 ·subst e;simp
 ·simp [e]
theorem info_bool:(Tryz.prog.info? 4).map (fun i=>(i.zero,i.size,i.bytes))=some (some (.bool false),1,1):=by kernel_rfl
theorem madeBools (n:Nat):(madeCells (Value.bool false).cells (n*1)).toList=bls (List.replicate n false):=by
 rw [Nat.mul_one]
 show (madeCells #[Value.bool false] n).toList=_
 rw [toList_madeCells_one,bls,List.map_replicate]
/-- A slice of the call's own of so many truth values. -/
def OwnBl (w:World)(base g n:Nat)(m:Nat):Prop:=w.ownsRow base 4 1 (.slice (some ⟨g,0,none⟩) n n) n (bls (blM m n))
section
variable {w w':World}{base g n m:Nat}
theorem OwnBl.made {w:World}{base g n:Nat}(h:w.ownsRow base 4 1 (.slice (some ⟨g,0,none⟩) n n) n (madeCells (Value.bool false).cells (n*1)).toList):OwnBl w base g n 0:=by
 unfold OwnBl;rw [← blM_zero,← madeBools];exact h
theorem OwnBl.cell (h:OwnBl w base g n m)(k:Nat)(hk:k<n):w.cell? ⟨g,k,none⟩=some (.bool (m.testBit k)):=by
 have e:=World.ownsRow.cellAt h k (by omega)
 rw [e]
 simp [bls,blM,hk]
theorem OwnBl.frozen (h:OwnBl w base g n m)(k:Nat):w.frozen? ⟨g,k,none⟩=false:=World.ownsRow.frozenAt h k
theorem OwnBl.lt (h:OwnBl w base g n m):base≤g∧g<w.heap.size:=World.ownsRow.lt h g rfl
theorem OwnBl.kept (h:OwnBl w base g n m){B:Nat}(hb:Below B w w')(hB:g<B):OwnBl w' base g n m:=own_below h hb fun k hk=>by simp [Value.ownBlock] at hk;omega
theorem OwnBl.stored (h:OwnBl w base g n m)(k:Nat)(hk:k<n):OwnBl (w.setCell ⟨g,k,none⟩ (.bool true)) base g n (m ||| 1 <<< k):=by
 have e:=(World.ownsRow.stored h k (.bool true)).1
 unfold OwnBl
 rw [← blM_set m n k hk]
 have:bls ((blM m n).set k true)=(bls (blM m n)).set k (.bool true):=by simp [bls]
 rw [this]
 exact e
end
/-- The slice (A,n) reads as the set m of numbers below n. -/
def RB (w:World)(A:Option Addr)(n m:Nat):Prop:=Reads w w.heap.size 1 A n (bls (blM m n))
section
variable {w w':World}{base g n m:Nat}{A:Option Addr}
theorem RB.below (h:RB w A n m)(hb:Below w.heap.size w w'):RB w' A n m:=(Reads.below' h hb (Nat.le_refl _)).more hb.size
theorem RB.of_own (h:OwnBl w base g n m):RB w (some ⟨g,0,none⟩) n m:=Reads.of_own h
theorem RB.at_ (h:RB w A n m){k:Nat}(hk:k<n):∃ad,A=some ad∧(ad.add k).block<w.heap.size∧w.cell? (ad.add k)=some (.bool (m.testBit k)):=by
 obtain ⟨ad,e,hb,hc⟩:=h.2 (by omega)
 exact ⟨ad,e,by rw [block_of_add];exact hb,hc k _ (by simp [bls,blM,hk])⟩
end
theorem bit_nat (x:Nat):bit (x:Int)=1 <<< x:=by simp [bit]
theorem maskTo_succ (l:List Int)(k:Nat):maskTo l (k+1)=maskTo l k ||| bit (gi l k):=rfl
theorem all_any (m n:Nat)(l:List Int)(hl:∀i,i<l.length→0≤gi l i∧gi l i<n)(hlen:l.length≤1000000000)(A A':Option Addr)(c c':Nat)(w:World)(hm:RB w A n m)(hR:RN w A' l)(hn:n≤1000000) :
  Calls Tryz.prog 255 #[.slice A n c,.slice A' l.length c'] w fun e w'=>e=.returned (.bool (allIn l m))∧w'=w:=by
 obtain ⟨S,hS⟩:∃S,S=allIn l m:=⟨_,rfl⟩
 rw [← hS]
 have HS:=Lib.hid hS;clear hS
 go_enter Tryz.func255,Tryz.ntmps255
 go_wp2
 go_loop [5] (fun x=>∃k:Nat,k≤l.length∧x=.int .i64 k∧Hid (allTo l m k=true)) (fun x=>l.length-(intOf x).toNat)
 case atStart=>exact ⟨0,by omega,rfl,rfl⟩
 case round =>
  obtain ⟨k,hk,rfl,HK⟩:=hrel
  by_cases hlt:k<l.length
  ·obtain ⟨x0,x1⟩:=hl k hlt
   obtain ⟨ad,rfl,hab,c0⟩:=hR.at_ hlt
   obtain ⟨x,hx⟩:∃x:Nat,gi l k=(x:Int):=⟨(gi l k).toNat,by omega⟩
   have hxt:(gi l k).toNat=x:=by omega
   have hxn:x<n:=by omega
   rw [hx] at c0
   obtain ⟨ad2,rfl,hab2,d0⟩:=hm.at_ hxn
   cases hq:m.testBit x with
   | true =>
    rw [hq] at d0
    have HN:Hid (allTo l m (k+1)=true):=by show allTo l m (k+1)=true;simp only [allTo];rw [HK.out,hxt,hq];rfl
    clear hq hx hxt
    go_wp2
    go_round
    case rel=>exact ⟨k+1,by omega,by go_num,HN⟩
    case measure=>simp [intOf];omega
   | false =>
    rw [hq] at d0
    have hv:S=false:=by rw [HS.out];unfold allIn;exact allTo_bad _ _ (by rw [hxt];exact hq) hlt
    have HV:=Lib.hid hv;clear hv hq hx hxt HS
    go_wp2
    go_ret
    exact ⟨ret_bool HV.out.symm,rfl⟩
  ·obtain rfl:k=l.length:=by omega
   have hv:S=true:=by rw [HS.out];exact HK.out
   have HV:=Lib.hid hv;clear hv HS
   go_wp2
   go_ret
   exact ⟨ret_bool HV.out.symm,rfl⟩
theorem inside_any (b:Bk)(hb:BkOk b)(i:Nat)(hi:i<b.items.length)(F:Nat→Prop)(A1 A2:Option Addr)(c1 c2:Nat)(hp hq hr:Nat→SlH)(w:World)(hR:RBk F w A1 A2 b hp hq hr) :
  Calls Tryz.prog 256 #[.agg #[.int .i64 b.props,.slice A1 b.items.length c1,.slice A2 b.rules.length c2],.int .i64 i] w fun e w'=>∃g,e=.returned (.slice (some ⟨g,0,none⟩) b.items.length b.items.length)∧OwnBl w' w.heap.size g b.items.length (conN b.items i)∧Below w.heap.size w w':=by
 obtain ⟨w2,hw2⟩:∃w2,(w.alloc (.cells #[.int .i64 b.props,.slice A1 b.items.length c1,.slice A2 b.rules.length c2] 30))=w2:=⟨_,rfl⟩
 have hy:Below w.heap.size w w2:=by rw [← hw2];exact (Below.refl _ w).alloc (Nat.le_refl _) _
 have bx:Box w2 w.heap.size #[.int .i64 b.props,.slice A1 b.items.length c1,.slice A2 b.rules.length c2]:=by rw [← hw2];exact (Box.new w _ _)
 have x0:=bx.cell 0;have x1:=bx.cell 1;have x2:=bx.cell 2
 simp only [gqA,gqB,gqC] at x0 x1 x2
 have hR2:=hR.below hy
 have h20:=hb.i20
 have hsw:w.heap.size<w2.heap.size:=bx.lt
 obtain ⟨i0,hi0,hz0,hz1,hz2⟩:=info_parts info_bool
 go_enter Tryz.func256,Tryz.ntmps256
 have hby:i0.bytes*b.items.length≤281474976710656:=by rw [hz2];omega
 go_wp2_with (at_make;refine wpList_make_full _ rfl _ _ 250 rfl w2.heap.size 4 i0 _ 1 Tryz.underlying250 hi0 hz0 hz1 .i64 .i64 _ _ b.items.length rfl rfl rfl rfl hby (by unfold maxLen;omega) (Nat.le_refl _) ?_;intro w1 hown1 hg1;have own0:=OwnBl.made hown1;have hb1:Below w2.heap.size w2 w1:=(Below.refl _ _).grown hg1 (Nat.le_refl _) (by simp);have z0:=own0.cell i hi;have y0:=own0.frozen i;clear hown1 hg1 x0 x1 x2)
 have own1:=own0.stored i hi
 have hb2:=hb1.setCell (p:=⟨w2.heap.size,i,none⟩) (Nat.le_refl _) (.bool true)
 clear own0 hb1
 rw [Nat.zero_or] at own1
 go_loopw [6] (fun x wr=>∃k M:Nat,k≤i+1∧x=.int .i64 ((k:Int)-1)∧M<2 ^ 20∧Hid (conTo b.items M k=conN b.items i)∧OwnBl wr w2.heap.size w2.heap.size b.items.length M∧Below w2.heap.size w2 wr) (fun x _=>(intOf x+1).toNat)
 case atStart=>exact ⟨i+1,1 <<< i,by omega,by go_num,by rw [Nat.shiftLeft_eq,Nat.one_mul];exact Nat.pow_lt_pow_right (by omega) (by omega),rfl,own1,hb2⟩
 case round =>
  clear own1 hb2
  obtain ⟨k,M,hk,rfl,hM,HC,own,hbl⟩:=hrel
  have hRk:=hR2.below hbl
  have hsz:=hbl.size
  have y0:=(bx.below hbl).cell 0;have y1:=(bx.below hbl).cell 1;have y2:=(bx.below hbl).cell 2
  simp only [gqA,gqB,gqC] at y0 y1 y2
  by_cases hlt:0<k
  ·obtain ⟨k,rfl⟩:∃j,k=j+1:=⟨k-1,by omega⟩
   have hki:k<b.items.length:=by omega
   cases hq:M.testBit k with
   | true =>
    have HN:Hid (conTo b.items (M ||| maskN (gIt b.items k).parts) k=conN b.items i):=by have:=HC.out;simp only [conTo,hq,if_true] at this;exact this
    have HQ:=Lib.hid hq
    clear hq HC
    go_wp2
    go_loopw [7] (fun x wx=>∃p:Nat,p≤(gIt b.items k).parts.length∧x=.int .i64 p∧OwnBl wx w2.heap.size w2.heap.size b.items.length (M ||| maskTo (gIt b.items k).parts p)∧Below w2.heap.size w2 wx) (fun x _=>(gIt b.items k).parts.length-(intOf x).toNat)
    case atStart=>exact ⟨0,by omega,rfl,by simpa [maskTo] using own,hbl⟩
    case round =>
     clear own hbl hRk hsz y0 y1 y2
     obtain ⟨p,hp,rfl,own,hbl⟩:=hrel
     have hRk:=hR2.below hbl
     have hsz:=hbl.size
     have y0:=(bx.below hbl).cell 0;have y1:=(bx.below hbl).cell 1;have y2:=(bx.below hbl).cell 2
     simp only [gqA,gqB,gqC] at y0 y1 y2
     obtain ⟨ad,rfl,hab,d0,d1⟩:=hRk.it.at_ hki
     have h6:=hb.six k hki
     by_cases hpl:p<(gIt b.items k).parts.length
     ·obtain ⟨ad2,e2,hab2,c0⟩:=(hRk.it.parts k hki).at_ hpl
      rw [e2] at d0
      have hse:=isSet_at (hb.parts k hki) hpl
      obtain ⟨x,hx⟩:∃x:Nat,gi (gIt b.items k).parts p=(x:Int):=⟨(gi (gIt b.items k).parts p).toNat,by omega⟩
      have hxn:x<b.items.length:=by omega
      have z0:=own.cell k hki
      have hbk:(M ||| maskTo (gIt b.items k).parts p).testBit k=true:=by rw [Nat.testBit_or,HQ.out];rfl
      rw [hbk] at z0
      have z1:=own.cell x hxn
      have f1:=own.frozen x
      have own2:=own.stored x hxn
      have he:M ||| maskTo (gIt b.items k).parts p ||| 1 <<< x=M ||| maskTo (gIt b.items k).parts (p+1):=by rw [maskTo_succ,hx,bit_nat,Nat.or_assoc]
      rw [he] at own2
      have hb4:=hbl.setCell (p:=⟨w2.heap.size,x,none⟩) (Nat.le_refl _) (.bool true)
      rw [hx] at c0
      have hpm:((p:Int)<(gIt b.items k).parts.length):=by omega
      clear hbk he hx own hbl
      go_wp2
      go_roundw
      case rel=>exact ⟨p+1,by omega,by go_num,own2,hb4⟩
      case measure=>simp [intOf];omega
     ·obtain rfl:p=(gIt b.items k).parts.length:=by omega
      have hb4:=parts_lt hb hki
      have hM2:(M ||| maskN (gIt b.items k).parts)<2 ^ 20:=or_lt hM (Nat.lt_of_lt_of_le hb4 (Nat.pow_le_pow_right (by omega) (by omega)))
      go_wp2
      go_roundw
      case rel=>exact ⟨k,_,by omega,by go_num,hM2,HN,own,hbl⟩
      case measure=>simp [intOf]
   | false =>
    have HN:Hid (conTo b.items M k=conN b.items i):=by have:=HC.out;simp only [conTo,hq] at this;exact this
    have z0:=own.cell k hki
    rw [hq] at z0
    clear hq HC
    obtain ⟨ad,rfl,hab,d0,d1⟩:=hRk.it.at_ hki
    by_cases hpl:0<(gIt b.items k).parts.length
    all_goals
     go_wp2
     go_loopw [7] (fun x wx=>x=.int .i64 0∧wx=wr) (fun x _=>0)
     case atStart=>exact ⟨rfl,rfl⟩
     case round =>
      obtain ⟨rfl,rfl⟩:=hrel
      go_wp2
      go_roundw
      case rel=>exact ⟨k,M,by omega,by go_num,hM,HN,own,hbl⟩
      case measure=>simp [intOf]
  ·have hk0:k=0:=by omega
   subst hk0
   have hv:M=conN b.items i:=HC.out
   subst hv
   go_wp2
   go_ret
   exact ⟨_,rfl,own_base own (by omega),hy.trans (hbl.mono hy.size)⟩
theorem rbase_any (b:Bk)(hb:BkOk b)(i:Nat)(hi:i<b.items.length)(F:Nat→Prop)(A1 A2:Option Addr)(c1 c2:Nat)(hp hq hr:Nat→SlH)(w:World)(hR:RBk F w A1 A2 b hp hq hr) :
  Calls Tryz.prog 186 #[.agg #[.int .i64 b.props,.slice A1 b.items.length c1,.slice A2 b.rules.length c2],.int .i64 i] w fun e w'=>∃g,e=.returned (.slice (some ⟨g,0,none⟩) b.props.toNat b.props.toNat)∧OwnBl w' w.heap.size g b.props.toNat (basN b i)∧Below w.heap.size w w':=by
 obtain ⟨w2,hw2⟩:∃w2,(w.alloc (.cells #[.int .i64 b.props,.slice A1 b.items.length c1,.slice A2 b.rules.length c2] 30))=w2:=⟨_,rfl⟩
 have hy:Below w.heap.size w w2:=by rw [← hw2];exact (Below.refl _ w).alloc (Nat.le_refl _) _
 have bx:Box w2 w.heap.size #[.int .i64 b.props,.slice A1 b.items.length c1,.slice A2 b.rules.length c2]:=by rw [← hw2];exact (Box.new w _ _)
 have x0:=bx.cell 0;have x1:=bx.cell 1;have x2:=bx.cell 2
 simp only [gqA,gqB,gqC] at x0 x1 x2
 have hR2:=hR.below hy
 have h20:=hb.i20;have hp0:=hb.p0;have hp10:=hb.p10
 have hsw:w.heap.size<w2.heap.size:=bx.lt
 obtain ⟨i0,hi0,hz0,hz1,hz2⟩:=info_parts info_bool
 have hby:i0.bytes*b.props.toNat≤281474976710656:=by rw [hz2];omega
 have hpi:=Lib.hid (show b.props=((b.props.toNat:Nat):Int) by omega)
 go_enter Tryz.func186,Tryz.ntmps186
 go_wp2_with (first
  | (at_make;refine wpList_make_full _ rfl _ _ 250 rfl w2.heap.size 4 i0 _ 1 Tryz.underlying250 hi0 hz0 hz1 .i64 .i64 _ _ b.props.toNat rfl rfl hpi.out hpi.out hby (by unfold maxLen;omega) (Nat.le_refl _) ?_;intro w1 hown1 hg1;have own0:=OwnBl.made hown1;have hb1:Below w2.heap.size w2 w1:=(Below.refl _ _).grown hg1 (Nat.le_refl _) (by simp);have hR1:=hR2.below hb1;have z0:=(bx.below hb1).cell 0;have z1:=(bx.below hb1).cell 1;have z2:=(bx.below hb1).cell 2;simp only [gqA,gqB,gqC] at z0 z1 z2;clear hown1 hg1 x0 x1 x2)
  | (go_at_call 256;(with_reducible refine (inside_any b hb i hi F A1 A2 c1 c2 hp hq hr _ hR1).mono ?_);rintro e w3 ⟨g,rfl,ownI,hb3⟩))
 have own3:=own0.kept hb3 own0.lt.2
 have hb13:=hb1.trans (hb3.mono hb1.size)
 have hgI:=ownI.lt.1
 have hg0:=own0.lt.2
 have hcl:=conN_lt hb hi
 obtain ⟨C,hC⟩:∃C,conN b.items i=C:=⟨_,rfl⟩
 have hBN:Hid (basTo b.items C b.items.length=basN b i):=by show _=_;rw [← hC];rfl
 rw [hC] at ownI
 clear own0 hb1 hb3 z0 z1 z2 hR1
 go_loopw [7] (fun x wr=>∃k:Nat,k≤b.items.length∧x=.int .i64 k∧OwnBl wr w2.heap.size w2.heap.size b.props.toNat (basTo b.items C k)∧OwnBl wr w1.heap.size g b.items.length C∧Below w2.heap.size w2 wr) (fun x _=>b.items.length-(intOf x).toNat)
 case atStart=>exact ⟨0,by omega,rfl,own3,ownI,hb13⟩
 case round =>
  clear own3 ownI hb13
  obtain ⟨k,hk,rfl,own,ownI,hbl⟩:=hrel
  have hRk:=hR2.below hbl
  have hsz:=hbl.size
  have y0:=(bx.below hbl).cell 0;have y1:=(bx.below hbl).cell 1;have y2:=(bx.below hbl).cell 2
  simp only [gqA,gqB,gqC] at y0 y1 y2
  by_cases hlt:k<b.items.length
  ·cases hq:C.testBit k with
   | true =>
    have HN:Hid (basTo b.items C (k+1)=basTo b.items C k ||| maskN (gIt b.items k).has):=by show _=_;simp only [basTo,hq,if_true]
    have HQ:=Lib.hid hq
    clear hq
    go_wp2
    go_loopw [8] (fun x wx=>∃p:Nat,p≤(gIt b.items k).has.length∧x=.int .i64 p∧OwnBl wx w2.heap.size w2.heap.size b.props.toNat (basTo b.items C k ||| maskTo (gIt b.items k).has p)∧OwnBl wx w1.heap.size g b.items.length C∧Below w2.heap.size w2 wx) (fun x _=>(gIt b.items k).has.length-(intOf x).toNat)
    case atStart=>exact ⟨0,by omega,rfl,by simpa [maskTo] using own,ownI,hbl⟩
    case round =>
     clear own ownI hbl hRk hsz y0 y1 y2
     obtain ⟨p,hp,rfl,own,ownI,hbl⟩:=hrel
     have hRk:=hR2.below hbl
     have hsz:=hbl.size
     have y0:=(bx.below hbl).cell 0;have y1:=(bx.below hbl).cell 1;have y2:=(bx.below hbl).cell 2
     simp only [gqA,gqB,gqC] at y0 y1 y2
     obtain ⟨ad,rfl,hab,d0,d1⟩:=hRk.it.at_ hlt
     have hll:=isSet_len (hb.has k hlt) (by omega)
     have z0:=ownI.cell k hlt
     rw [HQ.out] at z0
     by_cases hpl:p<(gIt b.items k).has.length
     ·obtain ⟨ad2,e2,hab2,c0⟩:=(hRk.it.has k hlt).at_ hpl
      rw [e2] at d1
      have hse:=isSet_at (hb.has k hlt) hpl
      obtain ⟨x,hx⟩:∃x:Nat,gi (gIt b.items k).has p=(x:Int):=⟨(gi (gIt b.items k).has p).toNat,by omega⟩
      have hxn:x<b.props.toNat:=by omega
      have z1:=own.cell x hxn
      have f1:=own.frozen x
      have own2:=own.stored x hxn
      have he:basTo b.items C k ||| maskTo (gIt b.items k).has p ||| 1 <<< x=basTo b.items C k ||| maskTo (gIt b.items k).has (p+1):=by rw [maskTo_succ,hx,bit_nat,Nat.or_assoc]
      rw [he] at own2
      have hb4:=hbl.setCell (p:=⟨w2.heap.size,x,none⟩) (Nat.le_refl _) (.bool true)
      have ownI2:OwnBl (wr.setCell ⟨w2.heap.size,x,none⟩ (.bool true)) w1.heap.size g b.items.length C:=ownsRow_setCell_below ownI (show w2.heap.size<w1.heap.size by omega) _
      rw [hx] at c0
      clear he hx own ownI hbl
      go_wp2
      go_roundw
      case rel=>exact ⟨p+1,by omega,by go_num,own2,ownI2,hb4⟩
      case measure=>simp [intOf];omega
     ·obtain rfl:p=(gIt b.items k).has.length:=by omega
      go_wp2
      go_roundw
      case rel=>exact ⟨k+1,by omega,by go_num,by rw [HN.out];exact own,ownI,hbl⟩
      case measure=>simp [intOf];omega
   | false =>
    have HN:Hid (basTo b.items C (k+1)=basTo b.items C k):=by show _=_;simp only [basTo,hq];rfl
    have z0:=ownI.cell k hlt
    rw [hq] at z0
    have hll:=isSet_len (hb.has k hlt) (by omega)
    clear hq
    obtain ⟨ad,rfl,hab,d0,d1⟩:=hRk.it.at_ hlt
    by_cases hpl:0<(gIt b.items k).has.length
    all_goals
     go_wp2
     go_loopw [8] (fun x wx=>x=.int .i64 0∧wx=wr) (fun x _=>0)
     case atStart=>exact ⟨rfl,rfl⟩
     case round =>
      obtain ⟨rfl,rfl⟩:=hrel
      go_wp2
      go_roundw
      case rel=>exact ⟨k+1,by omega,by go_num,by rw [HN.out];exact own,ownI,hbl⟩
      case measure=>simp [intOf];omega
  ·obtain rfl:k=b.items.length:=by omega
   go_wp2
   go_ret
   exact ⟨_,rfl,own_base (by rw [← hBN.out];exact own) (by omega),hy.trans (hbl.mono hy.size)⟩
/-- 'out:=append([]bool{},m...)'. -/
theorem bls_one (l:List Bool):∀u ∈ bls l,u.oneCell'=true:=by
 intro u hu
 obtain ⟨f,_,rfl⟩:=List.mem_map.1 hu
 rfl
theorem places_any (n m:Nat)(hn:n≤1000000)(A:Option Addr)(c:Nat)(w:World)(hm:RB w A n m) :
  Calls Tryz.prog 184 #[.slice A n c] w fun e w'=>∃A' c',e=.returned (.slice A' (bitsTo m n).length c')∧OwnN w' w.heap.size A' c' (bitsTo m n)∧Below w.heap.size w w':=by
 go_enter Tryz.func184,Tryz.ntmps184
 go_wp2
 go_loopw [3,4] (fun o x wr=>∃k:Nat,k≤n∧x=.int .i64 k∧∃A' c',o=.slice A' (bitsTo m k).length c'∧OwnN wr w.heap.size A' c' (bitsTo m k)∧Below w.heap.size w wr) (fun _ x _=>n-(intOf x).toNat)
 case atStart=>exact ⟨0,by omega,rfl,none,0,rfl,World.ownsRow_nil _ _ _ _,Below.refl _ _⟩
 case round =>
  obtain ⟨k,hk,rfl,A',c',rfl,own,hy⟩:=hrel
  have hll:=bitsTo_len m k
  by_cases hlt:k<n
  ·obtain ⟨ad,rfl,hab,e0⟩:=(hm.below hy).at_ hlt
   have hbs:=hy.size
   cases hq:m.testBit k with
   | true =>
    rw [hq] at e0
    have HS:Hid (bitsTo m (k+1)=bitsTo m k ++ [(k:Int)]):=by show _=_;simp only [bitsTo,hq,if_true]
    clear hq
    go_wp2_with (at_builtin;refine wpList_app1 rfl _ _ rfl Tryz.underlying22 info_int rfl (by omega) rfl own rfl rfl (by simp [Value.oneCell']) (by omega) (by omega) (by omega) ?_;intro A'' c'' w3 own3 hb3)
    go_roundw
    case rel=>exact ⟨k+1,by omega,by go_num,A'',c'',by rw [HS.out,List.length_append];rfl,OwnN.snoc own3 rfl (by rw [HS.out]),hy.trans (hb3 _ (Nat.le_refl _))⟩
    case measure=>simp [intOf];omega
   | false =>
    rw [hq] at e0
    have HS:Hid (bitsTo m (k+1)=bitsTo m k):=by show _=_;simp only [bitsTo,hq];rfl
    clear hq
    go_wp2
    go_roundw
    case rel=>exact ⟨k+1,by omega,by go_num,A',c',by rw [HS.out],by rw [HS.out];exact own,hy⟩
    case measure=>simp [intOf];omega
  ·obtain rfl:k=n:=by omega
   go_wp2
   go_ret
   exact ⟨A',c',rfl,own,hy⟩
/-- A slice of the call's own that holds a set as truth values. -/
def OwnBc (w:World)(base:Nat)(A:Option Addr)(c n m:Nat):Prop:=w.ownsRow base 4 1 (.slice A n c) n (bls (blM m n))
section
variable {w w':World}{base n m c:Nat}{A:Option Addr}
theorem OwnBc.reads (h:OwnBc w base A c n m):RB w A n m:=Reads.of_own h
theorem OwnBc.at_ (h:OwnBc w base A c n m){k:Nat}(hk:k<n):∃g,A=some ⟨g,0,none⟩∧base≤g∧g<w.heap.size∧w.cell? ⟨g,k,none⟩=some (.bool (m.testBit k))∧w.frozen? ⟨g,k,none⟩=false∧OwnBc (w.setCell ⟨g,k,none⟩ (.bool true)) base A c n (m ||| 1 <<< k):=by
 rcases h.2 with ⟨h1,h2⟩ | ⟨g,cap,cur,h1,hbg,hg,hrest⟩
 ·omega
 ·injection h1 with h1 _ hc
  subst h1
  subst hc
  have hlt:=World.ownsRow.lt h g rfl
  refine ⟨g,rfl,hlt.1,hlt.2,?_,World.ownsRow.frozenAt h _,?_⟩
  ·have e:=World.ownsRow.cellAt h k (by omega)
   rw [e]
   simp [bls,blM,hk]
  ·have e:=(World.ownsRow.stored h k (.bool true)).1
   unfold OwnBc
   rw [← blM_set m n k hk]
   have:bls ((blM m n).set k true)=(bls (blM m n)).set k (.bool true):=by simp [bls]
   rw [this]
   exact e
end
theorem closed_any (b:Bk)(hb:BkOk b)(hL:BkLen b)(m0:Nat)(h0:m0<2 ^ b.props.toNat)(F:Nat→Prop)(A1 A2:Option Addr)(c1 c2:Nat)(hr:Nat→SlH)(w:World)(hR:RRl F w A2 b.rules hr)(hm:RB w A1 b.props.toNat m0) :
  Calls Tryz.prog 185 #[.slice A2 b.rules.length c2,.slice A1 b.props.toNat c1] w fun e w'=>∃A c,e=.returned (.slice A b.props.toNat c)∧OwnBc w' w.heap.size A c b.props.toNat (cloN b.rules m0)∧Below w.heap.size w w':=by
 have l2:=hb.r16
 have hp0:=hb.p0;have hp10:=hb.p10
 obtain ⟨i0,hi0,hz0,hz1,hz2⟩:=info_parts info_bool
 have h00:(w.alloc (.cells #[] 4)).ownsRow w.heap.size 4 1 (.slice (some ⟨w.heap.size,0,none⟩) 0 0) 0 []:=World.ownsRow_lit w #[] 0 (Nat.le_refl _) (by unfold maxLen;omega) rfl
 have hb0:Below w.heap.size w (w.alloc (.cells #[] 4)):=(Below.refl _ _).alloc (Nat.le_refl _) _
 go_enter Tryz.func185,Tryz.ntmps185
 go_wp2_with (at_builtin;refine wpList_append_any _ rfl _ _ 250 rfl w.heap.size 4 i0 _ 1 1 Tryz.underlying250 hi0 hz0 hz1 hz2 rfl (by omega) _ 0 [] rfl h00 _ A1 b.props.toNat c1 (bls (blM m0 b.props.toNat)) rfl (hm.below hb0) (bls_one _) (by unfold maxLen;omega) (by omega) hb0.size ?_;intro v' w2 own2 hg2 hat2)
 obtain ⟨A',c',rfl⟩:=own_shape own2
 have hb2:Below w.heap.size w w2:=hb0.grown hg2 hb0.size (fun k hk=>by have e:(some w.heap.size:Option Nat)=some k:=hk;cases e;exact Nat.le_refl _)
 rw [Nat.zero_add] at own2
 simp only [Nat.zero_add]
 rw [List.nil_append] at own2
 have own1:OwnBc w2 w.heap.size A' c' b.props.toNat m0:=own2
 clear own2 hg2 hat2 h00 hb0
 go_loopg [6] 11 (fun g x wr=>∃(M:Nat) (ag:Bool),x=.bool ag∧Hid (Mid b.rules m0 M)∧Hid (ag=true→holes M 10+1≤g)∧Hid (ag=false→noneTo b.rules M b.rules.length=true)∧OwnBc wr w.heap.size A' c' b.props.toNat M∧Below w.heap.size w wr)
 case atStart=>exact ⟨m0,true,rfl,Mid.start _ _,Lib.hid (fun _=>by have:=holes_le m0 10;omega),Lib.hid (fun h=>by cases h),own1,hb2⟩
 case round =>
  clear own1 hb2
  obtain ⟨G,rfl⟩:∃G,G=gk:=⟨_,rfl⟩
  obtain ⟨M,ag,rfl,HM,H1,H2,own,hbl⟩:=hrel
  cases ag with
  | false =>
   have hv:=Lib.hid (cloN_is (rules_ten hb) HM.out (H2.out rfl))
   go_wp2
   try rw [Exit.noGoto_ret]
   go_ret
   exact ⟨A',c',rfl,by rw [← hv.out];exact own,hbl⟩
  | true =>
   have hG:=H1.out rfl
   obtain ⟨G',rfl⟩:∃G',G=G' + 1:=⟨G-1,by omega⟩
   have HG:=Lib.hid hG
   clear H1 H2 hG
   go_wp2
   go_loopg [6,7] b.rules.length (fun g2 y x wx=>∃(j K:Nat) (ag:Bool),j+g2=b.rules.length∧x=.int .i64 j∧y=.bool ag∧Hid (Mid b.rules m0 K)∧Hid (ag=false→K=M∧noneTo b.rules M j=true)∧Hid (ag=true→holes K 10<holes M 10)∧OwnBc wx w.heap.size A' c' b.props.toNat K∧Below w.heap.size w wx)
   case atStart=>exact ⟨0,M,false,by omega,rfl,rfl,HM,Lib.hid (fun _=>⟨rfl,rfl⟩),Lib.hid (fun h=>by cases h),own,hbl⟩
   case round =>
    clear own hbl
    obtain ⟨j,K,ag,hj,rfl,rfl,HK,H3,H4,own,hbl⟩:=hrel
    have hRk:=hR.below hbl
    have hsz:=hbl.size
    cases gk with
    | zero =>
     obtain rfl:j=b.rules.length:=by omega
     have hc1:ag=true→holes K 10+1≤G':=fun h=>by have:=H4.out h;have:=HG.out;omega
     have hc2:ag=false→noneTo b.rules K b.rules.length=true:=fun h=>by obtain ⟨e,h'⟩:=H3.out h;rw [e];exact h'
     go_wp2
     go_roundg G'
     case measure=>omega
     case rel=>exact ⟨K,ag,rfl,HK,hc1,hc2,own,hbl⟩
    | succ g2 =>
     have hlt:j<b.rules.length:=by omega
     obtain ⟨ad,rfl,hab,d0,d1⟩:=hRk.at_ hlt
     obtain ⟨t0,t1⟩:=rules_ten hb j hlt
     have tp:=hb.t1 j hlt
     obtain ⟨x,hx⟩:∃x:Nat,(gRl b.rules j).thn=(x:Int):=⟨(gRl b.rules j).thn.toNat,by omega⟩
     have hxn:x<b.props.toNat:=by omega
     have hxt:(gRl b.rules j).thn.toNat=x:=by omega
     obtain ⟨g,rfl,hbg,hgs,z0,f0,own4⟩:=own.at_ hxn
     rw [hx] at d1
     have hib:∀i,i<(gRl b.rules j).iff.length→0≤gi (gRl b.rules j).iff i∧gi (gRl b.rules j).iff i<b.props.toNat:=fun i hi=>by have:=isSet_at (hb.iff j hlt) hi;omega
     have lp:=hL.iff j hlt
     cases hq:K.testBit x with
     | true =>
      rw [hq] at z0
      have hnn:newR (gRl b.rules j) K=false:=by unfold newR;rw [hxt,hq];simp
      have hc1:ag=false→K=M∧noneTo b.rules M (j+1)=true:=fun h=>by
       obtain ⟨e,h'⟩:=H3.out h
       subst e
       exact ⟨rfl,by simp [noneTo,h',hnn]⟩
      have HC:=Lib.hid hc1
      clear hq hnn hc1 H3 hx hxt t0 t1 tp
      go_wp2
      go_roundg g2
      case measure=>omega
      case rel=>exact ⟨j+1,K,ag,by omega,by go_num,rfl,HK,HC,H4,own,hbl⟩
     | false =>
      rw [hq] at z0
      cases ha:allIn (gRl b.rules j).iff K with
      | false =>
       have hnn:newR (gRl b.rules j) K=false:=by unfold newR;rw [ha];rfl
       have hc1:ag=false→K=M∧noneTo b.rules M (j+1)=true:=fun h=>by
        obtain ⟨e,h'⟩:=H3.out h
        subst e
        exact ⟨rfl,by simp [noneTo,h',hnn]⟩
       have HC:=Lib.hid hc1
       clear hq hnn hc1 H3 hx hxt t0 t1 tp
       go_wp2_with (go_at_call 255;(with_reducible refine (all_any K b.props.toNat _ hib lp _ _ _ _ _ own.reads (hRk.iff j hlt).rn (by omega)).mono ?_);rintro e w' ⟨rfl,rfl⟩;rw [ha])
       go_roundg g2
       case measure=>omega
       case rel=>exact ⟨j+1,K,ag,by omega,by go_num,rfl,HK,HC,H4,own,hbl⟩
      | true =>
       have hst:=HK.out.step hlt ha
       have hlh:=holes_lt K (n:=10) (x:=(gRl b.rules j).thn) (by omega) (by rw [hxt];exact hq)
       have hbx:bit (gRl b.rules j).thn=1 <<< x:=by rw [hx,bit_nat]
       rw [hbx] at hst hlh
       have hle:holes K 10≤holes M 10:=by
        cases ag with
        | true=>exact Nat.le_of_lt (H4.out rfl)
        | false=>rw [(H3.out rfl).1];exact Nat.le_refl _
       have HC:Hid (holes (K ||| 1 <<< x) 10<holes M 10):=by show _<_;omega
       have HST:=Lib.hid hst
       clear hq hst hlh hle hbx H3 H4 hx hxt t0 t1 tp
       have hb4:=hbl.setCell (p:=⟨g,x,none⟩) hbg (.bool true)
       go_wp2_with (go_at_call 255;(with_reducible refine (all_any K b.props.toNat _ hib lp _ _ _ _ _ own.reads (hRk.iff j hlt).rn (by omega)).mono ?_);rintro e w' ⟨rfl,rfl⟩;rw [ha])
       go_roundg g2
       case measure=>omega
       case rel=>exact ⟨j+1,_,true,by omega,by go_num,rfl,HST,Lib.hid (fun h=>by cases h),Lib.hid (fun _=>HC.out),own4,hb4⟩
theorem bitsL_of {m n:Nat}(h:m<2 ^ n)(hn:n≤20):bitsTo m n=bitsL m:=(bitsTo_more m h 20 hn).symm
theorem rnamed_any (b:Bk)(hL:BkLen b)(i:Int)(F:Nat→Prop)(A1 A2:Option Addr)(c1 c2:Nat)(hp hq hr:Nat→SlH)(w:World)(hR:RBk F w A1 A2 b hp hq hr) :
  Calls Tryz.prog 183 #[.agg #[.int .i64 b.props,.slice A1 b.items.length c1,.slice A2 b.rules.length c2],.int .i64 i] w fun e w'=>e=.returned (.int .i64 (nmE b i))∧Below w.heap.size w w':=by
 obtain ⟨S,hS⟩:∃S,S=nmE b i:=⟨_,rfl⟩
 rw [← hS]
 have HS:=Lib.hid hS;clear hS
 obtain ⟨w2,hw2⟩:∃w2,(w.alloc (.cells #[.int .i64 b.props,.slice A1 b.items.length c1,.slice A2 b.rules.length c2] 30))=w2:=⟨_,rfl⟩
 have hy:Below w.heap.size w w2:=by rw [← hw2];exact (Below.refl _ w).alloc (Nat.le_refl _) _
 have bx:Box w2 w.heap.size #[.int .i64 b.props,.slice A1 b.items.length c1,.slice A2 b.rules.length c2]:=by rw [← hw2];exact (Box.new w _ _)
 have x0:=bx.cell 0;have x1:=bx.cell 1;have x2:=bx.cell 2
 simp only [gqA,gqB,gqC] at x0 x1 x2
 have hR2:=hR.below hy
 have l1:=hL.it;have l2:=hL.rl
 have hsw:w.heap.size<w2.heap.size:=bx.lt
 by_cases hv:bkE b=0
 ·have hb0:(bkE b != 0)=false:=by simp [hv]
  have hE:S=if inB i 0 ((b.items.length:Int)-1) then 0 else 5:=by rw [HS.out];unfold nmE;rw [if_neg (by rw [hv];decide)]
  have HE:=Lib.hid hE
  clear hE HS hv
  by_cases p0:0≤i
  ·by_cases p1:i<b.items.length
   all_goals
    go_enter Tryz.func183,Tryz.ntmps183
    go_wp2_with (go_at_call 130;(with_reducible refine (rvalidBk_any b hL F A1 A2 c1 c2 hp hq hr _ hR2).mono ?_);rintro e w3 ⟨rfl,hb3⟩;have z1:=(bx.below hb3).cell 1;simp only [gqA,gqB,gqC] at z1;have hs3:=hb3.size;clear x0 x1 x2)
    go_ret
    refine ⟨ret_int ?_,hy.trans (hb3.mono hy.size)⟩
    rw [HE.out];first | rw [inB_true.2 (by omega)];rfl | rw [inB_false.2 (by omega)];rfl
  ·go_enter Tryz.func183,Tryz.ntmps183
   go_wp2_with (go_at_call 130;(with_reducible refine (rvalidBk_any b hL F A1 A2 c1 c2 hp hq hr _ hR2).mono ?_);rintro e w3 ⟨rfl,hb3⟩;have z1:=(bx.below hb3).cell 1;simp only [gqA,gqB,gqC] at z1;have hs3:=hb3.size;clear x0 x1 x2)
   go_ret
   refine ⟨ret_int ?_,hy.trans (hb3.mono hy.size)⟩
   rw [HE.out,inB_false.2 (by omega)];rfl
 ·have hb0:(bkE b != 0)=true:=by simp [hv]
  have hE:S=bkE b:=by rw [HS.out];unfold nmE;rw [if_pos hv]
  have HE:=Lib.hid hE
  clear hE HS hv
  go_enter Tryz.func183,Tryz.ntmps183
  go_wp2_with (go_at_call 130;(with_reducible refine (rvalidBk_any b hL F A1 A2 c1 c2 hp hq hr _ hR2).mono ?_);rintro e w3 ⟨rfl,hb3⟩)
  go_ret
  exact ⟨ret_int (by rw [HE.out]),hy.trans (hb3.mono hy.size)⟩
theorem rLabel_any (b:Bk)(hL:BkLen b)(i:Int)(F:Nat→Prop)(A1 A2:Option Addr)(c1 c2:Nat)(hp hq hr:Nat→SlH)(w:World)(hR:RBk F w A1 A2 b hp hq hr) :
  Calls Tryz.prog 106 #[.agg #[.int .i64 b.props,.slice A1 b.items.length c1,.slice A2 b.rules.length c2],.int .i64 i] w fun e w'=>∃A' c',e=.returned (.tuple #[.slice A' (labR b i).length c',.int .i64 (nmE b i)])∧OwnN w' w.heap.size A' c' (labR b i)∧Below w.heap.size w w':=by
 obtain ⟨w2,hw2⟩:∃w2,(w.alloc (.cells #[.int .i64 b.props,.slice A1 b.items.length c1,.slice A2 b.rules.length c2] 30))=w2:=⟨_,rfl⟩
 have hy:Below w.heap.size w w2:=by rw [← hw2];exact (Below.refl _ w).alloc (Nat.le_refl _) _
 have bx:Box w2 w.heap.size #[.int .i64 b.props,.slice A1 b.items.length c1,.slice A2 b.rules.length c2]:=by rw [← hw2];exact (Box.new w _ _)
 have x0:=bx.cell 0;have x1:=bx.cell 1;have x2:=bx.cell 2
 simp only [gqA,gqB,gqC] at x0 x1 x2
 have hR2:=hR.below hy
 have hsw:w.heap.size<w2.heap.size:=bx.lt
 by_cases hv:nmE b i=0
 ·obtain ⟨hb,i0,i1⟩:=nmE_ok hv
  obtain ⟨n,rfl⟩:∃n:Nat,i=n:=⟨i.toNat,by omega⟩
  have hn:n<b.items.length:=by omega
  have hp0:=hb.p0;have hp10:=hb.p10
  have hl:labR b n=bitsTo (labN b n) b.props.toNat:=by unfold labR;rw [if_pos hv];exact (bitsL_of (labN_lt hb n) (by omega)).symm
  have hbl:=basN_lt hb n
  rw [hl,hv]
  clear hl
  have HV:=Lib.hid hv;clear hv
  go_enter Tryz.func106,Tryz.ntmps106
  go_wp2_with (go_at_call 183;(with_reducible refine (rnamed_any b hL n F A1 A2 c1 c2 hp hq hr _ hR2).mono ?_);rintro e w3 ⟨rfl,hb3⟩;rw [HV.out];have z0:=(bx.below hb3).cell 0;have z1:=(bx.below hb3).cell 1;have z2:=(bx.below hb3).cell 2;simp only [gqA,gqB,gqC] at z0 z1 z2;have hs3:=hb3.size;clear x0 x1 x2)
  have hR3:RBk F w3.drew A1 A2 b hp hq hr:=(hR2.below hb3).below (Below.refl _ _).drew
  go_region_held3 (fun w'=>w'.cell? ⟨w.heap.size,0,none⟩=some (.int .i64 b.props)∧w'.cell? ⟨w.heap.size,1,none⟩=some (.slice A1 b.items.length c1)∧w'.cell? ⟨w.heap.size,2,none⟩=some (.slice A2 b.rules.length c2))
   (first | go_keep | (go_split_ands;refine ⟨?_,?_,?_⟩ <;> (rw [hb4.cell (by first | omega | (simp;omega))];go_keep)) | (go_split_ands;refine ⟨?_,?_,?_⟩ <;> (rw [hb5.cell (by first | omega | (simp;omega))];go_keep)) | (go_split_ands;refine ⟨?_,?_,?_⟩ <;> (rw [hb6.cell (by first | omega | (simp;omega))];go_keep)))
   (first | (go_at_call 186;(with_reducible refine (rbase_any b hb n hn F A1 A2 c1 c2 hp hq hr _ hR3).mono ?_);rintro e w4 ⟨g,rfl,own4,hb4⟩;have hs4:w3.heap.size≤w4.heap.size:=hb4.size) | (go_at_call 185;(with_reducible refine (closed_any b hb hL _ hbl F _ A2 _ c2 hr _ (hR3.rl.below hb4) (RB.of_own own4)).mono ?_);rintro e w5 ⟨A5,c5,rfl,own5,hb5⟩;have hs5:w4.heap.size≤w5.heap.size:=hb5.size) | (go_at_call 184;(with_reducible refine (places_any b.props.toNat _ (by omega) A5 c5 _ own5.reads).mono ?_);rintro e w6 ⟨A6,c6,rfl,own6,hb6⟩;have hs6:w5.heap.size≤w6.heap.size:=hb6.size))
  all_goals
   go_wp2_with fail
   go_ret2
   exact ⟨A6,c6,rfl,own_base own6 (by omega),hy.trans ((hb3.trans (((Below.refl w3.heap.size w3).drew.trans (hb4.trans ((hb5.trans (hb6.mono hs5)).mono hs4))).mono hs3)).mono hy.size)⟩
 ·have hb0:(nmE b i != 0)=true:=by simp [hv]
  have hl:labR b i=[]:=by unfold labR;rw [if_neg hv]
  rw [hl]
  clear hl hv
  go_enter Tryz.func106,Tryz.ntmps106
  go_wp2_with (go_at_call 183;(with_reducible refine (rnamed_any b hL i F A1 A2 c1 c2 hp hq hr _ hR2).mono ?_);rintro e w3 ⟨rfl,hb3⟩)
  go_ret2
  exact ⟨none,0,rfl,World.ownsRow_nil _ _ _ _,hy.trans (hb3.mono hy.size)⟩
theorem iff_ten {b:Bk}(hb:BkOk b){i k:Nat}(hi:i<b.rules.length)(hk:k<(gRl b.rules i).iff.length):0≤gi (gRl b.rules i).iff k∧gi (gRl b.rules i).iff k<10:=by
 have h1:=isSet_at (hb.iff i hi) hk
 have h2:=hb.p10
 omega
theorem lt_ten {b:Bk}(hb:BkOk b){m:Nat}(h:m<2 ^ b.props.toNat):m<2 ^ 10:=Nat.lt_of_lt_of_le h (Nat.pow_le_pow_right (by omega) (by have:=hb.p10;omega))
theorem closure_any (b:Bk)(hb:BkOk b)(hL:BkLen b)(m0:Nat)(h0:m0<2 ^ b.props.toNat)(F:Nat→Prop)(A2:Option Addr)(c2:Nat)(hr:Nat→SlH)(w:World)(hR:RRl F w A2 b.rules hr) :
  Calls Tryz.prog 190 #[.slice A2 b.rules.length c2,.int .i64 m0,.int .i64 (-1)] w fun e w'=>e=.returned (.int .i64 (cloN b.rules m0))∧Below w.heap.size w w':=by
 have l2:=hb.r16
 go_enter Tryz.func190,Tryz.ntmps190
 go_wp2;go_step3;go_wp2;go_step3;go_wp2
 go_loopg [1] 10 (fun g m wr=>∃M:Nat,m=.int .i64 M∧Hid (Mid b.rules m0 M)∧holes M 10≤g∧Below w.heap.size w wr)
 case atStart=>exact ⟨m0,rfl,Mid.start _ _,holes_le _ _,Below.refl _ _⟩
 case round =>
  obtain ⟨G,rfl⟩:∃G,G=gk:=⟨_,rfl⟩
  obtain ⟨w1,rfl⟩:∃w1,w1=wr:=⟨_,rfl⟩
  obtain ⟨M,rfl,HM,hh,hbl⟩:=hrel
  have hM10:=lt_ten hb (mid_lt hb h0 HM.out)
  have hM:M<2 ^ 20:=by omega
  go_wp2
  go_loopg [1,13] b.rules.length (fun g2 y x wx=>∃j:Nat,j+g2=b.rules.length∧x=.int .i64 j∧y=.int .i64 M∧Hid (noneTo b.rules M j=true)∧Below w.heap.size w wx)
  case atStart=>exact ⟨0,by omega,rfl,rfl,rfl,hbl⟩
  case round =>
   clear hbl
   obtain ⟨j,hj,rfl,rfl,HJ,hbl⟩:=hrel
   have hRk:=hR.below hbl
   have hsz:=hbl.size
   cases gk with
   | zero =>
    obtain rfl:j=b.rules.length:=by omega
    have hv:=Lib.hid (cloN_is (rules_ten hb) HM.out HJ.out)
    go_wp2
    try rw [Exit.noGoto_ret]
    go_ret
    exact ⟨ret_int (by rw [← hv.out]),hbl⟩
   | succ g2 =>
    have hlt:j<b.rules.length:=by omega
    obtain ⟨ad,rfl,hab,d0,d1⟩:=hRk.at_ hlt
    obtain ⟨A3,hA3⟩:∃A3,(hr j).1=A3:=⟨_,rfl⟩
    have r0:=(hRk.iff j hlt).rn
    rw [hA3] at d0 r0
    clear hA3
    obtain ⟨w5,hw5⟩:∃w5,wr.alloc (.cells #[.slice A3 (gRl b.rules j).iff.length (hr j).2,.int .i64 (gRl b.rules j).thn] 166)=w5:=⟨_,rfl⟩
    have hb5:Below wr.heap.size wr w5:=by rw [← hw5];exact (Below.refl _ wr).alloc (Nat.le_refl _) _
    have b5:Box w5 wr.heap.size #[.slice A3 (gRl b.rules j).iff.length (hr j).2,.int .i64 (gRl b.rules j).thn]:=by rw [← hw5];exact (Box.new wr _ _)
    have u0:=b5.cell 0;have u1:=b5.cell 1;have f1:=b5.free 1
    simp only [gqA,gqB,gqC] at u0 u1
    have r1:=r0.below hb5
    have lp:=hL.iff j hlt
    have s5:=b5.lt
    have hk5:=hbl.trans (hb5.mono hsz)
    obtain ⟨t0,t1⟩:=rules_ten hb j hlt
    go_wp2
    go_loopg [20] (gRl b.rules j).iff.length (fun g3 x wx=>∃p:Nat,p+g3=(gRl b.rules j).iff.length∧x=.int .i64 p∧Hid (allTo (gRl b.rules j).iff M p=true)∧wx=w5)
    case atStart=>exact ⟨0,by omega,rfl,rfl,rfl⟩
    case round =>
     obtain ⟨g3,rfl⟩:∃g3,g3=gk:=⟨_,rfl⟩
     obtain ⟨p,hp,rfl,HP,rfl⟩:=hrel
     cases g3 with
     | zero =>
      obtain rfl:p=(gRl b.rules j).iff.length:=by omega
      have hti:=test_all (gRl b.rules j).thn.toNat
      have htn:=test_not (gRl b.rules j).thn.toNat hM
      cases hq:M.testBit (gRl b.rules j).thn.toNat with
      | true =>
       rw [hq] at htn
       simp only [Bool.not_true] at htn
       have HN:Hid (noneTo b.rules M (j+1)=true):=by
        show noneTo b.rules M (j+1)=true
        have h1:newR (gRl b.rules j) M=false:=by unfold newR;rw [hq];simp
        simp [noneTo,HJ.out,h1]
       clear hq
       go_wp2
       go_roundg g2
       case measure=>omega
       case rel=>exact ⟨j+1,by omega,by go_num,rfl,HN,hk5⟩
      | false =>
       rw [hq] at htn
       simp only [Bool.not_false] at htn
       have hlt2:=holes_lt M (n:=10) (x:=(gRl b.rules j).thn) (by omega) hq
       obtain ⟨G',rfl⟩:∃G',G=G' + 1:=⟨G-1,by omega⟩
       have HO:=Lib.hid (or_bit hM t0 (by omega:(gRl b.rules j).thn<20))
       have HN:=Lib.hid (HM.out.step hlt HP.out)
       clear hq
       go_wp2
       go_roundg G'
       case measure=>omega
       case rel=>exact ⟨_,congrArg _ HO.out,HN,by omega,hk5⟩
     | succ g3 =>
      have hpl:p<(gRl b.rules j).iff.length:=by omega
      obtain ⟨ad2,rfl,hab2,c0⟩:=r1.at_ hpl
      obtain ⟨x0,x1⟩:=iff_ten hb hlt hpl
      have ht:=test_not (gi (gRl b.rules j).iff p).toNat hM
      cases hq:M.testBit (gi (gRl b.rules j).iff p).toNat with
      | true =>
       rw [hq] at ht
       simp only [Bool.not_true] at ht
       have HN:Hid (allTo (gRl b.rules j).iff M (p+1)=true):=by
        show allTo (gRl b.rules j).iff M (p+1)=true
        simp [allTo,HP.out,hq]
       clear hq
       go_wp2
       go_roundg g3
       case measure=>omega
       case rel=>exact ⟨p+1,by omega,by go_num,HN,rfl⟩
      | false =>
       rw [hq] at ht
       simp only [Bool.not_false] at ht
       have HN:Hid (noneTo b.rules M (j+1)=true):=by
        show noneTo b.rules M (j+1)=true
        have h1:newR (gRl b.rules j) M=false:=by unfold newR allIn;rw [allTo_bad _ _ hq hpl];rfl
        simp [noneTo,HJ.out,h1]
       clear hq
       go_wp2
       go_roundg g2
       case measure=>omega
       case rel=>exact ⟨j+1,by omega,by go_num,rfl,HN,hk5.setCell (by exact hsz) _⟩
def hasL (b:Bk)(l:List Int):Nat→Nat
 | 0=>0
 | k+1=>hasL b l k ||| maskN (gIt b.items (gi l k).toNat).has
theorem hasL_test (b:Bk)(l:List Int)(k p:Nat):(hasL b l k).testBit p=true ↔ ∃i,i<k∧(maskN (gIt b.items (gi l i).toNat).has).testBit p=true:=by
 induction k with
 | zero=>simp [hasL]
 | succ k ih =>
  simp only [hasL,Nat.testBit_or,Bool.or_eq_true,ih]
  constructor
  ·rintro (⟨i,hi,h⟩ | h)
   ·exact ⟨i,by omega,h⟩
   ·exact ⟨k,by omega,h⟩
  ·rintro ⟨i,hi,h⟩
   by_cases e:i=k
   ·subst e;exact .inr h
   ·exact .inl ⟨i,by omega,h⟩
theorem basTo_test (l:List It)(m n p:Nat):(basTo l m n).testBit p=true ↔ ∃i,i<n∧m.testBit i=true∧(maskN (gIt l i).has).testBit p=true:=by
 induction n with
 | zero=>simp [basTo]
 | succ n ih =>
  simp only [basTo]
  constructor
  ·intro h
   split at h
   ·rename_i hm
    rw [Nat.testBit_or,Bool.or_eq_true,ih] at h
    rcases h with ⟨i,h1,h2,h3⟩ | h
    ·exact ⟨i,by omega,h2,h3⟩
    ·exact ⟨n,by omega,hm,h⟩
   ·rw [ih] at h
    obtain ⟨i,h1,h2,h3⟩:=h
    exact ⟨i,by omega,h2,h3⟩
  ·rintro ⟨i,h1,h2,h3⟩
   by_cases e:i=n
   ·subst e
    rw [if_pos h2,Nat.testBit_or,h3,Bool.or_true]
   ·have:=ih.2 ⟨i,by omega,h2,h3⟩
    split
    ·rw [Nat.testBit_or,this,Bool.true_or]
    ·exact this
theorem hasL_all {b:Bk}(hb:BkOk b){i:Nat}(hi:i<b.items.length):hasL b (bitsL (conN b.items i)) (bitsL (conN b.items i)).length=basN b i:=by
 have hlt:=conN_lt hb hi
 have h20:=hb.i20
 apply Nat.eq_of_testBit_eq
 intro p
 rw [Bool.eq_iff_iff,hasL_test]
 unfold basN
 rw [basTo_test]
 constructor
 ·rintro ⟨j,hj,h⟩
  obtain ⟨g0,g1,g2⟩:=bitsL_at _ hj
  refine ⟨(gi (bitsL (conN b.items i)) j).toNat,?_,g2,h⟩
  by_cases hh:(gi (bitsL (conN b.items i)) j).toNat<b.items.length
  ·exact hh
  ·rw [Nat.testBit_lt_two_pow (Nat.lt_of_lt_of_le hlt (Nat.pow_le_pow_right (by omega) (by omega)))] at g2
   cases g2
 ·rintro ⟨j,hj,h2,h3⟩
  have hm:(j:Int) ∈ bitsL (conN b.items i):=(bitsTo_mem _ _ _).2 ⟨j,by omega,h2,rfl⟩
  obtain ⟨k,hk,he⟩:=List.mem_iff_getElem.1 hm
  rw [gi_getElem] at he
  exact ⟨k,hk,by rw [he];simpa using h3⟩
theorem hasL_lt {b:Bk}(hb:BkOk b){l:List Int}(hl:∀j,j<l.length→(gi l j).toNat<b.items.length):∀k,k≤l.length→hasL b l k<2 ^ 10
 | 0,_=>by simp [hasL]
 | k+1,hk=>by
  simp only [hasL]
  exact or_lt (hasL_lt hb hl k (by omega)) (Nat.lt_of_lt_of_le (has_lt hb (hl k (by omega))) (Nat.pow_le_pow_right (by omega) (by have:=hb.p10;omega)))
theorem base_any (b:Bk)(hb:BkOk b)(hL:BkLen b)(i:Nat)(hi:i<b.items.length)(F:Nat→Prop)(A1 A2:Option Addr)(c1 c2:Nat)(hp hq hr:Nat→SlH)(w:World)(hE:EnvZ w)(hR:RBk F w A1 A2 b hp hq hr) :
  Calls Tryz.prog 191 #[.agg #[.int .i64 b.props,.slice A1 b.items.length c1,.slice A2 b.rules.length c2],.int .i64 i] w fun e w'=>e=.returned (.int .i64 (basN b i))∧Below w.heap.size w w':=by
 obtain ⟨w2,hw2⟩:∃w2,(w.alloc (.cells #[.int .i64 b.props,.slice A1 b.items.length c1,.slice A2 b.rules.length c2] 30))=w2:=⟨_,rfl⟩
 have hy:Below w.heap.size w w2:=by rw [← hw2];exact (Below.refl _ w).alloc (Nat.le_refl _) _
 have bx:Box w2 w.heap.size #[.int .i64 b.props,.slice A1 b.items.length c1,.slice A2 b.rules.length c2]:=by rw [← hw2];exact (Box.new w _ _)
 have x0:=bx.cell 0;have x1:=bx.cell 1;have x2:=bx.cell 2
 simp only [gqA,gqB,gqC] at x0 x1 x2
 have hR2:=hR.below hy
 have hE2:=hE.below hy
 have h20:=hb.i20
 have hcl:=conN_lt hb hi
 have hc20:conN b.items i<2 ^ 20:=Nat.lt_of_lt_of_le hcl (Nat.pow_le_pow_right (by omega) h20)
 have hall:=Lib.hid (hasL_all hb hi)
 obtain ⟨L,hLL⟩:∃L,bitsL (conN b.items i)=L:=⟨_,rfl⟩
 have hLn:∀j,j<L.length→0≤gi L j∧(gi L j).toNat<b.items.length:=fun j hj=>by
  subst hLL
  obtain ⟨g0,g1,g2⟩:=bitsL_at _ hj
  refine ⟨g0,?_⟩
  by_cases hh:(gi (bitsL (conN b.items i)) j).toNat<b.items.length
  ·exact hh
  ·rw [Nat.testBit_lt_two_pow (Nat.lt_of_lt_of_le hcl (Nat.pow_le_pow_right (by omega) (by omega)))] at g2
   cases g2
 have hLl:L.length≤20:=by rw [← hLL];exact bitsL_len _
 go_enter Tryz.func191,Tryz.ntmps191
 go_wp2_with (first
  | (go_at_call 261;(with_reducible refine (contained_any b hb i hi F A1 A2 c1 c2 hp hq hr _ hR2).mono ?_);rintro e w3 ⟨rfl,hb3⟩;have hE3:=hE2.below hb3)
  | (go_at_call 121;(with_reducible refine (list_any (conN b.items i) hc20 _ hE3).mono ?_);rintro e w4 ⟨A',c',rfl,own,hb4⟩;have hb24:=hb3.trans (hb4.mono hb3.size);have bx4:=bx.below hb24;have hR4:=hR2.below hb24))
 rw [hLL] at own
 rw [hLL] at hall
 have y1:=bx4.cell 1
 simp only [gqA,gqB,gqC] at y1
 have hRL:=RN.of_own own
 clear x0 x1 x2
 go_wp2
 go_loop [5,13] (fun m x=>∃k:Nat,k≤L.length∧x=.int .i64 k∧m=.int .i64 (hasL b L k:Nat)) (fun _ x=>L.length-(intOf x).toNat)
 case atStart=>exact ⟨0,by omega,rfl,rfl⟩
 case round =>
  obtain ⟨k,hk,rfl,rfl⟩:=hrel
  by_cases hlt:k<L.length
  ·obtain ⟨ad,rfl,hab,c0⟩:=hRL.at_ hlt
   obtain ⟨n0,n1⟩:=hLn k hlt
   obtain ⟨x,hx⟩:∃x:Nat,gi L k=(x:Int):=⟨(gi L k).toNat,by omega⟩
   have hxt:(gi L k).toNat=x:=by omega
   rw [hxt] at n1
   rw [hx] at c0
   obtain ⟨ad2,rfl,hab2,d0,d1⟩:=hR4.it.at_ n1
   have r1:=(hR4.it.has x n1).rn
   have hm:hasL b L k<2 ^ 20:=Nat.lt_of_lt_of_le (hasL_lt hb (fun j hj=>(hLn j hj).2) k hk) (by decide)
   have hpr:maskN (gIt b.items x).has<2 ^ 20:=Nat.lt_of_lt_of_le (has_lt hb n1) (Nat.pow_le_pow_right (by omega) (by have:=hb.p10;omega))
   have hpe:∀j,j<(gIt b.items x).has.length→0≤gi (gIt b.items x).has j∧gi (gIt b.items x).has j<20:=fun j hj=>by have:=isSet_at (hb.has x n1) hj;have:=hb.p10;omega
   have lh:=hL.has x n1
   have lh2:(gIt b.items x).has.length≤1000000:=by have:=isSet_len (hb.has x n1) (by have:=hb.p0;omega);have:=hb.p10;omega
   have HO:=Lib.hid (or_mask hm hpr)
   have HS:Hid (hasL b L (k+1)=hasL b L k ||| maskN (gIt b.items x).has):=by show hasL b L (k+1)=_;simp only [hasL];rw [hxt]
   clear hx hxt
   go_wp2_with (go_at_call 262;(with_reducible refine (mask_any _ hpe lh2 _ _ _ r1).mono ?_);rintro e w' ⟨rfl,rfl⟩)
   go_round
   case rel=>exact ⟨k+1,by omega,by go_num,by rw [HS.out];exact congrArg _ HO.out⟩
   case measure=>simp [intOf];omega
  ·obtain rfl:k=L.length:=by omega
   go_wp2
   go_ret
   exact ⟨ret_int (by rw [hall.out]),hy.trans (hb24.mono hy.size)⟩
end Go.Proofs.YtiapkffihpgdcaaGreatDoor
