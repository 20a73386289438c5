import Derived.Test.YtiapkffihpgdcaaGreatDoorQC4
import Derived.Test.YtiapkffihpgdcaaGreatDoorQC6
import Derived.Test.YtiapkffihpgdcaaGreatDoorQC16
import Derived.Shelf.Strings.SplitShaped
import Derived.Test.YtiapkffihpgdcaaGreatDoorProg
import Derived.WalkKit
import Derived.LaidEql
import Derived.Stop.Asserts
import Derived.RowKitTokens
import Derived.Lib.Hide
set_option linter.unusedVariables false
set_option linter.unusedSimpArgs false
set_option maxRecDepth 100000
set_option maxHeartbeats 4000000
namespace Go.Proofs.YtiapkffihpgdcaaGreatDoor
open Go.RowKit
theorem ix_ne9 {b:UInt8}(h:b≠32)(r:List UInt8):Lib.index (b :: r) [32]=if Lib.index r [32] == -1 then -1 else Lib.index r [32] + 1:=by
 rw [Lib.index,show ([32]:List UInt8).isPrefixOf (b :: r)=false by simp [List.isPrefixOf,Ne.symm h]];simp
theorem ix_eq9 (r:List UInt8):Lib.index (32 :: r) [32]=0:=by rw [Lib.index];simp [List.isPrefixOf]
theorem sp_blank9 (k:Nat)(r:List UInt8):Lib.splitK [32] 0 (k+1) (32 :: r)=[] :: Lib.splitK [32] 0 k r:=by
 rw [Lib.splitK,ix_eq9];simp
theorem sp_ne9 {b:UInt8}(h:b≠32)(r:List UInt8):∀k,Lib.splitK [32] 0 k (b :: r)=match Lib.splitK [32] 0 k r with
  | []=>[[b]]
  | w :: ws=>(b :: w) :: ws
 | 0=>rfl
 | k+1=>by
  rw [Lib.splitK,ix_ne9 h,Lib.splitK]
  by_cases hm:Lib.index r [32] = -1
  ·simp [hm]
  ·have hge:=Lib.index_ge r [32]
   obtain ⟨j,hj⟩:∃j:Nat,Lib.index r [32]=j:=⟨(Lib.index r [32]).toNat,by omega⟩
   rw [hj]
   have e1:((j:Int) == -1)=false:=by simp
   have e2:((j:Int)+1 == -1)=false:=by simp;omega
   have e3:((j:Int)+1).toNat=j+1:=by omega
   simp only [e1,e2,e3,Bool.false_eq_true,if_false,Int.toNat_natCast,List.length_cons,List.length_nil,Nat.add_zero]
   rw [show j+1+(0+1)=(j+(0+1))+1 by omega]
   rfl
theorem sp_wds9:∀l:List UInt8,Lib.splitK [32] 0 (Lib.count l [32]) l=wds l
 | []=>by rw [show Lib.count [] [32]=0 from Lib.count_miss (by simp [Lib.index])];rfl
 | b :: r=>by
  by_cases h:b=32
  ·subst h
   rw [Lib.count_cons_eq,Nat.add_comm,sp_blank9,sp_wds9 r]
   simp [wds]
  ·rw [Lib.count_cons_ne b 32 r h,sp_ne9 h,sp_wds9 r]
   rw [wds,if_neg h]
   cases wds r <;> rfl
theorem sp_all9 (s:List UInt8):(Lib.splitB ⟨[32].toArray⟩ 0 (Lib.countB ⟨s.toArray⟩ ⟨[32].toArray⟩) ⟨s.toArray⟩).map Value.string=strs (wds s):=by
 have h:=Lib.splitB_data ⟨[32].toArray⟩ 0 (Lib.countB ⟨s.toArray⟩ ⟨[32].toArray⟩) ⟨s.toArray⟩
 have h2:=sp_wds9 s
 have h3:(Lib.splitB ⟨[32].toArray⟩ 0 (Lib.countB ⟨s.toArray⟩ ⟨[32].toArray⟩) ⟨s.toArray⟩).map (·.data.toList)=wds s:=by
  rw [h];exact h2
 unfold strs
 rw [← h3,List.map_map]
 apply List.map_congr_left
 intro x _
 simp [Function.comp]
theorem sp_len9 (s:List UInt8):Lib.countB ⟨s.toArray⟩ ⟨[32].toArray⟩ + 1=(wds s).length:=by
 have h:=congrArg List.length (sp_all9 s)
 rw [List.length_map,Lib.splitB_all _ (by decide) 0 _ _ rfl] at h
 simpa [strs] using h
theorem split_any9 (s:List UInt8)(hs:s.length≤1000000000)(w:World)(hE:EnvZ w) :
  Calls Tryz.prog 231 #[St s,St [32]] w fun e w'=>e=.returned (.slice (some ⟨w.heap.size,0,none⟩) (wds s).length (wds s).length)∧w'=w.alloc (.cells (strs (wds s)).toArray 9):=by
 obtain ⟨m,hm⟩:=hE.max
 refine (Any.strings_Split Tryz.lsplit (by kernel_rfl) ⟨s.toArray⟩ ⟨[32].toArray⟩ m w (by rw [st_size];omega) hm (by decide)).mono ?_
 rintro e w' ⟨rfl,rfl⟩
 rw [sp_len9,sp_all9]
 exact ⟨rfl,rfl⟩
theorem wds_lens:∀(l:List UInt8),(∀x ∈ wds l,x.length≤l.length)∧(wds l).length≤l.length+1
 | []=>by simp [wds]
 | b :: r=>by
  obtain ⟨h1,h2⟩:=wds_lens r
  unfold wds
  split
  ·refine ⟨fun x hx=>?_,by simp;omega⟩
   rcases List.mem_cons.1 hx with rfl | hx
   ·simp
   ·have:=h1 x hx;simp;omega
  ·split
   ·rename_i he;exact ⟨fun x hx=>by simp at hx;subst hx;simp,by simp⟩
   ·rename_i w ws he
    rw [he] at h1 h2
    refine ⟨fun x hx=>?_,by simp at h2 ⊢;omega⟩
    rcases List.mem_cons.1 hx with rfl | hx
    ·have:=h1 w (by simp);simp;omega
    ·have:=h1 x (by simp [hx]);simp;omega
theorem rqN_some9 {f:Fm}{nm:Wd}{ws:List Wd}(h1:fitB f ws.length=true)(h2:numsTo ws ws.length=true):rqN f nm ws=some ⟨f.kind,nm,ws.map numV⟩:=by unfold rqN;rw [h1,h2];rfl
theorem rqN_fit9 {f:Fm}{nm:Wd}{ws:List Wd}(h1:fitB f ws.length=false):rqN f nm ws=none:=by unfold rqN;rw [h1];rfl
theorem rqN_num9 {f:Fm}{nm:Wd}{ws:List Wd}(h1:numsTo ws ws.length=false):rqN f nm ws=none:=by unfold rqN;rw [h1,Bool.and_false];rfl
theorem numsTo_bad9 {ws:List Wd}{k n:Nat}(h:numOk (ws.getD k [])=false)(hn:k<n):numsTo ws n=false:=by
 induction n with
 | zero=>omega
 | succ n ih =>
  simp only [numsTo]
  by_cases e:k=n
  ·subst e;rw [h,Bool.and_false]
  ·rw [ih (by omega)];rfl
theorem takeW (l:List Wd){k:Nat}(h:k<l.length):l.take (k+1)=l.take k ++ [l[k]]:=by rw [List.take_add_one];simp [h]
theorem RS.stay {w w':World}{A:Option Addr}{l:List Wd}{B:Nat}(h:RS w A l)(hl:∀a,A=some a→0<l.length→a.block<B)(hs:w.heap.size≤w'.heap.size)(hc:∀p:Addr,p.block<B→w'.cell? p=w.cell? p):RS w' A l:=by
 refine ⟨h.1,fun hn=>?_⟩
 obtain ⟨a,e,hb,hcc⟩:=h.2 hn
 exact ⟨a,e,by omega,fun j u hu=>(hc _ (by rw [block_of_add];exact hl a e hn)).trans (hcc j u hu)⟩
theorem RS.tail {w:World}{A:Option Addr}{x:Wd}{l:List Wd}(h:RS w A (x :: l)):∃ad,A=some ad∧RS w (some (ad.add 1)) l:=by
 obtain ⟨ad,e,hb,hc⟩:=h.2 (by simp)
 refine ⟨ad,e,by simp [strs],fun hn=>⟨ad.add 1,rfl,by rw [block_of_add];exact hb,fun j u hu=>?_⟩⟩
 rw [add_of_add,Nat.add_comm]
 exact hc (j+1) u (by simpa [strs] using hu)
def rq0:Value:=.agg #[.int .i64 0,St [],.slice none 0 0]
theorem parse_any (s:Wd)(hs:s.length≤1000000000)(w:World)(hE:EnvZ w) :
  Calls Tryz.prog 165 #[St s] w fun e w'=>(match prs s with
   | none=>e=.returned (.tuple #[rq0,.iface 146 (.agg #[.int .i64 3])])
   | some r=>∃A c,e=.returned (.tuple #[.agg #[.int .i64 r.kind,St r.name,.slice A r.nums.length c],.nilIface])∧OwnN w' w.heap.size A c r.nums)∧Below w.heap.size w w':=by
 obtain ⟨w2,hw2⟩:∃w2,((w.alloc (.cells #[.int .i64 0,St [],.slice none 0 0] 239)).alloc (.cells #[.int .i64 3] 146))=w2:=⟨_,rfl⟩
 have hy:Below w.heap.size w w2:=by rw [← hw2];exact ((Below.refl _ w).alloc (Nat.le_refl _) _).alloc (by simp) _
 have b0:Box w2 w.heap.size #[.int .i64 0,St [],.slice none 0 0]:=by rw [← hw2];exact (Box.new w _ _).alloc _
 have b1:Box w2 (w.heap.size+1) #[.int .i64 3]:=by rw [← hw2];exact (Box.new (w.alloc (.cells #[.int .i64 0,St [],.slice none 0 0] 239)) _ _).at' (by simp)
 have hs2:w.heap.size+2≤w2.heap.size:=by rw [← hw2];simp
 have hE2:=hE.below hy
 obtain ⟨h,t,hw⟩:∃h t,wds s=h :: t:=by
  cases hx:wds s with
  | nil=>exact absurd hx (wds_ne s)
  | cons a b=>exact ⟨a,b,rfl⟩
 obtain ⟨w3,hw3⟩:∃w3,w2.alloc (.cells (strs (h :: t)).toArray 9)=w3:=⟨_,rfl⟩
 have hy3:Below w2.heap.size w2 w3:=by rw [← hw3];exact (Below.refl _ _).alloc (Nat.le_refl _) _
 have hRS:RS w3 (some ⟨w2.heap.size,0,none⟩) (h :: t):=by
  refine ⟨by simp [strs],fun _=>⟨_,rfl,by rw [← hw3];simp,fun j u hu=>?_⟩⟩
  have e1:(⟨w2.heap.size,0,none⟩:Addr).add j=⟨w2.heap.size,j,none⟩:=by unfold Addr.add;split <;> simp_all
  rw [e1,← hw3,World.cell?_alloc_at _ _ _ _ rfl]
  simpa using hu
 have c0:w3.cell? ⟨w2.heap.size,0,none⟩=some (St h):=by
  obtain ⟨ad,e,_,hc⟩:=hRS.at_ (k:=0) (by simp)
  cases e
  exact hc
 have hs3:w2.heap.size+1≤w3.heap.size:=by rw [← hw3];simp
 have hwl:=wds_lens s
 rw [hw] at hwl
 have hhl:h.length≤1000000000:=by have:=hwl.1 h (by simp);omega
 cases hf:fmOf h with
 | none =>
  have hp:prs s=none:=by unfold prs;rw [hw];show (match fmOf h with | none=>none | some f=>_)=none;rw [hf]
  rw [hp]
  clear hp
  go_enter Tryz.func165,Tryz.ntmps165
  go_wp2_with (first
   | (go_at_call 231;(with_reducible refine (split_any9 s hs _ hE2).mono ?_);rintro e w3' ⟨rfl,rfl⟩;rw [hw,hw3])
   | (go_at_call 232;(with_reducible refine (formOf_any h hhl _).mono ?_);rintro e w4 ⟨rfl,hb4⟩;rw [hf];simp only [Option.getD_none,Option.isSome_none,fmV,fm0];have hk4:=hy3.trans (hb4.mono (by omega));have r0:=(b0.below hk4).cell;have r1:=(b0.below hk4).free;have r2:=(b1.below hk4).cell 0;have n0:=(b0.below hk4).lt;have n1:=(b1.below hk4).lt;have n2:=(b0.below hk4).ne;have n3:=(b1.below hk4).ne;have z0:=r0 0;have z1:=r0 1;have z2:=r0 2;have g0:=r1 0;have g1:=r1 1;have g2:=r1 2;clear r0 r1;simp only [gqA,gqB,gqC] at z0 z1 z2 r2))
  go_region
  all_goals
   go_wp2_with fail
   have q3:=(((((b0.below hk4).set 0 (.int .i64 0) (by simp)).set 1 (.string ⟨#[]⟩) (by simp)).set 2 (.slice none 0 0) (by simp)).alloc (.cells #[.int .i64 0,.bool false,.int .i64 0,.bool false] 293)).drewN 1
   have v0:=q3.cell 0;have v1:=q3.cell 1;have v2:=q3.cell 2
   simp at v0 v1 v2
   refine bodyPost_ret (v:=.tuple #[.agg #[.int .i64 0,.string ⟨#[]⟩,.slice none 0 0],.iface 146 (.agg #[.int .i64 3])]) (by simp [results,Tryz.results165,go_sem,v0,v1,v2]) rfl ?_
   refine ⟨rfl,?_⟩
   have hw4:Below w.heap.size w w4:=hy.trans (hk4.mono hy.size)
   exact ((((hw4.setCell (p:=⟨w.heap.size,0,none⟩) (Nat.le_refl _) _).setCell (p:=⟨w.heap.size,1,none⟩) (Nat.le_refl _) _).setCell (p:=⟨w.heap.size,2,none⟩) (Nat.le_refl _) _).alloc (by have:=hw4.size;simpa [World.setCell] using this) _).drew
 | some f =>
  have hpf:prs s=if 60<s.length then none else if f.name then (if t=[] then none else if letB (hd t) then rqN f (hd t) t.tail else none) else rqN f [] t:=by
   unfold prs;rw [hw];show (match fmOf h with | none=>none | some f=>_)=_;rw [hf];rfl
  have HP:=Lib.hid hpf;clear hpf
  by_cases hl:60<s.length
  ·have hp:prs s=none:=by rw [HP.out,if_pos hl]
   rw [hp]
   clear hp HP
   go_enter Tryz.func165,Tryz.ntmps165
   go_wp2_with (first | (go_at_call 231;(with_reducible refine (split_any9 s hs _ hE2).mono ?_);rintro e w3' ⟨rfl,rfl⟩;rw [hw,hw3]) | (go_at_call 232;(with_reducible refine (formOf_any h hhl _).mono ?_);rintro e w4 ⟨rfl,hb4⟩;rw [hf];simp only [Option.getD_some,Option.isSome_some,fmV];have hk4:=hy3.trans (hb4.mono (by omega));obtain ⟨w5,hw5⟩:∃w5,w4.alloc (.cells #[.int .i64 f.kind,.bool f.name,.int .i64 f.nums,.bool f.many] 293)=w5:=⟨_,rfl⟩;have hb5:Below w4.heap.size w4 w5:=(by rw [← hw5];exact (Below.refl _ _).alloc (Nat.le_refl _) _);have hk5:Below w2.heap.size w2 w5:=hk4.trans (hb5.mono hk4.size);have bf:Box w5 w4.heap.size #[.int .i64 f.kind,.bool f.name,.int .i64 f.nums,.bool f.many]:=(by rw [← hw5];exact Box.new _ _ _);have r0:=(b0.below hk5).cell;have r1:=(b0.below hk5).free;have r2:=(b1.below hk5).cell 0;have z0:=r0 0;have z1:=r0 1;have z2:=r0 2;have g0:=r1 0;have g1:=r1 1;have g2:=r1 2;have m0:=bf.cell 0;have m1:=bf.cell 1;have m2:=bf.cell 2;have m3:=bf.cell 3;clear r0 r1;simp only [gqA,gqB,gqC] at z0 z1 z2 r2 m0 m1 m2 m3;have n0:=(b0.below hk5).lt;have n1:=(b1.below hk5).lt;have n2:=(b0.below hk5).ne;have n3:=(b1.below hk5).ne;have n4:=bf.lt))
   go_region
   all_goals
    go_wp2_with fail
    have q3:=((((b0.below hk5).set 0 (.int .i64 0) (by simp)).set 1 (.string ⟨#[]⟩) (by simp)).set 2 (.slice none 0 0) (by simp)).drewN 1
    have v0:=q3.cell 0;have v1:=q3.cell 1;have v2:=q3.cell 2
    simp at v0 v1 v2
    refine bodyPost_ret (v:=.tuple #[.agg #[.int .i64 0,.string ⟨#[]⟩,.slice none 0 0],.iface 146 (.agg #[.int .i64 3])]) (by simp [results,Tryz.results165,go_sem,v0,v1,v2]) rfl ?_
    exact ⟨rfl,((((hy.trans (hk5.mono hy.size)).setCell (p:=⟨w.heap.size,0,none⟩) (Nat.le_refl _) _).setCell (p:=⟨w.heap.size,1,none⟩) (Nat.le_refl _) _).setCell (p:=⟨w.heap.size,2,none⟩) (Nat.le_refl _) _).drew⟩
  ·have hp:prs s=if f.name then (if t=[] then none else if letB (hd t) then rqN f (hd t) t.tail else none) else rqN f [] t:=by rw [HP.out,if_neg hl]
   have HPP:=Lib.hid hp
   clear HP hp
   have hl':s.length≤60:=by omega
   have htl:t.length≤60:=by have:=hwl.2;simp at this;omega
   have htx:∀x ∈ t,x.length≤1000000000:=fun x hx=>by have:=hwl.1 x (by simp [hx]);omega
   obtain ⟨PR,hPR⟩:∃PR,prs s=PR:=⟨_,rfl⟩
   have HPR:=Lib.hid (hPR.symm.trans HPP.out)
   rw [hPR]
   clear hPR HPP
   go_enter Tryz.func165,Tryz.ntmps165
   go_wp2_with (first | (go_at_call 231;(with_reducible refine (split_any9 s hs _ hE2).mono ?_);rintro e w3' ⟨rfl,rfl⟩;rw [hw,hw3]) | (go_at_call 232;(with_reducible refine (formOf_any h hhl _).mono ?_);rintro e w4 ⟨rfl,hb4⟩;rw [hf];simp only [Option.getD_some,Option.isSome_some,fmV];have hk4:=hy3.trans (hb4.mono (by omega));obtain ⟨w5,hw5⟩:∃w5,w4.alloc (.cells #[.int .i64 f.kind,.bool f.name,.int .i64 f.nums,.bool f.many] 293)=w5:=⟨_,rfl⟩;have hb5:Below w4.heap.size w4 w5:=(by rw [← hw5];exact (Below.refl _ _).alloc (Nat.le_refl _) _);have hk5:Below w2.heap.size w2 w5:=hk4.trans (hb5.mono hk4.size);have bf:Box w5 w4.heap.size #[.int .i64 f.kind,.bool f.name,.int .i64 f.nums,.bool f.many]:=(by rw [← hw5];exact Box.new _ _ _);have r0:=(b0.below hk5).cell;have r1:=(b0.below hk5).free;have r2:=(b1.below hk5).cell 0;have z0:=r0 0;have z1:=r0 1;have z2:=r0 2;have g0:=r1 0;have g1:=r1 1;have g2:=r1 2;have m0:=bf.cell 0;have m1:=bf.cell 1;have m2:=bf.cell 2;have m3:=bf.cell 3;clear r0 r1;simp only [gqA,gqB,gqC] at z0 z1 z2 r2 m0 m1 m2 m3;have n0:=(b0.below hk5).lt;have n1:=(b1.below hk5).lt;have n2:=(b0.below hk5).ne;have n3:=(b1.below hk5).ne;have n4:=bf.lt))
   go_region
   obtain ⟨A5,hA5⟩:∃A5,(if t=[] then some ⟨w2.heap.size,0,none⟩ else some ⟨w2.heap.size,1,none⟩:Option Addr)=A5:=⟨_,rfl⟩
   rw [hA5]
   have hR3:RS w3 A5 t:=by
    rw [← hA5]
    by_cases ht:t=[]
    ·subst ht;exact ⟨rfl,fun hn=>by simp at hn⟩
    ·rw [if_neg ht]
     obtain ⟨ad,e,hR⟩:=hRS.tail
     cases e
     exact hR
   clear hA5
   obtain ⟨w6,hw6⟩:∃w6,(w5.alloc (.cells #[.int .i64 f.kind,.string ⟨#[]⟩,.slice none 0 0] 239)).drew=w6:=⟨_,rfl⟩
   rw [hw6]
   have hb6:Below w5.heap.size w5 w6:=by rw [← hw6];exact ((Below.refl _ _).alloc (Nat.le_refl _) _).drew
   have b6:Box w6 w5.heap.size #[.int .i64 f.kind,.string ⟨#[]⟩,.slice none 0 0]:=by rw [← hw6];exact (Box.new _ _ _).drewN 1
   have hk6:=hk5.trans (hb6.mono hk5.size)
   have bz:=b0.below hk6
   have bw:=b1.below hk6
   have bf6:=bf.below hb6
   have hR6:RS w6 A5 t:=hR3.below (hb4.trans ((hb5.trans (hb6.mono hb5.size)).mono hb4.size))
   have hsz6:=b6.lt
   have hlow3:∀a,A5=some a→0<t.length→a.block<w5.heap.size:=fun a e hn=>by
    obtain ⟨a',e',hab,_⟩:=hR3.2 hn
    rw [e] at e';cases e'
    have h1:=hb4.size;have h2:=hb5.size;omega
   have hw56:w2.heap.size≤w5.heap.size:=hk5.size
   have hw4s:w4.heap.size<w5.heap.size:=bf.lt
   have hw24:w2.heap.size≤w4.heap.size:=hk4.size
   clear z0 z1 z2 r2 m0 m1 m2 m3 n0 n1 n2 n3 n4 g0 g1 g2 hw6
   have z0:=bz.cell 0;have z1:=bz.cell 1;have z2:=bz.cell 2;have g0:=bz.free 0;have g1:=bz.free 1;have g2:=bz.free 2
   have r2:=bw.cell 0
   have m0:=bf6.cell 0;have m1:=bf6.cell 1;have m2:=bf6.cell 2;have m3:=bf6.cell 3
   have y0:=b6.cell 0;have y1:=b6.cell 1;have y2:=b6.cell 2;have h0:=b6.free 0;have h1:=b6.free 1;have h2:=b6.free 2
   simp only [gqA,gqB,gqC] at z0 z1 z2 r2 m0 m1 m2 m3 y0 y1 y2
   go_upto_if 39 with fail
   go_cut [5] (fun x wx=>∃ws nm A c',x=.slice A ws.length c'∧RS wx A ws∧ws.length≤60∧Box wx w5.heap.size #[.int .i64 f.kind,St nm,.slice none 0 0]∧Box wx w.heap.size #[.int .i64 0,St [],.slice none 0 0]∧Box wx (w.heap.size+1) #[.int .i64 3]∧Box wx w4.heap.size #[.int .i64 f.kind,.bool f.name,.int .i64 f.nums,.bool f.many]∧Below w2.heap.size w2 wx∧(∀x ∈ ws,x.length≤1000000000)∧w5.heap.size<wx.heap.size∧(∀a,A=some a→0<ws.length→a.block<w5.heap.size)∧Hid (PR=rqN f nm ws))
   case first =>
    cases hn:f.name with
    | false =>
     have HV:Hid (PR=rqN f [] t):=by show _=_;rw [HPR.out,hn];rfl
     rw [hn] at m1
     go_wp2_with fail
     go_meet
     exact ⟨t,[],A5,_,rfl,hR6,htl,b6,bz,bw,bf6,hk6,htx,hsz6,hlow3,HV⟩
    | true =>
     rw [hn] at m1
     cases t with
     | nil =>
      have HV:PR=none:=by rw [HPR.out,hn];rfl
      subst HV
      go_wp2_with fail
      go_region
      all_goals
       go_wp2_with fail
       have q3:=(((bz.set 0 (.int .i64 0) (by simp)).set 1 (.string ⟨#[]⟩) (by simp)).set 2 (.slice none 0 0) (by simp)).drewN 1
       have v0:=q3.cell 0;have v1:=q3.cell 1;have v2:=q3.cell 2
       simp at v0 v1 v2
       refine bodyPost_ret (v:=.tuple #[.agg #[.int .i64 0,.string ⟨#[]⟩,.slice none 0 0],.iface 146 (.agg #[.int .i64 3])]) (by simp [results,Tryz.results165,go_sem,v0,v1,v2]) rfl ?_
       exact ⟨rfl,((((hy.trans (hk6.mono hy.size)).setCell (p:=⟨w.heap.size,0,none⟩) (Nat.le_refl _) _).setCell (p:=⟨w.heap.size,1,none⟩) (Nat.le_refl _) _).setCell (p:=⟨w.heap.size,2,none⟩) (Nat.le_refl _) _).drew⟩
     | cons x r =>
      obtain ⟨ad,rfl,hRt⟩:=hR6.tail
      have hlow5:ad.block<w5.heap.size:=hlow3 ad rfl (by simp)
      have c1:w6.cell? ad=some (St x):=by
       obtain ⟨ad',e,_,hc⟩:=hR6.at_ (k:=0) (by simp)
       cases e
       have e0:ad.add 0=ad:=by cases ad;simp [Addr.add]
       rw [e0] at hc
       exact hc
      have hx1:x.length≤1000000000:=htx x (by simp)
      cases hlet:letB x with
      | false =>
       have HV:PR=none:=by rw [HPR.out,hn];show (if true=true then if x :: r=[] then none else if letB x=true then _ else none else _)=none;rw [if_pos rfl,if_neg (by simp),hlet];rfl
       subst HV
       go_wp2_with (go_at_call 233;(with_reducible refine (letters_any x hx1 _).mono ?_);rintro e w7 ⟨rfl,rfl⟩;rw [hlet])
       go_region
       all_goals
        go_wp2_with fail
        have q3:=(((bz.set 0 (.int .i64 0) (by simp)).set 1 (.string ⟨#[]⟩) (by simp)).set 2 (.slice none 0 0) (by simp)).drewN 1
        have v0:=q3.cell 0;have v1:=q3.cell 1;have v2:=q3.cell 2
        simp at v0 v1 v2
        refine bodyPost_ret (v:=.tuple #[.agg #[.int .i64 0,.string ⟨#[]⟩,.slice none 0 0],.iface 146 (.agg #[.int .i64 3])]) (by simp [results,Tryz.results165,go_sem,v0,v1,v2]) rfl ?_
        exact ⟨rfl,((((hy.trans (hk6.mono hy.size)).setCell (p:=⟨w.heap.size,0,none⟩) (Nat.le_refl _) _).setCell (p:=⟨w.heap.size,1,none⟩) (Nat.le_refl _) _).setCell (p:=⟨w.heap.size,2,none⟩) (Nat.le_refl _) _).drew⟩
      | true =>
       have HV:Hid (PR=rqN f x r):=by show _=_;rw [HPR.out,hn];show (if true=true then if x :: r=[] then none else if letB x=true then rqN f x r else none else _)=_;rw [if_pos rfl,if_neg (by simp),hlet];rfl
       have hb61:∀{A:Option Addr} {l:List Wd},RS w6 A l→(∀a,A=some a→0<l.length→a.block<w5.heap.size)→RS (w6.setCell ⟨w5.heap.size,1,none⟩ (St x)).drew A l:=fun {A l} hR hlow=>by
        refine ⟨hR.1,fun hn=>?_⟩
        obtain ⟨a,e,hab,hc⟩:=hR.2 hn
        exact ⟨a,e,by simpa [World.setCell] using hab,fun j u hu=>(World.cell?_setCell_other _ _ _ _ (fun e'=>by have:=hlow a e hn;have e2:=congrArg Addr.block e';simp [block_of_add] at e2;omega)).trans (hc j u hu)⟩
       cases r with
       | nil =>
        go_wp2_with (go_at_call 233;(with_reducible refine (letters_any x hx1 _).mono ?_);rintro e w7 ⟨rfl,rfl⟩;rw [hlet])
        go_region
        all_goals
         go_wp2_with fail
         go_meet
         have hbx:Box (w7.setCell ⟨w5.heap.size,1,none⟩ (St x)).drew w5.heap.size #[.int .i64 f.kind,St x,.slice none 0 0]:=((b6.set 1 (St x) (by simp)).drewN 1)
         refine ⟨[],x,some ad,_,rfl,⟨rfl,fun hn=>by simp at hn⟩,by simp,hbx,(bz.far (by show w.heap.size≠w5.heap.size;omega) _).drewN 1,(bw.far (by show w.heap.size+1≠w5.heap.size;omega) _).drewN 1,(bf6.far (by show w4.heap.size≠w5.heap.size;omega) _).drewN 1,(hk6.setCell (p:=⟨w5.heap.size,1,none⟩) (by show w2.heap.size≤w5.heap.size;omega) _).drew,fun z hz=>by simp at hz,hbx.lt,fun a _ hn=>by simp at hn,HV⟩
       | cons y r =>
        go_wp2_with (go_at_call 233;(with_reducible refine (letters_any x hx1 _).mono ?_);rintro e w7 ⟨rfl,rfl⟩;rw [hlet])
        go_region
        all_goals
         go_wp2_with fail
         go_meet
         have hbx:Box (w7.setCell ⟨w5.heap.size,1,none⟩ (St x)).drew w5.heap.size #[.int .i64 f.kind,St x,.slice none 0 0]:=((b6.set 1 (St x) (by simp)).drewN 1)
         refine ⟨y :: r,x,some (ad.add 1),_,rfl,hb61 hRt (fun a e _=>by cases e;rw [block_of_add];exact hlow5),by simp at htl ⊢;omega,hbx,(bz.far (by show w.heap.size≠w5.heap.size;omega) _).drewN 1,(bw.far (by show w.heap.size+1≠w5.heap.size;omega) _).drewN 1,(bf6.far (by show w4.heap.size≠w5.heap.size;omega) _).drewN 1,(hk6.setCell (p:=⟨w5.heap.size,1,none⟩) (by show w2.heap.size≤w5.heap.size;omega) _).drew,fun z hz=>htx z (by simp at hz ⊢;simp [hz]),hbx.lt,fun a e _=>by cases e;rw [block_of_add];exact hlow5,HV⟩
   case rest =>
    clear z0 z1 z2 r2 m0 m1 m2 m3 y0 y1 y2 g0 g1 g2 h0 h1 h2 bz bw bf6 hR6 hsz6 b6
    obtain ⟨ws,nm,A,cap,rfl,hR,hwsl,b8,bz,bw,bf,hk,hwx,hwc,hlow,HQ⟩:=hcut
    have z0:=bz.cell 0;have z1:=bz.cell 1;have z2:=bz.cell 2;have g0:=bz.free 0;have g1:=bz.free 1;have g2:=bz.free 2
    have r2:=bw.cell 0
    have m0:=bf.cell 0;have m1:=bf.cell 1;have m2:=bf.cell 2;have m3:=bf.cell 3
    simp only [gqA,gqB,gqC] at z0 z1 z2 r2 m0 m1 m2 m3
    have hyk:=hy.trans (hk.mono hy.size)
    go_upto_region 11 with fail
    go_cut [75] from 59 to 75 (fun x wx=>x=.bool (!fitB f ws.length)∧wx=wc)
    case first =>
     by_cases c1:(ws.length:Int)<f.nums
     ·have hv:fitB f ws.length=false:=by unfold fitB;rw [decide_eq_false_iff_not];omega
      go_wp2_with fail
      go_meet
      exact ⟨by rw [hv];rfl,rfl⟩
     by_cases c2:f.nums<ws.length
     ·have hv:fitB f ws.length=f.many:=by
       unfold fitB
       cases hm:f.many with
       | true=>rw [decide_eq_true_eq];right;exact ⟨c2,rfl⟩
       | false=>rw [decide_eq_false_iff_not];simp;omega
      cases hm:f.many with
      | true =>
       rw [hm] at m3 hv
       go_wp2_with fail
       go_meet
       exact ⟨by rw [hv];rfl,rfl⟩
      | false =>
       rw [hm] at m3 hv
       go_wp2_with fail
       go_meet
       exact ⟨by rw [hv];rfl,rfl⟩
     ·have hv:fitB f ws.length=true:=by unfold fitB;rw [decide_eq_true_eq];left;omega
      go_wp2_with fail
      go_meet
      exact ⟨by rw [hv];rfl,rfl⟩
    case rest =>
     obtain ⟨rfl,rfl⟩:=hcut
     cases hfit:fitB f ws.length with
     | false =>
      have HV:PR=none:=HQ.out.trans (rqN_fit9 hfit)
      subst HV
      go_wp2_with fail
      go_region
      all_goals
       go_wp2_with fail
       have q3:=(((bz.set 0 (.int .i64 0) (by simp)).set 1 (.string ⟨#[]⟩) (by simp)).set 2 (.slice none 0 0) (by simp)).drewN 1
       have v0:=q3.cell 0;have v1:=q3.cell 1;have v2:=q3.cell 2
       simp at v0 v1 v2
       refine bodyPost_ret (v:=.tuple #[.agg #[.int .i64 0,.string ⟨#[]⟩,.slice none 0 0],.iface 146 (.agg #[.int .i64 3])]) (by simp [results,Tryz.results165,go_sem,v0,v1,v2]) rfl ?_
       exact ⟨rfl,(((hyk.setCell (p:=⟨w.heap.size,0,none⟩) (Nat.le_refl _) _).setCell (p:=⟨w.heap.size,1,none⟩) (Nat.le_refl _) _).setCell (p:=⟨w.heap.size,2,none⟩) (Nat.le_refl _) _).drew⟩
     | true =>
      have HFIT:=Lib.hid hfit
      clear hfit
      have y0:=b8.cell 0;have y1:=b8.cell 1;have y2:=b8.cell 2
      simp only [gqA,gqB,gqC] at y0 y1 y2
      go_wp2_with fail
      go_loopw [81] (fun x wr=>∃(k:Nat) (A':Option Addr) (c':Nat),k≤ws.length∧x=.int .i64 k∧Hid (numsTo ws k=true)∧Box wr w5.heap.size #[.int .i64 f.kind,St nm,.slice A' k c']∧OwnN wr wc.heap.size A' c' ((ws.take k).map numV)∧Box wr w.heap.size #[.int .i64 0,St [],.slice none 0 0]∧Box wr (w.heap.size+1) #[.int .i64 3]∧RS wr A ws∧Below w2.heap.size w2 wr∧wc.heap.size≤wr.heap.size) (fun x _=>ws.length-(intOf x).toNat)
      case atStart=>exact ⟨0,none,0,by omega,rfl,rfl,b8,World.ownsRow_nil _ _ _ _,bz,bw,hR,hk,Nat.le_refl _⟩
      case round =>
       clear z0 z1 z2 g0 g1 g2 r2 y0 y1 y2 b8 bz bw hR hk hyk m0 m1 m2 m3
       obtain ⟨k,A',c',hkl,rfl,HN,b8,own,bz,bw,hR,hk,hcs⟩:=hrel
       have z0:=bz.cell 0;have z1:=bz.cell 1;have z2:=bz.cell 2;have g0:=bz.free 0;have g1:=bz.free 1;have g2:=bz.free 2
       have r2:=bw.cell 0
       have y0:=b8.cell 0;have y1:=b8.cell 1;have y2:=b8.cell 2;have h2:=b8.free 2
       simp only [gqA,gqB,gqC] at z0 z1 z2 r2 y0 y1 y2
       have hyk:=hy.trans (hk.mono hy.size)
       have hlk:((ws.take k).map numV).length=k:=by rw [List.length_map,List.length_take];omega
       by_cases hlt:k<ws.length
       ·obtain ⟨ad,rfl,hab,d0⟩:=hR.at_ hlt
        have hxl:=hwx _ (List.getElem_mem hlt)
        have hgd:ws.getD k []=ws[k]:=by simp [hlt]
        cases hok:numOk ws[k] with
        | false =>
         have HV:PR=none:=HQ.out.trans (rqN_num9 (numsTo_bad9 (by rw [hgd];exact hok) hlt))
         subst HV
         go_wp2_with (go_at_call 234;(with_reducible refine (number_any9 ws[k] hxl _).mono ?_);rintro e w7 ⟨rfl,rfl⟩;rw [hok])
         go_region
         all_goals
          go_wp2_with fail
          have q3:=(((bz.set 0 (.int .i64 0) (by simp)).set 1 (.string ⟨#[]⟩) (by simp)).set 2 (.slice none 0 0) (by simp)).drewN 1
          have v0:=q3.cell 0;have v1:=q3.cell 1;have v2:=q3.cell 2
          simp at v0 v1 v2
          refine bodyPost_ret (v:=.tuple #[.agg #[.int .i64 0,.string ⟨#[]⟩,.slice none 0 0],.iface 146 (.agg #[.int .i64 3])]) (by simp [results,Tryz.results165,go_sem,v0,v1,v2]) rfl ?_
          exact ⟨rfl,(((hyk.setCell (p:=⟨w.heap.size,0,none⟩) (Nat.le_refl _) _).setCell (p:=⟨w.heap.size,1,none⟩) (Nat.le_refl _) _).setCell (p:=⟨w.heap.size,2,none⟩) (Nat.le_refl _) _).drew⟩
        | true =>
         have HN2:Hid (numsTo ws (k+1)=true):=by show numsTo ws (k+1)=true;simp only [numsTo,HN.out,Bool.true_and];rw [hgd];exact hok
         have htk:(ws.take (k+1)).map numV=(ws.take k).map numV ++ [numV ws[k]]:=by rw [takeW ws hlt,List.map_append];rfl
         have HTK:=Lib.hid htk
         have HLK:=Lib.hid hlk
         have hw5c:w5.heap.size<wc.heap.size:=hwc
         unfold OwnN at own
         rw [hlk] at own
         clear hok hgd htk HN hlk
         go_wp2_with (first
          | (go_at_call 234;(with_reducible refine (number_any9 ws[k] hxl _).mono ?_);rintro e w7 ⟨rfl,rfl⟩;rw [show numOk ws[k]=true from by (have:=HN2.out;simp only [numsTo,Bool.and_eq_true] at this;simpa [hlt] using this.2)])
          | (at_builtin;refine wpList_app1 rfl _ _ rfl Tryz.underlying22 info_int rfl (by omega) rfl own rfl rfl (by simp [Value.oneCell']) (by omega) (by omega) (by omega) ?_;intro A'' c'' w8 own8 hb8;have hb8':=hb8 _ (Nat.le_refl _);have hb9:Below wc.heap.size w7 w8:=hb8';have p2:=(hb9.cell (p:=⟨w5.heap.size,2,none⟩) (by exact hw5c)).trans y2;have p3:=(hb9.frozen (p:=⟨w5.heap.size,2,none⟩) (by exact hw5c)).trans h2))
         have hsw8:=hb9.size
         go_roundw
         case rel =>
          have b88:Box w8 w5.heap.size #[.int .i64 f.kind,St nm,.slice A' k c']:=b8.keep hb9 hw5c
          have b89:=b88.set 2 (.slice A'' (k+1) c'') (by simp)
          have r1:OwnN (w8.setCell ⟨w5.heap.size,2,none⟩ (.slice A'' (k+1) c'')) wc.heap.size A'' c'' ((ws.take (k+1)).map numV):=by
           have:=OwnN.snoc own8 (l:=(ws.take k).map numV) (l':=(ws.take (k+1)).map numV) (x:=numV ws[k]) HLK.out.symm HTK.out
           exact ownsRow_setCell_below this hw5c _
          have r2:=(bz.keep hb9 (by show w.heap.size<wc.heap.size;omega)).far (p:=⟨w5.heap.size,2,none⟩) (by show w.heap.size≠w5.heap.size;omega) (.slice A'' (k+1) c'')
          have r3:=(bw.keep hb9 (by show w.heap.size+1<wc.heap.size;omega)).far (p:=⟨w5.heap.size,2,none⟩) (by show w.heap.size+1≠w5.heap.size;omega) (.slice A'' (k+1) c'')
          have r4:RS (w8.setCell ⟨w5.heap.size,2,none⟩ (.slice A'' (k+1) c'')) (some _) ws:=(hR.stay hlow hb9.size fun p hp=>hb9.cell (by omega)).stay hlow (by simp [World.setCell]) fun p hp=>World.cell?_setCell_other _ _ _ _ (fun e=>by rw [← e] at hp;exact absurd hp (Nat.lt_irrefl _))
          have r5:=(hk.trans (hb9.mono (by omega))).setCell (p:=⟨w5.heap.size,2,none⟩) (by show w2.heap.size≤w5.heap.size;omega) (.slice A'' (k+1) c'')
          have r6:wc.heap.size≤(w8.setCell ⟨w5.heap.size,2,none⟩ (.slice A'' (k+1) c'')).heap.size:=by simpa [World.setCell] using (by omega:wc.heap.size≤w8.heap.size)
          first
           | exact ⟨k+1,A'',c'',by omega,by go_num,HN2,b89,r1,r2,r3,r4,r5,r6⟩
           | ((repeat apply Exists.intro);exact ⟨⟨k+1,A'',c'',by omega,by go_num,HN2,b89,r1,r2,r3,r4,r5,r6⟩,rfl⟩)
         case measure=>simp [intOf];omega
       ·obtain rfl:k=ws.length:=by omega
        have HV:PR=some ⟨f.kind,nm,ws.map numV⟩:=HQ.out.trans (rqN_some9 HFIT.out HN.out)
        subst HV
        rw [List.take_length] at own
        go_wp2_with fail
        have q3:=((bz.set 0 (.int .i64 f.kind) (by simp)).set 1 (St nm) (by simp)).set 2 (.slice A' ws.length c') (by simp)
        have v0:=q3.cell 0;have v1:=q3.cell 1;have v2:=q3.cell 2
        simp at v0 v1 v2
        refine bodyPost_ret (v:=.tuple #[.agg #[.int .i64 f.kind,St nm,.slice A' ws.length c'],.nilIface]) (by simp [results,Tryz.results165,go_sem,v0,v1,v2]) rfl ?_
        have hwc0:w.heap.size<wc.heap.size:=by omega
        exact ⟨⟨A',c',by simp,own_base (ownsRow_setCell_below (ownsRow_setCell_below (ownsRow_setCell_below own hwc0 _) hwc0 _) hwc0 _) (by omega)⟩,((hyk.setCell (p:=⟨w.heap.size,0,none⟩) (Nat.le_refl _) _).setCell (p:=⟨w.heap.size,1,none⟩) (Nat.le_refl _) _).setCell (p:=⟨w.heap.size,2,none⟩) (Nat.le_refl _) _⟩
end Go.Proofs.YtiapkffihpgdcaaGreatDoor
namespace Go.Proofs.YtiapkffihpgdcaaGreatDoor
open Go.RowKit Go.Extern.Stop Go.Stop Go.Extern
theorem as_nil (t:Value)(w:World) :
  Calls Tryz.prog 80 #[.nilIface,t] w fun e w'=>e=.returned (.bool false)∧w'=w:=by
 go_enter Tryz.func80,Tryz.ntmps80
 go_wp2
 go_ret
 exact ⟨rfl,rfl⟩
theorem as_valueOfP (t:Addr)(w:World):(ReflectliteValue.unpack (.iface 151 (.pointer (some t)))).run Tryz.prog w
  = .ok (.agg #[.pointer (some ⟨7,151,none⟩),.pointer (some ⟨w.heap.size,0,none⟩),.int .u64 150]) (w.alloc (.cells #[.pointer (some t)] 151)):=by kernel_rfl
theorem as_typeP (a:Addr)(w:World):(ReflectliteValue.methodAny (ReflectliteValue.valueError "reflectlite.Value.Type" 0) (fun t _ _ _=>ReflectliteType.toType t) #[.agg #[.pointer (some ⟨7,151,none⟩),.pointer (some a),.int .u64 150]]).run Tryz.prog w
  = .ok (.iface 278 (.agg #[.pointer (some ⟨7,151,none⟩)])) w:=by kernel_rfl
theorem as_kindP (w:World):((ReflectliteType.abiMethod fun t=>(fun a:Nat=>Value.int IntKind.u8 (a:Int)) <$> Rtype.kind t) #[.pointer (some ⟨7,151,none⟩)]).run Tryz.prog w=.ok (.int .u8 22) w:=by kernel_rfl
theorem as_kindR (w:World):((ReflectliteType.abiMethod fun t=>(fun a:Nat=>Value.int IntKind.u8 (a:Int)) <$> Rtype.kind t) #[.pointer (some ⟨7,146,none⟩)]).run Tryz.prog w=.ok (.int .u8 25) w:=by kernel_rfl
theorem as_rlm (z:Sem Value)(f:TypeId→Addr→Nat→Nat→Sem Value)(v:Value) :
  ReflectliteValue.method z f #[v]=(do match ← ReflectliteValue.parts v with | none=>z | some (t,a,fl)=>f t a fl (fl % 32)):=rfl
theorem as_partsP (a:Addr)(w:World):(ReflectliteValue.parts (.agg #[.pointer (some ⟨7,151,none⟩),.pointer (some a),.int .u64 150])).run Tryz.prog w=.ok (some (151,a,150)) w:=by kernel_rfl
theorem as_isNil (a p:Addr)(W:World)(ha:W.cell? a=some (.pointer (some p))) :
  (ReflectliteValue.method (ReflectliteValue.valueError "reflectlite.Value.IsNil" 0) ReflectliteValue.isNil #[.agg #[.pointer (some ⟨7,151,none⟩),.pointer (some a),.int .u64 150]]).run Tryz.prog W=.ok (.bool false) W:=by
 rw [as_rlm]
 simp only [Sem.run_bind,as_partsP,Result.andThen]
 simp [ReflectliteValue.isNil,loadVar,isAgg,underlying,Tryz.underlying151,ha,Result.andThen]
theorem as_elemP (w:World):(ReflectliteType.method ReflectliteType.elem #[.agg #[.pointer (some ⟨7,151,none⟩)]]).run Tryz.prog w=.ok (.iface 278 (.agg #[.pointer (some ⟨7,146,none⟩)])) w:=by kernel_rfl
theorem as_implements (w:World):(ReflectliteType.relation "Implements" ReflectliteType.implements_ #[.agg #[.pointer (some ⟨7,146,none⟩)],.iface 278 (.agg #[.pointer (some ⟨7,149,none⟩)])]).run Tryz.prog w=.ok (.bool true) w:=by kernel_rfl
theorem as_typeOf (v:Value)(w:World):(ReflectliteType.typeOf #[.iface 146 v]).run Tryz.prog w=.ok (.iface 278 (.agg #[.pointer (some ⟨7,146,none⟩)])) w:=by kernel_rfl
theorem as_assignable (w:World):(ReflectliteType.relation "AssignableTo" ReflectliteType.assignableTo #[.agg #[.pointer (some ⟨7,146,none⟩)],.iface 278 (.agg #[.pointer (some ⟨7,146,none⟩)])]).run Tryz.prog w=.ok (.bool true) w:=by kernel_rfl
theorem as_valueOfR (c:Int)(w:World):(ReflectliteValue.unpack (.iface 146 (.agg #[.int .i64 c]))).run Tryz.prog w
  = .ok (.agg #[.pointer (some ⟨7,146,none⟩),.pointer (some ⟨w.heap.size,0,none⟩),.int .u64 153]) (w.alloc (.cells #[.int .i64 c] 146)):=by kernel_rfl
theorem as_elemOf (w:World):(Rtype.elem? 151).run Tryz.prog w=.ok (some 146) w:=by kernel_rfl
theorem as_mk (p:Addr)(w:World):(ReflectliteValue.mk 146 p ReflectliteValue.flagAddr).run Tryz.prog w=.ok (.agg #[.pointer (some ⟨7,146,none⟩),.pointer (some p),.int .u64 409]) w:=by kernel_rfl
theorem as_elemV (a p:Addr)(W:World)(ha:W.cell? a=some (.pointer (some p))) :
  (ReflectliteValue.method (ReflectliteValue.valueError "reflectlite.Value.Elem" 0) ReflectliteValue.elem #[.agg #[.pointer (some ⟨7,151,none⟩),.pointer (some a),.int .u64 150]]).run Tryz.prog W
   = .ok (.agg #[.pointer (some ⟨7,146,none⟩),.pointer (some p),.int .u64 409]) W:=by
 rw [as_rlm]
 simp only [Sem.run_bind,as_partsP,Result.andThen]
 simp [ReflectliteValue.elem,loadVar,isAgg,underlying,Tryz.underlying151,ha,Result.andThen,as_elemOf,as_mk]
theorem as_rls (v x:Value):ReflectliteValue.set #[v,x]=(do
  let (some (dst,a,fl),some (src,b,_)):=(← ReflectliteValue.parts v,← ReflectliteValue.parts x)
   | unsupported (.noEntry "extern/(internal/reflectlite.Value).Set.zeroValue")
  if fl / ReflectliteValue.flagAddr % 2 == 0 then unsupported (.noEntry "extern/(internal/reflectlite.Value).Set.unaddressable")
  let val ← loadVar src b
  if ← Rtype.directlyAssignable dst src then storeVar dst a val
  else if ← Rtype.implements dst src then
   if (← Rtype.kind src) == 20 then
    match val with
    | .nilIface=>unsupported (.noEntry "extern/reflectlite: a nil value of one interface type handed on as a value of another")
    | _=>storeVar dst a val
   else storeVar dst a (.iface src val)
  else panicString ("reflectlite.Set: value of type " ++ (← Rtype.spelt src) ++ " is not assignable to type " ++ (← Rtype.spelt dst))
  pure (.tuple #[])):=rfl
theorem as_partsA (a:Addr)(w:World):(ReflectliteValue.parts (.agg #[.pointer (some ⟨7,146,none⟩),.pointer (some a),.int .u64 409])).run Tryz.prog w=.ok (some (146,a,409)) w:=by kernel_rfl
theorem as_partsR (a:Addr)(w:World):(ReflectliteValue.parts (.agg #[.pointer (some ⟨7,146,none⟩),.pointer (some a),.int .u64 153])).run Tryz.prog w=.ok (some (146,a,153)) w:=by kernel_rfl
theorem as_direct (w:World):(Rtype.directlyAssignable 146 146).run Tryz.prog w=.ok true w:=by kernel_rfl
/-- (Value).Set: the refusal at ta gets what the Value's own variable at b holds. -/
theorem as_set (ta b:Addr)(c:Int)(old:Value)(W:World)(hb:W.cell? b=some (.int .i64 c))(ht:W.cell? ta=some old)(hf:W.frozen? ta=false) :
  (ReflectliteValue.set #[.agg #[.pointer (some ⟨7,146,none⟩),.pointer (some ta),.int .u64 409],.agg #[.pointer (some ⟨7,146,none⟩),.pointer (some b),.int .u64 153]]).run Tryz.prog W
   = .ok (.tuple #[]) (W.setCell ta (.int .i64 c)):=by
 rw [as_rls]
 simp only [Sem.run_bind,as_partsA,as_partsR,Result.andThen]
 simp [ReflectliteValue.flagAddr,loadVar,isAgg,underlying,Tryz.underlying146,hb,Result.andThen,as_direct,storeVar,Value.cells,storeCells,Addr.add]
 have hl:=run_loadCells_list (P:=Tryz.prog) (w:=W) b [.int .i64 c] (fun j v hj=>by
  match j,hj with
  | 0,hj=>simp at hj;subst hj;rw [show b.add 0=b from by cases b;simp [Addr.add]];exact hb)
 simp only [List.length_cons,List.length_nil] at hl
 rw [hl]
 simp
 rw [show storeCells ta [Value.int .i64 c]=(do storeCells ta [Value.int .i64 c]) from rfl]
 simp [storeCells,Addr.add]
 rw [run_store Tryz.prog W ta _ _ (by rfl)]
 simp [ht,hf]
theorem as_mKind (h:Value)(w:World):(Go.method 500 278 (.agg #[h]) "Kind").run Tryz.prog w=.ok (357,h) w:=by kernel_rfl
theorem as_mElem (h:Value)(w:World):(Go.method 500 278 (.agg #[h]) "Elem").run Tryz.prog w=.ok (368,.agg #[h]) w:=by kernel_rfl
theorem as_mImplements (h:Value)(w:World):(Go.method 500 278 (.agg #[h]) "Implements").run Tryz.prog w=.ok (369,.agg #[h]) w:=by kernel_rfl
theorem as_mAssignableTo (h:Value)(w:World):(Go.method 500 278 (.agg #[h]) "AssignableTo").run Tryz.prog w=.ok (366,.agg #[h]) w:=by kernel_rfl
theorem as_hit (c:Int)(t:Addr)(old:Value)(w:World)(hg:w.cell? ⟨0,0,none⟩=some (.iface 278 (.agg #[.pointer (some ⟨7,149,none⟩)])))(ht0:w.cell? t=some old)(hf0:w.frozen? t=false) :
  Calls Tryz.prog 80 #[.iface 146 (.agg #[.int .i64 c]),.iface 151 (.pointer (some t))] w fun ev w'=>ev=.returned (.bool true)∧w'=((((w.alloc (.cells #[.pointer (some t)] 151)).alloc (.cells #[.pointer (some ⟨7,151,none⟩),.pointer (some ⟨w.heap.size,0,none⟩),.int .u64 150] 229)).alloc (.cells #[.pointer (some ⟨7,151,none⟩),.pointer (some ⟨w.heap.size,0,none⟩),.int .u64 150] 229)).alloc (.cells #[.int .i64 c] 146)).setCell t (.int .i64 c):=by
 have h6:=@run_callFunc_extern Tryz.prog 161 _ (fun args=>ReflectliteValue.unpack (args.getD 0 (.tuple #[]))) Tryz.func161 (by kernel_rfl) (by kernel_rfl) (by kernel_rfl) (by kernel_rfl)
 have h7:=@run_callFunc_extern Tryz.prog 162 _ (ReflectliteValue.methodAny (ReflectliteValue.valueError "reflectlite.Value.Type" 0) (fun t _ _ _=>ReflectliteType.toType t)) Tryz.func162 (by kernel_rfl) (by kernel_rfl) (by kernel_rfl) (by kernel_rfl)
 have h8:=@run_callFunc_extern Tryz.prog 163 _ (ReflectliteValue.method (ReflectliteValue.valueError "reflectlite.Value.IsNil" 0) ReflectliteValue.isNil) Tryz.func163 (by kernel_rfl) (by kernel_rfl) (by kernel_rfl) (by kernel_rfl)
 have h27:=@run_callFunc_extern Tryz.prog 357 _ (ReflectliteType.abiMethod fun t=>do pure (.int .u8 (← Rtype.kind t))) Tryz.func357 (by kernel_rfl) (by kernel_rfl) (by kernel_rfl) (by kernel_rfl)
 have h37:=@run_callFunc_extern Tryz.prog 368 _ (ReflectliteType.method ReflectliteType.elem) Tryz.func368 (by kernel_rfl) (by kernel_rfl) (by kernel_rfl) (by kernel_rfl)
 have h38:=@run_callFunc_extern Tryz.prog 369 _ (ReflectliteType.relation "Implements" ReflectliteType.implements_) Tryz.func369 (by kernel_rfl) (by kernel_rfl) (by kernel_rfl) (by kernel_rfl)
 have h10:=@run_callFunc_extern Tryz.prog 228 _ (ReflectliteType.typeOf) Tryz.func228 (by kernel_rfl) (by kernel_rfl) (by kernel_rfl) (by kernel_rfl)
 have h35:=@run_callFunc_extern Tryz.prog 366 _ (ReflectliteType.relation "AssignableTo" ReflectliteType.assignableTo) Tryz.func366 (by kernel_rfl) (by kernel_rfl) (by kernel_rfl) (by kernel_rfl)
 have h11:=@run_callFunc_extern Tryz.prog 229 _ (ReflectliteValue.method (ReflectliteValue.valueError "reflectlite.Value.Elem" 0) ReflectliteValue.elem) Tryz.func229 (by kernel_rfl) (by kernel_rfl) (by kernel_rfl) (by kernel_rfl)
 have h12:=@run_callFunc_extern Tryz.prog 230 _ (ReflectliteValue.set) Tryz.func230 (by kernel_rfl) (by kernel_rfl) (by kernel_rfl) (by kernel_rfl)
 have tO:=as_typeOf
 have aR:=as_assignable
 have vR:=as_valueOfR
 have f6:=as_valueOfP
 have f7:=as_typeP
 have kP:=as_kindP
 have kR:=as_kindR
 have eP:=as_elemP
 have iR:=as_implements
 have mK:=as_mKind
 have mE:=as_mElem
 have mI:=as_mImplements
 have mA:=as_mAssignableTo
 have n8:=as_isNil ⟨w.heap.size,0,none⟩ t ((w.alloc (.cells #[.pointer (some t)] 151)).alloc (.cells #[.pointer (some ⟨7,151,none⟩),.pointer (some ⟨w.heap.size,0,none⟩),.int .u64 150] 229)) (by simp)
 have hlt:0<w.heap.size:=by
  rcases Nat.eq_zero_or_pos w.heap.size with h0 | h
  ·simp [World.cell?,h0] at hg
  ·exact h
 have hg2:((w.alloc (.cells #[.pointer (some t)] 151)).alloc (.cells #[.pointer (some ⟨7,151,none⟩),.pointer (some ⟨w.heap.size,0,none⟩),.int .u64 150] 229)).cell? ⟨0,0,none⟩=some (.iface 278 (.agg #[.pointer (some ⟨7,149,none⟩)])):=by
  rw [World.cell?_alloc_lt _ _ ⟨0,0,none⟩ (by simp),World.cell?_alloc_lt _ _ ⟨0,0,none⟩ hlt];exact hg
 have htl:t.block<w.heap.size:=by
  rcases Nat.lt_or_ge t.block w.heap.size with h | h
  ·exact h
  ·simp [World.cell?,Array.getElem?_eq_none h] at ht0
 have el:=as_elemV ⟨w.heap.size,0,none⟩ t (((w.alloc (.cells #[.pointer (some t)] 151)).alloc (.cells #[.pointer (some ⟨7,151,none⟩),.pointer (some ⟨w.heap.size,0,none⟩),.int .u64 150] 229)).alloc (.cells #[.pointer (some ⟨7,151,none⟩),.pointer (some ⟨w.heap.size,0,none⟩),.int .u64 150] 229)) (by rw [World.cell?_alloc_lt _ _ ⟨w.heap.size,0,none⟩ (by simp;omega)];simp)
 have st:=as_set t ⟨w.heap.size+1+1+1,0,none⟩ c old ((((w.alloc (.cells #[.pointer (some t)] 151)).alloc (.cells #[.pointer (some ⟨7,151,none⟩),.pointer (some ⟨w.heap.size,0,none⟩),.int .u64 150] 229)).alloc (.cells #[.pointer (some ⟨7,151,none⟩),.pointer (some ⟨w.heap.size,0,none⟩),.int .u64 150] 229)).alloc (.cells #[.int .i64 c] 146))
  (by rw [World.cell?_alloc_at _ _ _ _ (by simp)];rfl)
  (by rw [World.cell?_alloc_lt _ _ t (by simp;omega),World.cell?_alloc_lt _ _ t (by simp;omega),World.cell?_alloc_lt _ _ t (by simp;omega),World.cell?_alloc_lt _ _ t htl];exact ht0)
  (by rw [World.frozen?_alloc_old _ _ t (by simp;omega),World.frozen?_alloc_old _ _ t (by simp;omega),World.frozen?_alloc_old _ _ t (by simp;omega),World.frozen?_alloc_old _ _ t (Nat.ne_of_lt htl)];exact hf0)
 go_enter Tryz.func80,Tryz.ntmps80
 go_wp2
 refine wp_loop_rounds 1 ?_
 rw [rounds_succ]
 go_wp2
 go_ret
 exact ⟨rfl,rfl⟩
end Go.Proofs.YtiapkffihpgdcaaGreatDoor
