import Derived.Test.YtiapkffihpgdcaaGreatDoorQC2
import Derived.Test.YtiapkffihpgdcaaGreatDoorQC3
import Derived.Test.YtiapkffihpgdcaaGreatDoorQC11
import Derived.Test.YtiapkffihpgdcaaGreatDoorQC16
import Derived.Test.YtiapkffihpgdcaaGreatDoorQC17
import Derived.Test.YtiapkffihpgdcaaGreatDoorProg
import Derived.Conc.RwLib
import Derived.Conc.MuData
import Derived.Conc.MuLone
import Derived.KernelRfl
import Derived.Lib.LaidTab
import Derived.Lib.LaidU8
import Derived.LaidHandle
import Derived.Shelf.Vars
import Derived.Lay
set_option linter.unusedVariables false
set_option linter.unusedSimpArgs false
set_option maxRecDepth 100000
set_option maxHeartbeats 4000000
namespace Go.Proofs.YtiapkffihpgdcaaGreatDoor
open Go.RowKit
theorem wpList_app3 {P : Program} {w : World} {ops : Array Oper} {rest : List Oper} {o : Oper} {a : Act} {Q : Exit → Act → World → Prop} (hgd : o.guard = none) (s x : Operand) {t e : TypeId}
    (ho : o.op = .call { callee := .builtin .append, args := #[s, x], argTypes := #[t, t] }) {z : Value} {size bytes : Nat} (ht : P.underlying t = some (.slice e))
    (hinfo : (P.info? e).map (fun i => (i.zero, i.size, i.bytes)) = some (some z, size, bytes)) (hzs : z.cells.size = size) (hsz : 0 < size)
    {base : Nat} {A : Option Addr} {n c : Nat} {xs : List Value} (hs : a.eval s = .slice A n c) (hown : w.ownsRow base e size (.slice A n c) n xs)
    {news : List Value} (hx : a.eval x = .slice (some ⟨w.heap.size, 0, none⟩) 1 1) (hl : news.length = size) (h1 : ∀ u ∈ news, u.oneCell' = true)
    (hn : n + 1 ≤ 1000000000) (hbytes : bytes ≤ 1000) (hbase : base ≤ w.heap.size)
    (h : ∀ A' c' w', w'.ownsRow base e size (.slice A' (n + 1) c') (n + 1) (xs ++ news) → (w.alloc (.cells news.toArray e)).grownBy w' (blkOf (A, c)) → (blkOf (A', c') = blkOf (A, c) ∨ blkOf (A', c') = some (w.alloc (.cells news.toArray e)).heap.size) → wpList P ops Q rest (a.put o.dst (.slice A' (n + 1) c')) w') :
    wpList P ops Q (o :: rest) a (w.alloc (.cells news.toArray e)) := by
  obtain ⟨i, hi, hz0, hz1, hz2⟩ := info_parts hinfo
  have hlt : ∀ j u, news[j]? = some u → (w.alloc (.cells news.toArray e)).cell? ((⟨w.heap.size, 0, none⟩ : Addr).add j) = some u := by
    intro j u hu
    have hadd : (⟨w.heap.size, 0, none⟩ : Addr).add j = ⟨w.heap.size, j, none⟩ := by unfold Addr.add; split <;> simp_all
    rw [hadd, World.cell?_alloc_at _ _ _ _ rfl]
    simpa using hu
  have hb : (n + 1) * bytes ≤ 140737488355328 := by
    have : (n + 1) * bytes ≤ 1000000000 * 1000 := Nat.mul_le_mul hn hbytes
    omega
  have e1 : (Value.slice A n c).ownBlock = blkOf (A, c) := own_blk (A, c) n
  refine wpList_append_any _ hgd s x t ho base e i z size bytes ht hi hz0 hz1 hz2 hzs hsz _ n xs hs (hown.alloc _) (w.heap.size + 1) _ 1 1 news hx ⟨by omega, fun _ => ⟨_, rfl, by simp, hlt⟩⟩ h1 (by unfold maxLen; omega) hb (by simp; omega) ?_
  intro v' w' hown' hg hx'
  obtain ⟨A', c', hv⟩ := own_shape hown'
  rw [hv] at hown' hx'
  rw [hv]
  rw [e1] at hg hx'
  have e2 : (Value.slice A' (n + 1) c').ownBlock = blkOf (A', c') := own_blk (A', c') (n + 1)
  rw [e2] at hx'
  exact h A' c' w' hown' hg hx'
theorem info_str9:(Tryz.prog.info? 9).map (fun i=>(i.zero,i.size,i.bytes))=some (some (St []),1,16):=by kernel_rfl
/-- The error that a code stands for. -/
def erV (c:Int):Value:=if c=0 then .nilIface else .iface 146 (.agg #[.int .i64 c])
theorem erV_no {c:Int}(h:c≠0):erV c=.iface 146 (.agg #[.int .i64 c]):=by unfold erV;rw [if_neg h]
theorem refuse_any (c:Int)(w:World):Calls Tryz.prog 166 #[.int .i64 c] w fun e w'=>e=.returned (erV c)∧w=w':=by
 by_cases h:c=0
 ·subst h
  go_enter Tryz.func166,Tryz.ntmps166
  go_wp2
  go_ret
  exact ⟨rfl,rfl⟩
 ·have h':(c == 0)=false:=by simp [h]
  rw [erV_no h]
  go_enter Tryz.func166,Tryz.ntmps166
  go_wp2
  go_ret
  exact ⟨rfl,rfl⟩
theorem exS_keeps (o:Of)(r:Rq):(exS o r).orders=o.orders:=by
 unfold exS
 repeat (first | rfl | split)
theorem prs_name {s:Wd}{r:Rq}(h:prs s=some r):r.name.length≤s.length∧r.nums.length≤s.length+1:=by
 obtain ⟨hw1,hw2⟩:=wds_lens s
 have ht:∀x ∈ (wds s).tail,x.length≤s.length:=fun x hx=>hw1 x (List.mem_of_mem_tail hx)
 unfold prs at h
 cases hf:fmOf (hd (wds s)) with
 | none=>rw [hf] at h;cases h
 | some f =>
  rw [hf] at h
  simp only at h
  by_cases h60:60<s.length
  ·rw [if_pos h60] at h;cases h
  ·rw [if_neg h60] at h
   cases hn:f.name with
   | false =>
    rw [hn] at h
    simp only [Bool.false_eq_true,if_false] at h
    obtain ⟨rfl,_,_⟩:=rqN_some h
    exact ⟨by simp,by simp;omega⟩
   | true =>
    rw [hn] at h
    simp only [if_true] at h
    by_cases he:(wds s).tail=[]
    ·rw [if_pos he] at h;cases h
    ·rw [if_neg he] at h
     cases hl:letB (hd (wds s).tail) with
     | false=>rw [hl] at h;cases h
     | true =>
      rw [hl] at h
      simp only [if_true] at h
      obtain ⟨rfl,_,_⟩:=rqN_some h
      refine ⟨?_,by simp;omega⟩
      show (hd (wds s).tail).length≤_
      cases htl:(wds s).tail with
      | nil=>exact absurd htl he
      | cons x r=>exact ht x (by rw [htl];simp)
/-- What the doing of an order leaves. -/
def RetE (L:Int)(N:Nat)(w:World)(F:Nat→Prop)(g:Nat)(code:Int)(s':Of)(e:Ending)(w':World):Prop :=
 e=.returned (erV code)∧Off F w w'∧∃h',PO L N w' (grown F w w') g h' s'
section
variable {L:Int}{N:Nat}{w:World}{F:Nat→Prop}{g:Nat}{h:Hd}{s:Of}
theorem do_any (hP:PO L N w F g h s)(hE:EnvZ w)(hN:N<1000000000)(txt:Wd)(ht:txt.length≤1000000000) :
  Calls Tryz.prog 81 #[.pointer (some ⟨g,0,none⟩),St txt] w (RetE L (N+1) w F g (doE s txt) (doS s txt)):=by
 obtain ⟨D,hD⟩:∃D,D=doE s txt:=⟨_,rfl⟩
 obtain ⟨T,hT⟩:∃T,T=doS s txt:=⟨_,rfl⟩
 rw [← hD,← hT]
 have HD:=Lib.hid hD
 have HT:=Lib.hid hT
 clear hD hT
 have hcon:=parse_any txt ht w hE
 cases hp:prs txt with
 | none =>
  rw [hp] at hcon
  have h3:D=3:=by rw [HD.out,doE_none hp]
  have hTs:T=s:=by rw [HT.out,doS_bad (by rw [doE_none hp];decide)]
  subst h3
  have HTS:=Lib.hid hTs
  have HC:=Lib.hid hcon
  clear hcon hTs hp
  go_enter Tryz.func81,Tryz.ntmps81
  go_wp2_with (go_at_call 165;(with_reducible refine HC.out.mono ?_);rintro e w2 ⟨he2,hb2⟩;have he3:e=.returned (.tuple #[rq0,.iface 146 (.agg #[.int .i64 3])]):=he2;subst he3;clear he2;unfold rq0)
  go_ret
  rw [HTS.out]
  have hbx:=hb2.alloc hb2.size (.cells #[.int .i64 0,St [],.slice none 0 0] 239)
  exact ⟨rfl,.of_below hbx,h,(hP.below' hbx).more (Nat.le_succ _)⟩
 | some r =>
  rw [hp] at hcon
  obtain ⟨hrq,h60⟩:=prs_ok hp
  obtain ⟨hnl,hnu⟩:=prs_name hp
  have hol:=hP.ok.ol
  have HC:=Lib.hid hcon
  have HPR:=Lib.hid hp
  clear hcon
  by_cases h200:200≤s.orders.length
  ·have h200':decide ((200:Int)≤(s.orders.length:Int))=true:=by rw [decide_eq_true_eq];omega
   have h4:D=4:=by rw [HD.out,doE_full hp h200]
   have hTs:T=s:=by rw [HT.out,doS_bad (by rw [doE_full hp h200];decide)]
   subst h4
   have HTS:=Lib.hid hTs
   clear hTs hp h200
   go_enter Tryz.func81,Tryz.ntmps81
   go_wp2_with (go_at_call 165;(with_reducible refine HC.out.mono ?_);rintro e w2 ⟨⟨A,c,he2,own2⟩,hb2⟩;subst he2;obtain ⟨w3,hw3⟩:∃w3,w2.alloc (.cells #[.int .i64 r.kind,St r.name,.slice A r.nums.length c] 239)=w3:=⟨_,rfl⟩;have hb3:Below w2.heap.size w2 w3:=(by rw [← hw3];exact (Below.refl _ _).alloc (Nat.le_refl _) _);have b3:Box w3 w2.heap.size #[.int .i64 r.kind,St r.name,.slice A r.nums.length c]:=(by rw [← hw3];exact Box.new _ _ _);have x0:=b3.cell 0;have x1:=b3.cell 1;have x2:=b3.cell 2;simp only [gqA,gqB,gqC] at x0 x1 x2;have hbx:=hb2.trans (hb3.mono hb2.size);have hP3:=hP.below hbx;have q19:=hP3.cOd)
   go_ret
   rw [HTS.out]
   exact ⟨rfl,.of_below hbx,h,(hP.below' hbx).more (Nat.le_succ _)⟩
  ·have h200':decide ((200:Int)≤(s.orders.length:Int))=false:=by rw [decide_eq_false_iff_not];omega
   have hDE:D=exE s r:=by rw [HD.out,doE_some hp (by omega)]
   obtain ⟨S2,hS2⟩:∃S2,S2=if exE s r=0 then exS s r else s:=⟨_,rfl⟩
   have HS2:=Lib.hid hS2
   have HDE:=Lib.hid hDE
   clear hDE hS2 hp
   go_enter Tryz.func81,Tryz.ntmps81
   go_wp2_with (go_at_call 165;(with_reducible refine HC.out.mono ?_);rintro e w2 ⟨⟨A,c,he2,own2⟩,hb2⟩;subst he2;obtain ⟨w3,hw3⟩:∃w3,w2.alloc (.cells #[.int .i64 r.kind,St r.name,.slice A r.nums.length c] 239)=w3:=⟨_,rfl⟩;have hb3:Below w2.heap.size w2 w3:=(by rw [← hw3];exact (Below.refl _ _).alloc (Nat.le_refl _) _);have b3:Box w3 w2.heap.size #[.int .i64 r.kind,St r.name,.slice A r.nums.length c]:=(by rw [← hw3];exact Box.new _ _ _);have x0:=b3.cell 0;have x1:=b3.cell 1;have x2:=b3.cell 2;simp only [gqA,gqB,gqC] at x0 x1 x2;have hbx:=hb2.trans (hb3.mono hb2.size);have hP3:=hP.below hbx;have q19:=hP3.cOd)
   have own3:=own_below own2 hb3 (fun k hk=>(World.ownsRow.lt own2 k hk).2)
   have hc:r.nums.length≤c:=by
    rcases own2.2 with ⟨h1,h2⟩ | ⟨_,_,_,h1,_,_,h4,_⟩
    ·omega
    ·injection h1 with _ _ h1;omega
   have hex:=execute_any hP3 (hE.below hbx) hN r hrq (by omega) (by omega) A c (RN.of_own own3) hc
   rw [← HDE.out,] at hex
   rw [show (if D=0 then exS s r else s)=S2 by rw [HS2.out,HDE.out]] at hex
   refine hex.mono ?_
   rintro e w4 hr4
   have he4:=hr4.1
   subst he4
   have HR:=Lib.hid hr4
   clear hr4 hex x0 x1 x2 own2 own3 b3 hw3 q19
   go_wp2_with fail
   refine (refuse_any D _).mono ?_
   rintro e w5 ⟨rfl,rfl⟩
   by_cases hz:D=0
   ·subst hz
    have hz0:erV 0=.nilIface:=rfl
    have hS3:S2=exS s r:=by rw [HS2.out,← HDE.out,if_pos rfl]
    have hkp:S2.orders=s.orders:=by rw [hS3,exS_keeps]
    have hT3:T={ S2 with orders:=S2.orders ++ [txt] }:=by
     have:doE s txt=0:=HD.out.symm
     rw [HT.out,doS_good this HPR.out,hS3,exS_keeps]
    obtain ⟨-,ho4,h4,hP4⟩:=RetO.back hP hbx HR.out
    have hok:OfOk { S2 with orders:=S2.orders ++ [txt] }:=hP4.ok.orders HPR.out (by rw [hkp];omega) rfl
    have hl4:S2.orders.length<200:=by rw [hkp];omega
    have HT3:=Lib.hid hT3
    have HOK:=Lib.hid hok
    have q:=hP4.cOd
    have f:=hP4.box.free 19
    have ow:w4.ownsRow 0 9 1 (.slice h4.od.1 S2.orders.length h4.od.2) S2.orders.length (strs S2.orders):=hP4.od
    have hgl:=hP4.gl
    have hne:blkOf (h4.od.1,h4.od.2)≠some g:=fun e=>(hP4.odF g e).2.1 rfl
    have HNE:=Lib.hid hne
    rw [hz0]
    clear hz0 hS3 hkp hT3 hok hne
    go_wp2_with (at_builtin;refine wpList_app3 rfl _ _ rfl Tryz.underlying33 info_str9 rfl (by omega) rfl ow rfl rfl (by simp [Value.oneCell']) (by omega) (by omega) (by omega) ?_;intro A3 c3 w7 own7 hg7 hk7;have hX7:=grown_at (wr:=w4) ((Below.refl _ _).alloc (Nat.le_refl _) _) hg7 (p:=⟨g,19,none⟩) hgl HNE.out;have z7:=hX7.1.trans q;have f7:=hX7.2.trans f;clear hX7)
    go_ret
    rw [HT3.out]
    obtain ⟨o1,o2⟩:=hP4.app_od (Below.refl _ _) ((Below.refl _ _).alloc (Nat.le_refl _) _) txt own7 hg7 hk7 HOK.out
    refine ⟨rfl,ho4.trans o1 (fun k hk=>?_),_,o2.wide (fun k hk=>?_) (grown_lo hP (Nat.le_trans ho4.size o1.size))⟩
    ·rcases hk with hk | hk
     ·exact .inl hk
     ·exact .inr hk.1
    ·rcases hk with (hk | hk) | hk
     ·exact .inl hk
     ·exact .inr ⟨hk.1,Nat.lt_of_lt_of_le hk.2 o1.size⟩
     ·exact .inr ⟨Nat.le_trans ho4.size hk.1,hk.2⟩
   ·have hS3:S2=s:=by rw [HS2.out,← HDE.out,if_neg hz]
    have hT3:T=s:=by rw [HT.out,doS_bad (by rw [← HD.out];exact hz)]
    have HZ:=Lib.hid hz
    have HT3:=Lib.hid hT3
    have HS3:=Lib.hid hS3
    rw [erV_no hz]
    clear hz hT3 hS3
    go_wp2_with fail
    go_ret
    obtain ⟨-,ho4,h4,hP4⟩:=RetO.back hP hbx HR.out
    rw [HS3.out] at hP4
    rw [HT3.out]
    exact ⟨by rw [erV_no HZ.out];rfl,ho4,h4,hP4⟩
end
end Go.Proofs.YtiapkffihpgdcaaGreatDoor
namespace Go.Proofs.YtiapkffihpgdcaaGreatDoor
abbrev muLink : Go.Conc.Locks.MuLink := { lock := 78, unlock := 79, ilock := 159, iunlock := 160, lockSlow := 224, unlockSlow := 227, disable := 220, enable := 222, acquire := 223, relMerge := 225, cas32 := 221, add32 := 226, tMutex := 134, tIMutex := 132, tPMutex := 225, tPIMutex := 271, tPI32 := 273, tUP := 226, tNoCopy := 129, tU32 := 130 }
theorem muLib:Go.Conc.Locks.MuLib Tryz.prog muLink :=
 ⟨Tryz.func78,Tryz.func79,Tryz.func159,Tryz.func160,Tryz.func220,Tryz.func222,Tryz.func223,Tryz.func225,Tryz.func221,Tryz.func226,Tryz.underlying132,Tryz.runUnderlying132,Tryz.sizeOf132,Tryz.isAgg132,Tryz.zeroValue132,Tryz.underlying134,Tryz.runUnderlying134,Tryz.sizeOf134,Tryz.isAgg134,Tryz.zeroValue134,Tryz.underlying225,Tryz.runUnderlying225,Tryz.sizeOf225,Tryz.isAgg225,Tryz.zeroValue225,Tryz.underlying271,Tryz.runUnderlying271,Tryz.sizeOf271,Tryz.isAgg271,Tryz.zeroValue271,Tryz.underlying273,Tryz.runUnderlying273,Tryz.sizeOf273,Tryz.isAgg273,Tryz.zeroValue273,Tryz.underlying226,Tryz.runUnderlying226,Tryz.sizeOf226,Tryz.isAgg226,Tryz.zeroValue226,Tryz.underlying129,Tryz.runUnderlying129,Tryz.sizeOf129,Tryz.isAgg129,Tryz.zeroValue129,Tryz.underlying21,Tryz.runUnderlying21,Tryz.sizeOf21,Tryz.isAgg21,Tryz.zeroValue21,(by kernel_rfl)⟩
end Go.Proofs.YtiapkffihpgdcaaGreatDoor
namespace Go.Proofs.YtiapkffihpgdcaaGreatDoor
open Go.RowKit Go.MuLone
theorem lock_restore {w w1 w':World}{g:Nat}(h0:w.cell? ⟨g,0,none⟩=some (.int .i32 0))(h1:w1=w.setCell ⟨g,0,none⟩ (.int .i32 1))(hb:Below w1.heap.size w1 w'):Below w.heap.size w (w'.setCell ⟨g,0,none⟩ (.int .i32 0)):=by
 subst h1
 rw [set_size] at hb
 refine ⟨hb.os,hb.tape,hb.output,by have:=hb.size;rw [set_size] at this ⊢;exact this,fun k hk=>?_⟩
 by_cases e:k=g
 ·subst e
  have hk':=hb.block k hk
  unfold World.cell? at h0
  cases hw:w.heap[k]? with
  | none=>simp [hw] at h0
  | some o =>
   cases o with
   | cells c t fr =>
    simp [hw] at h0
    have h2:(w.setCell ⟨k,0,none⟩ (.int .i32 1)).heap[k]? = some (.cells (c.setIfInBounds 0 (.int .i32 1)) t fr):=by simp [World.setCell,Array.getElem?_modify,hw]
    rw [h2] at hk'
    have h3:(w'.setCell ⟨k,0,none⟩ (.int .i32 0)).heap[k]? = some (.cells ((c.setIfInBounds 0 (.int .i32 1)).setIfInBounds 0 (.int .i32 0)) t fr):=by simp [World.setCell,Array.getElem?_modify,hk']
    rw [h3]
    have h4:(c.setIfInBounds 0 (.int .i32 1)).setIfInBounds 0 (.int .i32 0)=c:=by
     apply Array.ext_getElem?
     intro i
     by_cases hi:i=0
     ·subst hi
      obtain ⟨hlt,_⟩:=Array.getElem?_eq_some_iff.1 h0
      rw [h0];simp [hlt]
     ·simp [Array.getElem?_setIfInBounds,Ne.symm hi]
    rw [h4]
   | _=>simp [hw] at h0
 ·rw [set_other _ _ _ _ e,hb.block k hk,set_other _ _ _ _ e]
section
variable {N:Nat}{w:World}{F:Nat→Prop}{g:Nat}{h:Hd}{s:Of}
theorem PO.lock (hP:PO 0 N w F g h s){w1:World}(h1:w1=w.setCell ⟨g,0,none⟩ (.int .i32 1)):PO 1 N w1 F g h s:=by
 subst h1
 exact hP.cell 0 (.int .i32 1) (by omega) (L':=1) (s':=s) rfl ⟨rfl,rfl,rfl⟩ ⟨rfl,rfl,rfl,rfl,rfl,rfl,rfl⟩ hP.ok
theorem PO.unlock (hP:PO 1 N w F g h s):PO 0 N (w.setCell ⟨g,0,none⟩ (.int .i32 0)) F g h s :=
 hP.cell 0 (.int .i32 0) (by omega) (L':=0) (s':=s) rfl ⟨rfl,rfl,rfl⟩ ⟨rfl,rfl,rfl,rfl,rfl,rfl,rfl⟩ hP.ok
end
/-- What a locked question leaves: its value in the world w2,in which the lock is then let go. -/
def RetL (E:Int)(Z:Value)(g:Nat)(w:World)(Q:Value→World→Prop)(e:Ending)(w':World):Prop :=
 ∃v w2,e=.returned (.tuple #[if E=0 then v else Z,.int .i64 E])∧Q v w2∧w'=w2.setCell ⟨g,0,none⟩ (.int .i32 0)∧Below w.heap.size (w.setCell ⟨g,0,none⟩ (.int .i32 1)) w2∧Below w.heap.size w w'
theorem lockedInt_any {N:Nat}{w:World}{F:Nat→Prop}{g:Nat}{h:Hd}{s:Of}(hP:PO 0 N w F g h s){K:FuncId}{caps:Array Value}{E:Int}{Q:Value→World→Prop}(hK:∀args w,(callFunc K args).run Tryz.prog w=.ok (.enter K args) w)
  (hC:Calls Tryz.prog K caps (w.setCell ⟨g,0,none⟩ (.int .i32 1)) fun e w'=>∃v,e=.returned (.tuple #[v,.int .i64 E])∧Q v w'∧Below w.heap.size (w.setCell ⟨g,0,none⟩ (.int .i32 1)) w') :
  Calls Tryz.prog 70 #[.pointer (some ⟨g,0,none⟩),.func (.func K) #[] caps] w (RetL E (.int .i64 0) g w Q):=by
 have h0:=hP.cLk
 have f0:=hP.box.free 0
 have hgl:=hP.gl
 have HC:=Lib.hid hC
 clear hC
 by_cases hE:E=0
 ·have hE':(E != 0)=false:=by simp [hE]
  have HE:=Lib.hid hE;clear hE
  go_enter_defers Tryz.func70,Tryz.ntmps70
  go_wp2_with (first | (go_at_call 78;refine (lock_free muLib ⟨g,0,none⟩ _ h0 f0).mono ?_;rintro e w' ⟨rfl,rfl⟩))
  refine HC.out.mono ?_
  rintro e w2 ⟨v,rfl,hq,hb2⟩
  have hg2:g<w2.heap.size:=Nat.lt_of_lt_of_le hgl (by have:=hb2.size;rw [set_size] at this;exact this)
  have c2:w2.cell? ⟨g,0,none⟩=some (.int .i32 1):=(hb2.cell (p:=⟨g,0,none⟩) hgl).trans (World.cell?_setCell_same w ⟨g,0,none⟩ (.int .i32 1) h0)
  have f2:w2.frozen? ⟨g,0,none⟩=false:=(hb2.frozen (p:=⟨g,0,none⟩) hgl).trans (by rw [World.frozen?_setCell];exact f0)
  have hB:=lock_restore h0 rfl (by rw [set_size];exact hb2)
  clear h0 f0
  go_wp2_with fail
  refine leaves_cons (f:=79) (args:=#[.pointer (some ⟨g,0,none⟩)]) (by simp) (by simp [go_sem]) ?_
  refine (unlock_deferred muLib ⟨g,0,none⟩ .returning _ c2 f2).mono ?_
  rintro e u' w'' ⟨rfl,rfl,rfl⟩
  exact ⟨_,results_tmp2 rfl _ _ _,v,w2,by rw [if_pos HE.out,HE.out] <;> rfl,hq,rfl,hb2,hB⟩
 ·have hE':(E != 0)=true:=by simp [hE]
  have HE:=Lib.hid hE;clear hE
  go_enter_defers Tryz.func70,Tryz.ntmps70
  go_wp2_with (first | (go_at_call 78;refine (lock_free muLib ⟨g,0,none⟩ _ h0 f0).mono ?_;rintro e w' ⟨rfl,rfl⟩))
  refine HC.out.mono ?_
  rintro e w2 ⟨v,rfl,hq,hb2⟩
  have hg2:g<w2.heap.size:=Nat.lt_of_lt_of_le hgl (by have:=hb2.size;rw [set_size] at this;exact this)
  have c2:w2.cell? ⟨g,0,none⟩=some (.int .i32 1):=(hb2.cell (p:=⟨g,0,none⟩) hgl).trans (World.cell?_setCell_same w ⟨g,0,none⟩ (.int .i32 1) h0)
  have f2:w2.frozen? ⟨g,0,none⟩=false:=(hb2.frozen (p:=⟨g,0,none⟩) hgl).trans (by rw [World.frozen?_setCell];exact f0)
  have hB:=lock_restore h0 rfl (by rw [set_size];exact hb2)
  clear h0 f0
  go_wp2_with fail
  refine leaves_cons (f:=79) (args:=#[.pointer (some ⟨g,0,none⟩)]) (by simp) (by simp [go_sem]) ?_
  refine (unlock_deferred muLib ⟨g,0,none⟩ .returning _ c2 f2).mono ?_
  rintro e u' w'' ⟨rfl,rfl,rfl⟩
  exact ⟨_,results_tmp2 rfl _ _ _,v,w2,by rw [if_neg HE.out] <;> rfl,hq,rfl,hb2,hB⟩
theorem lockedFa_any {N:Nat}{w:World}{F:Nat→Prop}{g:Nat}{h:Hd}{s:Of}(hP:PO 0 N w F g h s){K:FuncId}{caps:Array Value}{E:Int}{Q:Value→World→Prop}(hK:∀args w,(callFunc K args).run Tryz.prog w=.ok (.enter K args) w)
  (hC:Calls Tryz.prog K caps (w.setCell ⟨g,0,none⟩ (.int .i32 1)) fun e w'=>∃v,e=.returned (.tuple #[v,.int .i64 E])∧Q v w'∧Below w.heap.size (w.setCell ⟨g,0,none⟩ (.int .i32 1)) w') :
  Calls Tryz.prog 75 #[.pointer (some ⟨g,0,none⟩),.func (.func K) #[] caps] w (RetL E (.slice none 0 0) g w Q):=by
 have h0:=hP.cLk
 have f0:=hP.box.free 0
 have hgl:=hP.gl
 have HC:=Lib.hid hC
 clear hC
 by_cases hE:E=0
 ·have hE':(E != 0)=false:=by simp [hE]
  have HE:=Lib.hid hE;clear hE
  go_enter_defers Tryz.func75,Tryz.ntmps75
  go_wp2_with (first | (go_at_call 78;refine (lock_free muLib ⟨g,0,none⟩ _ h0 f0).mono ?_;rintro e w' ⟨rfl,rfl⟩))
  refine HC.out.mono ?_
  rintro e w2 ⟨v,rfl,hq,hb2⟩
  have hg2:g<w2.heap.size:=Nat.lt_of_lt_of_le hgl (by have:=hb2.size;rw [set_size] at this;exact this)
  have c2:w2.cell? ⟨g,0,none⟩=some (.int .i32 1):=(hb2.cell (p:=⟨g,0,none⟩) hgl).trans (World.cell?_setCell_same w ⟨g,0,none⟩ (.int .i32 1) h0)
  have f2:w2.frozen? ⟨g,0,none⟩=false:=(hb2.frozen (p:=⟨g,0,none⟩) hgl).trans (by rw [World.frozen?_setCell];exact f0)
  have hB:=lock_restore h0 rfl (by rw [set_size];exact hb2)
  clear h0 f0
  go_wp2_with fail
  refine leaves_cons (f:=79) (args:=#[.pointer (some ⟨g,0,none⟩)]) (by simp) (by simp [go_sem]) ?_
  refine (unlock_deferred muLib ⟨g,0,none⟩ .returning _ c2 f2).mono ?_
  rintro e u' w'' ⟨rfl,rfl,rfl⟩
  exact ⟨_,results_tmp2 rfl _ _ _,v,w2,by rw [if_pos HE.out,HE.out] <;> rfl,hq,rfl,hb2,hB⟩
 ·have hE':(E != 0)=true:=by simp [hE]
  have HE:=Lib.hid hE;clear hE
  go_enter_defers Tryz.func75,Tryz.ntmps75
  go_wp2_with (first | (go_at_call 78;refine (lock_free muLib ⟨g,0,none⟩ _ h0 f0).mono ?_;rintro e w' ⟨rfl,rfl⟩))
  refine HC.out.mono ?_
  rintro e w2 ⟨v,rfl,hq,hb2⟩
  have hg2:g<w2.heap.size:=Nat.lt_of_lt_of_le hgl (by have:=hb2.size;rw [set_size] at this;exact this)
  have c2:w2.cell? ⟨g,0,none⟩=some (.int .i32 1):=(hb2.cell (p:=⟨g,0,none⟩) hgl).trans (World.cell?_setCell_same w ⟨g,0,none⟩ (.int .i32 1) h0)
  have f2:w2.frozen? ⟨g,0,none⟩=false:=(hb2.frozen (p:=⟨g,0,none⟩) hgl).trans (by rw [World.frozen?_setCell];exact f0)
  have hB:=lock_restore h0 rfl (by rw [set_size];exact hb2)
  clear h0 f0
  go_wp2_with fail
  refine leaves_cons (f:=79) (args:=#[.pointer (some ⟨g,0,none⟩)]) (by simp) (by simp [go_sem]) ?_
  refine (unlock_deferred muLib ⟨g,0,none⟩ .returning _ c2 f2).mono ?_
  rintro e u' w'' ⟨rfl,rfl,rfl⟩
  exact ⟨_,results_tmp2 rfl _ _ _,v,w2,by rw [if_neg HE.out] <;> rfl,hq,rfl,hb2,hB⟩
/-- What the program's library asks of the world. -/
structure EnvA (w:World):Prop where
 z:EnvZ w
 err:w.cell? ⟨0,0,none⟩=some (.iface 278 (.agg #[.pointer (some ⟨7,149,none⟩)]))
theorem EnvA.off {M:Nat→Prop}{w w':World}(h:EnvA w)(ho:Off M w w')(hM:∀k,M k→7≤k):EnvA w':=by
 have hs:=h.z.size
 have hb:∀k,k<7→w'.heap[k]? = w.heap[k]?:=fun k hk=>ho.block k (by omega) (fun e=>by have:=hM k e;omega)
 exact ⟨h.z.of (hb 1 (by omega)) (hb 3 (by omega)) ho.size,(World.cell?_of_block (w:=w) (a:=⟨0,0,none⟩) (hb 0 (by omega))).trans h.err⟩
theorem EnvA.below {w w':World}(h:EnvA w)(hb:Below w.heap.size w w'):EnvA w':=h.off (M:=fun _=>False) (.of_below hb) (fun _ e=>e.elim)
section
variable {N:Nat}{w:World}{F:Nat→Prop}{g:Nat}{h:Hd}{s:Of}
theorem PO.f7 {L:Int}(hP:PO L N w F g h s):∀k,F k→7≤k:=fun k hk=>(hP.lo k hk).1
theorem Do_any (hP:PO 0 N w F g h s)(hE:EnvA w)(hN:N<1000000000)(txt:Wd)(ht:txt.length≤1000000000) :
  Calls Tryz.prog 25 #[.pointer (some ⟨g,0,none⟩),St txt] w (RetO 0 (N+1) w F g (doE s txt) (doS s txt)):=by
 have h0:=hP.cLk
 have f0:=hP.box.free 0
 have hg7:=(hP.lo g hP.gF).1
 obtain ⟨w1,hw1⟩:∃w1,w1=w.setCell ⟨g,0,none⟩ (.int .i32 1):=⟨_,rfl⟩
 have hP1:=hP.lock hw1
 have ho1:Off F w w1:=by rw [hw1];exact (Off.refl F w).setCell (.inl hP.gF) _
 have hE1:=hE.off ho1 hP.f7
 obtain ⟨w2,hw2⟩:∃w2,w1.alloc (.cells #[.int .i64 0] 146)=w2:=⟨_,rfl⟩
 have hb2:Below w1.heap.size w1 w2:=by rw [← hw2];exact (Below.refl _ _).alloc (Nat.le_refl _) _
 have b2:Box w2 w1.heap.size #[.int .i64 0]:=by rw [← hw2];exact Box.new _ _ _
 have hP2:=hP1.below hb2
 have hE2:=hE1.below hb2
 have hcon:=do_any hP2 hE2.z hN txt ht
 obtain ⟨D,hD⟩:∃D,D=doE s txt:=⟨_,rfl⟩
 obtain ⟨T,hT⟩:∃T,T=doS s txt:=⟨_,rfl⟩
 rw [← hD,← hT] at hcon ⊢
 clear hD hT
 have HC:=Lib.hid hcon
 clear hcon
 go_enter_defers Tryz.func25,Tryz.ntmps25
 go_wp2_with (first | (go_at_call 78;refine (lock_free muLib ⟨g,0,none⟩ _ h0 f0).mono ?_;rintro e w' ⟨rfl,hw⟩;rw [← hw1] at hw;subst hw))
 have hww:((w.setCell ⟨g,0,none⟩ (.int .i32 1)).alloc (.cells #[.int .i64 0] 146))=w2:=by rw [← hw2,hw1]
 rw [hww]
 have hsz1:w'.heap.size=w.heap.size:=by rw [hw1,set_size]
 rw [hsz1] at b2
 have ho2:Off F w w2:=ho1.trans (F':=F) (.of_below hb2) (fun k hk=>.inl hk)
 have hlo:=hP.lo
 have hgF:=hP.gF
 clear hww hw2 hw1 hP1 hE1 h0 f0 hsz1
 refine HC.out.mono ?_
 rintro e w3 hr
 have he3:=hr.1
 subst he3
 obtain ⟨-,ho3,h4,hP3⟩:=hr
 have b3:=b2.off ho3 (fun hk=>by have:=(hlo _ hk).2;omega)
 have hE3:=hE2.off ho3 hP.f7
 have hs2:w.heap.size<w2.heap.size:=b2.lt
 have ho23:Off F w w3:=ho2.trans ho3 (fun k hk=>.inl hk)
 have hs3:=ho3.size
 have c3:=hP3.cLk
 have f3:=hP3.box.free 0
 have hgl3:=hP3.gl
 by_cases hz:D=0
 ·subst hz
  have hz0:erV 0=.nilIface:=rfl
  rw [hz0]
  go_wp2_with (go_at_call 80;(with_reducible refine (as_nil _ _).mono ?_);rintro e w4 ⟨rfl,hw4⟩;subst hw4)
  refine leaves_cons (f:=79) (args:=#[.pointer (some ⟨g,0,none⟩)]) (by simp) (by simp [go_sem]) ?_
  refine (unlock_deferred muLib ⟨g,0,none⟩ .returning _ c3 f3).mono ?_
  rintro e u' w'' ⟨rfl,rfl,rfl⟩
  have hP5:=hP3.unlock
  refine ⟨_,results_tmp rfl _ _ _,rfl,ho23.setCell (.inl hgF) _,h4,hP5.wide (fun k hk=>?_) (grown_lo hP (by rw [set_size];omega))⟩
  rcases hk with hk | hk
  ·exact .inl hk
  ·exact .inr ⟨by omega,by rw [set_size];exact hk.2⟩
 ·have hz':=hz
  have HZ:=Lib.hid hz
  rw [erV_no hz]
  have x3:=b3.cell 0
  have y3:=b3.free 0
  simp only [gqA,gqB,gqC] at x3
  have hass:=as_hit D ⟨w.heap.size,0,none⟩ (.int .i64 0) w3 hE3.err x3 y3
  obtain ⟨wa,hwa⟩:∃wa,wa=((((w3.alloc (.cells #[.pointer (some ⟨w.heap.size,0,none⟩)] 151)).alloc (.cells #[.pointer (some ⟨7,151,none⟩),.pointer (some ⟨w3.heap.size,0,none⟩),.int .u64 150] 229)).alloc (.cells #[.pointer (some ⟨7,151,none⟩),.pointer (some ⟨w3.heap.size,0,none⟩),.int .u64 150] 229)).alloc (.cells #[.int .i64 D] 146)):=⟨_,rfl⟩
  rw [← hwa] at hass
  have hba:Below w3.heap.size w3 wa:=by rw [hwa];exact ((((Below.refl _ _).alloc (Nat.le_refl _) _).alloc (by simp) _).alloc (by simp;omega) _).alloc (by simp;omega) _
  have ba:=b3.below hba
  have hPa:=hP3.below hba
  obtain ⟨wb,hwb⟩:∃wb,wb=wa.setCell ⟨w.heap.size,0,none⟩ (.int .i64 D):=⟨_,rfl⟩
  rw [← hwb] at hass
  have bb:Box wb w.heap.size #[.int .i64 D]:=by rw [hwb];exact ba.set 0 (.int .i64 D) (by simp)
  have hob:Off (fun k=>k=w.heap.size) wa wb:=by rw [hwb];exact (Off.refl (fun k=>k=w.heap.size) wa).setCell (p:=⟨w.heap.size,0,none⟩) (.inl rfl) _
  have hPb:=hPa.off hob (fun k hk e=>by
   subst e
   rcases hk with hk | hk
   ·have:=(hlo _ hk).2;omega
   ·omega)
  have hoa:Off F w wa:=ho23.then_below (hba.mono (Nat.le_refl _))
  have hobb:Off F w wb:=hoa.trans hob (fun k hk=>.inr (by omega))
  have x5:=bb.cell 0
  simp only [gqA,gqB,gqC] at x5
  have c5:=hPb.cLk
  have f5:=hPb.box.free 0
  have HA:=Lib.hid hass
  clear hass hwa hwb hz hz' x3 y3 c3 f3 b3 ba bb b2
  go_wp2_with (go_at_call 80;(with_reducible refine HA.out.mono ?_);rintro e w4 ⟨rfl,hw4⟩;subst hw4)
  refine leaves_cons (f:=79) (args:=#[.pointer (some ⟨g,0,none⟩)]) (by simp) (by simp [go_sem]) ?_
  refine (unlock_deferred muLib ⟨g,0,none⟩ .returning _ c5 f5).mono ?_
  rintro e u' w'' ⟨rfl,rfl,rfl⟩
  have hP5:=hPb.unlock
  have hsb:=hob.size
  have hsa:=hba.size
  refine ⟨_,results_tmp rfl _ _ _,rfl,hobb.setCell (.inl hgF) _,h4,hP5.wide (fun k hk=>?_) (grown_lo hP (by rw [set_size];omega))⟩
  rcases hk with hk | hk
  ·exact .inl hk
  ·exact .inr ⟨by omega,by rw [set_size];omega⟩
end
end Go.Proofs.YtiapkffihpgdcaaGreatDoor
namespace Go.Proofs.YtiapkffihpgdcaaGreatDoor
open Go.ChangeShapes Go.WideShapes Go.ChangeAt Go.RowKit Go.Deep Go.Joins
theorem tab_of_reads {W:World}{name:String}{k:IntKind}{zs:List Int}{g:Nat}{t e:TypeId}{n:Nat}(hg:Tryz.prog.globalNamed name=some g)(hty:(Tryz.prog.globals[g]?).map (·.type)=some t)
  (ht:Tryz.prog.underlying t=some (.array n e)) (he:Tryz.prog.underlying e=some (.int k)) (hce:Tryz.prog.cellsOf e=1) (hct:Tryz.prog.cellsOf t=n) (h:Lib.VarReads Tryz.prog W name (Lib.tabData k zs)):Lib.TabIs Tryz.prog W name k zs:=by
 obtain ⟨g',t',cs,fuel,p,hg',ht',hv,hd⟩:=h
 obtain rfl:=Option.some.inj (hg.symm.trans hg')
 obtain rfl:=Option.some.inj (hty.symm.trans ht')
 unfold Lib.TabIs
 rw [hv,← Lib.cells_of_tab ht he hce hct hd]
theorem et_at:Tryz.prog.globalNamed "errors.errorType" = some 0:=by kernel_rfl
theorem rt_at:(Tryz.prog.cutTypes.find? (·.1 == "internal/reflectlite.rtype")).map (·.2)=some 278:=by kernel_rfl
theorem one_row:((List.range Tryz.prog.types.size).filter fun t=>Tryz.prog.rowNamed t [101,114,114,111,114])=[149]:=by kernel_rfl
theorem plain_met {W:World}{L Lp:List (String × DataW Unit)}(hL:(L.filter fun x=>x.2.handleName?.isNone)=Lp)(hH:(L.filter fun x=>x.2.handleName?.isSome)=[("errors.errorType",Rows.laid_errors_errorType)])(h:laidMetH Tryz.prog L W) :
  laidMet Tryz.prog Lp W∧handlesMet Tryz.prog [("errors.errorType",Rows.laid_errors_errorType)] W:=by
 unfold laidMetH at h
 rw [hH] at h
 rw [hL] at h
 exact h
theorem err_of {W:World}(h:handlesMet Tryz.prog [("errors.errorType",Rows.laid_errors_errorType)] W):W.cell? ⟨0,0,none⟩=some (.iface 278 (.agg #[.pointer (some ⟨7,149,none⟩)])):=by
 obtain ⟨name,u,ty,e1,e2,e3,e4,e5⟩:=h _ (List.mem_singleton.2 rfl)
 have en:name=[101,114,114,111,114]:=(Option.some.inj e1).symm
 subst en
 obtain rfl:=Option.some.inj (rt_at.symm.trans e2)
 have hm:ty ∈ (List.range Tryz.prog.types.size).filter fun t=>Tryz.prog.rowNamed t [101,114,114,111,114]:=List.mem_filter.2 ⟨List.mem_range.2 e3,e4⟩
 rw [one_row] at hm
 obtain rfl:=List.mem_singleton.1 hm
 have hh:typeHandle Tryz.prog 149=.pointer (some ⟨7,149,none⟩):=by kernel_rfl
 rw [hh] at e5
 simpa using World.var?_cell et_at e5 0
theorem max_of_shaped9 {W:World}(h:W.ShapedOpen Tryz.prog):∃m:Int,W.cell? ⟨1,0,none⟩=some (.int .i64 m) :=
 cell_of_shapedOpen_int h (g:=1) (t:=3) (zero:=#[.int .i64 0]) (of_decide_eq_true (by kernel_rfl)) (by kernel_rfl) rfl (by kernel_rfl) (by kernel_rfl) Tryz.underlying3
theorem tab64_data:(Lib.tabData .u8 (Lib.deBruijn64tab.map Int.ofNat):DataW Unit)=Rows.laid_math_bits_deBruijn64tab:=by kernel_rfl
theorem size_of_reads {W:World}{d:DataW Unit}(h:Lib.VarReads Tryz.prog W "unicode/utf8.acceptRanges" d):7≤W.heap.size:=by
 obtain ⟨g',t',cs,fuel,p,hg',ht',hv,hd⟩:=h
 have hg:Tryz.prog.globalNamed "unicode/utf8.acceptRanges" = some 6:=by kernel_rfl
 unfold World.var? at hv
 rw [hg,Option.bind_some] at hv
 cases hw:W.heap[6]? with
 | none=>rw [hw] at hv;cases hv
 | some o=>obtain ⟨hlt,_⟩:=Array.getElem?_eq_some_iff.1 hw;omega
theorem env_of {W:World}{Lp:List (String × DataW Unit)}(h:laidMet Tryz.prog Lp W)(m1:("math/bits.deBruijn64tab",Rows.laid_math_bits_deBruijn64tab) ∈ Lp)(m2:("unicode/utf8.acceptRanges",Rows.laid_unicode_utf8_acceptRanges) ∈ Lp)
  (hh:handlesMet Tryz.prog [("errors.errorType",Rows.laid_errors_errorType)] W) (hs:W.ShapedOpen Tryz.prog):EnvA W:=by
 refine ⟨⟨max_of_shaped9 hs,?_,size_of_reads (Lib.laidMet.reads h m2)⟩,err_of hh⟩
 have hr:=Lib.laidMet.reads h m1
 rw [← tab64_data] at hr
 have ht:=tab_of_reads (g:=3) (t:=335) (e:=5) (n:=64) (by kernel_rfl) (by kernel_rfl) Tryz.underlying335 Tryz.underlying5 (by kernel_rfl) (by kernel_rfl) hr
 intro j hj
 have hc:=World.var?_cell (g:=3) (by kernel_rfl) ht j
 rw [hc]
 simp [List.getElem?_map,List.getD_eq_getElem?_getD,List.getElem?_eq_getElem hj]
/-- A world in which the type's handle lies. -/
noncomputable def wit0 (os:Os):World :=
 let w0:=World.holding Tryz.prog os ⟨#[],#[],[]⟩
 { w0 with heap:=w0.heap.modify 0 fun
   | .cells _ t frozen=>.cells #[.iface 278 (.agg #[.pointer (some ⟨7,149,none⟩)])] t frozen
   | o=>o }
noncomputable def witW (os:Os) (L:List (String × DataW Unit)):World:=(wit0 os).layVars Tryz.prog L
theorem witW_met {os:Os}{L:List (String × DataW Unit)}(args:Array Value)(hf:(wit0 os).layFits Tryz.prog L []=true)(hi:(wit0 os).layIfaces Tryz.prog L (witW os L)=true) :
  laidMet Tryz.prog L ((witW os L).forCall (fun _ _=>0) ⟨#[],args,[]⟩).memory:=by
 have e1:(L.filter fun x=>(L.map (·.1)).contains x.1)=L:=List.filter_eq_self.2 fun x hx=>List.contains_iff_mem.2 (List.mem_map.2 ⟨x,hx,rfl⟩)
 have e2:(L.filter fun x=>!(L.map (·.1)).contains x.1)=[]:=List.filter_eq_nil_iff.2 fun x hx=>by rw [List.contains_iff_mem.2 (List.mem_map.2 ⟨x,hx,rfl⟩)];simp
 have h:laidMet Tryz.prog L (witW os L):=laidMet_layVars (w0:=wit0 os) (L.map (·.1)) [] (by rw [e1];rfl) (by rw [e1];exact hf) (by rw [e1];exact hi) (by rw [e2];exact LaidIn.none)
 exact h.of_heap (by simp [World.memory,World.forCall,Input.heap])
end Go.Proofs.YtiapkffihpgdcaaGreatDoor
namespace Go.Proofs.YtiapkffihpgdcaaGreatDoor
/-- The row of menus when the menus below m were laid. -/
def muL (t:Tm)(c:Cy)(m:Nat):List Int:=(List.range t.len.toNat).map fun d=>if mnAt t c d<(m:Int) then mnAt t c d else -1
/-- A row whose places in ds,the first i of them,became v. -/
def stD (row ds:List Int)(v:Int):Nat→List Int
 | 0=>row
 | i+1=>(stD row ds v i).set (gi ds i).toNat v
theorem stD_length (row ds:List Int)(v:Int):∀i,(stD row ds v i).length=row.length
 | 0=>rfl
 | i+1=>by simp only [stD,List.length_set];exact stD_length row ds v i
theorem muL_length (t:Tm)(c:Cy)(m:Nat):(muL t c m).length=t.len.toNat:=by simp [muL]
theorem muL_zero {t:Tm}{c:Cy}(hc:CyOk c):muL t c 0=List.replicate t.len.toNat (-1):=by
 rw [List.eq_replicate_iff]
 refine ⟨muL_length t c 0,fun b hb=>?_⟩
 simp only [muL,List.mem_map,List.mem_range] at hb
 obtain ⟨d,_,rfl⟩:=hb
 have:=mnAt_bd (t:=t) hc d
 split
 ·omega
 ·rfl
theorem muL_all {t:Tm}{c:Cy}(hc:CyOk c)(n:Nat)(hn:(n:Int)=c.n):muL t c n=mnL t c:=by
 unfold muL mnL
 refine List.map_congr_left fun d _=>?_
 have:=mnAt_bd (t:=t) hc d
 rw [if_pos (by omega)]
theorem stD_at (row ds:List Int)(v:Int)(d:Nat)(hd:d<row.length):∀i,(stD row ds v i)[d]? = if (∃j,j<i∧(gi ds j).toNat=d) then some v else row[d]?
 | 0=>by rw [if_neg (by rintro ⟨j,hj,_⟩;omega)];rfl
 | i+1=>by
  simp only [stD]
  by_cases e:(gi ds i).toNat=d
  ·rw [if_pos ⟨i,by omega,e⟩,e,List.getElem?_set_self (by rw [stD_length];exact hd)]
  ·rw [List.getElem?_set_ne e,stD_at row ds v d hd i]
   by_cases h:∃j,j<i∧(gi ds j).toNat=d
   ·obtain ⟨j,hj,hh⟩:=h
    rw [if_pos ⟨j,hj,hh⟩,if_pos ⟨j,by omega,hh⟩]
   ·rw [if_neg h,if_neg (by
     rintro ⟨j,hj,hh⟩
     by_cases ej:j=i
     ·subst ej;exact e hh
     ·exact h ⟨j,by omega,hh⟩)]
theorem daysTo_mem (t:Tm)(c:Cy)(m:Int)(x:Int):∀k,x ∈ daysTo t c m k ↔ ∃d:Nat,d<k∧mnAt t c d=m∧x=(d:Int)
 | 0=>by simp [daysTo]
 | k+1=>by
  have ih:=daysTo_mem t c m x k
  by_cases h:(mnAt t c k == m)=true
  ·rw [daysTo_yes h,List.mem_append,ih,List.mem_singleton]
   rw [beq_iff_eq] at h
   constructor
   ·rintro (⟨d,h1,h2,h3⟩ | h3)
    ·exact ⟨d,by omega,h2,h3⟩
    ·exact ⟨k,by omega,h,h3⟩
   ·rintro ⟨d,h1,h2,h3⟩
    by_cases e:d=k
    ·subst e;exact .inr h3
    ·exact .inl ⟨d,by omega,h2,h3⟩
  ·have h':(mnAt t c k == m)=false:=by simpa using h
   rw [daysTo_no h',ih]
   constructor
   ·rintro ⟨d,h1,h2,h3⟩;exact ⟨d,by omega,h2,h3⟩
   ·rintro ⟨d,h1,h2,h3⟩
    by_cases e:d=k
    ·subst e;rw [beq_eq_false_iff_ne] at h';exact absurd h2 h'
    ·exact ⟨d,by omega,h2,h3⟩
/-- One menu is laid. -/
theorem stD_menu (t:Tm)(c:Cy)(m:Nat):stD (muL t c m) (daysTo t c m t.len.toNat) m (daysTo t c m t.len.toNat).length=muL t c (m+1):=by
 apply List.ext_getElem?
 intro d
 by_cases hd:d<t.len.toNat
 ·rw [stD_at _ _ _ d (by rw [muL_length];exact hd)]
  have e1:(∃j,j<(daysTo t c m t.len.toNat).length∧(gi (daysTo t c m t.len.toNat) j).toNat=d) ↔ mnAt t c d=(m:Int):=by
   constructor
   ·rintro ⟨j,hj,hh⟩
    have hm:gi (daysTo t c m t.len.toNat) j ∈ daysTo t c m t.len.toNat:=by
     unfold gi;rw [List.getD_eq_getElem?_getD,List.getElem?_eq_getElem hj];exact List.getElem_mem hj
    obtain ⟨d',_,h2,h3⟩:=(daysTo_mem t c m _ _).1 hm
    have:d'=d:=by omega
    rw [← this];exact h2
   ·intro h
    have hm:(d:Int) ∈ daysTo t c m t.len.toNat:=(daysTo_mem t c m _ _).2 ⟨d,hd,h,rfl⟩
    obtain ⟨j,hj,hh⟩:=List.getElem_of_mem hm
    refine ⟨j,hj,?_⟩
    unfold gi;rw [List.getD_eq_getElem?_getD,List.getElem?_eq_getElem hj];simp [hh]
  simp only [e1,muL,List.getElem?_map,List.getElem?_range hd,Option.map_some]
  by_cases h:mnAt t c d=(m:Int)
  ·rw [if_pos h,if_pos (by omega),h]
  ·rw [if_neg h]
   by_cases h2:mnAt t c d<(m:Int)
   ·rw [if_pos h2,if_pos (by omega)]
   ·rw [if_neg h2,if_neg (by omega)]
 ·rw [List.getElem?_eq_none (by rw [stD_length,muL_length];omega),List.getElem?_eq_none (by rw [muL_length];omega)]
end Go.Proofs.YtiapkffihpgdcaaGreatDoor
