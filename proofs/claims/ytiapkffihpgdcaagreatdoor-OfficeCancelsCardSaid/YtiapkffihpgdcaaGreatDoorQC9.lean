import Derived.Test.YtiapkffihpgdcaaGreatDoorQC8
import Derived.Maps.AppendAt
import Derived.RegionTactic
import Derived.OwnWalk
import Derived.Lib.SliceRun
import Derived.Deep.RegionHeld3
set_option linter.unusedVariables false
set_option linter.unusedSimpArgs false
set_option maxRecDepth 100000
set_option maxHeartbeats 4000000
namespace Go.Proofs.YtiapkffihpgdcaaGreatDoor
open Go.RowKit
theorem untilf_any (a c f u m t:Int)(w:World) :
  Calls Tryz.prog 258 #[.agg #[.int .i64 a,.int .i64 c,.int .i64 f,.int .i64 u,.int .i64 m],.int .i64 t] w fun e w'=>e=.returned (.int .i64 (leq1 a t))∧Below w.heap.size w w':=by
 by_cases h:a≤t
 ·go_enter Tryz.func258,Tryz.ntmps258
  go_wp2
  go_ret
  exact ⟨ret_int (leq1_yes h).symm,by go_grown⟩
 ·go_enter Tryz.func258,Tryz.ntmps258
  go_wp2
  go_ret
  exact ⟨ret_int (leq1_no (by omega)).symm,by go_grown⟩
theorem covers_any (a c f u m child day:Int)(w:World) :
  Calls Tryz.prog 176 #[.agg #[.int .i64 a,.int .i64 c,.int .i64 f,.int .i64 u,.int .i64 m],.int .i64 child,.int .i64 day] w fun e w'=>e=.returned (.bool (covN c f u child day))∧Below w.heap.size w w':=by
 go_enter Tryz.func176,Tryz.ntmps176
 go_wp2
 all_goals
  go_ret
  exact ⟨ret_bool (by unfold covN;first | (rw [decide_eq_decide];omega) | (symm;rw [decide_eq_false_iff_not];omega)),by go_grown⟩
theorem search_anyO (l:List Fact)(t:Int)(hV:Vld l)(A:Option Addr)(c B:Nat)(w:World)(hR:RF w B A l) :
  Calls Tryz.prog 257 #[.slice A l.length c,.int .i64 t,.func (.func 258) #[] #[]] w fun e w' =>
   ∃n:Nat,IsCut l t n∧e=.returned (.tuple #[.int .i64 n,.bool false])∧Below w.heap.size w w':=by
 have hlen:=hV.len
 go_enter Tryz.func257,Tryz.ntmps257
 go_wp2
 go_loopw [9,10] (fun x y wr=>∃i j:Nat,i≤j∧j≤l.length∧x=.int .i64 i∧y=.int .i64 j∧Below w.heap.size w wr∧SrchO l t i j) (fun x y _=>(intOf y).toNat-(intOf x).toNat)
 case atStart=>exact ⟨0,l.length,by omega,by omega,rfl,rfl,Below.refl _ _,by intro m hm;omega,by intro m h1 h2;omega⟩
 case round =>
  obtain ⟨i,j,hij,hj,rfl,rfl,hbl,hs⟩:=hrel
  by_cases hlt:i<j
  ·obtain ⟨ad,rfl,hab,c0,c1,c2,c3,c4⟩:=(hR.below hbl).at_ (k:=(i+j) / 2) (by omega)
   go_wp2_with fail
   refine (untilf_any _ _ _ _ _ _ _).mono ?_
   rintro e w1 ⟨rfl,hb1⟩
   have hb3:=hbl.trans (hb1.mono hbl.size)
   clear c0 c1 c2 c3 c4 hb1
   by_cases ht:(gf l ((i+j) / 2)).at_≤t
   ·rw [leq1_yes ht]
    go_wp2
    go_roundw
    case rel=>exact ⟨(i+j) / 2+1,j,by omega,by omega,by go_num,rfl,hb3,fun m hm=>Int.le_trans (hV.sorted m ((i+j) / 2) (by omega) (by omega)) ht,hs.2⟩
    case measure=>simp [intOf];omega
   ·have ht':t<(gf l ((i+j) / 2)).at_:=by omega
    rw [leq1_no ht']
    go_wp2
    go_roundw
    case rel=>exact ⟨i,(i+j) / 2,by omega,by omega,rfl,by go_num,hb3,hs.1,fun m h1 h2=>Int.lt_of_lt_of_le ht' (hV.sorted ((i+j) / 2) m (by omega) (by omega))⟩
    case measure=>simp [intOf];omega
  ·have hcut:IsCut l t i:=⟨by omega,hs.1,fun m h1 h2=>hs.2 m (by omega) h2⟩
   by_cases hi:i<l.length
   ·obtain ⟨ad,rfl,hab,c0,c1,c2,c3,c4⟩:=(hR.below hbl).at_ hi
    go_wp2_with fail
    refine (untilf_any _ _ _ _ _ _ _).mono ?_
    rintro e w1 ⟨rfl,hb1⟩
    have hb3:=hbl.trans (hb1.mono hbl.size)
    clear c0 c1 c2 c3 c4 hb1
    rw [leq1_no (hcut.2.2 i (by omega) hi)]
    go_wp2
    go_ret2
    exact ⟨i,hcut,rfl,hb3⟩
   ·go_wp2
    go_ret2
    exact ⟨i,hcut,rfl,hbl⟩
theorem until_any (l:List Fact)(t:Int)(hV:Vld l)(A:Option Addr)(c B:Nat)(hc:l.length≤c)(w:World)(hR:RF w B A l) :
  Calls Tryz.prog 188 #[.slice A l.length c,.int .i64 t] w fun e w' =>
   ∃n:Nat,IsCut l t n∧e=.returned (.slice A n n)∧Below w.heap.size w w':=by
 have hlen:=hV.len
 go_enter Tryz.func188,Tryz.ntmps188
 go_wp2_with fail
 refine (search_anyO l t hV A c B _ hR).mono ?_
 rintro e w1 ⟨n,hcut,rfl,hb1⟩
 have hn:=hcut.1
 go_wp2
 go_ret
 exact ⟨n,hcut,rfl,hb1⟩
/-- The fact with the number i,with this number;zeros and -1 if there is none. -/
def foundV (l:List Fact)(i:Int):Value:=.agg #[.int .i64 (fAt l i),.int .i64 (fCh l i),.int .i64 (fFr l i),.int .i64 (fUn l i),.int .i64 (fMe l i),.int .i64 i]
theorem foundV_none (l:List Fact):foundV l (-1)=.agg #[.int .i64 0,.int .i64 0,.int .i64 0,.int .i64 0,.int .i64 0,.int .i64 (-1)]:=by simp [foundV,fAt,fCh,fFr,fUn,fMe]
theorem foundV_some (l:List Fact)(k:Nat):foundV l k=.agg #[.int .i64 (gf l k).at_,.int .i64 (gf l k).ch,.int .i64 (gf l k).fr,.int .i64 (gf l k).un,.int .i64 (gf l k).me,.int .i64 k]:=by
 have h:¬ (k:Int)<0:=by omega
 simp [foundV,fAt,fCh,fFr,fUn,fMe,h]
theorem reason_any (l:List Fact)(t child day:Int)(hV:Vld l)(A:Option Addr)(c B:Nat)(hc:l.length≤c)(w:World)(hR:RF w B A l) :
  Calls Tryz.prog 113 #[.slice A l.length c,.int .i64 t,.int .i64 child,.int .i64 day] w fun e w'=>e=.returned (foundV l (rsn l t child day))∧Below w.heap.size w w':=by
 have hlen:=hV.len
 go_enter Tryz.func113,Tryz.ntmps113
 go_wp2_with fail
 refine (until_any l t hV A c B hc _ (hR.below ((Below.refl _ _).alloc (Nat.le_refl _) _))).mono ?_
 rintro e w1 ⟨n,hcut,rfl,hb1⟩
 have hn:=hcut.1
 go_wp2
 go_loopw [10] (fun x wr=>∃i:Int,-1≤i∧i<n∧x=.int .i64 i∧Below (w.heap.size+1) (w.alloc (.cells #[.int .i64 0,.int .i64 0,.int .i64 0,.int .i64 0,.int .i64 0,.int .i64 0] 177)) wr∧Hid (rsn l t child day=rsnTo l t child day (i+1).toNat)) (fun x _=>(intOf x+1).toNat)
 case atStart=>exact ⟨(n:Int)-1,by omega,by omega,rfl,by simpa using hb1,by rw [rsn_cut hcut];congr 1;omega⟩
 case round =>
  obtain ⟨i,hi0,hin,rfl,hbl,HH⟩:=hrel
  obtain ⟨bc,bf,bz,hbl0⟩:=blk_facts hbl (by omega)
  by_cases hi:i<0
  ·have hfin:rsn l t child day = -1:=by rw [HH.out,show (i+1).toNat=0 by omega];rfl
   have HF:=Lib.hid hfin;clear hfin HH
   go_wp2
   refine bodyPost_ret (v:=.agg #[.int .i64 0,.int .i64 0,.int .i64 0,.int .i64 0,.int .i64 0,.int .i64 (-1)]) (by simp [results,Tryz.results113,go_sem,bc,bf]) rfl ⟨ret_val ?_,?_⟩
   ·rw [HF.out,foundV_none]
   ·go_grown
  ·obtain ⟨k,rfl⟩:=Int.eq_ofNat_of_zero_le (show 0≤i by omega)
   have hk:k<n:=by omega
   obtain ⟨ad,rfl,hab,c0,c1,c2,c3,c4⟩:=(hR.below hbl0).at_ (k:=k) (by omega)
   go_wp2_with fail
   refine (covers_any _ _ _ _ _ _ _ _).mono ?_
   rintro e w2 ⟨rfl,hb2⟩
   have hbl2:=hbl.trans (hb2.mono (by have:=hbl.size;simp at this;omega))
   obtain ⟨bc2,bf2,bz2,hbl20⟩:=blk_facts hbl2 (by omega)
   clear c0 c1 c2 c3 c4 bc bf hb2
   by_cases hcv:covB (gf l k) child day=true
   ·have hcv':covN (gf l k).ch (gf l k).fr (gf l k).un child day=true:=hcv
    have hfin:rsn l t child day=k:=by
     rw [HH.out,show ((k:Int)+1).toNat=k+1 by omega,rsnTo_hit]
     simp [hit,hcv,hcut.2.1 k hk]
    have HF:=Lib.hid hfin;clear hfin HH
    obtain ⟨ad',e',-,d0,d1,d2,d3,d4⟩:=(hR.below hbl20).at_ (k:=k) (by omega)
    cases e'
    go_wp2
    refine bodyPost_ret (v:=.agg #[.int .i64 (gf l k).at_,.int .i64 (gf l k).ch,.int .i64 (gf l k).fr,.int .i64 (gf l k).un,.int .i64 (gf l k).me,.int .i64 k]) (by simp [results,Tryz.results113,go_sem,bc2,bf2]) rfl ⟨ret_val ?_,?_⟩
    ·rw [HF.out,foundV_some]
    ·go_grown
   ·have hcv':covN (gf l k).ch (gf l k).fr (gf l k).un child day=false:=by simpa [covB] using hcv
    have hnext:rsn l t child day=rsnTo l t child day ((k:Int)-1+1).toNat:=by
     rw [HH.out,show ((k:Int)+1).toNat=k+1 by omega,show ((k:Int)-1+1).toNat=k by omega,rsnTo_miss]
     simp [hit,covB,hcv']
    have HF:=Lib.hid hnext;clear hnext HH
    go_wp2
    go_roundw
    case rel=>exact ⟨(k:Int)-1,by omega,by omega,rfl,hbl2,HF⟩
    case measure=>simp [intOf]
theorem rreason_any (l : List Fact) (t child day : Int) (hlen : l.length ≤ 1000000000) (A : Option Addr) (c B : Nat) (w : World) (hR : RF w B A l) :
    Calls Tryz.prog 297 #[.slice A l.length c, .int .i64 t, .int .i64 child, .int .i64 day] w fun e w' => e = .returned (.int .i64 (rsn l t child day)) ∧ w' = w := by
  go_enter Tryz.func297, Tryz.ntmps297
  go_wp2
  go_loop [9, 10] (fun o x => ∃ k : Nat, k ≤ l.length ∧ x = .int .i64 k ∧ o = .int .i64 (rsnTo l t child day k)) (fun _ x => l.length - (intOf x).toNat)
  case atStart => exact ⟨0, by omega, rfl, rfl⟩
  case round =>
    obtain ⟨k, hk, rfl, rfl⟩ := hrel
    by_cases hlt : k < l.length
    · obtain ⟨ad, rfl, hab, c0, c1, c2, c3, c4⟩ := hR.at_ (k := k) (by omega)
      by_cases hh : (gf l k).at_ ≤ t ∧ (gf l k).ch = child ∧ (gf l k).fr ≤ day ∧ day < (gf l k).un
      · have hs := rsnTo_hit l t child day k (by simp [hit, covB, covN]; omega)
        have HS := Lib.hid hs; clear hs
        obtain ⟨h1, h2, h3, h4⟩ := hh
        have h2' : ((gf l k).ch == child) = true := by simp [h2]
        clear h2
        go_wp2
        go_round
        case rel => exact ⟨k + 1, by omega, by go_num, by rw [HS.out]⟩
        case measure => simp [intOf]; omega
      · have hs := rsnTo_miss l t child day k (by simp [hit, covB, covN]; omega)
        have HS := Lib.hid hs; clear hs
        have HN := Lib.hid hh; clear hh
        go_wp2
        all_goals first
          | exact absurd ⟨‹_›, ‹_›, ‹_›, ‹_›⟩ HN.out
          | (go_round
             case rel => exact ⟨k + 1, by omega, by go_num, by rw [HS.out]⟩
             case measure => simp [intOf]; omega)
    · go_wp2
      go_ret
      exact ⟨ret_int (by unfold rsn; congr 1; omega), rfl⟩
theorem rknown_any (l:List Fact)(t child day:Int)(hlen:l.length≤1000000000)(A:Option Addr)(c B:Nat)(w:World)(hR:RF w B A l) :
  Calls Tryz.prog 253 #[.slice A l.length c,.int .i64 t,.int .i64 child,.int .i64 day] w fun e w'=>e=.returned (.int .i64 (knw l t child day))∧w'=w:=by
 have hbd : -1≤rsn l t child day∧rsn l t child day<l.length:=rsnTo_bd l t child day l.length
 obtain ⟨i,hi⟩:∃i,i=rsn l t child day:=⟨_,rfl⟩
 rw [show knw l t child day=fMe l i by rw [hi];rfl]
 rw [← hi] at hbd
 have HI:=Lib.hid hi;clear hi
 go_enter Tryz.func253,Tryz.ntmps253
 go_wp2_with fail
 refine (rreason_any l t child day hlen A c B _ hR).mono ?_
 rintro e w' ⟨rfl,rfl⟩
 rw [← HI.out]
 by_cases h0:i<0
 ·go_wp2
  go_ret
  exact ⟨ret_int (by unfold fMe;rw [if_pos h0]),rfl⟩
 ·obtain ⟨k,rfl⟩:=Int.eq_ofNat_of_zero_le (show 0≤i by omega)
  obtain ⟨ad,rfl,hab,c0,c1,c2,c3,c4⟩:=hR.at_ (k:=k) (by omega)
  go_wp2
  go_ret
  exact ⟨ret_int (by unfold fMe;rw [if_neg (by omega)];rfl),rfl⟩
def Sp.vals (s:Sp):List Value:=[.int .i64 s.fr,.int .i64 s.un,.int .i64 s.me]
def cellsS (l:List Sp):List Value:=l.flatMap Sp.vals
theorem cellsS_cons (s:Sp)(l:List Sp):cellsS (s :: l)=s.vals ++ cellsS l:=by simp [cellsS]
theorem cellsS_append (l r:List Sp):cellsS (l ++ r)=cellsS l ++ cellsS r:=by simp [cellsS]
theorem cellsS_at (l:List Sp)(k j:Nat)(hk:k<l.length)(hj:j<3):(cellsS l)[k*3+j]? = (gs l k).vals[j]?:=by
 induction l generalizing k with
 | nil=>simp at hk
 | cons f l ih =>
  rw [cellsS_cons]
  cases k with
  | zero=>rw [List.getElem?_append_left (by simp [Sp.vals];omega)];simp [gs]
  | succ k =>
   rw [List.getElem?_append_right (by simp [Sp.vals];omega)]
   have:(k+1)*3+j-f.vals.length=k*3+j:=by simp [Sp.vals];omega
   rw [this,ih k (by simpa using hk)]
   simp [gs]
/-- The slice (A,n=l.length) reads as the spans l. -/
def RSO (w:World)(A:Option Addr)(l:List Sp):Prop:=Reads w w.heap.size 3 A l.length (cellsS l)
section
variable {w w':World}{base c:Nat}{A:Option Addr}{l:List Sp}
theorem RSO.below (h:RSO w A l)(hb:Below w.heap.size w w'):RSO w' A l:=(Reads.below' h hb (Nat.le_refl _)).more hb.size
theorem RSO.at_ (h:RSO w A l){k:Nat}(hk:k<l.length):∃ad,A=some ad∧(ad.add (k*3)).block<w.heap.size∧w.cell? (ad.add (k*3))=some (.int .i64 (gs l k).fr) ∧
  w.cell? ⟨(ad.add (k*3)).block,(ad.add (k*3)).off+1,none⟩=some (.int .i64 (gs l k).un)∧w.cell? ⟨(ad.add (k*3)).block,(ad.add (k*3)).off+2,none⟩=some (.int .i64 (gs l k).me):=by
 obtain ⟨ad,e,hb,hc⟩:=h.2 (by omega)
 have hs:=fun j=>addr_succ ad (k*3) j
 exact ⟨ad,e,by rw [block_of_add];exact hb,hc (k*3+0) _ (cellsS_at l k 0 hk (by omega)),(hs 0) ▸ hc _ _ (cellsS_at l k 1 hk (by omega)),(hs 1) ▸ hc _ _ (cellsS_at l k 2 hk (by omega))⟩
end
theorem field_found (a b c d e f:Int)(w:World):(Instr.field 177 (.agg #[.int .i64 a,.int .i64 b,.int .i64 c,.int .i64 d,.int .i64 e,.int .i64 f]) 0).run Tryz.prog w=.ok (.agg #[.int .i64 a,.int .i64 b,.int .i64 c,.int .i64 d,.int .i64 e]) w:=by kernel_rfl
theorem field_meal (a b c d e:Int)(w:World):(Instr.field 53 (.agg #[.int .i64 a,.int .i64 b,.int .i64 c,.int .i64 d,.int .i64 e]) 4).run Tryz.prog w=.ok (.int .i64 e) w:=by kernel_rfl
theorem knownX_any (l:List Fact)(t child day:Int)(hl:l.length≤1000000000)(A:Option Addr)(c B:Nat)(hc:l.length≤c)(w:World)(hR:RF w B A l) :
  Calls Tryz.prog 58 #[.slice A l.length c,.int .i64 t,.int .i64 child,.int .i64 day] w fun e w'=>e=.returned (.tuple #[.int .i64 (knownR l t child day),.int .i64 (askE l child day)])∧Below w.heap.size w w':=by
 obtain ⟨E,hE⟩:∃E,E=askE l child day:=⟨_,rfl⟩
 have hE1:askd l (inB child 0 99 && inB day 0 999)=E:=by rw [hE];rfl
 rw [← hE]
 obtain ⟨KR,hKR⟩:∃KR,KR=knownR l t child day:=⟨_,rfl⟩
 rw [← hKR]
 have HK:=Lib.hid hKR;clear hKR
 have HE:=Lib.hid hE;clear hE
 have HE1:=Lib.hid hE1;clear hE1
 go_enter Tryz.func58,Tryz.ntmps58
 go_wp2_with fail
 refine (isChild_any _ _).mono ?_
 rintro e w' ⟨rfl,rfl⟩
 obtain ⟨b1,hb1⟩:∃b,b=inB child 0 99:=⟨_,rfl⟩
 rw [← hb1]
 rw [← hb1] at HE1
 clear hb1
 have hrest:∀w1,Below w'.heap.size w' w1→RF w1 B A l:=fun w1 hb=>hR.below hb
 cases b1 with
 | true =>
  go_wp2_with (go_at_call 111;refine (isDay_any _ _).mono ?_;rintro e w1 ⟨rfl,rfl⟩)
  refine (asked_anyO l _ A c B _ hR hl).mono ?_
  rintro e w1 ⟨rfl,hb1⟩
  rw [show inB day 0 999=(true && inB day 0 999) by simp,HE1.out]
  by_cases h0:E=0
  ·obtain ⟨hV,-⟩:=askE_ok (HE.out.symm.trans h0)
   have hk:KR=fMe l (rsn l t child day):=by rw [HK.out,knownR,if_pos (HE.out.symm.trans h0)];rfl
   have HKK:=Lib.hid hk
   have hE0:(E != 0)=false:=by simp [h0]
   have H0:=Lib.hid h0
   clear h0 hk
   go_wp2_with fail
   refine (reason_any l t child day hV A c B hc _ (hR.below hb1)).mono ?_
   rintro e w2 ⟨rfl,hb2⟩
   unfold foundV
   have hfld:=field_found
   have hfld2:=field_meal
   go_wp2
   go_ret2
   exact ⟨ret2 (by rw [HKK.out];rfl) (by rw [H0.out];rfl),hb1.trans (hb2.mono hb1.size)⟩
  ·have hE0:(E != 0)=true:=by simp [h0]
   have hk:KR=0:=by rw [HK.out,knownR,if_neg (fun h=>h0 (HE.out.trans h))]
   have HKK:=Lib.hid hk
   clear h0 hk
   go_wp2
   go_ret2
   exact ⟨ret2 (by rw [HKK.out];rfl) rfl,hb1⟩
 | false =>
  go_wp2_with fail
  refine (asked_anyO l _ A c B _ hR hl).mono ?_
  rintro e w1 ⟨rfl,hb1⟩
  rw [show askd l false=E by rw [← HE1.out];rfl]
  have h0:¬ E=0:=by rw [← HE1.out];intro h;have:=(askd_ok h).2;simp at this
  have hE0:(E != 0)=true:=by simp [h0]
  have hk:KR=0:=by rw [HK.out,knownR,if_neg (fun h=>h0 (HE.out.trans h))]
  have HKK:=Lib.hid hk
  clear h0 hk
  go_wp2
  go_ret2
  exact ⟨ret2 (by rw [HKK.out];rfl) rfl,hb1⟩
theorem rknownX_any (l:List Fact)(t child day:Int)(hl:l.length≤1000000000)(A:Option Addr)(c B:Nat)(w:World)(hR:RF w B A l) :
  Calls Tryz.prog 267 #[.slice A l.length c,.int .i64 t,.int .i64 child,.int .i64 day] w fun e w'=>e=.returned (.tuple #[.int .i64 (knownR l t child day),.int .i64 (askE l child day)])∧Below w.heap.size w w':=by
 obtain ⟨E,hE⟩:∃E,E=askE l child day:=⟨_,rfl⟩
 obtain ⟨KR,hKR⟩:∃KR,KR=knownR l t child day:=⟨_,rfl⟩
 rw [← hKR,← hE]
 have HK:=Lib.hid hKR;clear hKR
 have HE:=Lib.hid hE;clear hE
 go_enter Tryz.func267,Tryz.ntmps267
 go_wp2_with fail
 refine (rasked_any l _ _ A c B _ hR hl).mono ?_
 rintro e w1 ⟨rfl,hb1⟩
 rw [show askd l (inB child 0 99 && inB day 0 999)=E by rw [HE.out];rfl]
 by_cases h0:E=0
 ·have hk:KR=knw l t child day:=by rw [HK.out,knownR,if_pos (HE.out.symm.trans h0)]
  have HKK:=Lib.hid hk
  have hE0:(E != 0)=false:=by simp [h0]
  have H0:=Lib.hid h0
  clear h0 hk
  go_wp2_with fail
  refine (rknown_any l t child day hl A c B _ (hR.below hb1)).mono ?_
  rintro e w2 ⟨rfl,rfl⟩
  go_wp2
  go_ret2
  exact ⟨ret2 (by rw [HKK.out];rfl) (by rw [H0.out];rfl),hb1⟩
 ·have hE0:(E != 0)=true:=by simp [h0]
  have hk:KR=0:=by rw [HK.out,knownR,if_neg (fun h=>h0 (HE.out.trans h))]
  have HKK:=Lib.hid hk
  clear h0 hk
  go_wp2
  go_ret2
  exact ⟨ret2 (by rw [HKK.out];rfl) rfl,hb1⟩
theorem info_fact:(Tryz.prog.info? 53).map (fun i=>(i.zero,i.size,i.bytes))=some (some (.agg #[.int .i64 0,.int .i64 0,.int .i64 0,.int .i64 0,.int .i64 0]),5,40):=by kernel_rfl
/-- The slice (A,c) of the call's own holds the facts l. -/
def OwnF (w:World)(base:Nat)(A:Option Addr)(c:Nat)(l:List Fact):Prop:=w.ownsRow base 53 5 (.slice A l.length c) l.length (cellsF l)
theorem OwnF.kept {w w':World}{base c:Nat}{A:Option Addr}{l:List Fact}(h:OwnF w base A c l)(hb:Below w.heap.size w w'):OwnF w' base A c l:=own_below h hb fun k hk=>(World.ownsRow.lt h k hk).2
theorem OwnF.reads {w:World}{base c:Nat}{A:Option Addr}{l:List Fact}(h:OwnF w base A c l):RF w w.heap.size A l:=⟨Nat.le_refl _,Reads.of_own h⟩
theorem OwnF.cap {w:World}{base c:Nat}{A:Option Addr}{l:List Fact}(h:OwnF w base A c l):l.length≤c:=by
 rcases h.2 with ⟨h1,h2⟩ | ⟨g,cap,cur,h1,_,_,h4,_⟩
 ·omega
 ·injection h1 with _ _ h1;omega
theorem OwnF.snoc {w:World}{base c n:Nat}{A:Option Addr}{l l':List Fact}{f:Fact}(h:w.ownsRow base 53 5 (.slice A (n+1) c) (n+1) (cellsF l ++ f.vals))(hn:n=l.length)(hl:l'=l ++ [f]):OwnF w base A c l':=by
 subst hn
 have e1:(l ++ [f]).length=l.length+1:=by simp
 have e2:cellsF (l ++ [f])=cellsF l ++ f.vals:=by simp [cellsF]
 rw [hl]
 unfold OwnF
 rw [e1,e2]
 exact h
theorem cellsF_one (l:List Fact):∀u ∈ cellsF l,u.oneCell'=true:=by
 intro u hu
 obtain ⟨f,_,hf⟩:=List.mem_flatMap.1 hu
 simp only [Fact.vals,List.mem_cons,List.not_mem_nil,or_false] at hf
 rcases hf with rfl | rfl | rfl | rfl | rfl <;> rfl
theorem clone_anyO (l:List Fact)(hl:l.length≤1000000000)(A:Option Addr)(c B:Nat)(w:World)(hR:RF w B A l) :
  Calls Tryz.prog 77 #[.slice A l.length c] w fun e w'=>∃A' c',e=.returned (.slice A' l.length c')∧OwnF w' w.heap.size A' c' l∧Below w.heap.size w w':=by
 have hnil:=fun W a n c=>Lib.run_eql_slice_nil (P:=Tryz.prog) W 43 53 a n c 0 0 Tryz.underlying43
 cases A with
 | none =>
  have hl0:l=[]:=by
   apply List.eq_nil_of_length_eq_zero
   rcases Nat.eq_zero_or_pos l.length with h | h
   ·exact h
   ·obtain ⟨ad,h1,_⟩:=hR.2.2 h;cases h1
  subst hl0
  go_enter Tryz.func77,Tryz.ntmps77
  go_wp2
  go_ret
  exact ⟨none,0,rfl,World.ownsRow_nil _ _ _ _,Below.refl _ _⟩
 | some a =>
  obtain ⟨i0,hi0,hz0,hz1,hz2⟩:=info_parts info_fact
  go_enter Tryz.func77,Tryz.ntmps77
  have h0:(w.alloc (.cells #[] 53)).ownsRow w.heap.size 53 5 (.slice (some ⟨w.heap.size,0,none⟩) 0 0) 0 []:=World.ownsRow_lit w #[] 0 (Nat.le_refl _) (by unfold maxLen;omega) rfl
  have hb0:Below w.heap.size w (w.alloc (.cells #[] 53)):=(Below.refl _ _).alloc (Nat.le_refl _) _
  go_wp2_with (at_builtin;refine wpList_append_any _ rfl _ _ 43 rfl w.heap.size 53 i0 _ 5 40 Tryz.underlying43 hi0 hz0 hz1 hz2 rfl (by omega) _ 0 [] rfl h0 B (some a) l.length c (cellsF l) rfl (hR.below hb0).2 (cellsF_one l) (by unfold maxLen;omega) (by omega) hb0.size ?_;intro v' w2 own2 hg2 hat2)
  obtain ⟨A',c',rfl⟩:=own_shape own2
  go_wp2
  go_ret
  rw [Nat.zero_add,List.nil_append] at own2
  exact ⟨A',c',by rw [Nat.zero_add];rfl,own2,hb0.grown hg2 hb0.size (fun k hk=>by have e:(some w.heap.size:Option Nat)=some k:=hk;cases e;exact Nat.le_refl _)⟩
def RetF (w0:World)(L:List Fact)(er:Int)(e:Ending)(w':World):Prop :=
 ∃A c,e=.returned (.tuple #[.slice A L.length c,.int .i64 er])∧OwnF w' w0.heap.size A c L∧Below w0.heap.size w0 w'
theorem own_ne {w:World}{b1 e1 s1 n1 b2 e2 s2 n2:Nat}{v1 v2:Value}{xs1 xs2:List Value}(h1:w.ownsRow b1 e1 s1 v1 n1 xs1)(h2:w.ownsRow b2 e2 s2 v2 n2 xs2)(hne:e1≠e2):v1.ownBlock=none∨v1.ownBlock≠v2.ownBlock:=by
 rcases h1.2 with ⟨rfl,_⟩ | ⟨g,cap,cur,rfl,_,hh,_⟩
 ·exact .inl rfl
 ·right
  rcases h2.2 with ⟨rfl,_⟩ | ⟨g',cap',cur',rfl,_,hh',_⟩
  ·simp [Value.ownBlock]
  ·intro he
   have:g=g':=by simpa [Value.ownBlock] using he
   subst this
   rw [hh] at hh'
   injection hh' with hh'
   injection hh' with _ ht
   exact hne ht
/-- As wpList_app1;and what is owned besides,of another element type,stays. -/
theorem wpList_app2 {P : Program} {w : World} {ops : Array Oper} {rest : List Oper} {o : Oper} {a : Act} {Q : Exit → Act → World → Prop} (hgd : o.guard = none) (s x : Operand) {t e : TypeId}
    (ho : o.op = .call { callee := .builtin .append, args := #[s, x], argTypes := #[t, t] }) {z : Value} {size bytes : Nat} (ht : P.underlying t = some (.slice e))
    (hinfo : (P.info? e).map (fun i => (i.zero, i.size, i.bytes)) = some (some z, size, bytes)) (hzs : z.cells.size = size) (hsz : 0 < size)
    {base : Nat} {A : Option Addr} {n c : Nat} {xs : List Value} (hs : a.eval s = .slice A n c) (hown : w.ownsRow base e size (.slice A n c) n xs)
    {news : List Value} {gb : Nat} (hgb : gb = w.heap.size) (hx : a.eval x = .slice (some ⟨gb, 0, none⟩) 1 1) (hl : news.length = size) (h1 : ∀ u ∈ news, u.oneCell' = true)
    (hn : n + 1 ≤ 1000000000) (hbytes : bytes ≤ 1000) (hbase : base ≤ w.heap.size)
    (h : ∀ A' c' w', w'.ownsRow base e size (.slice A' (n + 1) c') (n + 1) (xs ++ news) → (∀ B, B ≤ base → Below B w w') →
      (∀ (b2 e2 s2 n2 : Nat) (v2 : Value) (xs2 : List Value), w.ownsRow b2 e2 s2 v2 n2 xs2 → e2 ≠ e → w'.ownsRow b2 e2 s2 v2 n2 xs2) → wpList P ops Q rest (a.put o.dst (.slice A' (n + 1) c')) w') :
    wpList P ops Q (o :: rest) a (w.alloc (.cells news.toArray e)) := by
  subst hgb
  obtain ⟨i, hi, hz0, hz1, hz2⟩ := info_parts hinfo
  have hlt : ∀ j u, news[j]? = some u → (w.alloc (.cells news.toArray e)).cell? ((⟨w.heap.size, 0, none⟩ : Addr).add j) = some u := by
    intro j u hu
    have hadd : (⟨w.heap.size, 0, none⟩ : Addr).add j = ⟨w.heap.size, j, none⟩ := by unfold Addr.add; split <;> simp_all
    rw [hadd, World.cell?_alloc_at _ _ _ _ rfl]
    simpa using hu
  have hb : (n + 1) * bytes ≤ 140737488355328 := by
    have : (n + 1) * bytes ≤ 1000000000 * 1000 := Nat.mul_le_mul hn hbytes
    omega
  refine wpList_append_own _ hgd s x t ho base e i z size bytes ht hi hz0 hz1 hz2 hzs hsz _ n xs hs (hown.alloc _) _ 1 1 news hx (by omega) hlt h1 (by unfold maxLen; omega) hb (by simp; omega) ?_
  intro v' w' hown' hg _
  obtain ⟨A', c', hv⟩ := own_shape hown'
  rw [hv] at hown' ⊢
  refine h A' c' w' hown' (fun B hB => ?_) (fun b2 e2 s2 n2 v2 xs2 h2 hne => ?_)
  · exact ((Below.refl B w).alloc (by omega) _).grown hg (by simp; omega) (fun k hk => by have := hown.lt k hk; omega)
  · exact (h2.alloc (.cells news.toArray e)).kept hg (own_ne (h2.alloc (.cells news.toArray e)) (hown.alloc (.cells news.toArray e)) hne)
/-- As wpList_app2,in a region that draws its order: the world is whatever it is. -/
theorem step_app2 {P : Program} {W : World} {ops : Array Oper} {o : Oper} {a : Act} {K : Act → World → Prop} {Q : Exit → Act → World → Prop} {E : Prop} (hgd : o.guard = none) (s x : Operand) {t e : TypeId}
    (ho : o.op = .call { callee := .builtin .append, args := #[s, x], argTypes := #[t, t] }) {z : Value} {size bytes : Nat} (ht : P.underlying t = some (.slice e))
    (hinfo : (P.info? e).map (fun i => (i.zero, i.size, i.bytes)) = some (some z, size, bytes)) (hzs : z.cells.size = size) (hsz : 0 < size)
    {base : Nat} {A : Option Addr} {n c : Nat} {xs : List Value} (hs : a.eval s = .slice A n c) (hown : W.ownsRow base e size (.slice A n c) n xs)
    {news : List Value} (ad : Addr) (hx : a.eval x = .slice (some ad) 1 1) (hl : news.length = size) (hnews : ∀ j u, news[j]? = some u → W.cell? (ad.add j) = some u) (h1 : ∀ u ∈ news, u.oneCell' = true)
    (hn : n + 1 ≤ 1000000000) (hbytes : bytes ≤ 1000) (hbase : base ≤ W.heap.size)
    (h : ∀ A' c' w', w'.ownsRow base e size (.slice A' (n + 1) c') (n + 1) (xs ++ news) → (∀ B, B ≤ base → Below B W w') →
      (∀ (b2 e2 s2 n2 : Nat) (v2 : Value) (xs2 : List Value), W.ownsRow b2 e2 s2 v2 n2 xs2 → e2 ≠ e → w'.ownsRow b2 e2 s2 v2 n2 xs2) → K (a.put o.dst (.slice A' (n + 1) c')) w') :
    if Region.wanted o (yielded ops a.tmps) = true then Oper.wp P o a W K Q else E := by
  have hw : Region.wanted o (yielded ops a.tmps) = true := by simp [Region.wanted, hgd]
  rw [if_pos hw]
  obtain ⟨i, hi, hz0, hz1, hz2⟩ := info_parts hinfo
  have hb : (n + 1) * bytes ≤ 140737488355328 := by
    have : (n + 1) * bytes ≤ 1000000000 * 1000 := Nat.mul_le_mul hn hbytes
    omega
  refine wp_append_own W s x t ho base e i z size bytes ht hi hz0 hz1 hz2 hzs hsz _ n xs hs hown ad 1 1 news hx (by omega) hnews h1 (by unfold maxLen; omega) hb hbase ?_
  intro v' w' hown' hg _
  obtain ⟨A', c', hv⟩ := own_shape hown'
  rw [hv] at hown' ⊢
  refine h A' c' w' hown' (fun B hB => ?_) (fun b2 e2 s2 n2 v2 xs2 h2 hne => ?_)
  · exact (Below.refl B W).grown hg (by omega) (fun k hk => by have := hown.lt k hk; omega)
  · exact h2.kept hg (own_ne h2 hown hne)
theorem OwnF.more {w:World}{base c:Nat}{A:Option Addr}{l:List Fact}{f:Fact}(h:w.ownsRow base 53 5 (.slice A (l.length+1) c) (l.length+1) (cellsF l ++ f.vals)):OwnF w base A c (l ++ [f]):=OwnF.snoc h rfl rfl
theorem RF.drew {w:World}{B:Nat}{A:Option Addr}{l:List Fact}(h:RF w B A l):RF w.drew B A l:=h
theorem RF.alloc {w:World}{B:Nat}{A:Option Addr}{l:List Fact}(h:RF w B A l)(o:Obj):RF (w.alloc o) B A l:=h.below ((Below.refl _ _).alloc (Nat.le_refl _) _)
theorem heap_at {W:World}{o:Obj}{g:Nat}(e:g=W.heap.size):(W.alloc o).heap[g]? = some o:=by subst e;exact heap_alloc_new _ _
theorem heap_before {W:World}{o o':Obj}{g:Nat}(h:W.heap[g]? = some o'):(W.alloc o).heap[g]? = some o':=by
 rw [heap_alloc_old _ _ (Array.getElem?_eq_some_iff.1 h).1];exact h
theorem step_app_lit {W : World} {ops : Array Oper} {o : Oper} {a : Act} {K : Act → World → Prop} {Q : Exit → Act → World → Prop} {E : Prop} (hgd : o.guard = none) (s x : Operand)
    (ho : o.op = .call { callee := .builtin .append, args := #[s, x], argTypes := #[43, 43] }) (base : Nat) {g : Nat} (hs : a.eval s = .slice (some ⟨g, 0, none⟩) 0 0) (hg : W.heap[g]? = some (.cells #[] 53 (0, 0)))
    {B : Nat} {A : Option Addr} {c : Nat} {l : List Fact} (hx : a.eval x = .slice A l.length c) (hR : RF W B A l) (hl : l.length ≤ 100000000) (hbase : base ≤ g)
    (h : ∀ A' c' w', OwnF w' base A' c' l → Below base W w' → (∀ k j, k ≠ g → k < W.heap.size → w'.cell? ⟨k, j, none⟩ = W.cell? ⟨k, j, none⟩) → K (a.put o.dst (.slice A' l.length c')) w') :
    if Region.wanted o (yielded ops a.tmps) = true then Oper.wp Tryz.prog o a W K Q else E := by
  obtain ⟨i0, hi0, hz0, hz1, hz2⟩ := info_parts info_fact
  have hgs : g < W.heap.size := (Array.getElem?_eq_some_iff.1 hg).1
  have hown : W.ownsRow base 53 5 (.slice (some ⟨g, 0, none⟩) 0 0) 0 [] := ⟨rfl, .inr ⟨g, 0, #[], rfl, hbase, hg, Nat.le_refl _, by unfold maxLen; omega, rfl, rfl⟩⟩
  refine step_append_any W hgd s x _ ho base _ i0 _ 5 40 Tryz.underlying43 hi0 hz0 hz1 hz2 rfl (by omega) _ 0 [] hs hown B A l.length c (cellsF l) hx hR.2 (cellsF_one l) (by unfold maxLen; omega) (by omega) (by omega) ?_
  intro v' w' own' hgr hat
  obtain ⟨A', c', rfl⟩ := own_shape own'
  rw [Nat.zero_add, List.nil_append] at own'
  rw [Nat.zero_add]
  refine h A' c' w' own' ((Below.refl _ _).grown hgr (by omega) (fun k hk => by simp [Value.ownBlock] at hk; omega)) (fun k j hk hlt => ?_)
  exact hgr.cell_far ⟨k, j, none⟩ hlt (by simp [Value.ownBlock]; exact hk)
theorem news_far {W w2:World}{k:Nat}{cs:Array Value}{t:TypeId}(hb:W.heap[k]? = some (.cells cs t (0,0)))(hf:∀j,w2.cell? ⟨k,j,none⟩=W.cell? ⟨k,j,none⟩):∀j u,cs.toList[j]? = some u→w2.cell? ((⟨k,0,none⟩:Addr).add j)=some u:=by
 intro j u hu
 have:=World.news_of_block hb j u hu
 have hadd:(⟨k,0,none⟩:Addr).add j=⟨k,j,none⟩:=by unfold Addr.add;split <;> simp_all
 rw [hadd] at this ⊢
 rw [hf];exact this
theorem addX_any (l:List Fact)(f:Fact)(hl:l.length≤100000000)(A:Option Addr)(c B:Nat)(w:World)(hR:RF w B A l) :
  Calls Tryz.prog 290 #[.slice A l.length c,.agg #[.int .i64 f.at_,.int .i64 f.ch,.int .i64 f.fr,.int .i64 f.un,.int .i64 f.me]] w (RetF w (addR l f) (addE l f)):=by
 obtain ⟨R,hRR⟩:∃R,R=addR l f:=⟨_,rfl⟩
 obtain ⟨E,hE⟩:∃E,E=addE l f:=⟨_,rfl⟩
 rw [← hRR,← hE]
 have HR:=Lib.hid hRR
 have HE:=Lib.hid hE
 clear hRR hE
 have hx0:Below (w.heap.size+1) (w.alloc (.cells #[.int .i64 f.at_,.int .i64 f.ch,.int .i64 f.fr,.int .i64 f.un,.int .i64 f.me] 53)) (w.alloc (.cells #[.int .i64 f.at_,.int .i64 f.ch,.int .i64 f.fr,.int .i64 f.un,.int .i64 f.me] 53)):=Below.refl _ _
 obtain ⟨bx,_,_,hy0⟩:=blk_facts hx0 (by omega)
 go_enter Tryz.func290,Tryz.ntmps290
 go_wp2_with fail
 refine (validate_any l A c B _ (hR.below hy0) (by omega)).mono ?_
 rintro e w1 ⟨rfl,hb1⟩
 have hx1:=hx0.trans (hb1.mono (by simp))
 clear bx hb1
 obtain ⟨bx,_,bz,hy1⟩:=blk_facts hx1 (by omega)
 by_cases hv:vld l=0
 ·have hv1:(vld l != 0)=false:=by simp [hv]
  have HV:=Lib.hid hv
  have q0:w1.cell? ⟨w.heap.size,0,none⟩=some (.int .i64 f.at_):=by rw [bx];rfl
  have q1:w1.cell? ⟨w.heap.size,1,none⟩=some (.int .i64 f.ch):=by rw [bx];rfl
  have q2:w1.cell? ⟨w.heap.size,2,none⟩=some (.int .i64 f.fr):=by rw [bx];rfl
  have q3:w1.cell? ⟨w.heap.size,3,none⟩=some (.int .i64 f.un):=by rw [bx];rfl
  have q4:w1.cell? ⟨w.heap.size,4,none⟩=some (.int .i64 f.me):=by rw [bx];rfl
  have hR1:=hR.below hy1
  clear hv bx hx0 hy0 hx1
  go_wp2_with fail
  go_cut [7] (fun s wx=>∃A' c',s=.slice A' (l.length+1) c'∧OwnF wx w.heap.size A' c' (l ++ [f])∧Below w.heap.size w wx)
  case first =>
   go_region_held3 (fun w'=>w'.cell? ⟨w.heap.size,0,none⟩=some (.int .i64 f.at_)∧w'.cell? ⟨w.heap.size,1,none⟩=some (.int .i64 f.ch)∧w'.cell? ⟨w.heap.size,2,none⟩=some (.int .i64 f.fr)∧w'.cell? ⟨w.heap.size,3,none⟩=some (.int .i64 f.un)∧w'.cell? ⟨w.heap.size,4,none⟩=some (.int .i64 f.me))
    (first | go_keep | (go_split_ands;refine ⟨?_,?_,?_,?_,?_⟩ <;> (rw [(hb3 _ (Nat.le_refl _)).cell (by simp;omega)];go_keep)) | (go_split_ands;refine ⟨?_,?_,?_,?_,?_⟩ <;> (rw [hb2.cell (by simp;omega)];go_keep)))
    (first
     | (go_at_call 77;refine (clone_anyO l (by omega) A c B _ ?_).mono ?_;(repeat (first | exact hR1 | refine RF.drew ?_ | refine RF.alloc ?_ _));rintro e w2 ⟨A',c',rfl,own2,hb2⟩)
     | (refine step_app2 (by rfl) _ _ (by rfl) Tryz.underlying43 info_fact rfl (by omega) (by rfl) (World.ownsRow.alloc own2 (.cells #[.int .i64 f.at_,.int .i64 f.ch,.int .i64 f.fr,.int .i64 f.un,.int .i64 f.me] 53)) (news:=f.vals) ⟨w2.heap.size,0,none⟩ (by rfl) (by rfl) (World.news_of_block (cs:=#[.int .i64 f.at_,.int .i64 f.ch,.int .i64 f.fr,.int .i64 f.un,.int .i64 f.me]) (t:=53) (fr:=(0,0)) (heap_alloc_new w2 _)) (by simp [Fact.vals,Value.oneCell']) (by omega) (by omega) (by have:=hb2.size;simp at this ⊢;omega) ?_;intro A3 c3 w3 own3 hb3 hk3)
     | (refine step_app2 (by rfl) _ _ (by rfl) Tryz.underlying43 info_fact rfl (by omega) (by rfl) own2 (news:=f.vals) ⟨w1.heap.size,0,none⟩ (by rfl) (by rfl) (fun j u hu=>(hb2.cell (by rw [block_of_add];simp)).trans (World.news_of_block (w:=w1.drew.alloc (.cells #[.int .i64 f.at_,.int .i64 f.ch,.int .i64 f.fr,.int .i64 f.un,.int .i64 f.me] 53)) (cs:=#[.int .i64 f.at_,.int .i64 f.ch,.int .i64 f.fr,.int .i64 f.un,.int .i64 f.me]) (t:=53) (fr:=(0,0)) (heap_alloc_new w1.drew _) j u hu)) (by simp [Fact.vals,Value.oneCell']) (by omega) (by omega) (by have:=hb2.size;simp at this ⊢;omega) ?_;intro A3 c3 w3 own3 hb3 hk3))
   ·go_wp2_with fail
    go_meet
    exact ⟨A3,c3,rfl,OwnF.more (own_base own3 (by exact hy1.size)),hy1.drew.trans ((hb2.mono (by simp;omega)).trans ((((Below.refl _ _).alloc (by have:=hb2.size;simp at this;omega) _)).trans (hb3 w.heap.size (by simp;omega))))⟩
   ·go_wp2_with fail
    go_meet
    exact ⟨A3,c3,rfl,OwnF.more (own_base own3 (by simp;omega)),hy1.trans (((Below.refl _ _).drew.alloc (by exact hy1.size) _).trans ((hb2.mono (by simp;omega)).trans (hb3 w.heap.size (by simp;omega))))⟩
  case rest =>
   obtain ⟨A3,c3,rfl,own,hbl⟩:=hcut
   have hl1:(l ++ [f]).length=l.length+1:=by simp
   have hva:=validate_any (l ++ [f]) A3 c3 _ _ own.reads (by omega)
   rw [hl1] at hva
   have HVA:=Lib.hid hva
   have HL1:=Lib.hid hl1
   clear hva hl1
   go_wp2_with fail
   refine HVA.out.mono ?_
   rintro e w4 ⟨rfl,hb4⟩
   have hy4:=hbl.trans (hb4.mono hbl.size)
   have own4:=own.kept hb4
   have hEv:E=vld (l ++ [f]):=by rw [HE.out,addE,if_neg (by rw [HV.out];simp)]
   by_cases hv2:vld (l ++ [f])=0
   ·have hv3:(vld (l ++ [f]) != 0)=false:=by simp [hv2]
    have hRv:R=l ++ [f]:=by rw [HR.out,addR,if_pos ⟨HV.out,hv2⟩]
    have HEV:=Lib.hid (hEv.trans hv2)
    have HRV:=Lib.hid hRv
    clear hEv hv2 hRv
    go_wp2
    go_ret2
    exact ⟨A3,c3,ret2 (by rw [HRV.out,HL1.out];rfl) (by rw [HEV.out];rfl),by rw [HRV.out];exact own4,hy4⟩
   ·have hv3:(vld (l ++ [f]) != 0)=true:=by simp [hv2]
    have hRv:R=[]:=by rw [HR.out,addR,if_neg (by rintro ⟨_,h⟩;exact hv2 h)]
    have HEV:=Lib.hid hEv
    have HRV:=Lib.hid hRv
    clear hEv hv2 hRv
    go_wp2
    go_ret2
    exact ⟨none,0,ret2 (by rw [HRV.out];rfl) (by rw [HEV.out];rfl),by rw [HRV.out];exact World.ownsRow_nil _ _ _ _,hy4⟩
 ·have hv1:(vld l != 0)=true:=by simp [hv]
  have hEv:E=vld l:=by rw [HE.out,addE,if_pos hv]
  have hRv:R=[]:=by rw [HR.out,addR,if_neg (by rintro ⟨h,_⟩;exact hv h)]
  have HEV:=Lib.hid hEv
  have HRV:=Lib.hid hRv
  clear hEv hv hRv
  go_wp2
  go_ret2
  exact ⟨none,0,ret2 (by rw [HRV.out];rfl) (by rw [HEV.out];rfl),by rw [HRV.out];exact World.ownsRow_nil _ _ _ _,hy1⟩
theorem raddX_any (l:List Fact)(f:Fact)(hl:l.length≤100000000)(A:Option Addr)(c B:Nat)(w:World)(hR:RF w B A l) :
  Calls Tryz.prog 208 #[.slice A l.length c,.agg #[.int .i64 f.at_,.int .i64 f.ch,.int .i64 f.fr,.int .i64 f.un,.int .i64 f.me]] w (RetF w (addR l f) (addE l f)):=by
 obtain ⟨R,hRR⟩:∃R,R=addR l f:=⟨_,rfl⟩
 obtain ⟨E,hE⟩:∃E,E=addE l f:=⟨_,rfl⟩
 rw [← hRR,← hE]
 have HR:=Lib.hid hRR
 have HE:=Lib.hid hE
 clear hRR hE
 have hx0:Below (w.heap.size+1) (w.alloc (.cells #[.int .i64 f.at_,.int .i64 f.ch,.int .i64 f.fr,.int .i64 f.un,.int .i64 f.me] 53)) (w.alloc (.cells #[.int .i64 f.at_,.int .i64 f.ch,.int .i64 f.fr,.int .i64 f.un,.int .i64 f.me] 53)):=Below.refl _ _
 obtain ⟨bx,_,_,hy0⟩:=blk_facts hx0 (by omega)
 go_enter Tryz.func208,Tryz.ntmps208
 go_wp2_with fail
 refine (rvalidate_any l A c B _ (hR.below hy0) (by omega)).mono ?_
 rintro e w1 ⟨rfl,hb1⟩
 have hx1:=hx0.trans (hb1.mono (by simp))
 clear bx hb1
 obtain ⟨bx,_,bz,hy1⟩:=blk_facts hx1 (by omega)
 by_cases hv:vld l=0
 ·have hv1:(vld l != 0)=false:=by simp [hv]
  have HV:=Lib.hid hv
  have q0:w1.cell? ⟨w.heap.size,0,none⟩=some (.int .i64 f.at_):=by rw [bx];rfl
  have q1:w1.cell? ⟨w.heap.size,1,none⟩=some (.int .i64 f.ch):=by rw [bx];rfl
  have q2:w1.cell? ⟨w.heap.size,2,none⟩=some (.int .i64 f.fr):=by rw [bx];rfl
  have q3:w1.cell? ⟨w.heap.size,3,none⟩=some (.int .i64 f.un):=by rw [bx];rfl
  have q4:w1.cell? ⟨w.heap.size,4,none⟩=some (.int .i64 f.me):=by rw [bx];rfl
  have hR1:=hR.below hy1
  clear hv bx hx0 hy0 hx1
  go_wp2_with fail
  go_cut [7] (fun s wx=>∃A' c',s=.slice A' (l.length+1) c'∧OwnF wx w.heap.size A' c' (l ++ [f])∧Below w.heap.size w wx)
  case first =>
   go_region_held3 (fun w'=>w'.cell? ⟨w.heap.size,0,none⟩=some (.int .i64 f.at_)∧w'.cell? ⟨w.heap.size,1,none⟩=some (.int .i64 f.ch)∧w'.cell? ⟨w.heap.size,2,none⟩=some (.int .i64 f.fr)∧w'.cell? ⟨w.heap.size,3,none⟩=some (.int .i64 f.un)∧w'.cell? ⟨w.heap.size,4,none⟩=some (.int .i64 f.me))
    (first | go_keep | (go_split_ands;refine ⟨?_,?_,?_,?_,?_⟩ <;> (rw [(hb3 _ (Nat.le_refl _)).cell (by simp;omega)];go_keep)) | (go_split_ands;refine ⟨?_,?_,?_,?_,?_⟩ <;> (rw [hfar2 _ _ (by omega) (by simp;omega)];go_keep)))
    (first
     | (refine step_app_lit (by rfl) _ _ (by rfl) w1.heap.size (g:=w1.heap.size) (by rfl) (by first | exact heap_at (by simp) | exact heap_before (heap_at (by simp))) (B:=B) (A:=A) (c:=c) (l:=l) (by rfl) (by (repeat (first | exact hR1 | refine RF.drew ?_ | refine RF.alloc ?_ _))) hl (by omega) ?_;intro A2 c2 w2 own2 hb2 hfar2)
     | (refine step_app_lit (by rfl) _ _ (by rfl) w1.heap.size (g:=w1.heap.size+1) (by rfl) (by first | exact heap_at (by simp) | exact heap_before (heap_at (by simp))) (B:=B) (A:=A) (c:=c) (l:=l) (by rfl) (by (repeat (first | exact hR1 | refine RF.drew ?_ | refine RF.alloc ?_ _))) hl (by omega) ?_;intro A2 c2 w2 own2 hb2 hfar2)
     | (refine step_app2 (by rfl) _ _ (by rfl) Tryz.underlying43 info_fact rfl (by omega) (by rfl) (World.ownsRow.alloc own2 (.cells #[.int .i64 f.at_,.int .i64 f.ch,.int .i64 f.fr,.int .i64 f.un,.int .i64 f.me] 53)) (news:=f.vals) ⟨w2.heap.size,0,none⟩ (by rfl) (by rfl) (World.news_of_block (cs:=#[.int .i64 f.at_,.int .i64 f.ch,.int .i64 f.fr,.int .i64 f.un,.int .i64 f.me]) (t:=53) (fr:=(0,0)) (heap_alloc_new w2 _)) (by simp [Fact.vals,Value.oneCell']) (by omega) (by omega) (by have:=hb2.size;simp at this ⊢;omega) ?_;intro A3 c3 w3 own3 hb3 hk3)
     | (refine step_app2 (by rfl) _ _ (by rfl) Tryz.underlying43 info_fact rfl (by omega) (by rfl) own2 (news:=f.vals) ⟨w1.heap.size+1,0,none⟩ (by rfl) (by rfl) (news_far (cs:=#[.int .i64 f.at_,.int .i64 f.ch,.int .i64 f.fr,.int .i64 f.un,.int .i64 f.me]) (t:=53) (by first | exact heap_at (by simp) | exact heap_before (heap_at (by simp))) (fun j=>hfar2 (w1.heap.size+1) j (by omega) (by simp <;> omega))) (by simp [Fact.vals,Value.oneCell']) (by omega) (by omega) (by have:=hb2.size;simp at this ⊢;omega) ?_;intro A3 c3 w3 own3 hb3 hk3)
     | (refine step_app2 (by rfl) _ _ (by rfl) Tryz.underlying43 info_fact rfl (by omega) (by rfl) own2 (news:=f.vals) ⟨w1.heap.size,0,none⟩ (by rfl) (by rfl) (news_far (cs:=#[.int .i64 f.at_,.int .i64 f.ch,.int .i64 f.fr,.int .i64 f.un,.int .i64 f.me]) (t:=53) (by first | exact heap_at (by simp) | exact heap_before (heap_at (by simp))) (fun j=>hfar2 (w1.heap.size) j (by omega) (by simp <;> omega))) (by simp [Fact.vals,Value.oneCell']) (by omega) (by omega) (by have:=hb2.size;simp at this ⊢;omega) ?_;intro A3 c3 w3 own3 hb3 hk3))
   ·go_wp2_with fail
    go_meet
    exact ⟨A3,c3,rfl,OwnF.more (own_base own3 (by exact hy1.size)),hy1.trans ((((Below.refl _ _).alloc hy1.size _).drew).trans ((hb2.mono hy1.size).trans ((((Below.refl _ _).alloc (by have:=hb2.size;simp at this;omega) _)).trans (hb3 w.heap.size (by exact hy1.size)))))⟩
   ·go_wp2_with fail
    go_meet
    exact ⟨A3,c3,rfl,OwnF.more (own_base own3 (by exact hy1.size)),hy1.trans (((((Below.refl _ _).alloc hy1.size _).alloc (by simp;omega) _).drew).trans ((hb2.mono hy1.size).trans (hb3 w.heap.size (by exact hy1.size))))⟩
   ·go_wp2_with fail
    go_meet
    exact ⟨A3,c3,rfl,OwnF.more (own_base own3 (by exact hy1.size)),hy1.trans (((((Below.refl _ _).alloc hy1.size _).alloc (by simp;omega) _).drew).trans ((hb2.mono hy1.size).trans (hb3 w.heap.size (by exact hy1.size))))⟩
  case rest =>
   obtain ⟨A3,c3,rfl,own,hbl⟩:=hcut
   have hl1:(l ++ [f]).length=l.length+1:=by simp
   have hva:=rvalidate_any (l ++ [f]) A3 c3 _ _ own.reads (by omega)
   rw [hl1] at hva
   have HVA:=Lib.hid hva
   have HL1:=Lib.hid hl1
   clear hva hl1
   go_wp2_with fail
   refine HVA.out.mono ?_
   rintro e w4 ⟨rfl,hb4⟩
   have hy4:=hbl.trans (hb4.mono hbl.size)
   have own4:=own.kept hb4
   have hEv:E=vld (l ++ [f]):=by rw [HE.out,addE,if_neg (by rw [HV.out];simp)]
   by_cases hv2:vld (l ++ [f])=0
   ·have hv3:(vld (l ++ [f]) != 0)=false:=by simp [hv2]
    have hRv:R=l ++ [f]:=by rw [HR.out,addR,if_pos ⟨HV.out,hv2⟩]
    have HEV:=Lib.hid (hEv.trans hv2)
    have HRV:=Lib.hid hRv
    clear hEv hv2 hRv
    go_wp2
    go_ret2
    exact ⟨A3,c3,ret2 (by rw [HRV.out,HL1.out];rfl) (by rw [HEV.out];rfl),by rw [HRV.out];exact own4,hy4⟩
   ·have hv3:(vld (l ++ [f]) != 0)=true:=by simp [hv2]
    have hRv:R=[]:=by rw [HR.out,addR,if_neg (by rintro ⟨_,h⟩;exact hv2 h)]
    have HEV:=Lib.hid hEv
    have HRV:=Lib.hid hRv
    clear hEv hv2 hRv
    go_wp2
    go_ret2
    exact ⟨none,0,ret2 (by rw [HRV.out];rfl) (by rw [HEV.out];rfl),by rw [HRV.out];exact World.ownsRow_nil _ _ _ _,hy4⟩
 ·have hv1:(vld l != 0)=true:=by simp [hv]
  have hEv:E=vld l:=by rw [HE.out,addE,if_pos hv]
  have hRv:R=[]:=by rw [HR.out,addR,if_neg (by rintro ⟨h,_⟩;exact hv h)]
  have HEV:=Lib.hid hEv
  have HRV:=Lib.hid hRv
  clear hEv hv hRv
  go_wp2
  go_ret2
  exact ⟨none,0,ret2 (by rw [HRV.out];rfl) (by rw [HEV.out];rfl),by rw [HRV.out];exact World.ownsRow_nil _ _ _ _,hy1⟩
end Go.Proofs.YtiapkffihpgdcaaGreatDoor
