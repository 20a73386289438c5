import Derived.Test.YtiapkffihpgdcaaGreatDoorQC10
import Derived.Test.YtiapkffihpgdcaaGreatDoorQC14
import Derived.Lib.QuietBelow
import Derived.BigRegion
set_option linter.unusedVariables false
set_option linter.unusedSimpArgs false
set_option maxRecDepth 100000
set_option maxHeartbeats 4000000
namespace Go.Proofs.YtiapkffihpgdcaaGreatDoor
open Go.RowKit Go.Sort
/-- One byte more. -/
def wSn (b:UInt8)(ws:List Wd):List Wd:=if b=32 then ws ++ [[]] else ws.set (ws.length-1) (ws.getD (ws.length-1) [] ++ [b])
theorem wSn_cons (b:UInt8)(x:Wd){ws:List Wd}(h:ws≠[]):wSn b (x :: ws)=x :: wSn b ws:=by
 unfold wSn
 by_cases e:b=32
 ·rw [if_pos e,if_pos e];rfl
 ·rw [if_neg e,if_neg e]
  have hl:(x :: ws).length-1=(ws.length-1)+1:=by
   have:0<ws.length:=List.length_pos_iff.2 h
   simp;omega
  rw [hl]
  simp
theorem wSn_head (b a:UInt8)(x:Wd)(ws:List Wd):wSn b ((a :: x) :: ws)=match wSn b (x :: ws) with
  | []=>[[a]]
  | y :: ys=>(a :: y) :: ys:=by
 cases ws with
 | nil =>
  unfold wSn
  by_cases e:b=32
  ·rw [if_pos e,if_pos e];rfl
  ·rw [if_neg e,if_neg e];simp
 | cons y ys =>
  rw [wSn_cons b (a :: x) (ws:=y :: ys) (by simp),wSn_cons b x (ws:=y :: ys) (by simp)]
theorem wds_snoc (b:UInt8):∀l:List UInt8,wds (l ++ [b])=wSn b (wds l)
 | []=>by
  unfold wSn
  by_cases e:b=32
  ·subst e;rfl
  ·rw [if_neg e]
   show wds [b]=_
   simp [wds,e]
 | a :: l=>by
  have ih:=wds_snoc b l
  rw [List.cons_append]
  by_cases e:a=32
  ·simp only [wds]
   rw [if_pos e,if_pos e,ih,wSn_cons b [] (wds_ne l)]
  ·have e1:wds (a :: (l ++ [b]))=match wds (l ++ [b]) with
    | []=>[[a]]
    | w :: ws=>(a :: w) :: ws:=by simp only [wds];rw [if_neg e];rfl
   have e2:wds (a :: l)=match wds l with
    | []=>[[a]]
    | w :: ws=>(a :: w) :: ws:=by simp only [wds];rw [if_neg e];rfl
   rw [e1,e2,ih]
   cases hw:wds l with
   | nil=>exact absurd hw (wds_ne l)
   | cons w ws=>exact (wSn_head b a w ws).symm
theorem wds_take {s:List UInt8}{k:Nat}(hk:k<s.length):wds (s.take (k+1))=wSn (s[k]) (wds (s.take k)):=by
 rw [List.take_succ_eq_append_getElem hk,wds_snoc]
theorem wds_take_len (s:List UInt8):∀k,k≤s.length→(wds (s.take k)).length≤k+1
 | 0,_=>by simp [wds]
 | k+1,h=>by
  rw [wds_take (by omega)]
  have ih:=wds_take_len s k (by omega)
  unfold wSn
  split
  ·simp;omega
  ·simp;omega
theorem wds_short (l:List UInt8):∀w ∈ wds l,w.length≤l.length:=by
 induction l with
 | nil=>intro w hw;simp [wds] at hw;subst hw;simp
 | cons a l ih =>
  intro w hw
  simp only [wds] at hw
  by_cases e:a=32
  ·rw [if_pos e] at hw
   rcases List.mem_cons.1 hw with rfl | hw
   ·simp
   ·have:=ih w hw;simp;omega
  ·rw [if_neg e] at hw
   cases hx:wds l with
   | nil=>exact absurd hx (wds_ne l)
   | cons y ys =>
    rw [hx] at hw ih
    rcases List.mem_cons.1 hw with rfl | hw
    ·have:=ih y (by simp);simp;omega
    ·have:=ih w (by simp [hw]);simp;omega
theorem getD_short {ws:List Wd}{n k:Nat}(h:∀w ∈ ws,w.length≤n):(ws.getD k []).length≤n:=by
 rw [List.getD_eq_getElem?_getD]
 cases hx:ws[k]? with
 | none=>simp
 | some x=>obtain ⟨hk,rfl⟩:=List.getElem?_eq_some_iff.1 hx;exact h _ (List.getElem_mem hk)
theorem OwnS.at9 {w:World}{base c:Nat}{A:Option Addr}{l:List Wd}(h:OwnS w base A c l){k:Nat}(hk:k<l.length) :
  ∃b,A=some ⟨b,0,none⟩∧base≤b∧b<w.heap.size∧w.cell? ⟨b,k,none⟩=some (St (l.getD k []))∧w.frozen? ⟨b,k,none⟩=false∧∀x:Wd,OwnS (w.setCell ⟨b,k,none⟩ (St x)) base A c (l.set k x):=by
 have h':=h
 unfold OwnS at h'
 rcases h'.2 with ⟨h1,h2⟩ | ⟨b,cap,cur,h1,hbg,hg,hrest⟩
 ·omega
 ·injection h1 with h1 _ hc
  subst h1
  subst hc
  have hlt:=World.ownsRow.lt h' b rfl
  refine ⟨b,rfl,hlt.1,hlt.2,?_,World.ownsRow.frozenAt h' _,fun x=>?_⟩
  ·rw [World.ownsRow.cellAt h' k (by omega)]
   simp [strs,hk]
  ·have e:=(World.ownsRow.stored h' k (St x)).1
   have e2:(strs l).set k (St x)=strs (l.set k x):=by simp [strs,List.map_set]
   rw [e2] at e
   unfold OwnS
   rw [List.length_set]
   exact e
theorem rwords_any (s:Wd)(hs:s.length≤100000)(w:World) :
  Calls Tryz.prog 201 #[St s] w fun e w'=>∃A c,e=.returned (.slice A (wds s).length c)∧OwnS w' w.heap.size A c (wds s)∧Below w.heap.size w w'∧((wds s).length=1→c=1):=by
 have own0:OwnS (w.alloc (.cells #[St []] 9)) w.heap.size (some ⟨w.heap.size,0,none⟩) 1 (wds (s.take 0)):=by
  rw [List.take_zero]
  exact World.ownsRow_lit w #[St []] 1 (Nat.le_refl _) (by unfold maxLen;omega) rfl
 have hb0:Below w.heap.size w (w.alloc (.cells #[St []] 9)):=(Below.refl _ _).alloc (Nat.le_refl _) _
 go_enter Tryz.func201,Tryz.ntmps201
 go_wp2_with fail
 go_loopw [3,4] (fun o x wr=>∃(k:Nat) (A:Option Addr) (c:Nat),k≤s.length∧x=.int .i64 k∧o=.slice A (wds (s.take k)).length c∧OwnS wr w.heap.size A c (wds (s.take k))∧Below w.heap.size w wr∧Hid ((wds (s.take k)).length=1→c=1)) (fun _ x _=>s.length-(intOf x).toNat)
 case atStart=>exact ⟨0,_,1,by omega,rfl,rfl,own0,hb0,fun _=>rfl⟩
 case round =>
  clear own0 hb0
  obtain ⟨k,A,c,hk,rfl,rfl,own,hy,HC1⟩:=hrel
  have hsz:=hy.size
  have hwl:=wds_take_len s k hk
  have hwn:0<(wds (s.take k)).length:=List.length_pos_iff.2 (wds_ne _)
  by_cases hlt:k<s.length
  ·have hnx:=wds_take hlt
   obtain ⟨L,hL⟩:∃L,L=wds (s.take k):=⟨_,rfl⟩
   obtain ⟨L2,hL2⟩:∃L2,L2=wds (s.take (k+1)):=⟨_,rfl⟩
   rw [← hL,← hL2] at hnx
   rw [← hL] at own hwl hwn ⊢
   have HL2:=Lib.hid hL2
   have HLL:=Lib.hid hL
   have hsz2:k<ByteArray.size ⟨s.toArray⟩:=by rw [st_size];exact hlt
   have hg:=st_get s k hsz2
   clear hL hL2
   by_cases hb:s[k]=32
   ·have hq:((((⟨s.toArray⟩:ByteArray)[k]'hsz2).toNat:Int) == 32)=true:=by rw [hg,hb];rfl
    have hn2:L2=L ++ [[]]:=by rw [hnx,wSn,if_pos hb]
    have HN:=Lib.hid hn2
    clear hn2 hnx hb hg
    go_wp2_with (at_builtin;refine wpList_app1 rfl _ _ rfl Tryz.underlying33 info_str rfl (by omega) rfl own rfl rfl (by simp [Value.oneCell']) (by omega) (by omega) (by omega) ?_;intro A'' c'' w4 own4 hb4)
    have hy4:=hy.trans (hb4 _ (Nat.le_refl _))
    have ow4:=OwnS.snoc own4 rfl rfl
    have hl2:L2.length=L.length+1:=by rw [HN.out];simp
    rw [← HN.out] at ow4
    go_roundw
    case rel=>exact ⟨k+1,A'',c'',by omega,by go_num,by rw [← HL2.out,hl2],by rw [← HL2.out];exact ow4,hy4,fun e=>by rw [← HL2.out,hl2] at e;omega⟩
    case measure=>simp [intOf];omega
   ·have hq:((((⟨s.toArray⟩:ByteArray)[k]'hsz2).toNat:Int) == 32)=false:=by
     rw [hg,beq_eq_false_iff_ne]
     intro e
     refine hb (UInt8.toNat_inj.1 ?_)
     have:(32:UInt8).toNat=32:=rfl
     omega
    obtain ⟨b,rfl,hbb,hbs,hc,hf,hset⟩:=own.at9 (k:=L.length-1) (by omega)
    have hn2:L2=L.set (L.length-1) (L.getD (L.length-1) [] ++ [s[k]]):=by rw [hnx,wSn,if_neg hb]
    have hcat:(⟨(L.getD (L.length-1) []).toArray⟩:ByteArray) ++ ByteArray.extract ⟨s.toArray⟩ k (k+1)=⟨(L.getD (L.length-1) [] ++ [s[k]]).toArray⟩:=by
     rw [st_cut,st_app,show k+1-k=1 by omega,List.drop_eq_getElem_cons hlt];rfl
    have hxl:(L.getD (L.length-1) []).length≤s.length:=getD_short (by rw [HLL.out];exact fun w hw=>Nat.le_trans (wds_short _ w hw) (by simp;omega))
    obtain ⟨m,hm⟩:∃m,L.length=m+1:=⟨L.length-1,by omega⟩
    have hm1:L.length-1=m:=by omega
    rw [hm1] at hn2 hcat hc hset hf hxl
    obtain ⟨X,hX⟩:∃X,X=L.getD m []:=⟨_,rfl⟩
    rw [← hX] at hn2 hcat hc hxl
    have hset2:=hset (X ++ [s[k]])
    rw [← hn2] at hset2
    have hl2:L2.length=m+1:=by rw [hn2,List.length_set,hm]
    obtain ⟨Y,hY⟩:∃Y,Y=X ++ [s[k]]:=⟨_,rfl⟩
    rw [← hY] at hset2 hcat
    have HCAT:=Lib.hid hcat
    rw [hm]
    have HLM:=Lib.hid hm
    have HL2M:=Lib.hid hl2
    have hmb:m≤100000:=by omega
    have hsum:¬ 9223372036854775807<X.length+(min (k+1) s.length-k):=by omega
    clear hn2 hnx hb hg hX hcat hY hset hm hm1 hl2 own hwl hwn
    go_wp2_with fail
    go_region
    all_goals
     rw [HCAT.out]
     go_wp2_with fail
     go_roundw
     case rel=>exact ⟨k+1,some ⟨b,0,none⟩,c,by omega,by go_num,by rw [← HL2.out,HL2M.out],by rw [← HL2.out];exact hset2,(hy.setCell (p:=⟨b,m,none⟩) hbb (St Y)).drew,fun e=>HC1.out (by rw [← HLL.out,HLM.out];rw [← HL2.out,HL2M.out] at e;exact e)⟩
     case measure=>simp [intOf];omega
  ·obtain rfl:k=s.length:=by omega
   rw [List.take_length] at own HC1 ⊢
   go_wp2_with fail
   go_ret
   exact ⟨A,c,rfl,own,hy,HC1.out⟩
theorem numsTo_badZ {ws:List Wd}{k n:Nat}(h:numOk (ws.getD k [])=false)(hn:k<n):numsTo ws n=false:=by
 induction n with
 | zero=>omega
 | succ n ih =>
  simp only [numsTo]
  by_cases e:k=n
  ·subst e;rw [h,Bool.and_false]
  ·rw [ih (by omega)];rfl
theorem takeZ (l:List Wd){k:Nat}(h:k<l.length):l.take (k+1)=l.take k ++ [l[k]]:=by rw [List.take_add_one];simp [h]
/-- How many numbers the orders with a first word have;-1 for no order. -/
def numsI (w:Wd):Int:=match fmOf w with
 | some f=>f.nums
 | none=>-1
theorem rnumbers_any (s:Wd)(w:World):Calls Tryz.prog 204 #[St s] w fun e w'=>e=.returned (.int .i64 (numsI s))∧w'=w:=by
 by_cases h1:s=wAt
 ·subst h1
  go_enter Tryz.func204,Tryz.ntmps204
  go_wp2
  go_ret
  exact ⟨ret_int rfl,rfl⟩
 by_cases h2:s=wDish
 ·subst h2
  go_enter Tryz.func204,Tryz.ntmps204
  go_wp2
  go_ret
  exact ⟨ret_int rfl,rfl⟩
 by_cases h3:s=wChild
 ·subst h3
  go_enter Tryz.func204,Tryz.ntmps204
  go_wp2
  go_ret
  exact ⟨ret_int rfl,rfl⟩
 by_cases h4:s=wOrder
 ·subst h4
  go_enter Tryz.func204,Tryz.ntmps204
  go_wp2
  go_ret
  exact ⟨ret_int rfl,rfl⟩
 by_cases h5:s=wCancel
 ·subst h5
  go_enter Tryz.func204,Tryz.ntmps204
  go_wp2
  go_ret
  exact ⟨ret_int rfl,rfl⟩
 by_cases h6:s=wFree
 ·subst h6
  go_enter Tryz.func204,Tryz.ntmps204
  go_wp2
  go_ret
  exact ⟨ret_int rfl,rfl⟩
 by_cases h7:s=wCook
 ·subst h7
  go_enter Tryz.func204,Tryz.ntmps204
  go_wp2
  go_ret
  exact ⟨ret_int rfl,rfl⟩
 by_cases h8:s=wEat
 ·subst h8
  go_enter Tryz.func204,Tryz.ntmps204
  go_wp2
  go_ret
  exact ⟨ret_int rfl,rfl⟩
 have e:numsI s = -1:=by unfold numsI fmOf;rw [if_neg h1,if_neg h2,if_neg h3,if_neg h4,if_neg h5,if_neg h6,if_neg h7,if_neg h8]
 have b1:(s == wAt)=false:=by simpa using h1
 have b2:(s == wDish)=false:=by simpa using h2
 have b3:(s == wChild)=false:=by simpa using h3
 have b4:(s == wOrder)=false:=by simpa using h4
 have b5:(s == wCancel)=false:=by simpa using h5
 have b6:(s == wFree)=false:=by simpa using h6
 have b7:(s == wCook)=false:=by simpa using h7
 have b8:(s == wEat)=false:=by simpa using h8
 unfold wAt at b1;unfold wDish at b2;unfold wChild at b3;unfold wOrder at b4;unfold wCancel at b5;unfold wFree at b6;unfold wCook at b7;unfold wEat at b8
 rw [e]
 clear e h1 h2 h3 h4 h5 h6 h7 h8
 go_enter Tryz.func204,Tryz.ntmps204
 go_wp2
 go_ret
 exact ⟨ret_int rfl,rfl⟩
end Go.Proofs.YtiapkffihpgdcaaGreatDoor
namespace Go.Proofs.YtiapkffihpgdcaaGreatDoor
def cntW (w:Wd):Int:=match fmOf w with
 | some f=>f.nums
 | none=>-1
def isNm (s:Wd):Bool:=decide (hd (wds s)=wDish∧(wds s).tail≠[])
def rWs (s:Wd):List Wd:=if isNm s then (wds s).tail.tail else (wds s).tail
def rNm (s:Wd):Wd:=if isNm s then hd (wds s).tail else []
def rCnt (s:Wd)(n:Nat):Bool:=decide (0≤cntW (hd (wds s))∧((n:Int)=cntW (hd (wds s))∨hd (wds s)=wChild∧cntW (hd (wds s))<n))
/-- What the document's reading tells: is it an order. -/
def rOk (s:Wd):Bool:=decide (1≤s.length∧s.length≤60) && ((!isNm s || letB (rNm s)) && (numsTo (rWs s) (rWs s).length && rCnt s (rWs s).length))
def headW (k:Int):Wd:=if k=0 then wAt else if k=1 then wDish else if k=2 then wChild else if k=3 then wOrder else if k=4 then wCancel else if k=5 then wFree else if k=6 then wCook else wEat
theorem fmOf_head {w:Wd}{f:Fm}(h:fmOf w=some f):w=headW f.kind:=by
 unfold fmOf at h
 by_cases h0:w=wAt
 ·rw [if_pos h0] at h;cases h;exact h0
 rw [if_neg h0] at h
 by_cases h1:w=wDish
 ·rw [if_pos h1] at h;cases h;exact h1
 rw [if_neg h1] at h
 by_cases h2:w=wChild
 ·rw [if_pos h2] at h;cases h;exact h2
 rw [if_neg h2] at h
 by_cases h3:w=wOrder
 ·rw [if_pos h3] at h;cases h;exact h3
 rw [if_neg h3] at h
 by_cases h4:w=wCancel
 ·rw [if_pos h4] at h;cases h;exact h4
 rw [if_neg h4] at h
 by_cases h5:w=wFree
 ·rw [if_pos h5] at h;cases h;exact h5
 rw [if_neg h5] at h
 by_cases h6:w=wCook
 ·rw [if_pos h6] at h;cases h;exact h6
 rw [if_neg h6] at h
 by_cases h7:w=wEat
 ·rw [if_pos h7] at h;cases h;exact h7
 rw [if_neg h7] at h
 cases h
theorem fm_name {f:Fm}{w:Wd}(h:fmOf w=some f):(f.name=true ↔ w=wDish)∧(f.many=true ↔ w=wChild):=by
 have hh:=fmOf_head h
 rcases fmOf_some h with rfl | rfl | rfl | rfl | rfl | rfl | rfl | rfl <;> (rw [hh];decide)
theorem fit_cnt {f:Fm}{s:Wd}(h:fmOf (hd (wds s))=some f)(n:Nat):rCnt s n=fitB f n:=by
 unfold rCnt fitB cntW
 rw [h]
 simp only
 have h0:0≤f.nums:=by rcases fmOf_some h with rfl | rfl | rfl | rfl | rfl | rfl | rfl | rfl <;> decide
 have h2:=(fm_name h).2
 rw [decide_eq_decide]
 constructor
 ·rintro ⟨-,h3 | ⟨h3,h4⟩⟩
  ·exact .inl h3
  ·exact .inr ⟨h4,h2.2 h3⟩
 ·rintro (h3 | ⟨h3,h4⟩)
  ·exact ⟨h0,.inl h3⟩
  ·exact ⟨h0,.inr ⟨h2.1 h4,h3⟩⟩
theorem rOk_none {s:Wd}(h:fmOf (hd (wds s))=none):rOk s=false:=by
 have:rCnt s (rWs s).length=false:=by
  unfold rCnt cntW
  rw [h]
  simp
 unfold rOk
 rw [this]
 simp
/-- The document's reading and the program's are one. -/
theorem rOk_prs (s : Wd) : (prs s = none ∧ rOk s = false) ∨ (∃ r, prs s = some r ∧ rOk s = true ∧ hd (wds s) = headW r.kind ∧ rNm s = r.name ∧ (rWs s).map numV = r.nums) := by
  cases hf : fmOf (hd (wds s)) with
  | none => left; refine ⟨?_, rOk_none hf⟩; unfold prs; rw [hf]
  | some f =>
    have hh := fmOf_head hf
    have hn := (fm_name hf).1
    have hs1 : 1 ≤ s.length := by
      cases s with
      | nil => have : fmOf (hd (wds [])) = none := by decide
               rw [this] at hf; cases hf
      | cons a r => simp
    by_cases h60 : 60 < s.length
    · left
      refine ⟨?_, ?_⟩
      · unfold prs; rw [hf]; simp only; rw [if_pos h60]
      · unfold rOk; rw [decide_eq_false (by omega)]; rfl
    have hlen : decide (1 ≤ s.length ∧ s.length ≤ 60) = true := by rw [decide_eq_true_eq]; omega
    have main : ∀ (nm : Wd) (ws : List Wd), rNm s = nm → rWs s = ws → (!isNm s || letB (rNm s)) = true → prs s = rqN f nm ws → (prs s = none ∧ rOk s = false) ∨ (∃ r, prs s = some r ∧ rOk s = true ∧ hd (wds s) = headW r.kind ∧ rNm s = r.name ∧ (rWs s).map numV = r.nums) := by
      intro nm ws e1 e2 e3 e4
      have hok : rOk s = (numsTo ws ws.length && fitB f ws.length) := by unfold rOk; rw [hlen, e3, e2, fit_cnt hf]; rfl
      rw [e4, hok]
      unfold rqN
      cases h1 : fitB f ws.length with
      | false => left; rw [Bool.and_false]; exact ⟨rfl, rfl⟩
      | true =>
        cases h2 : numsTo ws ws.length with
        | false => left; exact ⟨rfl, rfl⟩
        | true => right; exact ⟨⟨f.kind, nm, ws.map numV⟩, rfl, rfl, hh, e1, by rw [e2]⟩
    cases hnm : f.name with
    | false =>
      have hd1 : hd (wds s) ≠ wDish := fun e => by rw [hn.2 e] at hnm; cases hnm
      have hi : isNm s = false := by unfold isNm; rw [decide_eq_false_iff_not]; exact fun h => hd1 h.1
      refine main [] (wds s).tail (by unfold rNm; rw [hi]; rfl) (by unfold rWs; rw [hi]; rfl) (by rw [hi]; rfl) ?_
      unfold prs; rw [hf]; simp only; rw [if_neg h60, hnm]; rfl
    | true =>
      have hd1 : hd (wds s) = wDish := hn.1 hnm
      by_cases he : (wds s).tail = []
      · left
        have hi : isNm s = false := by unfold isNm; rw [decide_eq_false_iff_not]; exact fun h => h.2 he
        have hw : rWs s = [] := by unfold rWs; rw [hi]; exact he
        refine ⟨?_, ?_⟩
        · unfold prs; rw [hf]; simp only; rw [if_neg h60, hnm]; simp only [if_true]; rw [if_pos he]
        · unfold rOk
          rw [hw, fit_cnt hf]
          have : fitB f ([] : List Wd).length = false := by
            rcases fmOf_some hf with rfl | rfl | rfl | rfl | rfl | rfl | rfl | rfl <;> first | (cases hnm; done) | decide
          rw [this]; simp
      · have hi : isNm s = true := by unfold isNm; rw [decide_eq_true_eq]; exact ⟨hd1, he⟩
        have hN : rNm s = hd (wds s).tail := by unfold rNm; rw [hi]; rfl
        cases hl : letB (hd (wds s).tail) with
        | false =>
          left
          refine ⟨?_, ?_⟩
          · unfold prs; rw [hf]; simp only; rw [if_neg h60, hnm]; simp only [if_true]; rw [if_neg he, hl]; rfl
          · unfold rOk; rw [hi, hN, hl]; simp
        | true =>
          refine main (hd (wds s).tail) (wds s).tail.tail hN (by unfold rWs; rw [hi]; rfl) (by rw [hN, hl]; simp) ?_
          unfold prs; rw [hf]; simp only; rw [if_neg h60, hnm]; simp only [if_true]; rw [if_neg he, hl]; rfl
end Go.Proofs.YtiapkffihpgdcaaGreatDoor
namespace Go.Proofs.YtiapkffihpgdcaaGreatDoor
open Go.RowKit
theorem rOk_len {s:Wd}(h:s.length<1∨60<s.length):rOk s=false:=by
 unfold rOk
 rw [decide_eq_false (by omega)];rfl
/-- What the document's reading of an order hands back. -/
def RetQ (s:Wd)(w:World)(e:Ending)(w':World):Prop :=
 ∃v,e=.returned (.tuple #[v,.bool (rOk s)])∧(rOk s=true→∃A c,v=.agg #[St (hd (wds s)),St (rNm s),.slice A (rWs s).length c]∧OwnN w' w.heap.size A c ((rWs s).map numV))∧(∃x y A k c,v=.agg #[St x,St y,.slice A k c])∧Below w.heap.size w w'
theorem RetQ.no {s:Wd}{w w':World}{x y:Wd}{A:Option Addr}{k c:Nat}(h:rOk s=false)(hb:Below w.heap.size w w'):RetQ s w (.returned (.tuple #[.agg #[St x,St y,.slice A k c],.bool false])) w' :=
 ⟨_,by rw [h],fun e=>(by rw [h] at e;cases e),⟨_,_,_,_,_,rfl⟩,hb⟩
theorem rOk_plain {s h:Wd}{t:List Wd}(hl:1≤s.length∧s.length≤60)(hw:wds s=h :: t)(hn:h≠wDish∨t=[]):rNm s=[]∧rWs s=t∧rOk s=(numsTo t t.length && rCnt s t.length):=by
 have hi:isNm s=false:=by
  unfold isNm
  rw [hw,decide_eq_false_iff_not]
  rintro ⟨h1,h2⟩
  rcases hn with hn | hn
  ·exact hn h1
  ·exact h2 hn
 have e1:rNm s=[]:=by unfold rNm;rw [hi];rfl
 have e2:rWs s=t:=by unfold rWs;rw [hi,hw];rfl
 refine ⟨e1,e2,?_⟩
 unfold rOk
 rw [decide_eq_true hl,hi,e2];rfl
theorem rOk_dish {s x:Wd}{t:List Wd}(hl:1≤s.length∧s.length≤60)(hw:wds s=wDish :: x :: t):rNm s=x∧rWs s=t∧rOk s=(letB x && (numsTo t t.length && rCnt s t.length)):=by
 have hi:isNm s=true:=by
  unfold isNm
  rw [hw,decide_eq_true_eq]
  exact ⟨rfl,by simp⟩
 have e1:rNm s=x:=by unfold rNm;rw [hi,hw];rfl
 have e2:rWs s=t:=by unfold rWs;rw [hi,hw];rfl
 refine ⟨e1,e2,?_⟩
 unfold rOk
 rw [decide_eq_true hl,hi,e1,e2];rfl
theorem rCnt_eq {s h:Wd}{t:List Wd}(hw:wds s=h :: t)(n:Nat):rCnt s n=decide (0≤numsI h∧((n:Int)=numsI h∨h=wChild∧numsI h<n)):=by
 unfold rCnt cntW numsI
 rw [hw];rfl
theorem keepsB_below {w w':World}{B:Nat}(h:Below B w w'):Keeps (fun b=>b<B) w w':=⟨h.size,fun k hk _=>h.block k hk⟩
theorem keepsB_set {w:World}{B:Nat}{p:Addr}(hp:B≤p.block)(v:Value):Keeps (fun b=>b<B) w (w.setCell p v):=⟨by simp [World.setCell],fun k hk _=>Below.heap_setCell _ _ _ _ (by have:k<B:=hk;omega)⟩
theorem Keeps.on {F:Nat→Prop}{a b c:World}(h1:Keeps F a b)(h2:Keeps F b c):Keeps F a c:=⟨Nat.le_trans h1.size h2.size,fun k hk hs=>(h2.block k hk (Nat.lt_of_lt_of_le hs h1.size)).trans (h1.block k hk hs)⟩
theorem numsI_bd (w:Wd) : -1≤numsI w∧numsI w≤3:=by
 unfold numsI
 cases h:fmOf w with
 | none=>exact ⟨by decide,by decide⟩
 | some f=>rcases fmOf_some h with rfl | rfl | rfl | rfl | rfl | rfl | rfl | rfl <;> exact ⟨by decide,by decide⟩
theorem OwnS.capZ {w:World}{base c:Nat}{A:Option Addr}{l:List Wd}(h:OwnS w base A c l):l.length≤c:=by
 unfold OwnS at h
 rcases h.2 with ⟨h1,h2⟩ | ⟨g,cap,cur,h1,_,_,h4,_⟩
 ·omega
 ·injection h1 with _ _ h1;omega
theorem rs_from {w:World}{b c base:Nat}{l:List Wd}(h:OwnS w base (some ⟨b,0,none⟩) c l)(n:Nat)(hn:n≤l.length):ReadsF (fun k=>k<w.heap.size) w 1 (some ⟨b,n,none⟩) (l.drop n).length (strs (l.drop n)):=by
 have hlt:=World.ownsRow.lt h b rfl
 refine ⟨⟨by simp [strs],fun _=>⟨⟨b,n,none⟩,rfl,hlt.2,fun j u hu=>?_⟩⟩,fun ad e _=>by cases e;exact hlt.2⟩
 have e1:(⟨b,n,none⟩:Addr).add j=⟨b,n+j,none⟩:=by unfold Addr.add;split <;> simp_all
 have hj:j<(l.drop n).length:=by
  have:=(List.getElem?_eq_some_iff.1 hu).1
  simpa [strs] using this
 rw [List.length_drop] at hj
 rw [e1,World.ownsRow.cellAt h (n+j) (by omega)]
 simpa [strs] using hu
end Go.Proofs.YtiapkffihpgdcaaGreatDoor
