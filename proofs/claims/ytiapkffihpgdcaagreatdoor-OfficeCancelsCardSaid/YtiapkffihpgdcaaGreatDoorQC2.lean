import Derived.Test.YtiapkffihpgdcaaGreatDoorQC1
import Derived.IntWalk
import Derived.ScopeJumps
import Derived.WalkMore
import Derived.Test.YtiapkffihpgdcaaGreatDoorRows
import Derived.ProofKit
import Derived.Deep.Slices
import Derived.Deep.Fields
import Derived.ChangeSame
import Derived.ChangeSlices
import Derived.Lib.SmallJoins
set_option linter.unusedVariables false
set_option linter.unusedSimpArgs false
set_option maxRecDepth 100000
set_option maxHeartbeats 4000000
namespace Go.Proofs.YtiapkffihpgdcaaGreatDoor
open Go.RowKit
theorem has_any (l:List Int)(x:Int)(hl:l.length≤1000000000)(A:Option Addr)(c:Nat)(w:World)(hR:RN w A l) :
  Calls Tryz.prog 86 #[.slice A l.length c,.int .i64 x] w fun e w'=>e=.returned (.bool (hasB l x))∧w'=w:=by
 obtain ⟨S,hS⟩:∃S,S=hasB l x:=⟨_,rfl⟩
 rw [← hS]
 have HS:=Lib.hid hS
 clear hS
 go_enter Tryz.func86,Tryz.ntmps86
 go_wp2
 go_loop [5] (fun y=>∃k:Nat,k≤l.length∧y=.int .i64 k∧Hid (hasTo l x k=false)) (fun y=>l.length-(intOf y).toNat)
 case atStart=>exact ⟨0,by omega,rfl,rfl⟩
 case round =>
  obtain ⟨k,hk,rfl,HK⟩:=hrel
  by_cases hlt:k<l.length
  ·obtain ⟨ad,rfl,hab,c0⟩:=hR.at_ hlt
   cases hq:(gi l k == x) with
   | true =>
    have hv:S=true:=by rw [HS.out];exact (hasB_iff _ _).2 ⟨k,hlt,by simpa using hq⟩
    have HV:=Lib.hid hv
    clear hv
    go_wp2
    go_ret
    exact ⟨ret_bool (by rw [HV.out]),rfl⟩
   | false =>
    have hnx:hasTo l x (k+1)=false:=by simp only [hasTo,HK.out,hq];rfl
    have HNX:=Lib.hid hnx
    clear hnx
    go_wp2
    go_round
    case rel=>exact ⟨k+1,by omega,by go_num,HNX⟩
    case measure=>simp [intOf];omega
  ·have hv:S=false:=by rw [HS.out];unfold hasB;rw [show l.length=k by omega];exact HK.out
   have HV:=Lib.hid hv;clear hv
   go_wp2
   go_ret
   exact ⟨ret_bool (by rw [HV.out]),rfl⟩
def IdxOf (b:Bool)(w0:World)(e:Ending)(w':World):Prop:=∃i:Int,e=.returned (.int .i64 i)∧(b=true→0≤i)∧(b=false→i<0)∧w0=w'
theorem index_any (l:List Int)(x:Int)(hl:l.length≤1000000000)(A:Option Addr)(c:Nat)(w:World)(hR:RN w A l) :
  Calls Tryz.prog 299 #[.slice A l.length c,.int .i64 x] w (IdxOf (hasB l x) w):=by
 obtain ⟨S,hS⟩:∃S,S=hasB l x:=⟨_,rfl⟩
 rw [← hS]
 have HS:=Lib.hid hS
 clear hS
 go_enter Tryz.func299,Tryz.ntmps299
 go_wp2
 go_loop [8] (fun y=>∃k:Nat,k≤l.length∧y=.int .i64 k∧Hid (hasTo l x k=false)) (fun y=>l.length-(intOf y).toNat)
 case atStart=>exact ⟨0,by omega,rfl,rfl⟩
 case round =>
  obtain ⟨k,hk,rfl,HK⟩:=hrel
  by_cases hlt:k<l.length
  ·obtain ⟨ad,rfl,hab,c0⟩:=hR.at_ hlt
   cases hq:(x == gi l k) with
   | true =>
    have hv:S=true:=by rw [HS.out];exact (hasB_iff _ _).2 ⟨k,hlt,by have:=beq_iff_eq.1 hq;exact this.symm⟩
    have HV:=Lib.hid hv
    clear hv
    go_wp2
    go_ret
    exact ⟨k,rfl,(fun _=>by omega),(fun h=>by rw [HV.out] at h;cases h),rfl⟩
   | false =>
    have hq':(gi l k == x)=false:=by rw [beq_eq_false_iff_ne] at hq ⊢;exact fun h=>hq h.symm
    have hnx:hasTo l x (k+1)=false:=by simp only [hasTo,HK.out,hq'];rfl
    have HNX:=Lib.hid hnx
    clear hnx hq'
    go_wp2
    go_round
    case rel=>exact ⟨k+1,by omega,by go_num,HNX⟩
    case measure=>simp [intOf];omega
  ·have hv:S=false:=by rw [HS.out];unfold hasB;rw [show l.length=k by omega];exact HK.out
   have HV:=Lib.hid hv;clear hv
   go_wp2
   go_ret
   exact ⟨-1,rfl,(fun h=>by rw [HV.out] at h;cases h),(fun _=>by omega),rfl⟩
theorem contains_any (l:List Int)(x:Int)(hl:l.length≤1000000000)(A:Option Addr)(c:Nat)(w:World)(hR:RN w A l) :
  Calls Tryz.prog 265 #[.slice A l.length c,.int .i64 x] w fun e w'=>e=.returned (.bool (hasB l x))∧w=w':=by
 go_enter Tryz.func265,Tryz.ntmps265
 go_wp2_with fail
 refine (index_any l x hl A c _ hR).mono ?_
 rintro e w2 ⟨i,rfl,hi1,hi2,rfl⟩
 cases hf:hasB l x with
 | true =>
  have h0:=hi1 hf
  have HF:=Lib.hid hf
  clear hi1 hi2 hf
  go_wp2
  go_ret
  exact ⟨ret_bool (by rw [HF.out] <;> first | rfl | (simp;done) | (simp [h0];done) | (simp;omega)),rfl⟩
 | false =>
  have h0:=hi2 hf
  have HF:=Lib.hid hf
  clear hi1 hi2 hf
  go_wp2
  go_ret
  exact ⟨ret_bool (by rw [HF.out] <;> first | rfl | (simp;done) | (simp [h0];done) | (simp;omega)),rfl⟩
theorem weekday_any (t:Tm)(d:Int)(A1 A2:Option Addr)(c1 c2:Nat)(w:World)(h1:RN w A1 t.rest)(h2:RN w A2 t.clo)(hok:TmOk t)(hd:0≤d)(hd2:d≤1000) :
  Calls Tryz.prog 193 #[.agg #[.int .i64 t.len,.slice A1 t.rest.length c1,.slice A2 t.clo.length c2],.int .i64 d] w fun e w'=>e=.returned (.bool (wkB t d))∧Below w.heap.size w w':=by
 have hb0:Below w.heap.size w (w.alloc (.cells #[.int .i64 t.len,.slice A1 t.rest.length c1,.slice A2 t.clo.length c2] 24)):=(Below.refl _ _).alloc (Nat.le_refl _) _
 have hl:=isSet_len hok.rest (by omega)
 go_enter Tryz.func193,Tryz.ntmps193
 go_wp2_with fail
 refine (contains_any t.rest (d % 7) (by omega) A1 c1 _ (h1.below hb0)).mono ?_
 rintro e w2 ⟨rfl,rfl⟩
 go_wp2
 go_ret
 exact ⟨rfl,hb0⟩
theorem rweekDay_any (t:Tm)(d:Int)(A1 A2:Option Addr)(c1 c2:Nat)(w:World)(h1:RN w A1 t.rest)(h2:RN w A2 t.clo)(hok:TmOk t)(hd:0≤d)(hd2:d≤1000) :
  Calls Tryz.prog 266 #[.agg #[.int .i64 t.len,.slice A1 t.rest.length c1,.slice A2 t.clo.length c2],.int .i64 d] w fun e w'=>e=.returned (.bool (wkB t d))∧Below w.heap.size w w':=by
 have hb0:Below w.heap.size w (w.alloc (.cells #[.int .i64 t.len,.slice A1 t.rest.length c1,.slice A2 t.clo.length c2] 24)):=(Below.refl _ _).alloc (Nat.le_refl _) _
 have hl:=isSet_len hok.rest (by omega)
 go_enter Tryz.func266,Tryz.ntmps266
 go_wp2_with fail
 refine (has_any t.rest (d % 7) (by omega) A1 c1 _ (h1.below hb0)).mono ?_
 rintro e w2 ⟨rfl,hw⟩
 subst hw
 go_wp2
 go_ret
 exact ⟨rfl,hb0⟩
theorem ropen_any (t:Tm)(d:Int)(A1 A2:Option Addr)(c1 c2:Nat)(w:World)(h1:RN w A1 t.rest)(h2:RN w A2 t.clo)(hok:TmOk t)(hd:0≤d)(hd2:d≤1000) :
  Calls Tryz.prog 248 #[.agg #[.int .i64 t.len,.slice A1 t.rest.length c1,.slice A2 t.clo.length c2],.int .i64 d] w fun e w'=>e=.returned (.bool (opB t d))∧Below w.heap.size w w':=by
 have hx0:Below (w.heap.size+1) (w.alloc (.cells #[.int .i64 t.len,.slice A1 t.rest.length c1,.slice A2 t.clo.length c2] 24)) (w.alloc (.cells #[.int .i64 t.len,.slice A1 t.rest.length c1,.slice A2 t.clo.length c2] 24)):=Below.refl _ _
 obtain ⟨_,_,_,hb0⟩:=blk_facts hx0 (by omega)
 have hl:=hok.clo60
 obtain ⟨S,hS⟩:∃S,S=opB t d:=⟨_,rfl⟩
 rw [← hS]
 have HS:=Lib.hid hS
 clear hS
 go_enter Tryz.func248,Tryz.ntmps248
 go_wp2_with fail
 refine (rweekDay_any t d A1 A2 c1 c2 _ (h1.below hb0) (h2.below hb0) hok hd hd2).mono ?_
 rintro e w1 ⟨rfl,hb1⟩
 have hx1:=hx0.trans (hb1.mono (by simp))
 clear hb1
 obtain ⟨bx,_,_,hb1⟩:=blk_facts hx1 (by omega)
 cases hw:wkB t d with
 | false =>
  have hv:S=false:=by rw [HS.out,opB,hw];rfl
  have HV:=Lib.hid hv;clear hv
  go_wp2
  go_ret
  exact ⟨ret_bool (by rw [HV.out]),hb1⟩
 | true =>
  have hv:S = !hasB t.clo d:=by rw [HS.out,opB,hw];rfl
  have HV:=Lib.hid hv;clear hv
  go_wp2_with fail
  refine (has_any t.clo d (by omega) A2 c2 _ (h2.below hb1)).mono ?_
  rintro e w2 ⟨rfl,hw2⟩
  subst hw2
  go_wp2
  go_ret
  exact ⟨ret_bool (by rw [HV.out]),hb1⟩
theorem isNaN_any (n:Int)(w:World):Calls Tryz.prog 298 #[.int .i64 n] w fun e w'=>e=.returned (.bool false)∧w=w':=by
 have h:(n != n)=false:=by simp
 go_enter Tryz.func298,Tryz.ntmps298
 go_wp2
 go_ret
 exact ⟨rfl,rfl⟩
theorem sisNaN_any (n:Int)(w:World):Calls Tryz.prog 264 #[.int .i64 n] w fun e w'=>e=.returned (.bool false)∧w=w':=by
 have h:(n != n)=false:=by simp
 go_enter Tryz.func264,Tryz.ntmps264
 go_wp2
 go_ret
 exact ⟨rfl,rfl⟩
theorem less_any (a b:Int)(w:World):Calls Tryz.prog 263 #[.int .i64 a,.int .i64 b] w fun e w'=>e=.returned (.bool (decide (a<b)))∧w=w':=by
 go_enter Tryz.func263,Tryz.ntmps263
 go_wp2_with (go_at_call 298;refine (isNaN_any _ _).mono ?_;rintro e w' ⟨rfl,rfl⟩)
 go_ret
 exact ⟨rfl,rfl⟩
/-- How far the search has come. -/
def Srch (l:List Int)(x:Int)(i j:Nat):Prop:=(∀m,m<i→gi l m<x)∧(∀m,j≤m→m<l.length→x≤gi l m)
theorem search_any (l:List Int)(x b:Int)(hs:isSet l b=true)(hl:l.length≤1000000)(A:Option Addr)(c:Nat)(w:World)(hR:RN w A l) :
  Calls Tryz.prog 192 #[.slice A l.length c,.int .i64 x] w fun e w'=>∃n:Nat,CutI l x n∧e=.returned (.tuple #[.int .i64 n,.bool (hasB l x)])∧Below w.heap.size w w':=by
 have HSet:=Lib.hid hs
 obtain ⟨b',hb'⟩:∃b',b'=hasB l x:=⟨_,rfl⟩
 rw [← hb']
 have HB:=Lib.hid hb'
 clear hs hb'
 go_enter Tryz.func192,Tryz.ntmps192
 go_wp2
 go_loop [7,8] (fun y z=>∃i j:Nat,i≤j∧j≤l.length∧y=.int .i64 i∧z=.int .i64 j∧Srch l x i j) (fun y z=>(intOf z).toNat-(intOf y).toNat)
 case atStart=>exact ⟨0,l.length,by omega,by omega,rfl,rfl,by intro m hm;omega,by intro m h1 h2;omega⟩
 case round =>
  obtain ⟨i,j,hij,hj,rfl,rfl,hs⟩:=hrel
  by_cases hlt:i<j
  ·obtain ⟨ad,rfl,hab,c0⟩:=hR.at_ (k:=(i+j) / 2) (by omega)
   by_cases ht:gi l ((i+j) / 2)<x
   ·have hd:decide (gi l ((i+j) / 2)<x)=true:=decide_eq_true ht
    go_wp2_with (go_at_call 263;refine (less_any _ _ _).mono ?_;rintro e w' ⟨rfl,rfl⟩)
    go_round
    case rel=>exact ⟨(i+j) / 2+1,j,by omega,by omega,by go_num,rfl,fun m hm=>by
      rcases Nat.lt_or_eq_of_le (show m≤(i+j) / 2 by omega) with h | h
      ·exact Int.lt_trans (isSet_lt HSet.out m _ h (by omega)) ht
      ·subst h;exact ht,hs.2⟩
    case measure=>simp [intOf];omega
   ·have hd:decide (gi l ((i+j) / 2)<x)=false:=decide_eq_false ht
    go_wp2_with (go_at_call 263;refine (less_any _ _ _).mono ?_;rintro e w' ⟨rfl,rfl⟩)
    go_round
    case rel=>exact ⟨i,(i+j) / 2,by omega,by omega,rfl,by go_num,hs.1,fun m h1 h2=>by
      rcases Nat.lt_or_eq_of_le h1 with h | h
      ·have:=isSet_lt HSet.out _ m h h2;omega
      ·subst h;omega⟩
    case measure=>simp [intOf];omega
  ·have hcut:CutI l x i:=⟨by omega,hs.1,fun m h1 h2=>hs.2 m (by omega) h2⟩
   have hhas:=hcut.has HSet.out
   rw [← HB.out] at hhas
   have HH:=Lib.hid hhas
   clear hhas
   by_cases hi:i<l.length
   ·obtain ⟨ad,rfl,hab,c0⟩:=hR.at_ hi
    cases hq:(gi l i == x) with
    | true =>
     have hv:b'=true:=HH.out.2 ⟨hi,by simpa using hq⟩
     have HV:=Lib.hid hv;clear hv
     go_wp2_with (go_at_call 264;refine (sisNaN_any _ _).mono ?_;rintro e w' ⟨rfl,rfl⟩)
     go_ret2
     exact ⟨i,hcut,ret2 rfl (by rw [HV.out];rfl),Below.refl _ _⟩
    | false =>
     have hv:b'=false:=by
      cases hb:b' with
      | false=>rfl
      | true=>have:=(HH.out.1 hb).2;simp [this] at hq
     have HV:=Lib.hid hv;clear hv
     go_wp2_with (go_at_call 264;refine (sisNaN_any _ _).mono ?_;rintro e w' ⟨rfl,rfl⟩)
     go_ret2
     exact ⟨i,hcut,ret2 rfl (by rw [HV.out];rfl),Below.refl _ _⟩
   ·have hv:b'=false:=by
     cases hb:b' with
     | false=>rfl
     | true=>exact absurd (HH.out.1 hb).1 hi
    have HV:=Lib.hid hv;clear hv
    go_wp2
    go_ret2
    exact ⟨i,hcut,ret2 rfl (by rw [HV.out];rfl),Below.refl _ _⟩
theorem open_any (t:Tm)(d:Int)(A1 A2:Option Addr)(c1 c2:Nat)(w:World)(h1:RN w A1 t.rest)(h2:RN w A2 t.clo)(hok:TmOk t)(hd:0≤d)(hd2:d≤1000) :
  Calls Tryz.prog 126 #[.agg #[.int .i64 t.len,.slice A1 t.rest.length c1,.slice A2 t.clo.length c2],.int .i64 d] w fun e w'=>e=.returned (.bool (opB t d))∧Below w.heap.size w w':=by
 have hx0:Below (w.heap.size+1) (w.alloc (.cells #[.int .i64 t.len,.slice A1 t.rest.length c1,.slice A2 t.clo.length c2] 24)) (w.alloc (.cells #[.int .i64 t.len,.slice A1 t.rest.length c1,.slice A2 t.clo.length c2] 24)):=Below.refl _ _
 obtain ⟨_,_,_,hb0⟩:=blk_facts hx0 (by omega)
 have hl:=hok.clo60
 obtain ⟨S,hS⟩:∃S,S=opB t d:=⟨_,rfl⟩
 rw [← hS]
 have HS:=Lib.hid hS
 clear hS
 go_enter Tryz.func126,Tryz.ntmps126
 go_wp2_with fail
 refine (search_any t.clo d t.len hok.clo (by omega) A2 c2 _ (h2.below hb0)).mono ?_
 rintro e w1 ⟨n,-,rfl,hb1⟩
 have hx1:=hx0.trans (hb1.mono (by simp))
 clear hb1
 obtain ⟨bx,_,_,hb1⟩:=blk_facts hx1 (by omega)
 go_wp2_with fail
 refine (weekday_any t d A1 A2 c1 c2 _ (h1.below hb1) (h2.below hb1) hok hd hd2).mono ?_
 rintro e w2 ⟨rfl,hb2⟩
 have hb3:=hb1.trans (hb2.mono hb1.size)
 cases hw:wkB t d with
 | false =>
  have hv:S=false:=by rw [HS.out,opB,hw];rfl
  have HV:=Lib.hid hv;clear hv
  go_wp2
  go_ret
  exact ⟨ret_bool (by rw [HV.out]),hb3⟩
 | true =>
  have hv:S = !hasB t.clo d:=by rw [HS.out,opB,hw];rfl
  have HV:=Lib.hid hv;clear hv
  go_wp2
  go_ret
  exact ⟨ret_bool (by rw [HV.out]),hb3⟩
def mnR (t:Tm)(c:Cy)(k:Nat):List Int:=(List.range k).map (mnAt t c)
theorem mnR_length (t:Tm)(c:Cy)(k:Nat):(mnR t c k).length=k:=by simp [mnR]
theorem mnR_succ (t:Tm)(c:Cy)(k:Nat):mnR t c (k+1)=mnR t c k ++ [mnAt t c k]:=by simp [mnR,List.range_succ]
theorem mnR_full (t:Tm)(c:Cy):mnR t c t.len.toNat=mnL t c:=rfl
theorem next_modN {f n:Int}(s:Nat)(hn:1≤n):((f+(s:Nat)) % n+1) % n=(f+((s+1:Nat):Int)) % n:=by
 rw [next_mod hn];congr 1
theorem mnTo_open {t:Tm}{c:Cy}{n k:Nat}(h:k<n)(ho:opB t k=true)(u:Int)(hu:u=(c.f+cnt (stB t c) k) % c.n):((mnTo t c n k).set k (-1)).set k u=mnTo t c n (k+1):=by
 rw [set_twice,hu,← mnAt_open ho,mnTo_set t c n k h]
theorem mnTo_shut {t:Tm}{c:Cy}{n k:Nat}(h:k<n)(ho:opB t k=false):(mnTo t c n k).set k (-1)=mnTo t c n (k+1):=by
 rw [← mnAt_shut (c:=c) ho,mnTo_set t c n k h]
theorem OwnI.cast {w:World}{base g n:Nat}{xs ys:List Int}(h:OwnI w base g n xs)(e:xs=ys):OwnI w base g n ys:=e ▸ h
theorem OwnI.base {w:World}{base base' g n:Nat}{xs:List Int}(h:OwnI w base g n xs)(hb:base'≤base):OwnI w base' g n xs:=⟨h.1,own_base h.2 hb⟩
theorem made_own {t:Tm}{c:Cy}{w:World}{base g n:Nat}(h:w.ownsRow base 3 1 (.slice (some ⟨g,0,none⟩) n n) n (madeCells (Value.int .i64 0).cells (n*1)).toList):OwnI w base g n (mnTo t c n 0):=by
 rw [mnTo_zero];exact ⟨List.length_replicate,by rw [← madeInts];exact h⟩
theorem menus_any (t:Tm)(c:Cy)(A1 A2:Option Addr)(c1 c2:Nat)(w:World)(h1:RN w A1 t.rest)(h2:RN w A2 t.clo)(hok:TmOk t)(hcy:CyOk c) :
  Calls Tryz.prog 127 #[.agg #[.int .i64 t.len,.slice A1 t.rest.length c1,.slice A2 t.clo.length c2],.agg #[.int .i64 c.n,.int .i64 c.f,.int .i64 c.k]] w fun e w'=>∃g n,e=.returned (.slice (some ⟨g,0,none⟩) n n)∧OwnI w' w.heap.size g n (mnL t c)∧Below w.heap.size w w':=by
 obtain ⟨i0,hi,hz0,hz1,hz2⟩:=info_parts info_int
 obtain ⟨n,hn⟩:∃n:Nat,t.len=n:=⟨t.len.toNat,by have:=hok.len1;omega⟩
 have hn1:=hok.len1
 have hn2:=hok.len2
 have hnb:n≤1000:=by omega
 have hfn:t.len.toNat=n:=by omega
 have HFN:=Lib.hid hfn
 have HN:=Lib.hid hn
 clear hn hfn
 obtain ⟨m1,m2,f0,f1,-⟩:=id hcy
 have hx0:Below (w.heap.size+2) ((w.alloc (.cells #[.int .i64 t.len,.slice A1 t.rest.length c1,.slice A2 t.clo.length c2] 24)).alloc (.cells #[.int .i64 c.n,.int .i64 c.f,.int .i64 c.k] 26)) ((w.alloc (.cells #[.int .i64 t.len,.slice A1 t.rest.length c1,.slice A2 t.clo.length c2] 24)).alloc (.cells #[.int .i64 c.n,.int .i64 c.f,.int .i64 c.k] 26)):=Below.refl _ _
 obtain ⟨bx,bY,_,hb0⟩:=two_blk hx0 (by omega)
 clear bx bY
 go_enter Tryz.func127,Tryz.ntmps127
 go_wp2_with (at_make;refine wpList_make_full _ rfl _ _ 22 rfl (w.heap.size+2) 3 i0 _ 1 Tryz.underlying22 hi hz0 hz1 .i64 .i64 _ _ n rfl rfl HN.out HN.out (by rw [hz2];omega) (by unfold maxLen;omega) (by simp) ?_;intro w1 hown1 hg1;have hx1:Below (w.heap.size+2) ((w.alloc (.cells #[.int .i64 t.len,.slice A1 t.rest.length c1,.slice A2 t.clo.length c2] 24)).alloc (.cells #[.int .i64 c.n,.int .i64 c.f,.int .i64 c.k] 26)) w1:=hx0.grown hg1 (by simp) (by simp);have own1:OwnI w1 (w.heap.size+2) (w.heap.size+2) n (mnTo t c n 0):=(by simpa using made_own (t:=t) (c:=c) hown1);clear hown1 hg1 hx0;obtain ⟨bx,bY,_,hb1⟩:=two_blk hx1 (by omega))
 go_loopw [6,15] (fun a x wr=>∃k:Nat,k≤n∧x=.int .i64 k∧a=.int .i64 (c.f+cnt (stB t c) k)∧OwnI wr (w.heap.size+2) (w.heap.size+2) n (mnTo t c n k)∧Below (w.heap.size+2) ((w.alloc (.cells #[.int .i64 t.len,.slice A1 t.rest.length c1,.slice A2 t.clo.length c2] 24)).alloc (.cells #[.int .i64 c.n,.int .i64 c.f,.int .i64 c.k] 26)) wr) (fun _ x _=>n-(intOf x).toNat)
 case atStart=>exact ⟨0,by omega,rfl,by simp [cnt],own1,hx1⟩
 case round =>
  clear own1 hx1 bx bY hb1
  obtain ⟨k,hk,rfl,rfl,own,hx⟩:=hrel
  by_cases hlt:k<n
  ·have e1:=own.cell k hlt
   have e2:=own.frozen k
   have hcb:=cnt_le (stB t c) k
   obtain ⟨bx,bY,_,hb⟩:=two_blk hx (by omega)
   go_wp2_with fail
   have own2:=own.stored k (-1)
   have hx2:=hx.setCell (p:=⟨w.heap.size+2,k,none⟩) (Nat.le_refl _) (.int .i64 (-1))
   clear own e1 e2 bx bY hb hx
   obtain ⟨bx,bY,_,hb⟩:=two_blk hx2 (by omega)
   refine (open_any t k A1 A2 c1 c2 _ (h1.below hb) (h2.below hb) hok (by omega) (by omega)).mono ?_
   rintro e w3 ⟨rfl,hb3⟩
   have own3:=own2.kept hb3 own2.lt.2
   have hx3:=two_step hx2 hb3
   clear own2 hx2 hb3 bx bY hb
   obtain ⟨bx,bY,_,hb⟩:=two_blk hx3 (by omega)
   cases ho:opB t k with
   | true =>
    have hcy1:=cnt_yes (stB t c) k (by simp [stB,ho])
    have HC:=Lib.hid hcy1
    have e1:=own3.cell k hlt
    have e2:=own3.frozen k
    clear hcy1
    go_wp2_with fail
    have own4:=(own3.stored k ((c.f+cnt (stB t c) k) % c.n)).cast (mnTo_open hlt ho _ rfl)
    have hx4:=hx3.setCell (p:=⟨w.heap.size+2,k,none⟩) (Nat.le_refl _) (.int .i64 ((c.f+cnt (stB t c) k) % c.n))
    clear own3 e1 e2 bx bY hb hx3
    obtain ⟨bx,bY,_,hb⟩:=two_blk hx4 (by omega)
    refine (open_any t k A1 A2 c1 c2 _ (h1.below hb) (h2.below hb) hok (by omega) (by omega)).mono ?_
    rintro e w5 ⟨rfl,hb5⟩
    have own5:=own4.kept hb5 own4.lt.2
    have hx5:=two_step hx4 hb5
    clear own4 hx4 hb5 bx bY hb
    rw [ho]
    obtain ⟨bx,bY,_,hb⟩:=two_blk hx5 (by omega)
    go_wp2
    go_roundw
    case rel=>exact ⟨k+1,by omega,by go_num,by rw [HC.out];go_num,own5,hx5⟩
    case measure=>simp [intOf];omega
   | false =>
    have own4:=own3.cast (mnTo_shut hlt ho)
    clear own3
    go_wp2_with fail
    refine (open_any t k A1 A2 c1 c2 _ (h1.below hb) (h2.below hb) hok (by omega) (by omega)).mono ?_
    rintro e w5 ⟨rfl,hb5⟩
    have own5:=own4.kept hb5 own4.lt.2
    have hx5:=two_step hx3 hb5
    clear own4 hx3 hb5 bx bY hb
    rw [ho]
    obtain ⟨bx,bY,_,hb⟩:=two_blk hx5 (by omega)
    cases hk1:(c.k == 1) with
    | false =>
     have hcn:=cnt_no (stB t c) k (by simp only [stB,ho,hk1];rfl)
     have HC:=Lib.hid hcn
     clear hcn
     go_wp2
     go_roundw
     case rel=>exact ⟨k+1,by omega,by go_num,by rw [HC.out],own5,hx5⟩
     case measure=>simp [intOf];omega
    | true =>
     go_wp2_with fail
     refine (weekday_any t k A1 A2 c1 c2 _ (h1.below hb) (h2.below hb) hok (by omega) (by omega)).mono ?_
     rintro e w6 ⟨rfl,hb6⟩
     have own6:=own5.kept hb6 own5.lt.2
     have hx6:=two_step hx5 hb6
     clear own5 hx5 hb6 bx bY hb
     obtain ⟨bx,bY,_,hb⟩:=two_blk hx6 (by omega)
     cases hw:wkB t k with
     | false =>
      have hcn:=cnt_no (stB t c) k (by simp only [stB,ho,hw,hk1];rfl)
      have HC:=Lib.hid hcn
      clear hcn
      go_wp2
      go_roundw
      case rel=>exact ⟨k+1,by omega,by go_num,by rw [HC.out],own6,hx6⟩
      case measure=>simp [intOf];omega
     | true =>
      have hcn:=cnt_yes (stB t c) k (by simp only [stB,ho,hw,hk1];rfl)
      have HC:=Lib.hid hcn
      clear hcn
      go_wp2
      go_roundw
      case rel=>exact ⟨k+1,by omega,by go_num,by rw [HC.out];go_num,own6,hx6⟩
      case measure=>simp [intOf];omega
  ·obtain ⟨bx,bY,_,hb⟩:=two_blk hx (by omega)
   have hkn:n=k:=by omega
   have HKN:=Lib.hid hkn
   clear hkn
   go_wp2
   go_ret
   exact ⟨w.heap.size+2,n,rfl,(own.base (by omega)).cast (by rw [← HKN.out];exact mnTo_full t c n HFN.out.symm),hb⟩
theorem rmenus_any (t:Tm)(c:Cy)(A1 A2:Option Addr)(c1 c2:Nat)(w:World)(h1:RN w A1 t.rest)(h2:RN w A2 t.clo)(hok:TmOk t)(hcy:CyOk c) :
  Calls Tryz.prog 200 #[.agg #[.int .i64 t.len,.slice A1 t.rest.length c1,.slice A2 t.clo.length c2],.agg #[.int .i64 c.n,.int .i64 c.f,.int .i64 c.k]] w fun e w'=>∃A n c',e=.returned (.slice A n c')∧n=(mnL t c).length∧OwnN w' w.heap.size A c' (mnL t c)∧Below w.heap.size w w':=by
 obtain ⟨n,hn⟩:∃n:Nat,t.len=n:=⟨t.len.toNat,by have:=hok.len1;omega⟩
 have hn1:=hok.len1
 have hn2:=hok.len2
 have hnb:n≤1000:=by omega
 have hfn:t.len.toNat=n:=by omega
 have HFN:=Lib.hid hfn
 have HN:=Lib.hid hn
 have nb1:t.len≤n:=by omega
 have nb2:(n:Int)≤t.len:=by omega
 clear hn hfn
 obtain ⟨m1,m2,f0,f1,hkk⟩:=id hcy
 have hx0:Below (w.heap.size+2) ((w.alloc (.cells #[.int .i64 t.len,.slice A1 t.rest.length c1,.slice A2 t.clo.length c2] 24)).alloc (.cells #[.int .i64 c.n,.int .i64 c.f,.int .i64 c.k] 26)) ((w.alloc (.cells #[.int .i64 t.len,.slice A1 t.rest.length c1,.slice A2 t.clo.length c2] 24)).alloc (.cells #[.int .i64 c.n,.int .i64 c.f,.int .i64 c.k] 26)):=Below.refl _ _
 obtain ⟨bx,bY,_,hb0⟩:=two_blk hx0 (by omega)
 clear bx bY
 go_enter Tryz.func200,Tryz.ntmps200
 go_wp2
 go_loopw [5,6,7] (fun o a x wr=>∃k:Nat,k≤n∧x=.int .i64 k∧a=.int .i64 ((c.f+cnt (stB t c) k) % c.n)∧(∃A c',o=.slice A k c'∧OwnN wr (w.heap.size+2) A c' (mnR t c k))∧Below (w.heap.size+2) ((w.alloc (.cells #[.int .i64 t.len,.slice A1 t.rest.length c1,.slice A2 t.clo.length c2] 24)).alloc (.cells #[.int .i64 c.n,.int .i64 c.f,.int .i64 c.k] 26)) wr) (fun _ _ x _=>n-(intOf x).toNat)
 case atStart=>exact ⟨0,by omega,rfl,by simp [cnt];rw [Int.emod_eq_of_lt f0 f1],⟨none,0,rfl,World.ownsRow_nil _ _ _ _⟩,hx0⟩
 case round =>
  clear hx0
  obtain ⟨k,hk,rfl,rfl,⟨A,c',rfl,own⟩,hx⟩:=hrel
  have hlen:=mnR_length t c k
  by_cases hlt:k<n
  ·have hcb:=cnt_le (stB t c) k
   have hm1:=Int.emod_nonneg (c.f+cnt (stB t c) k) (show c.n≠0 by omega)
   have hm2:=Int.emod_lt_of_pos (c.f+cnt (stB t c) k) (show 0<c.n by omega)
   have hsn:=mnR_succ t c k
   have hst:=stB_ref t c hcy k
   have hnm:=next_modN (f:=c.f) (cnt (stB t c) k) m1
   have HSN:=Lib.hid hsn
   have HST:=Lib.hid hst
   have HNM:=Lib.hid hnm
   have HLEN:=Lib.hid hlen
   clear hsn hst hnm hlen
   obtain ⟨bx,bY,_,hb⟩:=two_blk hx (by omega)
   go_wp2_with fail
   refine (ropen_any t k A1 A2 c1 c2 _ (h1.below hb) (h2.below hb) hok (by omega) (by omega)).mono ?_
   rintro e w3 ⟨rfl,hb3⟩
   have own3:=own.kept hb3
   have hx3:=two_step hx hb3
   clear own hx hb3 bx bY hb
   unfold OwnN at own3
   rw [HLEN.out] at own3
   obtain ⟨bx,bY,_,hb⟩:=two_blk hx3 (by omega)
   have hsz:=hx3.size
   simp at hsz
   cases ho:opB t k with
   | true =>
    have hma:=mnAt_open (c:=c) ho
    have HMA:=Lib.hid hma
    clear hma
    rcases hkk with hk0 | hk1
    ·have k0:(c.k == 0)=true:=by simp [hk0]
     have k1:(c.k == 1)=false:=by simp [hk0]
     have HS2:=Lib.hid (HST.out.trans (by rw [k0,k1];simp:_=opB t k))
     clear hk0
     go_wp2_with (at_builtin;refine wpList_app1 rfl _ _ rfl Tryz.underlying22 info_int rfl (by omega) rfl own3 rfl rfl (by simp [Value.oneCell']) (by omega) (by omega) (by omega) ?_;intro A' c'' w4 own4 hb4;have hx4:=hx3.trans (hb4 _ (Nat.le_refl _));clear bx bY hb hb4 own3 hx3;obtain ⟨bx,bY,_,hb⟩:=two_blk hx4 (by omega);have own5:OwnN w4 (w.heap.size+2) A' c'' (mnR t c (k+1)):=OwnN.snoc own4 HLEN.out.symm (by rw [HSN.out,HMA.out]);clear own4)
     refine (ropen_any t k A1 A2 c1 c2 _ (h1.below hb) (h2.below hb) hok (by omega) (by omega)).mono ?_
     rintro e w6 ⟨rfl,hb6⟩
     have own6:=own5.kept hb6
     have hx6:=two_step hx4 hb6
     clear own5 hx4 hb6 bx bY hb
     rw [ho]
     obtain ⟨bx,bY,_,hb⟩:=two_blk hx6 (by omega)
     have hcn:=cnt_yes (stB t c) k (by rw [HS2.out,ho])
     have HC:=Lib.hid hcn
     clear hcn
     go_wp2
     go_roundw
     case rel=>exact ⟨k+1,by omega,by go_num,by rw [HC.out,HNM.out],⟨A',c'',by go_num,own6⟩,hx6⟩
     case measure=>simp [intOf];omega
    ·have k0:(c.k == 0)=false:=by simp [hk1]
     have k1:(c.k == 1)=true:=by simp [hk1]
     have HS2:=Lib.hid (HST.out.trans (by rw [k0,k1];simp:_=wkB t k))
     clear hk1
     go_wp2_with (at_builtin;refine wpList_app1 rfl _ _ rfl Tryz.underlying22 info_int rfl (by omega) rfl own3 rfl rfl (by simp [Value.oneCell']) (by omega) (by omega) (by omega) ?_;intro A' c'' w4 own4 hb4;have hx4:=hx3.trans (hb4 _ (Nat.le_refl _));clear bx bY hb hb4 own3 hx3;obtain ⟨bx,bY,_,hb⟩:=two_blk hx4 (by omega);have own5:OwnN w4 (w.heap.size+2) A' c'' (mnR t c (k+1)):=OwnN.snoc own4 HLEN.out.symm (by rw [HSN.out,HMA.out]);clear own4)
     refine (rweekDay_any t k A1 A2 c1 c2 _ (h1.below hb) (h2.below hb) hok (by omega) (by omega)).mono ?_
     rintro e w6 ⟨rfl,hb6⟩
     have own6:=own5.kept hb6
     have hx6:=two_step hx4 hb6
     clear own5 hx4 hb6 bx bY hb
     obtain ⟨bx,bY,_,hb⟩:=two_blk hx6 (by omega)
     cases hw:wkB t k with
     | true =>
      have hcn:=cnt_yes (stB t c) k (by rw [HS2.out,hw])
      have HC:=Lib.hid hcn
      clear hcn
      go_wp2
      go_roundw
      case rel=>exact ⟨k+1,by omega,by go_num,by rw [HC.out,HNM.out],⟨A',c'',by go_num,own6⟩,hx6⟩
      case measure=>simp [intOf];omega
     | false =>
      have hcn:=cnt_no (stB t c) k (by rw [HS2.out,hw])
      have HC:=Lib.hid hcn
      clear hcn
      go_wp2
      go_roundw
      case rel=>exact ⟨k+1,by omega,by go_num,by rw [HC.out],⟨A',c'',by go_num,own6⟩,hx6⟩
      case measure=>simp [intOf];omega
   | false =>
    have hma:=mnAt_shut (c:=c) ho
    have HMA:=Lib.hid hma
    clear hma
    rcases hkk with hk0 | hk1
    ·have k0:(c.k == 0)=true:=by simp [hk0]
     have k1:(c.k == 1)=false:=by simp [hk0]
     have HS2:=Lib.hid (HST.out.trans (by rw [k0,k1];simp:_=opB t k))
     clear hk0
     go_wp2_with (at_builtin;refine wpList_app1 rfl _ _ rfl Tryz.underlying22 info_int rfl (by omega) rfl own3 rfl rfl (by simp [Value.oneCell']) (by omega) (by omega) (by omega) ?_;intro A' c'' w4 own4 hb4;have hx4:=hx3.trans (hb4 _ (Nat.le_refl _));clear bx bY hb hb4 own3 hx3;obtain ⟨bx,bY,_,hb⟩:=two_blk hx4 (by omega);have own5:OwnN w4 (w.heap.size+2) A' c'' (mnR t c (k+1)):=OwnN.snoc own4 HLEN.out.symm (by rw [HSN.out,HMA.out]);clear own4)
     refine (ropen_any t k A1 A2 c1 c2 _ (h1.below hb) (h2.below hb) hok (by omega) (by omega)).mono ?_
     rintro e w6 ⟨rfl,hb6⟩
     have own6:=own5.kept hb6
     have hx6:=two_step hx4 hb6
     clear own5 hx4 hb6 bx bY hb
     rw [ho]
     obtain ⟨bx,bY,_,hb⟩:=two_blk hx6 (by omega)
     have hcn:=cnt_no (stB t c) k (by rw [HS2.out,ho])
     have HC:=Lib.hid hcn
     clear hcn
     go_wp2
     go_roundw
     case rel=>exact ⟨k+1,by omega,by go_num,by rw [HC.out],⟨A',c'',by go_num,own6⟩,hx6⟩
     case measure=>simp [intOf];omega
    ·have k0:(c.k == 0)=false:=by simp [hk1]
     have k1:(c.k == 1)=true:=by simp [hk1]
     have HS2:=Lib.hid (HST.out.trans (by rw [k0,k1];simp:_=wkB t k))
     clear hk1
     go_wp2_with (at_builtin;refine wpList_app1 rfl _ _ rfl Tryz.underlying22 info_int rfl (by omega) rfl own3 rfl rfl (by simp [Value.oneCell']) (by omega) (by omega) (by omega) ?_;intro A' c'' w4 own4 hb4;have hx4:=hx3.trans (hb4 _ (Nat.le_refl _));clear bx bY hb hb4 own3 hx3;obtain ⟨bx,bY,_,hb⟩:=two_blk hx4 (by omega);have own5:OwnN w4 (w.heap.size+2) A' c'' (mnR t c (k+1)):=OwnN.snoc own4 HLEN.out.symm (by rw [HSN.out,HMA.out]);clear own4)
     refine (rweekDay_any t k A1 A2 c1 c2 _ (h1.below hb) (h2.below hb) hok (by omega) (by omega)).mono ?_
     rintro e w6 ⟨rfl,hb6⟩
     have own6:=own5.kept hb6
     have hx6:=two_step hx4 hb6
     clear own5 hx4 hb6 bx bY hb
     obtain ⟨bx,bY,_,hb⟩:=two_blk hx6 (by omega)
     cases hw:wkB t k with
     | true =>
      have hcn:=cnt_yes (stB t c) k (by rw [HS2.out,hw])
      have HC:=Lib.hid hcn
      clear hcn
      go_wp2
      go_roundw
      case rel=>exact ⟨k+1,by omega,by go_num,by rw [HC.out,HNM.out],⟨A',c'',by go_num,own6⟩,hx6⟩
      case measure=>simp [intOf];omega
     | false =>
      have hcn:=cnt_no (stB t c) k (by rw [HS2.out,hw])
      have HC:=Lib.hid hcn
      clear hcn
      go_wp2
      go_roundw
      case rel=>exact ⟨k+1,by omega,by go_num,by rw [HC.out],⟨A',c'',by go_num,own6⟩,hx6⟩
      case measure=>simp [intOf];omega
  ·have hkn:n=k:=by omega
   have HKN:=Lib.hid hkn
   have HLEN:=Lib.hid hlen
   obtain ⟨bx,bY,_,hb⟩:=two_blk hx (by omega)
   clear hkn hlen
   go_wp2
   go_ret
   exact ⟨A,k,c',rfl,by rw [mnL_length,HFN.out,HKN.out],by rw [← mnR_full,HFN.out,HKN.out];exact own_base own (by omega),hb⟩
theorem both_any (c:Cy)(t:Tm)(A1 A2:Option Addr)(c1 c2:Nat)(w:World)(h1:RN w A1 t.rest)(h2:RN w A2 t.clo)(hl1:t.rest.length≤1000000000)(hl2:t.clo.length≤1000000000) :
  Calls Tryz.prog 124 #[.agg #[.int .i64 t.len,.slice A1 t.rest.length c1,.slice A2 t.clo.length c2],.agg #[.int .i64 c.n,.int .i64 c.f,.int .i64 c.k]] w fun e w'=>e=.returned (.int .i64 (bE t c))∧Below w.heap.size w w':=by
 obtain ⟨E,hE⟩:∃E,E=bE t c:=⟨_,rfl⟩
 rw [← hE]
 have HE:=Lib.hid hE
 clear hE
 have hx0:Below (w.heap.size+2) ((w.alloc (.cells #[.int .i64 t.len,.slice A1 t.rest.length c1,.slice A2 t.clo.length c2] 24)).alloc (.cells #[.int .i64 c.n,.int .i64 c.f,.int .i64 c.k] 26)) ((w.alloc (.cells #[.int .i64 t.len,.slice A1 t.rest.length c1,.slice A2 t.clo.length c2] 24)).alloc (.cells #[.int .i64 c.n,.int .i64 c.f,.int .i64 c.k] 26)):=Below.refl _ _
 obtain ⟨bx,bY,_,hb0⟩:=two_blk hx0 (by omega)
 clear bx bY
 go_enter Tryz.func124,Tryz.ntmps124
 go_wp2_with fail
 refine (tvalidate_any t A1 A2 c1 c2 _ (h1.below hb0) (h2.below hb0) hl1 hl2).mono ?_
 rintro e w1 ⟨rfl,hb1⟩
 have hx1:=hx0.trans (hb1.mono (by simp))
 obtain ⟨bx,bY,_,hb⟩:=two_blk hx1 (by omega)
 by_cases h0:tE t=0
 ·have h0':(tE t != 0)=false:=by simp [h0]
  have hEv:E=cE c:=by rw [HE.out,bE,if_neg (by simp [h0])]
  have HEV:=Lib.hid hEv
  clear h0 hEv
  go_wp2_with fail
  refine (cvalidate_any c _).mono ?_
  rintro e w2 ⟨rfl,hb2⟩
  go_wp2
  go_ret
  exact ⟨ret_int (by rw [HEV.out]),hb.trans (hb2.mono hb.size)⟩
 ·have h0':(tE t != 0)=true:=by simp [h0]
  have hEv:E=tE t:=by rw [HE.out,bE,if_pos h0]
  have HEV:=Lib.hid hEv
  clear h0 hEv
  go_wp2
  go_ret
  exact ⟨ret_int (by rw [HEV.out]),hb⟩
theorem rboth_any (c:Cy)(t:Tm)(A1 A2:Option Addr)(c1 c2:Nat)(w:World)(h1:RN w A1 t.rest)(h2:RN w A2 t.clo)(hl1:t.rest.length≤1000000000)(hl2:t.clo.length≤1000000000) :
  Calls Tryz.prog 199 #[.agg #[.int .i64 t.len,.slice A1 t.rest.length c1,.slice A2 t.clo.length c2],.agg #[.int .i64 c.n,.int .i64 c.f,.int .i64 c.k]] w fun e w'=>e=.returned (.int .i64 (bE t c))∧Below w.heap.size w w':=by
 obtain ⟨E,hE⟩:∃E,E=bE t c:=⟨_,rfl⟩
 rw [← hE]
 have HE:=Lib.hid hE
 clear hE
 have hx0:Below (w.heap.size+2) ((w.alloc (.cells #[.int .i64 t.len,.slice A1 t.rest.length c1,.slice A2 t.clo.length c2] 24)).alloc (.cells #[.int .i64 c.n,.int .i64 c.f,.int .i64 c.k] 26)) ((w.alloc (.cells #[.int .i64 t.len,.slice A1 t.rest.length c1,.slice A2 t.clo.length c2] 24)).alloc (.cells #[.int .i64 c.n,.int .i64 c.f,.int .i64 c.k] 26)):=Below.refl _ _
 obtain ⟨bx,bY,_,hb0⟩:=two_blk hx0 (by omega)
 clear bx bY
 go_enter Tryz.func199,Tryz.ntmps199
 go_wp2_with fail
 refine (rtvalidate_any t A1 A2 c1 c2 _ (h1.below hb0) (h2.below hb0) hl1 hl2).mono ?_
 rintro e w1 ⟨rfl,hb1⟩
 have hx1:=hx0.trans (hb1.mono (by simp))
 obtain ⟨bx,bY,_,hb⟩:=two_blk hx1 (by omega)
 by_cases h0:tE t=0
 ·have h0':(tE t != 0)=false:=by simp [h0]
  have hEv:E=cE c:=by rw [HE.out,bE,if_neg (by simp [h0])]
  have HEV:=Lib.hid hEv
  clear h0 hEv
  go_wp2_with fail
  refine (rcvalidate_any c _).mono ?_
  rintro e w2 ⟨rfl,hb2⟩
  go_wp2
  go_ret
  exact ⟨ret_int (by rw [HEV.out]),hb.trans (hb2.mono hb.size)⟩
 ·have h0':(tE t != 0)=true:=by simp [h0]
  have hEv:E=tE t:=by rw [HE.out,bE,if_pos h0]
  have HEV:=Lib.hid hEv
  clear h0 hEv
  go_wp2
  go_ret
  exact ⟨ret_int (by rw [HEV.out]),hb⟩
theorem asked_any (d:Int)(t:Tm)(A1 A2:Option Addr)(c1 c2:Nat)(w:World)(h1:RN w A1 t.rest)(h2:RN w A2 t.clo)(hl1:t.rest.length≤1000000000)(hl2:t.clo.length≤1000000000) :
  Calls Tryz.prog 125 #[.agg #[.int .i64 t.len,.slice A1 t.rest.length c1,.slice A2 t.clo.length c2],.int .i64 d] w fun e w'=>e=.returned (.int .i64 (qE t d))∧Below w.heap.size w w':=by
 obtain ⟨E,hE⟩:∃E,E=qE t d:=⟨_,rfl⟩
 rw [← hE]
 have HE:=Lib.hid hE
 clear hE
 have hx0:Below (w.heap.size+1) (w.alloc (.cells #[.int .i64 t.len,.slice A1 t.rest.length c1,.slice A2 t.clo.length c2] 24)) (w.alloc (.cells #[.int .i64 t.len,.slice A1 t.rest.length c1,.slice A2 t.clo.length c2] 24)):=Below.refl _ _
 obtain ⟨_,_,_,hb0⟩:=blk_facts hx0 (by omega)
 go_enter Tryz.func125,Tryz.ntmps125
 go_wp2_with fail
 refine (tvalidate_any t A1 A2 c1 c2 _ (h1.below hb0) (h2.below hb0) hl1 hl2).mono ?_
 rintro e w1 ⟨rfl,hb1⟩
 have hx1:=hx0.trans (hb1.mono (by simp))
 obtain ⟨bx,_,_,hb⟩:=blk_facts hx1 (by omega)
 by_cases h0:tE t=0
 ·have h0':(tE t != 0)=false:=by simp [h0]
  have hEm:E=if inB d 0 (t.len-1) then 0 else 1:=by rw [HE.out,qE,if_neg (by simp [h0])]
  have HEM:=Lib.hid hEm
  clear h0 hEm
  by_cases d0:d<0
  ·have hEv:E=1:=by rw [HEM.out,inB_false.2 (by omega)];rfl
   have HEV:=Lib.hid hEv
   clear hEv
   go_wp2
   go_ret
   exact ⟨ret_int (by rw [HEV.out]),hb⟩
  ·by_cases d1:t.len≤d
   ·have hEv:E=1:=by rw [HEM.out,inB_false.2 (by omega)];rfl
    have HEV:=Lib.hid hEv
    clear hEv
    go_wp2
    go_ret
    exact ⟨ret_int (by rw [HEV.out]),hb⟩
   ·have hEv:E=0:=by rw [HEM.out,inB_true.2 (show 0≤d∧d≤t.len-1 by omega)];rfl
    have HEV:=Lib.hid hEv
    clear hEv
    go_wp2
    go_ret
    exact ⟨ret_int (by rw [HEV.out]),hb⟩
 ·have h0':(tE t != 0)=true:=by simp [h0]
  have hEv:E=tE t:=by rw [HE.out,qE,if_pos h0]
  have HEV:=Lib.hid hEv
  clear h0 hEv
  go_wp2
  go_ret
  exact ⟨ret_int (by rw [HEV.out]),hb⟩
theorem menuE_both {t:Tm}{c:Cy}(d:Int)(h:¬ bE t c=0):menuE t c d=bE t c:=by unfold menuE;rw [if_pos h]
theorem menuE_arg {t:Tm}{c:Cy}{d:Int}(h:bE t c=0)(hi:inB d 0 (t.len-1)=false):menuE t c d=1:=by unfold menuE;rw [if_neg (by simp [h]),hi];rfl
theorem menuE_shut {t:Tm}{c:Cy}{d:Int}(h:bE t c=0)(hi:inB d 0 (t.len-1)=true)(ho:opB t d=false):menuE t c d=13:=by unfold menuE;rw [if_neg (by simp [h]),hi,ho];rfl
theorem menuE_open {t:Tm}{c:Cy}{d:Int}(h:bE t c=0)(hi:inB d 0 (t.len-1)=true)(ho:opB t d=true):menuE t c d=0:=by unfold menuE;rw [if_neg (by simp [h]),hi,ho];rfl
theorem qE_in {t:Tm}{d:Int}(h:TmOk t):qE t d=if inB d 0 (t.len-1) then 0 else 1:=by unfold qE;rw [if_neg (by simp [h.to])]
theorem menuR_no {t:Tm}{c:Cy}{d:Int}(h:¬ menuE t c d=0):menuR t c d=0:=by unfold menuR;rw [if_neg h]
theorem menuR_yes {t:Tm}{c:Cy}{d:Int}(h:menuE t c d=0):menuR t c d=mnAt t c d.toNat:=by unfold menuR;rw [if_pos h]
theorem menu_any (c:Cy)(d:Int)(t:Tm)(A1 A2:Option Addr)(c1 c2:Nat)(w:World)(h1:RN w A1 t.rest)(h2:RN w A2 t.clo)(hl1:t.rest.length≤1000000000)(hl2:t.clo.length≤1000000000) :
  Calls Tryz.prog 50 #[.agg #[.int .i64 t.len,.slice A1 t.rest.length c1,.slice A2 t.clo.length c2],.agg #[.int .i64 c.n,.int .i64 c.f,.int .i64 c.k],.int .i64 d] w fun e w'=>e=.returned (.tuple #[.int .i64 (menuR t c d),.int .i64 (menuE t c d)])∧Below w.heap.size w w':=by
 obtain ⟨E,hE⟩:∃E,E=menuE t c d:=⟨_,rfl⟩
 obtain ⟨R,hR⟩:∃R,R=menuR t c d:=⟨_,rfl⟩
 rw [← hE,← hR]
 have HE:=Lib.hid hE
 have HR:=Lib.hid hR
 clear hE hR
 have hx0:Below (w.heap.size+2) ((w.alloc (.cells #[.int .i64 t.len,.slice A1 t.rest.length c1,.slice A2 t.clo.length c2] 24)).alloc (.cells #[.int .i64 c.n,.int .i64 c.f,.int .i64 c.k] 26)) ((w.alloc (.cells #[.int .i64 t.len,.slice A1 t.rest.length c1,.slice A2 t.clo.length c2] 24)).alloc (.cells #[.int .i64 c.n,.int .i64 c.f,.int .i64 c.k] 26)):=Below.refl _ _
 obtain ⟨bx,bY,_,hb0⟩:=two_blk hx0 (by omega)
 clear bx bY
 go_enter Tryz.func50,Tryz.ntmps50
 go_wp2_with fail
 refine (both_any c t A1 A2 c1 c2 _ (h1.below hb0) (h2.below hb0) hl1 hl2).mono ?_
 rintro e w1 ⟨rfl,hb1⟩
 have hx1:=hx0.trans (hb1.mono (by simp))
 clear hx0 hb0 hb1
 obtain ⟨bx,bY,_,hb⟩:=two_blk hx1 (by omega)
 by_cases h0:bE t c=0
 ·have h0':(bE t c != 0)=false:=by simp [h0]
  obtain ⟨hok,hcy⟩:=bE_ok h0
  have l1:=hok.len1
  have l2:=hok.len2
  have H0:=Lib.hid h0
  have QE:=Lib.hid (qE_in (d:=d) hok)
  clear h0
  cases hi:inB d 0 (t.len-1) with
  | false =>
   have hEv:E=1:=HE.out.trans (menuE_arg H0.out hi)
   have hRv:R=0:=HR.out.trans (menuR_no (by rw [← HE.out,hEv];decide))
   have HEV:=Lib.hid hEv
   have HRV:=Lib.hid hRv
   clear hEv hRv
   go_wp2_with fail
   refine (asked_any d t A1 A2 c1 c2 _ (h1.below hb) (h2.below hb) hl1 hl2).mono ?_
   rintro e w2 ⟨rfl,hb2⟩
   have hx2:=two_step hx1 hb2
   clear hx1 hb2 bx bY hb
   obtain ⟨bx,bY,_,hb⟩:=two_blk hx2 (by omega)
   rw [QE.out,hi]
   go_wp2
   go_ret2
   exact ⟨ret2 (by rw [HRV.out];rfl) (by rw [HEV.out];rfl),hb⟩
  | true =>
   have hib:=inB_true.1 hi
   obtain ⟨k,rfl⟩:=Int.eq_ofNat_of_zero_le hib.1
   go_wp2_with fail
   refine (asked_any _ t A1 A2 c1 c2 _ (h1.below hb) (h2.below hb) hl1 hl2).mono ?_
   rintro e w2 ⟨rfl,hb2⟩
   have hx2:=two_step hx1 hb2
   clear hx1 hb2 bx bY hb
   obtain ⟨bx,bY,_,hb⟩:=two_blk hx2 (by omega)
   rw [QE.out,hi]
   go_wp2_with fail
   refine (open_any t k A1 A2 c1 c2 _ (h1.below hb) (h2.below hb) hok (by omega) (by omega)).mono ?_
   rintro e w3 ⟨rfl,hb3⟩
   have hx3:=two_step hx2 hb3
   clear hx2 hb3 bx bY hb
   obtain ⟨bx,bY,_,hb⟩:=two_blk hx3 (by omega)
   cases ho:opB t k with
   | false =>
    have hEv:E=13:=HE.out.trans (menuE_shut H0.out hi ho)
    have hRv:R=0:=HR.out.trans (menuR_no (by rw [← HE.out,hEv];decide))
    have HEV:=Lib.hid hEv
    have HRV:=Lib.hid hRv
    clear hEv hRv
    go_wp2
    go_ret2
    exact ⟨ret2 (by rw [HRV.out];rfl) (by rw [HEV.out];rfl),hb⟩
   | true =>
    have hEv:E=0:=HE.out.trans (menuE_open H0.out hi ho)
    have hRv:R=mnAt t c k:=HR.out.trans (menuR_yes (by rw [← HE.out,hEv]))
    have HEV:=Lib.hid hEv
    have HRV:=Lib.hid hRv
    clear hEv hRv
    go_wp2_with fail
    refine (menus_any t c A1 A2 c1 c2 _ (h1.below hb) (h2.below hb) hok hcy).mono ?_
    rintro e w4 ⟨g,n,rfl,own4,hb4⟩
    have hml:=mnL_length t c
    have hn:=own4.1
    have hkn:k<n:=by omega
    have d0:=own4.cell k hkn
    rw [mnL_at t c k (by omega)] at d0
    clear hn hml
    go_wp2
    go_ret2
    exact ⟨ret2 (by rw [HRV.out];rfl) (by rw [HEV.out];rfl),hb.trans (hb4.mono hb.size)⟩
 ·have h0':(bE t c != 0)=true:=by simp [h0]
  have hEv:E=bE t c:=HE.out.trans (menuE_both d h0)
  have hRv:R=0:=HR.out.trans (menuR_no (by rw [← HE.out,hEv];exact h0))
  have HEV:=Lib.hid hEv
  have HRV:=Lib.hid hRv
  clear hEv hRv h0
  go_wp2
  go_ret2
  exact ⟨ret2 (by rw [HRV.out];rfl) (by rw [HEV.out];rfl),hb⟩
end Go.Proofs.YtiapkffihpgdcaaGreatDoor
namespace Go.Proofs.YtiapkffihpgdcaaGreatDoor
structure Ln where
 r:Int
 m:Int
def gl (l:List Ln)(k:Nat):Ln:=l.getD k ⟨0,0⟩
end Go.Proofs.YtiapkffihpgdcaaGreatDoor
namespace Go.Proofs.YtiapkffihpgdcaaGreatDoor
open Go.ChangeShapes Go.WideShapes Go.ChangeAt Go.RowKit Go.Deep Go.Joins
theorem own_:ownKnob Tryz.prog.godebug=none:=by kernel_rfl
theorem laid_:laidOutB Tryz.prog=true:=by kernel_rfl
section
variable {H:Type}{enc:TypeId × Value→H}{P:Program}{w:World}{base:Nat}{spare:Nat→Bool}{held:Bool}
theorem open_slice_fields {t e:TypeId}{fs:Array Field}{fuel:Nat}{cs:List Value}{x:DataW H × List MemPlace}(ht:P.underlying t=some (.slice e))(he:P.underlying e=some (.struct fs))
  (hone:oneCellFields P fs=true) (hC:P.cellsOf e=fs.size) (h:DataW.trod enc P w base spare held fuel t cs=some x) :
  (cs=[.slice none 0 0]∧x=(.nil,[])) ∨
  ∃(a:Addr) (len cap m:Nat) (D:Nat→DataW H) (Pl:Nat→List MemPlace),cs=[.slice (some a) len cap]∧base≤a.block∧len≤cap∧cap≤maxLen∧m=(if spare a.block then cap else len) ∧
   x=(.slice ((List.range len).map D) ((List.range (m-len)).map fun j=>D (len+j)),MemPlace.row a (m*fs.size) ++ (List.range m).flatMap Pl) ∧
   ∀i,i<m→∃(ys:List (DataW H × List MemPlace)) (n:Nat),D i=.agg (ys.map (·.1))∧Pl i=ys.flatMap (·.2)∧ys.length=fs.size ∧
    ∀(j:Nat) (f:Field),fs[j]? = some f→∃(v:Value) (y:DataW H × List MemPlace),w.cell? (a.add (i*fs.size+j))=some v∧ys[j]? = some y∧DataW.trod enc P w base spare held n f.type [v]=some y:=by
 rcases open_slice ht h with h0 | ⟨a,len,cap,m,n,D,Pl,hcs,hb,hl,hm,hmm,hx,hi⟩
 ·exact .inl h0
 ·refine .inr ⟨a,len,cap,m,D,Pl,hcs,hb,hl,hm,hmm,by rw [hC] at hx;exact hx,fun i him=>?_⟩
  obtain ⟨cs',hc,ht'⟩:=hi i him
  rw [hC] at hc
  obtain ⟨ys,n',hn',hy,hlen,hyl,hf⟩:=DataW.trod_struct he ht'
  obtain ⟨_,hcl,hat⟩:=World.cells?_some hc
  simp only [Prod.mk.injEq] at hy
  refine ⟨ys,n',hy.1,hy.2,hyl,fun j f hj=>?_⟩
  obtain ⟨ho,hk⟩:=hone_of hone j f hj
  have hjl:j<fs.size:=(Array.getElem?_eq_some_iff.1 hj).1
  have hcell:=hat j hjl
  have hv:cs'[j]? = some (cs'[j]'(by omega)):=List.getElem?_eq_getElem (by omega)
  have h1:=hf j f hj
  rw [ho,hk] at h1
  have hone':(cs'.drop j).take 1=[cs'[j]'(by omega)]:=by
   rw [List.drop_eq_getElem_cons (by omega)]
   rfl
  rw [hone'] at h1
  have hys:ys[j]? = some (ys[j]'(by omega)):=List.getElem?_eq_getElem (by omega)
  refine ⟨_,_,?_,hys,h1.trans hys⟩
  rw [← Go.Deep.add_add,hcell,hv]
end
section
variable {H:Type}{enc:TypeId × Value→H}
theorem trodAll_below {W W':World}(hb:Below W.heap.size W W'):∀(ts:List TypeId) (vs:List Value) (ds:List (DataW H)) (ps:List MemPlace),(∀t ∈ ts,Tryz.prog.readableRec t=true∧t<Tryz.prog.types.size) →
  DataW.TrodAll enc Tryz.prog W 0 (fun _=>true) true ts vs ds ps→(∀x ∈ ps,x.block<W.heap.size)→DataW.TrodAll enc Tryz.prog W' 0 (fun b=>decide (b<W.heap.size)) true ts vs ds ps
 | [],[],[],_,_,h,_=>h
 | t :: ts,v :: vs,d :: ds,ps,hr,⟨p,q,h1,h2,e⟩,hlt=>by
  subst e
  exact ⟨p,q,Below.trod laid_ (hr t (by simp)).1 (hr t (by simp)).2 h1 hb (fun x hx=>hlt x (by simp [hx])),trodAll_below hb ts vs ds q (fun t ht=>hr t (by simp [ht])) h2 (fun x hx=>hlt x (by simp [hx])),rfl⟩
theorem law_post {f : Func} {s : ChangeSpec} {W W' : World} {args : Array Value} {ds gs : List (DataW H)} {before : List MemPlace} (hW : DataW.Whole enc Tryz.prog f.params.toList s.vars false W args.toList ds gs before)
    (hv : s.vars = []) (hr : f.resultTypes = #[4]) (hfn : s.fn H (ds ++ []) = { results := [.lit (.bool true)], args := ds }) (hp : ∀ t ∈ f.params.toList, Tryz.prog.readableRec t = true ∧ t < Tryz.prog.types.size)
    (hb : Below W.heap.size W W') : s.post enc Tryz.prog f false true false false W args (.bool true) W' := by
  have hlt := fun p hp => hW.lt p hp
  have hW' := hW
  obtain ⟨p, q, hA, hVr, rfl, hfz, hnd⟩ := hW
  rw [hv] at hVr
  obtain ⟨rfl, rfl⟩ := trodVars_none hVr
  refine ⟨ds, [], _, [], p, [], hW', ?_, ?_, ?_, hb.frame _, fun h => by cases h⟩
  · rw [hr, hfn]; exact trodAll_mk1 (shut_bool Tryz.underlying4 _)
  · rw [hfn]; exact trodAll_below hb _ _ _ _ hp hA (fun x hx => hlt x (by simp [hx]))
  · rw [hv, hfn]; exact rfl
theorem choose_list {α:Type}{Pr:Nat→α→Prop}{n:Nat}(h:∀i,i<n→∃a,Pr i a):∃l:List α,l.length=n∧∀(i:Nat) (a:α),l[i]? = some a→Pr i a:=by
 induction n with
 | zero=>exact ⟨[],rfl,by simp⟩
 | succ n ih =>
  obtain ⟨l,hl,hP⟩:=ih fun i hi=>h i (by omega)
  obtain ⟨a,ha⟩:=h n (by omega)
  refine ⟨l ++ [a],by simp [hl],fun i b hb=>?_⟩
  rcases Nat.lt_or_ge i l.length with hi | hi
  ·rw [List.getElem?_append_left hi] at hb;exact hP i b hb
  ·rw [List.getElem?_append_right hi] at hb
   have:i=l.length:=by
    rcases Nat.lt_or_ge i (l.length+1) with h1 | h1
    ·omega
    ·rw [List.getElem?_eq_none (by simp;omega)] at hb;cases hb
   subst this
   simp at hb;subst hb;rw [hl];exact ha
theorem cell_block {w:World}{a:Addr}{v:Value}(h:w.cell? (a.add 0)=some v):a.block<w.heap.size:=by
 rcases Nat.lt_or_ge a.block w.heap.size with hlt | hge
 ·exact hlt
 ·have e:a.add 0=a:=rfl
  rw [e] at h
  unfold World.cell? at h
  rw [Array.getElem?_eq_none hge] at h
  cases h
variable {W:World}
/-- A list of numbers that comes in. -/
theorem open_nums {cs:List Value}{x:DataW H × List MemPlace}{fuel:Nat}(hf:DataW.trod enc Tryz.prog W 0 (fun _=>true) true fuel 22 cs=some x) :
  ∃(l:List Int) (A:Option Addr) (c:Nat),cs=[.slice A l.length c]∧l.length≤c∧RN W A l:=by
 rcases open_ints Tryz.underlying22 Tryz.underlying3 (by kernel_rfl) hf with ⟨hcs,-⟩ | ⟨a,len,cap,zs,hcs,-,hl,-,hz,-,hi,-⟩
 ·exact ⟨[],none,0,hcs,Nat.le_refl _,rfl,fun h=>by cases h⟩
 ·simp only [if_true] at hz
  have hlen:(zs.take len).length=len:=by rw [List.length_take];omega
  refine ⟨zs.take len,some a,cap,by rw [hlen];exact hcs,by rw [hlen];exact hl,by simp [ints],fun hp=>⟨a,rfl,?_,fun j u hu=>?_⟩⟩
  ·exact cell_block (hi 0 (by omega))
  ·have hj:j<len:=by have:=(List.getElem?_eq_some_iff.1 hu).1;simp [ints] at this;omega
   rw [hi j (by omega)]
   rw [← hu]
   simp [ints,hj,show j<zs.length by omega]
theorem slice_of_cells {W:World}{r:Reach}{b0:Nat}{v:Value}{A:Option Addr}{n c:Nat}{t e:TypeId}(ht:Tryz.prog.underlying t=some (.slice e))(hok:Value.okWide Tryz.prog W r b0 t v)(h:v.cells.toList=[.slice A n c]):v=.slice A n c:=by
 obtain ⟨a0,len0,cap0,rfl⟩:=okWide_slice ht hok
 simpa [Value.cells] using h
end
end Go.Proofs.YtiapkffihpgdcaaGreatDoor
