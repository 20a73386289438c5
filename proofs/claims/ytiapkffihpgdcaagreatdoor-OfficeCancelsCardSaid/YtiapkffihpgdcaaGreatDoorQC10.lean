import Derived.Test.YtiapkffihpgdcaaGreatDoorQC7
import Derived.Test.YtiapkffihpgdcaaGreatDoorQC8
import Derived.Test.YtiapkffihpgdcaaGreatDoorQC9
import Derived.Maps.OwnSet
import Derived.Maps.Views
set_option linter.unusedVariables false
set_option linter.unusedSimpArgs false
set_option maxRecDepth 100000
set_option maxHeartbeats 4000000
namespace Go.Proofs.YtiapkffihpgdcaaGreatDoor
open Go.RowKit
theorem vrights_any (r:List Sp)(A:Option Addr)(c:Nat)(w:World)(hR:RSO w A r)(hl:r.length≤1000000000) :
  Calls Tryz.prog 146 #[.slice A r.length c] w fun e w'=>e=.returned (.int .i64 (vrt r))∧Below w.heap.size w w':=by
 by_cases h60:60<r.length
 ·have hv:vrt r=4:=by unfold vrt;rw [if_pos h60]
  rw [hv];clear hv
  go_enter Tryz.func146,Tryz.ntmps146
  go_wp2
  go_ret
  exact ⟨rfl,Below.refl _ _⟩
 ·obtain ⟨V,hV⟩:∃V,V=vrt r:=⟨_,rfl⟩
  rw [← hV]
  have hv1:rtAll r r.length=true→V=0:=fun h=>by rw [hV,vrt,if_neg h60,if_pos h]
  have hv2:rtAll r r.length=false→V=1:=fun h=>by rw [hV,vrt,if_neg h60,if_neg (by rw [h];simp)]
  have H1:=Lib.hid hv1
  have H2:=Lib.hid hv2
  clear hV hv1 hv2
  go_enter Tryz.func146,Tryz.ntmps146
  go_wp2
  go_loopw [10] (fun x wr=>∃k:Nat,k≤r.length∧x=.int .i64 k∧Hid (rtAll r k=true)∧Below w.heap.size w wr) (fun x _=>r.length-(intOf x).toNat)
  case atStart=>exact ⟨0,by omega,rfl,rfl,Below.refl _ _⟩
  case round =>
   obtain ⟨k,hk,rfl,HK,hbl⟩:=hrel
   by_cases hlt:k<r.length
   ·obtain ⟨ad,rfl,hab,c0,c1,c2⟩:=(hR.below hbl).at_ hlt
    cases hq:rtB (gs r k) with
    | true =>
     obtain ⟨q1,q2,q3,q4,q5⟩:=(rtB_iff _).1 hq
     have hi:inB (gs r k).fr 0 99=true:=inB_true.2 ⟨q1,q2⟩
     have hnx:rtAll r (k+1)=true:=by simp only [rtAll,HK.out,hq];rfl
     have HNX:=Lib.hid hnx
     clear hnx hq
     go_wp2_with (go_at_call 88;refine (isChild_any _ _).mono ?_;rintro e w' ⟨rfl,hw'⟩;subst hw')
     go_roundw
     case rel=>exact ⟨k+1,by omega,by go_num,HNX,hbl.alloc hbl.size _⟩
     case measure=>simp [intOf];omega
    | false =>
     have hbad:V=1:=by
      refine H2.out ?_
      cases ha:rtAll r r.length with
      | false=>rfl
      | true=>rw [(rtAll_iff _ _).1 ha k hlt] at hq;cases hq
     have HB:=Lib.hid hbad
     have hn:¬ (inB (gs r k).fr 0 99=true∧0≤(gs r k).un∧(gs r k).un<(gs r k).me∧(gs r k).me≤1000):=by
      intro hh
      have:=inB_true.1 hh.1
      rw [(rtB_iff _).2 ⟨this.1,this.2,hh.2⟩] at hq;cases hq
     have HN:=Lib.hid hn
     clear hbad hq hn
     cases hi:inB (gs r k).fr 0 99 with
     | false =>
      go_wp2_with (go_at_call 88;refine (isChild_any _ _).mono ?_;rintro e w' ⟨rfl,hw'⟩;subst hw')
      go_ret
      exact ⟨ret_int (by rw [HB.out]),hbl.alloc hbl.size _⟩
     | true =>
      have hcases:(gs r k).un<0∨(0≤(gs r k).un∧(gs r k).me≤(gs r k).un)∨(0≤(gs r k).un∧(gs r k).un<(gs r k).me∧1000<(gs r k).me):=by
       have:=HN.out
       rcases Int.lt_or_le (gs r k).un 0 with h | h
       ·exact .inl h
       ·rcases Int.lt_or_le (gs r k).un (gs r k).me with h' | h'
        ·rcases Int.lt_or_le 1000 (gs r k).me with h'' | h''
         ·exact .inr (.inr ⟨h,h',h''⟩)
         ·exact absurd ⟨hi,h,h',h''⟩ this
        ·exact .inr (.inl ⟨h,h'⟩)
      rcases hcases with p1 | ⟨p1,p2⟩ | ⟨p1,p2,p3⟩
      all_goals
       go_wp2_with (go_at_call 88;refine (isChild_any _ _).mono ?_;rintro e w' ⟨rfl,hw'⟩;subst hw')
       go_ret
       exact ⟨ret_int (by rw [HB.out]),hbl.alloc hbl.size _⟩
   ·have hv:V=0:=H1.out (by rw [show r.length=k by omega];exact HK.out)
    have HV:=Lib.hid hv;clear hv
    go_wp2
    go_ret
    exact ⟨ret_int (by rw [HV.out]),hbl⟩
theorem rvrights_any (r:List Sp)(A:Option Addr)(c:Nat)(w:World)(hR:RSO w A r)(hl:r.length≤1000000000) :
  Calls Tryz.prog 209 #[.slice A r.length c] w fun e w'=>e=.returned (.int .i64 (vrt r))∧Below w.heap.size w w':=by
 by_cases h60:60<r.length
 ·have hv:vrt r=4:=by unfold vrt;rw [if_pos h60]
  rw [hv];clear hv
  go_enter Tryz.func209,Tryz.ntmps209
  go_wp2
  go_ret
  exact ⟨rfl,Below.refl _ _⟩
 ·obtain ⟨V,hV⟩:∃V,V=vrt r:=⟨_,rfl⟩
  rw [← hV]
  have hv1:rtAll r r.length=true→V=0:=fun h=>by rw [hV,vrt,if_neg h60,if_pos h]
  have hv2:rtAll r r.length=false→V=1:=fun h=>by rw [hV,vrt,if_neg h60,if_neg (by rw [h];simp)]
  have H1:=Lib.hid hv1
  have H2:=Lib.hid hv2
  clear hV hv1 hv2
  go_enter Tryz.func209,Tryz.ntmps209
  go_wp2
  go_loopw [3] (fun x wr=>∃k:Nat,k≤r.length∧x=.int .i64 k∧Hid (rtAll r k=true)∧Below w.heap.size w wr) (fun x _=>r.length-(intOf x).toNat)
  case atStart=>exact ⟨0,by omega,rfl,rfl,Below.refl _ _⟩
  case round =>
   obtain ⟨k,hk,rfl,HK,hbl⟩:=hrel
   by_cases hlt:k<r.length
   ·obtain ⟨ad,rfl,hab,c0,c1,c2⟩:=(hR.below hbl).at_ hlt
    have hsb:rtB (gs r k)=(inB (gs r k).fr 0 99 && stretchB (gs r k).un (gs r k).me):=by
     rw [Bool.eq_iff_iff,rtB_iff,Bool.and_eq_true,inB_true];simp [stretchB];omega
    have q10:(0:Int)≤(k:Int):=Int.natCast_nonneg _
    have q11:(k:Int)<(r.length:Int):=by omega
    have hbad:rtB (gs r k)=false→V=1:=fun hq=>by
     refine H2.out ?_
     cases ha:rtAll r r.length with
     | false=>rfl
     | true=>rw [(rtAll_iff _ _).1 ha k hlt] at hq;cases hq
    cases hi:inB (gs r k).fr 0 99 with
    | false =>
     have HB:=Lib.hid (hbad (by rw [hsb,hi];rfl))
     clear hbad hsb
     go_wp2_with fail
     go_quiet ((first | (go_at_call 181;exact Calls.quiet_of_same (within_anyO _ _ _ _)) | (go_at_call 268;exact Calls.quiet_of_same (rdays_anyO _ _ _))))
     go_wp2
     go_ret
     exact ⟨ret_int (by rw [HB.out]),below_drewN hbl _⟩
    | true =>
     cases hd:stretchB (gs r k).un (gs r k).me with
     | false =>
      have HB:=Lib.hid (hbad (by rw [hsb,hi,hd];rfl))
      clear hbad hsb
      go_wp2_with fail
      go_quiet ((first | (go_at_call 181;exact Calls.quiet_of_same (within_anyO _ _ _ _)) | (go_at_call 268;exact Calls.quiet_of_same (rdays_anyO _ _ _))))
      go_wp2
      go_ret
      exact ⟨ret_int (by rw [HB.out]),below_drewN hbl _⟩
     | true =>
      have hnx:rtAll r (k+1)=true:=by simp only [rtAll,HK.out,hsb,hi,hd];rfl
      have HNX:=Lib.hid hnx
      clear hnx hbad hsb
      go_wp2_with fail
      go_quiet ((first | (go_at_call 181;exact Calls.quiet_of_same (within_anyO _ _ _ _)) | (go_at_call 268;exact Calls.quiet_of_same (rdays_anyO _ _ _))))
      go_wp2
      go_roundw
      case rel=>exact ⟨k+1,by omega,by go_num,HNX,below_drewN hbl _⟩
      case measure=>simp [intOf];omega
   ·have hv:V=0:=H1.out (by rw [show r.length=k by omega];exact HK.out)
    have HV:=Lib.hid hv;clear hv
    go_wp2
    go_ret
    exact ⟨ret_int (by rw [HV.out]),hbl⟩
def IdxPost (b:Bool)(w0:World)(e:Ending)(w':World):Prop:=∃i:Int,e=.returned (.int .i64 i)∧(b=true→0≤i)∧(b=false→i<0)∧Below w0.heap.size w0 w'
theorem freef_any (ch f u c d:Int)(b1 b2:Nat)(w:World)(h1:w.cell? ⟨b1,0,none⟩=some (.int .i64 c))(h2:w.cell? ⟨b2,0,none⟩=some (.int .i64 d))(hb1:b1<w.heap.size)(hb2:b2<w.heap.size) :
  Calls Tryz.prog 244 #[.agg #[.int .i64 ch,.int .i64 f,.int .i64 u],.pointer (some ⟨b1,0,none⟩),.pointer (some ⟨b2,0,none⟩)] w fun e w'=>e=.returned (.bool (tellN ch f u c d))∧Below w.heap.size w w':=by
 have e1:¬ b1=w.heap.size:=by omega
 have e2:¬ b2=w.heap.size:=by omega
 go_enter Tryz.func244,Tryz.ntmps244
 go_wp2
 all_goals
  go_ret
  exact ⟨ret_bool (by unfold tellN;first | (rw [decide_eq_decide];omega) | (symm;rw [decide_eq_false_iff_not];omega)),by go_grown⟩
theorem index_free (r:List Sp)(c d:Int)(A:Option Addr)(cp b1 b2:Nat)(w:World)(hR:RSO w A r)(hl:r.length≤1000000000)(h1:w.cell? ⟨b1,0,none⟩=some (.int .i64 c))(h2:w.cell? ⟨b2,0,none⟩=some (.int .i64 d))(hb1:b1<w.heap.size)(hb2:b2<w.heap.size) :
  Calls Tryz.prog 292 #[.slice A r.length cp,.func (.func 244) #[] #[.pointer (some ⟨b1,0,none⟩),.pointer (some ⟨b2,0,none⟩)]] w (IdxPost (freeB r c d) w):=by
 go_enter Tryz.func292,Tryz.ntmps292
 go_wp2
 go_loopw [8] (fun x wr=>∃k:Nat,k≤r.length∧x=.int .i64 k∧Hid (frTo r c d k=false)∧Below w.heap.size w wr) (fun x _=>r.length-(intOf x).toNat)
 case atStart=>exact ⟨0,by omega,rfl,rfl,Below.refl _ _⟩
 case round =>
  obtain ⟨k,hk,rfl,HK,hbl⟩:=hrel
  by_cases hlt:k<r.length
  ·obtain ⟨ad,rfl,hab,c0,c1,c2⟩:=(hR.below hbl).at_ hlt
   have g1:=(hbl.cell (p:=⟨b1,0,none⟩) hb1).trans h1
   have g2:=(hbl.cell (p:=⟨b2,0,none⟩) hb2).trans h2
   have hbs:=hbl.size
   go_wp2_with fail
   refine (freef_any _ _ _ c d b1 b2 _ g1 g2 (by omega) (by omega)).mono ?_
   rintro e w2 ⟨rfl,hb2'⟩
   have hbl2:=hbl.trans (hb2'.mono hbl.size)
   clear g1 g2 c0 c1 c2 hb2'
   cases hq:tellN (gs r k).fr (gs r k).un (gs r k).me c d with
   | true =>
    have hf:freeB r c d=true:=(frTo_iff _ _ _ _).2 ⟨k,hlt,hq⟩
    have HF:=Lib.hid hf
    clear hf hq
    go_wp2
    go_ret
    exact ⟨k,rfl,(fun _=>by omega),(fun h=>by rw [HF.out] at h;cases h),hbl2⟩
   | false =>
    have hnx:frTo r c d (k+1)=false:=by simp only [frTo,HK.out,hq];rfl
    have HNX:=Lib.hid hnx
    clear hnx hq
    go_wp2
    go_roundw
    case rel=>exact ⟨k+1,by omega,by go_num,HNX,hbl2⟩
    case measure=>simp [intOf];omega
  ·have hf:freeB r c d=false:=by unfold freeB;rw [show r.length=k by omega];exact HK.out
   have HF:=Lib.hid hf
   clear hf
   go_wp2
   go_ret
   exact ⟨-1,rfl,(fun h=>by rw [HF.out] at h;cases h),(fun _=>by omega),hbl⟩
theorem contains_free (r:List Sp)(c d:Int)(A:Option Addr)(cp b1 b2:Nat)(w:World)(hR:RSO w A r)(hl:r.length≤1000000000)(h1:w.cell? ⟨b1,0,none⟩=some (.int .i64 c))(h2:w.cell? ⟨b2,0,none⟩=some (.int .i64 d))(hb1:b1<w.heap.size)(hb2:b2<w.heap.size) :
  Calls Tryz.prog 243 #[.slice A r.length cp,.func (.func 244) #[] #[.pointer (some ⟨b1,0,none⟩),.pointer (some ⟨b2,0,none⟩)]] w fun e w' =>
   e=.returned (.bool (freeB r c d))∧Below w.heap.size w w':=by
 go_enter Tryz.func243,Tryz.ntmps243
 go_wp2_with fail
 refine (index_free r c d A cp b1 b2 _ hR hl h1 h2 hb1 hb2).mono ?_
 rintro e w2 ⟨i,rfl,hi1,hi2,hbl⟩
 cases hf:freeB r c d with
 | true =>
  have h0:=hi1 hf
  have HF:=Lib.hid hf
  clear hi1 hi2 hf
  go_wp2
  go_ret
  exact ⟨ret_bool (by rw [HF.out] <;> first | rfl | (simp;done) | (simp [h0];done) | (simp;omega)),hbl⟩
 | false =>
  have h0:=hi2 hf
  have HF:=Lib.hid hf
  clear hi1 hi2 hf
  go_wp2
  go_ret
  exact ⟨ret_bool (by rw [HF.out] <;> first | rfl | (simp;done) | (simp [h0];done) | (simp;omega)),hbl⟩
theorem free_any (r:List Sp)(c d:Int)(A:Option Addr)(cp:Nat)(w:World)(hR:RSO w A r)(hl:r.length≤1000000000) :
  Calls Tryz.prog 171 #[.slice A r.length cp,.int .i64 c,.int .i64 d] w fun e w'=>e=.returned (.bool (freeB r c d))∧Below w.heap.size w w':=by
 go_enter Tryz.func171,Tryz.ntmps171
 go_wp2_with fail
 have hb0:Below w.heap.size w ((w.alloc (.cells #[.int .i64 c] 3)).alloc (.cells #[.int .i64 d] 3)):=((Below.refl _ _).alloc (Nat.le_refl _) _).alloc (by simp) _
 refine (contains_free r c d A cp w.heap.size (w.heap.size+1) ((w.alloc (.cells #[.int .i64 c] 3)).alloc (.cells #[.int .i64 d] 3)) (hR.below hb0) hl (by simp [go_sem]) (by simp [go_sem]) (by simp;omega) (by simp)).mono ?_
 rintro e w2 ⟨rfl,hb2⟩
 go_wp2
 go_ret
 exact ⟨rfl,hb0.trans (hb2.mono hb0.size)⟩
theorem billf_any (p:Int)(w:World):Calls Tryz.prog 170 #[.int .i64 p] w fun e w'=>e=.returned (.bool (!inB p 0 10000))∧w=w':=by
 go_enter Tryz.func170,Tryz.ntmps170
 go_wp2
 all_goals
  go_ret
  exact ⟨ret_bool (by unfold inB;by_cases h1:0≤p <;> by_cases h2:p≤10000 <;> simp [h1,h2] <;> omega),rfl⟩
theorem index_price (p:List Int)(A:Option Addr)(cp:Nat)(w:World)(hR:RN w A p)(hl:p.length≤1000000000) :
  Calls Tryz.prog 242 #[.slice A p.length cp,.func (.func 170) #[] #[]] w (IdxPost (!prAll p p.length) w):=by
 go_enter Tryz.func242,Tryz.ntmps242
 go_wp2
 go_loop [8] (fun x=>∃k:Nat,k≤p.length∧x=.int .i64 k∧Hid (prAll p k=true)) (fun x=>p.length-(intOf x).toNat)
 case atStart=>exact ⟨0,by omega,rfl,rfl⟩
 case round =>
  obtain ⟨k,hk,rfl,HK⟩:=hrel
  by_cases hlt:k<p.length
  ·obtain ⟨ad,rfl,hab,c0⟩:=hR.at_ hlt
   cases hq:inB (gi p k) 0 10000 with
   | false =>
    have hf:prAll p p.length=false:=by
     cases ha:prAll p p.length with
     | false=>rfl
     | true=>rw [(prAll_iff _ _).1 ha k hlt] at hq;cases hq
    have HF:=Lib.hid hf
    clear hf
    go_wp2_with (go_at_call 170;refine (billf_any _ _).mono ?_;rintro e w' ⟨rfl,rfl⟩)
    go_ret
    exact ⟨k,rfl,(fun _=>by omega),(fun h=>by rw [HF.out] at h;cases h),Below.refl _ _⟩
   | true =>
    have hnx:prAll p (k+1)=true:=by simp only [prAll,HK.out,hq];rfl
    have HNX:=Lib.hid hnx
    clear hnx
    go_wp2_with (go_at_call 170;refine (billf_any _ _).mono ?_;rintro e w' ⟨rfl,rfl⟩)
    go_round
    case rel=>exact ⟨k+1,by omega,by go_num,HNX⟩
    case measure=>simp [intOf];omega
  ·have hf:prAll p p.length=true:=by rw [show p.length=k by omega];exact HK.out
   have HF:=Lib.hid hf
   clear hf
   go_wp2
   go_ret
   exact ⟨-1,rfl,(fun h=>by rw [HF.out] at h;cases h),(fun _=>by omega),Below.refl _ _⟩
theorem contains_price (p:List Int)(A:Option Addr)(cp:Nat)(w:World)(hR:RN w A p)(hl:p.length≤1000000000) :
  Calls Tryz.prog 169 #[.slice A p.length cp,.func (.func 170) #[] #[]] w fun e w'=>e=.returned (.bool (!prAll p p.length))∧Below w.heap.size w w':=by
 go_enter Tryz.func169,Tryz.ntmps169
 go_wp2_with fail
 refine (index_price p A cp _ hR hl).mono ?_
 rintro e w2 ⟨i,rfl,hi1,hi2,hbl⟩
 cases hf:prAll p p.length with
 | false =>
  have h0:=hi1 (by rw [hf];rfl)
  have HF:=Lib.hid hf
  clear hi1 hi2 hf
  go_wp2
  go_ret
  exact ⟨ret_bool (by rw [HF.out] <;> first | rfl | (simp;done) | (simp [h0];done) | (simp;omega)),hbl⟩
 | true =>
  have h0:=hi2 (by rw [hf];rfl)
  have HF:=Lib.hid hf
  clear hi1 hi2 hf
  go_wp2
  go_ret
  exact ⟨ret_bool (by rw [HF.out] <;> first | rfl | (simp;done) | (simp [h0];done) | (simp;omega)),hbl⟩
theorem billed_any (l:List Fact)(r:List Sp)(p:List Int)(cut:Int)(hl:l.length≤1000000000)(hrl:r.length≤1000000000)(hpl:p.length≤1000000000)(A1 A2 A3:Option Addr)(c1 c2 c3 B:Nat)(w:World)(h1:RF w B A1 l)(h2:RSO w A2 r)(h3:RN w A3 p) :
  Calls Tryz.prog 87 #[.slice A1 l.length c1,.slice A2 r.length c2,.slice A3 p.length c3,.int .i64 cut] w fun e w'=>e=.returned (.int .i64 (bEO l r p cut))∧Below w.heap.size w w':=by
 obtain ⟨E,hE⟩:∃E,E=bEO l r p cut:=⟨_,rfl⟩
 rw [← hE]
 have HE:=Lib.hid hE;clear hE
 go_enter Tryz.func87,Tryz.ntmps87
 go_wp2_with fail
 refine (validate_any l A1 c1 B _ h1 hl).mono ?_
 rintro e w1 ⟨rfl,hb1⟩
 by_cases hv:vld l=0
 ·have hv1:(vld l != 0)=false:=by simp [hv]
  have HV:=Lib.hid hv;clear hv
  go_wp2_with fail
  refine (vrights_any r A2 c2 _ (h2.below hb1) hrl).mono ?_
  rintro e w2 ⟨rfl,hb2⟩
  have hb2':=hb1.trans (hb2.mono hb1.size)
  clear hb2
  by_cases hr:vrt r=0
  ·have hr1:(vrt r != 0)=false:=by simp [hr]
   have hEE:E=if bG p cut then 0 else 1:=by rw [HE.out,bEO,if_neg (by rw [HV.out];simp),if_neg (by rw [hr];simp)]
   have HEE:=Lib.hid hEE
   clear hr hEE
   by_cases hp9:p.length=9
   ·have hp9':((p.length:Int) != 9)=false:=by simp [hp9]
    have HP:=Lib.hid hp9;clear hp9
    go_wp2_with fail
    refine (contains_price p A3 c3 _ (h3.below hb2') hpl).mono ?_
    rintro e w3 ⟨rfl,hb3⟩
    have hb3':=hb2'.trans (hb3.mono hb2'.size)
    clear hb3
    cases ha:prAll p p.length with
    | false =>
     have hbad:E=1:=by rw [HEE.out,bG,ha];simp
     have HB:=Lib.hid hbad
     clear hbad ha
     go_wp2
     go_ret
     exact ⟨ret_int (by rw [HB.out]),hb3'⟩
    | true =>
     by_cases q1:cut<0
     ·have hbad:E=1:=by rw [HEE.out,bG,ha,inB_false.2 (show ¬ (0≤cut∧cut≤10000) by omega)];simp
      have HB:=Lib.hid hbad
      clear hbad ha
      go_wp2
      go_ret
      exact ⟨ret_int (by rw [HB.out]),hb3'⟩
     ·by_cases q2:10000<cut
      ·have hbad:E=1:=by rw [HEE.out,bG,ha,inB_false.2 (show ¬ (0≤cut∧cut≤10000) by omega)];simp
       have HB:=Lib.hid hbad
       clear hbad ha
       go_wp2
       go_ret
       exact ⟨ret_int (by rw [HB.out]),hb3'⟩
      ·have hok:E=0:=by rw [HEE.out,bG,ha,inB_true.2 (show 0≤cut∧cut≤10000 by omega),decide_eq_true HP.out];rfl
       have HB:=Lib.hid hok
       clear hok ha
       go_wp2
       go_ret
       exact ⟨ret_int (by rw [HB.out]),hb3'⟩
   ·have hp9':((p.length:Int) != 9)=true:=by simp;omega
    have hbad:E=1:=by rw [HEE.out,bG,decide_eq_false hp9];rfl
    have HB:=Lib.hid hbad
    clear hbad hp9
    go_wp2
    go_ret
    exact ⟨ret_int (by rw [HB.out]),hb2'⟩
  ·have hr1:(vrt r != 0)=true:=by simp [hr]
   have hEE:E=vrt r:=by rw [HE.out,bEO,if_neg (by rw [HV.out];simp),if_pos hr]
   have HEE:=Lib.hid hEE
   clear hr hEE
   go_wp2
   go_ret
   exact ⟨ret_int (by rw [HEE.out]),hb2'⟩
 ·have hv1:(vld l != 0)=true:=by simp [hv]
  have hEE:E=vld l:=by rw [HE.out,bEO,if_pos hv]
  have HEE:=Lib.hid hEE
  clear hv hEE
  go_wp2
  go_ret
  exact ⟨ret_int (by rw [HEE.out]),hb1⟩
theorem price_any (m:Int)(p:List Int)(hp:9≤p.length)(h0:0≤m)(h9:m≤9)(A:Option Addr)(c b:Nat)(w:World)(hc:w.cell? ⟨b,0,none⟩=some (.slice A p.length c))(hR:RN w A p) :
  Calls Tryz.prog 172 #[.int .i64 m,.pointer (some ⟨b,0,none⟩)] w fun e w'=>e=.returned (.int .i64 (priceI p m))∧w=w':=by
 by_cases hm:m=0
 ·subst hm
  go_enter Tryz.func172,Tryz.ntmps172
  go_wp2
  go_ret
  exact ⟨ret_int (by simp [priceI]),rfl⟩
 ·have hm1:(m == 0)=false:=by simp [hm]
  have hpr:priceI p m=gi p (m.toNat-1):=by unfold priceI;rw [if_neg hm];congr 1;omega
  rw [hpr]
  obtain ⟨ad,rfl,hab,c0⟩:=hR.at_ (k:=m.toNat-1) (by omega)
  have hi0:0≤m-1:=by omega
  have hi1:m-1<(p.length:Int):=by omega
  clear hpr hm
  go_enter Tryz.func172,Tryz.ntmps172
  go_wp2
  go_ret
  exact ⟨rfl,rfl⟩
theorem pay_any (l:List Fact)(r:List Sp)(p:List Int)(cut c d:Int)(hV:Vld l)(hg:bG p cut=true)(hr:r.length≤60)(hd:0≤d)(hd2:d≤999)(A1 A2 A3:Option Addr)(c1 c2 c3 B:Nat)(hc1:l.length≤c1)(w:World)(h1:RF w B A1 l)(h2:RSO w A2 r)(h3:RN w A3 p) :
  Calls Tryz.prog 89 #[.slice A1 l.length c1,.slice A2 r.length c2,.slice A3 p.length c3,.int .i64 cut,.int .i64 c,.int .i64 d] w fun e w'=>e=.returned (.int .i64 (payI l r p cut c d))∧Below w.heap.size w w':=by
 obtain ⟨g1,g2,g3,g4⟩:=bG_len hg
 obtain ⟨P,hP⟩:∃P,P=payI l r p cut c d:=⟨_,rfl⟩
 rw [← hP]
 have HP:=Lib.hid hP;clear hP
 have hb0:Below w.heap.size w (w.alloc (.cells #[.slice A3 p.length c3] 22)):=(Below.refl _ _).alloc (Nat.le_refl _) _
 go_enter Tryz.func89,Tryz.ntmps89
 go_wp2_with fail
 refine (free_any r c d A2 c2 _ (h2.below hb0) (by omega)).mono ?_
 rintro e w1 ⟨rfl,hb1⟩
 obtain ⟨bc,bf,bz,hbl⟩:=blk_facts hb1 (by simp)
 have bc0:w1.cell? ⟨w.heap.size,0,none⟩=some (.slice A3 p.length c3):=by rw [bc];rfl
 clear hb0 hb1 bc bf
 cases hf:freeB r c d with
 | true =>
  have hk:P=0:=by rw [HP.out,payI,if_pos hf]
  have HK:=Lib.hid hk;clear hk
  go_wp2
  go_ret
  exact ⟨ret_int (by rw [HK.out]),hbl⟩
 | false =>
  have hk:P=max (priceI p (knw l (d*1440-cut) c d)) (priceI p (knw l 1440000 c d)):=by rw [HP.out,payI,if_neg (by rw [hf];simp)]
  have HK:=Lib.hid hk;clear hk
  have hfld:=field_found
  have hfld2:=field_meal
  have k1:=knw_bd hV (d*1440-cut) c d
  have k2:=knw_bd hV 1440000 c d
  go_wp2_with fail
  refine (reason_any l (d*1440-cut) c d hV A1 c1 B hc1 _ (h1.below hbl)).mono ?_
  rintro e w2 ⟨rfl,hb2⟩
  have bc2:=(hb2.cell (p:=⟨w.heap.size,0,none⟩) bz).trans bc0
  have hbl2:=hbl.trans (hb2.mono hbl.size)
  have bz2:w.heap.size<w2.heap.size:=Nat.lt_of_lt_of_le bz hb2.size
  clear hb2 bc0 hbl
  unfold foundV
  rw [show fMe l (rsn l (d*1440-cut) c d)=knw l (d*1440-cut) c d from rfl]
  go_wp2_with fail
  refine (price_any _ p g1 k1.1 k1.2 A3 c3 w.heap.size _ bc2 (h3.below hbl2)).mono ?_
  rintro e w3 ⟨rfl,rfl⟩
  go_wp2_with fail
  refine (reason_any l 1440000 c d hV A1 c1 B hc1 _ (h1.below hbl2)).mono ?_
  rintro e w3 ⟨rfl,hb3⟩
  have bc3:=(hb3.cell (p:=⟨w.heap.size,0,none⟩) bz2).trans bc2
  have hbl3:=hbl2.trans (hb3.mono hbl2.size)
  clear hb3 bc2
  unfold foundV
  rw [show fMe l (rsn l 1440000 c d)=knw l 1440000 c d from rfl]
  go_wp2_with fail
  refine (price_any _ p g1 k2.1 k2.2 A3 c3 w.heap.size _ bc3 (h3.below hbl3)).mono ?_
  rintro e w4 ⟨rfl,rfl⟩
  go_wp2
  all_goals
   go_ret
   exact ⟨ret_int (by rw [HK.out] <;> omega),hbl3⟩
theorem payX_any (l:List Fact)(r:List Sp)(p:List Int)(cut c d:Int)(hl:l.length≤1000000000)(hrl:r.length≤1000000000)(hpl:p.length≤1000000000)(A1 A2 A3:Option Addr)(c1 c2 c3 B:Nat)(hc1:l.length≤c1)(w:World)(h1:RF w B A1 l)(h2:RSO w A2 r)(h3:RN w A3 p) :
  Calls Tryz.prog 175 #[.slice A1 l.length c1,.slice A2 r.length c2,.slice A3 p.length c3,.int .i64 cut,.int .i64 c,.int .i64 d] w fun e w'=>e=.returned (.tuple #[.int .i64 (payR l r p cut c d),.int .i64 (payE l r p cut c d)])∧Below w.heap.size w w':=by
 obtain ⟨bb,hbb⟩:∃bb,bEO l r p cut=bb:=⟨_,rfl⟩
 obtain ⟨E,hE⟩:∃E,E=payE l r p cut c d:=⟨_,rfl⟩
 have hE2:=hE.trans (payE_split l r p cut c d bb hbb)
 obtain ⟨R,hR⟩:∃R,R=payR l r p cut c d:=⟨_,rfl⟩
 have hR2:R=if E=0 then payI l r p cut c d else 0:=by rw [hR,hE];rfl
 rw [← hE,← hR]
 have HE:=Lib.hid hE2
 have HR:=Lib.hid hR2
 have HBB:=Lib.hid hbb
 clear hE hE2 hR hR2 hbb
 go_enter Tryz.func175,Tryz.ntmps175
 go_wp2_with fail
 refine (billed_any l r p cut hl hrl hpl A1 A2 A3 c1 c2 c3 B _ h1 h2 h3).mono ?_
 rintro e w1 ⟨rfl,hb1⟩
 rw [HBB.out]
 by_cases h0:bb=0
 ·obtain ⟨v1,v2,v3⟩:=bE_okO (HBB.out.trans h0)
  have hV:=Vld.of v1
  have hr60:=(vrt_ok v2).1
  have hb0:(bb != 0)=false:=by simp [h0]
  have hEE:E=if inB c 0 99 && inB d 0 999 then 0 else 1:=by rw [HE.out,if_neg (by simp [h0])]
  have HEE:=Lib.hid hEE
  clear h0 hEE v1 v2
  cases hi:inB c 0 99 with
  | false =>
   have hEv:E=1:=by rw [HEE.out,hi];rfl
   have hRv:R=0:=by rw [HR.out,hEv];rfl
   have H1:=Lib.hid hEv
   have H2:=Lib.hid hRv
   clear hEv hRv
   go_wp2_with (go_at_call 88;refine (isChild_any _ _).mono ?_;rintro e w' ⟨rfl,hw'⟩;subst hw')
   go_ret2
   exact ⟨ret2 (by rw [H2.out];rfl) (by rw [H1.out];rfl),hb1⟩
  | true =>
   cases hd:inB d 0 999 with
   | false =>
    have hEv:E=1:=by rw [HEE.out,hi,hd];rfl
    have hRv:R=0:=by rw [HR.out,hEv];rfl
    have H1:=Lib.hid hEv
    have H2:=Lib.hid hRv
    clear hEv hRv
    go_wp2_with (first | (go_at_call 88;refine (isChild_any _ _).mono ?_;rintro e w' ⟨rfl,hw'⟩;subst hw') | (go_at_call 111;refine (isDay_any _ _).mono ?_;rintro e w' ⟨rfl,hw'⟩;subst hw'))
    go_ret2
    exact ⟨ret2 (by rw [H2.out];rfl) (by rw [H1.out];rfl),hb1⟩
   | true =>
    have hdb:=inB_true.1 hd
    have hEv:E=0:=by rw [HEE.out,hi,hd];rfl
    have hRv:R=payI l r p cut c d:=by rw [HR.out,if_pos hEv]
    have H1:=Lib.hid hEv
    have H2:=Lib.hid hRv
    clear hEv hRv
    go_wp2_with (first | (go_at_call 88;refine (isChild_any _ _).mono ?_;rintro e w' ⟨rfl,hw'⟩;subst hw') | (go_at_call 111;refine (isDay_any _ _).mono ?_;rintro e w' ⟨rfl,hw'⟩;subst hw') | (go_at_call 89;refine (pay_any l r p cut c d hV v3 hr60 hdb.1 hdb.2 A1 A2 A3 c1 c2 c3 B hc1 _ (h1.below hb1) (h2.below hb1) (h3.below hb1)).mono ?_;rintro e w2 ⟨rfl,hb2⟩))
    go_ret2
    exact ⟨ret2 (by rw [H2.out];rfl) (by rw [H1.out];rfl),hb1.trans (hb2.mono hb1.size)⟩
 ·have hb0:(bb != 0)=true:=by simp [h0]
  have hEv:E=bb:=by rw [HE.out,if_pos h0]
  have hRv:R=0:=by rw [HR.out,if_neg (by rw [hEv];exact h0)]
  have H1:=Lib.hid hEv
  have H2:=Lib.hid hRv
  clear hEv hRv h0
  go_wp2
  go_ret2
  exact ⟨ret2 (by rw [H2.out];rfl) (by rw [H1.out];rfl),hb1⟩
/-- The blocks of F are as they were. -/
structure Keeps (F:Nat→Prop) (w w':World):Prop where
 size:w.heap.size≤w'.heap.size
 block:∀k,F k→k<w.heap.size→w'.heap[k]? = w.heap[k]?
theorem Keeps.of_below {F:Nat→Prop}{w w':World}(h:Below w.heap.size w w'):Keeps F w w':=⟨h.size,fun k _ hk=>h.block k hk⟩
theorem Keeps.of_off {F M:Nat→Prop}{w w':World}(h:Off M w w')(hd:∀k,F k→k<w.heap.size→¬ M k):Keeps F w w':=⟨h.size,fun k hk hs=>h.block k hs (hd k hk hs)⟩
theorem Keeps.mono {F F':Nat→Prop}{w w':World}(h:Keeps F w w')(hF:∀k,F' k→F k):Keeps F' w w':=⟨h.size,fun k hk hs=>h.block k (hF k hk) hs⟩
theorem Keeps.refl (F:Nat→Prop)(w:World):Keeps F w w:=⟨Nat.le_refl _,fun _ _ _=>rfl⟩
section
variable {F F':Nat→Prop}{w w':World}{size n:Nat}{A A1 A2:Option Addr}{xs:List Value}
theorem ReadsF.kept (h:ReadsF F w size A n xs)(hk:Keeps F w w'):ReadsF F w' size A n xs :=
 ⟨⟨h.1.1,fun hn=>by
  obtain ⟨ad,e,hb,hc⟩:=h.1.2 hn
  exact ⟨ad,e,Nat.lt_of_lt_of_le hb hk.size,fun j u hu=>(World.cell?_of_block (w:=w) (by rw [block_of_add];exact hk.block _ (h.2 ad e hn) hb)).trans (hc j u hu)⟩⟩,h.2⟩
theorem R2.kept {f g:Nat→Value}(h:R2 F w A n f g)(hk:Keeps F w w'):R2 F w' A n f g:=ReadsF.kept h hk
theorem RNF.kept {l:List Int}(h:RNF F w A l)(hk:Keeps F w w'):RNF F w' A l:=ReadsF.kept h hk
theorem RIt.kept {l:List It}{hp hq:Nat→SlH}(h:RIt F w A l hp hq)(hk:Keeps F w w'):RIt F w' A l hp hq:=⟨h.row.kept hk,fun k h'=>(h.parts k h').kept hk,fun k h'=>(h.has k h').kept hk⟩
theorem RRl.kept {l:List Rl}{hp:Nat→SlH}(h:RRl F w A l hp)(hk:Keeps F w w'):RRl F w' A l hp:=⟨h.row.kept hk,fun k h'=>(h.iff k h').kept hk⟩
theorem RBk.kept {b:Bk}{hp hq hr:Nat→SlH}(h:RBk F w A1 A2 b hp hq hr)(hk:Keeps F w w'):RBk F w' A1 A2 b hp hq hr:=⟨h.it.kept hk,h.rl.kept hk⟩
theorem Box.kept {g:Nat}{cs:Array Value}(h:Box w g cs)(hk:Keeps F w w')(hg:F g):Box w' g cs :=
 ⟨Nat.lt_of_lt_of_le h.lt hk.size,fun j=>(World.cell?_of_block (w:=w) (a:=⟨g,j,none⟩) (hk.block g hg h.lt)).trans (h.cell j),fun j=>(World.frozen?_of_block (w:=w) (a:=⟨g,j,none⟩) (hk.block g hg h.lt)).trans (h.free j)⟩
theorem own_kept {base e:Nat}{v:Value}(h:w.ownsRow base e size v n xs)(hk:Keeps F w w')(hF:∀k,v.ownBlock=some k→F k):w'.ownsRow base e size v n xs:=by
 refine ⟨h.1,?_⟩
 rcases h.2 with hn | ⟨g,cap,cur,rfl,hbg,hh,rest⟩
 ·exact .inl hn
 ·exact .inr ⟨g,cap,cur,rfl,hbg,(hk.block g (hF g rfl) (Array.getElem?_eq_some_iff.1 hh).1).trans hh,rest⟩
end
/-- The map at block b,of at most N entries,tells f. -/
def MP (w:World)(N b:Nat)(f:Int→Option Int):Prop :=
 ∃(n:Nat) (D:DataW Unit),n≤N∧w.ownsMap Tryz.prog 3 (plainElem (H:=Unit) Tryz.prog 3) b n D∧∀d:Int,(Lit.int .i64 d).wf=true→Maps.has D (.int .i64 d)=(f d).isSome∧D.atKey (.int .i64 d) (.lit (.int .i64 0))=.lit (.int .i64 ((f d).getD 0))
theorem MP.lt {w:World}{N b:Nat}{f:Int→Option Int}(h:MP w N b f):b<w.heap.size:=by
 obtain ⟨n,D,_,ho,_⟩:=h
 exact ho.lt
theorem MP.kept {F:Nat→Prop}{w w':World}{N b:Nat}{f:Int→Option Int}(h:MP w N b f)(hk:Keeps F w w')(hF:F b):MP w' N b f:=by
 have hlt:=h.lt
 obtain ⟨n,D,hn,⟨es,clock,hb,r⟩,hd⟩:=h
 exact ⟨n,D,hn,⟨es,clock,(hk.block b hF hlt).trans hb,r⟩,hd⟩
theorem MP.more {w:World}{N N' b:Nat}{f:Int→Option Int}(h:MP w N b f)(hN:N≤N'):MP w N' b f:=by
 obtain ⟨n,D,hn,r⟩:=h
 exact ⟨n,D,by omega,r⟩
/-- Where an office's lists lie. -/
structure Hd where
 tr:SlH
 tc:SlH
 bi:SlH
 br:SlH
 hp:Nat→SlH
 hq:Nat→SlH
 hr:Nat→SlH
 mn:SlH
 ds:SlH
 kd:SlH
 hk:Nat→SlH
 fa:SlH
 ri:SlH
 ck:Nat
 et:Nat
 od:SlH
def slN (h:SlH)(n:Nat):Value:=.slice h.1 n h.2
def cellsO (L:Int)(s:Of)(h:Hd):Array Value:=#[.int .i32 L,.int .u32 0,.int .i64 s.tm.len,slN h.tr s.tm.rest.length,slN h.tc s.tm.clo.length,.int .i64 s.cy.n,.int .i64 s.cy.f,.int .i64 s.cy.k,
 .int .i64 s.bk.props,slN h.bi s.bk.items.length,slN h.br s.bk.rules.length,slN h.mn (mnL s.tm s.cy).length,.int .i64 s.now,slN h.ds s.dishes.length,slN h.kd s.kids.length,slN h.fa s.facts.length,slN h.ri s.rights.length,
 .map (some h.ck),.map (some h.et),slN h.od s.orders.length]
def blkOf (h:SlH):Option Nat:=h.1.map (·.block)
theorem own_blk (h:SlH)(n:Nat):(slN h n).ownBlock=blkOf h:=by
 unfold slN blkOf
 cases h.1 <;> rfl
/-- The blocks that nothing writes to. -/
def Im (F:Nat→Prop)(g:Nat)(h:Hd)(k:Nat):Prop:=F k∧k≠g∧k≠h.ck∧k≠h.et∧blkOf h.ds≠some k∧blkOf h.kd≠some k∧blkOf h.od≠some k
/-- The program's office s,at block g,in blocks of F;L: the lock;N: how many entries its maps have at most. -/
structure PO (L:Int) (N:Nat) (w:World) (F:Nat→Prop) (g:Nat) (h:Hd) (s:Of):Prop where
 box:Box w g (cellsO L s h)
 lo:∀k,F k→7≤k∧k<w.heap.size
 gF:F g
 rest:RNF (Im F g h) w h.tr.1 s.tm.rest
 clo:RNF (Im F g h) w h.tc.1 s.tm.clo
 bk:RBk (Im F g h) w h.bi.1 h.br.1 s.bk h.hp h.hq h.hr
 mn:RNF (Im F g h) w h.mn.1 (mnL s.tm s.cy)
 fa:ReadsF (Im F g h) w 5 h.fa.1 s.facts.length (cellsF s.facts)
 ri:ReadsF (Im F g h) w 3 h.ri.1 s.rights.length (cellsS s.rights)
 av:∀k,k<s.kids.length→RNF (Im F g h) w (h.hk k).1 (gk s.kids k).avoid
 ds:w.ownsRow 0 81 2 (slN h.ds s.dishes.length) s.dishes.length (cells2 s.dishes.length (fun k=>St (gd s.dishes k).name) (fun k=>.int .i64 (gd s.dishes k).item))
 kd:w.ownsRow 0 56 2 (slN h.kd s.kids.length) s.kids.length (cells2 s.kids.length (fun k=>.int .i64 (gk s.kids k).num) (fun k=>slN (h.hk k) (gk s.kids k).avoid.length))
 od:w.ownsRow 0 9 1 (slN h.od s.orders.length) s.orders.length (strs s.orders)
 ck:MP w N h.ck s.cooked
 et:MP w N h.et s.eaten
 ckF:F h.ck∧h.ck≠g
 etF:F h.et∧h.et≠g∧h.et≠h.ck
 dsF:∀k,blkOf h.ds=some k→F k∧k≠g∧k≠h.ck∧k≠h.et
 kdF:∀k,blkOf h.kd=some k→F k∧k≠g∧k≠h.ck∧k≠h.et
 odF:∀k,blkOf h.od=some k→F k∧k≠g∧k≠h.ck∧k≠h.et
 fc:s.facts.length≤h.fa.2
 ok:OfOk s
section
variable {L:Int}{N:Nat}{w w':World}{F F':Nat→Prop}{g:Nat}{h:Hd}{s:Of}
theorem PO.kept (hP:PO L N w F g h s)(hk:Keeps F w w'):PO L N w' F g h s:=by
 have hi:Keeps (Im F g h) w w':=hk.mono fun k hk=>hk.1
 exact ⟨hP.box.kept hk hP.gF,fun k hk'=>⟨(hP.lo k hk').1,Nat.lt_of_lt_of_le (hP.lo k hk').2 hk.size⟩,hP.gF,hP.rest.kept hi,hP.clo.kept hi,hP.bk.kept hi,hP.mn.kept hi,hP.fa.kept hi,hP.ri.kept hi,fun k hk'=>(hP.av k hk').kept hi,
  own_kept hP.ds hk fun k e=>(hP.dsF k (by rw [own_blk] at e;exact e)).1,own_kept hP.kd hk fun k e=>(hP.kdF k (by rw [own_blk] at e;exact e)).1,own_kept hP.od hk fun k e=>(hP.odF k (by rw [own_blk] at e;exact e)).1,
  hP.ck.kept hk hP.ckF.1,hP.et.kept hk hP.etF.1,hP.ckF,hP.etF,hP.dsF,hP.kdF,hP.odF,hP.fc,hP.ok⟩
theorem PO.below (hP:PO L N w F g h s)(hb:Below w.heap.size w w'):PO L N w' F g h s:=hP.kept (.of_below hb)
theorem PO.off {M:Nat→Prop}(hP:PO L N w F g h s)(ho:Off M w w')(hd:∀k,F k→¬ M k):PO L N w' F g h s:=hP.kept (.of_off ho fun k hk _=>hd k hk)
theorem PO.more (hP:PO L N w F g h s){N':Nat}(hN:N≤N'):PO L N' w F g h s:={ hP with ck:=hP.ck.more hN,et:=hP.et.more hN }
theorem Im.mono (hF:∀k,F k→F' k){k:Nat}(hi:Im F g h k):Im F' g h k:=⟨hF k hi.1,hi.2⟩
theorem PO.wide (hP:PO L N w F g h s)(hF:∀k,F k→F' k)(hl:∀k,F' k→7≤k∧k<w.heap.size):PO L N w F' g h s:=by
 have hi:∀k,Im F g h k→Im F' g h k:=fun k=>Im.mono hF
 exact ⟨hP.box,hl,hF _ hP.gF,hP.rest.mono hi,hP.clo.mono hi,hP.bk.mono hi,hP.mn.mono hi,hP.fa.mono hi,hP.ri.mono hi,fun k hk'=>(hP.av k hk').mono hi,hP.ds,hP.kd,hP.od,hP.ck,hP.et,
  ⟨hF _ hP.ckF.1,hP.ckF.2⟩,⟨hF _ hP.etF.1,hP.etF.2⟩,fun k e=>⟨hF _ (hP.dsF k e).1,(hP.dsF k e).2⟩,fun k e=>⟨hF _ (hP.kdF k e).1,(hP.kdF k e).2⟩,fun k e=>⟨hF _ (hP.odF k e).1,(hP.odF k e).2⟩,hP.fc,hP.ok⟩
theorem PO.cN (hP:PO L N w F g h s):w.cell? ⟨g,5,none⟩=some (.int .i64 s.cy.n):=hP.box.cell 5
theorem PO.cProps (hP:PO L N w F g h s):w.cell? ⟨g,8,none⟩=some (.int .i64 s.bk.props):=hP.box.cell 8
theorem PO.cItems (hP:PO L N w F g h s):w.cell? ⟨g,9,none⟩=some (.slice h.bi.1 s.bk.items.length h.bi.2):=hP.box.cell 9
theorem PO.cRules (hP:PO L N w F g h s):w.cell? ⟨g,10,none⟩=some (.slice h.br.1 s.bk.rules.length h.br.2):=hP.box.cell 10
theorem PO.cMn (hP:PO L N w F g h s):w.cell? ⟨g,11,none⟩=some (.slice h.mn.1 (mnL s.tm s.cy).length h.mn.2):=hP.box.cell 11
theorem PO.cNow (hP:PO L N w F g h s):w.cell? ⟨g,12,none⟩=some (.int .i64 s.now):=hP.box.cell 12
theorem PO.cDs (hP:PO L N w F g h s):w.cell? ⟨g,13,none⟩=some (.slice h.ds.1 s.dishes.length h.ds.2):=hP.box.cell 13
theorem PO.cKd (hP:PO L N w F g h s):w.cell? ⟨g,14,none⟩=some (.slice h.kd.1 s.kids.length h.kd.2):=hP.box.cell 14
theorem PO.cFa (hP:PO L N w F g h s):w.cell? ⟨g,15,none⟩=some (.slice h.fa.1 s.facts.length h.fa.2):=hP.box.cell 15
theorem PO.cRi (hP:PO L N w F g h s):w.cell? ⟨g,16,none⟩=some (.slice h.ri.1 s.rights.length h.ri.2):=hP.box.cell 16
theorem PO.cCk (hP:PO L N w F g h s):w.cell? ⟨g,17,none⟩=some (.map (some h.ck)):=hP.box.cell 17
theorem PO.cEt (hP:PO L N w F g h s):w.cell? ⟨g,18,none⟩=some (.map (some h.et)):=hP.box.cell 18
theorem PO.cOd (hP:PO L N w F g h s):w.cell? ⟨g,19,none⟩=some (.slice h.od.1 s.orders.length h.od.2):=hP.box.cell 19
theorem PO.cLk (hP:PO L N w F g h s):w.cell? ⟨g,0,none⟩=some (.int .i32 L):=hP.box.cell 0
theorem PO.rf (hP:PO L N w F g h s):RF w w.heap.size h.fa.1 s.facts:=⟨Nat.le_refl _,hP.fa.1⟩
theorem PO.kids (hP:PO L N w F g h s):R2 (fun _=>True) w h.kd.1 s.kids.length (fun k=>.int .i64 (gk s.kids k).num) (fun k=>slN (h.hk k) (gk s.kids k).avoid.length):=⟨Reads.of_own hP.kd,fun _ _ _=>trivial⟩
theorem PO.dish (hP:PO L N w F g h s):RDh (fun _=>True) w h.ds.1 s.dishes:=⟨Reads.of_own hP.ds,fun _ _ _=>trivial⟩
theorem PO.gl (hP:PO L N w F g h s):g<w.heap.size:=hP.box.lt
/-- Cells of the office that turn,one by one. -/
theorem Box.set {cs:Array Value}(hb:Box w g cs)(j:Nat)(v:Value)(hj:j<cs.size):Box (w.setCell ⟨g,j,none⟩ v) g (cs.setIfInBounds j v):=by
 refine ⟨by simpa [World.setCell] using hb.lt,fun i=>?_,fun i=>?_⟩
 ·by_cases e:i=j
  ·subst e
   rw [World.cell?_setCell_same' _ _ _ (by rw [hb.cell];simp [hj])]
   simp [hj]
  ·rw [World.cell?_setCell_other _ _ _ _ (by intro h;injection h with _ h2;exact e h2.symm),hb.cell,Array.getElem?_setIfInBounds]
   rw [if_neg (fun h=>e h.symm)]
 ·simpa using hb.free i
end
theorem Box.far {w:World}{g:Nat}{cs:Array Value}{p:Addr}(h:Box w g cs)(hp:g≠p.block)(v:Value):Box (w.setCell p v) g cs:=by
 refine ⟨by have:=h.lt;simpa [World.setCell] using this,fun j=>?_,fun j=>by rw [World.frozen?_setCell];exact h.free j⟩
 rw [World.cell?_setCell_other _ _ _ _ (fun e=>hp (by rw [e]))]
 exact h.cell j
theorem Box.keep {w w':World}{g n:Nat}{cs:Array Value}(h:Box w g cs)(hb:Below n w w')(hg:g<n):Box w' g cs :=
 ⟨Nat.lt_of_lt_of_le h.lt hb.size,fun j=>(hb.cell (p:=⟨g,j,none⟩) hg).trans (h.cell j),fun j=>(hb.frozen (p:=⟨g,j,none⟩) hg).trans (h.free j)⟩
/-- F,and what is new. -/
def grown (F:Nat→Prop)(w w':World)(k:Nat):Prop:=F k∨(w.heap.size≤k∧k<w'.heap.size)
end Go.Proofs.YtiapkffihpgdcaaGreatDoor
namespace Go.Proofs.YtiapkffihpgdcaaGreatDoor
theorem wds_byte:∀(s:List UInt8) (b:UInt8),b ∈ s→b=32∨∃w ∈ wds s,b ∈ w
 | [],b,h=>by simp at h
 | a :: r,b,h=>by
  have ih:=wds_byte r
  unfold wds
  by_cases ha:a=32
  ·rw [if_pos ha]
   rcases List.mem_cons.1 h with rfl | h
   ·exact .inl ha
   ·rcases ih b h with h | ⟨w,hw,hb⟩
    ·exact .inl h
    ·exact .inr ⟨w,by simp [hw],hb⟩
  ·rw [if_neg ha]
   rcases List.mem_cons.1 h with rfl | h
   ·right
    split
    ·exact ⟨[b],by simp,by simp⟩
    ·rename_i w' ws' e;exact ⟨b :: w',by simp,by simp⟩
   ·rcases ih b h with h | ⟨w,hw,hb⟩
    ·exact .inl h
    ·right
     split
     ·rename_i e;rw [e] at hw;simp at hw
     ·rename_i w' ws' e
      rw [e] at hw
      rcases List.mem_cons.1 hw with rfl | hw
      ·exact ⟨a :: w,by simp,by simp [hb]⟩
      ·exact ⟨w,by simp [hw],hb⟩
def noNl (w:List UInt8):Prop:=(10:UInt8) ∉ w
theorem gb_mem {w:Wd}{b:UInt8}(h:b ∈ w):∃i,i<w.length∧gb w i=b:=by
 obtain ⟨i,hi,e⟩:=List.mem_iff_getElem.1 h
 exact ⟨i,hi,by unfold gb;rw [List.getD_eq_getElem?_getD,List.getElem?_eq_getElem hi];exact e⟩
theorem noNl_num {w:Wd}(h:numOk w=true):noNl w:=fun hb=>by
 obtain ⟨i,hi,e⟩:=gb_mem hb
 unfold numOk at h
 rw [Bool.and_eq_true,Bool.and_eq_true] at h
 have:=(digTo_iff _ _).1 h.2.1 i hi
 rw [e] at this
 revert this;decide
theorem noNl_let {w:Wd}(h:letB w=true):noNl w:=fun hb=>by
 obtain ⟨i,hi,e⟩:=gb_mem hb
 unfold letB at h
 rw [Bool.and_eq_true] at h
 have:=(letTo_iff _ _).1 h.1 i hi
 rw [e] at this
 revert this;decide
theorem noNl_fm {w:Wd}{f:Fm}(h:fmOf w=some f):noNl w∧w≠[]:=by
 unfold fmOf at h
 by_cases h0:w=wAt
 ·rw [h0];unfold noNl;decide
 rw [if_neg h0] at h
 by_cases h1:w=wDish
 ·rw [h1];unfold noNl;decide
 rw [if_neg h1] at h
 by_cases h2:w=wChild
 ·rw [h2];unfold noNl;decide
 rw [if_neg h2] at h
 by_cases h3:w=wOrder
 ·rw [h3];unfold noNl;decide
 rw [if_neg h3] at h
 by_cases h4:w=wCancel
 ·rw [h4];unfold noNl;decide
 rw [if_neg h4] at h
 by_cases h5:w=wFree
 ·rw [h5];unfold noNl;decide
 rw [if_neg h5] at h
 by_cases h6:w=wCook
 ·rw [h6];unfold noNl;decide
 rw [if_neg h6] at h
 by_cases h7:w=wEat
 ·rw [h7];unfold noNl;decide
 rw [if_neg h7] at h
 cases h
theorem getD_mem {ws:List Wd}{w:Wd}(h:w ∈ ws):∃i,i<ws.length∧ws.getD i []=w:=by
 obtain ⟨i,hi,e⟩:=List.mem_iff_getElem.1 h
 exact ⟨i,hi,by rw [List.getD_eq_getElem?_getD,List.getElem?_eq_getElem hi];exact e⟩
theorem noNl_nums {ws:List Wd}(h:numsTo ws ws.length=true):∀w ∈ ws,noNl w:=fun w hw=>by
 obtain ⟨i,hi,rfl⟩:=getD_mem hw
 exact noNl_num ((numsTo_iff _ _).1 h i hi)
theorem hd_tail {ws:List Wd}(h:ws≠[]):ws=hd ws :: ws.tail:=by cases ws with | nil=>exact absurd rfl h | cons a r=>rfl
theorem prs_words {s:Wd}{r:Rq}(h:prs s=some r):∀w ∈ wds s,noNl w:=by
 have hne:=wds_ne s
 unfold prs at h
 cases hf:fmOf (hd (wds s)) with
 | none=>rw [hf] at h;cases h
 | some f =>
  rw [hf] at h
  simp only at h
  have h0:=(noNl_fm hf).1
  by_cases h60:60<s.length
  ·rw [if_pos h60] at h;cases h
  rw [if_neg h60] at h
  rw [hd_tail hne]
  intro w hw
  rcases List.mem_cons.1 hw with rfl | hw
  ·exact h0
  cases hn:f.name with
  | false=>rw [hn] at h;simp only [Bool.false_eq_true,if_false] at h;exact noNl_nums (rqN_some h).2.2 w hw
  | true =>
   rw [hn] at h
   simp only [if_true] at h
   by_cases he:(wds s).tail=[]
   ·rw [he] at hw;simp at hw
   ·rw [if_neg he] at h
    cases hl:letB (hd (wds s).tail) with
    | false=>rw [hl] at h;cases h
    | true =>
     rw [hl] at h
     simp only [if_true] at h
     rw [hd_tail he] at hw
     rcases List.mem_cons.1 hw with rfl | hw
     ·exact noNl_let hl
     ·exact noNl_nums (rqN_some h).2.2 w hw
theorem prs_line {s:Wd}{r:Rq}(h:prs s=some r):noNl s∧s≠[]∧s.length≤60:=by
 refine ⟨fun hb=>?_,?_,(prs_ok h).2⟩
 ·rcases wds_byte s 10 hb with h1 | ⟨w,hw,hb⟩
  ·revert h1;decide
  ·exact prs_words h w hw hb
 ·rintro rfl
  have e:prs []=none:=by decide
  rw [e] at h;cases h
def bokL (l:List Wd):List UInt8:=l.flatMap fun w=>w ++ [10]
theorem bokL_app (l m:List Wd):bokL (l ++ m)=bokL l ++ bokL m:=by simp [bokL]
theorem bokTo_take (l:List Wd):∀k,k≤l.length→bokTo l k=bokL (l.take k)
 | 0,_=>by simp [bokTo,bokL]
 | k+1,hk=>by
  have h:k<l.length:=by omega
  simp only [bokTo]
  rw [bokTo_take l k (by omega),List.take_succ_eq_append_getElem h,bokL_app]
  congr 1
  simp [bokL,h]
theorem bok_eq (o:Of):bok o=bokL o.orders:=by unfold bok;rw [bokTo_take _ _ (Nat.le_refl _),List.take_length]
theorem OfOk.lines {o:Of}(h:OfOk o):∀w ∈ o.orders,noNl w∧w≠[]∧w.length≤60:=fun w hw=>by
 obtain ⟨r,hr⟩:=h.os w hw
 exact prs_line hr
def runS (o:Of)(ls:List Wd):Of:=ls.foldl doS o
def runTo (o:Of)(ls:List Wd)(k:Nat):Of:=runS o (ls.take k)
theorem runS_snoc (o:Of)(ls:List Wd)(s:Wd):runS o (ls ++ [s])=doS (runS o ls) s:=by simp [runS]
theorem runTo_succ (o:Of)(ls:List Wd){k:Nat}(hk:k<ls.length):runTo o ls (k+1)=doS (runTo o ls k) (ls.getD k []):=by
 unfold runTo
 rw [List.take_succ_eq_append_getElem hk,runS_snoc]
 simp [hk]
theorem runTo_zero (o:Of)(ls:List Wd):runTo o ls 0=o:=by simp [runTo,runS]
theorem kids_lt {l:List Kd}(hs:l.Pairwise fun a b=>a.num<b.num){i j:Nat}(hij:i<j)(hj:j<l.length):(gk l i).num<(gk l j).num:=by
 have:=List.pairwise_iff_getElem.1 hs i j (by omega) hj hij
 unfold gk
 rw [List.getD_eq_getElem?_getD,List.getElem?_eq_getElem (by omega),List.getD_eq_getElem?_getD,List.getElem?_eq_getElem hj]
 exact this
theorem kids_100 {o:Of}(h:OfOk o):o.kids.length≤100:=by
 by_cases e:o.kids.length=0
 ·omega
 have key:∀k,k<o.kids.length→(k:Int)≤(gk o.kids k).num:=by
  intro k
  induction k with
  | zero=>intro hk;have:=(h.kn _ (gk_mem hk)).1;simpa using this
  | succ k ih=>intro hk;have:=ih (by omega);have:=kids_lt h.ks (show k<k+1 by omega) hk;omega
 have a:=key (o.kids.length-1) (by omega)
 have b:=(h.kn _ (gk_mem (show o.kids.length-1<o.kids.length by omega))).2
 omega
end Go.Proofs.YtiapkffihpgdcaaGreatDoor
