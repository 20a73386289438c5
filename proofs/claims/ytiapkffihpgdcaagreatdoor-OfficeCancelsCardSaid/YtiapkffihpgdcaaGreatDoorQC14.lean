import Derived.Test.YtiapkffihpgdcaaGreatDoorQC4
import Derived.Test.YtiapkffihpgdcaaGreatDoorQC8
import Derived.Test.YtiapkffihpgdcaaGreatDoorQC11
import Derived.Test.YtiapkffihpgdcaaGreatDoorQC12
import Derived.StillTailTactics
import Derived.BigQuiet
import Derived.Deep.RegionHeld3
set_option linter.unusedVariables false
set_option linter.unusedSimpArgs false
set_option maxRecDepth 100000
set_option maxHeartbeats 4000000
namespace Go.Proofs.YtiapkffihpgdcaaGreatDoor
open Go.RowKit
theorem letTo_bad {s:Wd}{k n:Nat}(h:(lowB (gb s k) || digB (gb s k))=false)(hn:k<n):letTo s n=false:=by
 induction n with
 | zero=>omega
 | succ n ih =>
  simp only [letTo]
  by_cases e:k=n
  ·subst e;rw [h,Bool.and_false]
  ·rw [ih (by omega)];rfl
theorem digTo_bad {s:Wd}{k n:Nat}(h:digB (gb s k)=false)(hn:k<n):digTo s n=false:=by
 induction n with
 | zero=>omega
 | succ n ih =>
  simp only [digTo]
  by_cases e:k=n
  ·subst e;rw [h,Bool.and_false]
  ·rw [ih (by omega)];rfl
theorem formB_no {s:Wd}(h:s.length<1∨7<s.length∨1<s.length∧gb s 0=48):formB s=false:=by
 unfold formB
 rw [decide_eq_false_iff_not]
 rintro ⟨h1,h2,h3⟩
 rcases h with h | h | ⟨h,h'⟩
 ·omega
 ·omega
 ·rcases h3 with h3 | h3
  ·omega
  ·exact h3 h'
theorem numV_form {s:Wd}(h:formB s=false):numV s=0:=by unfold numV;rw [h];rfl
theorem numOk_form {s:Wd}(h:formB s=false):numOk s=false:=by unfold numOk;rw [h];rfl
theorem letters_any (s:Wd)(hs:s.length≤1000000000)(w:World):Calls Tryz.prog 233 #[St s] w fun e w'=>e=.returned (.bool (letB s))∧w'=w:=by
 obtain ⟨S,hS⟩:∃S,S=letB s:=⟨_,rfl⟩
 rw [← hS]
 have HS:=Lib.hid hS;clear hS
 go_enter Tryz.func233,Tryz.ntmps233
 go_wp2
 go_loop [6] (fun x=>∃k:Nat,k≤s.length∧x=.int .i64 k∧Hid (letTo s k=true)) (fun x=>s.length-(intOf x).toNat)
 case atStart=>exact ⟨0,by omega,rfl,rfl⟩
 case round =>
  obtain ⟨k,hk,rfl,HK⟩:=hrel
  by_cases hlt:k<s.length
  ·have hsz:k<ByteArray.size ⟨s.toArray⟩:=by rw [st_size];exact hlt
   have hg:=st_get s k hsz
   have hgb:gb s k=(⟨s.toArray⟩:ByteArray)[k]'hsz:=by rw [hg];simp [gb,hlt]
   have hgood:48≤((⟨s.toArray⟩:ByteArray)[k]'hsz).toNat∧((⟨s.toArray⟩:ByteArray)[k]'hsz).toNat≤57∨97≤((⟨s.toArray⟩:ByteArray)[k]'hsz).toNat∧((⟨s.toArray⟩:ByteArray)[k]'hsz).toNat≤122→letTo s (k+1)=true:=fun h=>by
    simp only [letTo,HK.out,Bool.true_and];unfold lowB digB;rw [hgb,Bool.or_eq_true,decide_eq_true_eq,decide_eq_true_eq];omega
   have hbad:¬ (48≤((⟨s.toArray⟩:ByteArray)[k]'hsz).toNat∧((⟨s.toArray⟩:ByteArray)[k]'hsz).toNat≤57∨97≤((⟨s.toArray⟩:ByteArray)[k]'hsz).toNat∧((⟨s.toArray⟩:ByteArray)[k]'hsz).toNat≤122)→S=false:=fun h=>by
    rw [HS.out];unfold letB
    have:(lowB (gb s k) || digB (gb s k))=false:=by unfold lowB digB;rw [hgb,Bool.or_eq_false_iff,decide_eq_false_iff_not,decide_eq_false_iff_not];omega
    rw [letTo_bad this hlt];rfl
   have HG:=Lib.hid hgood
   have HB:=Lib.hid hbad
   clear hgood hbad hg hgb
   by_cases c1:((⟨s.toArray⟩:ByteArray)[k]'hsz).toNat<48
   ·have HV:=Lib.hid (HB.out (by omega))
    clear HG HB HS HK
    have c1':((⟨s.toArray⟩:ByteArray)[k]'hsz).toNat<97:=by omega
    go_wp2
    go_ret
    exact ⟨ret_bool HV.out.symm,rfl⟩
   by_cases c2:((⟨s.toArray⟩:ByteArray)[k]'hsz).toNat≤57
   ·have HN:=Lib.hid (HG.out (.inl ⟨by omega,c2⟩))
    clear HG HB HK
    have c1':((⟨s.toArray⟩:ByteArray)[k]'hsz).toNat<97:=by omega
    go_wp2
    go_round
    case rel=>exact ⟨k+1,by omega,by go_num,HN⟩
    case measure=>simp [intOf];omega
   by_cases c3:((⟨s.toArray⟩:ByteArray)[k]'hsz).toNat<97
   ·have HV:=Lib.hid (HB.out (by omega))
    clear HG HB HS HK
    go_wp2
    go_ret
    exact ⟨ret_bool HV.out.symm,rfl⟩
   by_cases c4:((⟨s.toArray⟩:ByteArray)[k]'hsz).toNat≤122
   ·have HN:=Lib.hid (HG.out (.inr ⟨by omega,c4⟩))
    clear HG HB HK
    go_wp2
    go_round
    case rel=>exact ⟨k+1,by omega,by go_num,HN⟩
    case measure=>simp [intOf];omega
   ·have HV:=Lib.hid (HB.out (by omega))
    clear HG HB HS HK
    go_wp2
    go_ret
    exact ⟨ret_bool HV.out.symm,rfl⟩
  ·obtain rfl:k=s.length:=by omega
   have hv:S=decide (s≠[]):=by rw [HS.out];unfold letB;rw [HK.out];rfl
   have HV:=Lib.hid hv;clear hv HS HK
   cases s with
   | nil =>
    go_wp2
    go_ret
    exact ⟨ret_bool (by rw [HV.out];first | rfl | decide | simp),rfl⟩
   | cons b r =>
    go_wp2
    go_ret
    exact ⟨ret_bool (by rw [HV.out];first | rfl | (simp;done) | (simp;omega)),rfl⟩
theorem isWord_any (s:Wd)(hs:s.length≤1000000000)(w:World):Calls Tryz.prog 202 #[St s] w fun e w'=>e=.returned (.bool (letB s))∧w'=w:=by
 obtain ⟨S,hS⟩:∃S,S=letB s:=⟨_,rfl⟩
 rw [← hS]
 have HS:=Lib.hid hS;clear hS
 go_enter Tryz.func202,Tryz.ntmps202
 go_wp2
 go_loop [3] (fun x=>∃k:Nat,k≤s.length∧x=.int .i64 k∧Hid (letTo s k=true)) (fun x=>s.length-(intOf x).toNat)
 case atStart=>exact ⟨0,by omega,rfl,rfl⟩
 case round =>
  obtain ⟨k,hk,rfl,HK⟩:=hrel
  by_cases hlt:k<s.length
  ·have hsz:k<ByteArray.size ⟨s.toArray⟩:=by rw [st_size];exact hlt
   have hg:=st_get s k hsz
   have hgb:gb s k=(⟨s.toArray⟩:ByteArray)[k]'hsz:=by rw [hg];simp [gb,hlt]
   have hgood:48≤((⟨s.toArray⟩:ByteArray)[k]'hsz).toNat∧((⟨s.toArray⟩:ByteArray)[k]'hsz).toNat≤57∨97≤((⟨s.toArray⟩:ByteArray)[k]'hsz).toNat∧((⟨s.toArray⟩:ByteArray)[k]'hsz).toNat≤122→letTo s (k+1)=true:=fun h=>by
    simp only [letTo,HK.out,Bool.true_and];unfold lowB digB;rw [hgb,Bool.or_eq_true,decide_eq_true_eq,decide_eq_true_eq];omega
   have hbad:¬ (48≤((⟨s.toArray⟩:ByteArray)[k]'hsz).toNat∧((⟨s.toArray⟩:ByteArray)[k]'hsz).toNat≤57∨97≤((⟨s.toArray⟩:ByteArray)[k]'hsz).toNat∧((⟨s.toArray⟩:ByteArray)[k]'hsz).toNat≤122)→S=false:=fun h=>by
    rw [HS.out];unfold letB
    have:(lowB (gb s k) || digB (gb s k))=false:=by unfold lowB digB;rw [hgb,Bool.or_eq_false_iff,decide_eq_false_iff_not,decide_eq_false_iff_not];omega
    rw [letTo_bad this hlt];rfl
   have HG:=Lib.hid hgood
   have HB:=Lib.hid hbad
   clear hgood hbad hg hgb
   by_cases c1:((⟨s.toArray⟩:ByteArray)[k]'hsz).toNat<48
   ·have HV:=Lib.hid (HB.out (by omega))
    clear HG HB HS HK
    have c1':((⟨s.toArray⟩:ByteArray)[k]'hsz).toNat<97:=by omega
    go_wp2
    go_ret
    exact ⟨ret_bool HV.out.symm,rfl⟩
   by_cases c2:((⟨s.toArray⟩:ByteArray)[k]'hsz).toNat≤57
   ·have HN:=Lib.hid (HG.out (.inl ⟨by omega,c2⟩))
    clear HG HB HK
    have c1':((⟨s.toArray⟩:ByteArray)[k]'hsz).toNat<97:=by omega
    go_wp2
    go_round
    case rel=>exact ⟨k+1,by omega,by go_num,HN⟩
    case measure=>simp [intOf];omega
   by_cases c3:((⟨s.toArray⟩:ByteArray)[k]'hsz).toNat<97
   ·have HV:=Lib.hid (HB.out (by omega))
    clear HG HB HS HK
    go_wp2
    go_ret
    exact ⟨ret_bool HV.out.symm,rfl⟩
   by_cases c4:((⟨s.toArray⟩:ByteArray)[k]'hsz).toNat≤122
   ·have HN:=Lib.hid (HG.out (.inr ⟨by omega,c4⟩))
    clear HG HB HK
    go_wp2
    go_round
    case rel=>exact ⟨k+1,by omega,by go_num,HN⟩
    case measure=>simp [intOf];omega
   ·have HV:=Lib.hid (HB.out (by omega))
    clear HG HB HS HK
    go_wp2
    go_ret
    exact ⟨ret_bool HV.out.symm,rfl⟩
  ·obtain rfl:k=s.length:=by omega
   have hv:S=decide (s≠[]):=by rw [HS.out];unfold letB;rw [HK.out];rfl
   have HV:=Lib.hid hv;clear hv HS HK
   cases s with
   | nil =>
    go_wp2
    go_ret
    exact ⟨ret_bool (by rw [HV.out];first | rfl | decide | simp),rfl⟩
   | cons b r =>
    go_wp2
    go_ret
    exact ⟨ret_bool (by rw [HV.out];first | rfl | (simp;done) | (simp;omega)),rfl⟩
theorem number_any9 (s:Wd)(hs:s.length≤1000000000)(w:World):Calls Tryz.prog 234 #[St s] w fun e w'=>e=.returned (.tuple #[.int .i64 (numV s),.bool (numOk s)])∧w'=w:=by
 obtain ⟨V,hV⟩:∃V,V=numV s:=⟨_,rfl⟩
 obtain ⟨O,hO⟩:∃O,O=numOk s:=⟨_,rfl⟩
 rw [← hV,← hO]
 have HV:=Lib.hid hV;have HO:=Lib.hid hO;clear hV hO
 by_cases l1:s.length<1
 ·have e1:=Lib.hid (HV.out.trans (numV_form (formB_no (.inl l1))));have e2:=Lib.hid (HO.out.trans (numOk_form (formB_no (.inl l1))));clear HV HO
  have l1':s=[]:=List.eq_nil_of_length_eq_zero (by omega)
  subst l1'
  go_enter Tryz.func234,Tryz.ntmps234
  go_wp2
  go_ret2
  exact ⟨ret2 (congrArg (Value.int .i64) e1.out.symm) (congrArg Value.bool e2.out.symm),rfl⟩
 by_cases l2:7<s.length
 ·have e1:=Lib.hid (HV.out.trans (numV_form (formB_no (.inr (.inl l2)))));have e2:=Lib.hid (HO.out.trans (numOk_form (formB_no (.inr (.inl l2)))));clear HV HO
  go_enter Tryz.func234,Tryz.ntmps234
  go_wp2
  go_ret2
  exact ⟨ret2 (congrArg (Value.int .i64) e1.out.symm) (congrArg Value.bool e2.out.symm),rfl⟩
 have hsz0:0<ByteArray.size ⟨s.toArray⟩:=by rw [st_size];omega
 have hg0:gb s 0=(⟨s.toArray⟩:ByteArray)[0]'hsz0:=by rw [st_get s 0 hsz0];simp [gb,show 0<s.length by omega]
 have cont:formB s=true→Calls Tryz.prog 234 #[St s] w fun e w'=>e=.returned (.tuple #[.int .i64 V,.bool O])∧w'=w:=fun hf=>by
  have hz:(decide (1<s.length) && (((⟨s.toArray⟩:ByteArray)[0]'hsz0).toNat == 48))=false:=by
   unfold formB at hf
   rw [decide_eq_true_eq] at hf
   obtain ⟨_,_,h⟩:=hf
   rcases h with h | h
   ·simp [h]
   ·have:((⟨s.toArray⟩:ByteArray)[0]'hsz0).toNat≠48:=fun e=>h (by rw [hg0];exact UInt8.toNat_inj.1 e)
    simp [this]
  have HF:=Lib.hid hf;clear hf hg0
  go_enter Tryz.func234,Tryz.ntmps234
  have hzz:s.length≤1∨1<s.length∧((((⟨s.toArray⟩:ByteArray)[0]'hsz0).toNat:Int) == 48)=false:=by
   rw [Bool.and_eq_false_iff,decide_eq_false_iff_not,beq_eq_false_iff_ne] at hz
   rcases hz with h | h
   ·exact .inl (by omega)
   ·by_cases e:1<s.length
    ·exact .inr ⟨e,by rw [beq_eq_false_iff_ne];omega⟩
    ·exact .inl (by omega)
  clear hz
  rcases hzz with hz | ⟨hz,hz'⟩
  all_goals
   go_wp2
   go_loop [4,26] (fun o x=>∃k:Nat,k≤s.length∧x=.int .i64 k∧o=.int .i64 (numTo' s k:Nat)∧Hid (digTo s k=true)) (fun _ x=>s.length-(intOf x).toNat)
   case atStart=>exact ⟨0,by omega,rfl,rfl,rfl⟩
   case round =>
    obtain ⟨k,hk,rfl,rfl,HK⟩:=hrel
    have hlt9:=numTo'_lt HK.out
    have hp7:10 ^ k≤10 ^ 7:=Nat.pow_le_pow_right (by omega) (by omega)
    by_cases hlt:k<s.length
    ·have hsz:k<ByteArray.size ⟨s.toArray⟩:=by rw [st_size];exact hlt
     have hgb:gb s k=(⟨s.toArray⟩:ByteArray)[k]'hsz:=by rw [st_get s k hsz];simp [gb,hlt]
     have hgood:48≤((⟨s.toArray⟩:ByteArray)[k]'hsz).toNat→((⟨s.toArray⟩:ByteArray)[k]'hsz).toNat≤57→digTo s (k+1)=true:=fun h h'=>by
      simp only [digTo,HK.out,Bool.true_and];unfold digB;rw [hgb,decide_eq_true_eq];omega
     have hbad:¬ (48≤((⟨s.toArray⟩:ByteArray)[k]'hsz).toNat∧((⟨s.toArray⟩:ByteArray)[k]'hsz).toNat≤57)→V=0∧O=false:=fun h=>by
      have hd:digTo s s.length=false:=digTo_bad (by unfold digB;rw [hgb,decide_eq_false_iff_not];exact h) hlt
      exact ⟨HV.out.trans (by unfold numV;rw [hd,Bool.and_false];rfl),HO.out.trans (by unfold numOk;rw [hd];simp)⟩
     have hnx:48≤((⟨s.toArray⟩:ByteArray)[k]'hsz).toNat→((numTo' s (k+1):Nat):Int)=10*(numTo' s k:Nat)+(((((⟨s.toArray⟩:ByteArray)[k]'hsz).toNat:Nat):Int)-48):=fun h=>by simp only [numTo'];rw [hgb];omega
     have HG:=Lib.hid hgood
     have HB:=Lib.hid hbad
     have HX:=Lib.hid hnx
     clear hgood hbad hgb hnx
     by_cases c1:((⟨s.toArray⟩:ByteArray)[k]'hsz).toNat<48
     ·have e1:=Lib.hid (HB.out (by omega)).1;have e2:=Lib.hid (HB.out (by omega)).2
      clear HG HB HV HO HK HX
      go_wp2
      go_ret2
      exact ⟨ret2 (congrArg (Value.int .i64) e1.out.symm) (congrArg Value.bool e2.out.symm),rfl⟩
     by_cases c2:57<((⟨s.toArray⟩:ByteArray)[k]'hsz).toNat
     ·have e1:=Lib.hid (HB.out (by omega)).1;have e2:=Lib.hid (HB.out (by omega)).2
      clear HG HB HV HO HK HX
      go_wp2
      go_ret2
      exact ⟨ret2 (congrArg (Value.int .i64) e1.out.symm) (congrArg Value.bool e2.out.symm),rfl⟩
     ·have HN:=Lib.hid (HG.out (by omega) (by omega))
      have HX':=Lib.hid (HX.out (by omega))
      clear HG HB HK HX
      go_wp2
      go_round
      case rel=>exact ⟨k+1,by omega,by go_num,by rw [HX'.out],HN⟩
      case measure=>simp [intOf];omega
    ·obtain rfl:k=s.length:=by omega
     have e1:V=(numTo' s s.length:Nat):=HV.out.trans (by unfold numV;rw [HF.out,HK.out];rfl)
     have e2:O=decide (numTo' s s.length≤2000000):=HO.out.trans (by unfold numOk;rw [HF.out,HK.out];rfl)
     have E1:=Lib.hid e1;have E2:=Lib.hid e2
     clear e1 e2 HV HO HF HK
     go_wp2
     go_ret2
     exact ⟨ret2 (congrArg (Value.int .i64) E1.out.symm) (by rw [E2.out];show Value.bool _=_;congr 1;rw [decide_eq_decide];omega),rfl⟩
 by_cases l3:1<s.length
 ·by_cases c0:((⟨s.toArray⟩:ByteArray)[0]'hsz0).toNat=48
  ·have h3:formB s=false:=formB_no (.inr (.inr ⟨l3,by rw [hg0];exact UInt8.toNat_inj.1 c0⟩))
   have e1:=Lib.hid (HV.out.trans (numV_form h3));have e2:=Lib.hid (HO.out.trans (numOk_form h3));clear HV HO cont h3 hg0
   have c0':((((⟨s.toArray⟩:ByteArray)[0]'hsz0).toNat:Int) == 48)=true:=by rw [beq_iff_eq];omega
   go_enter Tryz.func234,Tryz.ntmps234
   go_wp2
   go_ret2
   exact ⟨ret2 (congrArg (Value.int .i64) e1.out.symm) (congrArg Value.bool e2.out.symm),rfl⟩
  ·exact cont (by unfold formB;rw [decide_eq_true_eq];refine ⟨by omega,by omega,.inr fun e=>c0 ?_⟩;rw [← hg0,e];rfl)
 ·exact cont (by unfold formB;rw [decide_eq_true_eq];exact ⟨by omega,by omega,.inl (by omega)⟩)
theorem rnumber_any9 (s:Wd)(hs:s.length≤1000000000)(w:World):Calls Tryz.prog 203 #[St s] w fun e w'=>e=.returned (.tuple #[.int .i64 (numV s),.bool (numOk s)])∧w'=w:=by
 obtain ⟨V,hV⟩:∃V,V=numV s:=⟨_,rfl⟩
 obtain ⟨O,hO⟩:∃O,O=numOk s:=⟨_,rfl⟩
 rw [← hV,← hO]
 have HV:=Lib.hid hV;have HO:=Lib.hid hO;clear hV hO
 by_cases l1:s.length<1
 ·have e1:=Lib.hid (HV.out.trans (numV_form (formB_no (.inl l1))));have e2:=Lib.hid (HO.out.trans (numOk_form (formB_no (.inl l1))));clear HV HO
  have l1':s=[]:=List.eq_nil_of_length_eq_zero (by omega)
  subst l1'
  go_enter Tryz.func203,Tryz.ntmps203
  go_wp2
  go_ret2
  exact ⟨ret2 (congrArg (Value.int .i64) e1.out.symm) (congrArg Value.bool e2.out.symm),rfl⟩
 by_cases l2:7<s.length
 ·have e1:=Lib.hid (HV.out.trans (numV_form (formB_no (.inr (.inl l2)))));have e2:=Lib.hid (HO.out.trans (numOk_form (formB_no (.inr (.inl l2)))));clear HV HO
  go_enter Tryz.func203,Tryz.ntmps203
  go_wp2
  go_ret2
  exact ⟨ret2 (congrArg (Value.int .i64) e1.out.symm) (congrArg Value.bool e2.out.symm),rfl⟩
 have hsz0:0<ByteArray.size ⟨s.toArray⟩:=by rw [st_size];omega
 have hg0:gb s 0=(⟨s.toArray⟩:ByteArray)[0]'hsz0:=by rw [st_get s 0 hsz0];simp [gb,show 0<s.length by omega]
 have cont:formB s=true→Calls Tryz.prog 203 #[St s] w fun e w'=>e=.returned (.tuple #[.int .i64 V,.bool O])∧w'=w:=fun hf=>by
  have hz:(decide (1<s.length) && (((⟨s.toArray⟩:ByteArray)[0]'hsz0).toNat == 48))=false:=by
   unfold formB at hf
   rw [decide_eq_true_eq] at hf
   obtain ⟨_,_,h⟩:=hf
   rcases h with h | h
   ·simp [h]
   ·have:((⟨s.toArray⟩:ByteArray)[0]'hsz0).toNat≠48:=fun e=>h (by rw [hg0];exact UInt8.toNat_inj.1 e)
    simp [this]
  have HF:=Lib.hid hf;clear hf hg0
  go_enter Tryz.func203,Tryz.ntmps203
  have hzz:s.length≤1∨1<s.length∧((((⟨s.toArray⟩:ByteArray)[0]'hsz0).toNat:Int) == 48)=false:=by
   rw [Bool.and_eq_false_iff,decide_eq_false_iff_not,beq_eq_false_iff_ne] at hz
   rcases hz with h | h
   ·exact .inl (by omega)
   ·by_cases e:1<s.length
    ·exact .inr ⟨e,by rw [beq_eq_false_iff_ne];omega⟩
    ·exact .inl (by omega)
  clear hz
  rcases hzz with hz | ⟨hz,hz'⟩
  all_goals
   go_wp2
   go_loop [4,5] (fun o x=>∃k:Nat,k≤s.length∧x=.int .i64 k∧o=.int .i64 (numTo' s k:Nat)∧Hid (digTo s k=true)) (fun _ x=>s.length-(intOf x).toNat)
   case atStart=>exact ⟨0,by omega,rfl,rfl,rfl⟩
   case round =>
    obtain ⟨k,hk,rfl,rfl,HK⟩:=hrel
    have hlt9:=numTo'_lt HK.out
    have hp7:10 ^ k≤10 ^ 7:=Nat.pow_le_pow_right (by omega) (by omega)
    by_cases hlt:k<s.length
    ·have hsz:k<ByteArray.size ⟨s.toArray⟩:=by rw [st_size];exact hlt
     have hgb:gb s k=(⟨s.toArray⟩:ByteArray)[k]'hsz:=by rw [st_get s k hsz];simp [gb,hlt]
     have hgood:48≤((⟨s.toArray⟩:ByteArray)[k]'hsz).toNat→((⟨s.toArray⟩:ByteArray)[k]'hsz).toNat≤57→digTo s (k+1)=true:=fun h h'=>by
      simp only [digTo,HK.out,Bool.true_and];unfold digB;rw [hgb,decide_eq_true_eq];omega
     have hbad:¬ (48≤((⟨s.toArray⟩:ByteArray)[k]'hsz).toNat∧((⟨s.toArray⟩:ByteArray)[k]'hsz).toNat≤57)→V=0∧O=false:=fun h=>by
      have hd:digTo s s.length=false:=digTo_bad (by unfold digB;rw [hgb,decide_eq_false_iff_not];exact h) hlt
      exact ⟨HV.out.trans (by unfold numV;rw [hd,Bool.and_false];rfl),HO.out.trans (by unfold numOk;rw [hd];simp)⟩
     have hnx:48≤((⟨s.toArray⟩:ByteArray)[k]'hsz).toNat→((numTo' s (k+1):Nat):Int)=10*(numTo' s k:Nat)+(((((⟨s.toArray⟩:ByteArray)[k]'hsz).toNat:Nat):Int)-48):=fun h=>by simp only [numTo'];rw [hgb];omega
     have HG:=Lib.hid hgood
     have HB:=Lib.hid hbad
     have HX:=Lib.hid hnx
     clear hgood hbad hgb hnx
     by_cases c1:((⟨s.toArray⟩:ByteArray)[k]'hsz).toNat<48
     ·have e1:=Lib.hid (HB.out (by omega)).1;have e2:=Lib.hid (HB.out (by omega)).2
      clear HG HB HV HO HK HX
      go_wp2
      go_ret2
      exact ⟨ret2 (congrArg (Value.int .i64) e1.out.symm) (congrArg Value.bool e2.out.symm),rfl⟩
     by_cases c2:57<((⟨s.toArray⟩:ByteArray)[k]'hsz).toNat
     ·have e1:=Lib.hid (HB.out (by omega)).1;have e2:=Lib.hid (HB.out (by omega)).2
      clear HG HB HV HO HK HX
      go_wp2
      go_ret2
      exact ⟨ret2 (congrArg (Value.int .i64) e1.out.symm) (congrArg Value.bool e2.out.symm),rfl⟩
     ·have HN:=Lib.hid (HG.out (by omega) (by omega))
      have HX':=Lib.hid (HX.out (by omega))
      clear HG HB HK HX
      go_wp2
      go_round
      case rel=>exact ⟨k+1,by omega,by go_num,by rw [HX'.out],HN⟩
      case measure=>simp [intOf];omega
    ·obtain rfl:k=s.length:=by omega
     have e1:V=(numTo' s s.length:Nat):=HV.out.trans (by unfold numV;rw [HF.out,HK.out];rfl)
     have e2:O=decide (numTo' s s.length≤2000000):=HO.out.trans (by unfold numOk;rw [HF.out,HK.out];rfl)
     have E1:=Lib.hid e1;have E2:=Lib.hid e2
     clear e1 e2 HV HO HF HK
     go_wp2
     go_ret2
     exact ⟨ret2 (congrArg (Value.int .i64) E1.out.symm) (by rw [E2.out];show Value.bool _=_;congr 1;rw [decide_eq_decide];omega),rfl⟩
 by_cases l3:1<s.length
 ·by_cases c0:((⟨s.toArray⟩:ByteArray)[0]'hsz0).toNat=48
  ·have h3:formB s=false:=formB_no (.inr (.inr ⟨l3,by rw [hg0];exact UInt8.toNat_inj.1 c0⟩))
   have e1:=Lib.hid (HV.out.trans (numV_form h3));have e2:=Lib.hid (HO.out.trans (numOk_form h3));clear HV HO cont h3 hg0
   have c0':((((⟨s.toArray⟩:ByteArray)[0]'hsz0).toNat:Int) == 48)=true:=by rw [beq_iff_eq];omega
   go_enter Tryz.func203,Tryz.ntmps203
   go_wp2
   go_ret2
   exact ⟨ret2 (congrArg (Value.int .i64) e1.out.symm) (congrArg Value.bool e2.out.symm),rfl⟩
  ·exact cont (by unfold formB;rw [decide_eq_true_eq];refine ⟨by omega,by omega,.inr fun e=>c0 ?_⟩;rw [← hg0,e];rfl)
 ·exact cont (by unfold formB;rw [decide_eq_true_eq];exact ⟨by omega,by omega,.inl (by omega)⟩)
/-- The place of a dish;-1 if there is none. -/
def dix (l:List Dh)(n:Wd):Int:=match l.findIdx? (fun x=>decide (x.name=n)) with
 | some i=>i
 | none=>-1
theorem dix_none {l:List Dh}{n:Wd}(h:dishB l n=false):dix l n = -1:=by
 unfold dishB at h
 rw [anyTo_false] at h
 unfold dix
 rw [List.findIdx?_eq_none_iff.2 fun x hx=>?_]
 obtain ⟨i,hi,rfl⟩:=List.mem_iff_getElem.1 hx
 have:=h i hi
 simpa [gd,hi] using this
theorem dix_first {l:List Dh}{n:Wd}{k:Nat}(hk:k<l.length)(h:(gd l k).name=n)(hb:anyTo (fun i=>decide ((gd l i).name=n)) k=false):dix l n=k:=by
 rw [anyTo_false] at hb
 unfold dix
 have e:l.findIdx? (fun x=>decide (x.name=n))=some k:=by
  rw [List.findIdx?_eq_some_iff_getElem]
  refine ⟨hk,?_,fun j hj=>?_⟩
  ·simpa [gd,hk] using h
  ·have:=hb j hj
   simp [gd,show j<l.length by omega] at this
   simpa using this
 rw [e]
theorem dix_some {l:List Dh}{n:Wd}(h:dishB l n=true):∃k:Nat,k<l.length∧dix l n=k∧(gd l k).name=n∧gd l k=dshOf l n:=by
 unfold dishB at h
 rw [anyTo_iff] at h
 obtain ⟨i,hi,hn⟩:=h
 obtain ⟨k,hk⟩:∃k,(l.findIdx? fun x=>decide (x.name=n))=some k:=by
  cases hf:l.findIdx? fun x=>decide (x.name=n) with
  | some k=>exact ⟨k,rfl⟩
  | none =>
   have:=List.findIdx?_eq_none_iff.1 hf l[i] (List.getElem_mem hi)
   simp [gd,hi] at hn
   simp [hn] at this
 obtain ⟨h1,h2,h3⟩:=List.findIdx?_eq_some_iff_getElem.1 hk
 refine ⟨k,h1,by unfold dix;rw [hk],by simpa [gd,h1] using h2,?_⟩
 have e:l.find? (fun x=>decide (x.name=n))=some l[k]:=by
  rw [List.find?_eq_some_iff_getElem]
  exact ⟨h2,k,h1,rfl,fun j hj=>by simpa using h3 j hj⟩
 unfold dshOf
 rw [e]
 simp [gd,h1]
theorem dix_no {l:List Dh}{n:Wd}(hh:dishB l n=false):decide (dix l n<0)=true∧decide (0≤dix l n)=false:=by rw [dix_none hh];exact ⟨rfl,rfl⟩
theorem dix_yes {l:List Dh}{n:Wd}(hh:dishB l n=true):decide (dix l n<0)=false∧decide (0≤dix l n)=true:=by
 obtain ⟨k,_,hk,_⟩:=dix_some hh
 rw [hk,decide_eq_false_iff_not,decide_eq_true_eq];omega
theorem indexDish_serve (l:List Dh)(n:Wd)(hl:l.length≤1000000000)(A:Option Addr)(c b:Nat)(w:World)(hR:RDh (fun _=>True) w A l)(hb:w.cell? ⟨b,0,none⟩=some (St n))(hbs:b<w.heap.size) :
  Calls Tryz.prog 104 #[.slice A l.length c,.func (.func 286) #[] #[.pointer (some ⟨b,0,none⟩)]] w fun e w'=>e=.returned (.int .i64 (dix l n))∧Below w.heap.size w w':=by
 obtain ⟨S,hS⟩:∃S,S=dix l n:=⟨_,rfl⟩
 rw [← hS]
 have HS:=Lib.hid hS;clear hS
 go_enter Tryz.func104,Tryz.ntmps104
 go_wp2
 go_loopw [8] (fun x wr=>∃k:Nat,k≤l.length∧x=.int .i64 k∧Hid (anyTo (fun i=>decide ((gd l i).name=n)) k=false)∧Below w.heap.size w wr) (fun x _=>l.length-(intOf x).toNat)
 case atStart=>exact ⟨0,by omega,rfl,rfl,Below.refl _ _⟩
 case round =>
  obtain ⟨k,hkl,rfl,HK,hbl⟩:=hrel
  have hbr:=(hbl.cell (p:=⟨b,0,none⟩) hbs).trans hb
  have hsz:=hbl.size
  by_cases hlt:k<l.length
  ·obtain ⟨ad,rfl,hab,_,d0,d1⟩:=R2.at_ (R2.below hR hbl) hlt
   obtain ⟨nm,hnm⟩:∃nm,nm=(gd l k).name:=⟨_,rfl⟩
   have HNM:=Lib.hid hnm
   rw [← hnm] at d0
   clear hnm
   obtain ⟨w5,hw5⟩:∃w5,wr.alloc (.cells #[St nm,.int .i64 (gd l k).item] 81)=w5:=⟨_,rfl⟩
   have hb5:Below wr.heap.size wr w5:=by rw [← hw5];exact (Below.refl _ wr).alloc (Nat.le_refl _) _
   have b5:Box w5 wr.heap.size #[St nm,.int .i64 (gd l k).item]:=by rw [← hw5];exact (Box.new wr _ _)
   have u0:=b5.cell 0
   simp only [gqA,gqB,gqC] at u0
   have hbr5:=(hb5.cell (p:=⟨b,0,none⟩) (by show b<wr.heap.size;omega)).trans hbr
   have hbl5:=hbl.trans (hb5.mono hsz)
   by_cases hn:nm=n
   ·have HV:=Lib.hid (HS.out.trans (dix_first hlt (by rw [← HNM.out];exact hn) HK.out))
    have hn':(nm == n)=true:=by simp [hn]
    clear HS HK hn
    go_wp2
    go_ret
    exact ⟨ret_int HV.out.symm,hbl5⟩
   ·have HN:Hid (anyTo (fun i=>decide ((gd l i).name=n)) (k+1)=false):=by
     show _=_
     simp only [anyTo]
     rw [HK.out,← HNM.out,decide_eq_false hn];rfl
    have hn':(nm == n)=false:=by simp [hn]
    clear HS HK hn
    go_wp2
    go_roundw
    case rel=>exact ⟨k+1,by omega,by go_num,HN,hbl5⟩
    case measure=>simp [intOf];omega
  ·obtain rfl:k=l.length:=by omega
   have HV:=Lib.hid (HS.out.trans (dix_none HK.out))
   clear HS HK
   go_wp2
   go_ret
   exact ⟨ret_int HV.out.symm,hbl⟩
theorem containsDish_any (l:List Dh)(n:Wd)(hl:l.length≤1000000000)(A:Option Addr)(c b:Nat)(w:World)(hR:RDh (fun _=>True) w A l)(hb:w.cell? ⟨b,0,none⟩=some (St n))(hbs:b<w.heap.size) :
  Calls Tryz.prog 285 #[.slice A l.length c,.func (.func 286) #[] #[.pointer (some ⟨b,0,none⟩)]] w fun e w'=>e=.returned (.bool (dishB l n))∧Below w.heap.size w w':=by
 have hd:decide (0≤dix l n)=dishB l n:=by
  cases h:dishB l n with
  | true=>exact (dix_yes h).2
  | false=>exact (dix_no h).2
 have HD:=Lib.hid hd
 clear hd
 go_enter Tryz.func285,Tryz.ntmps285
 go_wp2_with (go_at_call 104;(with_reducible refine (indexDish_serve l n hl A c b _ hR hb hbs).mono ?_);rintro e w2 ⟨rfl,hb2⟩)
 go_ret
 exact ⟨ret_bool HD.out,hb2⟩
end Go.Proofs.YtiapkffihpgdcaaGreatDoor
namespace Go.Proofs.YtiapkffihpgdcaaGreatDoor
open Go.RowKit Go.Sort
def chgQ (s:Of)(av:List Int)(f t:Int)(d:Nat):Bool:=decide (f≤d∧(d:Int)<t) && dayHarm s av d
theorem chgQ_start (s:Of)(av:List Int)(f t:Int):anyTo (chgQ s av f t) (min f.toNat s.days)=false:=by
 rw [anyTo_false]
 intro i hi
 unfold chgQ
 rw [decide_eq_false (by omega)];rfl
theorem chgQ_step {s:Of}{av:List Int}{f t:Int}{k:Nat}(h:anyTo (chgQ s av f t) (min k s.days)=false)(hd:k<s.days)(hh:dayHarm s av k=false):anyTo (chgQ s av f t) (min (k+1) s.days)=false:=by
 rw [anyTo_false] at h ⊢
 intro i hi
 by_cases e:i=k
 ·subst e;unfold chgQ;rw [hh,Bool.and_false]
 ·exact h i (by omega)
theorem chgQ_end {s:Of}{av:List Int}{f t:Int}{k:Nat}(h:anyTo (chgQ s av f t) (min k s.days)=false)(he:¬ (k:Int)<min t s.days):ordHarm s av f t=false:=by
 unfold ordHarm
 rw [anyTo_false] at h ⊢
 intro i hi
 by_cases e:i<k
 ·exact h i (by omega)
 ·rw [decide_eq_false (by omega)];rfl
theorem chgQ_hit {s:Of}{av:List Int}{f t:Int}{k:Nat}(hf:f≤k)(ht:(k:Int)<t)(hd:k<s.days)(hh:dayHarm s av k=true):ordHarm s av f t=true:=by
 unfold ordHarm
 rw [anyTo_iff]
 exact ⟨k,hd,by rw [hh,decide_eq_true (by omega)];rfl⟩
theorem dayHarm_no {s:Of}{av:List Int}{k:Nat}(h:¬ (0≤s.menu k∧s.menu k<s.dishes.length)):dayHarm s av k=false:=by unfold dayHarm;rw [decide_eq_false h];rfl
theorem dayHarm_yes {s:Of}{av:List Int}{k:Nat}(h:0≤s.menu k∧s.menu k<s.dishes.length):dayHarm s av k=harmB s.bk (gd s.dishes (s.menu k).toNat).item av:=by unfold dayHarm;rw [decide_eq_true h];rfl
theorem RN.cellk {w:World}{ad:Addr}{l:List Int}(h:RN w (some ad) l){k:Nat}(hk:k<l.length)(h0:0<k):w.cell? ⟨ad.block,ad.off+k,none⟩=some (.int .i64 (gi l k)):=by
 obtain ⟨ad',e,_,hc⟩:=h.at_ hk
 cases e
 have:ad.add k=⟨ad.block,ad.off+k,none⟩:=by unfold Addr.add;rw [if_neg (by omega)]
 rw [this] at hc;exact hc
section
variable {L:Int}{N:Nat}{w:World}{F:Nat→Prop}{g:Nat}{h:Hd}{s:Of}
theorem mnL_len (s:Of):(mnL s.tm s.cy).length=s.days:=mnL_length _ _
theorem mnL_gi (s:Of){k:Nat}(hk:k<s.days):gi (mnL s.tm s.cy) k=s.menu k:=mnL_at _ _ _ hk
theorem order_any (hP:PO L N w F g h s)(hE:EnvZ w)(n:List Int)(hn:n.length=3)(h1:0≤gi n 1)(A:Option Addr)(c:Nat)(hR:RN w A n) :
  Calls Tryz.prog 238 #[.pointer (some ⟨g,0,none⟩),.slice A n.length c,.int .i64 1] w (RetO L N w F g (chgE s n 1) (if chgE s n 1=0 then { s with facts:=s.facts ++ [chgF s n 1] } else s)):=by
 obtain ⟨ad,rfl,hab0,e0⟩:=hR.at0 (by omega)
 have e1:=hR.cellk (k:=1) (by omega) (by omega)
 have e2:=hR.cellk (k:=2) (by omega) (by omega)
 rw [hn]
 cases hk:hasK s.kids (gi n 0) with
 | false =>
  have he:chgE s n 1=5:=by unfold chgE;rw [if_pos hk]
  rw [he,if_neg (by decide)]
  have hk':=kix_no hk
  rw [decide_eq_true_eq] at hk'
  clear he
  go_enter Tryz.func238,Tryz.ntmps238
  go_wp2_with (go_at_call 173;(with_reducible refine (child_any hP (gi n 0)).mono ?_);rintro e w2 ⟨rfl,hb2⟩)
  go_ret
  exact hP.quiet (Nat.le_refl _) hb2
 | true =>
  obtain ⟨i,hi,hix,hin,hio⟩:=kix_some hk
  have hE1:chgE s n 1=if ordHarm s (gk s.kids i).avoid (gi n 1) (gi n 2)=true then 14 else addE s.facts (chgF s n 1):=by
   unfold chgE
   rw [if_neg (by rw [hk];decide),← hio]
   by_cases ho:ordHarm s (gk s.kids i).avoid (gi n 1) (gi n 2)=true
   ·rw [if_pos ⟨rfl,ho⟩,if_pos ho]
   ·rw [if_neg (fun h=>ho h.2),if_neg ho]
  have HE1:=Lib.hid hE1
  have HIX:=Lib.hid hix
  have hkx:=kix_yes hk
  rw [decide_eq_false_iff_not] at hkx
  clear hE1 hin hio hk hix
  obtain ⟨av,hav⟩:∃av,av=(gk s.kids i).avoid:=⟨_,rfl⟩
  rw [← hav] at HE1
  have HAV:=Lib.hid hav
  clear hav
  obtain ⟨E,hE⟩:∃E,E=chgE s n 1:=⟨_,rfl⟩
  rw [← hE] at HE1 ⊢
  obtain ⟨T,hT⟩:∃T,T=if E=0 then { s with facts:=s.facts ++ [chgF s n 1] } else s:=⟨_,rfl⟩
  rw [← hT]
  have HT:=Lib.hid hT
  have HEE:=Lib.hid hE
  clear hT hE
  have hi0:decide ((i:Int)<0)=false:=by rw [decide_eq_false_iff_not];omega
  have hdl:=days_le hP.ok.tm
  go_enter Tryz.func238,Tryz.ntmps238
  go_wp2_with (go_at_call 173;(with_reducible refine (child_any hP (gi n 0)).mono ?_);rintro e w1 ⟨rfl,hb1⟩;have HIXX:=HIX.out;rw [HIXX];clear HIXX;have y0:=(hb1.cell hab0).trans e0;have y1:=(hb1.cell (p:=⟨ad.block,ad.off+1,none⟩) hab0).trans e1;have y2:=(hb1.cell (p:=⟨ad.block,ad.off+2,none⟩) hab0).trans e2)
  go_loopw [8] (fun x wr=>∃k:Nat,gi n 1≤k∧x=.int .i64 k∧Hid (anyTo (chgQ s av (gi n 1) (gi n 2)) (min k s.days)=false)∧Below w1.heap.size w1 wr) (fun x _=>s.days-(intOf x).toNat)
  case atStart=>exact ⟨(gi n 1).toNat,by omega,by rw [Int.toNat_of_nonneg h1],chgQ_start _ _ _ _,Below.refl _ _⟩
  case round =>
   obtain ⟨k,hk1,rfl,HK,hbl⟩:=hrel
   have hPr:=hP.below (hb1.trans (hbl.mono hb1.size))
   have qM:=hPr.cMn
   have hab1:ad.block<w1.heap.size:=Nat.lt_of_lt_of_le hab0 hb1.size
   have z2:=(hbl.cell (p:=⟨ad.block,ad.off+2,none⟩) hab1).trans y2
   rw [mnL_len] at qM
   by_cases hlt:(k:Int)<min (gi n 2) (s.days:Int)
   ·have hlt':decide ((k:Int)<min (gi n 2) (s.days:Int))=true:=by rw [decide_eq_true_eq];exact hlt
    have hkd:k<s.days:=by omega
    have hk2:(k:Int)<gi n 2:=by omega
    go_wp2_with fail
    go_quiet (fail)
    have hbd:Below w.heap.size w (wr.drewN nq):=below_drewN (hb1.trans (hbl.mono hb1.size)) nq
    have hbw:Below w1.heap.size w1 (wr.drewN nq):=below_drewN hbl nq
    clear hPr qM z2 hbl hlt'
    generalize wr.drewN nq=wd at *
    have hPd:=hP.below hbd
    have hEd:=hE.below hbd
    have qM:=hPd.cMn;have qD:=hPd.cDs;have qK:=hPd.cKd
    rw [mnL_len] at qM
    obtain ⟨adm,em,hmb,cm⟩:=hPd.mn.rn.at_ (k:=k) (by rw [mnL_len];exact hkd)
    rw [em] at qM
    rw [mnL_gi s hkd] at cm
    obtain ⟨m,hm⟩:∃m,s.menu k=m:=⟨_,rfl⟩
    rw [hm] at cm
    have HM:=Lib.hid hm
    clear hm em
    by_cases hm0:0≤m
    ·obtain ⟨j,rfl⟩:∃j:Nat,m=j:=⟨m.toNat,by omega⟩
     by_cases hj:j<s.dishes.length
     ·obtain ⟨adD,eD,hbD,dD0,dD1⟩:=hPd.dish.at_ hj
      obtain ⟨adK,eK,hbK,_,dK0,dK1⟩:=hPd.kids.at_ hi
      rw [eD] at qD
      rw [eK] at qK
      unfold slN at dK1
      have hvd:=(hPd.av i hi).rn
      have hp0:=hP.ok.bk.p0
      have hp10:=hP.ok.bk.p10
      have hvl:(gk s.kids i).avoid.length≤1000000000:=by have:=isSet_len (hP.ok.ka _ (gk_mem hi)) (by omega);omega
      rw [← HAV.out] at dK1 hvd hvl
      have hdy:dayHarm s av k=harmB s.bk (gd s.dishes j).item av:=by
       rw [dayHarm_yes (by rw [HM.out];omega),HM.out];rfl
      obtain ⟨it,hit⟩:∃it,it=(gd s.dishes j).item:=⟨_,rfl⟩
      rw [← hit] at hdy dD1
      obtain ⟨nu,hnu⟩:∃nu,nu=(gk s.kids i).num:=⟨_,rfl⟩
      rw [← hnu] at dK0
      obtain ⟨H,hH⟩:∃H,H=harmB s.bk it av:=⟨_,rfl⟩
      rw [← hH] at hdy
      have cA:∀d' os,Calls Tryz.prog 211 #[.pointer (some ⟨g,0,none⟩),.agg #[.int .i64 nu,.slice (h.hk i).1 av.length (h.hk i).2],.int .i64 it] (grow (redrawn wd d') os) fun e w''=>e=.returned (.bool H)∧∃p:Regrown,w''=grow (redrawn wd p.d) p.os:=fun d' os=>by
       have hbg:=below_regrown wd d' os
       rw [hH]
       exact Calls.regrown_of (harms_any (hPd.below hbg) (hEd.below hbg) nu av hvl _ _ (hvd.below hbg) it)
      have k0:=cell_regrown qD;have k1:=cell_regrown qK;have k2:=cell_regrown dD1;have k3:=cell_regrown dK0;have k4:=cell_regrown dK1
      have HDY:=Lib.hid hdy
      clear eD eK hit hnu hH hdy dD0 hvl hvd hbD hbK
      have hm0':decide (0≤(j:Int))=true:=by rw [decide_eq_true_eq];omega
      have hj':decide ((j:Int)<(s.dishes.length:Int))=true:=by rw [decide_eq_true_eq];omega
      cases H with
      | true =>
       have hE14:E=14:=by rw [HE1.out,if_pos (chgQ_hit hk1 hk2 hkd HDY.out)]
       have HE14:=Lib.hid hE14
       clear hE14
       go_wp2_with fail
       refine wp_region_quiet_below (by kernel_rfl) (by kernel_rfl) ?_
       repeat (go_big_quiet_step (first | with_reducible exact cA _ _))
       refine wpQuiet_nil ?_
       intro _ hw'
       obtain ⟨⟨dq,osq⟩,hw''⟩:=hw'
       subst hw''
       go_wp2_with fail
       go_ret
       rw [show T=s by rw [HT.out,HE14.out];rfl,HE14.out]
       exact hP.quiet (Nat.le_refl _) (hbd.trans ((below_regrown wd dq osq).mono hbd.size))
      | false =>
       have hst:=chgQ_step (f:=gi n 1) (t:=gi n 2) HK.out hkd HDY.out
       have HST:=Lib.hid hst
       clear hst
       go_wp2_with fail
       refine wp_region_quiet_below (by kernel_rfl) (by kernel_rfl) ?_
       repeat (go_big_quiet_step (first | with_reducible exact cA _ _))
       refine wpQuiet_nil ?_
       intro _ hw'
       obtain ⟨⟨dq,osq⟩,hw''⟩:=hw'
       subst hw''
       go_wp2_with fail
       go_roundw
       case rel=>exact ⟨k+1,by omega,by go_num,HST,hbw.trans ((below_regrown wd dq osq).mono hbw.size)⟩
       case measure=>simp [intOf];omega
     ·have hst:=chgQ_step (f:=gi n 1) (t:=gi n 2) HK.out hkd (dayHarm_no (by rw [HM.out];omega))
      have HST:=Lib.hid hst
      have hm0':decide (0≤(j:Int))=true:=by rw [decide_eq_true_eq];omega
      have hj':decide ((j:Int)<(s.dishes.length:Int))=false:=by rw [decide_eq_false_iff_not];omega
      clear hst
      go_wp2_with fail
      go_quiet (fail)
      go_wp2_with fail
      go_roundw
      case rel=>exact ⟨k+1,by omega,by go_num,HST,below_drewN hbw _⟩
      case measure=>simp [intOf];omega
    ·have hst:=chgQ_step (f:=gi n 1) (t:=gi n 2) HK.out hkd (dayHarm_no (by rw [HM.out];omega))
     have HST:=Lib.hid hst
     have hm0':decide (0≤m)=false:=by rw [decide_eq_false_iff_not];omega
     clear hst
     go_wp2_with fail
     go_quiet (fail)
     go_wp2_with fail
     go_roundw
     case rel=>exact ⟨k+1,by omega,by go_num,HST,below_drewN hbw _⟩
     case measure=>simp [intOf];omega
   ·have hlt':decide ((k:Int)<min (gi n 2) (s.days:Int))=false:=by rw [decide_eq_false_iff_not];exact hlt
    have hE2:E=addE s.facts (chgF s n 1):=by rw [HE1.out,if_neg (by rw [chgQ_end HK.out hlt];decide)]
    have HE2:=Lib.hid hE2
    clear hE2
    go_wp2_with fail
    go_quiet (fail)
    have hbd:Below w.heap.size w (wr.drewN nq):=below_drewN (hb1.trans (hbl.mono hb1.size)) nq
    clear hPr qM z2 hlt'
    generalize wr.drewN nq=wd at *
    have hPd:=hP.below hbd
    have qF:=hPd.cFa;have qN:=hPd.cNow
    have hab2:ad.block<w.heap.size:=hab0
    have z0:=(hbd.cell hab2).trans e0
    have z1:=(hbd.cell (p:=⟨ad.block,ad.off+1,none⟩) hab2).trans e1
    have z2:=(hbd.cell (p:=⟨ad.block,ad.off+2,none⟩) hab2).trans e2
    go_wp2_with fail
    have hfl:=hP.ok.fl
    have hgl:=hPd.gl
    have hab3:ad.block<wd.heap.size:=Nat.lt_of_lt_of_le hab2 hbd.size
    have hRF:=hPd.rf
    go_region_held3 (fun w'=>w'.cell? ⟨g,15,none⟩=some (.slice h.fa.1 s.facts.length h.fa.2)∧w'.cell? ⟨g,12,none⟩=some (.int .i64 s.now)∧w'.cell? ad=some (.int .i64 (gi n 0))∧w'.cell? ⟨ad.block,ad.off+1,none⟩=some (.int .i64 (gi n 1))∧w'.cell? ⟨ad.block,ad.off+2,none⟩=some (.int .i64 (gi n 2)))
     (first | go_keep | exact ⟨k0,k1,k2,k3,k4⟩)
     (first | (go_at_call 290;refine (addX_any s.facts (chgF s n 1) (by omega) h.fa.1 h.fa.2 wd.heap.size _ ?_).mono ?_;(first | exact hRF | exact hRF.drew);rintro e w2 ⟨A',c',rfl,own2,hb2⟩;have hb2':Below wd.heap.size wd w2:=((Below.refl wd.heap.size wd).drew).trans hb2;have k0:=(hb2'.cell (p:=⟨g,15,none⟩) hgl).trans qF;have k1:=(hb2'.cell (p:=⟨g,12,none⟩) hgl).trans qN;have k2:=(hb2'.cell hab3).trans z0;have k3:=(hb2'.cell (p:=⟨ad.block,ad.off+1,none⟩) hab3).trans z1;have k4:=(hb2'.cell (p:=⟨ad.block,ad.off+2,none⟩) hab3).trans z2))
    have hb5:=hbd.trans (hb2'.mono hbd.size)
    have hP4:=hP.below' hb5
    have hgf:=hP4.box.free 15
    obtain ⟨X,hX⟩:∃X,X=addE s.facts (chgF s n 1):=⟨_,rfl⟩
    rw [← hX]
    by_cases hv:X=0
    ·have hv1:(X == 0)=true:=by simp [hv]
     have hEz:E=0:=by rw [HE2.out,← hX,hv]
     have hz:=addE_zero (hX.symm.trans hv)
     have haR:addR s.facts (chgF s n 1)=s.facts ++ [chgF s n 1]:=by unfold addR;rw [if_pos hz]
     rw [haR] at own2
     have hT2:T={ s with facts:=s.facts ++ [chgF s n 1] }:=by rw [HT.out,if_pos hEz]
     have hR4:ReadsF (Im (grown F w w2) g h) w2 5 A' (s.facts ++ [chgF s n 1]).length (cellsF (s.facts ++ [chgF s n 1])):=ReadsF.of_own' own2 (fun k h1 h2=>hP.new_im (Nat.le_trans hbd.size h1) h2)
     have hok:=hP.ok.chg (n:=n) (.inr rfl) (by rw [← HEE.out];exact hEz)
     have hS:=hP4.setFacts (c:=c') hR4 own2.cap hok
     have HT2:=Lib.hid hT2
     have HEz:=Lib.hid hEz
     have HaR:=Lib.hid haR
     have HX:=Lib.hid hX
     have HV:=Lib.hid hv
     clear hT2 hR4 hEz haR hX hv hz
     go_wp2_with fail
     go_ret
     rw [HT2.out,HEz.out,HaR.out,HV.out]
     exact ⟨rfl,(Off.of_below hb5).setCell (.inl hP.gF) _,_,hS.re fun k=>(grown_set _ _ k).symm⟩
    ·have hv1:(X == 0)=false:=by simp [hv]
     have hT2:T=s:=by rw [HT.out,if_neg (by rw [HE2.out,← hX];exact hv)]
     have hEX:E=X:=by rw [HE2.out,hX]
     have HT2:=Lib.hid hT2
     have HEX:=Lib.hid hEX
     clear hT2 hv hX hEX
     go_wp2_with fail
     go_ret
     rw [HT2.out,HEX.out]
     exact hP.quiet (Nat.le_refl _) hb5
end
end Go.Proofs.YtiapkffihpgdcaaGreatDoor
