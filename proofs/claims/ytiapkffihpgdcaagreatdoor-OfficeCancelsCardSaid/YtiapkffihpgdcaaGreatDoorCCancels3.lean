/-
  OfficeCancels: for every firm, every list of orders and every cancellation that comes late the law returns true, panics nowhere and leaves its arguments as they were: what is owed behind a cancelling is what it was, less the meal, if the meal was owed and was not known a day before. On the tied card: no condition of its own beyond the card's.
-/
import Derived.Test.YtiapkffihpgdcaaGreatDoorQC1
import Derived.Test.YtiapkffihpgdcaaGreatDoorQC2
import Derived.Test.YtiapkffihpgdcaaGreatDoorQC3
import Derived.Test.YtiapkffihpgdcaaGreatDoorQC4
import Derived.Test.YtiapkffihpgdcaaGreatDoorQC5
import Derived.Test.YtiapkffihpgdcaaGreatDoorQC6
import Derived.Test.YtiapkffihpgdcaaGreatDoorQC7
import Derived.Test.YtiapkffihpgdcaaGreatDoorQC8
import Derived.Test.YtiapkffihpgdcaaGreatDoorQC9
import Derived.Test.YtiapkffihpgdcaaGreatDoorQC10
import Derived.Test.YtiapkffihpgdcaaGreatDoorQC11
import Derived.Test.YtiapkffihpgdcaaGreatDoorQC12
import Derived.Test.YtiapkffihpgdcaaGreatDoorQC13
import Derived.Test.YtiapkffihpgdcaaGreatDoorQC14
import Derived.Test.YtiapkffihpgdcaaGreatDoorQC15
import Derived.Test.YtiapkffihpgdcaaGreatDoorQC16
import Derived.Test.YtiapkffihpgdcaaGreatDoorQC17
import Derived.Test.YtiapkffihpgdcaaGreatDoorQC18
import Derived.Test.YtiapkffihpgdcaaGreatDoorQC19
import Derived.Test.YtiapkffihpgdcaaGreatDoorQC20
import Derived.Test.YtiapkffihpgdcaaGreatDoorQC21
import Derived.Test.YtiapkffihpgdcaaGreatDoorQC22
import Derived.Test.YtiapkffihpgdcaaGreatDoorQC23
import Derived.Test.YtiapkffihpgdcaaGreatDoorQC24
import Derived.Test.YtiapkffihpgdcaaGreatDoorQC25
import Derived.Test.YtiapkffihpgdcaaGreatDoorQC26
import Derived.Test.YtiapkffihpgdcaaGreatDoorQC27
import Derived.Test.YtiapkffihpgdcaaGreatDoorQC28
import Derived.Test.YtiapkffihpgdcaaGreatDoorQC29
import Derived.Test.YtiapkffihpgdcaaGreatDoorQC30
import Derived.Test.YtiapkffihpgdcaaGreatDoorQC31
import Derived.Test.YtiapkffihpgdcaaGreatDoorCCancels2
import Derived.IntWalk
import Derived.ScopeJumps
import Derived.WalkMore
import Derived.StillTailTactics
import Derived.BigRegion
import Derived.Test.YtiapkffihpgdcaaGreatDoorTie
import Derived.Test.YtiapkffihpgdcaaGreatDoorCards
import Derived.SevenTiedAt
import Derived.ChangeMaps5
set_option linter.unusedVariables false
set_option linter.unusedSimpArgs false
set_option maxRecDepth 100000
namespace Go.Proofs.YtiapkffihpgdcaaGreatDoor
open Go.ChangeShapes Go.WideShapes Go.ChangeAt Go.RowKit Go.Deep Go.Joins
theorem handed_shaped {H:Type}{enc:TypeId × Value→H}{a:Assume}{C:Checked}{os:Os}{f:FuncId}{fn:Func}{s:ChangeSpec}{conds:List PathCond}{apart fresh handsOn again:Bool}{X:World→Array Value→Prop}
  (hX:∀(w w':World) (args:Array Value),w.heap=w'.heap→X w args→X w' args)
  (own:ownKnob C.prog.godebug=none) (started:os.Started) (noInit:C.prog.inits.idxOf? f=none) (hfn:C.prog.funcs[f]? = some fn)
  (start:∃(w:World) (tape:Tape) (i:Input),w.os=os∧(w.forCall tape i).Shaped C.prog∧i.vars=[]∧Input.okWide C.prog (w.forCall tape i) .any w.heap.size f i ∧
   ((s.pre enc C.prog fn conds apart (w.forCall tape i).memory i.args∧X (w.forCall tape i).memory i.args)∧sizedMet enc C.prog fn (OpenSpec.ofChange s) apart (w.forCall tape i).memory i.args)∧a.holds C.prog (lone (Frame.enter C.prog f i.args .normal) [] (w.forCall tape i)))
  (walk:∀(W:World) (base:Nat) (args:Array Value) (ds gs:List (DataW H)) (before:List MemPlace),
   (∀(j:Nat) t v,fn.params[j]? = some t→args[j]? = some v→Value.okWide C.prog W .any base t v)→DataW.Whole enc C.prog fn.params.toList s.vars apart W args.toList ds gs before→W.ShapedOpen C.prog→X W args →
   Calls C.prog f args W fun e W'=>∃v,e=.returned v∧s.post enc C.prog fn apart fresh handsOn again W args v W') :
  ReturnsInHanded a C os f .any (fun w args=>(s.pre enc C.prog fn conds apart w args∧X w args)∧sizedMet enc C.prog fn (OpenSpec.ofChange s) apart w args) (s.post enc C.prog fn apart fresh handsOn again):=by
 refine returnsInHanded_of_calls own started noInit start ?_
 rintro w tape i-hsh - ⟨_,_,_,g,hg,_,_,_,_,hval⟩ ⟨⟨⟨ds,gs,before,hw,-⟩,hx⟩,-⟩ -
 obtain rfl:g=fn:=Option.some.inj (hg.symm.trans hfn)
 refine (walk (w.forCall tape i) w.heap.size i.args ds gs before hval (DataW.Whole.of_heap (by rfl) hw) hsh (hX _ _ _ (by rfl) hx)).mono fun e W' hh=>?_
 obtain ⟨v,he,hp⟩:=hh
 subst he
 exact ChangeSpec.post_blind hp
/-- The listed variables that hold plain data;the table of powers is one of them. -/
noncomputable def plainC:List (String × DataW Unit):=[("math/bits.deBruijn32tab",Rows.laid_math_bits_deBruijn32tab),("math/bits.deBruijn64tab",Rows.laid_math_bits_deBruijn64tab),("internal/strconv.uint64pow10",Rows.laid_internal_strconv_uint64pow10),("unicode/utf8.acceptRanges",Rows.laid_unicode_utf8_acceptRanges),("unicode/utf8.first",Rows.laid_unicode_utf8_first)]
theorem pow_data:(Lib.tabData .u64 Lib.pow10Tab:DataW Unit)=Rows.laid_internal_strconv_uint64pow10:=by kernel_rfl
theorem officeCancels_env {W:World}(hL:laidMetH Tryz.prog Rows.officeCancelsRow.laid W)(hs:W.ShapedOpen Tryz.prog):EnvA W∧PowA W:=by
 obtain ⟨h1,h2⟩:=plain_met (Lp:=plainC) (by kernel_rfl) (by kernel_rfl) hL
 refine ⟨env_of h1 (by simp [plainC]) (by simp [plainC]) h2 hs,?_⟩
 have hr:=Lib.laidMet.reads h1 (n := "internal/strconv.uint64pow10") (d:=Rows.laid_internal_strconv_uint64pow10) (by simp [plainC])
 rw [← pow_data] at hr
 exact tab_of_reads (g:=4) (t:=337) (e:=313) (n:=20) (by kernel_rfl) (by kernel_rfl) Tryz.underlying337 Tryz.underlying313 (by kernel_rfl) (by kernel_rfl) hr
theorem officeCancels_lifted (os:Os)(started:os.Started)(H:Type)(enc:TypeId × Value→H) :
  ReturnsInHanded {} Tryz.checked os 16 .any (fun w args=>(Rows.officeCancelsSpec.pre enc Tryz.prog Tryz.f16 [] false w args∧laidMetH Tryz.prog Rows.officeCancelsRow.laid w)∧sizedMet enc Tryz.prog Tryz.f16 (OpenSpec.ofChange Rows.officeCancelsSpec) false w args)
   (Rows.officeCancelsSpec.post enc Tryz.prog Tryz.f16 false true false false):=by
 refine handed_shaped (C:=Tryz.checked) (X:=fun w _=>laidMetH Tryz.prog Rows.officeCancelsRow.laid w) (fun _ _ _ hh h=>h.of_heap hh) own_ started (by kernel_rfl) Tryz.func16
  (ChangeSpec.witness_shaped (enc:=enc) (C:=Tryz.checked) (os:=os) (X:=fun w _=>laidMetH Tryz.prog Rows.officeCancelsRow.laid w) false (witW os plainC) #[.agg #[.int .i64 0,.slice none 0 0,.slice none 0 0,.int .i64 0,.int .i64 0,.int .i64 0,.int .i64 0,.slice none 0 0,.slice none 0 0],.slice none 0 0,.agg #[.int .i64 0,.int .i64 0,.int .i64 0]] 8 (by unfold witW;rw [World.layVars_os];rfl)
   (World.shaped_of_ZipB (by kernel_rfl) (by kernel_rfl)) (by kernel_rfl) (by kernel_rfl) (by kernel_rfl)
   (laidMetH_of_parts (by rw [show (Rows.officeCancelsRow.laid.filter fun x=>x.2.handleName?.isNone)=plainC by kernel_rfl];exact witW_met _ (by kernel_rfl) (by kernel_rfl)) (by kernel_rfl))) ?_
 intro W base args ds gs before hval0 hW hS hL
 have hval:∀(j:Nat) t v,Tryz.f16.params[j]? = some t→args[j]? = some v→Value.okWide Tryz.prog W .any base t v:=hval0
 have hW':=hW
 obtain ⟨p,q,hA0,hV,rfl,hfz,hnd⟩:=hW
 have hA:DataW.TrodAll enc Tryz.prog W 0 (fun _=>true) true Tryz.f16.params.toList args.toList ds p:=hA0
 rw [Tryz.params16] at hA hval
 obtain ⟨v0,v1,v2,d0,d1,d2,p0,p1,p2,rfl,rfl,rfl,h0,h1,h2⟩:=trodAll_three hA
 obtain ⟨f,rfl,hf⟩:=open_firm (hval 0 _ v0 rfl rfl) h0
 obtain ⟨l,A,c,rfl,hrs,hll,hlk⟩:=open_orders (hval 1 _ v1 rfl rfl) h1
 obtain ⟨a1,a2,a3,rfl⟩:=open_late (hval 2 _ v2 rfl rfl) h2
 refine (officeCancels_any hf (officeCancels_env hL hS).1 (officeCancels_env hL hS).2 l A c hrs hll a1 a2 a3).mono fun e W' ⟨he,hb⟩=>?_
 subst he
 exact ⟨_,rfl,law_post hW' rfl (by kernel_rfl) rfl (by rw [Tryz.params16];intro t ht;simp at ht;rcases ht with rfl | rfl | rfl <;> exact ⟨by kernel_rfl,of_decide_eq_true (by kernel_rfl)⟩) hb⟩
set_option maxHeartbeats 4000000 in
theorem officeCancels_closed:joinedFacts Tryz.prog 16 Tryz.f16 Rows.officeCancelsSpec Rows.officeCancelsRow=true:=by
 unfold joinedFacts
 simp only [Bool.and_eq_true]
 repeat' apply And.intro
 all_goals (as_aux_lemma=>kernel_rfl)
set_option maxHeartbeats 4000000 in
theorem officeCancels_wrap:Tryz.f16.isWrapper Tryz.prog Rows.officeCancelsRow.wrapper Rows.officeCancelsRow.mainSum:=by
 unfold Func.isWrapper;first | (rw [if_pos (by decide +kernel)];kernel_rfl) | (rw [if_neg (by decide +kernel)];exact ⟨rfl,rfl⟩)
theorem officeCancels_named:Tryz.prog.funcNamed Rows.officeCancelsRow.func=some 16:=by kernel_rfl
theorem officeCancels_inst:Tryz.f16.isInstance Tryz.prog Rows.officeCancelsRow.origin Rows.officeCancelsRow.targs:=of_decide_eq_true (by kernel_rfl)
set_option maxHeartbeats 4000000 in
theorem officeCancels_row:Rows.OfficeCancelsSaid :=
 OpenClaim.holds_of_wide 16 Tryz.f16 rfl rfl rfl rfl rfl rfl rfl ⟨rfl,rfl,rfl,rfl,rfl⟩ rfl rfl rfl rfl rfl officeCancels_named Tryz.func16 officeCancels_closed
  officeCancels_inst officeCancels_wrap
  (fun os started H enc _=>officeCancels_lifted os started H enc)
theorem officeCancels_wfT:Rows.officeCancelsRow.wfByText (OpenSpec.ofChange Rows.officeCancelsSpec)=true:=by kernel_rfl
theorem office_main:Tryz.pinned.checked.prog.mainIs=some (true,"5a9a52965f4185065c0d39a39ec58f829537e604a07fc4f1dbce9d7d2d17f592".toList):=by kernel_rfl
theorem office_looks:true=Tryz.pinned.checked.prog.looks []:=by kernel_rfl
theorem officeCancels_goes:false=Rows.officeCancelsRow.goesBy Tryz.pinned.checked.prog:=by kernel_rfl
theorem officeCancels_stand:([32,33,106].all fun u=>!Tryz.prog.wantsStandIn u)=true:=by kernel_rfl
set_option maxHeartbeats 4000000 in
theorem officeCancels_holds:Rows.OfficeCancelsCardSaid :=
 Claim7.holds_tied_plain_at .later [] [.data,.data,.data,.data,.handle,.pinned] true (true,"5a9a52965f4185065c0d39a39ec58f829537e604a07fc4f1dbce9d7d2d17f592") true
  officeCancels_row (fun _ h=>by cases h) officeCancels_wfT (fun _ h=>by cases h) officeCancels_row_tie rfl ⟨rfl,rfl⟩ office_main rfl
  (fun f fn hf hfn=>by
   obtain rfl:f=16:=Option.some.inj (officeCancels_named.symm.trans hf) |>.symm
   obtain rfl:fn=Tryz.f16:=(Option.some.inj (Tryz.func16.symm.trans hfn)).symm
   exact ⟨office_looks,fun j t ht=>by
    rw [Tryz.params16] at ht
    have hm:t ∈ [32,33,106]:=by simpa using Array.mem_of_getElem? ht
    exact (show Tryz.prog.wantsStandIn t=false by simpa using List.all_eq_true.1 officeCancels_stand t hm)⟩)
  officeCancels_goes
end Go.Proofs.YtiapkffihpgdcaaGreatDoor
