import Derived.Test.YtiapkffihpgdcaaGreatDoorQB2
import Derived.IntWalk
import Derived.ScopeJumps
import Derived.WalkMore
import Derived.Test.YtiapkffihpgdcaaGreatDoorRows
import Derived.ProofKit
import Derived.Deep.Slices
import Derived.Deep.Fields
import Derived.ChangeSame
import Derived.ChangeSlices
import Derived.Lib.SmallJoins
import Derived.Shelf.Lays2
import Derived.Shelf.Lays7
import Derived.Shelf.LaysM
import Derived.Shelf.SlLaysF0
import Derived.Shelf.SlGeneric
import Derived.Ground.NamesProg
import Derived.Ground.Names2Prog
import Derived.Ground.Names7Prog
import Derived.Ground.SlsfProg
import Derived.Test.YtiapkffihpgdcaaGreatDoorProg
import Derived.StillTailTactics
import Derived.Deep.RegionHeld3
import Derived.Deep.RegionWith
set_option linter.unusedVariables false
set_option linter.unusedSimpArgs false
set_option maxRecDepth 100000
set_option maxHeartbeats 4000000
namespace Go.Proofs.YtiapkffihpgdcaaGreatDoor
open Go.ChangeShapes Go.WideShapes Go.ChangeAt Go.RowKit Go.Deep Go.Joins
theorem own_:ownKnob Tryz.prog.godebug=none:=by kernel_rfl
theorem laid_:laidOutB Tryz.prog=true:=by kernel_rfl
section
variable {H:Type}{enc:TypeId × Value→H}{P:Program}{w:World}{base:Nat}{spare:Nat→Bool}{held:Bool}
theorem open_slice_fields {t e:TypeId}{fs:Array Field}{fuel:Nat}{cs:List Value}{x:DataW H × List MemPlace}(ht:P.underlying t=some (.slice e))(he:P.underlying e=some (.struct fs))
  (hone:oneCellFields P fs=true) (hC:P.cellsOf e=fs.size) (h:DataW.trod enc P w base spare held fuel t cs=some x) :
  (cs=[.slice none 0 0]∧x=(.nil,[])) ∨
  ∃(a:Addr) (len cap m:Nat) (D:Nat→DataW H) (Pl:Nat→List MemPlace),cs=[.slice (some a) len cap]∧base≤a.block∧len≤cap∧cap≤maxLen∧m=(if spare a.block then cap else len) ∧
   x=(.slice ((List.range len).map D) ((List.range (m-len)).map fun j=>D (len+j)),MemPlace.row a (m*fs.size) ++ (List.range m).flatMap Pl) ∧
   ∀i,i<m→∃(ys:List (DataW H × List MemPlace)) (n:Nat),D i=.agg (ys.map (·.1))∧Pl i=ys.flatMap (·.2)∧ys.length=fs.size ∧
    ∀(j:Nat) (f:Field),fs[j]? = some f→∃(v:Value) (y:DataW H × List MemPlace),w.cell? (a.add (i*fs.size+j))=some v∧ys[j]? = some y∧DataW.trod enc P w base spare held n f.type [v]=some y:=by
 rcases open_slice ht h with h0 | ⟨a,len,cap,m,n,D,Pl,hcs,hb,hl,hm,hmm,hx,hi⟩
 ·exact .inl h0
 ·refine .inr ⟨a,len,cap,m,D,Pl,hcs,hb,hl,hm,hmm,by rw [hC] at hx;exact hx,fun i him=>?_⟩
  obtain ⟨cs',hc,ht'⟩:=hi i him
  rw [hC] at hc
  obtain ⟨ys,n',hn',hy,hlen,hyl,hf⟩:=DataW.trod_struct he ht'
  obtain ⟨_,hcl,hat⟩:=World.cells?_some hc
  simp only [Prod.mk.injEq] at hy
  refine ⟨ys,n',hy.1,hy.2,hyl,fun j f hj=>?_⟩
  obtain ⟨ho,hk⟩:=hone_of hone j f hj
  have hjl:j<fs.size:=(Array.getElem?_eq_some_iff.1 hj).1
  have hcell:=hat j hjl
  have hv:cs'[j]? = some (cs'[j]'(by omega)):=List.getElem?_eq_getElem (by omega)
  have h1:=hf j f hj
  rw [ho,hk] at h1
  have hone':(cs'.drop j).take 1=[cs'[j]'(by omega)]:=by
   rw [List.drop_eq_getElem_cons (by omega)]
   rfl
  rw [hone'] at h1
  have hys:ys[j]? = some (ys[j]'(by omega)):=List.getElem?_eq_getElem (by omega)
  refine ⟨_,_,?_,hys,h1.trans hys⟩
  rw [← Go.Deep.add_add,hcell,hv]
end
section
variable {H:Type}{enc:TypeId × Value→H}
theorem trodAll_below {W W':World}(hb:Below W.heap.size W W'):∀(ts:List TypeId) (vs:List Value) (ds:List (DataW H)) (ps:List MemPlace),(∀t ∈ ts,Tryz.prog.readableRec t=true∧t<Tryz.prog.types.size) →
  DataW.TrodAll enc Tryz.prog W 0 (fun _=>true) true ts vs ds ps→(∀x ∈ ps,x.block<W.heap.size)→DataW.TrodAll enc Tryz.prog W' 0 (fun b=>decide (b<W.heap.size)) true ts vs ds ps
 | [],[],[],_,_,h,_=>h
 | t :: ts,v :: vs,d :: ds,ps,hr,⟨p,q,h1,h2,e⟩,hlt=>by
  subst e
  exact ⟨p,q,Below.trod laid_ (hr t (by simp)).1 (hr t (by simp)).2 h1 hb (fun x hx=>hlt x (by simp [hx])),trodAll_below hb ts vs ds q (fun t ht=>hr t (by simp [ht])) h2 (fun x hx=>hlt x (by simp [hx])),rfl⟩
theorem law_post {f : Func} {s : ChangeSpec} {W W' : World} {args : Array Value} {ds gs : List (DataW H)} {before : List MemPlace} (hW : DataW.Whole enc Tryz.prog f.params.toList s.vars false W args.toList ds gs before)
    (hv : s.vars = []) (hr : f.resultTypes = #[4]) (hfn : s.fn H (ds ++ []) = { results := [.lit (.bool true)], args := ds }) (hp : ∀ t ∈ f.params.toList, Tryz.prog.readableRec t = true ∧ t < Tryz.prog.types.size)
    (hb : Below W.heap.size W W') : s.post enc Tryz.prog f false true false false W args (.bool true) W' := by
  have hlt := fun p hp => hW.lt p hp
  have hW' := hW
  obtain ⟨p, q, hA, hVr, rfl, hfz, hnd⟩ := hW
  rw [hv] at hVr
  obtain ⟨rfl, rfl⟩ := trodVars_none hVr
  refine ⟨ds, [], _, [], p, [], hW', ?_, ?_, ?_, hb.frame _, fun h => by cases h⟩
  · rw [hr, hfn]; exact trodAll_mk1 (shut_bool Tryz.underlying4 _)
  · rw [hfn]; exact trodAll_below hb _ _ _ _ hp hA (fun x hx => hlt x (by simp [hx]))
  · rw [hv, hfn]; exact rfl
theorem choose_list {α:Type}{Pr:Nat→α→Prop}{n:Nat}(h:∀i,i<n→∃a,Pr i a):∃l:List α,l.length=n∧∀(i:Nat) (a:α),l[i]? = some a→Pr i a:=by
 induction n with
 | zero=>exact ⟨[],rfl,by simp⟩
 | succ n ih =>
  obtain ⟨l,hl,hP⟩:=ih fun i hi=>h i (by omega)
  obtain ⟨a,ha⟩:=h n (by omega)
  refine ⟨l ++ [a],by simp [hl],fun i b hb=>?_⟩
  rcases Nat.lt_or_ge i l.length with hi | hi
  ·rw [List.getElem?_append_left hi] at hb;exact hP i b hb
  ·rw [List.getElem?_append_right hi] at hb
   have:i=l.length:=by
    rcases Nat.lt_or_ge i (l.length+1) with h1 | h1
    ·omega
    ·rw [List.getElem?_eq_none (by simp;omega)] at hb;cases hb
   subst this
   simp at hb;subst hb;rw [hl];exact ha
theorem cell_block {w:World}{a:Addr}{v:Value}(h:w.cell? (a.add 0)=some v):a.block<w.heap.size:=by
 rcases Nat.lt_or_ge a.block w.heap.size with hlt | hge
 ·exact hlt
 ·have e:a.add 0=a:=rfl
  rw [e] at h
  unfold World.cell? at h
  rw [Array.getElem?_eq_none hge] at h
  cases h
variable {W:World}
/-- A list of numbers that comes in. -/
theorem open_nums {cs:List Value}{x:DataW H × List MemPlace}{fuel:Nat}(hf:DataW.trod enc Tryz.prog W 0 (fun _=>true) true fuel 22 cs=some x) :
  ∃(l:List Int) (A:Option Addr) (c:Nat),cs=[.slice A l.length c]∧l.length≤c∧RN W A l:=by
 rcases open_ints Tryz.underlying22 Tryz.underlying3 (by kernel_rfl) hf with ⟨hcs,-⟩ | ⟨a,len,cap,zs,hcs,-,hl,-,hz,-,hi,-⟩
 ·exact ⟨[],none,0,hcs,Nat.le_refl _,rfl,fun h=>by cases h⟩
 ·simp only [if_true] at hz
  have hlen:(zs.take len).length=len:=by rw [List.length_take];omega
  refine ⟨zs.take len,some a,cap,by rw [hlen];exact hcs,by rw [hlen];exact hl,by simp [ints],fun hp=>⟨a,rfl,?_,fun j u hu=>?_⟩⟩
  ·exact cell_block (hi 0 (by omega))
  ·have hj:j<len:=by have:=(List.getElem?_eq_some_iff.1 hu).1;simp [ints] at this;omega
   rw [hi j (by omega)]
   rw [← hu]
   simp [ints,hj,show j<zs.length by omega]
theorem slice_of_cells {W:World}{r:Reach}{b0:Nat}{v:Value}{A:Option Addr}{n c:Nat}{t e:TypeId}(ht:Tryz.prog.underlying t=some (.slice e))(hok:Value.okWide Tryz.prog W r b0 t v)(h:v.cells.toList=[.slice A n c]):v=.slice A n c:=by
 obtain ⟨a0,len0,cap0,rfl⟩:=okWide_slice ht hok
 simpa [Value.cells] using h
end
end Go.Proofs.YtiapkffihpgdcaaGreatDoor
namespace Go.Proofs
open Go.Shelf
def Tryz.lsort_ren : Go.Shelf.Ren := ⟨fun | 189 => 274 | 125 => 305 | 257 => 304 | 128 => 320 | 129 => 301 | 294 => 312 | 295 => 313 | 296 => 314 | 297 => 315 | 298 => 316 | 299 => 317 | 216 => 263 | 300 => 318 | 301 => 319 | 328 => 332 | 329 => 333 | 330 => 334 | 331 => 335 | 332 => 336 | 215 => 298 | 343 => 341 | n => n, fun | 28 => 22 | 3 => 3 | 46 => 100 | 0 => 0 | 51 => 130 | 53 => 313 | 4 => 4 | 183 => 346 | 182 => 345 | 131 => 255 | 5 => 5 | 9 => 9 | 218 => 358 | 222 => 362 | 228 => 366 | 229 => 367 | n => n, fun | n => n⟩
theorem Tryz.lsort : Go.Proofs.Lays.n189 Tryz.prog Tryz.lsort_ren := {
  mixed := by kernel_rfl
  f125 := Tryz.func305.trans (congrArg some (by kernel_rfl))
  f128 := Tryz.func320.trans (congrArg some (by kernel_rfl))
  f129 := Tryz.func301.trans (congrArg some (by kernel_rfl))
  f189 := Tryz.func274.trans (congrArg some (by kernel_rfl))
  f215 := Tryz.func298.trans (congrArg some (by kernel_rfl))
  f216 := Tryz.func263.trans (congrArg some (by kernel_rfl))
  f257 := Tryz.func304.trans (congrArg some (by kernel_rfl))
  f294 := Tryz.func312.trans (congrArg some (by kernel_rfl))
  f295 := Tryz.func313.trans (congrArg some (by kernel_rfl))
  f296 := Tryz.func314.trans (congrArg some (by kernel_rfl))
  f297 := Tryz.func315.trans (congrArg some (by kernel_rfl))
  f298 := Tryz.func316.trans (congrArg some (by kernel_rfl))
  f299 := Tryz.func317.trans (congrArg some (by kernel_rfl))
  f300 := Tryz.func318.trans (congrArg some (by kernel_rfl))
  f301 := Tryz.func319.trans (congrArg some (by kernel_rfl))
  f328 := Tryz.func332.trans (congrArg some (by kernel_rfl))
  f329 := Tryz.func333.trans (congrArg some (by kernel_rfl))
  f330 := Tryz.func334.trans (congrArg some (by kernel_rfl))
  f331 := Tryz.func335.trans (congrArg some (by kernel_rfl))
  f332 := Tryz.func336.trans (congrArg some (by kernel_rfl))
  f343 := Tryz.func341.trans (congrArg some (by kernel_rfl))
  t0 := Tryz.underlying0
  a0 := Tryz.isAgg0
  z0 := Tryz.sizeOf0
  v0 := Tryz.zeroValue0
  t3 := Tryz.underlying3
  a3 := Tryz.isAgg3
  z3 := Tryz.sizeOf3
  v3 := Tryz.zeroValue3
  t4 := Tryz.underlying4
  a4 := Tryz.isAgg4
  z4 := Tryz.sizeOf4
  v4 := Tryz.zeroValue4
  t5 := Tryz.underlying5
  a5 := Tryz.isAgg5
  z5 := Tryz.sizeOf5
  v5 := Tryz.zeroValue5
  t9 := Tryz.underlying9
  a9 := Tryz.isAgg9
  z9 := Tryz.sizeOf9
  v9 := Tryz.zeroValue9
  t28 := Tryz.underlying22
  a28 := Tryz.isAgg22
  z28 := Tryz.sizeOf22
  v28 := Tryz.zeroValue22
  t46 := Tryz.underlying100
  a46 := Tryz.isAgg100
  z46 := Tryz.sizeOf100
  v46 := Tryz.zeroValue100
  t51 := Tryz.underlying130
  a51 := Tryz.isAgg130
  z51 := Tryz.sizeOf130
  v51 := Tryz.zeroValue130
  t53 := Tryz.underlying313
  a53 := Tryz.isAgg313
  z53 := Tryz.sizeOf313
  v53 := Tryz.zeroValue313
  t131 := Tryz.underlying255
  a131 := Tryz.isAgg255
  z131 := Tryz.sizeOf255
  v131 := Tryz.zeroValue255
  t182 := Tryz.underlying345
  a182 := Tryz.isAgg345
  z182 := Tryz.sizeOf345
  v182 := Tryz.zeroValue345
  t183 := Tryz.underlying346
  a183 := Tryz.isAgg346
  z183 := Tryz.sizeOf346
  v183 := Tryz.zeroValue346
  t218 := Tryz.underlying358
  a218 := Tryz.isAgg358
  z218 := Tryz.sizeOf358
  v218 := Tryz.zeroValue358
  t222 := Tryz.underlying362
  a222 := Tryz.isAgg362
  z222 := Tryz.sizeOf362
  v222 := Tryz.zeroValue362
  t228 := Tryz.underlying366
  a228 := Tryz.isAgg366
  z228 := Tryz.sizeOf366
  v228 := Tryz.zeroValue366
  t229 := Tryz.underlying367
  a229 := Tryz.isAgg367
  z229 := Tryz.sizeOf367
  v229 := Tryz.zeroValue367 }
def Tryz.lcomp_ren : Go.Shelf.Ren := ⟨fun | 20 => 275 | n => n, fun | 22 => 22 | 3 => 3 | 4 => 4 | 0 => 0 | n => n, fun | n => n⟩
theorem Tryz.lcomp : Go.Proofs.Lays2.n20 Tryz.prog Tryz.lcomp_ren := {
  mixed := by kernel_rfl
  f20 := Tryz.func275.trans (congrArg some (by kernel_rfl))
  t0 := Tryz.underlying0
  a0 := Tryz.isAgg0
  z0 := Tryz.sizeOf0
  v0 := Tryz.zeroValue0
  t3 := Tryz.underlying3
  a3 := Tryz.isAgg3
  z3 := Tryz.sizeOf3
  v3 := Tryz.zeroValue3
  t4 := Tryz.underlying4
  a4 := Tryz.isAgg4
  z4 := Tryz.sizeOf4
  v4 := Tryz.zeroValue4
  t22 := Tryz.underlying22
  a22 := Tryz.isAgg22
  z22 := Tryz.sizeOf22
  v22 := Tryz.zeroValue22
  i3 := by kernel_rfl }
def Tryz.leql_ren : Go.Shelf.Ren := ⟨fun | 111 => 216 | n => n, fun | 28 => 22 | 3 => 3 | 4 => 4 | 0 => 0 | n => n, fun | n => n⟩
theorem Tryz.leql : Go.Proofs.Lays.n111 Tryz.prog Tryz.leql_ren := {
  mixed := by kernel_rfl
  f111 := Tryz.func216.trans (congrArg some (by kernel_rfl))
  t0 := Tryz.underlying0
  a0 := Tryz.isAgg0
  z0 := Tryz.sizeOf0
  v0 := Tryz.zeroValue0
  t3 := Tryz.underlying3
  a3 := Tryz.isAgg3
  z3 := Tryz.sizeOf3
  v3 := Tryz.zeroValue3
  t4 := Tryz.underlying4
  a4 := Tryz.isAgg4
  z4 := Tryz.sizeOf4
  v4 := Tryz.zeroValue4
  t28 := Tryz.underlying22
  a28 := Tryz.isAgg22
  z28 := Tryz.sizeOf22
  v28 := Tryz.zeroValue22 }
def Tryz.lctz_ren : Go.Shelf.Ren := ⟨fun | 27 => 189 | 28 => 259 | 29 => 260 | n => n, fun | 25 => 100 | 3 => 3 | 27 => 130 | 22 => 313 | 4 => 4 | 53 => 334 | 0 => 0 | 5 => 5 | 54 => 335 | n => n, fun | 0 => 2 | 1 => 3 | n => n⟩
theorem Tryz.lctz : Go.Proofs.Lays7.n27 Tryz.prog Tryz.lctz_ren := {
  mixed := by kernel_rfl
  f27 := Tryz.func189.trans (congrArg some (by kernel_rfl))
  f28 := Tryz.func259.trans (congrArg some (by kernel_rfl))
  f29 := Tryz.func260.trans (congrArg some (by kernel_rfl))
  t0 := Tryz.underlying0
  a0 := Tryz.isAgg0
  z0 := Tryz.sizeOf0
  v0 := Tryz.zeroValue0
  i0 := by kernel_rfl
  t3 := Tryz.underlying3
  a3 := Tryz.isAgg3
  z3 := Tryz.sizeOf3
  v3 := Tryz.zeroValue3
  i3 := by kernel_rfl
  t4 := Tryz.underlying4
  a4 := Tryz.isAgg4
  z4 := Tryz.sizeOf4
  v4 := Tryz.zeroValue4
  i4 := by kernel_rfl
  t5 := Tryz.underlying5
  a5 := Tryz.isAgg5
  z5 := Tryz.sizeOf5
  v5 := Tryz.zeroValue5
  i5 := by kernel_rfl
  t22 := Tryz.underlying313
  a22 := Tryz.isAgg313
  z22 := Tryz.sizeOf313
  v22 := Tryz.zeroValue313
  i22 := by kernel_rfl
  t25 := Tryz.underlying100
  a25 := Tryz.isAgg100
  z25 := Tryz.sizeOf100
  v25 := Tryz.zeroValue100
  i25 := by kernel_rfl
  t27 := Tryz.underlying130
  a27 := Tryz.isAgg130
  z27 := Tryz.sizeOf130
  v27 := Tryz.zeroValue130
  i27 := by kernel_rfl
  t53 := Tryz.underlying334
  a53 := Tryz.isAgg334
  z53 := Tryz.sizeOf334
  v53 := Tryz.zeroValue334
  i53 := by kernel_rfl
  t54 := Tryz.underlying335
  a54 := Tryz.isAgg335
  z54 := Tryz.sizeOf335
  g0 := by kernel_rfl
  g1 := by kernel_rfl }
def Tryz.lcut_ren : Go.Shelf.Ren := ⟨fun | 145 => 94 | 220 => 177 | 219 => 247 | 217 => 293 | 225 => 294 | 224 => 295 | 267 => 296 | 266 => 310 | 314 => 311 | n => n, fun | 9 => 9 | 4 => 4 | 59 => 163 | 3 => 3 | 5 => 5 | 46 => 100 | 146 => 342 | 51 => 130 | n => n, fun | 1 => 1 | n => n⟩
theorem Tryz.lcut : Go.Proofs.Lays.n145 Tryz.prog Tryz.lcut_ren := {
  mixed := by kernel_rfl
  f145 := Tryz.func94.trans (congrArg some (by kernel_rfl))
  f217 := Tryz.func293.trans (congrArg some (by kernel_rfl))
  f219 := Tryz.func247.trans (congrArg some (by kernel_rfl))
  f220 := Tryz.func177.trans (congrArg some (by kernel_rfl))
  f224 := Tryz.func295.trans (congrArg some (by kernel_rfl))
  f225 := Tryz.func294.trans (congrArg some (by kernel_rfl))
  f266 := Tryz.func310.trans (congrArg some (by kernel_rfl))
  f267 := Tryz.func296.trans (congrArg some (by kernel_rfl))
  f314 := Tryz.func311.trans (congrArg some (by kernel_rfl))
  t3 := Tryz.underlying3
  a3 := Tryz.isAgg3
  z3 := Tryz.sizeOf3
  v3 := Tryz.zeroValue3
  t4 := Tryz.underlying4
  a4 := Tryz.isAgg4
  z4 := Tryz.sizeOf4
  v4 := Tryz.zeroValue4
  t5 := Tryz.underlying5
  a5 := Tryz.isAgg5
  z5 := Tryz.sizeOf5
  v5 := Tryz.zeroValue5
  t9 := Tryz.underlying9
  a9 := Tryz.isAgg9
  z9 := Tryz.sizeOf9
  v9 := Tryz.zeroValue9
  t46 := Tryz.underlying100
  a46 := Tryz.isAgg100
  z46 := Tryz.sizeOf100
  v46 := Tryz.zeroValue100
  t51 := Tryz.underlying130
  a51 := Tryz.isAgg130
  z51 := Tryz.sizeOf130
  v51 := Tryz.zeroValue130
  t59 := Tryz.underlying163
  a59 := Tryz.isAgg163
  z59 := Tryz.sizeOf163
  v59 := Tryz.zeroValue163
  t146 := Tryz.underlying342
  a146 := Tryz.isAgg342
  z146 := Tryz.sizeOf342
  v146 := Tryz.zeroValue342
  g1 := by kernel_rfl }
def Tryz.lstr_ren : Go.Shelf.Ren := ⟨fun | 169 => 158 | n => n, fun | 70 => 219 | 9 => 9 | 0 => 0 | 72 => 222 | 37 => 220 | 127 => 270 | 3 => 3 | 5 => 5 | n => n, fun | n => n⟩
theorem Tryz.lstr : Go.Proofs.Lays.n169 Tryz.prog Tryz.lstr_ren := {
  mixed := by kernel_rfl
  f169 := Tryz.func158.trans (congrArg some (by kernel_rfl))
  t0 := Tryz.underlying0
  a0 := Tryz.isAgg0
  z0 := Tryz.sizeOf0
  v0 := Tryz.zeroValue0
  t3 := Tryz.underlying3
  a3 := Tryz.isAgg3
  z3 := Tryz.sizeOf3
  v3 := Tryz.zeroValue3
  t9 := Tryz.underlying9
  a9 := Tryz.isAgg9
  z9 := Tryz.sizeOf9
  v9 := Tryz.zeroValue9
  t37 := Tryz.underlying220
  a37 := Tryz.isAgg220
  z37 := Tryz.sizeOf220
  v37 := Tryz.zeroValue220
  t70 := Tryz.underlying219
  a70 := Tryz.isAgg219
  z70 := Tryz.sizeOf219
  v70 := Tryz.zeroValue219
  t72 := Tryz.underlying222
  a72 := Tryz.isAgg222
  z72 := Tryz.sizeOf222
  v72 := Tryz.zeroValue222
  t127 := Tryz.underlying270
  a127 := Tryz.isAgg270
  z127 := Tryz.sizeOf270
  v127 := Tryz.zeroValue270 }
def Tryz.lsrc_ren : Go.Shelf.Ren := ⟨fun | 6 => 287 | 15 => 305 | 14 => 309 | 28 => 320 | 29 => 301 | 20 => 324 | 21 => 325 | 22 => 326 | 23 => 327 | 24 => 328 | 25 => 329 | 26 => 330 | 27 => 331 | 46 => 338 | 47 => 333 | 48 => 334 | 49 => 339 | 50 => 340 | 57 => 342 | n => n, fun | 22 => 46 | 24 => 56 | 25 => 330 | 3 => 3 | 39 => 100 | 0 => 0 | 53 => 130 | 55 => 313 | 4 => 4 | 46 => 346 | 45 => 345 | 50 => 255 | 5 => 5 | 9 => 9 | 66 => 358 | 70 => 362 | 76 => 366 | 77 => 367 | n => n, fun | n => n⟩
theorem Tryz.lsrc : Go.Proofs.SlLaysF0.n6 Tryz.prog Tryz.lsrc_ren := {
  mixed := by kernel_rfl
  f6 := ⟨Tryz.f287.name, by decide, Tryz.func287.trans (congrArg some (by kernel_rfl))⟩
  f14 := ⟨Tryz.f309.name, by decide, Tryz.func309.trans (congrArg some (by kernel_rfl))⟩
  f15 := Tryz.func305.trans (congrArg some (by kernel_rfl))
  f20 := ⟨Tryz.f324.name, by decide, Tryz.func324.trans (congrArg some (by kernel_rfl))⟩
  f21 := ⟨Tryz.f325.name, by decide, Tryz.func325.trans (congrArg some (by kernel_rfl))⟩
  f22 := ⟨Tryz.f326.name, by decide, Tryz.func326.trans (congrArg some (by kernel_rfl))⟩
  f23 := ⟨Tryz.f327.name, by decide, Tryz.func327.trans (congrArg some (by kernel_rfl))⟩
  f24 := ⟨Tryz.f328.name, by decide, Tryz.func328.trans (congrArg some (by kernel_rfl))⟩
  f25 := ⟨Tryz.f329.name, by decide, Tryz.func329.trans (congrArg some (by kernel_rfl))⟩
  f26 := ⟨Tryz.f330.name, by decide, Tryz.func330.trans (congrArg some (by kernel_rfl))⟩
  f27 := ⟨Tryz.f331.name, by decide, Tryz.func331.trans (congrArg some (by kernel_rfl))⟩
  f28 := Tryz.func320.trans (congrArg some (by kernel_rfl))
  f29 := Tryz.func301.trans (congrArg some (by kernel_rfl))
  f46 := ⟨Tryz.f338.name, by decide, Tryz.func338.trans (congrArg some (by kernel_rfl))⟩
  f47 := Tryz.func333.trans (congrArg some (by kernel_rfl))
  f48 := Tryz.func334.trans (congrArg some (by kernel_rfl))
  f49 := ⟨Tryz.f339.name, by decide, Tryz.func339.trans (congrArg some (by kernel_rfl))⟩
  f50 := ⟨Tryz.f340.name, by decide, Tryz.func340.trans (congrArg some (by kernel_rfl))⟩
  f57 := ⟨Tryz.f342.name, by decide, Tryz.func342.trans (congrArg some (by kernel_rfl))⟩
  t0 := Tryz.underlying0
  a0 := Tryz.isAgg0
  z0 := Tryz.sizeOf0
  v0 := Tryz.zeroValue0
  t3 := Tryz.underlying3
  a3 := Tryz.isAgg3
  z3 := Tryz.sizeOf3
  v3 := Tryz.zeroValue3
  t4 := Tryz.underlying4
  a4 := Tryz.isAgg4
  z4 := Tryz.sizeOf4
  v4 := Tryz.zeroValue4
  t5 := Tryz.underlying5
  a5 := Tryz.isAgg5
  z5 := Tryz.sizeOf5
  v5 := Tryz.zeroValue5
  t9 := Tryz.underlying9
  a9 := Tryz.isAgg9
  z9 := Tryz.sizeOf9
  v9 := Tryz.zeroValue9
  t22 := Tryz.underlying46
  a22 := Tryz.isAgg46
  z22 := Tryz.sizeOf46
  v22 := Tryz.zeroValue46
  t25 := Tryz.underlying330
  a25 := Tryz.isAgg330
  z25 := Tryz.sizeOf330
  v25 := Tryz.zeroValue330
  t39 := Tryz.underlying100
  a39 := Tryz.isAgg100
  z39 := Tryz.sizeOf100
  v39 := Tryz.zeroValue100
  t45 := Tryz.underlying345
  a45 := Tryz.isAgg345
  z45 := Tryz.sizeOf345
  v45 := Tryz.zeroValue345
  t46 := Tryz.underlying346
  a46 := Tryz.isAgg346
  z46 := Tryz.sizeOf346
  v46 := Tryz.zeroValue346
  t50 := Tryz.underlying255
  a50 := Tryz.isAgg255
  z50 := Tryz.sizeOf255
  v50 := Tryz.zeroValue255
  t53 := Tryz.underlying130
  a53 := Tryz.isAgg130
  z53 := Tryz.sizeOf130
  v53 := Tryz.zeroValue130
  t55 := Tryz.underlying313
  a55 := Tryz.isAgg313
  z55 := Tryz.sizeOf313
  v55 := Tryz.zeroValue313
  t66 := Tryz.underlying358
  a66 := Tryz.isAgg358
  z66 := Tryz.sizeOf358
  v66 := Tryz.zeroValue358
  t70 := Tryz.underlying362
  a70 := Tryz.isAgg362
  z70 := Tryz.sizeOf362
  v70 := Tryz.zeroValue362
  t76 := Tryz.underlying366
  a76 := Tryz.isAgg366
  z76 := Tryz.sizeOf366
  v76 := Tryz.zeroValue366
  t77 := Tryz.underlying367
  a77 := Tryz.isAgg367
  z77 := Tryz.sizeOf367
  v77 := Tryz.zeroValue367 }
def Tryz.litoa_ren : Go.Shelf.Ren := ⟨fun | 171 => 59 | 243 => 149 | 246 => 217 | 283 => 270 | 284 => 271 | 285 => 272 | 286 => 273 | 129 => 301 | 317 => 300 | 318 => 302 | 319 => 303 | 320 => 189 | 337 => 259 | 338 => 260 | n => n, fun | 3 => 3 | 9 => 9 | 2 => 2 | 4 => 4 | 171 => 315 | 0 => 0 | 53 => 313 | 37 => 220 | 5 => 5 | 173 => 317 | 212 => 337 | 51 => 130 | 20 => 20 | 213 => 338 | 46 => 100 | 232 => 334 | 233 => 335 | n => n, fun | 17 => 4 | 18 => 2 | 19 => 3 | n => n⟩
theorem Tryz.litoa : Go.Proofs.LaysM.n171 Tryz.prog Tryz.litoa_ren := {
  mixed := by kernel_rfl
  f129 := Tryz.func301.trans (congrArg some (by kernel_rfl))
  f171 := Tryz.func59.trans (congrArg some (by kernel_rfl))
  f243 := Tryz.func149.trans (congrArg some (by kernel_rfl))
  f246 := Tryz.func217.trans (congrArg some (by kernel_rfl))
  f283 := Tryz.func270.trans (congrArg some (by kernel_rfl))
  f284 := Tryz.func271.trans (congrArg some (by kernel_rfl))
  f285 := Tryz.func272.trans (congrArg some (by kernel_rfl))
  f286 := Tryz.func273.trans (congrArg some (by kernel_rfl))
  f317 := Tryz.func300.trans (congrArg some (by kernel_rfl))
  f318 := Tryz.func302.trans (congrArg some (by kernel_rfl))
  f319 := Tryz.func303.trans (congrArg some (by kernel_rfl))
  f320 := Tryz.func189.trans (congrArg some (by kernel_rfl))
  f337 := Tryz.func259.trans (congrArg some (by kernel_rfl))
  f338 := Tryz.func260.trans (congrArg some (by kernel_rfl))
  t0 := Tryz.underlying0
  a0 := Tryz.isAgg0
  z0 := Tryz.sizeOf0
  v0 := Tryz.zeroValue0
  t2 := Tryz.underlying2
  a2 := Tryz.isAgg2
  z2 := Tryz.sizeOf2
  v2 := Tryz.zeroValue2
  t3 := Tryz.underlying3
  a3 := Tryz.isAgg3
  z3 := Tryz.sizeOf3
  v3 := Tryz.zeroValue3
  t4 := Tryz.underlying4
  a4 := Tryz.isAgg4
  z4 := Tryz.sizeOf4
  v4 := Tryz.zeroValue4
  t5 := Tryz.underlying5
  a5 := Tryz.isAgg5
  z5 := Tryz.sizeOf5
  v5 := Tryz.zeroValue5
  t9 := Tryz.underlying9
  a9 := Tryz.isAgg9
  z9 := Tryz.sizeOf9
  v9 := Tryz.zeroValue9
  t20 := Tryz.underlying20
  a20 := Tryz.isAgg20
  z20 := Tryz.sizeOf20
  v20 := Tryz.zeroValue20
  t37 := Tryz.underlying220
  a37 := Tryz.isAgg220
  z37 := Tryz.sizeOf220
  v37 := Tryz.zeroValue220
  t46 := Tryz.underlying100
  a46 := Tryz.isAgg100
  z46 := Tryz.sizeOf100
  v46 := Tryz.zeroValue100
  t51 := Tryz.underlying130
  a51 := Tryz.isAgg130
  z51 := Tryz.sizeOf130
  v51 := Tryz.zeroValue130
  t53 := Tryz.underlying313
  a53 := Tryz.isAgg313
  z53 := Tryz.sizeOf313
  v53 := Tryz.zeroValue313
  t171 := Tryz.underlying315
  a171 := Tryz.isAgg315
  z171 := Tryz.sizeOf315
  v171 := Tryz.zeroValue315
  t173 := Tryz.underlying317
  a173 := Tryz.isAgg317
  z173 := Tryz.sizeOf317
  v173 := Tryz.zeroValue317
  t212 := Tryz.underlying337
  a212 := Tryz.isAgg337
  z212 := Tryz.sizeOf337
  v212 := Tryz.zeroValue337
  t213 := Tryz.underlying338
  a213 := Tryz.isAgg338
  z213 := Tryz.sizeOf338
  t232 := Tryz.underlying334
  a232 := Tryz.isAgg334
  z232 := Tryz.sizeOf334
  v232 := Tryz.zeroValue334
  t233 := Tryz.underlying335
  a233 := Tryz.isAgg335
  z233 := Tryz.sizeOf335
  v233 := Tryz.zeroValue335
  g17 := by kernel_rfl
  g18 := by kernel_rfl
  g19 := by kernel_rfl
  i0 := by kernel_rfl
  i2 := by kernel_rfl
  i3 := by kernel_rfl
  i4 := by kernel_rfl
  i5 := by kernel_rfl
  i9 := by kernel_rfl
  i20 := by kernel_rfl
  i37 := by kernel_rfl
  i46 := by kernel_rfl
  i51 := by kernel_rfl
  i53 := by kernel_rfl
  i171 := by kernel_rfl
  i173 := by kernel_rfl
  i212 := by kernel_rfl
  i232 := by kernel_rfl
  i233 := by kernel_rfl
  m17 := by kernel_rfl
  m18 := by kernel_rfl
  m19 := by kernel_rfl }
def Tryz.lsplit_ren : Go.Shelf.Ren := ⟨fun | 146 => 231 | 221 => 284 | 268 => 306 | 138 => 307 | 143 => 308 | 195 => 321 | 197 => 322 | 218 => 323 | 219 => 247 | 260 => 337 | 217 => 293 | 225 => 294 | 224 => 295 | 267 => 296 | 266 => 310 | 314 => 311 | n => n, fun | 9 => 9 | 31 => 33 | 3 => 3 | 4 => 4 | 0 => 0 | 105 => 351 | 21 => 21 | 5 => 5 | 46 => 100 | 119 => 369 | 139 => 372 | 138 => 371 | 146 => 342 | 51 => 130 | n => n, fun | 1 => 1 | 3 => 5 | 4 => 6 | n => n⟩
theorem Tryz.lsplit : Go.Proofs.Lays.n146 Tryz.prog Tryz.lsplit_ren := {
  mixed := by kernel_rfl
  f138 := Tryz.func307.trans (congrArg some (by kernel_rfl))
  f143 := Tryz.func308.trans (congrArg some (by kernel_rfl))
  f146 := Tryz.func231.trans (congrArg some (by kernel_rfl))
  f195 := Tryz.func321.trans (congrArg some (by kernel_rfl))
  f197 := Tryz.func322.trans (congrArg some (by kernel_rfl))
  f217 := Tryz.func293.trans (congrArg some (by kernel_rfl))
  f218 := Tryz.func323.trans (congrArg some (by kernel_rfl))
  f219 := Tryz.func247.trans (congrArg some (by kernel_rfl))
  f221 := Tryz.func284.trans (congrArg some (by kernel_rfl))
  f224 := Tryz.func295.trans (congrArg some (by kernel_rfl))
  f225 := Tryz.func294.trans (congrArg some (by kernel_rfl))
  f260 := Tryz.func337.trans (congrArg some (by kernel_rfl))
  f266 := Tryz.func310.trans (congrArg some (by kernel_rfl))
  f267 := Tryz.func296.trans (congrArg some (by kernel_rfl))
  f268 := Tryz.func306.trans (congrArg some (by kernel_rfl))
  f314 := Tryz.func311.trans (congrArg some (by kernel_rfl))
  t0 := Tryz.underlying0
  a0 := Tryz.isAgg0
  z0 := Tryz.sizeOf0
  v0 := Tryz.zeroValue0
  t3 := Tryz.underlying3
  a3 := Tryz.isAgg3
  z3 := Tryz.sizeOf3
  v3 := Tryz.zeroValue3
  t4 := Tryz.underlying4
  a4 := Tryz.isAgg4
  z4 := Tryz.sizeOf4
  v4 := Tryz.zeroValue4
  t5 := Tryz.underlying5
  a5 := Tryz.isAgg5
  z5 := Tryz.sizeOf5
  v5 := Tryz.zeroValue5
  t9 := Tryz.underlying9
  a9 := Tryz.isAgg9
  z9 := Tryz.sizeOf9
  v9 := Tryz.zeroValue9
  t21 := Tryz.underlying21
  a21 := Tryz.isAgg21
  z21 := Tryz.sizeOf21
  v21 := Tryz.zeroValue21
  t31 := Tryz.underlying33
  a31 := Tryz.isAgg33
  z31 := Tryz.sizeOf33
  v31 := Tryz.zeroValue33
  t46 := Tryz.underlying100
  a46 := Tryz.isAgg100
  z46 := Tryz.sizeOf100
  v46 := Tryz.zeroValue100
  t51 := Tryz.underlying130
  a51 := Tryz.isAgg130
  z51 := Tryz.sizeOf130
  v51 := Tryz.zeroValue130
  t105 := Tryz.underlying351
  a105 := Tryz.isAgg351
  z105 := Tryz.sizeOf351
  v105 := Tryz.zeroValue351
  t119 := Tryz.underlying369
  a119 := Tryz.isAgg369
  z119 := Tryz.sizeOf369
  t138 := Tryz.underlying371
  a138 := Tryz.isAgg371
  z138 := Tryz.sizeOf371
  v138 := Tryz.zeroValue371
  t139 := Tryz.underlying372
  a139 := Tryz.isAgg372
  z139 := Tryz.sizeOf372
  v139 := Tryz.zeroValue372
  t146 := Tryz.underlying342
  a146 := Tryz.isAgg342
  z146 := Tryz.sizeOf342
  v146 := Tryz.zeroValue342
  g1 := by kernel_rfl
  g3 := by kernel_rfl
  g4 := by kernel_rfl }
end Go.Proofs
namespace Go.Proofs.YtiapkffihpgdcaaGreatDoor
open Go.RowKit
theorem rmenusR_any (t:Tm)(c:Cy)(A1 A2:Option Addr)(c1 c2:Nat)(w:World)(h1:RN w A1 t.rest)(h2:RN w A2 t.clo)(hok:TmOk t)(hcy:CyOk c) :
  Calls Tryz.prog 200 #[.agg #[.int .i64 t.len,.slice A1 t.rest.length c1,.slice A2 t.clo.length c2],.agg #[.int .i64 c.n,.int .i64 c.f,.int .i64 c.k]] w fun e w'=>∃A c',e=.returned (.slice A (mnL t c).length c')∧RN w' A (mnL t c)∧Below w.heap.size w w' :=
 (rmenus_any t c A1 A2 c1 c2 w h1 h2 hok hcy).mono fun e w' ⟨A,n,c',he,hn,own,hb⟩=>⟨A,c',by rw [← hn];exact he,RN.of_own own,hb⟩
/-- Block g holds just the cells cs,and can be written. -/
structure Box (w:World) (g:Nat) (cs:Array Value):Prop where
 lt:g<w.heap.size
 cell:∀j,w.cell? ⟨g,j,none⟩=cs[j]?
 free:∀j,w.frozen? ⟨g,j,none⟩=false
theorem Box.below {w w':World}{g:Nat}{cs:Array Value}(h:Box w g cs)(hb:Below w.heap.size w w'):Box w' g cs :=
 ⟨Nat.lt_of_lt_of_le h.lt hb.size,fun j=>(hb.cell (p:=⟨g,j,none⟩) h.lt).trans (h.cell j),fun j=>(hb.frozen (p:=⟨g,j,none⟩) h.lt).trans (h.free j)⟩
theorem Box.new (w:World)(t:TypeId)(cs:Array Value):Box (w.alloc (.cells cs t)) w.heap.size cs :=
 ⟨by simp,fun j=>by simp [World.cell?_alloc_at],fun j=>by simp [go_sem]⟩
theorem Box.alloc {w:World}{g:Nat}{cs:Array Value}(h:Box w g cs)(o:Obj):Box (w.alloc o) g cs:=h.below ((Below.refl _ _).alloc (Nat.le_refl _) _)
theorem Box.at' {w:World}{g g':Nat}{cs:Array Value}(h:Box w g cs)(e:g=g'):Box w g' cs:=e ▸ h
theorem Box.drewN {w:World}{g:Nat}{cs:Array Value}(h:Box w g cs)(n:Nat):Box (w.drewN n) g cs:=⟨h.lt,h.cell,h.free⟩
theorem Box.ne {w:World}{g:Nat}{cs:Array Value}(h:Box w g cs):¬ g=w.heap.size:=Nat.ne_of_lt h.lt
def daysTo (t:Tm)(c:Cy)(m:Int):Nat→List Int
 | 0=>[]
 | k+1=>if mnAt t c k == m then daysTo t c m k ++ [(k:Int)] else daysTo t c m k
theorem daysTo_yes {t:Tm}{c:Cy}{m:Int}{k:Nat}(h:(mnAt t c k == m)=true):daysTo t c m (k+1)=daysTo t c m k ++ [(k:Int)]:=by simp only [daysTo];rw [if_pos h]
theorem daysTo_no {t:Tm}{c:Cy}{m:Int}{k:Nat}(h:(mnAt t c k == m)=false):daysTo t c m (k+1)=daysTo t c m k:=by simp only [daysTo];rw [if_neg (by rw [h];simp)]
theorem daysTo_len (t:Tm)(c:Cy)(m:Int)(k:Nat):(daysTo t c m k).length=cnt (fun d=>mnAt t c d == m) k:=by
 induction k with
 | zero=>rfl
 | succ k ih =>
  cases h:(mnAt t c k == m) with
  | true=>rw [daysTo_yes h,cnt_yes _ _ h,List.length_append,ih];rfl
  | false=>rw [daysTo_no h,cnt_no _ _ h,ih]
theorem daysTo_le (t:Tm)(c:Cy)(m:Int)(k:Nat):(daysTo t c m k).length≤k:=by rw [daysTo_len];exact cnt_le _ _
def daysE (t:Tm)(c:Cy)(m:Int):Int:=if bE t c≠0 then bE t c else if inB m 0 (c.n-1) then 0 else 1
def daysR (t:Tm)(c:Cy)(m:Int):List Int:=if daysE t c m=0 then daysTo t c m t.len.toNat else []
def RetIn (w0:World)(L:List Int)(er:Int)(e:Ending)(w':World):Prop :=
 ∃A c,e=.returned (.tuple #[.slice A L.length c,.int .i64 er])∧OwnN w' w0.heap.size A c L∧Below w0.heap.size w0 w'
theorem rdays_any (m:Int)(c:Cy)(t:Tm)(A1 A2:Option Addr)(c1 c2:Nat)(w:World)(h1:RN w A1 t.rest)(h2:RN w A2 t.clo)(hl1:t.rest.length≤1000000000)(hl2:t.clo.length≤1000000000) :
  Calls Tryz.prog 133 #[.agg #[.int .i64 t.len,.slice A1 t.rest.length c1,.slice A2 t.clo.length c2],.agg #[.int .i64 c.n,.int .i64 c.f,.int .i64 c.k],.int .i64 m] w (RetIn w (daysR t c m) (daysE t c m)):=by
 obtain ⟨E,hE⟩:∃E,E=daysE t c m:=⟨_,rfl⟩
 obtain ⟨R,hR⟩:∃R,R=daysR t c m:=⟨_,rfl⟩
 rw [← hE,← hR]
 have HE:=Lib.hid hE
 have HR:=Lib.hid hR
 clear hE hR
 have hy:Below w.heap.size w ((w.alloc (.cells #[.int .i64 t.len,.slice A1 t.rest.length c1,.slice A2 t.clo.length c2] 24)).alloc (.cells #[.int .i64 c.n,.int .i64 c.f,.int .i64 c.k] 26)):=((Below.refl _ _).alloc (Nat.le_refl _) _).alloc (by simp) _
 have b0:Box ((w.alloc (.cells #[.int .i64 t.len,.slice A1 t.rest.length c1,.slice A2 t.clo.length c2] 24)).alloc (.cells #[.int .i64 c.n,.int .i64 c.f,.int .i64 c.k] 26)) w.heap.size #[.int .i64 t.len,.slice A1 t.rest.length c1,.slice A2 t.clo.length c2]:=(Box.new w _ _).alloc _
 have b1:Box ((w.alloc (.cells #[.int .i64 t.len,.slice A1 t.rest.length c1,.slice A2 t.clo.length c2] 24)).alloc (.cells #[.int .i64 c.n,.int .i64 c.f,.int .i64 c.k] 26)) (w.heap.size+1) #[.int .i64 c.n,.int .i64 c.f,.int .i64 c.k]:=(Box.new (w.alloc (.cells #[.int .i64 t.len,.slice A1 t.rest.length c1,.slice A2 t.clo.length c2] 24)) _ _).at' (by simp)
 replace h1:=h1.below hy
 replace h2:=h2.below hy
 go_enter Tryz.func133,Tryz.ntmps133
 go_wp2_with fail
 refine (rboth_any c t A1 A2 c1 c2 _ h1 h2 hl1 hl2).mono ?_
 rintro e w1 ⟨rfl,hb1⟩
 replace b0:=b0.below hb1;replace b1:=b1.below hb1;replace h1:=h1.below hb1;replace h2:=h2.below hb1;replace hy:=hy.trans (hb1.mono hy.size)
 clear hb1
 by_cases h0:bE t c=0
 ·have h0':(bE t c != 0)=false:=by simp [h0]
  obtain ⟨hok,hcy⟩:=bE_ok h0
  have hEm:E=if inB m 0 (c.n-1) then 0 else 1:=by rw [HE.out,daysE,if_neg (by simp [h0])]
  have HEM:=Lib.hid hEm
  have n1:=hcy.n1
  have n2:=hcy.n2
  have ln1:=hok.len1
  have ln2:=hok.len2
  clear h0 hEm
  cases hi:inB m 0 (c.n-1) with
  | false =>
   have hEv:E=1:=by rw [HEM.out,hi];rfl
   have hRv:R=[]:=by rw [HR.out,daysR,if_neg (by rw [← HE.out,hEv];decide)]
   have H1:=Lib.hid hEv
   have H2:=Lib.hid hRv
   clear hEv hRv
   have xx0:=b0.cell;have nn0:=b0.lt;have xx1:=b1.cell;have nn1:=b1.lt
   go_wp2_with (go_at_call 194;refine (within_any _ _ _ _).mono ?_;rintro e w' ⟨rfl,hw'⟩;subst hw')
   clear xx0 nn0 xx1 nn1
   go_ret2
   exact ⟨none,0,ret2 (by rw [H2.out];rfl) (by rw [H1.out];rfl),by rw [H2.out];exact World.ownsRow_nil _ _ _ _,hy⟩
  | true =>
   have hEv:E=0:=by rw [HEM.out,hi];rfl
   have hRv:R=daysTo t c m t.len.toNat:=by rw [HR.out,daysR,if_pos (by rw [← HE.out,hEv])]
   have H1:=Lib.hid hEv
   have H2:=Lib.hid hRv
   have hml:=mnL_length t c
   have HML:=Lib.hid hml
   clear hEv hRv hml
   have xx0:=b0.cell;have nn0:=b0.lt;have xx1:=b1.cell;have nn1:=b1.lt
   go_wp2_with (go_at_call 194;refine (within_any _ _ _ _).mono ?_;rintro e w' ⟨rfl,hw'⟩;have hw'':=hw'.symm;clear hw';subst hw'')
   clear xx0 nn0 xx1 nn1
   refine (rmenusR_any t c A1 A2 c1 c2 _ h1 h2 hok hcy).mono ?_
   rintro e w2 ⟨Am,cm,rfl,hrn,hb2⟩
   replace hy:=hy.trans (hb2.mono hy.size)
   have hz:=hy.size
   clear b0 b1 h1 h2 hb2
   go_wp2
   go_loopw [9,11] (fun o x wr=>∃k:Nat,k≤(mnL t c).length∧x=.int .i64 k∧∃A c',o=.slice A (daysTo t c m k).length c'∧OwnN wr w2.heap.size A c' (daysTo t c m k)∧Below w2.heap.size w2 wr) (fun _ x _=>(mnL t c).length-(intOf x).toNat)
   case atStart=>exact ⟨0,by omega,rfl,none,0,rfl,World.ownsRow_nil _ _ _ _,Below.refl _ _⟩
   case round =>
    obtain ⟨k,hk,rfl,A,c',rfl,own,hbl⟩:=hrel
    by_cases hlt:k<(mnL t c).length
    ·have hq:=HML.out
     obtain ⟨ad,rfl,hab,e0⟩:=(hrn.below hbl).at_ hlt
     rw [mnL_at t c k (by omega)] at e0
     have hll:=daysTo_le t c m k
     have hkb:k<1000:=by omega
     have hbs:=hbl.size
     clear hq
     cases hq:(mnAt t c k == m) with
     | true =>
      have hs:=daysTo_yes hq
      have HS:=Lib.hid hs
      clear hs
      go_wp2_with (at_builtin;refine wpList_app1 rfl _ _ rfl Tryz.underlying22 info_int rfl (by omega) rfl own rfl rfl (by simp [Value.oneCell']) (by omega) (by omega) (by omega) ?_;intro A' c'' w3 own3 hb3)
      go_roundw
      case rel=>exact ⟨k+1,by omega,by go_num,A',c'',by rw [HS.out,List.length_append];rfl,OwnN.snoc own3 rfl HS.out,hbl.trans (hb3 _ (Nat.le_refl _))⟩
      case measure=>simp [intOf];omega
     | false =>
      have hs:=daysTo_no hq
      have HS:=Lib.hid hs
      clear hs
      go_wp2
      go_roundw
      case rel=>exact ⟨k+1,by omega,by go_num,A,c',by rw [HS.out],by rw [HS.out];exact own,hbl⟩
      case measure=>simp [intOf];omega
    ·have hkl:k=t.len.toNat:=by have:=HML.out;omega
     have HKL:=Lib.hid hkl
     clear hkl
     go_wp2
     go_ret2
     exact ⟨A,c',ret2 (by rw [H2.out,← HKL.out];rfl) (by rw [H1.out];rfl),by rw [H2.out,← HKL.out];exact own_base own hz,hy.trans (hbl.mono hz)⟩
 ·have h0':(bE t c != 0)=true:=by simp [h0]
  have hEv:E=bE t c:=by rw [HE.out,daysE,if_pos h0]
  have hRv:R=[]:=by rw [HR.out,daysR,if_neg (by rw [← HE.out,hEv];exact h0)]
  have H1:=Lib.hid hEv
  have H2:=Lib.hid hRv
  clear hEv hRv h0
  go_wp2
  go_ret2
  exact ⟨none,0,ret2 (by rw [H2.out];rfl) (by rw [H1.out];rfl),by rw [H2.out];exact World.ownsRow_nil _ _ _ _,hy⟩
theorem sameInts_any (l m:List Int)(A A':Option Addr)(c c':Nat)(w:World)(hl:RN w A l)(hm:RN w A' m)(hb:l.length≤1000000000)(hb':m.length≤1000000000) :
  Calls Tryz.prog 107 #[.slice A l.length c,.slice A' m.length c'] w fun e w'=>e=.returned (.bool (decide (l=m)))∧Below w.heap.size w w':=by
 by_cases hlen:l.length=m.length
 ·have hlen':((l.length:Int) != (m.length:Int))=false:=by simp [hlen]
  have HL:=Lib.hid hlen;clear hlen
  go_enter Tryz.func107,Tryz.ntmps107
  go_wp2
  go_loopw [5] (fun x wr=>∃k:Nat,k≤l.length∧x=.int .i64 k∧eqIn l m k∧Below w.heap.size w wr) (fun x _=>l.length-(intOf x).toNat)
  case atStart=>exact ⟨0,by omega,rfl,fun i hi=>by omega,Below.refl _ _⟩
  case round =>
   obtain ⟨k,hk,rfl,he,hbl⟩:=hrel
   by_cases hlt:k<l.length
   ·have hlt':k<m.length:=by rw [← HL.out];exact hlt
    obtain ⟨ad,rfl,hab,c0⟩:=(hl.below hbl).at_ hlt
    obtain ⟨ad',rfl,hab',d0⟩:=(hm.below hbl).at_ hlt'
    cases hq:(gi l k != gi m k) with
    | true =>
     have hne:gi l k≠gi m k:=by simpa using hq
     have HNE:=Lib.hid hne;clear hne
     go_wp2_with fail
     go_quiet (fail)
     go_wp2
     go_ret
     exact ⟨ret_bool (by symm;rw [decide_eq_false_iff_not];intro e;exact HNE.out (by rw [e])),below_drewN hbl _⟩
    | false =>
     have heq:gi l k=gi m k:=by simpa using hq
     have HEQ:=Lib.hid heq;clear heq
     go_wp2_with fail
     go_quiet (fail)
     go_wp2
     go_roundw
     case rel=>exact ⟨k+1,by omega,by go_num,fun i hi=>by
      by_cases e:i=k
      ·subst e;exact HEQ.out
      ·exact he i (by omega),below_drewN hbl _⟩
     case measure=>simp [intOf];omega
   ·obtain rfl:k=l.length:=by omega
    go_wp2
    go_ret
    exact ⟨ret_bool (by symm;rw [decide_eq_true_eq];exact eqIn_all HL.out he),hbl⟩
 ·have hlen':((l.length:Int) != (m.length:Int))=true:=by simp;omega
  have HL:=Lib.hid hlen;clear hlen
  go_enter Tryz.func107,Tryz.ntmps107
  go_wp2
  go_ret
  exact ⟨ret_bool (by symm;rw [decide_eq_false_iff_not];intro e;exact HL.out (by rw [e])),Below.refl _ _⟩
theorem take_gi {l:List Int}{k:Nat}(h:k<l.length):l.take (k+1)=l.take k ++ [gi l k]:=by
 rw [List.take_add_one];simp [gi,h]
theorem copyInts_any (l:List Int)(A:Option Addr)(c:Nat)(w:World)(hl:RN w A l)(hb:l.length≤1000000) :
  Calls Tryz.prog 197 #[.slice A l.length c] w fun e w'=>∃A' c',e=.returned (.slice A' l.length c')∧OwnN w' w.heap.size A' c' l∧Below w.heap.size w w':=by
 go_enter Tryz.func197,Tryz.ntmps197
 go_wp2
 go_loopw [3,4] (fun o x wr=>∃k:Nat,k≤l.length∧x=.int .i64 k∧∃A' c',o=.slice A' (l.take k).length c'∧OwnN wr w.heap.size A' c' (l.take k)∧Below w.heap.size w wr) (fun _ x _=>l.length-(intOf x).toNat)
 case atStart=>exact ⟨0,by omega,rfl,none,0,rfl,World.ownsRow_nil _ _ _ _,Below.refl _ _⟩
 case round =>
  obtain ⟨k,hk,rfl,A',c',rfl,own,hy⟩:=hrel
  have hll:(l.take k).length=k:=by rw [List.length_take];omega
  by_cases hlt:k<l.length
  ·obtain ⟨ad,rfl,hab,e0⟩:=(hl.below hy).at_ hlt
   have hs:=take_gi hlt
   have HS:=Lib.hid hs
   have hbs:=hy.size
   clear hs
   go_wp2_with (at_builtin;refine wpList_app1 rfl _ _ rfl Tryz.underlying22 info_int rfl (by omega) rfl own rfl rfl (by simp [Value.oneCell']) (by omega) (by omega) (by omega) ?_;intro A'' c'' w3 own3 hb3)
   go_roundw
   case rel=>exact ⟨k+1,by omega,by go_num,A'',c'',by rw [HS.out,List.length_append,hll];rfl,OwnN.snoc own3 rfl (by rw [HS.out]),hy.trans (hb3 _ (Nat.le_refl _))⟩
   case measure=>simp [intOf];omega
  ·have hkl:k=l.length:=by omega
   subst hkl
   rw [List.take_length] at own ⊢
   go_wp2
   go_ret
   exact ⟨A',c',rfl,own,hy⟩
theorem copy_any (t:Tm)(A1 A2:Option Addr)(c1 c2:Nat)(w:World)(h1:RN w A1 t.rest)(h2:RN w A2 t.clo)(hl1:t.rest.length≤1000000)(hl2:t.clo.length≤1000000) :
  Calls Tryz.prog 131 #[.agg #[.int .i64 t.len,.slice A1 t.rest.length c1,.slice A2 t.clo.length c2]] w fun e w'=>∃A c A' c',e=.returned (.agg #[.int .i64 t.len,.slice A t.rest.length c,.slice A' t.clo.length c'])∧OwnN w' w.heap.size A c t.rest∧OwnN w' w.heap.size A' c' t.clo∧Below w.heap.size w w':=by
 obtain ⟨w2,hw2⟩:∃w2,((w.alloc (.cells #[.int .i64 t.len,.slice A1 t.rest.length c1,.slice A2 t.clo.length c2] 24)).alloc (.cells #[.int .i64 0,.slice none 0 0,.slice none 0 0] 24))=w2:=⟨_,rfl⟩
 have hy:Below w.heap.size w w2:=by rw [← hw2];exact ((Below.refl _ w).alloc (Nat.le_refl _) _).alloc (by simp) _
 have b0:Box w2 w.heap.size #[.int .i64 t.len,.slice A1 t.rest.length c1,.slice A2 t.clo.length c2]:=by rw [← hw2];exact (Box.new w _ _).alloc _
 have b1:Box w2 (w.heap.size+1) #[.int .i64 0,.slice none 0 0,.slice none 0 0]:=by rw [← hw2];exact (Box.new (w.alloc (.cells #[.int .i64 t.len,.slice A1 t.rest.length c1,.slice A2 t.clo.length c2] 24)) _ _).at' (by simp)
 have r1:=h1.below hy
 have r2:=h2.below hy
 have d1:RN w2.drew A1 t.rest:=r1
 have d2:RN w2.drew A2 t.clo:=r2
 have x0:=b0.cell 0;have x1:=b0.cell 1;have x2:=b0.cell 2
 have f0:=b1.free 0;have f1:=b1.free 1;have f2:=b1.free 2
 have b0d:=b0.drewN 1
 have b1d:=b1.drewN 1
 simp only [gqA,gqB,gqC] at x0 x1 x2
 have hsz:w.heap.size+1<w2.heap.size:=b1.lt
 go_enter Tryz.func131,Tryz.ntmps131
 go_wp2_with fail
 go_cut [11] (fun s wx=>∃A c A' c',wx.cell? ⟨w.heap.size+1,0,none⟩=some (.int .i64 t.len)∧wx.cell? ⟨w.heap.size+1,1,none⟩=some (.slice A t.rest.length c)∧wx.cell? ⟨w.heap.size+1,2,none⟩=some (.slice A' t.clo.length c')∧OwnN wx w2.heap.size A c t.rest∧OwnN wx w2.heap.size A' c' t.clo∧Below w.heap.size w wx)
 case first =>
  go_region_held3 (fun w'=>w'.cell? ⟨w.heap.size,0,none⟩=some (.int .i64 t.len)∧w'.cell? ⟨w.heap.size,1,none⟩=some (.slice A1 t.rest.length c1)∧w'.cell? ⟨w.heap.size,2,none⟩=some (.slice A2 t.clo.length c2)∧w'.frozen? ⟨w.heap.size+1,0,none⟩=false∧w'.frozen? ⟨w.heap.size+1,1,none⟩=false∧w'.frozen? ⟨w.heap.size+1,2,none⟩=false)
   (first | go_keep | (go_split_ands;refine ⟨?_,?_,?_,?_,?_,?_⟩ <;> ((first | rw [hbB.cell (by first | omega | (simp;omega))] | rw [hbB.frozen (by first | omega | (simp;omega))]);go_keep)) | (go_split_ands;refine ⟨?_,?_,?_,?_,?_,?_⟩ <;> ((first | rw [hbA.cell (by first | omega | (simp;omega))] | rw [hbA.frozen (by first | omega | (simp;omega))]);go_keep)) | (go_split_ands;refine ⟨?_,?_,?_,?_,?_,?_⟩ <;> simp [*,go_sem]))
   (first | (go_at_call 197;(with_reducible refine (copyInts_any t.rest A1 c1 _ d1 (by omega)).mono ?_);rintro e wA ⟨AA,cA,rfl,ownA,hbA⟩;have hsA:w2.heap.size≤wA.heap.size:=hbA.size) | (go_at_call 197;(with_reducible refine (copyInts_any t.clo A2 c2 _ (d2.below hbA) (by omega)).mono ?_);rintro e wB ⟨AB,cB,rfl,ownB,hbB⟩;have hsB:wA.heap.size≤wB.heap.size:=hbB.size;have z0B:wB.cell? ⟨w.heap.size+1,0,none⟩=some (.int .i64 0):=(((b1d.below hbA).below hbB).cell 0).trans rfl;have z1B:wB.cell? ⟨w.heap.size+1,1,none⟩=some (.slice none 0 0):=(((b1d.below hbA).below hbB).cell 1).trans rfl;have z2B:wB.cell? ⟨w.heap.size+1,2,none⟩=some (.slice none 0 0):=(((b1d.below hbA).below hbB).cell 2).trans rfl))
  ·go_wp2_with fail
   go_meet
   have hz:Below w.heap.size w wB:=hy.trans ((((Below.refl w2.heap.size w2).drew.trans hbA).trans (hbB.mono hsA)).mono hy.size)
   have hz3:=((hz.setCell (p:=⟨w.heap.size+1,0,none⟩) (by show w.heap.size≤w.heap.size+1;omega) (.int .i64 t.len)).setCell (p:=⟨w.heap.size+1,1,none⟩) (by show w.heap.size≤w.heap.size+1;omega) (.slice AA t.rest.length cA)).setCell (p:=⟨w.heap.size+1,2,none⟩) (by show w.heap.size≤w.heap.size+1;omega) (.slice AB t.clo.length cB)
   refine ⟨AA,cA,AB,cB,?_,?_,?_,?_,?_,hz3⟩
   ·rw [World.cell?_setCell_other _ _ _ _ (by simp),World.cell?_setCell_other _ _ _ _ (by simp),World.cell?_setCell_same' _ _ _ (by rw [z0B];rfl)]
   ·rw [World.cell?_setCell_other _ _ _ _ (by simp),World.cell?_setCell_same' _ _ _ (by rw [World.cell?_setCell_other _ _ _ _ (by simp),z1B];rfl)]
   ·rw [World.cell?_setCell_same' _ _ _ (by rw [World.cell?_setCell_other _ _ _ _ (by simp),World.cell?_setCell_other _ _ _ _ (by simp),z2B];rfl)]
   ·exact ownsRow_setCell_below (ownsRow_setCell_below (ownsRow_setCell_below (ownA.kept hbB) hsz _) hsz _) hsz _
   ·exact own_base (ownsRow_setCell_below (ownsRow_setCell_below (ownsRow_setCell_below ownB (show w.heap.size+1<wA.heap.size by omega) _) (show w.heap.size+1<wA.heap.size by omega) _) (show w.heap.size+1<wA.heap.size by omega) _) hsA
 case rest =>
  obtain ⟨A,c,A',c',q0,q1,q2,own1,own2,hb⟩:=hcut
  go_wp2_with fail
  refine bodyPost_ret (v:=.agg #[.int .i64 t.len,.slice A t.rest.length c,.slice A' t.clo.length c']) (by simp [results,Tryz.results131,go_sem,q0,q1,q2]) rfl ?_
  exact ⟨A,c,A',c',rfl,own_base own1 (by omega),own_base own2 (by omega),hb⟩
end Go.Proofs.YtiapkffihpgdcaaGreatDoor
