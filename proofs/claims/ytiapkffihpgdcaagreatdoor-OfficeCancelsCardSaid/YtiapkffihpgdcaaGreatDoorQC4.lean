import Derived.Test.YtiapkffihpgdcaaGreatDoorQC1
import Derived.Test.YtiapkffihpgdcaaGreatDoorQC3
import Derived.WalkKit
import Derived.WalkSpells
import Derived.WalkLawsBesides
import Derived.Handy
import Derived.Deep.QuietTactic
import Derived.BigQuiet
import Derived.Lib.Hide
import Derived.Below
import Derived.Laws.OwnMore
import Derived.Deep.AppendLies
import Derived.Deep.Draws
import Derived.Deep.DeepMust
import Derived.Deep.DeepFit
import Derived.Deep.LoopGhost
import Derived.Deep.DeepCutAuto
import Derived.Lib.ItoaNum
import Derived.Lib.Join
import Derived.Lib.AtoiAll
import Derived.KernelRfl
import Derived.Deep.RegionLaw
set_option linter.unusedVariables false
set_option linter.unusedSimpArgs false
set_option maxRecDepth 100000
set_option maxHeartbeats 4000000
namespace Go.Proofs.YtiapkffihpgdcaaGreatDoor
/-- A fact of a table. -/
structure Fact where
 at_:Int
 ch:Int
 fr:Int
 un:Int
 me:Int
instance:DecidableEq Fact:=fun a b =>
 if h:a.at_=b.at_∧a.ch=b.ch∧a.fr=b.fr∧a.un=b.un∧a.me=b.me then isTrue (by cases a;cases b;simp_all) else isFalse (by rintro rfl;simp at h)
def gf (l:List Fact)(k:Nat):Fact:=l.getD k ⟨0,0,0,0,0⟩
theorem gf_getElem (l:List Fact)(k:Nat)(h:k<l.length):l[k]=gf l k:=by simp [gf,h]
def rightN (a c f t m:Int):Bool:=decide (0≤a∧a≤1440000∧0≤c∧c≤99∧0≤f∧f<t∧t≤1000∧0≤m∧m≤9)
def rightB (f:Fact):Bool:=rightN f.at_ f.ch f.fr f.un f.me
theorem right_iff (f:Fact):rightB f=true ↔ 0≤f.at_∧f.at_≤1440000∧0≤f.ch∧f.ch≤99∧0≤f.fr∧f.fr<f.un∧f.un≤1000∧0≤f.me∧f.me≤9:=by simp [rightB,rightN]
/-- Validate,behind facts of which the last is written at prev. -/
def vG (prev:Int):List Fact→Int
 | []=>0
 | f :: r=>if rightB f then (if f.at_<prev then 7 else vG f.at_ r) else 1
def vld (l:List Fact):Int:=if 60<l.length then 4 else vG (-1) l
def prv (l:List Fact)(k:Nat):Int:=if k=0 then -1 else (gf l (k-1)).at_
theorem prv_zero (l:List Fact):prv l 0 = -1:=by simp [prv]
theorem prv_pos (l:List Fact)(k:Nat)(h:0<k):prv l k=(gf l (k-1)).at_:=by unfold prv;rw [if_neg (by omega)]
theorem right_at (f:Fact)(h:rightB f=true):0≤f.at_:=by have:=(right_iff f).1 h;omega
theorem vG_step (l:List Fact)(k:Nat)(hk:k<l.length) :
  vG (prv l k) (l.drop k)=if rightB (gf l k) then (if (gf l k).at_<prv l k then 7 else vG (prv l (k+1)) (l.drop (k+1))) else 1:=by
 rw [List.drop_eq_getElem_cons hk,gf_getElem l k hk]
 simp only [vG]
 rw [prv_pos l (k+1) (by omega)]
 rfl
theorem vld_wrong (l:List Fact)(k:Nat)(hk:k<l.length)(h60:¬ 60<l.length)(hv:vG (-1) l=vG (prv l k) (l.drop k))(hr:rightB (gf l k)=false):vld l=1:=by
 unfold vld;rw [if_neg h60,hv,vG_step l k hk,if_neg (by rw [hr];simp)]
theorem vld_order (l:List Fact)(k:Nat)(hk:k<l.length)(h60:¬ 60<l.length)(hv:vG (-1) l=vG (prv l k) (l.drop k))(hr:rightB (gf l k)=true)(hkp:0<k)(hp:(gf l k).at_<(gf l (k-1)).at_):vld l=7:=by
 unfold vld;rw [if_neg h60,hv,vG_step l k hk,if_pos hr,prv_pos l k hkp,if_pos hp]
theorem vld_next (l:List Fact)(k:Nat)(hk:k<l.length)(hv:vG (-1) l=vG (prv l k) (l.drop k))(hr:rightB (gf l k)=true)(hp:0<k→(gf l (k-1)).at_≤(gf l k).at_):vG (-1) l=vG (prv l (k+1)) (l.drop (k+1)):=by
 rw [hv,vG_step l k hk,if_pos hr,if_neg]
 by_cases h0:0<k
 ·rw [prv_pos l k h0];have:=hp h0;omega
 ·have:k=0:=by omega
  subst this;have:=right_at _ hr;rw [prv_zero];omega
theorem vld_end (l:List Fact)(k:Nat)(hk:¬ k<l.length)(h60:¬ 60<l.length)(hv:vG (-1) l=vG (prv l k) (l.drop k)):vld l=0:=by
 unfold vld;rw [if_neg h60,hv,List.drop_eq_nil_of_le (by omega)];rfl
/-- What validity gives. -/
structure Vld (l:List Fact):Prop where
 len:l.length≤60
 right:∀i,i<l.length→rightB (gf l i)=true
 sorted:∀i j,i≤j→j<l.length→(gf l i).at_≤(gf l j).at_
theorem vG_right:∀(l:List Fact) (p:Int),vG p l=0→(∀i,i<l.length→rightB (gf l i)=true)∧(∀i,i<l.length→p≤(gf l i).at_)∧(∀i j,i≤j→j<l.length→(gf l i).at_≤(gf l j).at_)
 | [],_,_=>⟨by simp,by simp,by simp⟩
 | f :: r,p,h=>by
  simp only [vG] at h
  split at h
  ·rename_i hr
   split at h
   ·cases h
   ·rename_i hp
    obtain ⟨h1,h2,h3⟩:=vG_right r f.at_ h
    have g0:gf (f :: r) 0=f:=rfl
    have gs:∀i,gf (f :: r) (i+1)=gf r i:=fun i=>by simp [gf]
    refine ⟨fun i hi=>?_,fun i hi=>?_,fun i j hij hj=>?_⟩
    ·cases i with
     | zero=>exact hr
     | succ i=>rw [gs];exact h1 i (by simpa using hi)
    ·cases i with
     | zero=>rw [g0];omega
     | succ i=>rw [gs];have:=h2 i (by simpa using hi);omega
    ·cases i with
     | zero =>
      cases j with
      | zero=>exact Int.le_refl _
      | succ j=>rw [gs,g0];exact h2 j (by simpa using hj)
     | succ i =>
      cases j with
      | zero=>omega
      | succ j=>rw [gs,gs];exact h3 i j (by omega) (by simpa using hj)
  ·cases h
theorem Vld.of {l:List Fact}(h:vld l=0):Vld l:=by
 unfold vld at h
 split at h
 ·cases h
 ·obtain ⟨h1,_,h3⟩:=vG_right l _ h
  exact ⟨by omega,h1,h3⟩
theorem vG_of:∀(l:List Fact) (p:Int),(∀i,i<l.length→rightB (gf l i)=true)→(∀i,i<l.length→p≤(gf l i).at_)→(∀i j,i≤j→j<l.length→(gf l i).at_≤(gf l j).at_)→vG p l=0
 | [],_,_,_,_=>rfl
 | f :: r,p,h1,h2,h3=>by
  have g0:gf (f :: r) 0=f:=rfl
  have gs:∀i,gf (f :: r) (i+1)=gf r i:=fun i=>by simp [gf]
  simp only [vG]
  have hr:rightB f=true:=by have:=h1 0 (by simp);rwa [g0] at this
  have hp:¬ f.at_<p:=by have:=h2 0 (by simp);rw [g0] at this;omega
  rw [if_pos hr,if_neg hp]
  refine vG_of r _ (fun i hi=>?_) (fun i hi=>?_) (fun i j hij hj=>?_)
  ·rw [← gs];exact h1 _ (by simpa using hi)
  ·have:=h3 0 (i+1) (by omega) (by simpa using hi);rw [gs,g0] at this;exact this
  ·rw [← gs,← gs];exact h3 _ _ (by omega) (by simpa using hj)
theorem Vld.to {l:List Fact}(h:Vld l):vld l=0:=by
 unfold vld
 rw [if_neg (by have:=h.len;omega)]
 exact vG_of l _ h.right (fun i hi=>by have:=right_at _ (h.right i hi);omega) h.sorted
/-- What asked returns. -/
def askd (l:List Fact)(b:Bool):Int:=if vld l≠0 then vld l else if b then 0 else 1
theorem askd_ok {l:List Fact}{b:Bool}(h:askd l b=0):vld l=0∧b=true:=by
 unfold askd at h
 split at h
 ·rename_i hv;exact absurd h hv
 ·rename_i hv
  cases b
  ·cases h
  ·exact ⟨by simpa using hv,rfl⟩
/-- A fact tells about a minute,a child and a day. -/
def covN (ch fr un c d:Int):Bool:=decide (ch=c∧fr≤d∧d<un)
def covB (f:Fact)(c d:Int):Bool:=covN f.ch f.fr f.un c d
theorem covB_iff (f:Fact)(c d:Int):covB f c d=true ↔ f.ch=c∧f.fr≤d∧d<f.un:=by simp [covB,covN]
theorem covB_not (f:Fact)(c d:Int):covB f c d=false ↔ ¬ (f.ch=c∧f.fr≤d∧d<f.un):=by rw [← covB_iff];simp
def hit (f:Fact)(t c d:Int):Bool:=decide (f.at_≤t) && covB f c d
def rsnTo (l:List Fact)(t c d:Int):Nat→Int
 | 0=>-1
 | k+1=>if hit (gf l k) t c d then (k:Int) else rsnTo l t c d k
def rsn (l:List Fact)(t c d:Int):Int:=rsnTo l t c d l.length
def fAt (l:List Fact)(i:Int):Int:=if i<0 then 0 else (gf l i.toNat).at_
def fCh (l:List Fact)(i:Int):Int:=if i<0 then 0 else (gf l i.toNat).ch
def fFr (l:List Fact)(i:Int):Int:=if i<0 then 0 else (gf l i.toNat).fr
def fUn (l:List Fact)(i:Int):Int:=if i<0 then 0 else (gf l i.toNat).un
def fMe (l:List Fact)(i:Int):Int:=if i<0 then 0 else (gf l i.toNat).me
def knw (l:List Fact)(t c d:Int):Int:=fMe l (rsn l t c d)
theorem rsnTo_bd (l:List Fact)(t c d:Int)(k:Nat) : -1≤rsnTo l t c d k∧rsnTo l t c d k<k:=by
 induction k with
 | zero=>simp [rsnTo]
 | succ k ih=>simp only [rsnTo];split <;> omega
theorem rsnTo_hit (l:List Fact)(t c d:Int)(k:Nat)(h:hit (gf l k) t c d=true):rsnTo l t c d (k+1)=k:=by simp only [rsnTo,h,if_true]
theorem rsnTo_miss (l:List Fact)(t c d:Int)(k:Nat)(h:hit (gf l k) t c d=false):rsnTo l t c d (k+1)=rsnTo l t c d k:=by simp [rsnTo,h]
theorem rsnTo_of_none (l:List Fact)(t c d:Int)(n:Nat):∀m,(∀i,n≤i→i<n+m→hit (gf l i) t c d=false)→rsnTo l t c d (n+m)=rsnTo l t c d n
 | 0,_=>rfl
 | m+1,h=>by rw [← Nat.add_assoc,rsnTo_miss _ _ _ _ _ (h _ (by omega) (by omega)),rsnTo_of_none l t c d n m (fun i h1 h2=>h i h1 (by omega))]
/-- How many facts are written at a minute: the first ones,if the table is sorted. -/
def IsCut (l:List Fact)(t:Int)(n:Nat):Prop:=n≤l.length∧(∀i,i<n→(gf l i).at_≤t)∧(∀i,n≤i→i<l.length→t<(gf l i).at_)
theorem rsn_cut {l:List Fact}{t:Int}{n:Nat}(h:IsCut l t n)(c d:Int):rsn l t c d=rsnTo l t c d n:=by
 obtain ⟨m,hm⟩:=Nat.le.dest h.1
 unfold rsn
 rw [← hm]
 refine rsnTo_of_none l t c d n m fun i h1 h2=>?_
 have:=h.2.2 i h1 (by omega)
 simp [hit];omega
structure Sp where
 fr:Int
 un:Int
 me:Int
instance:DecidableEq Sp:=fun a b =>
 if h:a.fr=b.fr∧a.un=b.un∧a.me=b.me then isTrue (by cases a;cases b;simp_all) else isFalse (by rintro rfl;simp at h)
def gs (l:List Sp)(k:Nat):Sp:=l.getD k ⟨0,0,0⟩
/-- A day more. -/
def spAdd (out:List Sp)(d m:Int):List Sp :=
 if 0<out.length∧(gs out (out.length-1)).un=d∧(gs out (out.length-1)).me=m then out.set (out.length-1) ⟨(gs out (out.length-1)).fr,(gs out (out.length-1)).un+1,(gs out (out.length-1)).me⟩
 else out ++ [⟨d,d+1,m⟩]
def spTo (m:Nat→Int)(p:Nat→Bool):Nat→List Sp
 | 0=>[]
 | k+1=>if p k then spAdd (spTo m p k) k (m k) else spTo m p k
theorem spTo_skip (m:Nat→Int)(p:Nat→Bool)(k:Nat)(h:p k=false):spTo m p (k+1)=spTo m p k:=by simp [spTo,h]
theorem spTo_more (m:Nat→Int)(p:Nat→Bool)(k:Nat)(h:p k=true)(h2:0<(spTo m p k).length∧(gs (spTo m p k) ((spTo m p k).length-1)).un=k∧(gs (spTo m p k) ((spTo m p k).length-1)).me=m k) :
  spTo m p (k+1)=(spTo m p k).set ((spTo m p k).length-1) ⟨(gs (spTo m p k) ((spTo m p k).length-1)).fr,(gs (spTo m p k) ((spTo m p k).length-1)).un+1,(gs (spTo m p k) ((spTo m p k).length-1)).me⟩:=by
 simp only [spTo,h,if_true,spAdd]
 rw [if_pos h2]
theorem spTo_new (m:Nat→Int)(p:Nat→Bool)(k:Nat)(h:p k=true)(h2:¬ (0<(spTo m p k).length∧(gs (spTo m p k) ((spTo m p k).length-1)).un=k∧(gs (spTo m p k) ((spTo m p k).length-1)).me=m k)) :
  spTo m p (k+1)=spTo m p k ++ [⟨k,k+1,m k⟩]:=by
 simp only [spTo,h,if_true,spAdd]
 rw [if_neg h2]
theorem fMe_bd {l:List Fact}(h:Vld l)(i:Int)(hi:i<l.length):0≤fMe l i∧fMe l i≤9:=by
 unfold fMe
 split
 ·omega
 ·have:=(right_iff _).1 (h.right i.toNat (by omega));omega
theorem knw_bd {l:List Fact}(h:Vld l)(t c d:Int):0≤knw l t c d∧knw l t c d≤9:=by
 have:=rsnTo_bd l t c d l.length
 exact fMe_bd h _ this.2
def stretchB (f t:Int):Bool:=decide (0≤f∧f<t∧t≤1000)
def leq1 (a t:Int):Int:=if a≤t then -1 else 1
theorem leq1_yes {a t:Int}(h:a≤t):leq1 a t = -1:=by unfold leq1;rw [if_pos h]
theorem leq1_no {a t:Int}(h:t<a):leq1 a t=1:=by unfold leq1;rw [if_neg (by omega)]
/-- How far the search has come. -/
def SrchO (l:List Fact)(t:Int)(i j:Nat):Prop:=(∀m,m<i→(gf l m).at_≤t)∧(∀m,j≤m→m<l.length→t<(gf l m).at_)
def rM (l:List Fact)(t c:Int)(d:Nat):Int:=knw l t c d
/-- The error of a table,a child and a day. -/
def askE (l:List Fact)(child day:Int):Int:=askd l (inB child 0 99 && inB day 0 999)
theorem askE_ok {l:List Fact}{child day:Int}(h:askE l child day=0):Vld l∧0≤child∧child≤99∧0≤day∧day≤999:=by
 obtain ⟨h1,h2⟩:=askd_ok h
 rw [Bool.and_eq_true] at h2
 have:=inB_true.1 h2.1
 have:=inB_true.1 h2.2
 exact ⟨Vld.of h1,by omega,by omega,by omega,by omega⟩
def knownR (l:List Fact)(t child day:Int):Int:=if askE l child day=0 then knw l t child day else 0
def sumN (f:Nat→Nat):Nat→Nat
 | 0=>0
 | k+1=>sumN f k+f k
theorem sumN_congr (f g:Nat→Nat)(n:Nat)(h:∀i,i<n→f i=g i):sumN f n=sumN g n:=by
 induction n with
 | zero=>rfl
 | succ n ih=>simp only [sumN];rw [ih fun i hi=>h i (by omega),h n (by omega)]
def one (b:Bool):Nat:=if b then 1 else 0
def untTo (l:List Fact)(t:Int):Nat→List Fact
 | 0=>[]
 | k+1=>if (gf l k).at_≤t then untTo l t k ++ [gf l k] else untTo l t k
theorem untTo_yes (l:List Fact)(t:Int)(k:Nat)(h:(gf l k).at_≤t):untTo l t (k+1)=untTo l t k ++ [gf l k]:=by simp [untTo,h]
theorem untTo_no (l:List Fact)(t:Int)(k:Nat)(h:¬ (gf l k).at_≤t):untTo l t (k+1)=untTo l t k:=by simp [untTo,h]
theorem untTo_cut {l:List Fact}{t:Int}{n:Nat}(h:IsCut l t n):∀k,k≤l.length→untTo l t k=(l.take n).take k
 | 0,_=>by simp [untTo]
 | k+1,hk=>by
  have ih:=untTo_cut h k (by omega)
  by_cases hkn:k<n
  ·rw [untTo_yes l t k (h.2.1 k hkn),ih,List.take_succ_eq_append_getElem (by rw [List.length_take];omega)]
   congr 2
   simp [gf,show k<l.length by omega]
  ·have e:∀j,n≤j→(l.take n).take j=l.take n:=fun j hj=>List.take_of_length_le (by rw [List.length_take];omega)
   rw [untTo_no l t k (by have:=h.2.2 k (by omega) (by omega);omega),ih,e k (by omega),e (k+1) (by omega)]
theorem cut_exists {l:List Fact}(hV:Vld l)(t:Int):∃n,IsCut l t n:=by
 have key:∀k,k≤l.length→∃n,n≤k∧(∀i,i<n→(gf l i).at_≤t)∧(∀i,n≤i→i<k→t<(gf l i).at_):=by
  intro k
  induction k with
  | zero=>intro _;exact ⟨0,Nat.le_refl _,fun i hi=>by omega,fun i h1 h2=>by omega⟩
  | succ k ih =>
   intro hk
   obtain ⟨n,h1,h2,h3⟩:=ih (by omega)
   by_cases hq:(gf l k).at_≤t
   ·exact ⟨k+1,Nat.le_refl _,fun i hi=>Int.le_trans (hV.sorted i k (by omega) (by omega)) hq,fun i a b=>by omega⟩
   ·refine ⟨n,by omega,h2,fun i a b=>?_⟩
    by_cases e:i=k
    ·subst e;omega
    ·exact h3 i a (by omega)
 obtain ⟨n,h1,h2,h3⟩:=key l.length (Nat.le_refl _)
 exact ⟨n,h1,h2,h3⟩
theorem rsnTo_congr (l m:List Fact)(t c d:Int)(k:Nat)(h:∀i,i<k→gf l i=gf m i):rsnTo l t c d k=rsnTo m t c d k:=by
 induction k with
 | zero=>rfl
 | succ k ih=>simp only [rsnTo];rw [ih fun i hi=>h i (by omega),h k (by omega)]
theorem sp_cover (m:Nat→Int)(p:Nat→Bool)(k:Nat) :
  (∀s ∈ spTo m p k,0≤s.fr∧s.fr<s.un∧s.un≤k∧∀d:Nat,s.fr≤d→(d:Int)<s.un→p d=true∧m d=s.me) ∧
  (∀d,d<k→p d=true→∃s ∈ spTo m p k,s.fr≤d∧(d:Int)<s.un):=by
 induction k with
 | zero=>exact ⟨by simp [spTo],by intro d hd;omega⟩
 | succ k ih =>
  obtain ⟨i1,i2⟩:=ih
  by_cases hp:p k=true
  ·by_cases hc:0<(spTo m p k).length∧(gs (spTo m p k) ((spTo m p k).length-1)).un=k∧(gs (spTo m p k) ((spTo m p k).length-1)).me=m k
   ·rw [spTo_more m p k hp hc]
    obtain ⟨h0,hu,hm⟩:=hc
    have hlast:gs (spTo m p k) ((spTo m p k).length-1) ∈ spTo m p k:=by
     have:(spTo m p k)[(spTo m p k).length-1]'(by omega)=gs (spTo m p k) ((spTo m p k).length-1):=by
      simp only [gs];exact (List.getElem_eq_getD _)
     rw [← this];exact List.getElem_mem _
    obtain ⟨j1,j2,j3,j4⟩:=i1 _ hlast
    constructor
    ·intro s hs
     rcases List.mem_or_eq_of_mem_set hs with hs | rfl
     ·obtain ⟨a1,a2,a3,a4⟩:=i1 s hs
      exact ⟨a1,a2,by omega,a4⟩
     ·refine ⟨j1,Int.lt_trans j2 (Int.lt_succ _),by show _+1≤_;omega,fun d h1 h2=>?_⟩
      by_cases e:d=k
      ·subst e;exact ⟨hp,hm.symm⟩
      ·have h2':(d:Int)<(gs (spTo m p k) ((spTo m p k).length-1)).un+1:=h2
       have h1':(gs (spTo m p k) ((spTo m p k).length-1)).fr≤d:=h1
       exact j4 d h1' (by omega)
    ·intro d hd hpd
     by_cases e:d=k
     ·subst e
      refine ⟨_,List.mem_set (by omega) _,?_,?_⟩
      ·show (gs (spTo m p d) ((spTo m p d).length-1)).fr≤_;omega
      ·show _<(gs (spTo m p d) ((spTo m p d).length-1)).un+1;omega
     ·obtain ⟨s,hs,h1,h2⟩:=i2 d (by omega) hpd
      obtain ⟨i,hi,rfl⟩:=List.getElem_of_mem hs
      by_cases ei:i=(spTo m p k).length-1
      ·refine ⟨_,List.mem_set (by omega) _,?_,?_⟩
       ·have:gs (spTo m p k) ((spTo m p k).length-1)=(spTo m p k)[i]:=by subst ei;simp only [gs];exact (List.getElem_eq_getD _).symm
        rw [this];exact h1
       ·have:gs (spTo m p k) ((spTo m p k).length-1)=(spTo m p k)[i]:=by subst ei;simp only [gs];exact (List.getElem_eq_getD _).symm
        show _<(gs (spTo m p k) ((spTo m p k).length-1)).un+1
        rw [this];omega
      ·refine ⟨(spTo m p k)[i],?_,h1,h2⟩
       have:((spTo m p k).set ((spTo m p k).length-1) ⟨(gs (spTo m p k) ((spTo m p k).length-1)).fr,(gs (spTo m p k) ((spTo m p k).length-1)).un+1,(gs (spTo m p k) ((spTo m p k).length-1)).me⟩)[i]'(by simpa using hi)=(spTo m p k)[i]:=by
        rw [List.getElem_set_ne (by omega)]
       rw [← this];exact List.getElem_mem _
   ·rw [spTo_new m p k hp hc]
    constructor
    ·intro s hs
     rcases List.mem_append.1 hs with hs | hs
     ·obtain ⟨a1,a2,a3,a4⟩:=i1 s hs
      exact ⟨a1,a2,by omega,a4⟩
     ·simp only [List.mem_singleton] at hs
      subst hs
      refine ⟨by show (0:Int)≤k;omega,by show (k:Int)<k+1;omega,by show (k:Int)+1≤_;omega,fun d h1 h2=>?_⟩
      have h1':(k:Int)≤d:=h1
      have h2':(d:Int)<k+1:=h2
      have e:d=k:=by omega
      subst e;exact ⟨hp,rfl⟩
    ·intro d hd hpd
     by_cases e:d=k
     ·subst e
      exact ⟨⟨d,d+1,m d⟩,by simp,Int.le_refl _,by show (d:Int)<d+1;omega⟩
     ·obtain ⟨s,hs,h1,h2⟩:=i2 d (by omega) hpd
      exact ⟨s,List.mem_append_left _ hs,h1,h2⟩
  ·have hp':p k=false:=by simpa using hp
   rw [spTo_skip m p k hp']
   constructor
   ·intro s hs
    obtain ⟨a1,a2,a3,a4⟩:=i1 s hs
    exact ⟨a1,a2,by omega,a4⟩
   ·intro d hd hpd
    by_cases e:d=k
    ·subst e;rw [hp'] at hpd;cases hpd
    ·exact i2 d (by omega) hpd
/-- The last fact of those that meet a test: its meal,if all that meet it have one meal. -/
theorem knw_of_hits {x:List Fact}{t c d m:Int}(h1:∀i,i<x.length→hit (gf x i) t c d=true→(gf x i).me=m)(h2:(∃i,i<x.length∧hit (gf x i) t c d=true)∨m=0):knw x t c d=m:=by
 have key:∀k,k≤x.length→(rsnTo x t c d k = -1∧∀i,i<k→hit (gf x i) t c d=false)∨(∃i,i<k∧rsnTo x t c d k=(i:Nat)∧hit (gf x i) t c d=true):=by
  intro k
  induction k with
  | zero=>intro _;exact .inl ⟨rfl,fun i hi=>by omega⟩
  | succ k ih =>
   intro hk
   cases hq:hit (gf x k) t c d with
   | true=>exact .inr ⟨k,by omega,rsnTo_hit _ _ _ _ _ hq,hq⟩
   | false =>
    rw [rsnTo_miss _ _ _ _ _ hq]
    rcases ih (by omega) with ⟨a,b⟩ | ⟨i,a,b,c'⟩
    ·refine .inl ⟨a,fun i hi=>?_⟩
     by_cases e:i=k
     ·subst e;exact hq
     ·exact b i (by omega)
    ·exact .inr ⟨i,by omega,b,c'⟩
 unfold knw rsn
 rcases key x.length (Nat.le_refl _) with ⟨a,b⟩ | ⟨i,a,b,c'⟩
 ·rw [a]
  rcases h2 with ⟨i,hi,hh⟩ | rfl
  ·rw [b i hi] at hh;cases hh
  ·simp [fMe]
 ·rw [b]
  unfold fMe
  rw [if_neg (by omega),Int.toNat_natCast]
  exact h1 i a c'
def rtN (c f u:Int):Bool:=decide (0≤c∧c≤99∧0≤f∧f<u∧u≤1000)
def rtB (s:Sp):Bool:=rtN s.fr s.un s.me
theorem rtB_iff (s:Sp):rtB s=true ↔ 0≤s.fr∧s.fr≤99∧0≤s.un∧s.un<s.me∧s.me≤1000:=by simp [rtB,rtN]
def rtAll (r:List Sp):Nat→Bool
 | 0=>true
 | k+1=>rtAll r k && rtB (gs r k)
theorem rtAll_iff (r:List Sp)(k:Nat):rtAll r k=true ↔ ∀i,i<k→rtB (gs r i)=true:=by
 induction k with
 | zero=>simp [rtAll]
 | succ k ih =>
  simp only [rtAll,Bool.and_eq_true,ih]
  constructor
  ·rintro ⟨h1,h2⟩ i hi
   by_cases e:i=k
   ·subst e;exact h2
   ·exact h1 i (by omega)
  ·intro h;exact ⟨fun i hi=>h i (by omega),h k (by omega)⟩
def vrt (r:List Sp):Int:=if 60<r.length then 4 else if rtAll r r.length then 0 else 1
theorem vrt_ok {r:List Sp}(h:vrt r=0):r.length≤60∧∀i,i<r.length→rtB (gs r i)=true:=by
 unfold vrt at h
 by_cases h6:60<r.length
 ·rw [if_pos h6] at h;cases h
 ·rw [if_neg h6] at h
  cases ha:rtAll r r.length with
  | true=>exact ⟨by omega,(rtAll_iff _ _).1 ha⟩
  | false=>rw [ha] at h;cases h
def tellN (ch f u c d:Int):Bool:=decide (ch=c∧f≤d∧d<u)
def frTo (r:List Sp)(c d:Int):Nat→Bool
 | 0=>false
 | k+1=>frTo r c d k || tellN (gs r k).fr (gs r k).un (gs r k).me c d
theorem frTo_iff (r:List Sp)(c d:Int)(k:Nat):frTo r c d k=true ↔ ∃i,i<k∧tellN (gs r i).fr (gs r i).un (gs r i).me c d=true:=by
 induction k with
 | zero=>simp [frTo]
 | succ k ih =>
  simp only [frTo,Bool.or_eq_true,ih]
  constructor
  ·rintro (⟨i,hi,h⟩ | h)
   ·exact ⟨i,by omega,h⟩
   ·exact ⟨k,by omega,h⟩
  ·rintro ⟨i,hi,h⟩
   by_cases e:i=k
   ·subst e;exact .inr h
   ·exact .inl ⟨i,by omega,h⟩
def freeB (r:List Sp)(c d:Int):Bool:=frTo r c d r.length
def prAll (p:List Int):Nat→Bool
 | 0=>true
 | k+1=>prAll p k && inB (gi p k) 0 10000
theorem prAll_iff (p:List Int)(k:Nat):prAll p k=true ↔ ∀i,i<k→inB (gi p i) 0 10000=true:=by
 induction k with
 | zero=>simp [prAll]
 | succ k ih =>
  simp only [prAll,Bool.and_eq_true,ih]
  constructor
  ·rintro ⟨h1,h2⟩ i hi
   by_cases e:i=k
   ·subst e;exact h2
   ·exact h1 i (by omega)
  ·intro h;exact ⟨fun i hi=>h i (by omega),h k (by omega)⟩
def bG (p:List Int)(cut:Int):Bool:=decide (p.length=9) && (prAll p p.length && inB cut 0 10000)
def bEO (l:List Fact)(r:List Sp)(p:List Int)(cut:Int):Int:=if vld l≠0 then vld l else if vrt r≠0 then vrt r else if bG p cut then 0 else 1
theorem bG_iff (p:List Int)(cut:Int):bG p cut=true ↔ p.length=9∧(∀i,i<p.length→inB (gi p i) 0 10000=true)∧0≤cut∧cut≤10000:=by
 simp only [bG,Bool.and_eq_true,decide_eq_true_eq,prAll_iff,inB_true]
theorem bE_okO {l:List Fact}{r:List Sp}{p:List Int}{cut:Int}(h:bEO l r p cut=0):vld l=0∧vrt r=0∧bG p cut=true:=by
 unfold bEO at h
 by_cases h1:vld l=0
 ·rw [if_neg (by simp [h1])] at h
  by_cases h2:vrt r=0
  ·rw [if_neg (by simp [h2])] at h
   cases hb:bG p cut with
   | true=>exact ⟨h1,h2,rfl⟩
   | false=>rw [hb] at h;cases h
  ·rw [if_pos h2] at h;exact absurd h h2
 ·rw [if_pos h1] at h;exact absurd h h1
def priceI (p:List Int)(m:Int):Int:=if m=0 then 0 else gi p (m-1).toNat
def payI (l:List Fact)(r:List Sp)(p:List Int)(cut c d:Int):Int:=if freeB r c d then 0 else max (priceI p (knw l (d*1440-cut) c d)) (priceI p (knw l 1440000 c d))
theorem priceI_bd {p:List Int}{cut:Int}(h:bG p cut=true)(m:Int)(h0:0≤m)(h9:m≤9):0≤priceI p m∧priceI p m≤10000:=by
 unfold priceI
 split
 ·omega
 ·obtain ⟨h1,h2,_⟩:=(bG_iff _ _).1 h
  have:=inB_true.1 (h2 (m-1).toNat (by omega))
  omega
theorem payI_bd {l:List Fact}(hV:Vld l){r:List Sp}{p:List Int}{cut:Int}(h:bG p cut=true)(c d:Int):0≤payI l r p cut c d∧payI l r p cut c d≤10000:=by
 unfold payI
 split
 ·omega
 ·have a:=knw_bd hV (d*1440-cut) c d
  have b:=knw_bd hV 1440000 c d
  have:=priceI_bd h _ a.1 a.2
  have:=priceI_bd h _ b.1 b.2
  omega
theorem bG_len {p:List Int}{cut:Int}(h:bG p cut=true):9≤p.length∧p.length≤9∧0≤cut∧cut≤10000:=by
 obtain ⟨h1,_,h3,h4⟩:=(bG_iff _ _).1 h;omega
def payE (l:List Fact)(r:List Sp)(p:List Int)(cut c d:Int):Int:=if bEO l r p cut≠0 then bEO l r p cut else if inB c 0 99 && inB d 0 999 then 0 else 1
def payR (l:List Fact)(r:List Sp)(p:List Int)(cut c d:Int):Int:=if payE l r p cut c d=0 then payI l r p cut c d else 0
theorem payE_split (l:List Fact)(r:List Sp)(p:List Int)(cut c d:Int)(bb:Int)(b:bEO l r p cut=bb):payE l r p cut c d=if bb≠0 then bb else if inB c 0 99 && inB d 0 999 then 0 else 1:=by subst b;rfl
def addR (l:List Fact)(f:Fact):List Fact:=if vld l=0∧vld (l ++ [f])=0 then l ++ [f] else []
def addE (l:List Fact)(f:Fact):Int:=if vld l≠0 then vld l else vld (l ++ [f])
end Go.Proofs.YtiapkffihpgdcaaGreatDoor
namespace Go.Proofs.YtiapkffihpgdcaaGreatDoor
open Go.RowKit
def Fact.vals (f:Fact):List Value:=[.int .i64 f.at_,.int .i64 f.ch,.int .i64 f.fr,.int .i64 f.un,.int .i64 f.me]
def cellsF (l:List Fact):List Value:=l.flatMap Fact.vals
theorem cellsF_cons (f:Fact)(l:List Fact):cellsF (f :: l)=f.vals ++ cellsF l:=by simp [cellsF]
theorem cellsF_at (l:List Fact)(k j:Nat)(hk:k<l.length)(hj:j<5):(cellsF l)[k*5+j]? = (gf l k).vals[j]?:=by
 induction l generalizing k with
 | nil=>simp at hk
 | cons f l ih =>
  rw [cellsF_cons]
  cases k with
  | zero=>rw [List.getElem?_append_left (by simp [Fact.vals];omega)];simp [gf]
  | succ k =>
   rw [List.getElem?_append_right (by simp [Fact.vals];omega)]
   have:(k+1)*5+j-f.vals.length=k*5+j:=by simp [Fact.vals];omega
   rw [this,ih k (by simpa using hk)]
   simp [gf]
/-- The slice (A,n=l.length) reads as the table l,below B. -/
def RF (w:World)(B:Nat)(A:Option Addr)(l:List Fact):Prop:=B≤w.heap.size∧Reads w B 5 A l.length (cellsF l)
theorem RF.below {w w':World}{B:Nat}{A:Option Addr}{l:List Fact}(h:RF w B A l)(hb:Below w.heap.size w w'):RF w' B A l:=⟨Nat.le_trans h.1 hb.size,Reads.below' h.2 hb h.1⟩
/-- Five cells,as the walk spells them. -/
def FCells' (w:World)(p:Addr)(a b c d e:Value):Prop :=
 w.cell? p=some a∧w.cell? ⟨p.block,p.off+1,none⟩=some b∧w.cell? ⟨p.block,p.off+2,none⟩=some c∧w.cell? ⟨p.block,p.off+3,none⟩=some d∧w.cell? ⟨p.block,p.off+4,none⟩=some e
/-- The five cells of the fact k,as the walk spells them. -/
def FCells (w:World)(p:Addr)(f:Fact):Prop :=
 w.cell? p=some (.int .i64 f.at_)∧w.cell? ⟨p.block,p.off+1,none⟩=some (.int .i64 f.ch)∧w.cell? ⟨p.block,p.off+2,none⟩=some (.int .i64 f.fr) ∧
  w.cell? ⟨p.block,p.off+3,none⟩=some (.int .i64 f.un)∧w.cell? ⟨p.block,p.off+4,none⟩=some (.int .i64 f.me)
theorem RF.at_ {w:World}{B:Nat}{A:Option Addr}{l:List Fact}(h:RF w B A l){k:Nat}(hk:k<l.length) :
  ∃ad,A=some ad∧(ad.add (k*5)).block<w.heap.size∧FCells w (ad.add (k*5)) (gf l k):=by
 obtain ⟨ad,e,hb,hc⟩:=h.2.2 (by omega)
 have hs:=fun j=>addr_succ ad (k*5) j
 exact ⟨ad,e,by rw [block_of_add];have:=h.1;omega,hc (k*5+0) _ (cellsF_at l k 0 hk (by omega)),(hs 0) ▸ hc _ _ (cellsF_at l k 1 hk (by omega)),(hs 1) ▸ hc _ _ (cellsF_at l k 2 hk (by omega)),(hs 2) ▸ hc _ _ (cellsF_at l k 3 hk (by omega)),(hs 3) ▸ hc _ _ (cellsF_at l k 4 hk (by omega))⟩
/-- Behind a call,at a new block of five cells. -/
theorem box5 {w w1:World}{a b c d e:Value}{t:TypeId}{n:Nat}(hb:Below n (w.alloc (.cells #[a,b,c,d,e] t)) w1)(hn:n=w.heap.size+1) :
  FCells' w1 ⟨w.heap.size,0,none⟩ a b c d e∧w.heap.size<w1.heap.size∧Below w.heap.size w w1:=by
 subst hn
 have h1:∀j,w1.cell? ⟨w.heap.size,j,none⟩=(w.alloc (.cells #[a,b,c,d,e] t)).cell? ⟨w.heap.size,j,none⟩:=fun j=>hb.cell (by simp)
 refine ⟨⟨by rw [h1];simp [World.cell?_alloc_at],by rw [h1];simp [World.cell?_alloc_at],by rw [h1];simp [World.cell?_alloc_at],by rw [h1];simp [World.cell?_alloc_at],by rw [h1];simp [World.cell?_alloc_at]⟩,by have:=hb.size;simp at this;omega,?_⟩
 exact ((Below.refl _ _).alloc (Nat.le_refl _) _).trans (hb.mono (by omega))
end Go.Proofs.YtiapkffihpgdcaaGreatDoor
namespace Go.Proofs.YtiapkffihpgdcaaGreatDoor
abbrev Wd:=List UInt8
def wRest:Wd:=[114,101,115,116]
def wClosed:Wd:=[99,108,111,115,101,100]
def free (w:Wd):Prop:=∀b ∈ w,b≠32
/-- the words of a text,cut at blanks -/
def wds:List UInt8→List Wd
 | []=>[[]]
 | b :: r=>if b=32 then [] :: wds r else match wds r with
  | []=>[[b]]
  | w :: ws=>(b :: w) :: ws
theorem wds_ne (l:List UInt8):wds l≠[]:=by
 cases l with
 | nil=>simp [wds]
 | cons b r =>
  unfold wds
  split
  ·simp
  ·split <;> simp
/-- how the document reads a word -/
def numTo:Wd→Nat→Nat→Option Nat
 | [],_,n=>some n
 | b :: r,i,n=>if b.toNat<48∨57<b.toNat∨i=9 then none else numTo r (i+1) (10*n+(b.toNat-48))
def numW (w:Wd):Int:=match numTo w 0 0 with
 | none=>-1
 | some n=>if w=[]∨Lib.decDigits n≠w then -1 else n
structure PS where
 sel:Nat
 one:List Int
 rest:List Int
 clo:List Int
def p0:PS:=⟨0,[],[],[]⟩
structure RPS where
 part:Nat
 len:Int
 rest:List Int
 clo:List Int
def rstep (p:RPS)(i:Nat)(w:Wd):RPS :=
 if i=1 then ⟨p.part,numW w,p.rest,p.clo⟩
 else if w=wRest∨w=wClosed then ⟨p.part+1,p.len,p.rest,p.clo⟩
 else if p.part=1 then ⟨p.part,p.len,p.rest ++ [numW w],p.clo⟩
 else ⟨p.part,p.len,p.rest,p.clo ++ [numW w]⟩
def rL:RPS→Nat→List Wd→RPS
 | p,_,[]=>p
 | p,i,w :: ws=>rL (rstep p i w) (i+1) ws
def r0:RPS:=⟨0,0,[],[]⟩
end Go.Proofs.YtiapkffihpgdcaaGreatDoor
namespace Go.Proofs.YtiapkffihpgdcaaGreatDoor
open Go.RowKit
/-- A text as a value. -/
abbrev St (l:List UInt8):Value:=.string ⟨l.toArray⟩
theorem st_app (a b:List UInt8):(⟨a.toArray⟩:ByteArray) ++ ⟨b.toArray⟩=⟨(a ++ b).toArray⟩:=by
 apply ByteArray.ext
 simp
theorem info_str:(Tryz.prog.info? 9).map (fun i=>(i.zero,i.size,i.bytes))=some (some (.string ⟨#[]⟩),1,16):=by kernel_rfl
def strs (l:List Wd):List Value:=l.map fun x=>St x
/-- The slice (A,c) of the call's own holds the texts l. -/
def OwnS (w:World)(base:Nat)(A:Option Addr)(c:Nat)(l:List Wd):Prop:=w.ownsRow base 9 1 (.slice A l.length c) l.length (strs l)
theorem OwnS.snoc {w:World}{base c n:Nat}{A:Option Addr}{l l':List Wd}{x:Wd}(h:w.ownsRow base 9 1 (.slice A (n+1) c) (n+1) (strs l ++ [St x]))(hn:n=l.length)(hl:l'=l ++ [x]):OwnS w base A c l':=by
 subst hn
 have e1:(l ++ [x]).length=l.length+1:=by simp
 have e2:strs (l ++ [x])=strs l ++ [St x]:=by simp [strs]
 rw [hl]
 unfold OwnS
 rw [e1,e2]
 exact h
/-- The slice (A,n=l.length) reads as the texts l. -/
def RS (w:World)(A:Option Addr)(l:List Wd):Prop:=Reads w w.heap.size 1 A l.length (strs l)
section
variable {w w':World}{base c:Nat}{A:Option Addr}{l:List Wd}
theorem RS.below (h:RS w A l)(hb:Below w.heap.size w w'):RS w' A l:=(Reads.below' h hb (Nat.le_refl _)).more hb.size
theorem RS.at_ (h:RS w A l){k:Nat}(hk:k<l.length):∃ad,A=some ad∧(ad.add k).block<w.heap.size∧w.cell? (ad.add k)=some (St l[k]):=by
 obtain ⟨ad,e,hb,hc⟩:=h.2 (by omega)
 exact ⟨ad,e,by rw [block_of_add];exact hb,hc k _ (by simp [strs,hk])⟩
end
theorem st_cut (l:List UInt8)(a b:Nat):ByteArray.extract ⟨l.toArray⟩ a b=⟨((l.drop a).take (b-a)).toArray⟩:=by
 apply ByteArray.ext
 simp [ByteArray.data_extract,List.extract_toArray]
theorem st_size (s:List UInt8):ByteArray.size ⟨s.toArray⟩=s.length:=by simp [ByteArray.size]
theorem st_get (s:List UInt8)(k:Nat)(h:k<ByteArray.size ⟨s.toArray⟩):(⟨s.toArray⟩:ByteArray)[k]'h=s[k]'(by rw [st_size] at h;exact h):=by
 simp [ByteArray.getElem_eq_getElem_data]
section
variable {P:Program}{W:World}{ops:Array Oper}{o:Oper}{a:Act}{K:Act→World→Prop}{Q:Exit→Act→World→Prop}{E:Prop}{rest:List Oper}
 {t e:TypeId} {z:Value} {size bytes base n c:Nat} {A:Option Addr} {xs news:List Value}
end
def rk (ws:List Wd)(k:Nat):RPS:=rL r0 1 (ws.tail.take (k-1))
/-- Outside the blocks of F the world w' is as w was. -/
structure Off (F:Nat→Prop) (w w':World):Prop where
 os:w'.os=w.os
 tape:w'.tape=w.tape
 output:w'.output=w.output
 size:w.heap.size≤w'.heap.size
 block:∀k,k<w.heap.size→¬ F k→w'.heap[k]? = w.heap[k]?
theorem Off.of_below {F:Nat→Prop}{w w':World}(h:Below w.heap.size w w'):Off F w w':=⟨h.os,h.tape,h.output,h.size,fun k hk _=>h.block k hk⟩
theorem Off.refl (F:Nat→Prop)(w:World):Off F w w:=.of_below (Below.refl _ _)
theorem Off.trans {F F':Nat→Prop}{a b c:World}(h:Off F a b)(h':Off F' b c)(hF:∀k,F' k→F k∨a.heap.size≤k):Off F a c :=
 ⟨h'.os.trans h.os,h'.tape.trans h.tape,h'.output.trans h.output,Nat.le_trans h.size h'.size,fun k hk hn=>(h'.block k (Nat.lt_of_lt_of_le hk h.size) (fun e=>by rcases hF k e with x | x;exact hn x;omega)).trans (h.block k hk hn)⟩
theorem Off.then_below {F:Nat→Prop}{a b c:World}(h:Off F a b)(h':Below b.heap.size b c):Off F a c:=h.trans (F':=fun _=>False) (.of_below h') (fun _ e=>e.elim)
theorem Off.setCell {F:Nat→Prop}{a b:World}(h:Off F a b){p:Addr}(hp:F p.block∨a.heap.size≤p.block)(u:Value):Off F a (b.setCell p u) :=
 h.trans (F':=fun k=>k=p.block) ⟨rfl,rfl,rfl,by simp [World.setCell],fun k _ hn=>Below.heap_setCell _ _ _ _ hn⟩ (fun k e=>by subst e;exact hp)
theorem Off.grown {F:Nat→Prop}{a b c:World}{row:Option Nat}(h:Off F a b)(hg:b.grownBy c row)(hp:∀k,row=some k→F k∨a.heap.size≤k):Off F a c :=
 h.trans (F':=fun k=>row=some k) ⟨hg.os,hg.tape,hg.output,hg.size,fun k hk hn=>hg.block k hk (fun e=>hn e.symm)⟩ hp
theorem Off.to_below {F:Nat→Prop}{w w':World}{B:Nat}(h:Off F w w')(hF:∀k,F k→B≤k)(hB:B≤w.heap.size):Below B w w' :=
 ⟨h.os,h.tape,h.output,h.size,fun k hk=>h.block k (Nat.lt_of_lt_of_le hk hB) (fun e=>by have:=hF k e;omega)⟩
theorem Off.cell {F:Nat→Prop}{w w':World}(h:Off F w w'){p:Addr}(hp:p.block<w.heap.size)(hn:¬ F p.block):w'.cell? p=w.cell? p:=World.cell?_of_block (w:=w) (h.block p.block hp hn)
theorem Off.frozen {F:Nat→Prop}{w w':World}(h:Off F w w'){p:Addr}(hp:p.block<w.heap.size)(hn:¬ F p.block):w'.frozen? p=w.frozen? p:=World.frozen?_of_block (w:=w) (h.block p.block hp hn)
/-- The list reads so,and lies in F. -/
def ReadsF (F:Nat→Prop)(w:World)(size:Nat)(A:Option Addr)(n:Nat)(xs:List Value):Prop:=Reads w w.heap.size size A n xs∧∀ad,A=some ad→0<n→F ad.block
section
variable {F F':Nat→Prop}{w w':World}{size n:Nat}{A:Option Addr}{xs:List Value}
theorem ReadsF.below (h:ReadsF F w size A n xs)(hb:Below w.heap.size w w'):ReadsF F w' size A n xs:=⟨(h.1.below' hb (Nat.le_refl _)).more hb.size,h.2⟩
theorem ReadsF.mono (h:ReadsF F w size A n xs)(hF:∀k,F k→F' k):ReadsF F' w size A n xs:=⟨h.1,fun ad e hn=>hF _ (h.2 ad e hn)⟩
end
/-- A block's cells,known and free,across a change outside it. -/
theorem Box.off {F:Nat→Prop}{w w':World}{g:Nat}{cs:Array Value}(h:Box w g cs)(ho:Off F w w')(hn:¬ F g):Box w' g cs :=
 ⟨Nat.lt_of_lt_of_le h.lt ho.size,fun j=>(ho.cell h.lt hn).trans (h.cell j),fun j=>(ho.frozen h.lt hn).trans (h.free j)⟩
theorem ReadsF.of_own {F:Nat→Prop}{w:World}{base e size n:Nat}{A:Option Addr}{c:Nat}{xs:List Value}(h:w.ownsRow base e size (.slice A n c) n xs)(hF:∀k,(Value.slice A n c).ownBlock=some k→F k):ReadsF F w size A n xs:=by
 refine ⟨Reads.of_own h,fun ad e hn=>?_⟩
 subst e
 exact hF _ rfl
end Go.Proofs.YtiapkffihpgdcaaGreatDoor
