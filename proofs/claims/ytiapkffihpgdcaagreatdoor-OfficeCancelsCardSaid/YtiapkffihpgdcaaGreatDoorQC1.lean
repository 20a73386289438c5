import Derived.Test.YtiapkffihpgdcaaGreatDoorProg
import Derived.KernelRfl
import Derived.WalkKit
import Derived.WalkSpells
import Derived.WalkLawsBesides
import Derived.Handy
import Derived.Deep.QuietTactic
import Derived.BigQuiet
import Derived.Lib.Hide
import Derived.Below
import Derived.Laws.OwnMore
import Derived.Deep.AppendLies
import Derived.Deep.Draws
import Derived.Deep.DeepMust
import Derived.Deep.DeepFit
import Derived.Deep.LoopGhost
import Derived.Deep.DeepCutAuto
set_option linter.unusedVariables false
set_option linter.unusedSimpArgs false
set_option maxRecDepth 100000
set_option maxHeartbeats 4000000
namespace Go.Proofs.YtiapkffihpgdcaaGreatDoor
theorem gqA{α:Type}{xs:List α}{i:Nat}:xs.toArray[i]?=xs[i]?:=List.getElem?_toArray
theorem gqB{α:Type}{a:α}{l:List α}:(a::l)[0]?=some a:=List.getElem?_cons_zero
theorem gqC{α:Type}{a:α}{l:List α}{i:Nat}:(a::l)[i+1]?=l[i]?:=List.getElem?_cons_succ
end Go.Proofs.YtiapkffihpgdcaaGreatDoor
namespace Go.Proofs.YtiapkffihpgdcaaGreatDoor
def gi (l:List Int)(k:Nat):Int:=l.getD k 0
theorem gi_getElem (l:List Int)(k:Nat)(h:k<l.length):l[k]=gi l k:=by simp [gi,h]
theorem gi_mem (l:List Int)(k:Nat)(h:k<l.length):gi l k ∈ l:=by rw [← gi_getElem l k h];exact List.getElem_mem h
def inB (n lo hi:Int):Bool:=decide (lo≤n∧n≤hi)
theorem inB_true {n lo hi:Int}:inB n lo hi=true ↔ lo≤n∧n≤hi:=by simp [inB]
theorem inB_false {n lo hi:Int}:inB n lo hi=false ↔ ¬ (lo≤n∧n≤hi):=by simp only [inB,decide_eq_false_iff_not]
def setOk (l:List Int)(n:Int)(k:Nat):Bool:=decide (0≤gi l k∧gi l k<n∧(k=0∨gi l (k-1)<gi l k))
def setTo (l:List Int)(n:Int):Nat→Bool
 | 0=>true
 | k+1=>setTo l n k && setOk l n k
def isSet (l:List Int)(n:Int):Bool:=setTo l n l.length
theorem setOk_iff (l:List Int)(n:Int)(k:Nat):setOk l n k=true ↔ 0≤gi l k∧gi l k<n∧(k=0∨gi l (k-1)<gi l k):=by simp only [setOk,decide_eq_true_eq]
theorem setOk_not (l:List Int)(n:Int)(k:Nat):setOk l n k=false ↔ ¬ (0≤gi l k∧gi l k<n∧(k=0∨gi l (k-1)<gi l k)):=by simp only [setOk,decide_eq_false_iff_not]
theorem setTo_iff (l:List Int)(n:Int)(k:Nat):setTo l n k=true ↔ ∀i,i<k→setOk l n i=true:=by
 induction k with
 | zero=>simp [setTo]
 | succ k ih =>
  simp only [setTo,Bool.and_eq_true,ih]
  constructor
  ·rintro ⟨h1,h2⟩ i hi
   by_cases e:i=k
   ·subst e;exact h2
   ·exact h1 i (by omega)
  ·intro h;exact ⟨fun i hi=>h i (by omega),h k (by omega)⟩
theorem isSet_bad {l:List Int}{n:Int}{k:Nat}(hk:k<l.length)(h:setOk l n k=false):isSet l n=false:=by
 cases hs:isSet l n with
 | false=>rfl
 | true=>rw [(setTo_iff _ _ _).1 hs k hk] at h;cases h
theorem isSet_at {l:List Int}{n:Int}(h:isSet l n=true){k:Nat}(hk:k<l.length):0≤gi l k∧gi l k<n:=by
 have:=(setOk_iff _ _ _).1 ((setTo_iff _ _ _).1 h k hk);exact ⟨this.1,this.2.1⟩
theorem isSet_step {l:List Int}{n:Int}(h:isSet l n=true){k:Nat}(hk:k+1<l.length):gi l k<gi l (k+1):=by
 have:=(setOk_iff _ _ _).1 ((setTo_iff _ _ _).1 h (k+1) hk)
 rcases this.2.2 with h0 | h0
 ·omega
 ·simpa using h0
theorem isSet_lt {l:List Int}{n:Int}(h:isSet l n=true)(i:Nat):∀j,i<j→j<l.length→gi l i<gi l j
 | 0,h1,_=>by omega
 | j+1,h1,h2=>by
  have hs:=isSet_step h h2
  by_cases e:i=j
  ·subst e;exact hs
  ·have:=isSet_lt h i j (by omega) (by omega);omega
theorem isSet_ge {l:List Int}{n:Int}(h:isSet l n=true):∀k,k<l.length→(k:Int)≤gi l k
 | 0,hk=>by have:=isSet_at h hk;simpa using this.1
 | k+1,hk=>by have:=isSet_ge h k (by omega);have:=isSet_step h hk;omega
theorem isSet_len {l:List Int}{n:Int}(h:isSet l n=true)(hn:0≤n):(l.length:Int)≤n:=by
 by_cases e:l.length=0
 ·omega
 ·have:=isSet_ge h (l.length-1) (by omega);have:=isSet_at h (k:=l.length-1) (by omega);omega
def hasTo (l:List Int)(x:Int):Nat→Bool
 | 0=>false
 | k+1=>hasTo l x k || (gi l k == x)
def hasB (l:List Int)(x:Int):Bool:=hasTo l x l.length
theorem hasTo_iff (l:List Int)(x:Int)(k:Nat):hasTo l x k=true ↔ ∃i,i<k∧gi l i=x:=by
 induction k with
 | zero=>simp [hasTo]
 | succ k ih =>
  simp only [hasTo,Bool.or_eq_true,ih,beq_iff_eq]
  constructor
  ·rintro (⟨i,hi,h⟩ | h)
   ·exact ⟨i,by omega,h⟩
   ·exact ⟨k,by omega,h⟩
  ·rintro ⟨i,hi,h⟩
   by_cases e:i=k
   ·subst e;exact .inr h
   ·exact .inl ⟨i,by omega,h⟩
theorem hasB_iff (l:List Int)(x:Int):hasB l x=true ↔ ∃i,i<l.length∧gi l i=x:=hasTo_iff l x _
/-- How many numbers of an ascending list are below x. -/
def CutI (l:List Int)(x:Int)(n:Nat):Prop:=n≤l.length∧(∀i,i<n→gi l i<x)∧(∀i,n≤i→i<l.length→x≤gi l i)
theorem CutI.has {l:List Int}{x:Int}{n:Nat}{b:Int}(h:CutI l x n)(hs:isSet l b=true):hasB l x=true ↔ n<l.length∧gi l n=x:=by
 rw [hasB_iff]
 constructor
 ·rintro ⟨i,hi,e⟩
  have h1:n≤i:=by
   rcases Nat.lt_or_ge i n with hlt | hge
   ·have:=h.2.1 i hlt;omega
   ·exact hge
  have h2:=h.2.2 n (Nat.le_refl _) (by omega)
  rcases Nat.lt_or_eq_of_le h1 with hlt | heq
  ·have:=isSet_lt hs n i hlt hi;omega
  ·subst heq;exact ⟨hi,e⟩
 ·rintro ⟨h1,h2⟩;exact ⟨n,h1,h2⟩
structure Tm where
 len:Int
 rest:List Int
 clo:List Int
structure Cy where
 n:Int
 f:Int
 k:Int
def tE (t:Tm):Int :=
 if inB t.len 1 1000 && (isSet t.rest 7 && !(decide (t.rest.length=7))) then (if 60<t.clo.length then 4 else if isSet t.clo t.len then 0 else 1) else 1
def cE (c:Cy):Int:=if inB c.n 1 40 && (inB c.f 0 (c.n-1) && (c.k == 0 || c.k == 1)) then 0 else 1
def bE (t:Tm)(c:Cy):Int:=if tE t≠0 then tE t else cE c
structure TmOk (t:Tm):Prop where
 len1:1≤t.len
 len2:t.len≤1000
 rest:isSet t.rest 7=true
 rest7:t.rest.length≠7
 clo60:t.clo.length≤60
 clo:isSet t.clo t.len=true
structure CyOk (c:Cy):Prop where
 n1:1≤c.n
 n2:c.n≤40
 f0:0≤c.f
 f1:c.f<c.n
 k:c.k=0∨c.k=1
theorem TmOk.of {t:Tm}(h:tE t=0):TmOk t:=by
 unfold tE at h
 cases h1:inB t.len 1 1000 with
 | false=>rw [h1] at h;cases h
 | true =>
  cases h2:isSet t.rest 7 with
  | false=>rw [h1,h2] at h;cases h
  | true =>
   by_cases h3:t.rest.length=7
   ·rw [h1,h2,decide_eq_true h3] at h;cases h
   ·rw [h1,h2,decide_eq_false h3] at h
    simp only [Bool.not_false,Bool.and_self,if_true] at h
    by_cases h4:60<t.clo.length
    ·rw [if_pos h4] at h;cases h
    ·rw [if_neg h4] at h
     cases h5:isSet t.clo t.len with
     | false=>rw [h5] at h;cases h
     | true=>have:=inB_true.1 h1;exact ⟨this.1,this.2,h2,h3,by omega,h5⟩
theorem TmOk.to {t:Tm}(h:TmOk t):tE t=0:=by
 unfold tE
 rw [inB_true.2 ⟨h.len1,h.len2⟩,h.rest,decide_eq_false h.rest7,if_pos (show (true && (true && !false))=true from rfl),if_neg (by have:=h.clo60;omega),if_pos h.clo]
theorem CyOk.of {c:Cy}(h:cE c=0):CyOk c:=by
 unfold cE at h
 cases h1:inB c.n 1 40 with
 | false=>rw [h1] at h;cases h
 | true =>
  cases h2:inB c.f 0 (c.n-1) with
  | false=>rw [h1,h2] at h;cases h
  | true =>
   cases h3:(c.k == 0 || c.k == 1) with
   | false=>rw [h1,h2,h3] at h;cases h
   | true =>
    have a:=inB_true.1 h1
    have b:=inB_true.1 h2
    exact ⟨a.1,a.2,b.1,by omega,by simpa using h3⟩
theorem CyOk.to {c:Cy}(h:CyOk c):cE c=0:=by
 unfold cE
 have hk:(c.k == 0 || c.k == 1)=true:=by have:=h.k;simpa using this
 rw [inB_true.2 ⟨h.n1,h.n2⟩,inB_true.2 ⟨h.f0,by have:=h.f1;omega⟩,hk];rfl
theorem bE_ok {t:Tm}{c:Cy}(h:bE t c=0):TmOk t∧CyOk c:=by
 unfold bE at h
 by_cases h1:tE t=0
 ·rw [if_neg (by simp [h1])] at h;exact ⟨TmOk.of h1,CyOk.of h⟩
 ·rw [if_pos h1] at h;exact absurd h h1
def wkB (t:Tm)(d:Int):Bool:=!hasB t.rest (d % 7)
def opB (t:Tm)(d:Int):Bool:=wkB t d && !hasB t.clo d
def cnt (p:Nat→Bool):Nat→Nat
 | 0=>0
 | k+1=>cnt p k+if p k then 1 else 0
theorem cnt_yes (p:Nat→Bool)(k:Nat)(h:p k=true):cnt p (k+1)=cnt p k+1:=by simp [cnt,h]
theorem cnt_no (p:Nat→Bool)(k:Nat)(h:p k=false):cnt p (k+1)=cnt p k:=by simp [cnt,h]
theorem cnt_le (p:Nat→Bool)(k:Nat):cnt p k≤k:=by
 induction k with
 | zero=>simp [cnt]
 | succ k ih=>simp only [cnt];split <;> omega
/-- The menu's step at a day. -/
def stB (t:Tm)(c:Cy)(d:Nat):Bool:=opB t d || (c.k == 1 && wkB t d)
theorem stB_ref (t:Tm)(c:Cy)(hc:CyOk c)(d:Nat):stB t c d=((c.k == 0 && opB t d) || (c.k == 1 && wkB t d)):=by
 unfold stB opB
 rcases hc.k with h | h <;> rw [h] <;> cases wkB t d <;> cases hasB t.clo d <;> rfl
def mnAt (t:Tm)(c:Cy)(d:Nat):Int:=if opB t d then (c.f+cnt (stB t c) d) % c.n else -1
theorem mnAt_open {t:Tm}{c:Cy}{d:Nat}(h:opB t d=true):mnAt t c d=(c.f+cnt (stB t c) d) % c.n:=by simp [mnAt,h]
theorem mnAt_shut {t:Tm}{c:Cy}{d:Nat}(h:opB t d=false):mnAt t c d = -1:=by simp [mnAt,h]
theorem mnAt_bd {t:Tm}{c:Cy}(hc:CyOk c)(d:Nat) : -1≤mnAt t c d∧mnAt t c d<c.n:=by
 unfold mnAt
 have h1:=hc.n1
 split
 ·have:=Int.emod_nonneg (c.f+cnt (stB t c) d) (show c.n≠0 by omega);have:=Int.emod_lt_of_pos (c.f+cnt (stB t c) d) (show 0<c.n by omega);omega
 ·omega
/-- The menus of the first k days,and -1 or 0 behind. -/
def mnTo (t:Tm)(c:Cy)(n k:Nat):List Int:=(List.range n).map fun d=>if d<k then mnAt t c d else 0
def mnL (t:Tm)(c:Cy):List Int:=(List.range t.len.toNat).map (mnAt t c)
theorem mnL_length (t:Tm)(c:Cy):(mnL t c).length=t.len.toNat:=by simp [mnL]
theorem mnL_at (t:Tm)(c:Cy)(d:Nat)(h:d<t.len.toNat):gi (mnL t c) d=mnAt t c d:=by simp [gi,mnL,h]
theorem mnTo_zero (t:Tm)(c:Cy)(n:Nat):mnTo t c n 0=List.replicate n 0:=by
 rw [List.eq_replicate_iff]
 refine ⟨by simp [mnTo],fun b hb=>?_⟩
 obtain ⟨d,_,rfl⟩:=List.mem_map.1 hb
 simp
theorem mnTo_full (t:Tm)(c:Cy)(n:Nat)(h:n=t.len.toNat):mnTo t c n n=mnL t c:=by
 subst h
 unfold mnTo mnL
 apply List.map_congr_left
 intro d hd
 rw [if_pos (List.mem_range.1 hd)]
theorem mnTo_set (t:Tm)(c:Cy)(n k:Nat)(_h:k<n):(mnTo t c n k).set k (mnAt t c k)=mnTo t c n (k+1):=by
 apply List.ext_getElem
 ·simp [mnTo]
 ·intro j h1 h2
  have hj:j<n:=by simpa [mnTo] using h2
  rw [List.getElem_set]
  by_cases e:k=j
  ·subst e
   simp [mnTo]
  ·rw [if_neg e]
   simp only [mnTo,List.getElem_map,List.getElem_range]
   by_cases hlt:j<k
   ·rw [if_pos hlt,if_pos (by omega)]
   ·rw [if_neg hlt,if_neg (by omega)]
theorem set_twice (l:List Int)(k:Nat)(a b:Int):(l.set k a).set k b=l.set k b:=by simp
theorem next_mod {f s n:Int}(_hn:1≤n):((f+s) % n+1) % n=(f+(s+1)) % n:=by
 rw [Int.emod_add_emod,Int.add_assoc]
def qE (t:Tm)(d:Int):Int:=if tE t≠0 then tE t else if inB d 0 (t.len-1) then 0 else 1
def menuE (t:Tm)(c:Cy)(d:Int):Int:=if bE t c≠0 then bE t c else if inB d 0 (t.len-1) then (if opB t d then 0 else 13) else 1
def menuR (t:Tm)(c:Cy)(d:Int):Int:=if menuE t c d=0 then mnAt t c d.toNat else 0
end Go.Proofs.YtiapkffihpgdcaaGreatDoor
namespace Go.Proofs.YtiapkffihpgdcaaGreatDoor
open Go.RowKit
theorem block_of_add (a:Addr)(n:Nat):(a.add n).block=a.block:=by unfold Addr.add;split <;> rfl
theorem add_of_add (a:Addr)(i j:Nat):(a.add i).add j=a.add (i+j):=by
 unfold Addr.add
 by_cases hi:i=0 <;> by_cases hj:j=0 <;> simp [hi,hj,Nat.add_assoc]
/-- The slice value with the address A and n elements of 'size' cells each holds the cells xs,below block B. -/
def Reads (w:World)(B size:Nat)(A:Option Addr)(n:Nat)(xs:List Value):Prop :=
 xs.length=n*size∧(0<n→∃ad,A=some ad∧ad.block<B∧∀j u,xs[j]? = some u→w.cell? (ad.add j)=some u)
section
variable {w w':World}{B B' size n:Nat}{A:Option Addr}{xs:List Value}
theorem Reads.keep (h:Reads w B size A n xs)(hk:∀p:Addr,p.block<B→w'.cell? p=w.cell? p):Reads w' B size A n xs :=
 ⟨h.1,fun hn=>by
  obtain ⟨ad,e,hb,hc⟩:=h.2 hn
  exact ⟨ad,e,hb,fun j u hu=>(hk _ (by rw [block_of_add];exact hb)).trans (hc j u hu)⟩⟩
theorem Reads.more (h:Reads w B size A n xs)(hB:B≤B'):Reads w B' size A n xs :=
 ⟨h.1,fun hn=>by
  obtain ⟨ad,e,hb,hc⟩:=h.2 hn
  exact ⟨ad,e,by omega,hc⟩⟩
theorem Reads.below (h:Reads w B size A n xs)(hb:Below B w w'):Reads w' B size A n xs:=h.keep fun _ hp=>hb.cell hp
theorem Reads.below' (h:Reads w B size A n xs)(hb:Below B' w w')(hB:B≤B'):Reads w' B size A n xs:=h.below (hb.mono hB)
end
theorem addr_succ (a:Addr)(n j:Nat):a.add (n+(j+1))=⟨(a.add n).block,(a.add n).off+(j+1),none⟩:=by
 unfold Addr.add
 by_cases h:n=0
 ·subst h;simp
 ·simp [h,Nat.add_assoc]
/-- A new block,behind whatever leaves it alone. -/
theorem blk_facts {w wr:World}{cs:Array Value}{t:TypeId}{n:Nat}(hb:Below n (w.alloc (.cells cs t)) wr)(hn:w.heap.size<n) :
  (∀j,wr.cell? ⟨w.heap.size,j,none⟩=cs[j]?)∧(∀j,wr.frozen? ⟨w.heap.size,j,none⟩=false)∧w.heap.size<wr.heap.size∧Below w.heap.size w wr:=by
 refine ⟨fun j=>?_,fun j=>?_,by have:=hb.size;simp at this;omega,((Below.refl _ _).alloc (Nat.le_refl _) _).trans (hb.mono (by omega))⟩
 ·rw [hb.cell (p:=⟨w.heap.size,j,none⟩) hn];simp [World.cell?_alloc_at]
 ·rw [hb.frozen (p:=⟨w.heap.size,j,none⟩) hn];simp [go_sem]
theorem ret_val {a b:Value}(h:a=b):Ending.returned a=.returned b:=by rw [h]
theorem ret_bool {a b:Bool}(h:a=b):Ending.returned (.bool a)=.returned (.bool b):=by rw [h]
theorem ret_int {k:IntKind}{a b:Int}(h:a=b):Ending.returned (.int k a)=.returned (.int k b):=by rw [h]
theorem own_below {w w':World}{base e size n:Nat}{v:Value}{xs:List Value}{B:Nat}(h:w.ownsRow base e size v n xs)(hb:Below B w w')(hB:∀k,v.ownBlock=some k→k<B):w'.ownsRow base e size v n xs:=by
 refine ⟨h.1,?_⟩
 rcases h.2 with hn | ⟨g,cap,cur,rfl,hbg,hh,rest⟩
 ·exact .inl hn
 ·exact .inr ⟨g,cap,cur,rfl,hbg,(hb.block g (hB g rfl)).trans hh,rest⟩
theorem own_base {w:World}{base base' e size n:Nat}{v:Value}{xs:List Value}(h:w.ownsRow base e size v n xs)(hB:base'≤base):w.ownsRow base' e size v n xs:=by
 refine ⟨h.1,?_⟩
 rcases h.2 with hn | ⟨g,cap,cur,rfl,hbg,hh,rest⟩
 ·exact .inl hn
 ·exact .inr ⟨g,cap,cur,rfl,by omega,hh,rest⟩
/-- What is owned is a slice value written out. -/
theorem own_shape {w:World}{base e size n:Nat}{v:Value}{xs:List Value}(h:w.ownsRow base e size v n xs):∃A c,v=.slice A n c:=by
 rcases h.2 with ⟨h1,h2⟩ | ⟨g,cap,cur,h1,_⟩
 ·exact ⟨none,0,by rw [h1,h2]⟩
 ·exact ⟨_,_,h1⟩
theorem Reads.of_own {w:World}{base e size n:Nat}{A:Option Addr}{c:Nat}{xs:List Value}(h:w.ownsRow base e size (.slice A n c) n xs):Reads w w.heap.size size A n xs:=by
 refine ⟨h.1,fun hn=>?_⟩
 rcases h.2 with ⟨h1,h2⟩ | ⟨g,cap,cur,h1,_,hg,_⟩
 ·omega
 ·injection h1 with h1 _ _
  subst h1
  exact ⟨_,rfl,(Array.getElem?_eq_some_iff.1 hg).1,h.cells (g:=g) rfl⟩
/-- 'out=append(out,x)',x one element that has just been laid in a new block: the new value is a slice written out;what lay below B has not turned. -/
theorem wpList_app1 {P : Program} {w : World} {ops : Array Oper} {rest : List Oper} {o : Oper} {a : Act} {Q : Exit → Act → World → Prop} (hgd : o.guard = none) (s x : Operand) {t e : TypeId}
    (ho : o.op = .call { callee := .builtin .append, args := #[s, x], argTypes := #[t, t] }) {z : Value} {size bytes : Nat} (ht : P.underlying t = some (.slice e))
    (hinfo : (P.info? e).map (fun i => (i.zero, i.size, i.bytes)) = some (some z, size, bytes)) (hzs : z.cells.size = size) (hsz : 0 < size)
    {base : Nat} {A : Option Addr} {n c : Nat} {xs : List Value} (hs : a.eval s = .slice A n c) (hown : w.ownsRow base e size (.slice A n c) n xs)
    {news : List Value} (hx : a.eval x = .slice (some ⟨w.heap.size, 0, none⟩) 1 1) (hl : news.length = size) (h1 : ∀ u ∈ news, u.oneCell' = true)
    (hn : n + 1 ≤ 1000000000) (hbytes : bytes ≤ 1000) (hbase : base ≤ w.heap.size)
    (h : ∀ A' c' w', w'.ownsRow base e size (.slice A' (n + 1) c') (n + 1) (xs ++ news) → (∀ B, B ≤ base → Below B w w') → wpList P ops Q rest (a.put o.dst (.slice A' (n + 1) c')) w') :
    wpList P ops Q (o :: rest) a (w.alloc (.cells news.toArray e)) := by
  obtain ⟨i, hi, hz0, hz1, hz2⟩ := info_parts hinfo
  have hlt : ∀ j u, news[j]? = some u → (w.alloc (.cells news.toArray e)).cell? ((⟨w.heap.size, 0, none⟩ : Addr).add j) = some u := by
    intro j u hu
    have hadd : (⟨w.heap.size, 0, none⟩ : Addr).add j = ⟨w.heap.size, j, none⟩ := by unfold Addr.add; split <;> simp_all
    rw [hadd, World.cell?_alloc_at _ _ _ _ rfl]
    simpa using hu
  have hb : (n + 1) * bytes ≤ 140737488355328 := by
    have : (n + 1) * bytes ≤ 1000000000 * 1000 := Nat.mul_le_mul hn hbytes
    omega
  refine wpList_append_own _ hgd s x t ho base e i z size bytes ht hi hz0 hz1 hz2 hzs hsz _ n xs hs (hown.alloc _) _ 1 1 news hx (by omega) hlt h1 (by unfold maxLen; omega) hb (by simp; omega) ?_
  intro v' w' hown' hg _
  obtain ⟨A', c', hv⟩ := own_shape hown'
  rw [hv] at hown' ⊢
  refine h A' c' w' hown' fun B hB => ?_
  exact ((Below.refl B w).alloc (by omega) _).grown hg (by simp; omega) (fun k hk => by have := hown.lt k hk; omega)
theorem info_int:(Tryz.prog.info? 3).map (fun i=>(i.zero,i.size,i.bytes))=some (some (.int .i64 0),1,8):=by kernel_rfl
def ints (l:List Int):List Value:=l.map (Value.int .i64)
theorem madeInts (n:Nat):(madeCells (Value.int .i64 0).cells (n*1)).toList=ints (List.replicate n 0):=by
 rw [Nat.mul_one]
 show (madeCells #[Value.int .i64 0] n).toList=_
 rw [toList_madeCells_one,ints,List.map_replicate]
/-- A slice of the call's own of so many integers. -/
def OwnI (w:World)(base g n:Nat)(xs:List Int):Prop:=xs.length=n∧w.ownsRow base 3 1 (.slice (some ⟨g,0,none⟩) n n) n (ints xs)
section
variable {w w':World}{base g n:Nat}{xs:List Int}
theorem OwnI.cell (h:OwnI w base g n xs)(k:Nat)(hk:k<n):w.cell? ⟨g,k,none⟩=some (.int .i64 (gi xs k)):=by
 have e:=World.ownsRow.cellAt h.2 k (by omega)
 have hl:=h.1
 rw [e]
 simp [ints,gi,show k<xs.length by omega]
theorem OwnI.frozen (h:OwnI w base g n xs)(k:Nat):w.frozen? ⟨g,k,none⟩=false:=World.ownsRow.frozenAt h.2 k
theorem OwnI.lt (h:OwnI w base g n xs):base≤g∧g<w.heap.size:=World.ownsRow.lt h.2 g rfl
theorem OwnI.kept (h:OwnI w base g n xs){B:Nat}(hb:Below B w w')(hB:g<B):OwnI w' base g n xs :=
 ⟨h.1,own_below h.2 hb fun k hk=>by simp [Value.ownBlock] at hk;omega⟩
theorem OwnI.stored (h:OwnI w base g n xs)(k:Nat)(v:Int):OwnI (w.setCell ⟨g,k,none⟩ (.int .i64 v)) base g n (xs.set k v):=by
 have e:=(World.ownsRow.stored h.2 k (.int .i64 v)).1
 refine ⟨by rw [List.length_set];exact h.1,?_⟩
 have:ints (xs.set k v)=(ints xs).set k (.int .i64 v):=by simp [ints]
 rw [this]
 exact e
end
/-- The slice (A,c) of the call's own holds the numbers l. -/
def OwnN (w:World)(base:Nat)(A:Option Addr)(c:Nat)(l:List Int):Prop:=w.ownsRow base 3 1 (.slice A l.length c) l.length (ints l)
theorem OwnN.kept {w w':World}{base c:Nat}{A:Option Addr}{l:List Int}(h:OwnN w base A c l)(hb:Below w.heap.size w w'):OwnN w' base A c l:=own_below h hb fun k hk=>(World.ownsRow.lt h k hk).2
theorem OwnN.snoc {w:World}{base c n:Nat}{A:Option Addr}{l l':List Int}{x:Int}(h:w.ownsRow base 3 1 (.slice A (n+1) c) (n+1) (ints l ++ [.int .i64 x]))(hn:n=l.length)(hl:l'=l ++ [x]):OwnN w base A c l':=by
 subst hn
 have e1:(l ++ [x]).length=l.length+1:=by simp
 have e2:ints (l ++ [x])=ints l ++ [.int .i64 x]:=by simp [ints]
 rw [hl]
 unfold OwnN
 rw [e1,e2]
 exact h
/-- The slice (A,n=l.length) reads as the numbers l. -/
def RN (w:World)(A:Option Addr)(l:List Int):Prop:=Reads w w.heap.size 1 A l.length (ints l)
section
variable {w w':World}{base c:Nat}{A:Option Addr}{l:List Int}
theorem RN.below (h:RN w A l)(hb:Below w.heap.size w w'):RN w' A l:=(Reads.below' h hb (Nat.le_refl _)).more hb.size
theorem RN.of_own (h:OwnN w base A c l):RN w A l:=Reads.of_own h
theorem RN.at_ (h:RN w A l){k:Nat}(hk:k<l.length):∃ad,A=some ad∧(ad.add k).block<w.heap.size∧w.cell? (ad.add k)=some (.int .i64 (gi l k)):=by
 obtain ⟨ad,e,hb,hc⟩:=h.2 (by omega)
 exact ⟨ad,e,by rw [block_of_add];exact hb,hc k _ (by simp [ints,gi,hk])⟩
end
def eqIn (l m:List Int)(k:Nat):Prop:=∀i,i<k→gi l i=gi m i
theorem eqIn_all {l m:List Int}(hlen:l.length=m.length)(h:eqIn l m l.length):l=m:=by
 apply List.ext_getElem hlen
 intro i h1 h2
 have:=h i h1
 simpa [gi,h1,h2] using this
theorem ret2 {a b a' b':Value}(h1:a=a')(h2:b=b'):Ending.returned (.tuple #[a,b])=.returned (.tuple #[a',b']):=by rw [h1,h2]
theorem two_blk {w wr:World}{cs1 cs2:Array Value}{t1 t2:TypeId}{n:Nat}(hb:Below n ((w.alloc (.cells cs1 t1)).alloc (.cells cs2 t2)) wr)(hn:w.heap.size+1<n) :
  (∀j,wr.cell? ⟨w.heap.size,j,none⟩=cs1[j]?)∧(∀j,wr.cell? ⟨w.heap.size+1,j,none⟩=cs2[j]?)∧w.heap.size+1<wr.heap.size∧Below w.heap.size w wr:=by
 refine ⟨fun j=>?_,fun j=>?_,by have:=hb.size;simp at this;omega,(((Below.refl _ _).alloc (Nat.le_refl _) _).alloc (by simp) _).trans (hb.mono (by omega))⟩
 ·rw [hb.cell (p:=⟨w.heap.size,j,none⟩) (by show w.heap.size<n;omega),World.cell?_alloc_lt _ _ _ (by simp)];simp [World.cell?_alloc_at]
 ·rw [hb.cell (p:=⟨w.heap.size+1,j,none⟩) hn,World.cell?_alloc_at _ _ _ _ (by simp)]
theorem within_any (n lo hi:Int)(w:World):Calls Tryz.prog 194 #[.int .i64 n,.int .i64 lo,.int .i64 hi] w fun e w'=>e=.returned (.bool (inB n lo hi))∧w'=w:=by
 go_enter Tryz.func194,Tryz.ntmps194
 go_wp2
 all_goals
  go_ret
  exact ⟨ret_bool (by unfold inB;first | (rw [decide_eq_decide];omega) | (symm;rw [decide_eq_false_iff_not];omega)),rfl⟩
theorem isSet_any (l:List Int)(n:Int)(hl:l.length≤1000000000)(A:Option Addr)(c:Nat)(w:World)(hR:RN w A l) :
  Calls Tryz.prog 151 #[.slice A l.length c,.int .i64 n] w fun e w'=>e=.returned (.bool (isSet l n))∧w=w':=by
 obtain ⟨S,hS⟩:∃S,S=isSet l n:=⟨_,rfl⟩
 rw [← hS]
 have h1:∀k,k<l.length→setOk l n k=false→S=false:=fun k hk h=>by rw [hS];exact isSet_bad hk h
 have h2:setTo l n l.length=true→S=true:=fun h=>by rw [hS];exact h
 have H1:=Lib.hid h1
 have H2:=Lib.hid h2
 clear h1 h2 hS
 go_enter Tryz.func151,Tryz.ntmps151
 go_wp2
 go_loop [9] (fun x=>∃k:Nat,k≤l.length∧x=.int .i64 k∧Hid (setTo l n k=true)) (fun x=>l.length-(intOf x).toNat)
 case atStart=>exact ⟨0,by omega,rfl,rfl⟩
 case round =>
  obtain ⟨k,hk,rfl,HK⟩:=hrel
  by_cases hlt:k<l.length
  ·obtain ⟨ad,rfl,hab,c0⟩:=hR.at_ hlt
   cases hq:setOk l n k with
   | true =>
    obtain ⟨q1,q2,q3⟩:=(setOk_iff _ _ _).1 hq
    have hnx:setTo l n (k+1)=true:=by simp only [setTo,HK.out,hq];rfl
    have HNX:=Lib.hid hnx
    have H3:=Lib.hid q3
    clear hnx hq q3
    by_cases hk0:k=0
    ·have hd:decide (0<k)=false:=by simp;omega
     clear hk0
     go_wp2
     go_round
     case rel=>exact ⟨k+1,by omega,by go_num,HNX⟩
     case measure=>simp [intOf];omega
    ·obtain ⟨ad',e',hab',d0⟩:=hR.at_ (k:=k-1) (by omega)
     cases e'
     have hkp:0<k:=by omega
     have q3:gi l (k-1)<gi l k:=by have:=H3.out;omega
     clear hk0
     go_wp2
     go_round
     case rel=>exact ⟨k+1,by omega,by go_num,HNX⟩
     case measure=>simp [intOf];omega
   | false =>
    have HB:=Lib.hid (H1.out k hlt hq)
    have HN:=Lib.hid ((setOk_not _ _ _).1 hq)
    clear hq
    by_cases hk0:k=0
    ·have hd:decide (0<k)=false:=by simp;omega
     have HZ:=Lib.hid hk0
     clear hk0
     go_wp2
     all_goals first
      | (go_ret;exact ⟨ret_bool (by rw [HB.out]),rfl⟩)
      | (exfalso;have:=HN.out;have:=HZ.out;omega)
    ·obtain ⟨ad',e',hab',d0⟩:=hR.at_ (k:=k-1) (by omega)
     cases e'
     have hkp:0<k:=by omega
     clear hk0
     go_wp2
     all_goals first
      | (go_ret;exact ⟨ret_bool (by rw [HB.out]),rfl⟩)
      | (exfalso;have:=HN.out;omega)
  ·have hv:S=true:=H2.out (by rw [show l.length=k by omega];exact HK.out)
   have HV:=Lib.hid hv;clear hv
   go_wp2
   go_ret
   exact ⟨ret_bool (by rw [HV.out]),rfl⟩
theorem risSet_any (l:List Int)(m:Int)(hl:l.length≤1000000000)(A:Option Addr)(c:Nat)(w:World)(hR:RN w A l) :
  Calls Tryz.prog 195 #[.slice A l.length c,.int .i64 m] w fun e w'=>e=.returned (.bool (isSet l (m+1)))∧Below w.heap.size w w':=by
 obtain ⟨S,hS⟩:∃S,S=isSet l (m+1):=⟨_,rfl⟩
 rw [← hS]
 have h1:∀k,k<l.length→setOk l (m+1) k=false→S=false:=fun k hk h=>by rw [hS];exact isSet_bad hk h
 have h2:setTo l (m+1) l.length=true→S=true:=fun h=>by rw [hS];exact h
 have H1:=Lib.hid h1
 have H2:=Lib.hid h2
 clear h1 h2 hS
 go_enter Tryz.func195,Tryz.ntmps195
 go_wp2
 go_loopw [5] (fun x wr=>∃k:Nat,k≤l.length∧x=.int .i64 k∧Hid (setTo l (m+1) k=true)∧Below w.heap.size w wr) (fun x _=>l.length-(intOf x).toNat)
 case atStart=>exact ⟨0,by omega,rfl,rfl,Below.refl _ _⟩
 case round =>
  obtain ⟨k,hk,rfl,HK,hbl⟩:=hrel
  by_cases hlt:k<l.length
  ·obtain ⟨ad,rfl,hab,c0⟩:=(hR.below hbl).at_ hlt
   have z0:(0:Int)≤(k:Int):=Int.natCast_nonneg _
   have z1:(k:Int)<(l.length:Int):=by omega
   cases hi:inB (gi l k) 0 m with
   | false =>
    have hbad:S=false:=H1.out k hlt ((setOk_not _ _ _).2 (by have:=inB_false.1 hi;omega))
    have HB:=Lib.hid hbad;clear hbad
    go_wp2_with fail
    go_quiet ((go_at_call 194;exact Calls.quiet_of_same (within_any _ _ _ _)))
    go_wp2
    go_ret
    exact ⟨ret_bool (by rw [HB.out]),below_drewN hbl _⟩
   | true =>
    have hib:=inB_true.1 hi
    by_cases hk0:k=0
    ·have hd:decide (0<k)=false:=by simp;omega
     have hnx:setTo l (m+1) (k+1)=true:=by simp only [setTo,HK.out,Bool.true_and];rw [setOk_iff];omega
     have HNX:=Lib.hid hnx
     clear hnx hk0 hib
     go_wp2_with fail
     go_quiet ((go_at_call 194;exact Calls.quiet_of_same (within_any _ _ _ _)))
     go_wp2
     go_roundw
     case rel=>exact ⟨k+1,by omega,by go_num,HNX,below_drewN hbl _⟩
     case measure=>simp [intOf];omega
    ·obtain ⟨ad',e',hab',d0⟩:=(hR.below hbl).at_ (k:=k-1) (by omega)
     cases e'
     have hkp:0<k:=by omega
     by_cases hle:gi l k≤gi l (k-1)
     ·have hbad:S=false:=H1.out k hlt ((setOk_not _ _ _).2 (by omega))
      have HB:=Lib.hid hbad
      clear hbad hk0 hib
      go_wp2_with fail
      go_quiet ((go_at_call 194;exact Calls.quiet_of_same (within_any _ _ _ _)))
      go_wp2
      go_ret
      exact ⟨ret_bool (by rw [HB.out]),below_drewN hbl _⟩
     ·have hnx:setTo l (m+1) (k+1)=true:=by simp only [setTo,HK.out,Bool.true_and];rw [setOk_iff];omega
      have hle':gi l (k-1)<gi l k:=by omega
      have HNX:=Lib.hid hnx
      clear hnx hk0 hib hle
      go_wp2_with fail
      go_quiet ((go_at_call 194;exact Calls.quiet_of_same (within_any _ _ _ _)))
      go_wp2
      go_roundw
      case rel=>exact ⟨k+1,by omega,by go_num,HNX,below_drewN hbl _⟩
      case measure=>simp [intOf];omega
  ·have hv:S=true:=H2.out (by rw [show l.length=k by omega];exact HK.out)
   have HV:=Lib.hid hv;clear hv
   go_wp2
   go_ret
   exact ⟨ret_bool (by rw [HV.out]),hbl⟩
theorem two_step {w w1 w2:World}{cs cs':Array Value}{t t':TypeId}(hx:Below (w.heap.size+2) ((w.alloc (.cells cs t)).alloc (.cells cs' t')) w1)(hb:Below w1.heap.size w1 w2):Below (w.heap.size+2) ((w.alloc (.cells cs t)).alloc (.cells cs' t')) w2 :=
 hx.trans (hb.mono (by have:=hx.size;simp at this;omega))
theorem tE_len {t:Tm}(h:¬ (1≤t.len∧t.len≤1000)):tE t=1:=by unfold tE;rw [inB_false.2 h];rfl
theorem tE_rest {t:Tm}(h:isSet t.rest 7=false):tE t=1:=by unfold tE;rw [h];cases inB t.len 1 1000 <;> rfl
theorem tE_seven {t:Tm}(h:t.rest.length=7):tE t=1:=by unfold tE;rw [decide_eq_true h];cases inB t.len 1 1000 <;> cases isSet t.rest 7 <;> rfl
theorem tE_more {t:Tm}(a:1≤t.len∧t.len≤1000)(b:isSet t.rest 7=true)(d:¬ t.rest.length=7):tE t=if 60<t.clo.length then 4 else if isSet t.clo t.len then 0 else 1:=by
 unfold tE;rw [inB_true.2 a,b,decide_eq_false d];rfl
theorem tvalidate_any (t:Tm)(A1 A2:Option Addr)(c1 c2:Nat)(w:World)(h1:RN w A1 t.rest)(h2:RN w A2 t.clo)(hl1:t.rest.length≤1000000000)(hl2:t.clo.length≤1000000000) :
  Calls Tryz.prog 65 #[.agg #[.int .i64 t.len,.slice A1 t.rest.length c1,.slice A2 t.clo.length c2]] w fun e w'=>e=.returned (.int .i64 (tE t))∧Below w.heap.size w w':=by
 obtain ⟨E,hE⟩:∃E,E=tE t:=⟨_,rfl⟩
 rw [← hE]
 have hb0:Below w.heap.size w (w.alloc (.cells #[.int .i64 t.len,.slice A1 t.rest.length c1,.slice A2 t.clo.length c2] 24)):=(Below.refl _ _).alloc (Nat.le_refl _) _
 have g1:=h1.below hb0
 have g2:=h2.below hb0
 by_cases l1:t.len<1
 ·have hEv:E=1:=hE.trans (tE_len (by omega))
  have HEV:=Lib.hid hEv
  clear hEv
  clear hE
  go_enter Tryz.func65,Tryz.ntmps65
  go_wp2
  go_ret
  exact ⟨ret_int (by rw [HEV.out]),hb0⟩
 by_cases l2:1000<t.len
 ·have hEv:E=1:=hE.trans (tE_len (by omega))
  have HEV:=Lib.hid hEv
  clear hEv
  clear hE
  go_enter Tryz.func65,Tryz.ntmps65
  go_wp2
  go_ret
  exact ⟨ret_int (by rw [HEV.out]),hb0⟩
 have HE:=Lib.hid hE
 clear hE
 go_enter Tryz.func65,Tryz.ntmps65
 go_wp2_with fail
 refine (isSet_any t.rest 7 hl1 A1 c1 _ g1).mono ?_
 rintro e w1 ⟨rfl,rfl⟩
 cases hs:isSet t.rest 7 with
 | false =>
  have hEv:=HE.out.trans (tE_rest hs)
  have HEV:=Lib.hid hEv
  clear hEv hs
  go_wp2
  go_ret
  exact ⟨ret_int (by rw [HEV.out]),hb0⟩
 | true =>
  by_cases h7:t.rest.length=7
  ·have hEv:=HE.out.trans (tE_seven h7)
   have h7':((t.rest.length:Int) == 7)=true:=by simp [h7]
   have HEV:=Lib.hid hEv
   clear hEv hs h7
   go_wp2
   go_ret
   exact ⟨ret_int (by rw [HEV.out]),hb0⟩
  ·have hEm:=HE.out.trans (tE_more (by omega) hs h7)
   have h7':((t.rest.length:Int) == 7)=false:=by simp;omega
   have HEM:=Lib.hid hEm
   clear hEm hs h7
   by_cases h60:60<t.clo.length
   ·have HEV:=Lib.hid (HEM.out.trans (if_pos h60))
    go_wp2
    go_ret
    exact ⟨ret_int (by rw [HEV.out]),hb0⟩
   ·have hEn:=HEM.out.trans (if_neg h60)
    have HEN:=Lib.hid hEn
    clear hEn
    go_wp2_with fail
    refine (isSet_any t.clo t.len hl2 A2 c2 _ g2).mono ?_
    rintro e w1 ⟨rfl,rfl⟩
    cases hs2:isSet t.clo t.len with
    | false =>
     have hEv:E=1:=by rw [HEN.out,hs2];rfl
     have HEV:=Lib.hid hEv
     clear hEv hs2
     go_wp2
     go_ret
     exact ⟨ret_int (by rw [HEV.out]),hb0⟩
    | true =>
     have hEv:E=0:=by rw [HEN.out,hs2];rfl
     have HEV:=Lib.hid hEv
     clear hEv hs2
     go_wp2
     go_ret
     exact ⟨ret_int (by rw [HEV.out]),hb0⟩
theorem rtvalidate_any (t:Tm)(A1 A2:Option Addr)(c1 c2:Nat)(w:World)(h1:RN w A1 t.rest)(h2:RN w A2 t.clo)(hl1:t.rest.length≤1000000000)(hl2:t.clo.length≤1000000000) :
  Calls Tryz.prog 128 #[.agg #[.int .i64 t.len,.slice A1 t.rest.length c1,.slice A2 t.clo.length c2]] w fun e w'=>e=.returned (.int .i64 (tE t))∧Below w.heap.size w w':=by
 obtain ⟨E,hE⟩:∃E,E=tE t:=⟨_,rfl⟩
 rw [← hE]
 have HE:=Lib.hid hE
 clear hE
 have hx0:Below (w.heap.size+1) (w.alloc (.cells #[.int .i64 t.len,.slice A1 t.rest.length c1,.slice A2 t.clo.length c2] 24)) (w.alloc (.cells #[.int .i64 t.len,.slice A1 t.rest.length c1,.slice A2 t.clo.length c2] 24)):=Below.refl _ _
 obtain ⟨_,_,_,hb0⟩:=blk_facts hx0 (by omega)
 go_enter Tryz.func128,Tryz.ntmps128
 go_wp2_with fail
 refine (within_any _ _ _ _).mono ?_
 rintro e w1 ⟨rfl,hw1⟩
 subst hw1
 cases hi:inB t.len 1 1000 with
 | false =>
  have hEv:=HE.out.trans (tE_len (inB_false.1 hi))
  have HEV:=Lib.hid hEv
  clear hEv
  go_wp2
  go_ret
  exact ⟨ret_int (by rw [HEV.out]),hb0⟩
 | true =>
  have hib:=inB_true.1 hi
  go_wp2_with fail
  refine (risSet_any t.rest 6 hl1 A1 c1 _ (h1.below hb0)).mono ?_
  rintro e w1 ⟨rfl,hb1⟩
  rw [show (6:Int)+1=7 by decide]
  have hx1:=hx0.trans (hb1.mono (by simp))
  clear hb1
  obtain ⟨bx,_,_,hb1⟩:=blk_facts hx1 (by omega)
  cases hs:isSet t.rest 7 with
  | false =>
   have hEv:=HE.out.trans (tE_rest hs)
   have HEV:=Lib.hid hEv
   clear hEv hs
   go_wp2
   go_ret
   exact ⟨ret_int (by rw [HEV.out]),hb1⟩
  | true =>
   by_cases h7:t.rest.length=7
   ·have hEv:=HE.out.trans (tE_seven h7)
    have h7':((t.rest.length:Int) == 7)=true:=by simp [h7]
    have HEV:=Lib.hid hEv
    clear hEv hs h7
    go_wp2
    go_ret
    exact ⟨ret_int (by rw [HEV.out]),hb1⟩
   ·have hEm:=HE.out.trans (tE_more (by omega) hs h7)
    have h7':((t.rest.length:Int) == 7)=false:=by simp;omega
    have HEM:=Lib.hid hEm
    clear hEm hs h7
    by_cases h60:60<t.clo.length
    ·have HEV:=Lib.hid (HEM.out.trans (if_pos h60))
     go_wp2
     go_ret
     exact ⟨ret_int (by rw [HEV.out]),hb1⟩
    ·have hEn:=HEM.out.trans (if_neg h60)
     have HEN:=Lib.hid hEn
     clear hEn
     go_wp2_with fail
     refine (risSet_any t.clo (t.len-1) hl2 A2 c2 _ (h2.below hb1)).mono ?_
     rintro e w2 ⟨rfl,hb2⟩
     rw [show t.len-1+1=t.len by omega]
     have hb3:=hb1.trans (hb2.mono hb1.size)
     cases hs2:isSet t.clo t.len with
     | false =>
      have hEv:E=1:=by rw [HEN.out,hs2];rfl
      have HEV:=Lib.hid hEv
      clear hEv hs2
      go_wp2
      go_ret
      exact ⟨ret_int (by rw [HEV.out]),hb3⟩
     | true =>
      have hEv:E=0:=by rw [HEN.out,hs2];rfl
      have HEV:=Lib.hid hEv
      clear hEv hs2
      go_wp2
      go_ret
      exact ⟨ret_int (by rw [HEV.out]),hb3⟩
theorem cE_bad {c:Cy}(h:¬ CyOk c):cE c=1:=by
 unfold cE;split
 ·rename_i h1;exact absurd (CyOk.of (by unfold cE;rw [if_pos h1])) h
 ·rfl
theorem cvalidate_any (c:Cy)(w:World) :
  Calls Tryz.prog 66 #[.agg #[.int .i64 c.n,.int .i64 c.f,.int .i64 c.k]] w fun e w'=>e=.returned (.int .i64 (cE c))∧Below w.heap.size w w':=by
 obtain ⟨E,hE⟩:∃E,E=cE c:=⟨_,rfl⟩
 rw [← hE]
 have HE:=Lib.hid hE
 clear hE
 have hb0:Below w.heap.size w (w.alloc (.cells #[.int .i64 c.n,.int .i64 c.f,.int .i64 c.k] 26)):=(Below.refl _ _).alloc (Nat.le_refl _) _
 go_enter Tryz.func66,Tryz.ntmps66
 by_cases a1:c.n<1
 ·have hEv:E=1:=HE.out.trans (cE_bad (fun h=>by have:=h.n1;have:=h.n2;have:=h.f0;have:=h.f1;omega))
  have HEV:=Lib.hid hEv
  clear hEv
  go_wp2
  go_ret
  exact ⟨ret_int (by rw [HEV.out]),hb0⟩
 by_cases a2:40<c.n
 ·have hEv:E=1:=HE.out.trans (cE_bad (fun h=>by have:=h.n1;have:=h.n2;have:=h.f0;have:=h.f1;omega))
  have HEV:=Lib.hid hEv
  clear hEv
  go_wp2
  go_ret
  exact ⟨ret_int (by rw [HEV.out]),hb0⟩
 by_cases a3:c.f<0
 ·have hEv:E=1:=HE.out.trans (cE_bad (fun h=>by have:=h.n1;have:=h.n2;have:=h.f0;have:=h.f1;omega))
  have HEV:=Lib.hid hEv
  clear hEv
  go_wp2
  go_ret
  exact ⟨ret_int (by rw [HEV.out]),hb0⟩
 by_cases a4:c.n≤c.f
 ·have hEv:E=1:=HE.out.trans (cE_bad (fun h=>by have:=h.n1;have:=h.n2;have:=h.f0;have:=h.f1;omega))
  have HEV:=Lib.hid hEv
  clear hEv
  go_wp2
  go_ret
  exact ⟨ret_int (by rw [HEV.out]),hb0⟩
 cases hk0:(c.k != 0) with
 | false =>
  have hEv:E=0:=HE.out.trans (CyOk.to ⟨by omega,by omega,by omega,by omega,.inl (by simpa using hk0)⟩)
  have HEV:=Lib.hid hEv
  clear hEv
  go_wp2
  go_ret
  exact ⟨ret_int (by rw [HEV.out]),hb0⟩
 | true =>
 cases hk1:(c.k != 1) with
 | false =>
  have hEv:E=0:=HE.out.trans (CyOk.to ⟨by omega,by omega,by omega,by omega,.inr (by simpa using hk1)⟩)
  have HEV:=Lib.hid hEv
  clear hEv
  go_wp2
  go_ret
  exact ⟨ret_int (by rw [HEV.out]),hb0⟩
 | true =>
  have hEv:E=1:=HE.out.trans (cE_bad (fun h=>by rcases h.k with h | h <;> simp [h] at hk0 hk1))
  have HEV:=Lib.hid hEv
  clear hEv
  go_wp2
  go_ret
  exact ⟨ret_int (by rw [HEV.out]),hb0⟩
theorem rcvalidate_any (c:Cy)(w:World) :
  Calls Tryz.prog 129 #[.agg #[.int .i64 c.n,.int .i64 c.f,.int .i64 c.k]] w fun e w'=>e=.returned (.int .i64 (cE c))∧Below w.heap.size w w':=by
 obtain ⟨E,hE⟩:∃E,E=cE c:=⟨_,rfl⟩
 rw [← hE]
 have HE:=Lib.hid hE
 clear hE
 have hb0:Below w.heap.size w (w.alloc (.cells #[.int .i64 c.n,.int .i64 c.f,.int .i64 c.k] 26)):=(Below.refl _ _).alloc (Nat.le_refl _) _
 go_enter Tryz.func129,Tryz.ntmps129
 cases i1:inB c.n 1 40 with
 | false =>
  have hEv:E=1:=HE.out.trans (cE_bad (fun h=>by rw [inB_true.2 ⟨h.n1,h.n2⟩] at i1;cases i1))
  have HEV:=Lib.hid hEv
  clear hEv
  go_wp2_with (go_at_call 194;refine (within_any _ _ _ _).mono ?_;rintro e w' ⟨rfl,hw'⟩;subst hw')
  go_ret
  exact ⟨ret_int (by rw [HEV.out]),hb0⟩
 | true =>
 have j1:=inB_true.1 i1
 cases i2:inB c.f 0 (c.n-1) with
 | false =>
  have hEv:E=1:=HE.out.trans (cE_bad (fun h=>by rw [inB_true.2 ⟨h.f0,by have:=h.f1;omega⟩] at i2;cases i2))
  have HEV:=Lib.hid hEv
  clear hEv
  go_wp2_with (go_at_call 194;refine (within_any _ _ _ _).mono ?_;rintro e w' ⟨rfl,hw'⟩;subst hw')
  go_ret
  exact ⟨ret_int (by rw [HEV.out]),hb0⟩
 | true =>
 have j2:=inB_true.1 i2
 cases hk0:(c.k != 0) with
 | false =>
  have hEv:E=0:=HE.out.trans (CyOk.to ⟨by omega,by omega,by omega,by omega,.inl (by simpa using hk0)⟩)
  have HEV:=Lib.hid hEv
  clear hEv
  go_wp2_with (go_at_call 194;refine (within_any _ _ _ _).mono ?_;rintro e w' ⟨rfl,hw'⟩;subst hw')
  go_ret
  exact ⟨ret_int (by rw [HEV.out]),hb0⟩
 | true =>
 cases hk1:(c.k != 1) with
 | false =>
  have hEv:E=0:=HE.out.trans (CyOk.to ⟨by omega,by omega,by omega,by omega,.inr (by simpa using hk1)⟩)
  have HEV:=Lib.hid hEv
  clear hEv
  go_wp2_with (go_at_call 194;refine (within_any _ _ _ _).mono ?_;rintro e w' ⟨rfl,hw'⟩;subst hw')
  go_ret
  exact ⟨ret_int (by rw [HEV.out]),hb0⟩
 | true =>
  have hEv:E=1:=HE.out.trans (cE_bad (fun h=>by rcases h.k with h | h <;> simp [h] at hk0 hk1))
  have HEV:=Lib.hid hEv
  clear hEv
  go_wp2_with (go_at_call 194;refine (within_any _ _ _ _).mono ?_;rintro e w' ⟨rfl,hw'⟩;subst hw')
  go_ret
  exact ⟨ret_int (by rw [HEV.out]),hb0⟩
end Go.Proofs.YtiapkffihpgdcaaGreatDoor
