import Derived.Test.YtiapkffihpgdcaaGreatDoorQC1
import Derived.Test.YtiapkffihpgdcaaGreatDoorQC4
import Derived.Lib.SlicesCompact
import Derived.Laws.BitsLemmas
import Derived.Lib.TrailingZeros
set_option linter.unusedVariables false
set_option linter.unusedSimpArgs false
set_option maxRecDepth 100000
set_option maxHeartbeats 4000000
namespace Go.Proofs.YtiapkffihpgdcaaGreatDoor
structure It where
 parts:List Int
 has:List Int
structure Rl where
 iff:List Int
 thn:Int
structure Bk where
 props:Int
 items:List It
 rules:List Rl
def gIt (l:List It)(k:Nat):It:=l.getD k ⟨[],[]⟩
def gRl (l:List Rl)(k:Nat):Rl:=l.getD k ⟨[],0⟩
def itE (b:Bk)(k:Nat):Int:=if 6<(gIt b.items k).parts.length then 4 else if isSet (gIt b.items k).parts k && isSet (gIt b.items k).has b.props then 0 else 1
def itTo (b:Bk):Nat→Int
 | 0=>0
 | k+1=>if itTo b k≠0 then itTo b k else itE b k
def rlB (b:Bk)(k:Nat):Bool:=isSet (gRl b.rules k).iff b.props && inB (gRl b.rules k).thn 0 (b.props-1)
def rlTo (b:Bk):Nat→Bool
 | 0=>true
 | k+1=>rlTo b k && rlB b k
def bkE (b:Bk):Int:=if inB b.props 0 10 then (if 20<b.items.length∨16<b.rules.length then 4 else if itTo b b.items.length≠0 then itTo b b.items.length else if rlTo b b.rules.length then 0 else 1) else 1
theorem itTo_iff (b:Bk)(k:Nat):itTo b k=0 ↔ ∀i,i<k→itE b i=0:=by
 induction k with
 | zero=>simp [itTo]
 | succ k ih =>
  simp only [itTo]
  by_cases h:itTo b k=0
  ·rw [if_neg (by simp [h])]
   have:=ih.1 h
   constructor
   ·intro h2 i hi
    by_cases e:i=k
    ·subst e;exact h2
    ·exact this i (by omega)
   ·intro h2;exact h2 k (by omega)
  ·rw [if_pos h]
   constructor
   ·intro h2;exact absurd h2 h
   ·intro h2;exact ih.2 fun i hi=>h2 i (by omega)
theorem itTo_stop (b : Bk) {k : Nat} (h : itTo b k ≠ 0) : ∀ n, k ≤ n → itTo b n = itTo b k
  | 0, hk => by have : k = 0 := by omega
                subst this; rfl
  | n + 1, hk => by
    by_cases e : k = n + 1
    · subst e; rfl
    · have := itTo_stop b h n (by omega)
      simp only [itTo]
      rw [this, if_pos h]
theorem itTo_bad (b:Bk){k n:Nat}(hk:itTo b k=0)(h:itE b k≠0)(hn:k<n):itTo b n=itE b k:=by
 have h1:itTo b (k+1)=itE b k:=by simp only [itTo];rw [if_neg (by simp [hk])]
 rw [itTo_stop b (by rw [h1];exact h) n (by omega),h1]
theorem rlTo_iff (b:Bk)(k:Nat):rlTo b k=true ↔ ∀i,i<k→rlB b i=true:=by
 induction k with
 | zero=>simp [rlTo]
 | succ k ih =>
  simp only [rlTo,Bool.and_eq_true,ih]
  constructor
  ·rintro ⟨h1,h2⟩ i hi
   by_cases e:i=k
   ·subst e;exact h2
   ·exact h1 i (by omega)
  ·intro h;exact ⟨fun i hi=>h i (by omega),h k (by omega)⟩
theorem rlTo_bad (b:Bk){k n:Nat}(h:rlB b k=false)(hn:k<n):rlTo b n=false:=by
 cases hs:rlTo b n with
 | false=>rfl
 | true=>rw [(rlTo_iff b n).1 hs k hn] at h;cases h
structure BkOk (b:Bk):Prop where
 p0:0≤b.props
 p10:b.props≤10
 i20:b.items.length≤20
 r16:b.rules.length≤16
 six:∀i,i<b.items.length→(gIt b.items i).parts.length≤6
 parts:∀i,i<b.items.length→isSet (gIt b.items i).parts i=true
 has:∀i,i<b.items.length→isSet (gIt b.items i).has b.props=true
 iff:∀i,i<b.rules.length→isSet (gRl b.rules i).iff b.props=true
 t0:∀i,i<b.rules.length→0≤(gRl b.rules i).thn
 t1:∀i,i<b.rules.length→(gRl b.rules i).thn<b.props
theorem itE_ok {b:Bk}{k:Nat}(h:itE b k=0):(gIt b.items k).parts.length≤6∧isSet (gIt b.items k).parts k=true∧isSet (gIt b.items k).has b.props=true:=by
 unfold itE at h
 by_cases h6:6<(gIt b.items k).parts.length
 ·rw [if_pos h6] at h;cases h
 ·rw [if_neg h6] at h
  cases h1:isSet (gIt b.items k).parts k with
  | false=>rw [h1] at h;cases h
  | true =>
   cases h2:isSet (gIt b.items k).has b.props with
   | false=>rw [h1,h2] at h;cases h
   | true=>exact ⟨by omega,rfl,rfl⟩
theorem itE_to {b:Bk}{k:Nat}(h1:(gIt b.items k).parts.length≤6)(h2:isSet (gIt b.items k).parts k=true)(h3:isSet (gIt b.items k).has b.props=true):itE b k=0:=by
 unfold itE;rw [if_neg (by omega),h2,h3];rfl
theorem BkOk.of {b:Bk}(h:bkE b=0):BkOk b:=by
 unfold bkE at h
 cases h1:inB b.props 0 10 with
 | false=>rw [h1] at h;cases h
 | true =>
  rw [h1] at h
  simp only [if_true] at h
  by_cases h2:20<b.items.length∨16<b.rules.length
  ·rw [if_pos h2] at h;cases h
  ·rw [if_neg h2] at h
   by_cases h3:itTo b b.items.length=0
   ·rw [if_neg (by simp [h3])] at h
    cases h4:rlTo b b.rules.length with
    | false=>rw [h4] at h;cases h
    | true =>
     have a:=inB_true.1 h1
     have c:=(itTo_iff b _).1 h3
     have d:=(rlTo_iff b _).1 h4
     have d1:∀i,i<b.rules.length→isSet (gRl b.rules i).iff b.props=true∧0≤(gRl b.rules i).thn∧(gRl b.rules i).thn≤b.props-1:=fun i hi=>by
      have:=d i hi
      unfold rlB at this
      rw [Bool.and_eq_true,inB_true] at this
      exact this
     exact ⟨a.1,a.2,by omega,by omega,fun i hi=>(itE_ok (c i hi)).1,fun i hi=>(itE_ok (c i hi)).2.1,fun i hi=>(itE_ok (c i hi)).2.2,fun i hi=>(d1 i hi).1,fun i hi=>(d1 i hi).2.1,fun i hi=>by have:=(d1 i hi).2.2;omega⟩
   ·rw [if_pos h3] at h;exact absurd h h3
theorem BkOk.to {b:Bk}(h:BkOk b):bkE b=0:=by
 unfold bkE
 rw [inB_true.2 ⟨h.p0,h.p10⟩]
 simp only [if_true]
 have h3:itTo b b.items.length=0:=(itTo_iff b _).2 fun i hi=>itE_to (h.six i hi) (h.parts i hi) (h.has i hi)
 have h4:rlTo b b.rules.length=true:=(rlTo_iff b _).2 fun i hi=>by
  unfold rlB;rw [Bool.and_eq_true,inB_true];exact ⟨h.iff i hi,h.t0 i hi,by have:=h.t1 i hi;omega⟩
 rw [if_neg (by have:=h.i20;have:=h.r16;omega),if_neg (by simp [h3]),h4];rfl
def bit (x:Int):Nat:=1 <<< x.toNat
def maskTo (l:List Int):Nat→Nat
 | 0=>0
 | k+1=>maskTo l k ||| bit (gi l k)
def maskN (l:List Int):Nat:=maskTo l l.length
theorem bit_test (x:Int)(k:Nat):(bit x).testBit k=decide (x.toNat=k):=by
 unfold bit
 rw [Nat.shiftLeft_eq,Nat.one_mul,Nat.testBit_two_pow]
theorem maskTo_test (l:List Int)(k:Nat)(p:Nat):(maskTo l k).testBit p=true ↔ ∃i,i<k∧(gi l i).toNat=p:=by
 induction k with
 | zero=>simp [maskTo]
 | succ k ih =>
  simp only [maskTo,Nat.testBit_or,Bool.or_eq_true,ih,bit_test,decide_eq_true_eq]
  constructor
  ·rintro (⟨i,hi,h⟩ | h)
   ·exact ⟨i,by omega,h⟩
   ·exact ⟨k,by omega,h⟩
  ·rintro ⟨i,hi,h⟩
   by_cases e:i=k
   ·subst e;exact .inr h
   ·exact .inl ⟨i,by omega,h⟩
theorem maskTo_lt {l:List Int}{n:Nat}(h:∀i,i<l.length→0≤gi l i∧gi l i<n)(k:Nat)(hk:k≤l.length):maskTo l k<2 ^ n:=by
 apply Nat.lt_pow_two_of_testBit
 intro i hi
 cases hh:(maskTo l k).testBit i with
 | false=>rfl
 | true =>
  obtain ⟨j,hj,e⟩:=(maskTo_test l k i).1 hh
  have:=h j (by omega)
  omega
/-- The places of the bits below n,in ascending order. -/
def bitsTo (m:Nat):Nat→List Int
 | 0=>[]
 | k+1=>if m.testBit k then bitsTo m k ++ [(k:Int)] else bitsTo m k
def bitsL (m:Nat):List Int:=bitsTo m 20
theorem bitsTo_mem (m:Nat)(n:Nat)(x:Int):x ∈ bitsTo m n ↔ ∃k:Nat,k<n∧m.testBit k=true∧x=k:=by
 induction n with
 | zero=>simp [bitsTo]
 | succ n ih =>
  simp only [bitsTo]
  split
  ·rename_i h
   rw [List.mem_append,ih,List.mem_singleton]
   constructor
   ·rintro (⟨k,h1,h2,h3⟩ | h3)
    ·exact ⟨k,by omega,h2,h3⟩
    ·exact ⟨n,by omega,h,h3⟩
   ·rintro ⟨k,h1,h2,h3⟩
    by_cases e:k=n
    ·subst e;exact .inr h3
    ·exact .inl ⟨k,by omega,h2,h3⟩
  ·rename_i h
   rw [ih]
   constructor
   ·rintro ⟨k,h1,h2,h3⟩;exact ⟨k,by omega,h2,h3⟩
   ·rintro ⟨k,h1,h2,h3⟩
    by_cases e:k=n
    ·subst e;exact absurd h2 h
    ·exact ⟨k,by omega,h2,h3⟩
theorem bitsTo_more (m : Nat) {n : Nat} (h : m < 2 ^ n) : ∀ k, n ≤ k → bitsTo m k = bitsTo m n
  | 0, hk => by have : n = 0 := by omega
                subst this; rfl
  | k + 1, hk => by
    by_cases e : n = k + 1
    · subst e; rfl
    · have ht : m.testBit k = false := Nat.testBit_lt_two_pow (Nat.lt_of_lt_of_le h (Nat.pow_le_pow_right (by omega) (by omega)))
      simp only [bitsTo]
      rw [ht]
      exact bitsTo_more m h k (by omega)
theorem bitsTo_len (m n:Nat):(bitsTo m n).length≤n:=by
 induction n with
 | zero=>simp [bitsTo]
 | succ n ih =>
  simp only [bitsTo]
  split
  ·rw [List.length_append,List.length_singleton];omega
  ·omega
def conTo (l:List It)(m:Nat):Nat→Nat
 | 0=>m
 | k+1=>conTo l (if m.testBit k then m ||| maskN (gIt l k).parts else m) k
def conN (l:List It)(i:Nat):Nat:=conTo l (1 <<< i) (i+1)
def basTo (l:List It)(m:Nat):Nat→Nat
 | 0=>0
 | k+1=>if m.testBit k then basTo l m k ||| maskN (gIt l k).has else basTo l m k
def basN (b:Bk)(i:Nat):Nat:=basTo b.items (conN b.items i) b.items.length
theorem or_lt {a b n:Nat}(h1:a<2 ^ n)(h2:b<2 ^ n):a ||| b<2 ^ n:=Nat.or_lt_two_pow h1 h2
theorem parts_lt {b:Bk}(hb:BkOk b){i:Nat}(hi:i<b.items.length):maskN (gIt b.items i).parts<2 ^ i :=
 maskTo_lt (fun j hj=>isSet_at (hb.parts i hi) hj) _ (Nat.le_refl _)
theorem has_lt {b:Bk}(hb:BkOk b){i:Nat}(hi:i<b.items.length):maskN (gIt b.items i).has<2 ^ b.props.toNat :=
 maskTo_lt (fun j hj=>by have:=isSet_at (hb.has i hi) hj;have:=hb.p0;omega) _ (Nat.le_refl _)
theorem conTo_lt {b:Bk}(hb:BkOk b):∀(k m:Nat),k≤b.items.length→m<2 ^ b.items.length→conTo b.items m k<2 ^ b.items.length
 | 0,m,_,h=>h
 | k+1,m,hk,h=>by
  simp only [conTo]
  apply conTo_lt hb k _ (by omega)
  split
  ·exact or_lt h (Nat.lt_of_lt_of_le (parts_lt hb (by omega)) (Nat.pow_le_pow_right (by omega) (by omega)))
  ·exact h
theorem conN_lt {b:Bk}(hb:BkOk b){i:Nat}(hi:i<b.items.length):conN b.items i<2 ^ b.items.length:=by
 unfold conN
 apply conTo_lt hb _ _ (by omega)
 rw [Nat.shiftLeft_eq,Nat.one_mul]
 exact Nat.pow_lt_pow_right (by omega) hi
theorem basTo_lt {b:Bk}(hb:BkOk b)(m:Nat):∀k,k≤b.items.length→basTo b.items m k<2 ^ b.props.toNat
 | 0,_=>by simp only [basTo];exact Nat.two_pow_pos _
 | k+1,hk=>by
  simp only [basTo]
  have ih:=basTo_lt hb m k (by omega)
  split
  ·exact or_lt ih (has_lt hb (by omega))
  ·exact ih
theorem basN_lt {b:Bk}(hb:BkOk b)(i:Nat):basN b i<2 ^ b.props.toNat:=basTo_lt hb _ _ (Nat.le_refl _)
/-- All numbers of a list are in a set. -/
def allTo (l:List Int)(m:Nat):Nat→Bool
 | 0=>true
 | k+1=>allTo l m k && m.testBit (gi l k).toNat
def allIn (l:List Int)(m:Nat):Bool:=allTo l m l.length
theorem allTo_iff (l:List Int)(m k:Nat):allTo l m k=true ↔ ∀i,i<k→m.testBit (gi l i).toNat=true:=by
 induction k with
 | zero=>simp [allTo]
 | succ k ih =>
  simp only [allTo,Bool.and_eq_true,ih]
  constructor
  ·rintro ⟨h1,h2⟩ i hi
   by_cases e:i=k
   ·subst e;exact h2
   ·exact h1 i (by omega)
  ·intro h;exact ⟨fun i hi=>h i (by omega),h k (by omega)⟩
theorem allTo_bad (l:List Int)(m:Nat){k n:Nat}(h:m.testBit (gi l k).toNat=false)(hn:k<n):allTo l m n=false:=by
 cases hs:allTo l m n with
 | false=>rfl
 | true=>rw [(allTo_iff l m n).1 hs k hn] at h;cases h
/-- A rule tells something new. -/
def newR (r:Rl)(m:Nat):Bool:=allIn r.iff m && !m.testBit r.thn.toNat
/-- No rule among the first k tells anything new. -/
def noneTo (rs:List Rl)(m:Nat):Nat→Bool
 | 0=>true
 | k+1=>noneTo rs m k && !newR (gRl rs k) m
theorem noneTo_iff (rs:List Rl)(m k:Nat):noneTo rs m k=true ↔ ∀i,i<k→newR (gRl rs i) m=false:=by
 induction k with
 | zero=>simp [noneTo]
 | succ k ih =>
  simp only [noneTo,Bool.and_eq_true,ih,Bool.not_eq_true']
  constructor
  ·rintro ⟨h1,h2⟩ i hi
   by_cases e:i=k
   ·subst e;exact h2
   ·exact h1 i (by omega)
  ·intro h;exact ⟨fun i hi=>h i (by omega),h k (by omega)⟩
/-- The bits of m are those that follow from m0. -/
inductive Fol (rs:List Rl) (m0:Nat):Nat→Prop
 | base (p:Nat):m0.testBit p=true→Fol rs m0 p
 | rule (k:Nat):k<rs.length→(∀i,i<(gRl rs k).iff.length→Fol rs m0 (gi (gRl rs k).iff i).toNat)→Fol rs m0 (gRl rs k).thn.toNat
/-- m lies between m0 and what follows from it. -/
structure Mid (rs:List Rl) (m0 m:Nat):Prop where
 lo:∀p,m0.testBit p=true→m.testBit p=true
 hi:∀p,m.testBit p=true→Fol rs m0 p
theorem Mid.start (rs:List Rl)(m0:Nat):Mid rs m0 m0:=⟨fun _ h=>h,fun p h=>.base p h⟩
theorem Mid.step {rs:List Rl}{m0 m k:Nat}(h:Mid rs m0 m)(hk:k<rs.length)(ha:allIn (gRl rs k).iff m=true):Mid rs m0 (m ||| bit (gRl rs k).thn):=by
 refine ⟨fun p hp=>?_,fun p hp=>?_⟩
 ·rw [Nat.testBit_or,h.lo p hp];rfl
 ·rw [Nat.testBit_or,Bool.or_eq_true] at hp
  rcases hp with hp | hp
  ·exact h.hi p hp
  ·rw [bit_test,decide_eq_true_eq] at hp
   subst hp
   exact .rule k hk fun i hi=>h.hi _ ((allTo_iff _ _ _).1 ha i hi)
theorem Mid.full {rs:List Rl}{m0 m:Nat}(h:Mid rs m0 m)(hc:noneTo rs m rs.length=true)(p:Nat):m.testBit p=true ↔ Fol rs m0 p:=by
 refine ⟨h.hi p,fun hf=>?_⟩
 induction hf with
 | base p hp=>exact h.lo p hp
 | rule k hk _ ih =>
  have:=(noneTo_iff _ _ _).1 hc k hk
  unfold newR at this
  rw [Bool.and_eq_false_iff] at this
  rcases this with h1 | h1
  ·rw [show allIn (gRl rs k).iff m=true from (allTo_iff _ _ _).2 ih] at h1;cases h1
  ·simpa using h1
theorem Mid.same {rs:List Rl}{m0 m m':Nat}(h:Mid rs m0 m)(hc:noneTo rs m rs.length=true)(h':Mid rs m0 m')(hc':noneTo rs m' rs.length=true):m=m':=by
 apply Nat.eq_of_testBit_eq
 intro p
 rw [Bool.eq_iff_iff,h.full hc,h'.full hc']
/-- How many places below n are not in a set. -/
def holes (m:Nat):Nat→Nat
 | 0=>0
 | k+1=>holes m k+if m.testBit k then 0 else 1
theorem holes_le (m n:Nat):holes m n≤n:=by
 induction n with
 | zero=>simp [holes]
 | succ n ih=>simp only [holes];split <;> omega
theorem holes_or (m:Nat)(x:Int)(n:Nat):holes (m ||| bit x) n≤holes m n:=by
 induction n with
 | zero=>simp [holes]
 | succ n ih =>
  simp only [holes,Nat.testBit_or]
  cases m.testBit n <;> cases (bit x).testBit n <;> simp <;> omega
theorem holes_lt (m:Nat){x:Int}{n:Nat}(hx:x.toNat<n)(hm:m.testBit x.toNat=false):holes (m ||| bit x) n<holes m n:=by
 induction n with
 | zero=>omega
 | succ n ih =>
  simp only [holes,Nat.testBit_or]
  by_cases e:x.toNat=n
  ·subst e
   have:=holes_or m x x.toNat
   rw [hm,bit_test]
   simp
   omega
  ·have:=ih (by omega)
   rw [bit_test,decide_eq_false e]
   simp only [Bool.or_false]
   split <;> omega
def firstR (rs:List Rl)(m:Nat):Nat→Option Nat
 | 0=>none
 | k+1=>match firstR rs m k with
  | some i=>some i
  | none=>if newR (gRl rs k) m then some k else none
theorem firstR_none (rs:List Rl)(m k:Nat):firstR rs m k=none ↔ noneTo rs m k=true:=by
 induction k with
 | zero=>simp [firstR,noneTo]
 | succ k ih =>
  simp only [firstR,noneTo,Bool.and_eq_true]
  rw [← ih]
  cases firstR rs m k with
  | some i=>simp
  | none=>cases newR (gRl rs k) m <;> simp
theorem firstR_some {rs:List Rl}{m k i:Nat}(h:firstR rs m k=some i):i<k∧newR (gRl rs i) m=true:=by
 induction k with
 | zero=>simp [firstR] at h
 | succ k ih =>
  simp only [firstR] at h
  cases hf:firstR rs m k with
  | some j=>rw [hf] at h;cases h;have:=ih hf;exact ⟨by omega,this.2⟩
  | none =>
   rw [hf] at h
   simp only at h
   split at h
   ·cases h;exact ⟨by omega,by assumption⟩
   ·cases h
def cloF (rs:List Rl):Nat→Nat→Nat
 | 0,m=>m
 | f+1,m=>match firstR rs m rs.length with
  | some i=>cloF rs f (m ||| bit (gRl rs i).thn)
  | none=>m
def cloN (rs:List Rl)(m:Nat):Nat:=cloF rs 11 m
theorem cloF_ok {rs:List Rl}{m0:Nat}(ht:∀i,i<rs.length→0≤(gRl rs i).thn∧(gRl rs i).thn<10):∀(f m:Nat),Mid rs m0 m→holes m 10<f→Mid rs m0 (cloF rs f m)∧noneTo rs (cloF rs f m) rs.length=true
 | 0,m,_,h=>by omega
 | f+1,m,hm,h=>by
  simp only [cloF]
  cases hf:firstR rs m rs.length with
  | none=>exact ⟨hm,(firstR_none _ _ _).1 hf⟩
  | some i =>
   obtain ⟨hi,hn⟩:=firstR_some hf
   unfold newR at hn
   rw [Bool.and_eq_true,Bool.not_eq_true'] at hn
   have h2:=ht i hi
   have:=holes_lt m (x:=(gRl rs i).thn) (n:=10) (by omega) hn.2
   exact cloF_ok ht f _ (hm.step hi hn.1) (by omega)
theorem cloN_ok {rs:List Rl}(ht:∀i,i<rs.length→0≤(gRl rs i).thn∧(gRl rs i).thn<10)(m:Nat):Mid rs m (cloN rs m)∧noneTo rs (cloN rs m) rs.length=true :=
 cloF_ok ht 11 m (Mid.start rs m) (by have:=holes_le m 10;omega)
theorem cloN_is {rs:List Rl}(ht:∀i,i<rs.length→0≤(gRl rs i).thn∧(gRl rs i).thn<10){m0 m:Nat}(h:Mid rs m0 m)(hc:noneTo rs m rs.length=true):m=cloN rs m0 :=
 h.same hc (cloN_ok ht m0).1 (cloN_ok ht m0).2
theorem mid_lt {b:Bk}(hb:BkOk b){m0 m:Nat}(h0:m0<2 ^ b.props.toNat)(h:Mid b.rules m0 m):m<2 ^ b.props.toNat:=by
 apply Nat.lt_pow_two_of_testBit
 intro i hi
 cases hh:m.testBit i with
 | false=>rfl
 | true =>
  exfalso
  have hf:=h.hi i hh
  cases hf with
  | base _ hp=>rw [Nat.testBit_lt_two_pow (Nat.lt_of_lt_of_le h0 (Nat.pow_le_pow_right (by omega) hi))] at hp;cases hp
  | rule k hk _=>have:=hb.t0 k hk;have:=hb.t1 k hk;omega
theorem rules_ten {b:Bk}(hb:BkOk b):∀i,i<b.rules.length→0≤(gRl b.rules i).thn∧(gRl b.rules i).thn<10:=fun i hi=>⟨hb.t0 i hi,by have:=hb.t1 i hi;have:=hb.p10;omega⟩
def labN (b:Bk)(i:Nat):Nat:=cloN b.rules (basN b i)
theorem labN_lt {b:Bk}(hb:BkOk b)(i:Nat):labN b i<2 ^ b.props.toNat:=mid_lt hb (basN_lt hb i) (cloN_ok (rules_ten hb) _).1
def nmE (b:Bk)(i:Int):Int:=if bkE b≠0 then bkE b else if inB i 0 ((b.items.length:Int)-1) then 0 else 5
def labR (b:Bk)(i:Int):List Int:=if nmE b i=0 then bitsL (labN b i.toNat) else []
theorem nmE_ok {b:Bk}{i:Int}(h:nmE b i=0):BkOk b∧0≤i∧i.toNat<b.items.length:=by
 unfold nmE at h
 by_cases h1:bkE b=0
 ·rw [if_neg (by simp [h1])] at h
  cases h2:inB i 0 ((b.items.length:Int)-1) with
  | false=>rw [h2] at h;cases h
  | true=>have:=inB_true.1 h2;exact ⟨BkOk.of h1,this.1,by omega⟩
 ·rw [if_pos h1] at h;exact absurd h h1
def anyTo (p:Nat→Bool):Nat→Bool
 | 0=>false
 | k+1=>anyTo p k || p k
theorem anyTo_iff (p:Nat→Bool)(k:Nat):anyTo p k=true ↔ ∃i,i<k∧p i=true:=by
 induction k with
 | zero=>simp [anyTo]
 | succ k ih =>
  simp only [anyTo,Bool.or_eq_true,ih]
  constructor
  ·rintro (⟨i,hi,h⟩ | h)
   ·exact ⟨i,by omega,h⟩
   ·exact ⟨k,by omega,h⟩
  ·rintro ⟨i,hi,h⟩
   by_cases e:i=k
   ·subst e;exact .inr h
   ·exact .inl ⟨i,by omega,h⟩
theorem anyTo_yes {p:Nat→Bool}{k n:Nat}(h:p k=true)(hn:k<n):anyTo p n=true:=(anyTo_iff p n).2 ⟨k,hn,h⟩
theorem anyTo_false (p:Nat→Bool)(n:Nat):anyTo p n=false ↔ ∀i,i<n→p i=false:=by
 constructor
 ·intro h i hi
  cases hp:p i with
  | false=>rfl
  | true=>rw [anyTo_yes hp hi] at h;cases h
 ·intro h
  cases hs:anyTo p n with
  | false=>rfl
  | true=>obtain ⟨i,hi,hp⟩:=(anyTo_iff p n).1 hs;rw [h i hi] at hp;cases hp
def wAt:Wd:=[97,116]
def wDish:Wd:=[100,105,115,104]
def wChild:Wd:=[99,104,105,108,100]
def wOrder:Wd:=[111,114,100,101,114]
def wCancel:Wd:=[99,97,110,99,101,108]
def wFree:Wd:=[102,114,101,101]
def wCook:Wd:=[99,111,111,107]
def wEat:Wd:=[101,97,116]
structure Fm where
 kind:Int
 name:Bool
 nums:Int
 many:Bool
def fmOf (w:Wd):Option Fm :=
 if w=wAt then some ⟨0,false,1,false⟩ else if w=wDish then some ⟨1,true,1,false⟩ else if w=wChild then some ⟨2,false,1,true⟩ else
 if w=wOrder then some ⟨3,false,3,false⟩ else if w=wCancel then some ⟨4,false,3,false⟩ else if w=wFree then some ⟨5,false,3,false⟩ else
 if w=wCook then some ⟨6,false,2,false⟩ else if w=wEat then some ⟨7,false,2,false⟩ else none
def digB (b:UInt8):Bool:=decide (48≤b.toNat∧b.toNat≤57)
def lowB (b:UInt8):Bool:=decide (97≤b.toNat∧b.toNat≤122)
def gb (w:Wd)(k:Nat):UInt8:=w.getD k 0
/-- The number that the first k bytes tell. -/
def numTo' (w:Wd):Nat→Nat
 | 0=>0
 | k+1=>10*numTo' w k+((gb w k).toNat-48)
def digTo (w:Wd):Nat→Bool
 | 0=>true
 | k+1=>digTo w k && digB (gb w k)
def formB (w:Wd):Bool:=decide (1≤w.length∧w.length≤7∧(w.length=1∨gb w 0≠48))
def numOk (w:Wd):Bool:=formB w && (digTo w w.length && decide (numTo' w w.length≤2000000))
/-- What the program's and the document's 'number' hand back. -/
def numV (w:Wd):Int:=if formB w && digTo w w.length then numTo' w w.length else 0
def letTo (w:Wd):Nat→Bool
 | 0=>true
 | k+1=>letTo w k && (lowB (gb w k) || digB (gb w k))
def letB (w:Wd):Bool:=letTo w w.length && decide (w≠[])
def numsTo (ws:List Wd):Nat→Bool
 | 0=>true
 | k+1=>numsTo ws k && numOk (ws.getD k [])
structure Rq where
 kind:Int
 name:Wd
 nums:List Int
def fitB (f:Fm)(n:Nat):Bool:=decide ((n:Int)=f.nums∨f.nums<n∧f.many=true)
def rqN (f:Fm)(name:Wd)(ws:List Wd):Option Rq:=if fitB f ws.length && numsTo ws ws.length then some ⟨f.kind,name,ws.map numV⟩ else none
def hd (ws:List Wd):Wd:=ws.getD 0 []
def prs (s:Wd):Option Rq :=
 match fmOf (hd (wds s)) with
 | none=>none
 | some f=>if 60<s.length then none else
  if f.name then (if (wds s).tail=[] then none else if letB (hd (wds s).tail) then rqN f (hd (wds s).tail) (wds s).tail.tail else none) else rqN f [] (wds s).tail
structure Dh where
 name:Wd
 item:Int
structure Kd where
 num:Int
 avoid:List Int
structure Of where
 tm:Tm
 cy:Cy
 bk:Bk
 now:Int
 dishes:List Dh
 kids:List Kd
 facts:List Fact
 rights:List Sp
 cooked:Int→Option Int
 eaten:Int→Option Int
 orders:List Wd
def gd (l:List Dh)(k:Nat):Dh:=l.getD k ⟨[],0⟩
def gk (l:List Kd)(k:Nat):Kd:=l.getD k ⟨0,[]⟩
def new0 (t:Tm)(c:Cy)(b:Bk):Of:=⟨t,c,b,0,[],[],[],[],fun _=>none,fun _=>none,[]⟩
def newE (t:Tm)(c:Cy)(b:Bk):Int:=if tE t≠0 then tE t else if cE c≠0 then cE c else bkE b
/-- The days of the term. -/
def Of.days (o:Of):Nat:=o.tm.len.toNat
def Of.menu (o:Of)(d:Nat):Int:=mnAt o.tm o.cy d
def Of.opn (o:Of)(d:Int):Bool:=decide (0≤d∧d<o.days∧0≤o.menu d.toNat)
/-- The place of a child;the number of children if there is none. -/
def kidTo (l:List Kd)(n:Int):Nat→Bool:=anyTo fun i=>(gk l i).num == n
def hasK (l:List Kd)(n:Int):Bool:=kidTo l n l.length
def eatB (o:Of)(c d:Int):Bool:=knownR o.facts o.now c d == 1
def harmB (b:Bk)(item:Int)(av:List Int):Bool:=anyTo (fun i=>hasB (labR b item) (gi av i)) av.length
def dishB (l:List Dh)(name:Wd):Bool:=anyTo (fun i=>decide ((gd l i).name=name)) l.length
def nameB (o:Of)(name:Wd):Bool:=decide (name.length≤8∧97≤(gb name 0).toNat) && !dishB o.dishes name
def hurtB (o:Of)(item:Int)(k:Nat):Bool:=harmB o.bk item (gk o.kids k).avoid && anyTo (fun d=>o.menu d == (o.dishes.length:Int) && eatB o (gk o.kids k).num d) o.days
def serE (o:Of)(name:Wd)(item:Int):Int :=
 if o.cy.n≤o.dishes.length then 12 else if nameB o name=false then 2 else if (o.bk.items.length:Int)≤item then 5 else if anyTo (hurtB o item) o.kids.length then 14 else 0
def metE (o:Of)(n:Int)(av:List Int):Int:=if 99<n then 1 else if isSet av o.bk.props=false then 1 else if hasK o.kids n then 6 else 0
def insK (l:List Kd)(c:Kd):List Kd:=l.takeWhile (fun x=>decide (x.num≤c.num)) ++ c :: l.dropWhile (fun x=>decide (x.num≤c.num))
def kidOf (l:List Kd)(n:Int):Kd:=(l.find? fun x=>x.num == n).getD ⟨0,[]⟩
/-- The dish of a day harms a child. -/
def dayHarm (o:Of)(av:List Int)(d:Nat):Bool:=decide (0≤o.menu d∧o.menu d<o.dishes.length) && harmB o.bk (gd o.dishes (o.menu d).toNat).item av
def ordHarm (o:Of)(av:List Int)(f t:Int):Bool:=anyTo (fun d=>decide (f≤d∧(d:Int)<t) && dayHarm o av d) o.days
def chgF (o:Of)(n:List Int)(meal:Int):Fact:=⟨o.now,gi n 0,gi n 1,gi n 2,meal⟩
def chgE (o:Of)(n:List Int)(meal:Int):Int :=
 if hasK o.kids (gi n 0)=false then 5 else if meal=1∧ordHarm o (kidOf o.kids (gi n 0)).avoid (gi n 1) (gi n 2)=true then 14 else addE o.facts (chgF o n meal)
def freR (o:Of)(n:List Int):List Sp:=o.rights ++ [⟨gi n 0,gi n 1,gi n 2⟩]
def freE (o:Of)(n:List Int):Int:=if hasK o.kids (gi n 0)=false then 5 else vrt (freR o n)
def cokE (o:Of)(d n:Int):Int:=if o.opn d=false then 13 else if (o.cooked d).isSome then 12 else if 100000<n then 4 else 0
def eteE (o:Of)(d n:Int):Int:=if o.opn d=false then 13 else if (o.cooked d).isNone∨(o.eaten d).isSome then 12 else if (o.cooked d).getD 0<n then 11 else 0
def updF (f:Int→Option Int)(d n:Int):Int→Option Int:=fun x=>if x=d then some n else f x
def exE (o:Of)(r:Rq):Int :=
 if r.kind=0 then (if gi r.nums 0<o.now then 7 else if 1440000<gi r.nums 0 then 4 else 0) else
 if r.kind=1 then serE o r.name (gi r.nums 0) else if r.kind=2 then metE o (gi r.nums 0) r.nums.tail else
 if r.kind=3 then chgE o r.nums 1 else if r.kind=4 then chgE o r.nums 0 else if r.kind=5 then freE o r.nums else
 if r.kind=6 then cokE o (gi r.nums 0) (gi r.nums 1) else eteE o (gi r.nums 0) (gi r.nums 1)
def exS (o:Of)(r:Rq):Of :=
 if r.kind=0 then { o with now:=gi r.nums 0 } else
 if r.kind=1 then { o with dishes:=o.dishes ++ [⟨r.name,gi r.nums 0⟩] } else
 if r.kind=2 then { o with kids:=insK o.kids ⟨gi r.nums 0,r.nums.tail⟩ } else
 if r.kind=3 then { o with facts:=o.facts ++ [chgF o r.nums 1] } else
 if r.kind=4 then { o with facts:=o.facts ++ [chgF o r.nums 0] } else
 if r.kind=5 then { o with rights:=freR o r.nums } else
 if r.kind=6 then { o with cooked:=updF o.cooked (gi r.nums 0) (gi r.nums 1) } else { o with eaten:=updF o.eaten (gi r.nums 0) (gi r.nums 1) }
def doE (o:Of)(s:Wd):Int:=match prs s with
 | none=>3
 | some r=>if 200≤o.orders.length then 4 else exE o r
def doS (o:Of)(s:Wd):Of:=if doE o s=0 then (match prs s with
 | none=>o
 | some r=>{ exS o r with orders:=o.orders ++ [s] }) else o
def dayE (o:Of)(d:Int):Int:=if inB d 0 ((o.days:Int)-1) then (if o.opn d then 0 else 13) else 1
def porTo (o:Of)(d:Int)(k:Nat):Nat:=cnt (fun i=>eatB o (gk o.kids i).num d) k
def porR (o:Of)(d:Int):Int:=if dayE o d=0 then porTo o d o.kids.length else 0
def svdE (o:Of)(d:Int):Int:=if dayE o d≠0 then dayE o d else if (o.eaten d).isNone then 12 else 0
def ckd (o:Of)(d:Int):Int:=if svdE o d=0 then (o.cooked d).getD 0 else 0
def etn (o:Of)(d:Int):Int:=if svdE o d=0 then (o.eaten d).getD 0 else 0
def wst (o:Of)(d:Int):Int:=ckd o d-etn o d
def mis (o:Of)(d:Int):Int:=if svdE o d=0 then max 0 (porR o d-ckd o d) else 0
def dshOf (l:List Dh)(name:Wd):Dh:=(l.find? fun x=>decide (x.name=name)).getD ⟨[],0⟩
def prices:List Int:=[100,0,0,0,0,0,0,0,0]
def dueTo (o:Of)(c:Int):Nat→Int
 | 0=>0
 | k+1=>dueTo o c k+if o.opn k then payI o.facts o.rights prices 1440 c k else 0
def dueE (o:Of)(c:Int):Int:=if hasK o.kids c then 0 else 5
def dueR (o:Of)(c:Int):Int:=if hasK o.kids c then dueTo o c o.days else 0
def bokTo (l:List Wd):Nat→List UInt8
 | 0=>[]
 | k+1=>bokTo l k ++ (l.getD k [] ++ [10])
def bok (o:Of):List UInt8:=bokTo o.orders o.orders.length
end Go.Proofs.YtiapkffihpgdcaaGreatDoor
namespace Go.Proofs.YtiapkffihpgdcaaGreatDoor
open Go.RowKit
/-- n pairs of cells,one behind the other. -/
def cells2 (n:Nat)(f g:Nat→Value):List Value:=(List.range n).flatMap fun k=>[f k,g k]
theorem cells2_succ (n:Nat)(f g:Nat→Value):cells2 (n+1) f g=cells2 n f g ++ [f n,g n]:=by simp [cells2,List.range_succ]
theorem cells2_length (n:Nat)(f g:Nat→Value):(cells2 n f g).length=n*2:=by
 induction n with
 | zero=>rfl
 | succ n ih=>rw [cells2_succ,List.length_append,ih];simp;omega
theorem cells2_at (n:Nat)(f g:Nat→Value):∀k,k<n→(cells2 n f g)[k*2]? = some (f k)∧(cells2 n f g)[k*2+1]? = some (g k):=by
 induction n with
 | zero=>intro k hk;omega
 | succ n ih =>
  intro k hk
  rw [cells2_succ]
  by_cases e:k=n
  ·subst e
   have hl:=cells2_length k f g
   rw [List.getElem?_append_right (by omega),List.getElem?_append_right (by omega),hl]
   simp
  ·have hl:=cells2_length n f g
   rw [List.getElem?_append_left (by omega),List.getElem?_append_left (by omega)]
   exact ih k (by omega)
theorem cells2_congr {n:Nat}{f g f' g':Nat→Value}(h1:∀k,k<n→f k=f' k)(h2:∀k,k<n→g k=g' k):cells2 n f g=cells2 n f' g':=by
 induction n with
 | zero=>rfl
 | succ n ih=>rw [cells2_succ,cells2_succ,ih (fun k hk=>h1 k (by omega)) (fun k hk=>h2 k (by omega)),h1 n (by omega),h2 n (by omega)]
theorem cells2_set1 {n:Nat}{f g:Nat→Value}(k:Nat)(hk:k<n)(v:Value):(cells2 n f g).set (k*2) v=cells2 n (fun i=>if i=k then v else f i) g:=by
 induction n with
 | zero=>omega
 | succ n ih =>
  rw [cells2_succ,cells2_succ]
  have hl:=cells2_length n f g
  by_cases e:k=n
  ·subst e
   rw [List.set_append_right _ _ (by omega),hl]
   rw [cells2_congr (f:=fun i=>if i=k then v else f i) (f':=f) (g':=g) (fun i hi=>by simp;intro h;omega) (fun _ _=>rfl)]
   simp
  ·rw [List.set_append_left _ _ (by omega),ih (by omega)]
   simp [Ne.symm e]
theorem cells2_set2 {n:Nat}{f g:Nat→Value}(k:Nat)(hk:k<n)(v:Value):(cells2 n f g).set (k*2+1) v=cells2 n f (fun i=>if i=k then v else g i):=by
 induction n with
 | zero=>omega
 | succ n ih =>
  rw [cells2_succ,cells2_succ]
  have hl:=cells2_length n f g
  by_cases e:k=n
  ·subst e
   rw [List.set_append_right _ _ (by omega),hl]
   rw [cells2_congr (g:=fun i=>if i=k then v else g i) (g':=g) (f':=f) (fun _ _=>rfl) (fun i hi=>by simp;intro h;omega)]
   simp
  ·rw [List.set_append_left _ _ (by omega),ih (by omega)]
   simp [Ne.symm e]
/-- The slice (A,n) reads as n pairs. -/
def R2 (F:Nat→Prop)(w:World)(A:Option Addr)(n:Nat)(f g:Nat→Value):Prop:=ReadsF F w 2 A n (cells2 n f g)
section
variable {F F':Nat→Prop}{w w':World}{A:Option Addr}{n:Nat}{f g:Nat→Value}
theorem R2.below (h:R2 F w A n f g)(hb:Below w.heap.size w w'):R2 F w' A n f g:=ReadsF.below h hb
theorem R2.mono (h:R2 F w A n f g)(hF:∀k,F k→F' k):R2 F' w A n f g:=ReadsF.mono h hF
theorem R2.at_ (h:R2 F w A n f g){k:Nat}(hk:k<n):∃ad,A=some ad∧(ad.add (k*2)).block<w.heap.size∧F ad.block∧w.cell? (ad.add (k*2))=some (f k) ∧
  w.cell? ⟨(ad.add (k*2)).block,(ad.add (k*2)).off+1,none⟩=some (g k):=by
 obtain ⟨ad,e,hb,hc⟩:=h.1.2 (by omega)
 have hs:=fun j=>addr_succ ad (k*2) j
 obtain ⟨c0,c1⟩:=cells2_at n f g k hk
 exact ⟨ad,e,by rw [block_of_add];exact hb,h.2 ad e (by omega),hc _ _ c0,(hs 0) ▸ hc _ _ c1⟩
theorem R2.nil (F:Nat→Prop)(w:World)(A:Option Addr)(f g:Nat→Value):R2 F w A 0 f g:=⟨⟨rfl,fun h=>by omega⟩,fun _ _ h=>by omega⟩
end
/-- The slice (A,n) reads as the numbers l,in F. -/
def RNF (F:Nat→Prop)(w:World)(A:Option Addr)(l:List Int):Prop:=ReadsF F w 1 A l.length (ints l)
section
variable {F F':Nat→Prop}{w w':World}{A:Option Addr}{l:List Int}
theorem RNF.rn (h:RNF F w A l):RN w A l:=h.1
theorem RNF.below (h:RNF F w A l)(hb:Below w.heap.size w w'):RNF F w' A l:=ReadsF.below h hb
theorem RNF.mono (h:RNF F w A l)(hF:∀k,F k→F' k):RNF F' w A l:=ReadsF.mono h hF
theorem RNF.at_ (h:RNF F w A l){k:Nat}(hk:k<l.length):∃ad,A=some ad∧(ad.add k).block<w.heap.size∧w.cell? (ad.add k)=some (.int .i64 (gi l k)):=RN.at_ h.rn hk
end
abbrev SlH:=Option Addr × Nat
def slV (h:SlH)(l:List Int):Value:=.slice h.1 l.length h.2
/-- Items. -/
structure RIt (F:Nat→Prop) (w:World) (A:Option Addr) (l:List It) (hp hq:Nat→SlH):Prop where
 row:R2 F w A l.length (fun k=>slV (hp k) (gIt l k).parts) (fun k=>slV (hq k) (gIt l k).has)
 parts:∀k,k<l.length→RNF F w (hp k).1 (gIt l k).parts
 has:∀k,k<l.length→RNF F w (hq k).1 (gIt l k).has
/-- Rules. -/
structure RRl (F:Nat→Prop) (w:World) (A:Option Addr) (l:List Rl) (hp:Nat→SlH):Prop where
 row:R2 F w A l.length (fun k=>slV (hp k) (gRl l k).iff) (fun k=>.int .i64 (gRl l k).thn)
 iff:∀k,k<l.length→RNF F w (hp k).1 (gRl l k).iff
/-- Dishes. -/
def RDh (F:Nat→Prop)(w:World)(A:Option Addr)(l:List Dh):Prop:=R2 F w A l.length (fun k=>St (gd l k).name) (fun k=>.int .i64 (gd l k).item)
section
variable {F F':Nat→Prop}{w w':World}{A:Option Addr}
theorem RIt.below {l:List It}{hp hq:Nat→SlH}(h:RIt F w A l hp hq)(hb:Below w.heap.size w w'):RIt F w' A l hp hq:=⟨h.row.below hb,fun k hk=>(h.parts k hk).below hb,fun k hk=>(h.has k hk).below hb⟩
theorem RIt.mono {l:List It}{hp hq:Nat→SlH}(h:RIt F w A l hp hq)(hF:∀k,F k→F' k):RIt F' w A l hp hq:=⟨h.row.mono hF,fun k hk=>(h.parts k hk).mono hF,fun k hk=>(h.has k hk).mono hF⟩
theorem RRl.below {l:List Rl}{hp:Nat→SlH}(h:RRl F w A l hp)(hb:Below w.heap.size w w'):RRl F w' A l hp:=⟨h.row.below hb,fun k hk=>(h.iff k hk).below hb⟩
theorem RRl.mono {l:List Rl}{hp:Nat→SlH}(h:RRl F w A l hp)(hF:∀k,F k→F' k):RRl F' w A l hp:=⟨h.row.mono hF,fun k hk=>(h.iff k hk).mono hF⟩
end
/-- A book of dishes by value. -/
structure RBk (F:Nat→Prop) (w:World) (A1 A2:Option Addr) (b:Bk) (hp hq hr:Nat→SlH):Prop where
 it:RIt F w A1 b.items hp hq
 rl:RRl F w A2 b.rules hr
section
variable {F F':Nat→Prop}{w w':World}{A1 A2:Option Addr}{b:Bk}{hp hq hr:Nat→SlH}
theorem RBk.below (h:RBk F w A1 A2 b hp hq hr)(hb:Below w.heap.size w w'):RBk F w' A1 A2 b hp hq hr:=⟨h.it.below hb,h.rl.below hb⟩
theorem RBk.mono (h:RBk F w A1 A2 b hp hq hr)(hF:∀k,F k→F' k):RBk F' w A1 A2 b hp hq hr:=⟨h.it.mono hF,h.rl.mono hF⟩
end
theorem RIt.at_ {F:Nat→Prop}{w:World}{A:Option Addr}{l:List It}{hp hq:Nat→SlH}(h:RIt F w A l hp hq){k:Nat}(hk:k<l.length):∃ad,A=some ad∧(ad.add (k*2)).block<w.heap.size ∧
  w.cell? (ad.add (k*2))=some (.slice (hp k).1 (gIt l k).parts.length (hp k).2)∧w.cell? ⟨(ad.add (k*2)).block,(ad.add (k*2)).off+1,none⟩=some (.slice (hq k).1 (gIt l k).has.length (hq k).2):=by
 obtain ⟨ad,e,hb,_,c0,c1⟩:=h.row.at_ hk
 exact ⟨ad,e,hb,c0,c1⟩
theorem RRl.at_ {F:Nat→Prop}{w:World}{A:Option Addr}{l:List Rl}{hp:Nat→SlH}(h:RRl F w A l hp){k:Nat}(hk:k<l.length):∃ad,A=some ad∧(ad.add (k*2)).block<w.heap.size ∧
  w.cell? (ad.add (k*2))=some (.slice (hp k).1 (gRl l k).iff.length (hp k).2)∧w.cell? ⟨(ad.add (k*2)).block,(ad.add (k*2)).off+1,none⟩=some (.int .i64 (gRl l k).thn):=by
 obtain ⟨ad,e,hb,_,c0,c1⟩:=h.row.at_ hk
 exact ⟨ad,e,hb,c0,c1⟩
theorem RDh.at_ {F:Nat→Prop}{w:World}{A:Option Addr}{l:List Dh}(h:RDh F w A l){k:Nat}(hk:k<l.length):∃ad,A=some ad∧(ad.add (k*2)).block<w.heap.size ∧
  w.cell? (ad.add (k*2))=some (St (gd l k).name)∧w.cell? ⟨(ad.add (k*2)).block,(ad.add (k*2)).off+1,none⟩=some (.int .i64 (gd l k).item):=by
 obtain ⟨ad,e,hb,_,c0,c1⟩:=R2.at_ h hk
 exact ⟨ad,e,hb,c0,c1⟩
end Go.Proofs.YtiapkffihpgdcaaGreatDoor
namespace Go.Proofs.YtiapkffihpgdcaaGreatDoor
def asc (l:List Int):Prop:=l.Pairwise (· < ·)
def sortI (l:List Int):List Int:=l.mergeSort fun x y=>decide (x≤y)
def srtd (l:List Int):List Int:=Lib.compact (sortI l)
theorem sortI_pw (l:List Int):(sortI l).Pairwise (· ≤ ·):=by
 have:=List.pairwise_mergeSort (le:=fun (x y:Int)=>decide (x≤y)) (fun a b c h1 h2=>by simp at *;omega) (fun a b=>by simp;omega) l
 unfold sortI
 exact this.imp fun h=>by simpa using h
theorem bang_gi (l:List Int){j:Nat}(h:j<l.length):l.toArray[j]! = gi l j:=by
 rw [getElem!_pos _ j (by simpa using h)]
 simp [gi,h]
theorem comp_asc {l:List Int}(hl:l.Pairwise (· ≤ ·)):∀m,m≤l.length→asc (Lib.compactUpTo l.toArray m)∧(∀x ∈ Lib.compactUpTo l.toArray m,∃j,j<m∧x=gi l j)∧(∀j,j<m→gi l j ∈ Lib.compactUpTo l.toArray m)
 | 0,_=>by simp [Lib.compactUpTo,asc]
 | m+1,hm=>by
  obtain ⟨h1,h2,h3⟩:=comp_asc hl m (by omega)
  have mono:∀i j,i≤j→j<l.length→gi l i≤gi l j:=fun i j hij hj=>by
   by_cases e:i=j
   ·subst e;exact Int.le_refl _
   ·have:=List.pairwise_iff_getElem.1 hl i j (by omega) hj (by omega)
    rw [← gi_getElem l i (by omega),← gi_getElem l j hj];exact this
  rw [Lib.compactUpTo_succ]
  cases hk:Lib.keeps l.toArray m with
  | true =>
   simp only [if_true]
   rw [bang_gi l (by omega)]
   refine ⟨?_,fun x hx=>?_,fun j hj=>?_⟩
   ·unfold asc
    rw [List.pairwise_append]
    refine ⟨h1,List.pairwise_singleton _ _,fun x hx y hy=>?_⟩
    rw [List.mem_singleton.1 hy]
    obtain ⟨j,hj,rfl⟩:=h2 x hx
    have a:=mono j (m-1) (by omega) (by omega)
    have b:=mono (m-1) m (by omega) (by omega)
    have hne:gi l m≠gi l (m-1):=by
     unfold Lib.keeps at hk
     rw [decide_eq_true_eq] at hk
     rcases hk with e | e
     ·omega
     ·rw [bang_gi l (by omega),bang_gi l (by omega)] at e;exact e
    omega
   ·rcases List.mem_append.1 hx with hx | hx
    ·obtain ⟨j,hj,e⟩:=h2 x hx;exact ⟨j,by omega,e⟩
    ·rw [List.mem_singleton.1 hx];exact ⟨m,by omega,rfl⟩
   ·by_cases e:j=m
    ·subst e;simp
    ·exact List.mem_append_left _ (h3 j (by omega))
  | false =>
   simp only [Bool.false_eq_true,if_false,List.append_nil]
   refine ⟨h1,fun x hx=>by obtain ⟨j,hj,e⟩:=h2 x hx;exact ⟨j,by omega,e⟩,fun j hj=>?_⟩
   by_cases e:j=m
   ·subst e
    unfold Lib.keeps at hk
    rw [decide_eq_false_iff_not] at hk
    have h0:j≠0:=fun e=>hk (.inl e)
    have:gi l j=gi l (j-1):=by
     have:¬ l.toArray[j]! ≠ l.toArray[j-1]!:=fun e=>hk (.inr e)
     rw [bang_gi l (by omega),bang_gi l (by omega)] at this
     omega
    rw [this]
    exact h3 (j-1) (by omega)
   ·exact h3 j (by omega)
theorem srtd_asc (l:List Int):asc (srtd l):=by
 have:=(comp_asc (sortI_pw l) (sortI l).length (Nat.le_refl _)).1
 unfold srtd Lib.compact
 exact this
theorem asc_srtd {l:List Int}(h:asc l):srtd l=l:=by
 have hs:sortI l=l:=by
  unfold sortI
  apply List.mergeSort_of_pairwise
  exact h.imp fun h=>by simp;omega
 unfold srtd
 rw [hs]
 apply Lib.compact_all
 intro j hj
 unfold Lib.keeps
 rw [decide_eq_true_eq]
 by_cases e:j=0
 ·exact .inl e
 ·right
  rw [bang_gi l hj,bang_gi l (by omega)]
  have:=List.pairwise_iff_getElem.1 h (j-1) j (by omega) hj (by omega)
  rw [gi_getElem l _ (by omega),gi_getElem l _ hj] at this
  omega
theorem srtd_eq (l:List Int):l=srtd l ↔ asc l:=⟨fun h=>by rw [h];exact srtd_asc l,fun h=>(asc_srtd h).symm⟩
/-- What the program asks of a set. -/
def setQ (l:List Int)(n:Int):Bool:=decide (l=srtd l) && (decide (l.length=0) || (decide (0≤gi l 0) && decide (gi l (l.length-1)<n)))
theorem asc_lt {l:List Int}(h:asc l){i j:Nat}(hij:i<j)(hj:j<l.length):gi l i<gi l j:=by
 have:=List.pairwise_iff_getElem.1 h i j (by omega) hj hij
 rw [gi_getElem l _ (by omega),gi_getElem l _ hj] at this
 exact this
theorem setQ_is (l:List Int)(n:Int):setQ l n=isSet l n:=by
 rw [Bool.eq_iff_iff]
 unfold setQ isSet
 rw [Bool.and_eq_true,decide_eq_true_eq,srtd_eq,setTo_iff]
 constructor
 ·rintro ⟨h1,h2⟩ i hi
  rw [Bool.or_eq_true,Bool.and_eq_true,decide_eq_true_eq,decide_eq_true_eq,decide_eq_true_eq] at h2
  rcases h2 with h2 | ⟨h2,h3⟩
  ·omega
  rw [setOk_iff]
  refine ⟨?_,?_,?_⟩
  ·by_cases e:i=0
   ·subst e;exact h2
   ·have:=asc_lt h1 (show 0<i by omega) hi;omega
  ·by_cases e:i=l.length-1
   ·rw [e];exact h3
   ·have:=asc_lt h1 (show i<l.length-1 by omega) (by omega);omega
  ·by_cases e:i=0
   ·exact .inl e
   ·exact .inr (asc_lt h1 (show i-1<i by omega) hi)
 ·intro h
  have hset:isSet l n=true:=(setTo_iff _ _ _).2 h
  refine ⟨?_,?_⟩
  ·unfold asc
   rw [List.pairwise_iff_getElem]
   intro i j hi hj hij
   rw [gi_getElem l _ hi,gi_getElem l _ hj]
   exact isSet_lt hset i j hij hj
  ·by_cases e:l.length=0
   ·rw [decide_eq_true e];rfl
   ·have a:=isSet_at hset (k:=0) (by omega)
    have b:=isSet_at hset (k:=l.length-1) (by omega)
    rw [Bool.or_eq_true,Bool.and_eq_true,decide_eq_true_eq,decide_eq_true_eq,decide_eq_true_eq]
    exact .inr ⟨a.1,b.2⟩
end Go.Proofs.YtiapkffihpgdcaaGreatDoor
namespace Go.Proofs.YtiapkffihpgdcaaGreatDoor
open Go.RowKit
theorem i64_id (n:Int)(h0:0≤n)(h1:n<2 ^ 62):IntKind.i64.wrap n=n:=IntWalk.i64_in _ (by omega)
theorem or_nat (a b:Nat)(ha:a<2 ^ 62)(hb:b<2 ^ 62):bits .or .i64 (a:Int) (b:Int)=((a ||| b:Nat):Int):=(bits_nat .i64 62 (by decide) i64_id a b ha hb).2
theorem and_nat (a b:Nat)(ha:a<2 ^ 62)(hb:b<2 ^ 62):bits .and .i64 (a:Int) (b:Int)=((a &&& b:Nat):Int):=(bits_nat .i64 62 (by decide) i64_id a b ha hb).1
theorem bit_lt {x:Int}(h1:x<20):bit x<2 ^ 20:=by unfold bit;rw [Nat.shiftLeft_eq,Nat.one_mul];exact Nat.pow_lt_pow_right (by omega) (by omega)
theorem shl_one {x:Int}(h0:0≤x)(h1:x<20):wrap64 ((2:Int) ^ x.toNat)=(bit x:Int):=by
 have hb:=bit_lt h1
 have e:(2:Int) ^ x.toNat=(bit x:Int):=by unfold bit;rw [Nat.shiftLeft_eq,Nat.one_mul];simp
 rw [e]
 unfold wrap64
 omega
theorem shl_nat {i:Nat}(h1:i<20):wrap64 ((2:Int) ^ i)=((1 <<< i:Nat):Int):=by
 have:=shl_one (x:=i) (by omega) (by omega)
 unfold bit at this
 simpa using this
theorem or_bit {m:Nat}{x:Int}(hm:m<2 ^ 20)(h0:0≤x)(h1:x<20):bits .or .i64 (m:Int) (wrap64 ((2:Int) ^ x.toNat))=((m ||| bit x:Nat):Int):=by
 have hb:=bit_lt h1
 rw [shl_one h0 h1,or_nat _ _ (by omega) (by omega)]
theorem or_mask {m n:Nat}(hm:m<2 ^ 20)(hn:n<2 ^ 20):bits .or .i64 (m:Int) (n:Int)=((m ||| n:Nat):Int):=or_nat _ _ (by omega) (by omega)
theorem and_one {m:Nat}(k:Nat)(hm:m<2 ^ 20):bits .and .i64 ((m:Int) / 2 ^ k) 1=if m.testBit k then 1 else 0:=by
 have e:(m:Int) / 2 ^ k=((m / 2 ^ k:Nat):Int):=by simp
 have hle:m / 2 ^ k≤m:=Nat.div_le_self _ _
 have h:=and_nat (m / 2 ^ k) 1 (by omega) (by omega)
 rw [e]
 have h1:((1:Nat):Int)=1:=rfl
 rw [h1] at h
 rw [h,Nat.and_one_is_mod,Nat.testBit_eq_decide_div_mod_eq]
 by_cases q:m / 2 ^ k % 2=1
 ·simp [q]
 ·have:m / 2 ^ k % 2=0:=by omega
  simp [this]
theorem test_bit {m:Nat}(k:Nat)(hm:m<2 ^ 20):(bits .and .i64 ((m:Int) / 2 ^ k) 1 == 1)=m.testBit k:=by
 rw [and_one k hm]
 cases m.testBit k <;> simp
theorem test_not {m:Nat}(k:Nat)(hm:m<2 ^ 20):(bits .and .i64 ((m:Int) / 2 ^ k) 1 == 0) = !m.testBit k:=by
 rw [and_one k hm]
 cases m.testBit k <;> simp
theorem test_all (k:Nat):(bits .and .i64 ((-1:Int) / 2 ^ k) 1 == 1)=true:=by
 have e:(-1:Int) / 2 ^ k = -1:=by
  have hp:(0:Int)<2 ^ k:=by
   have:(0:Nat)<2 ^ k:=Nat.two_pow_pos k
   exact_mod_cast this
  rw [Int.ediv_eq_iff_of_pos hp]
  constructor <;> omega
 rw [e];rfl
/-- The number without its lowest bit. -/
def lowOff (m:Nat):Nat:=m &&& (m-1)
def lowB1 (m:Nat):Nat:=Lib.ctz 64 m
theorem low_facts {m:Nat}(h0:m≠0)(hm:m<2 ^ 20):∃q:Nat,m=2 ^ lowB1 m*(2*q+1)∧lowB1 m<20:=by
 unfold lowB1 Lib.ctz
 rw [if_neg h0]
 obtain ⟨q,h1,h2⟩:=Lib.ctzFrom_spec 64 m (by omega) (by omega)
 refine ⟨q,h1,?_⟩
 have hle:2 ^ Lib.ctzFrom 64 m≤m:=by
  have:2 ^ Lib.ctzFrom 64 m*1≤2 ^ Lib.ctzFrom 64 m*(2*q+1):=Nat.mul_le_mul_left _ (by omega)
  omega
 by_cases hh:Lib.ctzFrom 64 m<20
 ·exact hh
 ·have:2 ^ 20≤2 ^ Lib.ctzFrom 64 m:=Nat.pow_le_pow_right (by omega) (by omega)
  omega
theorem low_test {m:Nat}(h0:m≠0)(hm:m<2 ^ 20)(j:Nat):m.testBit j=(decide (lowB1 m≤j) && (decide (j=lowB1 m) || (lowOff m).testBit j))∧(lowOff m).testBit j=(m.testBit j && decide (lowB1 m<j)):=by
 obtain ⟨q,h1,h2⟩:=low_facts h0 hm
 generalize lowB1 m=z at *
 have e1:m=2 ^ (z+1)*q+2 ^ z:=by rw [Nat.pow_succ];rw [h1];rw [Nat.mul_add,Nat.mul_one,Nat.mul_assoc]
 have hp:0<2 ^ z:=Nat.two_pow_pos z
 have e2:m-1=2 ^ (z+1)*q+(2 ^ z-1):=by omega
 have t1:m.testBit j=if j<z+1 then (2 ^ z).testBit j else q.testBit (j-(z+1)):=by
  rw [e1];exact Nat.testBit_two_pow_mul_add q (by rw [Nat.pow_succ];omega) j
 have t2:(m-1).testBit j=if j<z+1 then (2 ^ z-1).testBit j else q.testBit (j-(z+1)):=by
  rw [e2];exact Nat.testBit_two_pow_mul_add q (by rw [Nat.pow_succ];omega) j
 unfold lowOff
 rw [Nat.testBit_and,t1,t2]
 by_cases hj:j<z+1
 ·simp only [if_pos hj,Nat.testBit_two_pow,Nat.testBit_two_pow_sub_one]
  by_cases e:j=z
  ·subst e;simp
  ·have:j<z:=by omega
   simp [this,show ¬ z=j by omega,show ¬ z≤j by omega]
 ·simp only [if_neg hj,Bool.and_self]
  have h3:z≤j:=by omega
  have h4:¬ j=z:=by omega
  have h5:z<j:=by omega
  simp [h3,h4,h5]
theorem lowOff_lt {m n:Nat}(h:m<n):lowOff m<n:=Nat.lt_of_le_of_lt Nat.and_le_left h
theorem bits_low {m:Nat}(h0:m≠0)(hm:m<2 ^ 20):bitsL m=(lowB1 m:Int) :: bitsL (lowOff m):=by
 obtain ⟨_,_,hz⟩:=low_facts h0 hm
 have key:∀n,bitsTo m n=if n≤lowB1 m then [] else (lowB1 m:Int) :: bitsTo (lowOff m) n:=by
  intro n
  induction n with
  | zero=>simp [bitsTo]
  | succ n ih =>
   obtain ⟨t1,t2⟩:=low_test h0 hm n
   simp only [bitsTo]
   rw [ih]
   by_cases c1:n<lowB1 m
   ·have hb:m.testBit n=false:=by rw [t1];simp;omega
    simp [hb,show n≤lowB1 m by omega,show n+1≤lowB1 m by omega]
   ·by_cases c2:n=lowB1 m
    ·subst c2
     have hb:m.testBit (lowB1 m)=true:=by rw [t1];simp
     have ho:(lowOff m).testBit (lowB1 m)=false:=by rw [t2];simp
     have hz':bitsTo (lowOff m) (lowB1 m)=[]:=by
      apply List.eq_nil_iff_forall_not_mem.2
      intro x hx
      obtain ⟨k,k1,k2,_⟩:=(bitsTo_mem _ _ _).1 hx
      rw [(low_test h0 hm k).2] at k2
      simp at k2
      omega
     simp [hb,ho,hz']
    ·have hs:m.testBit n=(lowOff m).testBit n:=by rw [t2];simp;intro _;omega
     simp only [hs,if_neg (show ¬ n≤lowB1 m by omega),if_neg (show ¬ n+1≤lowB1 m by omega)]
     cases (lowOff m).testBit n <;> simp
 unfold bitsL
 rw [key 20,if_neg (by omega)]
theorem bits_zero:bitsL 0=[]:=by decide
theorem and_low {m:Nat}(h0:m≠0)(hm:m<2 ^ 20):bits .and .i64 (m:Int) ((m:Int)-1)=(lowOff m:Int):=by
 have e:(m:Int)-1=((m-1:Nat):Int):=by omega
 rw [e,and_nat _ _ (by omega) (by omega)];rfl
theorem bitsL_len (m:Nat):(bitsL m).length≤20:=bitsTo_len m 20
theorem bitsL_at (m:Nat){i:Nat}(h:i<(bitsL m).length):0≤gi (bitsL m) i∧gi (bitsL m) i<20∧m.testBit (gi (bitsL m) i).toNat=true:=by
 obtain ⟨k,h1,h2,h3⟩:=(bitsTo_mem m 20 _).1 (gi_mem _ i h)
 have e:gi (bitsL m) i=(k:Int):=h3
 rw [e]
 exact ⟨by omega,by omega,by simpa using h2⟩
end Go.Proofs.YtiapkffihpgdcaaGreatDoor
