import Derived.Test.YtiapkffihpgdcaaGreatDoorQB9
import Derived.Maps.AppendAt
import Derived.RegionTactic
import Derived.OwnWalk
import Derived.Lib.SliceRun
import Derived.Deep.RegionHeld3
set_option linter.unusedVariables false
set_option linter.unusedSimpArgs false
set_option maxRecDepth 100000
set_option maxHeartbeats 4000000
namespace Go.Proofs.YtiapkffihpgdcaaGreatDoor
open Go.RowKit
theorem info_fact:(Tryz.prog.info? 53).map (fun i=>(i.zero,i.size,i.bytes))=some (some (.agg #[.int .i64 0,.int .i64 0,.int .i64 0,.int .i64 0,.int .i64 0]),5,40):=by kernel_rfl
theorem neq_fact (a b c d f a' b' c' d' f':Int)(w:World):(binOp .neq 53 (.agg #[.int .i64 a,.int .i64 b,.int .i64 c,.int .i64 d,.int .i64 f]) (.agg #[.int .i64 a',.int .i64 b',.int .i64 c',.int .i64 d',.int .i64 f'])).run Tryz.prog w=.ok (.bool (!(a == a' && (b == b' && (c == c' && (d == d' && f == f')))))) w:=by
 have hS:Tryz.prog.underlying 53=some (.struct (Tryz.prog.fieldsOf 53)):=by kernel_rfl
 have hp:Tryz.prog.stoodInHeld 53=false:=by kernel_rfl
 have u3:=Tryz.underlying3
 have a3:=Tryz.isAgg3
 have z3:=Tryz.sizeOf3
 rw [run_neq_struct,show (10000:Nat)=9999+1 from rfl,run_equalIn_agg w 9999 53 _ _ hS hp]
 simp only [Program.fieldsOf,Tryz.underlying53]
 go_simp
 by_cases h1:a=a'
 ·by_cases h2:b=b'
  ·by_cases h3:c=c'
   ·by_cases h4:d=d' <;> by_cases h5:f=f' <;> simp [h1,h2,h3,h4,h5]
   ·simp [h1,h2,h3]
  ·simp [h1,h2]
 ·simp [h1]
theorem sameFacts_any (l m:List Fact)(A A':Option Addr)(c c' B B':Nat)(w:World)(hl:RF w B A l)(hm:RF w B' A' m)(hb:l.length≤1000000000)(hb':m.length≤1000000000) :
  Calls Tryz.prog 142 #[.slice A l.length c,.slice A' m.length c'] w fun e w'=>e=.returned (.bool (decide (l=m)))∧Below w.heap.size w w':=by
 have hneq:=neq_fact
 by_cases hlen:l.length=m.length
 ·have hlen':((l.length:Int) != (m.length:Int))=false:=by simp [hlen]
  have HL:=Lib.hid hlen;clear hlen
  go_enter Tryz.func142,Tryz.ntmps142
  go_wp2
  go_loopw [5] (fun x wr=>∃k:Nat,k≤l.length∧x=.int .i64 k∧eqFn l m k∧Below w.heap.size w wr) (fun x _=>l.length-(intOf x).toNat)
  case atStart=>exact ⟨0,by omega,rfl,fun i hi=>by omega,Below.refl _ _⟩
  case round =>
   obtain ⟨k,hk,rfl,he,hbl⟩:=hrel
   by_cases hlt:k<l.length
   ·have hlt':k<m.length:=by rw [← HL.out];exact hlt
    obtain ⟨ad,rfl,hab,c0,c1,c2,c3,c4⟩:=(hl.below hbl).at_ hlt
    obtain ⟨ad',rfl,hab',d0,d1,d2,d3,d4⟩:=(hm.below hbl).at_ hlt'
    cases hq:(!factEq (gf l k) (gf m k)) with
    | true =>
     have hne:=fact_ne hq
     have HNE:=Lib.hid hne;clear hne
     unfold factEq at hq
     go_wp2_with fail
     go_quiet (fail)
     go_wp2
     go_ret
     exact ⟨ret_bool (by symm;rw [decide_eq_false_iff_not];intro e;exact HNE.out (by rw [e])),below_drewN hbl _⟩
    | false =>
     have heq:=fact_eq hq
     have HEQ:=Lib.hid heq;clear heq
     unfold factEq at hq
     go_wp2_with fail
     go_quiet (fail)
     go_wp2
     go_roundw
     case rel=>exact ⟨k+1,by omega,by go_num,fun i hi=>by
      by_cases e:i=k
      ·subst e;exact HEQ.out
      ·exact he i (by omega),below_drewN hbl _⟩
     case measure=>simp [intOf];omega
   ·obtain rfl:k=l.length:=by omega
    go_wp2
    go_ret
    exact ⟨ret_bool (by symm;rw [decide_eq_true_eq];exact eqFn_all HL.out he),hbl⟩
 ·have hlen':((l.length:Int) != (m.length:Int))=true:=by simp;omega
  have HL:=Lib.hid hlen;clear hlen
  go_enter Tryz.func142,Tryz.ntmps142
  go_wp2
  go_ret
  exact ⟨ret_bool (by symm;rw [decide_eq_false_iff_not];intro e;exact HL.out (by rw [e])),Below.refl _ _⟩
/-- The slice (A,c) of the call's own holds the facts l. -/
def OwnF (w:World)(base:Nat)(A:Option Addr)(c:Nat)(l:List Fact):Prop:=w.ownsRow base 53 5 (.slice A l.length c) l.length (cellsF l)
theorem OwnF.kept {w w':World}{base c:Nat}{A:Option Addr}{l:List Fact}(h:OwnF w base A c l)(hb:Below w.heap.size w w'):OwnF w' base A c l:=own_below h hb fun k hk=>(World.ownsRow.lt h k hk).2
theorem OwnF.reads {w:World}{base c:Nat}{A:Option Addr}{l:List Fact}(h:OwnF w base A c l):RF w w.heap.size A l:=⟨Nat.le_refl _,Reads.of_own h⟩
theorem OwnF.cap {w:World}{base c:Nat}{A:Option Addr}{l:List Fact}(h:OwnF w base A c l):l.length≤c:=by
 rcases h.2 with ⟨h1,h2⟩ | ⟨g,cap,cur,h1,_,_,h4,_⟩
 ·omega
 ·injection h1 with _ _ h1;omega
theorem OwnF.snoc {w:World}{base c n:Nat}{A:Option Addr}{l l':List Fact}{f:Fact}(h:w.ownsRow base 53 5 (.slice A (n+1) c) (n+1) (cellsF l ++ f.vals))(hn:n=l.length)(hl:l'=l ++ [f]):OwnF w base A c l':=by
 subst hn
 have e1:(l ++ [f]).length=l.length+1:=by simp
 have e2:cellsF (l ++ [f])=cellsF l ++ f.vals:=by simp [cellsF]
 rw [hl]
 unfold OwnF
 rw [e1,e2]
 exact h
theorem cellsF_one (l:List Fact):∀u ∈ cellsF l,u.oneCell'=true:=by
 intro u hu
 obtain ⟨f,_,hf⟩:=List.mem_flatMap.1 hu
 simp only [Fact.vals,List.mem_cons,List.not_mem_nil,or_false] at hf
 rcases hf with rfl | rfl | rfl | rfl | rfl <;> rfl
theorem clone_anyO (l:List Fact)(hl:l.length≤1000000000)(A:Option Addr)(c B:Nat)(w:World)(hR:RF w B A l) :
  Calls Tryz.prog 77 #[.slice A l.length c] w fun e w'=>∃A' c',e=.returned (.slice A' l.length c')∧OwnF w' w.heap.size A' c' l∧Below w.heap.size w w':=by
 have hnil:=fun W a n c=>Lib.run_eql_slice_nil (P:=Tryz.prog) W 43 53 a n c 0 0 Tryz.underlying43
 cases A with
 | none =>
  have hl0:l=[]:=by
   apply List.eq_nil_of_length_eq_zero
   rcases Nat.eq_zero_or_pos l.length with h | h
   ·exact h
   ·obtain ⟨ad,h1,_⟩:=hR.2.2 h;cases h1
  subst hl0
  go_enter Tryz.func77,Tryz.ntmps77
  go_wp2
  go_ret
  exact ⟨none,0,rfl,World.ownsRow_nil _ _ _ _,Below.refl _ _⟩
 | some a =>
  obtain ⟨i0,hi0,hz0,hz1,hz2⟩:=info_parts info_fact
  go_enter Tryz.func77,Tryz.ntmps77
  have h0:(w.alloc (.cells #[] 53)).ownsRow w.heap.size 53 5 (.slice (some ⟨w.heap.size,0,none⟩) 0 0) 0 []:=World.ownsRow_lit w #[] 0 (Nat.le_refl _) (by unfold maxLen;omega) rfl
  have hb0:Below w.heap.size w (w.alloc (.cells #[] 53)):=(Below.refl _ _).alloc (Nat.le_refl _) _
  go_wp2_with (at_builtin;refine wpList_append_any _ rfl _ _ 43 rfl w.heap.size 53 i0 _ 5 40 Tryz.underlying43 hi0 hz0 hz1 hz2 rfl (by omega) _ 0 [] rfl h0 B (some a) l.length c (cellsF l) rfl (hR.below hb0).2 (cellsF_one l) (by unfold maxLen;omega) (by omega) hb0.size ?_;intro v' w2 own2 hg2 hat2)
  obtain ⟨A',c',rfl⟩:=own_shape own2
  go_wp2
  go_ret
  rw [Nat.zero_add,List.nil_append] at own2
  exact ⟨A',c',by rw [Nat.zero_add];rfl,own2,hb0.grown hg2 hb0.size (fun k hk=>by have e:(some w.heap.size:Option Nat)=some k:=hk;cases e;exact Nat.le_refl _)⟩
def RetF (w0:World)(L:List Fact)(er:Int)(e:Ending)(w':World):Prop :=
 ∃A c,e=.returned (.tuple #[.slice A L.length c,.int .i64 er])∧OwnF w' w0.heap.size A c L∧Below w0.heap.size w0 w'
theorem own_ne {w:World}{b1 e1 s1 n1 b2 e2 s2 n2:Nat}{v1 v2:Value}{xs1 xs2:List Value}(h1:w.ownsRow b1 e1 s1 v1 n1 xs1)(h2:w.ownsRow b2 e2 s2 v2 n2 xs2)(hne:e1≠e2):v1.ownBlock=none∨v1.ownBlock≠v2.ownBlock:=by
 rcases h1.2 with ⟨rfl,_⟩ | ⟨g,cap,cur,rfl,_,hh,_⟩
 ·exact .inl rfl
 ·right
  rcases h2.2 with ⟨rfl,_⟩ | ⟨g',cap',cur',rfl,_,hh',_⟩
  ·simp [Value.ownBlock]
  ·intro he
   have:g=g':=by simpa [Value.ownBlock] using he
   subst this
   rw [hh] at hh'
   injection hh' with hh'
   injection hh' with _ ht
   exact hne ht
/-- As wpList_app1;and what is owned besides,of another element type,stays. -/
theorem wpList_app2 {P : Program} {w : World} {ops : Array Oper} {rest : List Oper} {o : Oper} {a : Act} {Q : Exit → Act → World → Prop} (hgd : o.guard = none) (s x : Operand) {t e : TypeId}
    (ho : o.op = .call { callee := .builtin .append, args := #[s, x], argTypes := #[t, t] }) {z : Value} {size bytes : Nat} (ht : P.underlying t = some (.slice e))
    (hinfo : (P.info? e).map (fun i => (i.zero, i.size, i.bytes)) = some (some z, size, bytes)) (hzs : z.cells.size = size) (hsz : 0 < size)
    {base : Nat} {A : Option Addr} {n c : Nat} {xs : List Value} (hs : a.eval s = .slice A n c) (hown : w.ownsRow base e size (.slice A n c) n xs)
    {news : List Value} {gb : Nat} (hgb : gb = w.heap.size) (hx : a.eval x = .slice (some ⟨gb, 0, none⟩) 1 1) (hl : news.length = size) (h1 : ∀ u ∈ news, u.oneCell' = true)
    (hn : n + 1 ≤ 1000000000) (hbytes : bytes ≤ 1000) (hbase : base ≤ w.heap.size)
    (h : ∀ A' c' w', w'.ownsRow base e size (.slice A' (n + 1) c') (n + 1) (xs ++ news) → (∀ B, B ≤ base → Below B w w') →
      (∀ (b2 e2 s2 n2 : Nat) (v2 : Value) (xs2 : List Value), w.ownsRow b2 e2 s2 v2 n2 xs2 → e2 ≠ e → w'.ownsRow b2 e2 s2 v2 n2 xs2) → wpList P ops Q rest (a.put o.dst (.slice A' (n + 1) c')) w') :
    wpList P ops Q (o :: rest) a (w.alloc (.cells news.toArray e)) := by
  subst hgb
  obtain ⟨i, hi, hz0, hz1, hz2⟩ := info_parts hinfo
  have hlt : ∀ j u, news[j]? = some u → (w.alloc (.cells news.toArray e)).cell? ((⟨w.heap.size, 0, none⟩ : Addr).add j) = some u := by
    intro j u hu
    have hadd : (⟨w.heap.size, 0, none⟩ : Addr).add j = ⟨w.heap.size, j, none⟩ := by unfold Addr.add; split <;> simp_all
    rw [hadd, World.cell?_alloc_at _ _ _ _ rfl]
    simpa using hu
  have hb : (n + 1) * bytes ≤ 140737488355328 := by
    have : (n + 1) * bytes ≤ 1000000000 * 1000 := Nat.mul_le_mul hn hbytes
    omega
  refine wpList_append_own _ hgd s x t ho base e i z size bytes ht hi hz0 hz1 hz2 hzs hsz _ n xs hs (hown.alloc _) _ 1 1 news hx (by omega) hlt h1 (by unfold maxLen; omega) hb (by simp; omega) ?_
  intro v' w' hown' hg _
  obtain ⟨A', c', hv⟩ := own_shape hown'
  rw [hv] at hown' ⊢
  refine h A' c' w' hown' (fun B hB => ?_) (fun b2 e2 s2 n2 v2 xs2 h2 hne => ?_)
  · exact ((Below.refl B w).alloc (by omega) _).grown hg (by simp; omega) (fun k hk => by have := hown.lt k hk; omega)
  · exact (h2.alloc (.cells news.toArray e)).kept hg (own_ne (h2.alloc (.cells news.toArray e)) (hown.alloc (.cells news.toArray e)) hne)
/-- As wpList_app2,in a region that draws its order: the world is whatever it is. -/
theorem step_app2 {P : Program} {W : World} {ops : Array Oper} {o : Oper} {a : Act} {K : Act → World → Prop} {Q : Exit → Act → World → Prop} {E : Prop} (hgd : o.guard = none) (s x : Operand) {t e : TypeId}
    (ho : o.op = .call { callee := .builtin .append, args := #[s, x], argTypes := #[t, t] }) {z : Value} {size bytes : Nat} (ht : P.underlying t = some (.slice e))
    (hinfo : (P.info? e).map (fun i => (i.zero, i.size, i.bytes)) = some (some z, size, bytes)) (hzs : z.cells.size = size) (hsz : 0 < size)
    {base : Nat} {A : Option Addr} {n c : Nat} {xs : List Value} (hs : a.eval s = .slice A n c) (hown : W.ownsRow base e size (.slice A n c) n xs)
    {news : List Value} (ad : Addr) (hx : a.eval x = .slice (some ad) 1 1) (hl : news.length = size) (hnews : ∀ j u, news[j]? = some u → W.cell? (ad.add j) = some u) (h1 : ∀ u ∈ news, u.oneCell' = true)
    (hn : n + 1 ≤ 1000000000) (hbytes : bytes ≤ 1000) (hbase : base ≤ W.heap.size)
    (h : ∀ A' c' w', w'.ownsRow base e size (.slice A' (n + 1) c') (n + 1) (xs ++ news) → (∀ B, B ≤ base → Below B W w') →
      (∀ (b2 e2 s2 n2 : Nat) (v2 : Value) (xs2 : List Value), W.ownsRow b2 e2 s2 v2 n2 xs2 → e2 ≠ e → w'.ownsRow b2 e2 s2 v2 n2 xs2) → K (a.put o.dst (.slice A' (n + 1) c')) w') :
    if Region.wanted o (yielded ops a.tmps) = true then Oper.wp P o a W K Q else E := by
  have hw : Region.wanted o (yielded ops a.tmps) = true := by simp [Region.wanted, hgd]
  rw [if_pos hw]
  obtain ⟨i, hi, hz0, hz1, hz2⟩ := info_parts hinfo
  have hb : (n + 1) * bytes ≤ 140737488355328 := by
    have : (n + 1) * bytes ≤ 1000000000 * 1000 := Nat.mul_le_mul hn hbytes
    omega
  refine wp_append_own W s x t ho base e i z size bytes ht hi hz0 hz1 hz2 hzs hsz _ n xs hs hown ad 1 1 news hx (by omega) hnews h1 (by unfold maxLen; omega) hb hbase ?_
  intro v' w' hown' hg _
  obtain ⟨A', c', hv⟩ := own_shape hown'
  rw [hv] at hown' ⊢
  refine h A' c' w' hown' (fun B hB => ?_) (fun b2 e2 s2 n2 v2 xs2 h2 hne => ?_)
  · exact (Below.refl B W).grown hg (by omega) (fun k hk => by have := hown.lt k hk; omega)
  · exact h2.kept hg (own_ne h2 hown hne)
theorem OwnF.more {w:World}{base c:Nat}{A:Option Addr}{l:List Fact}{f:Fact}(h:w.ownsRow base 53 5 (.slice A (l.length+1) c) (l.length+1) (cellsF l ++ f.vals)):OwnF w base A c (l ++ [f]):=OwnF.snoc h rfl rfl
theorem RF.drew {w:World}{B:Nat}{A:Option Addr}{l:List Fact}(h:RF w B A l):RF w.drew B A l:=h
theorem RF.alloc {w:World}{B:Nat}{A:Option Addr}{l:List Fact}(h:RF w B A l)(o:Obj):RF (w.alloc o) B A l:=h.below ((Below.refl _ _).alloc (Nat.le_refl _) _)
theorem heap_at {W:World}{o:Obj}{g:Nat}(e:g=W.heap.size):(W.alloc o).heap[g]? = some o:=by subst e;exact heap_alloc_new _ _
theorem heap_before {W:World}{o o':Obj}{g:Nat}(h:W.heap[g]? = some o'):(W.alloc o).heap[g]? = some o':=by
 rw [heap_alloc_old _ _ (Array.getElem?_eq_some_iff.1 h).1];exact h
theorem step_app_lit {W : World} {ops : Array Oper} {o : Oper} {a : Act} {K : Act → World → Prop} {Q : Exit → Act → World → Prop} {E : Prop} (hgd : o.guard = none) (s x : Operand)
    (ho : o.op = .call { callee := .builtin .append, args := #[s, x], argTypes := #[43, 43] }) (base : Nat) {g : Nat} (hs : a.eval s = .slice (some ⟨g, 0, none⟩) 0 0) (hg : W.heap[g]? = some (.cells #[] 53 (0, 0)))
    {B : Nat} {A : Option Addr} {c : Nat} {l : List Fact} (hx : a.eval x = .slice A l.length c) (hR : RF W B A l) (hl : l.length ≤ 100000000) (hbase : base ≤ g)
    (h : ∀ A' c' w', OwnF w' base A' c' l → Below base W w' → (∀ k j, k ≠ g → k < W.heap.size → w'.cell? ⟨k, j, none⟩ = W.cell? ⟨k, j, none⟩) → K (a.put o.dst (.slice A' l.length c')) w') :
    if Region.wanted o (yielded ops a.tmps) = true then Oper.wp Tryz.prog o a W K Q else E := by
  obtain ⟨i0, hi0, hz0, hz1, hz2⟩ := info_parts info_fact
  have hgs : g < W.heap.size := (Array.getElem?_eq_some_iff.1 hg).1
  have hown : W.ownsRow base 53 5 (.slice (some ⟨g, 0, none⟩) 0 0) 0 [] := ⟨rfl, .inr ⟨g, 0, #[], rfl, hbase, hg, Nat.le_refl _, by unfold maxLen; omega, rfl, rfl⟩⟩
  refine step_append_any W hgd s x _ ho base _ i0 _ 5 40 Tryz.underlying43 hi0 hz0 hz1 hz2 rfl (by omega) _ 0 [] hs hown B A l.length c (cellsF l) hx hR.2 (cellsF_one l) (by unfold maxLen; omega) (by omega) (by omega) ?_
  intro v' w' own' hgr hat
  obtain ⟨A', c', rfl⟩ := own_shape own'
  rw [Nat.zero_add, List.nil_append] at own'
  rw [Nat.zero_add]
  refine h A' c' w' own' ((Below.refl _ _).grown hgr (by omega) (fun k hk => by simp [Value.ownBlock] at hk; omega)) (fun k j hk hlt => ?_)
  exact hgr.cell_far ⟨k, j, none⟩ hlt (by simp [Value.ownBlock]; exact hk)
theorem news_far {W w2:World}{k:Nat}{cs:Array Value}{t:TypeId}(hb:W.heap[k]? = some (.cells cs t (0,0)))(hf:∀j,w2.cell? ⟨k,j,none⟩=W.cell? ⟨k,j,none⟩):∀j u,cs.toList[j]? = some u→w2.cell? ((⟨k,0,none⟩:Addr).add j)=some u:=by
 intro j u hu
 have:=World.news_of_block hb j u hu
 have hadd:(⟨k,0,none⟩:Addr).add j=⟨k,j,none⟩:=by unfold Addr.add;split <;> simp_all
 rw [hadd] at this ⊢
 rw [hf];exact this
theorem addX_any (l:List Fact)(f:Fact)(hl:l.length≤100000000)(A:Option Addr)(c B:Nat)(w:World)(hR:RF w B A l) :
  Calls Tryz.prog 290 #[.slice A l.length c,.agg #[.int .i64 f.at_,.int .i64 f.ch,.int .i64 f.fr,.int .i64 f.un,.int .i64 f.me]] w (RetF w (addR l f) (addE l f)):=by
 obtain ⟨R,hRR⟩:∃R,R=addR l f:=⟨_,rfl⟩
 obtain ⟨E,hE⟩:∃E,E=addE l f:=⟨_,rfl⟩
 rw [← hRR,← hE]
 have HR:=Lib.hid hRR
 have HE:=Lib.hid hE
 clear hRR hE
 have hx0:Below (w.heap.size+1) (w.alloc (.cells #[.int .i64 f.at_,.int .i64 f.ch,.int .i64 f.fr,.int .i64 f.un,.int .i64 f.me] 53)) (w.alloc (.cells #[.int .i64 f.at_,.int .i64 f.ch,.int .i64 f.fr,.int .i64 f.un,.int .i64 f.me] 53)):=Below.refl _ _
 obtain ⟨bx,_,_,hy0⟩:=blk_facts hx0 (by omega)
 go_enter Tryz.func290,Tryz.ntmps290
 go_wp2_with fail
 refine (validate_any l A c B _ (hR.below hy0) (by omega)).mono ?_
 rintro e w1 ⟨rfl,hb1⟩
 have hx1:=hx0.trans (hb1.mono (by simp))
 clear bx hb1
 obtain ⟨bx,_,bz,hy1⟩:=blk_facts hx1 (by omega)
 by_cases hv:vld l=0
 ·have hv1:(vld l != 0)=false:=by simp [hv]
  have HV:=Lib.hid hv
  have q0:w1.cell? ⟨w.heap.size,0,none⟩=some (.int .i64 f.at_):=by rw [bx];rfl
  have q1:w1.cell? ⟨w.heap.size,1,none⟩=some (.int .i64 f.ch):=by rw [bx];rfl
  have q2:w1.cell? ⟨w.heap.size,2,none⟩=some (.int .i64 f.fr):=by rw [bx];rfl
  have q3:w1.cell? ⟨w.heap.size,3,none⟩=some (.int .i64 f.un):=by rw [bx];rfl
  have q4:w1.cell? ⟨w.heap.size,4,none⟩=some (.int .i64 f.me):=by rw [bx];rfl
  have hR1:=hR.below hy1
  clear hv bx hx0 hy0 hx1
  go_wp2_with fail
  go_cut [7] (fun s wx=>∃A' c',s=.slice A' (l.length+1) c'∧OwnF wx w.heap.size A' c' (l ++ [f])∧Below w.heap.size w wx)
  case first =>
   go_region_held3 (fun w'=>w'.cell? ⟨w.heap.size,0,none⟩=some (.int .i64 f.at_)∧w'.cell? ⟨w.heap.size,1,none⟩=some (.int .i64 f.ch)∧w'.cell? ⟨w.heap.size,2,none⟩=some (.int .i64 f.fr)∧w'.cell? ⟨w.heap.size,3,none⟩=some (.int .i64 f.un)∧w'.cell? ⟨w.heap.size,4,none⟩=some (.int .i64 f.me))
    (first | go_keep | (go_split_ands;refine ⟨?_,?_,?_,?_,?_⟩ <;> (rw [(hb3 _ (Nat.le_refl _)).cell (by simp;omega)];go_keep)) | (go_split_ands;refine ⟨?_,?_,?_,?_,?_⟩ <;> (rw [hb2.cell (by simp;omega)];go_keep)))
    (first
     | (go_at_call 77;refine (clone_anyO l (by omega) A c B _ ?_).mono ?_;(repeat (first | exact hR1 | refine RF.drew ?_ | refine RF.alloc ?_ _));rintro e w2 ⟨A',c',rfl,own2,hb2⟩)
     | (refine step_app2 (by rfl) _ _ (by rfl) Tryz.underlying43 info_fact rfl (by omega) (by rfl) (World.ownsRow.alloc own2 (.cells #[.int .i64 f.at_,.int .i64 f.ch,.int .i64 f.fr,.int .i64 f.un,.int .i64 f.me] 53)) (news:=f.vals) ⟨w2.heap.size,0,none⟩ (by rfl) (by rfl) (World.news_of_block (cs:=#[.int .i64 f.at_,.int .i64 f.ch,.int .i64 f.fr,.int .i64 f.un,.int .i64 f.me]) (t:=53) (fr:=(0,0)) (heap_alloc_new w2 _)) (by simp [Fact.vals,Value.oneCell']) (by omega) (by omega) (by have:=hb2.size;simp at this ⊢;omega) ?_;intro A3 c3 w3 own3 hb3 hk3)
     | (refine step_app2 (by rfl) _ _ (by rfl) Tryz.underlying43 info_fact rfl (by omega) (by rfl) own2 (news:=f.vals) ⟨w1.heap.size,0,none⟩ (by rfl) (by rfl) (fun j u hu=>(hb2.cell (by rw [block_of_add];simp)).trans (World.news_of_block (w:=w1.drew.alloc (.cells #[.int .i64 f.at_,.int .i64 f.ch,.int .i64 f.fr,.int .i64 f.un,.int .i64 f.me] 53)) (cs:=#[.int .i64 f.at_,.int .i64 f.ch,.int .i64 f.fr,.int .i64 f.un,.int .i64 f.me]) (t:=53) (fr:=(0,0)) (heap_alloc_new w1.drew _) j u hu)) (by simp [Fact.vals,Value.oneCell']) (by omega) (by omega) (by have:=hb2.size;simp at this ⊢;omega) ?_;intro A3 c3 w3 own3 hb3 hk3))
   ·go_wp2_with fail
    go_meet
    exact ⟨A3,c3,rfl,OwnF.more (own_base own3 (by exact hy1.size)),hy1.drew.trans ((hb2.mono (by simp;omega)).trans ((((Below.refl _ _).alloc (by have:=hb2.size;simp at this;omega) _)).trans (hb3 w.heap.size (by simp;omega))))⟩
   ·go_wp2_with fail
    go_meet
    exact ⟨A3,c3,rfl,OwnF.more (own_base own3 (by simp;omega)),hy1.trans (((Below.refl _ _).drew.alloc (by exact hy1.size) _).trans ((hb2.mono (by simp;omega)).trans (hb3 w.heap.size (by simp;omega))))⟩
  case rest =>
   obtain ⟨A3,c3,rfl,own,hbl⟩:=hcut
   have hl1:(l ++ [f]).length=l.length+1:=by simp
   have hva:=validate_any (l ++ [f]) A3 c3 _ _ own.reads (by omega)
   rw [hl1] at hva
   have HVA:=Lib.hid hva
   have HL1:=Lib.hid hl1
   clear hva hl1
   go_wp2_with fail
   refine HVA.out.mono ?_
   rintro e w4 ⟨rfl,hb4⟩
   have hy4:=hbl.trans (hb4.mono hbl.size)
   have own4:=own.kept hb4
   have hEv:E=vld (l ++ [f]):=by rw [HE.out,addE,if_neg (by rw [HV.out];simp)]
   by_cases hv2:vld (l ++ [f])=0
   ·have hv3:(vld (l ++ [f]) != 0)=false:=by simp [hv2]
    have hRv:R=l ++ [f]:=by rw [HR.out,addR,if_pos ⟨HV.out,hv2⟩]
    have HEV:=Lib.hid (hEv.trans hv2)
    have HRV:=Lib.hid hRv
    clear hEv hv2 hRv
    go_wp2
    go_ret2
    exact ⟨A3,c3,ret2 (by rw [HRV.out,HL1.out];rfl) (by rw [HEV.out];rfl),by rw [HRV.out];exact own4,hy4⟩
   ·have hv3:(vld (l ++ [f]) != 0)=true:=by simp [hv2]
    have hRv:R=[]:=by rw [HR.out,addR,if_neg (by rintro ⟨_,h⟩;exact hv2 h)]
    have HEV:=Lib.hid hEv
    have HRV:=Lib.hid hRv
    clear hEv hv2 hRv
    go_wp2
    go_ret2
    exact ⟨none,0,ret2 (by rw [HRV.out];rfl) (by rw [HEV.out];rfl),by rw [HRV.out];exact World.ownsRow_nil _ _ _ _,hy4⟩
 ·have hv1:(vld l != 0)=true:=by simp [hv]
  have hEv:E=vld l:=by rw [HE.out,addE,if_pos hv]
  have hRv:R=[]:=by rw [HR.out,addR,if_neg (by rintro ⟨h,_⟩;exact hv h)]
  have HEV:=Lib.hid hEv
  have HRV:=Lib.hid hRv
  clear hEv hv hRv
  go_wp2
  go_ret2
  exact ⟨none,0,ret2 (by rw [HRV.out];rfl) (by rw [HEV.out];rfl),by rw [HRV.out];exact World.ownsRow_nil _ _ _ _,hy1⟩
theorem raddX_any (l:List Fact)(f:Fact)(hl:l.length≤100000000)(A:Option Addr)(c B:Nat)(w:World)(hR:RF w B A l) :
  Calls Tryz.prog 208 #[.slice A l.length c,.agg #[.int .i64 f.at_,.int .i64 f.ch,.int .i64 f.fr,.int .i64 f.un,.int .i64 f.me]] w (RetF w (addR l f) (addE l f)):=by
 obtain ⟨R,hRR⟩:∃R,R=addR l f:=⟨_,rfl⟩
 obtain ⟨E,hE⟩:∃E,E=addE l f:=⟨_,rfl⟩
 rw [← hRR,← hE]
 have HR:=Lib.hid hRR
 have HE:=Lib.hid hE
 clear hRR hE
 have hx0:Below (w.heap.size+1) (w.alloc (.cells #[.int .i64 f.at_,.int .i64 f.ch,.int .i64 f.fr,.int .i64 f.un,.int .i64 f.me] 53)) (w.alloc (.cells #[.int .i64 f.at_,.int .i64 f.ch,.int .i64 f.fr,.int .i64 f.un,.int .i64 f.me] 53)):=Below.refl _ _
 obtain ⟨bx,_,_,hy0⟩:=blk_facts hx0 (by omega)
 go_enter Tryz.func208,Tryz.ntmps208
 go_wp2_with fail
 refine (rvalidate_any l A c B _ (hR.below hy0) (by omega)).mono ?_
 rintro e w1 ⟨rfl,hb1⟩
 have hx1:=hx0.trans (hb1.mono (by simp))
 clear bx hb1
 obtain ⟨bx,_,bz,hy1⟩:=blk_facts hx1 (by omega)
 by_cases hv:vld l=0
 ·have hv1:(vld l != 0)=false:=by simp [hv]
  have HV:=Lib.hid hv
  have q0:w1.cell? ⟨w.heap.size,0,none⟩=some (.int .i64 f.at_):=by rw [bx];rfl
  have q1:w1.cell? ⟨w.heap.size,1,none⟩=some (.int .i64 f.ch):=by rw [bx];rfl
  have q2:w1.cell? ⟨w.heap.size,2,none⟩=some (.int .i64 f.fr):=by rw [bx];rfl
  have q3:w1.cell? ⟨w.heap.size,3,none⟩=some (.int .i64 f.un):=by rw [bx];rfl
  have q4:w1.cell? ⟨w.heap.size,4,none⟩=some (.int .i64 f.me):=by rw [bx];rfl
  have hR1:=hR.below hy1
  clear hv bx hx0 hy0 hx1
  go_wp2_with fail
  go_cut [7] (fun s wx=>∃A' c',s=.slice A' (l.length+1) c'∧OwnF wx w.heap.size A' c' (l ++ [f])∧Below w.heap.size w wx)
  case first =>
   go_region_held3 (fun w'=>w'.cell? ⟨w.heap.size,0,none⟩=some (.int .i64 f.at_)∧w'.cell? ⟨w.heap.size,1,none⟩=some (.int .i64 f.ch)∧w'.cell? ⟨w.heap.size,2,none⟩=some (.int .i64 f.fr)∧w'.cell? ⟨w.heap.size,3,none⟩=some (.int .i64 f.un)∧w'.cell? ⟨w.heap.size,4,none⟩=some (.int .i64 f.me))
    (first | go_keep | (go_split_ands;refine ⟨?_,?_,?_,?_,?_⟩ <;> (rw [(hb3 _ (Nat.le_refl _)).cell (by simp;omega)];go_keep)) | (go_split_ands;refine ⟨?_,?_,?_,?_,?_⟩ <;> (rw [hfar2 _ _ (by omega) (by simp;omega)];go_keep)))
    (first
     | (refine step_app_lit (by rfl) _ _ (by rfl) w1.heap.size (g:=w1.heap.size) (by rfl) (by first | exact heap_at (by simp) | exact heap_before (heap_at (by simp))) (B:=B) (A:=A) (c:=c) (l:=l) (by rfl) (by (repeat (first | exact hR1 | refine RF.drew ?_ | refine RF.alloc ?_ _))) hl (by omega) ?_;intro A2 c2 w2 own2 hb2 hfar2)
     | (refine step_app_lit (by rfl) _ _ (by rfl) w1.heap.size (g:=w1.heap.size+1) (by rfl) (by first | exact heap_at (by simp) | exact heap_before (heap_at (by simp))) (B:=B) (A:=A) (c:=c) (l:=l) (by rfl) (by (repeat (first | exact hR1 | refine RF.drew ?_ | refine RF.alloc ?_ _))) hl (by omega) ?_;intro A2 c2 w2 own2 hb2 hfar2)
     | (refine step_app2 (by rfl) _ _ (by rfl) Tryz.underlying43 info_fact rfl (by omega) (by rfl) (World.ownsRow.alloc own2 (.cells #[.int .i64 f.at_,.int .i64 f.ch,.int .i64 f.fr,.int .i64 f.un,.int .i64 f.me] 53)) (news:=f.vals) ⟨w2.heap.size,0,none⟩ (by rfl) (by rfl) (World.news_of_block (cs:=#[.int .i64 f.at_,.int .i64 f.ch,.int .i64 f.fr,.int .i64 f.un,.int .i64 f.me]) (t:=53) (fr:=(0,0)) (heap_alloc_new w2 _)) (by simp [Fact.vals,Value.oneCell']) (by omega) (by omega) (by have:=hb2.size;simp at this ⊢;omega) ?_;intro A3 c3 w3 own3 hb3 hk3)
     | (refine step_app2 (by rfl) _ _ (by rfl) Tryz.underlying43 info_fact rfl (by omega) (by rfl) own2 (news:=f.vals) ⟨w1.heap.size+1,0,none⟩ (by rfl) (by rfl) (news_far (cs:=#[.int .i64 f.at_,.int .i64 f.ch,.int .i64 f.fr,.int .i64 f.un,.int .i64 f.me]) (t:=53) (by first | exact heap_at (by simp) | exact heap_before (heap_at (by simp))) (fun j=>hfar2 (w1.heap.size+1) j (by omega) (by simp <;> omega))) (by simp [Fact.vals,Value.oneCell']) (by omega) (by omega) (by have:=hb2.size;simp at this ⊢;omega) ?_;intro A3 c3 w3 own3 hb3 hk3)
     | (refine step_app2 (by rfl) _ _ (by rfl) Tryz.underlying43 info_fact rfl (by omega) (by rfl) own2 (news:=f.vals) ⟨w1.heap.size,0,none⟩ (by rfl) (by rfl) (news_far (cs:=#[.int .i64 f.at_,.int .i64 f.ch,.int .i64 f.fr,.int .i64 f.un,.int .i64 f.me]) (t:=53) (by first | exact heap_at (by simp) | exact heap_before (heap_at (by simp))) (fun j=>hfar2 (w1.heap.size) j (by omega) (by simp <;> omega))) (by simp [Fact.vals,Value.oneCell']) (by omega) (by omega) (by have:=hb2.size;simp at this ⊢;omega) ?_;intro A3 c3 w3 own3 hb3 hk3))
   ·go_wp2_with fail
    go_meet
    exact ⟨A3,c3,rfl,OwnF.more (own_base own3 (by exact hy1.size)),hy1.trans ((((Below.refl _ _).alloc hy1.size _).drew).trans ((hb2.mono hy1.size).trans ((((Below.refl _ _).alloc (by have:=hb2.size;simp at this;omega) _)).trans (hb3 w.heap.size (by exact hy1.size)))))⟩
   ·go_wp2_with fail
    go_meet
    exact ⟨A3,c3,rfl,OwnF.more (own_base own3 (by exact hy1.size)),hy1.trans (((((Below.refl _ _).alloc hy1.size _).alloc (by simp;omega) _).drew).trans ((hb2.mono hy1.size).trans (hb3 w.heap.size (by exact hy1.size))))⟩
   ·go_wp2_with fail
    go_meet
    exact ⟨A3,c3,rfl,OwnF.more (own_base own3 (by exact hy1.size)),hy1.trans (((((Below.refl _ _).alloc hy1.size _).alloc (by simp;omega) _).drew).trans ((hb2.mono hy1.size).trans (hb3 w.heap.size (by exact hy1.size))))⟩
  case rest =>
   obtain ⟨A3,c3,rfl,own,hbl⟩:=hcut
   have hl1:(l ++ [f]).length=l.length+1:=by simp
   have hva:=rvalidate_any (l ++ [f]) A3 c3 _ _ own.reads (by omega)
   rw [hl1] at hva
   have HVA:=Lib.hid hva
   have HL1:=Lib.hid hl1
   clear hva hl1
   go_wp2_with fail
   refine HVA.out.mono ?_
   rintro e w4 ⟨rfl,hb4⟩
   have hy4:=hbl.trans (hb4.mono hbl.size)
   have own4:=own.kept hb4
   have hEv:E=vld (l ++ [f]):=by rw [HE.out,addE,if_neg (by rw [HV.out];simp)]
   by_cases hv2:vld (l ++ [f])=0
   ·have hv3:(vld (l ++ [f]) != 0)=false:=by simp [hv2]
    have hRv:R=l ++ [f]:=by rw [HR.out,addR,if_pos ⟨HV.out,hv2⟩]
    have HEV:=Lib.hid (hEv.trans hv2)
    have HRV:=Lib.hid hRv
    clear hEv hv2 hRv
    go_wp2
    go_ret2
    exact ⟨A3,c3,ret2 (by rw [HRV.out,HL1.out];rfl) (by rw [HEV.out];rfl),by rw [HRV.out];exact own4,hy4⟩
   ·have hv3:(vld (l ++ [f]) != 0)=true:=by simp [hv2]
    have hRv:R=[]:=by rw [HR.out,addR,if_neg (by rintro ⟨_,h⟩;exact hv2 h)]
    have HEV:=Lib.hid hEv
    have HRV:=Lib.hid hRv
    clear hEv hv2 hRv
    go_wp2
    go_ret2
    exact ⟨none,0,ret2 (by rw [HRV.out];rfl) (by rw [HEV.out];rfl),by rw [HRV.out];exact World.ownsRow_nil _ _ _ _,hy4⟩
 ·have hv1:(vld l != 0)=true:=by simp [hv]
  have hEv:E=vld l:=by rw [HE.out,addE,if_pos hv]
  have hRv:R=[]:=by rw [HR.out,addR,if_neg (by rintro ⟨h,_⟩;exact hv h)]
  have HEV:=Lib.hid hEv
  have HRV:=Lib.hid hRv
  clear hEv hv hRv
  go_wp2
  go_ret2
  exact ⟨none,0,ret2 (by rw [HRV.out];rfl) (by rw [HEV.out];rfl),by rw [HRV.out];exact World.ownsRow_nil _ _ _ _,hy1⟩
theorem vrights_any (r:List Sp)(A:Option Addr)(c:Nat)(w:World)(hR:RSO w A r)(hl:r.length≤1000000000) :
  Calls Tryz.prog 146 #[.slice A r.length c] w fun e w'=>e=.returned (.int .i64 (vrt r))∧Below w.heap.size w w':=by
 by_cases h60:60<r.length
 ·have hv:vrt r=4:=by unfold vrt;rw [if_pos h60]
  rw [hv];clear hv
  go_enter Tryz.func146,Tryz.ntmps146
  go_wp2
  go_ret
  exact ⟨rfl,Below.refl _ _⟩
 ·obtain ⟨V,hV⟩:∃V,V=vrt r:=⟨_,rfl⟩
  rw [← hV]
  have hv1:rtAll r r.length=true→V=0:=fun h=>by rw [hV,vrt,if_neg h60,if_pos h]
  have hv2:rtAll r r.length=false→V=1:=fun h=>by rw [hV,vrt,if_neg h60,if_neg (by rw [h];simp)]
  have H1:=Lib.hid hv1
  have H2:=Lib.hid hv2
  clear hV hv1 hv2
  go_enter Tryz.func146,Tryz.ntmps146
  go_wp2
  go_loopw [10] (fun x wr=>∃k:Nat,k≤r.length∧x=.int .i64 k∧Hid (rtAll r k=true)∧Below w.heap.size w wr) (fun x _=>r.length-(intOf x).toNat)
  case atStart=>exact ⟨0,by omega,rfl,rfl,Below.refl _ _⟩
  case round =>
   obtain ⟨k,hk,rfl,HK,hbl⟩:=hrel
   by_cases hlt:k<r.length
   ·obtain ⟨ad,rfl,hab,c0,c1,c2⟩:=(hR.below hbl).at_ hlt
    cases hq:rtB (gs r k) with
    | true =>
     obtain ⟨q1,q2,q3,q4,q5⟩:=(rtB_iff _).1 hq
     have hi:inB (gs r k).fr 0 99=true:=inB_true.2 ⟨q1,q2⟩
     have hnx:rtAll r (k+1)=true:=by simp only [rtAll,HK.out,hq];rfl
     have HNX:=Lib.hid hnx
     clear hnx hq
     go_wp2_with (go_at_call 88;refine (isChild_any _ _).mono ?_;rintro e w' ⟨rfl,hw'⟩;subst hw')
     go_roundw
     case rel=>exact ⟨k+1,by omega,by go_num,HNX,hbl.alloc hbl.size _⟩
     case measure=>simp [intOf];omega
    | false =>
     have hbad:V=1:=by
      refine H2.out ?_
      cases ha:rtAll r r.length with
      | false=>rfl
      | true=>rw [(rtAll_iff _ _).1 ha k hlt] at hq;cases hq
     have HB:=Lib.hid hbad
     have hn:¬ (inB (gs r k).fr 0 99=true∧0≤(gs r k).un∧(gs r k).un<(gs r k).me∧(gs r k).me≤1000):=by
      intro hh
      have:=inB_true.1 hh.1
      rw [(rtB_iff _).2 ⟨this.1,this.2,hh.2⟩] at hq;cases hq
     have HN:=Lib.hid hn
     clear hbad hq hn
     cases hi:inB (gs r k).fr 0 99 with
     | false =>
      go_wp2_with (go_at_call 88;refine (isChild_any _ _).mono ?_;rintro e w' ⟨rfl,hw'⟩;subst hw')
      go_ret
      exact ⟨ret_int (by rw [HB.out]),hbl.alloc hbl.size _⟩
     | true =>
      have hcases:(gs r k).un<0∨(0≤(gs r k).un∧(gs r k).me≤(gs r k).un)∨(0≤(gs r k).un∧(gs r k).un<(gs r k).me∧1000<(gs r k).me):=by
       have:=HN.out
       rcases Int.lt_or_le (gs r k).un 0 with h | h
       ·exact .inl h
       ·rcases Int.lt_or_le (gs r k).un (gs r k).me with h' | h'
        ·rcases Int.lt_or_le 1000 (gs r k).me with h'' | h''
         ·exact .inr (.inr ⟨h,h',h''⟩)
         ·exact absurd ⟨hi,h,h',h''⟩ this
        ·exact .inr (.inl ⟨h,h'⟩)
      rcases hcases with p1 | ⟨p1,p2⟩ | ⟨p1,p2,p3⟩
      all_goals
       go_wp2_with (go_at_call 88;refine (isChild_any _ _).mono ?_;rintro e w' ⟨rfl,hw'⟩;subst hw')
       go_ret
       exact ⟨ret_int (by rw [HB.out]),hbl.alloc hbl.size _⟩
   ·have hv:V=0:=H1.out (by rw [show r.length=k by omega];exact HK.out)
    have HV:=Lib.hid hv;clear hv
    go_wp2
    go_ret
    exact ⟨ret_int (by rw [HV.out]),hbl⟩
theorem rvrights_any (r:List Sp)(A:Option Addr)(c:Nat)(w:World)(hR:RSO w A r)(hl:r.length≤1000000000) :
  Calls Tryz.prog 209 #[.slice A r.length c] w fun e w'=>e=.returned (.int .i64 (vrt r))∧Below w.heap.size w w':=by
 by_cases h60:60<r.length
 ·have hv:vrt r=4:=by unfold vrt;rw [if_pos h60]
  rw [hv];clear hv
  go_enter Tryz.func209,Tryz.ntmps209
  go_wp2
  go_ret
  exact ⟨rfl,Below.refl _ _⟩
 ·obtain ⟨V,hV⟩:∃V,V=vrt r:=⟨_,rfl⟩
  rw [← hV]
  have hv1:rtAll r r.length=true→V=0:=fun h=>by rw [hV,vrt,if_neg h60,if_pos h]
  have hv2:rtAll r r.length=false→V=1:=fun h=>by rw [hV,vrt,if_neg h60,if_neg (by rw [h];simp)]
  have H1:=Lib.hid hv1
  have H2:=Lib.hid hv2
  clear hV hv1 hv2
  go_enter Tryz.func209,Tryz.ntmps209
  go_wp2
  go_loopw [3] (fun x wr=>∃k:Nat,k≤r.length∧x=.int .i64 k∧Hid (rtAll r k=true)∧Below w.heap.size w wr) (fun x _=>r.length-(intOf x).toNat)
  case atStart=>exact ⟨0,by omega,rfl,rfl,Below.refl _ _⟩
  case round =>
   obtain ⟨k,hk,rfl,HK,hbl⟩:=hrel
   by_cases hlt:k<r.length
   ·obtain ⟨ad,rfl,hab,c0,c1,c2⟩:=(hR.below hbl).at_ hlt
    have hsb:rtB (gs r k)=(inB (gs r k).fr 0 99 && stretchB (gs r k).un (gs r k).me):=by
     rw [Bool.eq_iff_iff,rtB_iff,Bool.and_eq_true,inB_true];simp [stretchB];omega
    have q10:(0:Int)≤(k:Int):=Int.natCast_nonneg _
    have q11:(k:Int)<(r.length:Int):=by omega
    have hbad:rtB (gs r k)=false→V=1:=fun hq=>by
     refine H2.out ?_
     cases ha:rtAll r r.length with
     | false=>rfl
     | true=>rw [(rtAll_iff _ _).1 ha k hlt] at hq;cases hq
    cases hi:inB (gs r k).fr 0 99 with
    | false =>
     have HB:=Lib.hid (hbad (by rw [hsb,hi];rfl))
     clear hbad hsb
     go_wp2_with fail
     go_quiet ((first | (go_at_call 181;exact Calls.quiet_of_same (within_anyO _ _ _ _)) | (go_at_call 268;exact Calls.quiet_of_same (rdays_anyO _ _ _))))
     go_wp2
     go_ret
     exact ⟨ret_int (by rw [HB.out]),below_drewN hbl _⟩
    | true =>
     cases hd:stretchB (gs r k).un (gs r k).me with
     | false =>
      have HB:=Lib.hid (hbad (by rw [hsb,hi,hd];rfl))
      clear hbad hsb
      go_wp2_with fail
      go_quiet ((first | (go_at_call 181;exact Calls.quiet_of_same (within_anyO _ _ _ _)) | (go_at_call 268;exact Calls.quiet_of_same (rdays_anyO _ _ _))))
      go_wp2
      go_ret
      exact ⟨ret_int (by rw [HB.out]),below_drewN hbl _⟩
     | true =>
      have hnx:rtAll r (k+1)=true:=by simp only [rtAll,HK.out,hsb,hi,hd];rfl
      have HNX:=Lib.hid hnx
      clear hnx hbad hsb
      go_wp2_with fail
      go_quiet ((first | (go_at_call 181;exact Calls.quiet_of_same (within_anyO _ _ _ _)) | (go_at_call 268;exact Calls.quiet_of_same (rdays_anyO _ _ _))))
      go_wp2
      go_roundw
      case rel=>exact ⟨k+1,by omega,by go_num,HNX,below_drewN hbl _⟩
      case measure=>simp [intOf];omega
   ·have hv:V=0:=H1.out (by rw [show r.length=k by omega];exact HK.out)
    have HV:=Lib.hid hv;clear hv
    go_wp2
    go_ret
    exact ⟨ret_int (by rw [HV.out]),hbl⟩
def IdxPost (b:Bool)(w0:World)(e:Ending)(w':World):Prop:=∃i:Int,e=.returned (.int .i64 i)∧(b=true→0≤i)∧(b=false→i<0)∧Below w0.heap.size w0 w'
theorem freef_any (ch f u c d:Int)(b1 b2:Nat)(w:World)(h1:w.cell? ⟨b1,0,none⟩=some (.int .i64 c))(h2:w.cell? ⟨b2,0,none⟩=some (.int .i64 d))(hb1:b1<w.heap.size)(hb2:b2<w.heap.size) :
  Calls Tryz.prog 244 #[.agg #[.int .i64 ch,.int .i64 f,.int .i64 u],.pointer (some ⟨b1,0,none⟩),.pointer (some ⟨b2,0,none⟩)] w fun e w'=>e=.returned (.bool (tellN ch f u c d))∧Below w.heap.size w w':=by
 have e1:¬ b1=w.heap.size:=by omega
 have e2:¬ b2=w.heap.size:=by omega
 go_enter Tryz.func244,Tryz.ntmps244
 go_wp2
 all_goals
  go_ret
  exact ⟨ret_bool (by unfold tellN;first | (rw [decide_eq_decide];omega) | (symm;rw [decide_eq_false_iff_not];omega)),by go_grown⟩
theorem index_free (r:List Sp)(c d:Int)(A:Option Addr)(cp b1 b2:Nat)(w:World)(hR:RSO w A r)(hl:r.length≤1000000000)(h1:w.cell? ⟨b1,0,none⟩=some (.int .i64 c))(h2:w.cell? ⟨b2,0,none⟩=some (.int .i64 d))(hb1:b1<w.heap.size)(hb2:b2<w.heap.size) :
  Calls Tryz.prog 292 #[.slice A r.length cp,.func (.func 244) #[] #[.pointer (some ⟨b1,0,none⟩),.pointer (some ⟨b2,0,none⟩)]] w (IdxPost (freeB r c d) w):=by
 go_enter Tryz.func292,Tryz.ntmps292
 go_wp2
 go_loopw [8] (fun x wr=>∃k:Nat,k≤r.length∧x=.int .i64 k∧Hid (frTo r c d k=false)∧Below w.heap.size w wr) (fun x _=>r.length-(intOf x).toNat)
 case atStart=>exact ⟨0,by omega,rfl,rfl,Below.refl _ _⟩
 case round =>
  obtain ⟨k,hk,rfl,HK,hbl⟩:=hrel
  by_cases hlt:k<r.length
  ·obtain ⟨ad,rfl,hab,c0,c1,c2⟩:=(hR.below hbl).at_ hlt
   have g1:=(hbl.cell (p:=⟨b1,0,none⟩) hb1).trans h1
   have g2:=(hbl.cell (p:=⟨b2,0,none⟩) hb2).trans h2
   have hbs:=hbl.size
   go_wp2_with fail
   refine (freef_any _ _ _ c d b1 b2 _ g1 g2 (by omega) (by omega)).mono ?_
   rintro e w2 ⟨rfl,hb2'⟩
   have hbl2:=hbl.trans (hb2'.mono hbl.size)
   clear g1 g2 c0 c1 c2 hb2'
   cases hq:tellN (gs r k).fr (gs r k).un (gs r k).me c d with
   | true =>
    have hf:freeB r c d=true:=(frTo_iff _ _ _ _).2 ⟨k,hlt,hq⟩
    have HF:=Lib.hid hf
    clear hf hq
    go_wp2
    go_ret
    exact ⟨k,rfl,(fun _=>by omega),(fun h=>by rw [HF.out] at h;cases h),hbl2⟩
   | false =>
    have hnx:frTo r c d (k+1)=false:=by simp only [frTo,HK.out,hq];rfl
    have HNX:=Lib.hid hnx
    clear hnx hq
    go_wp2
    go_roundw
    case rel=>exact ⟨k+1,by omega,by go_num,HNX,hbl2⟩
    case measure=>simp [intOf];omega
  ·have hf:freeB r c d=false:=by unfold freeB;rw [show r.length=k by omega];exact HK.out
   have HF:=Lib.hid hf
   clear hf
   go_wp2
   go_ret
   exact ⟨-1,rfl,(fun h=>by rw [HF.out] at h;cases h),(fun _=>by omega),hbl⟩
theorem contains_free (r:List Sp)(c d:Int)(A:Option Addr)(cp b1 b2:Nat)(w:World)(hR:RSO w A r)(hl:r.length≤1000000000)(h1:w.cell? ⟨b1,0,none⟩=some (.int .i64 c))(h2:w.cell? ⟨b2,0,none⟩=some (.int .i64 d))(hb1:b1<w.heap.size)(hb2:b2<w.heap.size) :
  Calls Tryz.prog 243 #[.slice A r.length cp,.func (.func 244) #[] #[.pointer (some ⟨b1,0,none⟩),.pointer (some ⟨b2,0,none⟩)]] w fun e w' =>
   e=.returned (.bool (freeB r c d))∧Below w.heap.size w w':=by
 go_enter Tryz.func243,Tryz.ntmps243
 go_wp2_with fail
 refine (index_free r c d A cp b1 b2 _ hR hl h1 h2 hb1 hb2).mono ?_
 rintro e w2 ⟨i,rfl,hi1,hi2,hbl⟩
 cases hf:freeB r c d with
 | true =>
  have h0:=hi1 hf
  have HF:=Lib.hid hf
  clear hi1 hi2 hf
  go_wp2
  go_ret
  exact ⟨ret_bool (by rw [HF.out] <;> first | rfl | (simp;done) | (simp [h0];done) | (simp;omega)),hbl⟩
 | false =>
  have h0:=hi2 hf
  have HF:=Lib.hid hf
  clear hi1 hi2 hf
  go_wp2
  go_ret
  exact ⟨ret_bool (by rw [HF.out] <;> first | rfl | (simp;done) | (simp [h0];done) | (simp;omega)),hbl⟩
theorem free_any (r:List Sp)(c d:Int)(A:Option Addr)(cp:Nat)(w:World)(hR:RSO w A r)(hl:r.length≤1000000000) :
  Calls Tryz.prog 171 #[.slice A r.length cp,.int .i64 c,.int .i64 d] w fun e w'=>e=.returned (.bool (freeB r c d))∧Below w.heap.size w w':=by
 go_enter Tryz.func171,Tryz.ntmps171
 go_wp2_with fail
 have hb0:Below w.heap.size w ((w.alloc (.cells #[.int .i64 c] 3)).alloc (.cells #[.int .i64 d] 3)):=((Below.refl _ _).alloc (Nat.le_refl _) _).alloc (by simp) _
 refine (contains_free r c d A cp w.heap.size (w.heap.size+1) ((w.alloc (.cells #[.int .i64 c] 3)).alloc (.cells #[.int .i64 d] 3)) (hR.below hb0) hl (by simp [go_sem]) (by simp [go_sem]) (by simp;omega) (by simp)).mono ?_
 rintro e w2 ⟨rfl,hb2⟩
 go_wp2
 go_ret
 exact ⟨rfl,hb0.trans (hb2.mono hb0.size)⟩
theorem rfree_any (r : List Sp) (c d : Int) (A : Option Addr) (cp : Nat) (w : World) (hR : RSO w A r) (hl : r.length ≤ 1000000000) :
    Calls Tryz.prog 252 #[.slice A r.length cp, .int .i64 c, .int .i64 d] w fun e w' => e = .returned (.bool (freeB r c d)) ∧ w = w' := by
  obtain ⟨N, hN⟩ : ∃ N, N = freeB r c d := ⟨_, rfl⟩
  rw [← hN]
  have HN := Lib.hid hN; clear hN
  go_enter Tryz.func252, Tryz.ntmps252
  go_wp2
  go_loop [7] (fun x => ∃ k : Nat, k ≤ r.length ∧ x = .int .i64 k ∧ Hid (frTo r c d k = false)) (fun x => r.length - (intOf x).toNat)
  case atStart => exact ⟨0, by omega, rfl, rfl⟩
  case round =>
    obtain ⟨k, hk, rfl, HK⟩ := hrel
    by_cases hlt : k < r.length
    · obtain ⟨ad, rfl, hab, c0, c1, c2⟩ := hR.at_ hlt
      cases hq : tellN (gs r k).fr (gs r k).un (gs r k).me c d with
      | true =>
        have hf : N = true := by rw [HN.out]; exact (frTo_iff _ _ _ _).2 ⟨k, hlt, hq⟩
        have HF := Lib.hid hf
        simp only [tellN, decide_eq_true_eq] at hq
        obtain ⟨p1, p2, p3⟩ := hq
        have p1' : ((gs r k).fr == c) = true := by simp [p1]
        clear hf p1
        go_wp2
        go_ret
        exact ⟨ret_bool (by rw [HF.out]), rfl⟩
      | false =>
        have hnx : frTo r c d (k + 1) = false := by simp only [frTo, HK.out, hq]; rfl
        have HNX := Lib.hid hnx
        have hn : ¬ ((gs r k).fr = c ∧ (gs r k).un ≤ d ∧ d < (gs r k).me) := by simpa only [tellN, decide_eq_false_iff_not] using hq
        have HNN := Lib.hid hn
        clear hnx hq hn
        go_wp2
        all_goals first
          | exact absurd ⟨‹_›, ‹_›, ‹_›⟩ HNN.out
          | (go_round
             case rel => exact ⟨k + 1, by omega, by go_num, HNX⟩
             case measure => simp [intOf]; omega)
    · have hf : N = false := by rw [HN.out]; unfold freeB; rw [show r.length = k by omega]; exact HK.out
      have HF := Lib.hid hf
      clear hf
      go_wp2
      go_ret
      exact ⟨ret_bool (by rw [HF.out]), rfl⟩
end Go.Proofs.YtiapkffihpgdcaaGreatDoor
