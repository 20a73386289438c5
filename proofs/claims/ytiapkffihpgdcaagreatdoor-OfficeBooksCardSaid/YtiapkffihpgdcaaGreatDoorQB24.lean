import Derived.Test.YtiapkffihpgdcaaGreatDoorQB20
import Derived.Test.YtiapkffihpgdcaaGreatDoorQB23
set_option linter.unusedVariables false
set_option linter.unusedSimpArgs false
set_option maxRecDepth 100000
set_option maxHeartbeats 4000000
namespace Go.Proofs.YtiapkffihpgdcaaGreatDoor
open Go.RowKit Go.Sort
theorem wpList_app3S {P : Program} {w : World} {ops : Array Oper} {rest : List Oper} {o : Oper} {a : Act} {Q : Exit → Act → World → Prop} (hgd : o.guard = none) (s x : Operand) {t e : TypeId}
    (ho : o.op = .call { callee := .builtin .append, args := #[s, x], argTypes := #[t, t] }) {z : Value} {size bytes : Nat} (ht : P.underlying t = some (.slice e))
    (hinfo : (P.info? e).map (fun i => (i.zero, i.size, i.bytes)) = some (some z, size, bytes)) (hzs : z.cells.size = size) (hsz : 0 < size)
    {base : Nat} {A : Option Addr} {n c : Nat} {xs : List Value} (hs : a.eval s = .slice A n c) (hown : w.ownsRow base e size (.slice A n c) n xs)
    {news : List Value} {q : Nat} (hx : a.eval x = .slice (some ⟨q, 0, none⟩) 1 1) (hq : q = w.heap.size) (hl : news.length = size) (h1 : ∀ u ∈ news, u.oneCell' = true)
    (hn : n + 1 ≤ 1000000000) (hbytes : bytes ≤ 1000) (hbase : base ≤ w.heap.size)
    (h : ∀ A' c' w', w'.ownsRow base e size (.slice A' (n + 1) c') (n + 1) (xs ++ news) → (w.alloc (.cells news.toArray e)).grownBy w' (blkOf (A, c)) → (blkOf (A', c') = blkOf (A, c) ∨ blkOf (A', c') = some (w.alloc (.cells news.toArray e)).heap.size) → wpList P ops Q rest (a.put o.dst (.slice A' (n + 1) c')) w') :
    wpList P ops Q (o :: rest) a (w.alloc (.cells news.toArray e)) := by
  subst hq
  exact wpList_app3 hgd s x ho ht hinfo hzs hsz hs hown hx hl h1 hn hbytes hbase h
/-- The cells of an office in the making: the menus' row,the two rows for the days. -/
def cellsM (t:Tm)(c:Cy)(b:Bk)(tr tc bi br:SlH)(M C E:Value):Array Value:=#[.int .i64 t.len,.slice tr.1 t.rest.length tr.2,.slice tc.1 t.clo.length tc.2,.int .i64 c.n,.int .i64 c.f,.int .i64 c.k,
 .int .i64 b.props,.slice bi.1 b.items.length bi.2,.slice br.1 b.rules.length br.2,M,.int .i64 0,.slice none 0 0,.slice none 0 0,.slice none 0 0,.slice none 0 0,C,E,.int .i64 0,St []]
/-- The new office,its rows still to come. -/
def RewCut (B:Nat)(t:Tm)(c:Cy)(b:Bk)(s:Value)(wx:World):Prop :=
 ∃(g:Nat) (tr tc bi br:SlH) (hp hq hr:Nat→SlH),s=.pointer (some ⟨g,0,none⟩)∧wx.heap.size=g+1∧B≤g∧Box wx g (cellsM t c b tr tc bi br (.slice none 0 0) (.slice none 0 0) (.slice none 0 0)) ∧
  RNF (fun k=>B≤k∧k<g) wx tr.1 t.rest∧RNF (fun k=>B≤k∧k<g) wx tc.1 t.clo∧RBk (fun k=>B≤k∧k<g) wx bi.1 br.1 b hp hq hr
theorem RewCut.of {B:Nat}{t:Tm}{c:Cy}{b:Bk}{WP:World}(tr tc bi br:SlH){hp hq hr:Nat→SlH}{g:Nat}(hgW:g=WP.heap.size)(hB:B≤WP.heap.size)(h1:RNF (Fr B WP) WP tr.1 t.rest)(h2:RNF (Fr B WP) WP tc.1 t.clo)(h3:RBk (Fr B WP) WP bi.1 br.1 b hp hq hr) :
  RewCut B t c b (.pointer (some ⟨g,0,none⟩)) (WP.alloc (.cells (cellsM t c b tr tc bi br (.slice none 0 0) (.slice none 0 0) (.slice none 0 0)) 99)):=by
 subst hgW
 have hb:=(Below.refl WP.heap.size WP).alloc (Nat.le_refl _) (.cells (cellsM t c b tr tc bi br (.slice none 0 0) (.slice none 0 0) (.slice none 0 0)) 99)
 exact ⟨WP.heap.size,tr,tc,bi,br,hp,hq,hr,rfl,by simp,hB,Box.new _ _ _,h1.below hb,h2.below hb,h3.below hb⟩
/-- The three rows in the making: where they lie,how long they are,their lists. -/
structure NwL (t:Tm) (c:Cy) (b:Bk) (tr tc bi br:SlH) (g:Nat) (wc:World) (P Q R:SlH) (i j l:Nat) (p q r:List Int) (wr:World):Prop where
 box:Box wr g (cellsM t c b tr tc bi br (.slice P.1 i P.2) (.slice Q.1 j Q.2) (.slice R.1 l R.2))
 o1:wr.ownsRow (g+1) 3 1 (.slice P.1 i P.2) i (ints p)
 o2:wr.ownsRow (g+1) 3 1 (.slice Q.1 j Q.2) j (ints q)
 o3:wr.ownsRow (g+1) 3 1 (.slice R.1 l R.2) l (ints r)
 a12:∀x,blkOf P=some x→blkOf Q≠some x
 a13:∀x,blkOf P=some x→blkOf R≠some x
 a23:∀x,blkOf Q=some x→blkOf R≠some x
 below:Below g wc wr
theorem row_other {wr w':World}{B:Nat}{P Q:SlH}{n:Nat}{xs:List Value}{o:Obj}(h:wr.ownsRow B 3 1 (.slice Q.1 n Q.2) n xs)(hg:(wr.alloc o).grownBy w' (blkOf P))(hd:∀x,blkOf P=some x→blkOf Q≠some x){g m:Nat}(hgB:g<B)(v:Value) :
  (w'.setCell ⟨g,m,none⟩ v).ownsRow B 3 1 (.slice Q.1 n Q.2) n xs:=by
 refine ownsRow_setCell_below ((h.alloc o).kept hg ?_) (show g<B from hgB) _
 have e:(Value.slice Q.1 n Q.2).ownBlock=blkOf Q:=own_blk Q n
 rw [e]
 cases hq:blkOf Q with
 | none=>exact .inl rfl
 | some x=>exact .inr fun e2=>hd x e2.symm hq
theorem dis_l {wr:World}{B:Nat}{P P' Q:SlH}{n:Nat}{xs:List Value}{o:Obj}(hd:∀x,blkOf P=some x→blkOf Q≠some x)(hn:blkOf P'=blkOf P∨blkOf P'=some (wr.alloc o).heap.size)(h:wr.ownsRow B 3 1 (.slice Q.1 n Q.2) n xs):∀x,blkOf P'=some x→blkOf Q≠some x:=by
 intro x hx hq
 rcases hn with hn | hn
 ·exact hd x (hn ▸ hx) hq
 ·rw [hn] at hx
  have e:=Option.some.inj hx
  have hl:=(World.ownsRow.lt h x (by rw [show (Value.slice Q.1 n Q.2).ownBlock=blkOf Q from own_blk Q n];exact hq)).2
  simp at e
  omega
theorem ints_snocZ (p:List Int)(x:Int):ints p ++ [.int .i64 x]=ints (p ++ [x]):=by simp [ints]
section
variable {t:Tm}{c:Cy}{b:Bk}{tr tc bi br:SlH}{g:Nat}{wc wr w':World}{P Q R:SlH}{i j l:Nat}{p q r:List Int}
/-- What an append to one of the rows leaves. -/
structure AppD (wr w':World) (g:Nat) (P P':SlH) (i:Nat) (p:List Int) (x:Int) (o:Obj):Prop where
 own:w'.ownsRow (g+1) 3 1 (.slice P'.1 (i+1) P'.2) (i+1) (ints p ++ [.int .i64 x])
 grown:(wr.alloc o).grownBy w' (blkOf P)
 blk:blkOf P'=blkOf P∨blkOf P'=some (wr.alloc o).heap.size
theorem AppD.below {P':SlH}{x:Int}{o:Obj}(h:AppD wr w' g P P' i p x o)(hg:g<wr.heap.size)(ho:wr.ownsRow (g+1) 3 1 (.slice P.1 i P.2) i (ints p)):Below (g+1) wr w' :=
 Below.grown ((Below.refl (g+1) wr).alloc (by omega) o) h.grown (by simp;omega) fun k hk=>(World.ownsRow.lt ho k (by rw [show (Value.slice P.1 i P.2).ownBlock=blkOf P from own_blk P _];exact hk)).1
theorem AppD.own' {P':SlH}{x:Int}{o:Obj}(h:AppD wr w' g P P' i p x o)(m:Nat)(v:Value):(w'.setCell ⟨g,m,none⟩ v).ownsRow (g+1) 3 1 (.slice P'.1 (i+1) P'.2) (i+1) (ints (p ++ [x])):=by
 rw [← ints_snocZ]
 exact ownsRow_setCell_below h.own (show g<g+1 by omega) _
theorem NwL.app1 (h:NwL t c b tr tc bi br g wc P Q R i j l p q r wr){P':SlH}{x:Int}{o:Obj}(ha:AppD wr w' g P P' i p x o):NwL t c b tr tc bi br g wc P' Q R (i+1) j l (p ++ [x]) q r (w'.setCell ⟨g,9,none⟩ (.slice P'.1 (i+1) P'.2)):=by
 have hb:=ha.below h.box.lt h.o1
 refine ⟨?_,ha.own' 9 _,row_other h.o2 ha.grown h.a12 (by omega) _,row_other h.o3 ha.grown h.a13 (by omega) _,dis_l h.a12 ha.blk h.o2,dis_l h.a13 ha.blk h.o3,h.a23,(h.below.trans (hb.mono (by omega))).setCell (p:=⟨g,9,none⟩) (Nat.le_refl _) _⟩
 simpa [cellsM] using (h.box.keep hb (by omega)).set 9 (.slice P'.1 (i+1) P'.2) (by simp [cellsM])
theorem NwL.app2 (h:NwL t c b tr tc bi br g wc P Q R i j l p q r wr){Q':SlH}{x:Int}{o:Obj}(ha:AppD wr w' g Q Q' j q x o):NwL t c b tr tc bi br g wc P Q' R i (j+1) l p (q ++ [x]) r (w'.setCell ⟨g,15,none⟩ (.slice Q'.1 (j+1) Q'.2)):=by
 have hb:=ha.below h.box.lt h.o2
 have a21:∀x,blkOf Q=some x→blkOf P≠some x:=fun x h1 h2=>h.a12 x h2 h1
 refine ⟨?_,row_other h.o1 ha.grown a21 (by omega) _,ha.own' 15 _,row_other h.o3 ha.grown h.a23 (by omega) _,fun x h1 h2=>dis_l a21 ha.blk h.o1 x h2 h1,h.a13,dis_l h.a23 ha.blk h.o3,(h.below.trans (hb.mono (by omega))).setCell (p:=⟨g,15,none⟩) (Nat.le_refl _) _⟩
 simpa [cellsM] using (h.box.keep hb (by omega)).set 15 (.slice Q'.1 (j+1) Q'.2) (by simp [cellsM])
theorem NwL.app3 (h:NwL t c b tr tc bi br g wc P Q R i j l p q r wr){R':SlH}{x:Int}{o:Obj}(ha:AppD wr w' g R R' l r x o):NwL t c b tr tc bi br g wc P Q R' i j (l+1) p q (r ++ [x]) (w'.setCell ⟨g,16,none⟩ (.slice R'.1 (l+1) R'.2)):=by
 have hb:=ha.below h.box.lt h.o3
 have a31:∀x,blkOf R=some x→blkOf P≠some x:=fun x h1 h2=>h.a13 x h2 h1
 have a32:∀x,blkOf R=some x→blkOf Q≠some x:=fun x h1 h2=>h.a23 x h2 h1
 refine ⟨?_,row_other h.o1 ha.grown a31 (by omega) _,row_other h.o2 ha.grown a32 (by omega) _,ha.own' 16 _,h.a12,fun x h1 h2=>dis_l a31 ha.blk h.o1 x h2 h1,fun x h1 h2=>dis_l a32 ha.blk h.o2 x h2 h1,(h.below.trans (hb.mono (by omega))).setCell (p:=⟨g,16,none⟩) (Nat.le_refl _) _⟩
 simpa [cellsM] using (h.box.keep hb (by omega)).set 16 (.slice R'.1 (l+1) R'.2) (by simp [cellsM])
/-- Memory that lies elsewhere grew. -/
theorem NwL.keep (h:NwL t c b tr tc bi br g wc P Q R i j l p q r wr)(hb:Below wr.heap.size wr w'):NwL t c b tr tc bi br g wc P Q R i j l p q r w' :=
 ⟨h.box.below hb,own_below h.o1 hb fun k hk=>(World.ownsRow.lt h.o1 k hk).2,own_below h.o2 hb fun k hk=>(World.ownsRow.lt h.o2 k hk).2,own_below h.o3 hb fun k hk=>(World.ownsRow.lt h.o3 k hk).2,h.a12,h.a13,h.a23,h.below.trans (hb.mono (by have:=h.box.lt;omega))⟩
/-- A menu is laid. -/
theorem NwL.put (h:NwL t c b tr tc bi br g wc P Q R i j l p q r wr){gp:Nat}(hP:P.1=some ⟨gp,0,none⟩)(d:Nat)(v:Int):NwL t c b tr tc bi br g wc P Q R i j l (p.set d v) q r (wr.setCell ⟨gp,d,none⟩ (.int .i64 v)):=by
 have hbp:blkOf P=some gp:=by unfold blkOf;rw [hP];rfl
 have hlt:=World.ownsRow.lt h.o1 gp (by rw [show (Value.slice P.1 i P.2).ownBlock=blkOf P from own_blk P _];exact hbp)
 have ho:=h.o1
 rw [hP] at ho
 have hst:=(World.ownsRow.stored ho d (.int .i64 v)).1
 refine ⟨?_,?_,ownsRow_setCell_other h.o2 ?_ _,ownsRow_setCell_other h.o3 ?_ _,h.a12,h.a13,h.a23,h.below.setCell (p:=⟨gp,d,none⟩) (by show g≤gp;omega) _⟩
 ·exact h.box.far (show g≠gp by omega) _
 ·rw [hP,show ints (p.set d v)=(ints p).set d (.int .i64 v) from (ints_set9 p d v).symm];exact hst
 ·rw [show (Value.slice Q.1 j Q.2).ownBlock=blkOf Q from own_blk Q _];exact h.a12 gp hbp
 ·rw [show (Value.slice R.1 l R.2).ownBlock=blkOf R from own_blk R _];exact h.a13 gp hbp
end
theorem rdT_at {t:Tm}{c:Cy}{m:Int}{N i:Nat}(hi:i<(daysTo t c m N).length):∃d:Nat,d<N∧gi (daysTo t c m N) i=d∧mnAt t c d=m:=by
 have h:gi (daysTo t c m N) i ∈ daysTo t c m N:=by unfold gi;rw [List.getD_eq_getElem?_getD,List.getElem?_eq_getElem hi];exact List.getElem_mem hi
 obtain ⟨d,h1,h2,h3⟩:=(daysTo_mem t c m _ _).1 h
 exact ⟨d,h1,h3,h2⟩
theorem rdays_ok {t:Tm}{c:Cy}(ht:TmOk t)(hc:CyOk c){m:Int}(h0:0≤m)(h1:m<c.n):daysE t c m=0∧daysR t c m=daysTo t c m t.len.toNat:=by
 have hb:bE t c=0:=by unfold bE;rw [if_neg (by rw [ht.to];decide)];exact hc.to
 have e:daysE t c m=0:=by unfold daysE;rw [if_neg (by simp [hb]),if_pos (inB_true.2 ⟨h0,by omega⟩)]
 exact ⟨e,by rw [daysR,if_pos e]⟩
theorem dyTo_none (n:Nat):dyTo (fun _=>none) n=List.replicate n (-1):=by
 rw [List.eq_replicate_iff]
 refine ⟨dyTo_len _ n,fun x hx=>?_⟩
 simp [dyTo] at hx
 exact hx.2.symm
/-- The office,made. -/
theorem RO.made {B g:Nat}{t:Tm}{c:Cy}{b:Bk}{wc w:World}{tr tc bi br P Q R:SlH}{hp hq hr:Nat→SlH}(h7:7≤B)(hBg:B≤g)
  (h:NwL t c b tr tc bi br g wc P Q R t.len.toNat t.len.toNat t.len.toNat (mnL t c) (List.replicate t.len.toNat (-1)) (List.replicate t.len.toNat (-1)) w)
  (h1:RNF (fun k=>B≤k∧k<g) w tr.1 t.rest) (h2:RNF (fun k=>B≤k∧k<g) w tc.1 t.clo) (h3:RBk (fun k=>B≤k∧k<g) w bi.1 br.1 b hp hq hr) (ok:newE t c b=0) :
  RO w (fun k=>B≤k∧k<w.heap.size) g ⟨tr,tc,bi,br,hp,hq,hr,P,(none,0),(none,0),fun _=>(none,0),(none,0),(none,0),Q,R⟩ (new0 t c b):=by
 have hgw:=h.box.lt
 have b1:∀x,blkOf P=some x→g+1≤x∧x<w.heap.size:=fun x hx=>World.ownsRow.lt h.o1 x (by rw [show (Value.slice P.1 t.len.toNat P.2).ownBlock=blkOf P from own_blk P _];exact hx)
 have b2:∀x,blkOf Q=some x→g+1≤x∧x<w.heap.size:=fun x hx=>World.ownsRow.lt h.o2 x (by rw [show (Value.slice Q.1 t.len.toNat Q.2).ownBlock=blkOf Q from own_blk Q _];exact hx)
 have b3:∀x,blkOf R=some x→g+1≤x∧x<w.heap.size:=fun x hx=>World.ownsRow.lt h.o3 x (by rw [show (Value.slice R.1 t.len.toNat R.2).ownBlock=blkOf R from own_blk R _];exact hx)
 have hF:∀k,(B≤k∧k<g)→Jm (fun k=>B≤k∧k<w.heap.size) g ⟨tr,tc,bi,br,hp,hq,hr,P,(none,0),(none,0),fun _=>(none,0),(none,0),(none,0),Q,R⟩ k :=
  fun k hk=>⟨⟨hk.1,by omega⟩,by omega,by simp [blkOf],fun e=>by have:=b2 k e;omega,fun e=>by have:=b3 k e;omega⟩
 have hd:dyTo (new0 t c b).cooked (new0 t c b).days=List.replicate t.len.toNat (-1):=dyTo_none t.len.toNat
 have hd2:dyTo (new0 t c b).eaten (new0 t c b).days=List.replicate t.len.toNat (-1):=dyTo_none t.len.toNat
 have hml:(mnL t c).length=t.len.toNat:=by simp [mnL]
 have hrl:(List.replicate t.len.toNat (-1:Int)).length=t.len.toNat:=List.length_replicate
 refine ⟨?_,fun k hk=>⟨by omega,hk.2⟩,⟨hBg,hgw⟩,h1.mono hF,h2.mono hF,h3.mono hF,?_,
  ⟨⟨rfl,fun h=>by simp [new0] at h⟩,fun _ _ h=>by simp [new0] at h⟩,⟨⟨rfl,fun h=>by simp [new0] at h⟩,fun _ _ h=>by simp [new0] at h⟩,⟨⟨rfl,fun h=>by simp [new0] at h⟩,fun _ _ h=>by simp [new0] at h⟩,fun k hk=>by simp [new0] at hk,
  World.ownsRow_nil _ _ _ _,?_,?_,fun k e=>by simp [blkOf] at e,fun k e=>⟨⟨by have:=b2 k e;omega,(b2 k e).2⟩,by have:=b2 k e;omega⟩,fun k e=>⟨⟨by have:=b3 k e;omega,(b3 k e).2⟩,by have:=b3 k e;omega,fun e2=>h.a23 k e2 e⟩,OfOk.new ok,by simp [new0]⟩
 ·unfold cellsR
  rw [hd,hd2,hrl,show (mnL (new0 t c b).tm (new0 t c b).cy).length=t.len.toNat from hml]
  exact h.box
 ·show ReadsF _ w 1 P.1 (mnL t c).length (ints (mnL t c))
  rw [hml]
  refine ReadsF.of_own h.o1 (fun k hk=>?_)
  have hk':blkOf P=some k:=by rw [← show (Value.slice P.1 t.len.toNat P.2).ownBlock=blkOf P from own_blk P _];exact hk
  have:=b1 k hk'
  exact ⟨⟨by omega,this.2⟩,by omega,by simp [blkOf],h.a12 k hk',h.a13 k hk'⟩
 ·rw [hd,hrl];exact own_base h.o2 (Nat.zero_le _)
 ·rw [hd2,hrl];exact own_base h.o3 (Nat.zero_le _)
theorem row_at9 {w:World}{base e c:Nat}{A:Option Addr}{l:List Int}(h:w.ownsRow base e 1 (.slice A l.length c) l.length (ints l)){k:Nat}(hk:k<l.length) :
  ∃b,A=some ⟨b,0,none⟩∧b<w.heap.size∧w.cell? ⟨b,k,none⟩=some (.int .i64 (gi l k))∧w.frozen? ⟨b,k,none⟩=false:=by
 rcases h.2 with ⟨h1,h2⟩ | ⟨b,cap,cur,h1,hbg,hg,hrest⟩
 ·omega
 ·injection h1 with h1 _ hc
  subst h1
  subst hc
  have hlt:=World.ownsRow.lt h b rfl
  refine ⟨b,rfl,hlt.2,?_,World.ownsRow.frozenAt h _⟩
  rw [World.ownsRow.cellAt h k (by omega)]
  simp [ints,gi,hk]
section
variable {w:World}{F:Nat→Prop}{g:Nat}{h:Hr}{s:Of}
theorem RO.ckAt (hP:RO w F g h s){n:Nat}(hn:n<s.days):∃b,h.ck.1=some ⟨b,0,none⟩∧F b∧b<w.heap.size∧w.cell? ⟨b,n,none⟩=some (.int .i64 ((s.cooked n).getD (-1)))∧w.frozen? ⟨b,n,none⟩=false:=by
 obtain ⟨b,hA,hb,hc,hf⟩:=row_at9 (k:=n) hP.ck (by rw [dyTo_len];exact hn)
 rw [dyTo_at _ _ _ hn] at hc
 exact ⟨b,hA,(hP.ckF b (by unfold blkOf;rw [hA];rfl)).1,hb,hc,hf⟩
theorem RO.etAt (hP:RO w F g h s){n:Nat}(hn:n<s.days):∃b,h.et.1=some ⟨b,0,none⟩∧F b∧b<w.heap.size∧w.cell? ⟨b,n,none⟩=some (.int .i64 ((s.eaten n).getD (-1)))∧w.frozen? ⟨b,n,none⟩=false:=by
 obtain ⟨b,hA,hb,hc,hf⟩:=row_at9 (k:=n) hP.et (by rw [dyTo_len];exact hn)
 rw [dyTo_at _ _ _ hn] at hc
 exact ⟨b,hA,(hP.etF b (by unfold blkOf;rw [hA];rfl)).1,hb,hc,hf⟩
theorem RO.lo_set (hP:RO w F g h s)(p:Addr)(v:Value):∀k,grown F w (w.setCell p v) k→7≤k∧k<(w.setCell p v).heap.size:=fun k hk=>by
 rw [set_size]
 rcases hk with hk | hk
 ·exact hP.lo k hk
 ·rw [set_size] at hk;omega
theorem rcook_any (hP:RO w F g h s)(d n:Int)(hn:0≤n) :
  Calls Tryz.prog 140 #[.pointer (some ⟨g,0,none⟩),.int .i64 d,.int .i64 n] w (RetR w F g (cokE s d n) (if cokE s d n=0 then { s with cooked:=updF s.cooked d n } else s)):=by
 have q:=hP.cCk
 have hcon:=ropn_any hP d
 cases ho:s.opn d with
 | false =>
  have he:cokE s d n=13:=by unfold cokE;rw [if_pos ho]
  rw [he,if_neg (by decide)]
  rw [ho] at hcon
  have HC:=Lib.hid hcon
  clear hcon he
  go_enter Tryz.func140,Tryz.ntmps140
  go_wp2_with (go_at_call 99;(with_reducible refine HC.out.mono ?_);rintro e w5 ⟨rfl,hw5⟩;have hw6:=hw5.symm;clear hw5;subst hw6)
  go_ret
  exact hP.quiet (Below.refl _ _)
 | true =>
  obtain ⟨hd0,hd1⟩:=Of.opn_bd hP.ok ho
  have hdd:d<(s.days:Int):=by unfold Of.opn at ho;rw [decide_eq_true_eq] at ho;exact ho.2.1
  obtain ⟨m,rfl⟩:∃m:Nat,d=m:=⟨d.toNat,by omega⟩
  obtain ⟨b,hA,hbF,hbs,hc,hf⟩:=hP.ckAt (n:=m) (by omega)
  rw [hA] at q
  rw [ho] at hcon
  have HC:=Lib.hid hcon
  clear hcon
  cases hco:s.cooked m with
  | some x =>
   obtain ⟨_,hx0,hx1⟩:=hP.ok.ck m x hco
   have he:cokE s m n=12:=by unfold cokE;rw [if_neg (by rw [ho];decide),if_pos (by rw [hco];rfl)]
   rw [he,if_neg (by decide)]
   rw [hco,Option.getD_some] at hc
   clear he hco ho
   go_enter Tryz.func140,Tryz.ntmps140
   go_wp2_with (go_at_call 99;(with_reducible refine HC.out.mono ?_);rintro e w5 ⟨rfl,hw5⟩;have hw6:=hw5.symm;clear hw5;subst hw6)
   go_ret
   exact hP.quiet (Below.refl _ _)
  | none =>
   rw [hco,Option.getD_none] at hc
   by_cases h4:100000<n
   ·have he:cokE s m n=4:=by unfold cokE;rw [if_neg (by rw [ho];decide),if_neg (by rw [hco];decide),if_pos h4]
    rw [he,if_neg (by decide)]
    clear he hco ho
    go_enter Tryz.func140,Tryz.ntmps140
    go_wp2_with (go_at_call 99;(with_reducible refine HC.out.mono ?_);rintro e w5 ⟨rfl,hw5⟩;have hw6:=hw5.symm;clear hw5;subst hw6)
    go_ret
    exact hP.quiet (Below.refl _ _)
   ·have he:cokE s m n=0:=by unfold cokE;rw [if_neg (by rw [ho];decide),if_neg (by rw [hco];decide),if_neg h4]
    have hS:=hP.setCook hA (by omega) n (hP.ok.cook hn he)
    rw [he,if_pos rfl]
    clear he hco ho
    go_enter Tryz.func140,Tryz.ntmps140
    go_wp2_with (go_at_call 99;(with_reducible refine HC.out.mono ?_);rintro e w5 ⟨rfl,hw5⟩;have hw6:=hw5.symm;clear hw5;subst hw6)
    go_ret
    exact ⟨rfl,(Off.refl F w).setCell (.inl hbF) _,h,hS.wide (fun _ hk=>.inl hk) (hP.lo_set _ _)⟩
theorem reat_any (hP:RO w F g h s)(d n:Int)(hn:0≤n) :
  Calls Tryz.prog 141 #[.pointer (some ⟨g,0,none⟩),.int .i64 d,.int .i64 n] w (RetR w F g (eteE s d n) (if eteE s d n=0 then { s with eaten:=updF s.eaten d n } else s)):=by
 have q:=hP.cCk
 have q2:=hP.cEt
 have hcon:=ropn_any hP d
 cases ho:s.opn d with
 | false =>
  have he:eteE s d n=13:=by unfold eteE;rw [if_pos ho]
  rw [he,if_neg (by decide)]
  rw [ho] at hcon
  have HC:=Lib.hid hcon
  clear hcon he
  go_enter Tryz.func141,Tryz.ntmps141
  go_wp2_with (go_at_call 99;(with_reducible refine HC.out.mono ?_);rintro e w5 ⟨rfl,hw5⟩;have hw6:=hw5.symm;clear hw5;subst hw6)
  go_ret
  exact hP.quiet (Below.refl _ _)
 | true =>
  obtain ⟨hd0,hd1⟩:=Of.opn_bd hP.ok ho
  have hdd:d<(s.days:Int):=by unfold Of.opn at ho;rw [decide_eq_true_eq] at ho;exact ho.2.1
  obtain ⟨m,rfl⟩:∃m:Nat,d=m:=⟨d.toNat,by omega⟩
  obtain ⟨b,hA,hbF,hbs,hc,hf⟩:=hP.ckAt (n:=m) (by omega)
  obtain ⟨b2,hA2,hbF2,hbs2,hc2,hf2⟩:=hP.etAt (n:=m) (by omega)
  rw [hA] at q
  rw [hA2] at q2
  rw [ho] at hcon
  have HC:=Lib.hid hcon
  clear hcon
  cases hco:s.cooked m with
  | none =>
   have he:eteE s m n=12:=by unfold eteE;rw [if_neg (by rw [ho];decide),if_pos (.inl (by rw [hco];rfl))]
   rw [he,if_neg (by decide)]
   rw [hco,Option.getD_none] at hc
   clear he hco ho
   go_enter Tryz.func141,Tryz.ntmps141
   go_wp2_with (go_at_call 99;(with_reducible refine HC.out.mono ?_);rintro e w5 ⟨rfl,hw5⟩;have hw6:=hw5.symm;clear hw5;subst hw6)
   go_ret
   exact hP.quiet (Below.refl _ _)
  | some x =>
   obtain ⟨_,hx0,hx1⟩:=hP.ok.ck m x hco
   rw [hco,Option.getD_some] at hc
   cases het:s.eaten m with
   | some y =>
    obtain ⟨x',hx',hy0,hy1⟩:=hP.ok.et m y het
    rw [het,Option.getD_some] at hc2
    have he:eteE s m n=12:=by unfold eteE;rw [if_neg (by rw [ho];decide),if_pos (.inr (by rw [het];rfl))]
    rw [he,if_neg (by decide)]
    clear he hco ho het hx'
    go_enter Tryz.func141,Tryz.ntmps141
    go_wp2_with (go_at_call 99;(with_reducible refine HC.out.mono ?_);rintro e w5 ⟨rfl,hw5⟩;have hw6:=hw5.symm;clear hw5;subst hw6)
    go_ret
    exact hP.quiet (Below.refl _ _)
   | none =>
    rw [het,Option.getD_none] at hc2
    by_cases h4:x<n
    ·have he:eteE s m n=11:=by unfold eteE;rw [if_neg (by rw [ho];decide),if_neg (by rw [hco,het];simp),if_pos (by rw [hco];exact h4)]
     rw [he,if_neg (by decide)]
     clear he hco ho het
     go_enter Tryz.func141,Tryz.ntmps141
     go_wp2_with (go_at_call 99;(with_reducible refine HC.out.mono ?_);rintro e w5 ⟨rfl,hw5⟩;have hw6:=hw5.symm;clear hw5;subst hw6)
     go_ret
     exact hP.quiet (Below.refl _ _)
    ·have he:eteE s m n=0:=by unfold eteE;rw [if_neg (by rw [ho];decide),if_neg (by rw [hco,het];simp),if_neg (by rw [hco];exact h4)]
     have hS:=hP.setEat hA2 (by omega) n (hP.ok.eat hn he)
     rw [he,if_pos rfl]
     clear he hco ho het
     go_enter Tryz.func141,Tryz.ntmps141
     go_wp2_with (go_at_call 99;(with_reducible refine HC.out.mono ?_);rintro e w5 ⟨rfl,hw5⟩;have hw6:=hw5.symm;clear hw5;subst hw6)
     go_ret
     exact ⟨rfl,(Off.refl F w).setCell (.inl hbF2) _,h,hS.wide (fun _ hk=>.inl hk) (hP.lo_set _ _)⟩
theorem rofree_any (hP:RO w F g h s)(n:List Int)(hn:n.length=3) :
  Calls Tryz.prog 139 #[.pointer (some ⟨g,0,none⟩),.int .i64 (gi n 0),.int .i64 (gi n 1),.int .i64 (gi n 2)] w (RetR w F g (freE s n) (if freE s n=0 then { s with rights:=freR s n } else s)):=by
 have hcon:=rchild_any hP (gi n 0)
 cases hk:hasK s.kids (gi n 0) with
 | false =>
  have he:freE s n=5:=by unfold freE;rw [if_pos hk]
  rw [he,if_neg (by decide)]
  rw [kix_none hk] at hcon
  have HC:=Lib.hid hcon
  clear hcon he hk
  go_enter Tryz.func139,Tryz.ntmps139
  go_wp2_with (go_at_call 98;(with_reducible refine HC.out.mono ?_);rintro e w5 ⟨rfl,hw5⟩;have hw6:=hw5.symm;clear hw5;subst hw6)
  go_ret
  exact hP.quiet (Below.refl _ _)
 | true =>
  have he:freE s n=vrt (freR s n):=by unfold freE;rw [if_neg (by rw [hk];decide)]
  obtain ⟨i,hi,hix,_,_⟩:=kix_some hk
  rw [hix] at hcon
  have hi0:decide ((i:Int)<0)=false:=by rw [decide_eq_false_iff_not];omega
  have HC:=Lib.hid hcon
  obtain ⟨E,hE⟩:∃E,freE s n=E:=⟨_,rfl⟩
  rw [hE]
  rw [hE] at he
  obtain ⟨T,hT⟩:∃T,T=if E=0 then { s with rights:=freR s n } else s:=⟨_,rfl⟩
  rw [← hT]
  have HT:=Lib.hid hT
  have HEE:=Lib.hid he
  have HE2:=Lib.hid hE
  have hrl:=hP.ok.rl
  have hgl:=hP.gl
  have q:=hP.cRi
  have hR:=hP.ri.1
  obtain ⟨i0,hi0',hz0,hz1,hz2⟩:=info_parts info_right'
  have own0:(w.alloc (.cells #[] 110)).ownsRow w.heap.size 110 3 (.slice (some ⟨w.heap.size,0,none⟩) 0 0) 0 []:=World.ownsRow_lit w #[] 0 (Nat.le_refl _) (by unfold maxLen;omega) rfl
  have hb0:Below w.heap.size w (w.alloc (.cells #[] 110)):=(Below.refl _ _).alloc (Nat.le_refl _) _
  have hl1:(freR s n).length=s.rights.length+1:=by simp [freR]
  clear hcon he hk hix hT hE
  go_enter Tryz.func139,Tryz.ntmps139
  go_wp2_with (first
   | (go_at_call 98;(with_reducible refine HC.out.mono ?_);rintro e w5 ⟨rfl,hw5⟩;have hw6:=hw5.symm;clear hw5;subst hw6)
   | (at_builtin;refine wpList_append_any _ rfl _ _ 97 rfl w.heap.size 110 i0 _ 3 24 Tryz.underlying97 hi0' hz0 hz1 hz2 rfl (by omega) _ 0 [] rfl own0 _ h.ri.1 s.rights.length h.ri.2 (cellsS s.rights) rfl (hR.below' hb0 (Nat.le_refl _)) (cellsS_one _) (by unfold maxLen;omega) (by omega) hb0.size ?_;intro v' w2 own2 hg2 hat2;obtain ⟨A',c',hAc⟩:=own_shape own2;subst hAc;rw [Nat.zero_add,List.nil_append] at own2;have hb2:Below w.heap.size w w2:=hb0.grown hg2 hb0.size (fun k hk=>(by have e:(some w.heap.size:Option Nat)=some k:=hk;cases e;exact Nat.le_refl _));have hs2:=hb2.size)
   | (at_builtin;refine wpList_app2 rfl _ _ rfl Tryz.underlying97 info_right' rfl (by omega) rfl own2 (news:=[.int .i64 (gi n 0),.int .i64 (gi n 1),.int .i64 (gi n 2)]) rfl rfl rfl (by simp [Value.oneCell']) (by omega) (by omega) hs2 ?_;intro A3 c3 w3 own3 hb3 hk3;have hb4:Below w.heap.size w w3:=hb2.trans (hb3 _ (Nat.le_refl _));have own4:w3.ownsRow w.heap.size 110 3 (.slice A3 (s.rights.length+1) c3) (s.rights.length+1) (cellsS (freR s n)):=(by rw [freR,cellsS_append];exact own3);have hva:=rvrights_any (freR s n) A3 c3 w3 (by unfold RSO;rw [hl1];exact Reads.of_own own4) (by omega);rw [hl1,← HEE.out] at hva;have HVA:=Lib.hid hva;clear hva own3))
  refine HVA.out.mono ?_
  rintro e w4 ⟨rfl,hb5⟩
  have hb6:Below w.heap.size w w4:=hb4.trans (hb5.mono hb4.size)
  have own5:=own_below own4 hb5 (fun k hk=>(World.ownsRow.lt own4 k hk).2)
  have hP4:=hP.below' hb6
  have hgf:=hP4.box.free 14
  have hgc:=hP4.cRi
  by_cases hv:E=0
  ·subst hv
   have hT2:T={ s with rights:=freR s n }:=by rw [HT.out,if_pos rfl]
   have hR4:ReadsF (Jm (grown F w w4) g h) w4 3 A3 (freR s n).length (cellsS (freR s n)):=by rw [hl1];exact ReadsF.of_own' own5 (fun k h1 h2=>hP.new_jm h1 h2)
   have hok:=hP.ok.free HE2.out
   have hS:=hP4.setRights (c:=c3) hR4 hok
   rw [hl1] at hS
   have HT2:=Lib.hid hT2
   clear hT2 hR4
   go_wp2
   go_ret
   rw [HT2.out]
   exact ⟨rfl,(Off.of_below hb6).setCell (.inl hP.gF) _,_,hS.re fun k=>(grown_set _ _ k).symm⟩
  ·have hv1:(E == 0)=false:=by simp [hv]
   have hT2:T=s:=by rw [HT.out,if_neg hv]
   have HT2:=Lib.hid hT2
   clear hT2 hv
   go_wp2
   go_ret
   rw [HT2.out]
   exact hP.quiet hb6
end
end Go.Proofs.YtiapkffihpgdcaaGreatDoor
namespace Go.Proofs.YtiapkffihpgdcaaGreatDoor
open Go.RowKit Go.Sort Go.MuLone
theorem own2_set2 {w:World}{base e n c b:Nat}{f g:Nat→Value}(h:w.ownsRow base e 2 (.slice (some ⟨b,0,none⟩) n c) n (cells2 n f g)){k:Nat}(hk:k<n)(v:Value) :
  (w.setCell ⟨b,k*2+1,none⟩ v).ownsRow base e 2 (.slice (some ⟨b,0,none⟩) n c) n (cells2 n f (fun i=>if i=k then v else g i)):=by
 have e:=(World.ownsRow.stored h (k*2+1) v).1
 rw [cells2_set2 k hk] at e
 exact e
theorem OfOk.avl {s:Of}(hs:OfOk s){k:Nat}(hk:k<s.kids.length):(gk s.kids k).avoid.length≤10:=by
 have h1:=hs.bk.p0
 have h2:=hs.bk.p10
 have:=isSet_len (hs.ka _ (gk_mem hk)) h1
 omega
/-- The children's copy,with lists of its own up to k. -/
structure EatI (w:World) (B:Nat) (s:Of) (h0:Nat→SlH) (A:Option Addr) (c k:Nat) (hk:Nat→SlH) (wr:World):Prop where
 own:wr.ownsRow w.heap.size 56 2 (.slice A s.kids.length c) s.kids.length (cells2 s.kids.length (fun i=>.int .i64 (gk s.kids i).num) (fun i=>slN (hk i) (gk s.kids i).avoid.length))
 new:∀i,i<k→RNF (fun x=>B≤x) wr (hk i).1 (gk s.kids i).avoid
 old:∀i,k≤i→hk i=h0 i
 low:∀x,(Value.slice A s.kids.length c).ownBlock=some x→x<B
 below:Below w.heap.size w wr
 base:w.heap.size≤B
 size:B≤wr.heap.size
section
variable {w wr:World}{B:Nat}{s:Of}{h0 hk:Nat→SlH}{A:Option Addr}{c k:Nat}
theorem EatI.keep (h:EatI w B s h0 A c k hk wr){w':World}(hb:Below wr.heap.size wr w'):EatI w B s h0 A c k hk w' :=
 ⟨own_below h.own hb fun x hx=>(World.ownsRow.lt h.own x hx).2,fun i hi=>(h.new i hi).below hb,h.old,h.low,h.below.trans (hb.mono h.below.size),h.base,Nat.le_trans h.size hb.size⟩
theorem EatI.step {b:Nat}(h:EatI w B s h0 (some ⟨b,0,none⟩) c k hk wr)(hl:k<s.kids.length){P:SlH}(hP:RNF (fun x=>B≤x) wr P.1 (gk s.kids k).avoid) :
  EatI w B s h0 (some ⟨b,0,none⟩) c (k+1) (fun i=>if i=k then P else hk i) (wr.setCell ⟨b,k*2+1,none⟩ (slN P (gk s.kids k).avoid.length)):=by
 have hbB:b<B:=h.low b rfl
 have hwb:w.heap.size≤b:=(World.ownsRow.lt h.own b rfl).1
 have hs:∀{l:List Int} {A:Option Addr},RNF (fun x=>B≤x) wr A l→RNF (fun x=>B≤x) (wr.setCell ⟨b,k*2+1,none⟩ (slN P (gk s.kids k).avoid.length)) A l:=fun hl=>hl.setCell (by show ¬ B≤b;omega) _
 refine ⟨?_,fun i hi=>?_,fun i hi=>?_,h.low,h.below.setCell (p:=⟨b,k*2+1,none⟩) hwb _,h.base,by rw [set_size];exact h.size⟩
 ·have e:=own2_set2 h.own hl (slN P (gk s.kids k).avoid.length)
  rw [cells2_congr (f':=fun i=>.int .i64 (gk s.kids i).num) (g':=fun i=>slN ((fun i=>if i=k then P else hk i) i) (gk s.kids i).avoid.length) (fun _ _=>rfl) (fun i _=>by
   by_cases e:i=k
   ·subst e;simp
   ·simp [e])] at e
  exact e
 ·by_cases e:i=k
  ·subst e
   simp only [if_true]
   exact hs hP
  ·simp only [if_neg e]
   exact hs (h.new i (by omega))
 ·have e:i≠k:=by omega
  simp only [if_neg e]
  exact h.old i (by omega)
end
section
variable {L:Int}{N:Nat}{w:World}{F:Nat→Prop}{g:Nat}{h:Hd}{s:Of}
theorem eaters_any (hP:PO L N w F g h s) :
  Calls Tryz.prog 84 #[.pointer (some ⟨g,0,none⟩)] w fun e w'=>∃A c hk,e=.returned (.slice A s.kids.length c)∧RKd (fun k=>w.heap.size≤k) w' A s.kids hk∧Below w.heap.size w w':=by
 have q:=hP.cKd
 have hkl:=hP.ok.kl
 have HC:=Lib.hid (clone_child s.kids.length _ (by omega) (cells2_one (fun _ _=>rfl) (fun _ _=>rfl)) h.kd.1 h.kd.2 w (Reads.of_own hP.kd))
 go_enter Tryz.func84,Tryz.ntmps84
 go_wp2_with (go_at_call 168;(with_reducible refine HC.out.mono ?_);rintro e w2 ⟨A',c',rfl,own2,hb2⟩)
 have HI0:EatI w w2.heap.size s h.hk A' c' 0 h.hk w2:=⟨own2,fun i hi=>absurd hi (Nat.not_lt_zero _),fun _ _=>rfl,fun x hx=>(World.ownsRow.lt own2 x hx).2,hb2,hb2.size,Nat.le_refl _⟩
 clear own2
 go_loopw [12] (fun x wr=>∃(k:Nat) (hk:Nat→SlH),k≤s.kids.length∧x=.int .i64 k∧EatI w w2.heap.size s h.hk A' c' k hk wr) (fun x _=>s.kids.length-(intOf x).toNat)
 case atStart=>exact ⟨0,h.hk,by omega,rfl,HI0⟩
 case round =>
  clear HI0
  obtain ⟨k,hk,hkk,rfl,HI⟩:=hrel
  by_cases hlt:k<s.kids.length
  ·obtain ⟨b,rfl,hbb,hbs,d0,d1,f0,f1,_,_⟩:=own2_at HI.own hlt
   have e1:=HI.old k (Nat.le_refl _)
   rw [e1] at d1
   unfold slN at d1
   have r1:RN wr (h.hk k).1 (gk s.kids k).avoid:=((hP.below HI.below).av k hlt).rn
   have lp:=hP.ok.avl hlt
   have HD:=Lib.hid (clone_any (gk s.kids k).avoid (by omega) (h.hk k).1 (h.hk k).2 _ r1)
   clear e1 r1
   go_wp2_with (go_at_call 154;(with_reducible refine HD.out.mono ?_);rintro e wA ⟨AA,cA,rfl,ownA,hbA⟩;have hsA:wr.heap.size≤wA.heap.size:=hbA.size;have z3:=(hbA.frozen (p:=⟨b,k*2+1,none⟩) (by exact hbs)).trans f1;have z5:=(hbA.cell (p:=⟨b,k*2+1,none⟩) (by exact hbs)).trans d1)
   have HS:=(HI.keep hbA).step hlt (P:=(AA,cA)) ((RNF.of_own' ownA).mono fun x hx=>Nat.le_trans HI.size hx)
   go_roundw
   case rel=>exact ⟨k+1,_,by omega,by go_num,HS⟩
   case measure=>simp [intOf];omega
  ·obtain rfl:k=s.kids.length:=by omega
   go_wp2_with fail
   go_ret
   exact ⟨A',c',hk,rfl,⟨ReadsF.of_own HI.own fun x hx=>(World.ownsRow.lt HI.own x hx).1,fun i hi=>(HI.new i hi).mono fun x hx=>Nat.le_trans HI.base hx⟩,HI.below⟩
theorem cEaters_any (hP:PO L N w F g h s){b1:Nat}(x1:w.cell? ⟨b1,0,none⟩=some (.pointer (some ⟨g,0,none⟩))) :
  Calls Tryz.prog 83 #[.pointer (some ⟨b1,0,none⟩)] w fun e w'=>∃A c hk,e=.returned (.tuple #[.slice A s.kids.length c,.int .i64 0])∧RKd (fun k=>w.heap.size≤k) w' A s.kids hk∧Below w.heap.size w w':=by
 have HC:=Lib.hid (eaters_any hP)
 go_enter Tryz.func83,Tryz.ntmps83
 go_wp2_with (go_at_call 84;(with_reducible refine HC.out.mono ?_);rintro e w2 ⟨A',c',hk,rfl,hr,hb2⟩)
 go_ret2
 exact ⟨A',c',hk,rfl,hr,hb2⟩
theorem lbn_no {n:Wd}(hd:dishB s.dishes n=false):lbnE s n=5∧lbnR s n=[]:=by unfold lbnE lbnR;rw [hd];exact ⟨rfl,rfl⟩
theorem lbn_yes {n:Wd}(hd:dishB s.dishes n=true):lbnE s n=nmE s.bk (dshOf s.dishes n).item∧lbnR s n=labR s.bk (dshOf s.dishes n).item:=by unfold lbnE lbnR;rw [hd];exact ⟨rfl,rfl⟩
theorem cLabel_any (hP:PO L N w F g h s)(hE:EnvZ w)(n:Wd){b1 b2:Nat}(x1:w.cell? ⟨b1,0,none⟩=some (.pointer (some ⟨g,0,none⟩)))(x2:w.cell? ⟨b2,0,none⟩=some (St n))(l1:b1<w.heap.size)(l2:b2<w.heap.size) :
  Calls Tryz.prog 103 #[.pointer (some ⟨b1,0,none⟩),.pointer (some ⟨b2,0,none⟩)] w fun e w'=>∃A c,e=.returned (.tuple #[.slice A (lbnR s n).length c,.int .i64 (lbnE s n)])∧RNF (fun k=>w.heap.size≤k) w' A (lbnR s n)∧Below w.heap.size w w':=by
 have q:=hP.cDs
 have hdl:=hP.ok.dl'
 have HC:=Lib.hid (indexDish_label s.dishes n (by omega) h.ds.1 h.ds.2 b2 w hP.dish x2 l2)
 cases hd:dishB s.dishes n with
 | false =>
  obtain ⟨e1,e2⟩:=lbn_no (s:=s) hd
  obtain ⟨j1,j2⟩:=dix_no hd
  rw [e1,e2]
  obtain ⟨X,hX⟩:∃X,X=dix s.dishes n:=⟨_,rfl⟩
  rw [← hX] at HC j1 j2
  clear e1 e2 hd hX
  go_enter Tryz.func103,Tryz.ntmps103
  go_wp2_with (go_at_call 104;(with_reducible refine HC.out.mono ?_);rintro e w2 ⟨rfl,hb2⟩)
  go_ret2
  exact ⟨none,0,rfl,RNF.nil _ _ _,hb2⟩
 | true =>
  obtain ⟨e1,e2⟩:=lbn_yes (s:=s) hd
  obtain ⟨k,hk,hix,_,hgd⟩:=dix_some hd
  rw [e1,e2,← hgd]
  rw [hix] at HC
  have hk0:decide ((k:Int)<0)=false:=by rw [decide_eq_false_iff_not];omega
  have hL:=hP.ok.bk.len
  clear e1 e2 hd hix hgd
  go_enter Tryz.func103,Tryz.ntmps103
  go_wp2_with (go_at_call 104;(with_reducible refine HC.out.mono ?_);rintro e w2 ⟨rfl,hb2⟩;have hP2:=hP.below hb2;have hP3:=hP2.below (Below.refl _ w2).drew;have hE3:=(hE.below hb2).below (Below.refl _ w2).drew;have y1:=(hb2.cell (p:=⟨b1,0,none⟩) l1).trans x1;have q8:=hP2.cProps;have q9:=hP2.cItems;have q10:=hP2.cRules;have q13:=hP2.cDs;obtain ⟨ad,hA,hab,t0,t1⟩:=hP2.dish.at_ hk;rw [hA] at q13)
  go_region_with (go_at_call 48;(with_reducible refine (Label_any s.bk hL (gd s.dishes k).item _ _ _ _ _ _ _ _ _ hE3 hP3.bk).mono ?_);rintro e w3 ⟨A',c',rfl,own3,hb3⟩)
  all_goals
   go_wp2_with fail
   go_ret2
   exact ⟨A',c',rfl,(RNF.of_own' own3).mono fun x hx=>Nat.le_trans hb2.size hx,hb2.trans (((Below.refl w2.heap.size w2).drew.trans hb3).mono hb2.size)⟩
end
/-- Children that a locked question hands back. -/
theorem RetL.kids {g:Nat}{w:World}{l:List Kd}{Z:Value}{e:Ending}{w':World}
  (h:RetL 0 Z g w (fun v x=>∃A c hk,v=.slice A l.length c∧RKd (fun k=>w.heap.size≤k) x A l hk) e w') (hg:g<w.heap.size) :
  ∃A c hk,e=.returned (.tuple #[.slice A l.length c,.int .i64 0])∧RKd (fun k=>w.heap.size≤k) w' A l hk∧Below w.heap.size w w':=by
 obtain ⟨v,w2,he,⟨A,c,hk,rfl,hr⟩,hw,_,hb⟩:=h
 rw [if_pos rfl] at he
 subst hw
 have hK:Keeps (fun k=>w.heap.size≤k) w2 (w2.setCell ⟨g,0,none⟩ (.int .i32 0)):=⟨by rw [set_size];exact Nat.le_refl _,fun k hk _=>set_other _ _ _ _ (by omega)⟩
 exact ⟨A,c,hk,he,⟨hr.row.kept hK,fun i hi=>(hr.avoid i hi).kept hK⟩,hb⟩
/-- Numbers that a locked question hands back;none if it refuses. -/
theorem RetL.nums {E:Int}{g:Nat}{w:World}{l:List Int}{e:Ending}{w':World}
  (h:RetL E (.slice none 0 0) g w (fun v x=>∃A c,v=.slice A l.length c∧RNF (fun k=>w.heap.size≤k) x A l) e w') (hg:g<w.heap.size) (hE:E≠0→l=[]) :
  ∃A c,e=.returned (.tuple #[.slice A l.length c,.int .i64 E])∧RNF (fun k=>w.heap.size≤k) w' A l∧Below w.heap.size w w':=by
 obtain ⟨v,w2,he,⟨A,c,rfl,hr⟩,hw,_,hb⟩:=h
 subst hw
 by_cases h0:E=0
 ·rw [if_pos h0] at he
  exact ⟨A,c,he,hr.kept ⟨by rw [set_size];exact Nat.le_refl _,fun k hk _=>set_other _ _ _ _ (by omega)⟩,hb⟩
 ·rw [if_neg h0] at he
  rw [hE h0]
  exact ⟨none,0,he,RNF.nil _ _ _,hb⟩
section
variable {N:Nat}{w:World}{F:Nat→Prop}{g:Nat}{h:Hd}{s:Of}
theorem oEaters_any (hP:PO 0 N w F g h s) :
  Calls Tryz.prog 26 #[.pointer (some ⟨g,0,none⟩)] w fun e w'=>∃A c hk,e=.returned (.slice A s.kids.length c)∧RKd (fun k=>w.heap.size≤k) w' A s.kids hk∧Below w.heap.size w w':=by
 obtain ⟨w2,hw2⟩:∃w2,w.alloc (.cells #[.pointer (some ⟨g,0,none⟩)] 35)=w2:=⟨_,rfl⟩
 have hb2:Below w.heap.size w w2:=by rw [← hw2];exact (Below.refl _ w).alloc (Nat.le_refl _) _
 have b1:Box w2 w.heap.size #[.pointer (some ⟨g,0,none⟩)]:=by rw [← hw2];exact Box.new w _ _
 have x1:=b1.cell 0
 simp only [gqA,gqB,gqC] at x1
 have hP2:=hP.below hb2
 have hgl:=hP.gl
 have hg2:=hP2.gl
 have hl1:=b1.lt
 have hK:∀args w,(callFunc 83 args).run Tryz.prog w=.ok (.enter 83 args) w:=enters_of Tryz.func83 (by kernel_rfl) rfl
 have hcl:=lockedKd_any hP2 (K:=83) (caps:=#[.pointer (some ⟨w.heap.size,0,none⟩)]) (E:=0) (Q:=fun v x=>∃A c hk,v=.slice A s.kids.length c∧RKd (fun k=>w2.heap.size≤k) x A s.kids hk) hK
  ((cEaters_any (hP2.lock rfl) ((b1.setg (by omega)).cell 0)).mono fun e w' ⟨A,c,hk,he,hr,hb⟩=>⟨_,he,⟨A,c,hk,rfl,by rw [set_size] at hr;exact hr⟩,by rw [set_size] at hb;exact hb⟩)
 have HC:=Lib.hid (hcl.mono fun e w' hh=>hh.kids hg2)
 clear hcl hK
 go_enter Tryz.func26,Tryz.ntmps26
 go_wp2_with (go_at_call 82;(with_reducible refine HC.out.mono ?_);rintro e w3 ⟨A,c,hk,rfl,hr,hb3⟩)
 go_ret
 exact ⟨A,c,hk,rfl,hr.mono fun k hk=>Nat.le_trans hb2.size hk,hb2.trans (hb3.mono hb2.size)⟩
theorem oLabel_any (hP:PO 0 N w F g h s)(hE:EnvZ w)(n:Wd) :
  Calls Tryz.prog 41 #[.pointer (some ⟨g,0,none⟩),St n] w fun e w'=>∃A c,e=.returned (.tuple #[.slice A (lbnR s n).length c,.int .i64 (lbnE s n)])∧RNF (fun k=>w.heap.size≤k) w' A (lbnR s n)∧Below w.heap.size w w':=by
 obtain ⟨w2,hw2⟩:∃w2,(w.alloc (.cells #[.pointer (some ⟨g,0,none⟩)] 35)).alloc (.cells #[St n] 9)=w2:=⟨_,rfl⟩
 have hb2:Below w.heap.size w w2:=by rw [← hw2];exact ((Below.refl _ w).alloc (Nat.le_refl _) _).alloc (by simp) _
 have b1:Box w2 w.heap.size #[.pointer (some ⟨g,0,none⟩)]:=by rw [← hw2];exact (Box.new w _ _).alloc _
 have b2:Box w2 (w.heap.size+1) #[St n]:=by rw [← hw2];exact (Box.new (w.alloc _) _ _).at' (by simp)
 have hl2:=b2.lt
 have x1:=b1.cell 0
 simp only [gqA,gqB,gqC] at x1
 have hP2:=hP.below hb2
 have hgl:=hP.gl
 have hg2:=hP2.gl
 have hl1:=b1.lt
 have hK:∀args w,(callFunc 103 args).run Tryz.prog w=.ok (.enter 103 args) w:=enters_of Tryz.func103 (by kernel_rfl) rfl
 have hR:lbnE s n≠0→lbnR s n=[]:=fun hn=>by
  cases hd:dishB s.dishes n with
  | false=>exact (lbn_no hd).2
  | true =>
   obtain ⟨e1,e2⟩:=lbn_yes (s:=s) hd
   rw [e1] at hn
   rw [e2]
   unfold labR
   rw [if_neg hn]
 have hcl:=lockedIs_any hP2 (K:=103) (caps:=#[.pointer (some ⟨w.heap.size,0,none⟩),.pointer (some ⟨w.heap.size+1,0,none⟩)]) (E:=lbnE s n) (Q:=fun v x=>∃A c,v=.slice A (lbnR s n).length c∧RNF (fun k=>w2.heap.size≤k) x A (lbnR s n)) hK
  ((cLabel_any (hP2.lock rfl) ((hE.below hb2).lock (hP2.lo _ hP2.gF).1 rfl) n ((b1.setg (by omega)).cell 0) ((b2.setg (by omega)).cell 0) (by rw [set_size];exact hl1) (by rw [set_size];exact hl2)).mono fun e w' ⟨A,c,he,hr,hb⟩=>⟨_,he,⟨A,c,rfl,by rw [set_size] at hr;exact hr⟩,by rw [set_size] at hb;exact hb⟩)
 have HC:=Lib.hid (hcl.mono fun e w' hh=>hh.nums hg2 hR)
 clear hcl hK
 go_enter Tryz.func41,Tryz.ntmps41
 go_wp2_with (go_at_call 102;(with_reducible refine HC.out.mono ?_);rintro e w3 ⟨A,c,rfl,hr,hb3⟩)
 go_ret2
 exact ⟨A,c,rfl,hr.mono fun k hk=>Nat.le_trans hb2.size hk,hb2.trans (hb3.mono hb2.size)⟩
end
end Go.Proofs.YtiapkffihpgdcaaGreatDoor
