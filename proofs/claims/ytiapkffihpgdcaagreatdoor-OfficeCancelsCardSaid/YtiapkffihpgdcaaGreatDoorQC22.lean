import Derived.Test.YtiapkffihpgdcaaGreatDoorQC12
import Derived.Test.YtiapkffihpgdcaaGreatDoorQC14
import Derived.Test.YtiapkffihpgdcaaGreatDoorQC18
import Derived.Test.YtiapkffihpgdcaaGreatDoorQC19
import Derived.Test.YtiapkffihpgdcaaGreatDoorQC21
set_option linter.unusedVariables false
set_option linter.unusedSimpArgs false
set_option maxRecDepth 100000
set_option maxHeartbeats 4000000
namespace Go.Proofs.YtiapkffihpgdcaaGreatDoor
open Go.RowKit Go.Sort
section
variable {w w':World}{F F':Nat→Prop}{g:Nat}{h h':Hr}{s s':Of}
theorem Jm.mono (hF:∀k,F k→F' k){k:Nat}(hi:Jm F g h k):Jm F' g h k:=⟨hF k hi.1,hi.2⟩
theorem RO.wide (hP:RO w F g h s)(hF:∀k,F k→F' k)(hl:∀k,F' k→7≤k∧k<w.heap.size):RO w F' g h s:=by
 have hi:∀k,Jm F g h k→Jm F' g h k:=fun k=>Jm.mono hF
 exact ⟨hP.box,hl,hF _ hP.gF,hP.rest.mono hi,hP.clo.mono hi,hP.bk.mono hi,hP.mn.mono hi,hP.fa.mono hi,hP.ri.mono hi,hP.kd.mono hi,fun k hk'=>(hP.av k hk').mono hi,hP.ds,hP.ck,hP.et,
  fun k e=>⟨hF _ (hP.dsF k e).1,(hP.dsF k e).2⟩,fun k e=>⟨hF _ (hP.ckF k e).1,(hP.ckF k e).2⟩,fun k e=>⟨hF _ (hP.etF k e).1,(hP.etF k e).2⟩,hP.ok,hP.fc⟩
theorem RO.grown_lo (hP:RO w F g h s)(hs:w.heap.size≤w'.heap.size):∀k,grown F w w' k→7≤k∧k<w'.heap.size:=fun k hk=>by
 rcases hk with hk | hk
 ·have:=hP.lo k hk;omega
 ·have:=hP.lo g hP.gF;omega
theorem RO.below' (hP:RO w F g h s)(hb:Below w.heap.size w w'):RO w' (grown F w w') g h s:=(hP.below hb).wide (fun _ hk=>.inl hk) (hP.grown_lo hb.size)
theorem RO.re (hP:RO w F g h s)(hF:∀k,F k=F' k):RO w F' g h s:=by
 have:F=F':=funext hF
 rw [← this];exact hP
/-- What is new is no block that is written to. -/
theorem RO.new_jm (hP:RO w F g h s){k:Nat}(h1:w.heap.size≤k)(h2:k<w'.heap.size):Jm (grown F w w') g h k:=by
 have a1:=hP.gl
 refine ⟨.inr ⟨h1,h2⟩,by omega,fun e=>?_,fun e=>?_,fun e=>?_⟩
 ·have:=(hP.lo k (hP.dsF k e).1).2;omega
 ·have:=(hP.lo k (hP.ckF k e).1).2;omega
 ·have:=(hP.lo k (hP.etF k e).1).2;omega
/-- What a method of the document's office leaves that writes. -/
def RetR (w:World)(F:Nat→Prop)(g:Nat)(code:Int)(s':Of)(e:Ending)(w':World):Prop :=
 e=.returned (.int .i64 code)∧Off F w w'∧∃h',RO w' (grown F w w') g h' s'
theorem RO.quiet (hP:RO w F g h s){code:Int}(hb:Below w.heap.size w w'):RetR w F g code s (.returned (.int .i64 code)) w':=⟨rfl,.of_below hb,h,hP.below' hb⟩
/-- Stores into the office's own cells;the lists that nothing writes to may be others. -/
theorem RO.put (hP:RO w F g h s)(box:Box w' g (cellsR s' h'))(hk:Keeps (fun k=>k≠g) w w')(e:s'.tm=s.tm∧s'.cy=s.cy∧s'.bk=s.bk∧s'.cooked=s.cooked∧s'.eaten=s.eaten∧s'.dishes=s.dishes)
  (eh:h'.tr=h.tr∧h'.tc=h.tc∧h'.bi=h.bi∧h'.br=h.br∧h'.hp=h.hp∧h'.hq=h.hq∧h'.hr=h.hr∧h'.mn=h.mn∧h'.ck=h.ck∧h'.et=h.et∧h'.ds=h.ds)
  (fa:ReadsF (Jm F g h) w 5 h'.fa.1 s'.facts.length (cellsF s'.facts)) (ri:ReadsF (Jm F g h) w 3 h'.ri.1 s'.rights.length (cellsS s'.rights))
  (kd:ReadsF (Jm F g h) w 2 h'.kd.1 s'.kids.length (cells2 s'.kids.length (fun k=>.int .i64 (gk s'.kids k).num) (fun k=>slN (h'.hk k) (gk s'.kids k).avoid.length)))
  (av:∀k,k<s'.kids.length→RNF (Jm F g h) w (h'.hk k).1 (gk s'.kids k).avoid) (ok:OfOk s') (fc:s'.facts.length≤h'.fa.2):RO w' F g h' s':=by
 obtain ⟨e1,e2,e3,e4,e5,e6⟩:=e
 obtain ⟨r1,r2,r3,r4,r5,r6,r7,r8,r9,r10,r11⟩:=eh
 have hJ:Jm F g h'=Jm F g h:=by funext k;unfold Jm;rw [r9,r10,r11]
 have hi:Keeps (Jm F g h) w w':=hk.mono fun k hk=>hk.2.1
 have hd:s'.days=s.days:=by unfold Of.days;rw [e1]
 refine ⟨box,fun k hk'=>⟨(hP.lo k hk').1,Nat.lt_of_lt_of_le (hP.lo k hk').2 hk.size⟩,hP.gF,?_,?_,?_,?_,?_,?_,?_,?_,?_,?_,?_,?_,?_,?_,ok,fc⟩
 ·rw [hJ,r1,e1];exact hP.rest.kept hi
 ·rw [hJ,r2,e1];exact hP.clo.kept hi
 ·rw [hJ,r3,r4,r5,r6,r7,e3];exact hP.bk.kept hi
 ·rw [hJ,r8,e1,e2];exact hP.mn.kept hi
 ·rw [hJ];exact fa.kept hi
 ·rw [hJ];exact ri.kept hi
 ·rw [hJ];exact kd.kept hi
 ·rw [hJ];exact fun k hk'=>(av k hk').kept hi
 ·rw [r11,e6];exact own_kept hP.ds hk fun k e=>(hP.dsF k (by rw [own_blk] at e;exact e)).2
 ·rw [r9,e4,hd];exact own_kept hP.ck hk fun k e=>(hP.ckF k (by rw [own_blk] at e;exact e)).2
 ·rw [r10,e5,hd];exact own_kept hP.et hk fun k e=>(hP.etF k (by rw [own_blk] at e;exact e)).2.1
 ·rw [r11];exact hP.dsF
 ·rw [r9];exact hP.ckF
 ·rw [r9,r10];exact hP.etF
theorem keeps_g {g j:Nat}(w:World)(v:Value):Keeps (fun k=>k≠g) w (w.setCell ⟨g,j,none⟩ v):=⟨by rw [set_size];exact Nat.le_refl _,fun k hk _=>set_other _ _ _ _ hk⟩
theorem Keeps.trans' {a b c:World}(h1:Keeps F a b)(h2:Keeps F b c):Keeps F a c:=⟨Nat.le_trans h1.size h2.size,fun k hk hs=>(h2.block k hk (Nat.lt_of_lt_of_le hs h1.size)).trans (h1.block k hk hs)⟩
/-- The minute turns. -/
theorem RO.setNow (hP:RO w F g h s)(n:Int)(ok:OfOk { s with now:=n }):RO (w.setCell ⟨g,10,none⟩ (.int .i64 n)) F g h { s with now:=n } :=
 hP.put (hP.box.set 10 _ (by simp [cellsR])) (keeps_g _ _) ⟨rfl,rfl,rfl,rfl,rfl,rfl⟩ ⟨rfl,rfl,rfl,rfl,rfl,rfl,rfl,rfl,rfl,rfl,rfl⟩ hP.fa hP.ri hP.kd hP.av ok hP.fc
theorem RO.setFacts (hP:RO w F g h s){A:Option Addr}{c:Nat}{l:List Fact}(hr:ReadsF (Jm F g h) w 5 A l.length (cellsF l))(hc:l.length≤c)(ok:OfOk { s with facts:=l }) :
  RO (w.setCell ⟨g,13,none⟩ (.slice A l.length c)) F g { h with fa:=(A,c) } { s with facts:=l } :=
 hP.put (hP.box.set 13 _ (by simp [cellsR])) (keeps_g _ _) ⟨rfl,rfl,rfl,rfl,rfl,rfl⟩ ⟨rfl,rfl,rfl,rfl,rfl,rfl,rfl,rfl,rfl,rfl,rfl⟩ hr hP.ri hP.kd hP.av ok hc
theorem RO.setRights (hP:RO w F g h s){A:Option Addr}{c:Nat}{l:List Sp}(hr:ReadsF (Jm F g h) w 3 A l.length (cellsS l))(ok:OfOk { s with rights:=l }) :
  RO (w.setCell ⟨g,14,none⟩ (.slice A l.length c)) F g { h with ri:=(A,c) } { s with rights:=l } :=
 hP.put (hP.box.set 14 _ (by simp [cellsR])) (keeps_g _ _) ⟨rfl,rfl,rfl,rfl,rfl,rfl⟩ ⟨rfl,rfl,rfl,rfl,rfl,rfl,rfl,rfl,rfl,rfl,rfl⟩ hP.fa hr hP.kd hP.av ok hP.fc
theorem RO.setKids (hP:RO w F g h s){A:Option Addr}{c:Nat}{l:List Kd}{hk:Nat→SlH}(hr:ReadsF (Jm F g h) w 2 A l.length (cells2 l.length (fun k=>.int .i64 (gk l k).num) (fun k=>slN (hk k) (gk l k).avoid.length)))
  (hv:∀k,k<l.length→RNF (Jm F g h) w (hk k).1 (gk l k).avoid) (ok:OfOk { s with kids:=l }) :
  RO (w.setCell ⟨g,12,none⟩ (.slice A l.length c)) F g { h with kd:=(A,c),hk:=hk } { s with kids:=l } :=
 hP.put (hP.box.set 12 _ (by simp [cellsR])) (keeps_g _ _) ⟨rfl,rfl,rfl,rfl,rfl,rfl⟩ ⟨rfl,rfl,rfl,rfl,rfl,rfl,rfl,rfl,rfl,rfl,rfl⟩ hP.fa hP.ri hr hv ok hP.fc
/-- The order is counted and written down. -/
theorem RO.setOrders (hP:RO w F g h s){l:List Wd}(ok:OfOk { s with orders:=l }) :
  RO ((w.setCell ⟨g,17,none⟩ (.int .i64 l.length)).setCell ⟨g,18,none⟩ (St (bok { s with orders:=l }))) F g h { s with orders:=l } :=
 hP.put ((hP.box.set 17 (.int .i64 l.length) (by simp [cellsR])).set 18 (St (bok { s with orders:=l })) (by simp [cellsR])) ((keeps_g _ _).trans' (keeps_g _ _)) ⟨rfl,rfl,rfl,rfl,rfl,rfl⟩ ⟨rfl,rfl,rfl,rfl,rfl,rfl,rfl,rfl,rfl,rfl,rfl⟩ hP.fa hP.ri hP.kd hP.av ok hP.fc
theorem rat_any (hP:RO w F g h s)(n:Int) :
  Calls Tryz.prog 135 #[.pointer (some ⟨g,0,none⟩),.int .i64 n] w (RetR w F g (if n<s.now then 7 else if 1440000<n then 4 else 0) (if n<s.now then s else if 1440000<n then s else { s with now:=n })):=by
 have q:=hP.cNow
 have q2:=hP.box.free 10
 by_cases h1:n<s.now
 ·rw [if_pos h1,if_pos h1]
  go_enter Tryz.func135,Tryz.ntmps135
  go_wp2
  go_ret
  exact hP.quiet (Below.refl _ _)
 ·rw [if_neg h1,if_neg h1]
  by_cases h2:1440000<n
  ·rw [if_pos h2,if_pos h2]
   go_enter Tryz.func135,Tryz.ntmps135
   go_wp2
   go_ret
   exact hP.quiet (Below.refl _ _)
  ·rw [if_neg h2,if_neg h2]
   have hs':=hP.setNow n (hP.ok.at_ (by omega) (by omega))
   go_enter Tryz.func135,Tryz.ntmps135
   go_wp2
   go_ret
   refine ⟨rfl,(Off.refl F w).setCell (.inl hP.gF) _,h,hs'.wide (fun _ hk=>.inl hk) fun k hk=>?_⟩
   rw [set_size]
   rcases hk with hk | hk
   ·exact hP.lo k hk
   ·rw [set_size] at hk;omega
theorem ints_set9 (l:List Int)(n:Nat)(v:Int):(ints l).set n (.int .i64 v)=ints (l.set n v):=by simp [ints,List.map_set]
/-- One of the two rows for the days is written. -/
theorem RO.setCook (hP:RO w F g h s){b n:Nat}(hA:h.ck.1=some ⟨b,0,none⟩)(hn:n<s.days)(v:Int)(ok:OfOk { s with cooked:=updF s.cooked n v }) :
  RO (w.setCell ⟨b,n,none⟩ (.int .i64 v)) F g h { s with cooked:=updF s.cooked n v }:=by
 have hb:blkOf h.ck=some b:=by unfold blkOf;rw [hA];rfl
 obtain ⟨hbF,hbg⟩:=hP.ckF b hb
 have hk:Keeps (fun k=>k≠b) w (w.setCell ⟨b,n,none⟩ (.int .i64 v)):=keeps_g _ _
 have hi:Keeps (Jm F g h) w (w.setCell ⟨b,n,none⟩ (.int .i64 v)):=hk.mono fun k hk e=>hk.2.2.2.1 (by rw [hb,e])
 have hrow:=hP.ck
 have hcv:slN h.ck (dyTo s.cooked s.days).length=.slice (some ⟨b,0,none⟩) (dyTo s.cooked s.days).length h.ck.2:=by unfold slN;rw [hA]
 rw [hcv] at hrow
 have hst:=(World.ownsRow.stored hrow n (.int .i64 v)).1
 have hset:(ints (dyTo s.cooked s.days)).set n (.int .i64 v)=ints (dyTo (updF s.cooked n v) s.days):=by rw [← dyTo_set _ _ _ _ hn];exact ints_set9 _ _ _
 rw [hset] at hst
 have hlen:(dyTo s.cooked s.days).length=(dyTo (updF s.cooked n v) s.days).length:=by rw [dyTo_len,dyTo_len]
 have hbox:Box (w.setCell ⟨b,n,none⟩ (.int .i64 v)) g (cellsR { s with cooked:=updF s.cooked n v } h):=by
  have hx:=hP.box.kept hk (Ne.symm hbg)
  have hc:cellsR { s with cooked:=updF s.cooked n v } h=cellsR s h:=by
   unfold cellsR
   rw [show (dyTo ({ s with cooked:=updF s.cooked n v }:Of).cooked ({ s with cooked:=updF s.cooked n v }:Of).days).length=(dyTo s.cooked s.days).length from hlen.symm]
   rfl
  rw [hc];exact hx
 refine ⟨hbox,fun k hk'=>by rw [set_size];exact hP.lo k hk',hP.gF,hP.rest.kept hi,hP.clo.kept hi,hP.bk.kept hi,hP.mn.kept hi,hP.fa.kept hi,hP.ri.kept hi,hP.kd.kept hi,fun k hk'=>(hP.av k hk').kept hi,?_,?_,?_,hP.dsF,hP.ckF,hP.etF,ok,hP.fc⟩
 ·refine own_kept hP.ds hk fun k e=>?_
  rintro rfl
  exact own_ty_ne hP.ds hP.ck (by decide) (by rw [own_blk];exact hb) e
 ·show World.ownsRow _ _ _ _ (slN h.ck (dyTo (updF s.cooked n v) s.days).length) (dyTo (updF s.cooked n v) s.days).length _
  rw [← hlen,hcv];exact hst
 ·refine own_kept hP.et hk fun k e=>?_
  rintro rfl
  exact (hP.etF k (by rw [own_blk] at e;exact e)).2.2 hb
theorem RO.setEat (hP:RO w F g h s){b n:Nat}(hA:h.et.1=some ⟨b,0,none⟩)(hn:n<s.days)(v:Int)(ok:OfOk { s with eaten:=updF s.eaten n v }) :
  RO (w.setCell ⟨b,n,none⟩ (.int .i64 v)) F g h { s with eaten:=updF s.eaten n v }:=by
 have hb:blkOf h.et=some b:=by unfold blkOf;rw [hA];rfl
 obtain ⟨hbF,hbg,hbc⟩:=hP.etF b hb
 have hk:Keeps (fun k=>k≠b) w (w.setCell ⟨b,n,none⟩ (.int .i64 v)):=keeps_g _ _
 have hi:Keeps (Jm F g h) w (w.setCell ⟨b,n,none⟩ (.int .i64 v)):=hk.mono fun k hk e=>hk.2.2.2.2 (by rw [hb,e])
 have hrow:=hP.et
 have hcv:slN h.et (dyTo s.eaten s.days).length=.slice (some ⟨b,0,none⟩) (dyTo s.eaten s.days).length h.et.2:=by unfold slN;rw [hA]
 rw [hcv] at hrow
 have hst:=(World.ownsRow.stored hrow n (.int .i64 v)).1
 have hset:(ints (dyTo s.eaten s.days)).set n (.int .i64 v)=ints (dyTo (updF s.eaten n v) s.days):=by rw [← dyTo_set _ _ _ _ hn];exact ints_set9 _ _ _
 rw [hset] at hst
 have hlen:(dyTo s.eaten s.days).length=(dyTo (updF s.eaten n v) s.days).length:=by rw [dyTo_len,dyTo_len]
 have hbox:Box (w.setCell ⟨b,n,none⟩ (.int .i64 v)) g (cellsR { s with eaten:=updF s.eaten n v } h):=by
  have hx:=hP.box.kept hk (Ne.symm hbg)
  have hc:cellsR { s with eaten:=updF s.eaten n v } h=cellsR s h:=by
   unfold cellsR
   rw [show (dyTo ({ s with eaten:=updF s.eaten n v }:Of).eaten ({ s with eaten:=updF s.eaten n v }:Of).days).length=(dyTo s.eaten s.days).length from hlen.symm]
   rfl
  rw [hc];exact hx
 refine ⟨hbox,fun k hk'=>by rw [set_size];exact hP.lo k hk',hP.gF,hP.rest.kept hi,hP.clo.kept hi,hP.bk.kept hi,hP.mn.kept hi,hP.fa.kept hi,hP.ri.kept hi,hP.kd.kept hi,fun k hk'=>(hP.av k hk').kept hi,?_,?_,?_,hP.dsF,hP.ckF,hP.etF,ok,hP.fc⟩
 ·refine own_kept hP.ds hk fun k e=>?_
  rintro rfl
  exact own_ty_ne hP.ds hP.et (by decide) (by rw [own_blk];exact hb) e
 ·refine own_kept hP.ck hk fun k e=>?_
  rintro rfl
  exact hbc (by rw [own_blk] at e;exact e)
 ·show World.ownsRow _ _ _ _ (slN h.et (dyTo (updF s.eaten n v) s.days).length) (dyTo (updF s.eaten n v) s.days).length _
  rw [← hlen,hcv];exact hst
end
theorem wpList_app3S {P : Program} {w : World} {ops : Array Oper} {rest : List Oper} {o : Oper} {a : Act} {Q : Exit → Act → World → Prop} (hgd : o.guard = none) (s x : Operand) {t e : TypeId}
    (ho : o.op = .call { callee := .builtin .append, args := #[s, x], argTypes := #[t, t] }) {z : Value} {size bytes : Nat} (ht : P.underlying t = some (.slice e))
    (hinfo : (P.info? e).map (fun i => (i.zero, i.size, i.bytes)) = some (some z, size, bytes)) (hzs : z.cells.size = size) (hsz : 0 < size)
    {base : Nat} {A : Option Addr} {n c : Nat} {xs : List Value} (hs : a.eval s = .slice A n c) (hown : w.ownsRow base e size (.slice A n c) n xs)
    {news : List Value} {q : Nat} (hx : a.eval x = .slice (some ⟨q, 0, none⟩) 1 1) (hq : q = w.heap.size) (hl : news.length = size) (h1 : ∀ u ∈ news, u.oneCell' = true)
    (hn : n + 1 ≤ 1000000000) (hbytes : bytes ≤ 1000) (hbase : base ≤ w.heap.size)
    (h : ∀ A' c' w', w'.ownsRow base e size (.slice A' (n + 1) c') (n + 1) (xs ++ news) → (w.alloc (.cells news.toArray e)).grownBy w' (blkOf (A, c)) → (blkOf (A', c') = blkOf (A, c) ∨ blkOf (A', c') = some (w.alloc (.cells news.toArray e)).heap.size) → wpList P ops Q rest (a.put o.dst (.slice A' (n + 1) c')) w') :
    wpList P ops Q (o :: rest) a (w.alloc (.cells news.toArray e)) := by
  subst hq
  exact wpList_app3 hgd s x ho ht hinfo hzs hsz hs hown hx hl h1 hn hbytes hbase h
/-- The cells of an office in the making: the menus' row,the two rows for the days. -/
def cellsM (t:Tm)(c:Cy)(b:Bk)(tr tc bi br:SlH)(M C E:Value):Array Value:=#[.int .i64 t.len,.slice tr.1 t.rest.length tr.2,.slice tc.1 t.clo.length tc.2,.int .i64 c.n,.int .i64 c.f,.int .i64 c.k,
 .int .i64 b.props,.slice bi.1 b.items.length bi.2,.slice br.1 b.rules.length br.2,M,.int .i64 0,.slice none 0 0,.slice none 0 0,.slice none 0 0,.slice none 0 0,C,E,.int .i64 0,St []]
/-- The new office,its rows still to come. -/
def RewCut (B:Nat)(t:Tm)(c:Cy)(b:Bk)(s:Value)(wx:World):Prop :=
 ∃(g:Nat) (tr tc bi br:SlH) (hp hq hr:Nat→SlH),s=.pointer (some ⟨g,0,none⟩)∧wx.heap.size=g+1∧B≤g∧Box wx g (cellsM t c b tr tc bi br (.slice none 0 0) (.slice none 0 0) (.slice none 0 0)) ∧
  RNF (fun k=>B≤k∧k<g) wx tr.1 t.rest∧RNF (fun k=>B≤k∧k<g) wx tc.1 t.clo∧RBk (fun k=>B≤k∧k<g) wx bi.1 br.1 b hp hq hr
theorem RewCut.of {B:Nat}{t:Tm}{c:Cy}{b:Bk}{WP:World}(tr tc bi br:SlH){hp hq hr:Nat→SlH}{g:Nat}(hgW:g=WP.heap.size)(hB:B≤WP.heap.size)(h1:RNF (Fr B WP) WP tr.1 t.rest)(h2:RNF (Fr B WP) WP tc.1 t.clo)(h3:RBk (Fr B WP) WP bi.1 br.1 b hp hq hr) :
  RewCut B t c b (.pointer (some ⟨g,0,none⟩)) (WP.alloc (.cells (cellsM t c b tr tc bi br (.slice none 0 0) (.slice none 0 0) (.slice none 0 0)) 99)):=by
 subst hgW
 have hb:=(Below.refl WP.heap.size WP).alloc (Nat.le_refl _) (.cells (cellsM t c b tr tc bi br (.slice none 0 0) (.slice none 0 0) (.slice none 0 0)) 99)
 exact ⟨WP.heap.size,tr,tc,bi,br,hp,hq,hr,rfl,by simp,hB,Box.new _ _ _,h1.below hb,h2.below hb,h3.below hb⟩
/-- The three rows in the making: where they lie,how long they are,their lists. -/
structure NwL (t:Tm) (c:Cy) (b:Bk) (tr tc bi br:SlH) (g:Nat) (wc:World) (P Q R:SlH) (i j l:Nat) (p q r:List Int) (wr:World):Prop where
 box:Box wr g (cellsM t c b tr tc bi br (.slice P.1 i P.2) (.slice Q.1 j Q.2) (.slice R.1 l R.2))
 o1:wr.ownsRow (g+1) 3 1 (.slice P.1 i P.2) i (ints p)
 o2:wr.ownsRow (g+1) 3 1 (.slice Q.1 j Q.2) j (ints q)
 o3:wr.ownsRow (g+1) 3 1 (.slice R.1 l R.2) l (ints r)
 a12:∀x,blkOf P=some x→blkOf Q≠some x
 a13:∀x,blkOf P=some x→blkOf R≠some x
 a23:∀x,blkOf Q=some x→blkOf R≠some x
 below:Below g wc wr
theorem row_other {wr w':World}{B:Nat}{P Q:SlH}{n:Nat}{xs:List Value}{o:Obj}(h:wr.ownsRow B 3 1 (.slice Q.1 n Q.2) n xs)(hg:(wr.alloc o).grownBy w' (blkOf P))(hd:∀x,blkOf P=some x→blkOf Q≠some x){g m:Nat}(hgB:g<B)(v:Value) :
  (w'.setCell ⟨g,m,none⟩ v).ownsRow B 3 1 (.slice Q.1 n Q.2) n xs:=by
 refine ownsRow_setCell_below ((h.alloc o).kept hg ?_) (show g<B from hgB) _
 have e:(Value.slice Q.1 n Q.2).ownBlock=blkOf Q:=own_blk Q n
 rw [e]
 cases hq:blkOf Q with
 | none=>exact .inl rfl
 | some x=>exact .inr fun e2=>hd x e2.symm hq
theorem dis_l {wr:World}{B:Nat}{P P' Q:SlH}{n:Nat}{xs:List Value}{o:Obj}(hd:∀x,blkOf P=some x→blkOf Q≠some x)(hn:blkOf P'=blkOf P∨blkOf P'=some (wr.alloc o).heap.size)(h:wr.ownsRow B 3 1 (.slice Q.1 n Q.2) n xs):∀x,blkOf P'=some x→blkOf Q≠some x:=by
 intro x hx hq
 rcases hn with hn | hn
 ·exact hd x (hn ▸ hx) hq
 ·rw [hn] at hx
  have e:=Option.some.inj hx
  have hl:=(World.ownsRow.lt h x (by rw [show (Value.slice Q.1 n Q.2).ownBlock=blkOf Q from own_blk Q n];exact hq)).2
  simp at e
  omega
theorem ints_snocZ (p:List Int)(x:Int):ints p ++ [.int .i64 x]=ints (p ++ [x]):=by simp [ints]
section
variable {t:Tm}{c:Cy}{b:Bk}{tr tc bi br:SlH}{g:Nat}{wc wr w':World}{P Q R:SlH}{i j l:Nat}{p q r:List Int}
/-- What an append to one of the rows leaves. -/
structure AppD (wr w':World) (g:Nat) (P P':SlH) (i:Nat) (p:List Int) (x:Int) (o:Obj):Prop where
 own:w'.ownsRow (g+1) 3 1 (.slice P'.1 (i+1) P'.2) (i+1) (ints p ++ [.int .i64 x])
 grown:(wr.alloc o).grownBy w' (blkOf P)
 blk:blkOf P'=blkOf P∨blkOf P'=some (wr.alloc o).heap.size
theorem AppD.below {P':SlH}{x:Int}{o:Obj}(h:AppD wr w' g P P' i p x o)(hg:g<wr.heap.size)(ho:wr.ownsRow (g+1) 3 1 (.slice P.1 i P.2) i (ints p)):Below (g+1) wr w' :=
 Below.grown ((Below.refl (g+1) wr).alloc (by omega) o) h.grown (by simp;omega) fun k hk=>(World.ownsRow.lt ho k (by rw [show (Value.slice P.1 i P.2).ownBlock=blkOf P from own_blk P _];exact hk)).1
theorem AppD.own' {P':SlH}{x:Int}{o:Obj}(h:AppD wr w' g P P' i p x o)(m:Nat)(v:Value):(w'.setCell ⟨g,m,none⟩ v).ownsRow (g+1) 3 1 (.slice P'.1 (i+1) P'.2) (i+1) (ints (p ++ [x])):=by
 rw [← ints_snocZ]
 exact ownsRow_setCell_below h.own (show g<g+1 by omega) _
theorem NwL.app1 (h:NwL t c b tr tc bi br g wc P Q R i j l p q r wr){P':SlH}{x:Int}{o:Obj}(ha:AppD wr w' g P P' i p x o):NwL t c b tr tc bi br g wc P' Q R (i+1) j l (p ++ [x]) q r (w'.setCell ⟨g,9,none⟩ (.slice P'.1 (i+1) P'.2)):=by
 have hb:=ha.below h.box.lt h.o1
 refine ⟨?_,ha.own' 9 _,row_other h.o2 ha.grown h.a12 (by omega) _,row_other h.o3 ha.grown h.a13 (by omega) _,dis_l h.a12 ha.blk h.o2,dis_l h.a13 ha.blk h.o3,h.a23,(h.below.trans (hb.mono (by omega))).setCell (p:=⟨g,9,none⟩) (Nat.le_refl _) _⟩
 simpa [cellsM] using (h.box.keep hb (by omega)).set 9 (.slice P'.1 (i+1) P'.2) (by simp [cellsM])
theorem NwL.app2 (h:NwL t c b tr tc bi br g wc P Q R i j l p q r wr){Q':SlH}{x:Int}{o:Obj}(ha:AppD wr w' g Q Q' j q x o):NwL t c b tr tc bi br g wc P Q' R i (j+1) l p (q ++ [x]) r (w'.setCell ⟨g,15,none⟩ (.slice Q'.1 (j+1) Q'.2)):=by
 have hb:=ha.below h.box.lt h.o2
 have a21:∀x,blkOf Q=some x→blkOf P≠some x:=fun x h1 h2=>h.a12 x h2 h1
 refine ⟨?_,row_other h.o1 ha.grown a21 (by omega) _,ha.own' 15 _,row_other h.o3 ha.grown h.a23 (by omega) _,fun x h1 h2=>dis_l a21 ha.blk h.o1 x h2 h1,h.a13,dis_l h.a23 ha.blk h.o3,(h.below.trans (hb.mono (by omega))).setCell (p:=⟨g,15,none⟩) (Nat.le_refl _) _⟩
 simpa [cellsM] using (h.box.keep hb (by omega)).set 15 (.slice Q'.1 (j+1) Q'.2) (by simp [cellsM])
theorem NwL.app3 (h:NwL t c b tr tc bi br g wc P Q R i j l p q r wr){R':SlH}{x:Int}{o:Obj}(ha:AppD wr w' g R R' l r x o):NwL t c b tr tc bi br g wc P Q R' i j (l+1) p q (r ++ [x]) (w'.setCell ⟨g,16,none⟩ (.slice R'.1 (l+1) R'.2)):=by
 have hb:=ha.below h.box.lt h.o3
 have a31:∀x,blkOf R=some x→blkOf P≠some x:=fun x h1 h2=>h.a13 x h2 h1
 have a32:∀x,blkOf R=some x→blkOf Q≠some x:=fun x h1 h2=>h.a23 x h2 h1
 refine ⟨?_,row_other h.o1 ha.grown a31 (by omega) _,row_other h.o2 ha.grown a32 (by omega) _,ha.own' 16 _,h.a12,fun x h1 h2=>dis_l a31 ha.blk h.o1 x h2 h1,fun x h1 h2=>dis_l a32 ha.blk h.o2 x h2 h1,(h.below.trans (hb.mono (by omega))).setCell (p:=⟨g,16,none⟩) (Nat.le_refl _) _⟩
 simpa [cellsM] using (h.box.keep hb (by omega)).set 16 (.slice R'.1 (l+1) R'.2) (by simp [cellsM])
/-- Memory that lies elsewhere grew. -/
theorem NwL.keep (h:NwL t c b tr tc bi br g wc P Q R i j l p q r wr)(hb:Below wr.heap.size wr w'):NwL t c b tr tc bi br g wc P Q R i j l p q r w' :=
 ⟨h.box.below hb,own_below h.o1 hb fun k hk=>(World.ownsRow.lt h.o1 k hk).2,own_below h.o2 hb fun k hk=>(World.ownsRow.lt h.o2 k hk).2,own_below h.o3 hb fun k hk=>(World.ownsRow.lt h.o3 k hk).2,h.a12,h.a13,h.a23,h.below.trans (hb.mono (by have:=h.box.lt;omega))⟩
/-- A menu is laid. -/
theorem NwL.put (h:NwL t c b tr tc bi br g wc P Q R i j l p q r wr){gp:Nat}(hP:P.1=some ⟨gp,0,none⟩)(d:Nat)(v:Int):NwL t c b tr tc bi br g wc P Q R i j l (p.set d v) q r (wr.setCell ⟨gp,d,none⟩ (.int .i64 v)):=by
 have hbp:blkOf P=some gp:=by unfold blkOf;rw [hP];rfl
 have hlt:=World.ownsRow.lt h.o1 gp (by rw [show (Value.slice P.1 i P.2).ownBlock=blkOf P from own_blk P _];exact hbp)
 have ho:=h.o1
 rw [hP] at ho
 have hst:=(World.ownsRow.stored ho d (.int .i64 v)).1
 refine ⟨?_,?_,ownsRow_setCell_other h.o2 ?_ _,ownsRow_setCell_other h.o3 ?_ _,h.a12,h.a13,h.a23,h.below.setCell (p:=⟨gp,d,none⟩) (by show g≤gp;omega) _⟩
 ·exact h.box.far (show g≠gp by omega) _
 ·rw [hP,show ints (p.set d v)=(ints p).set d (.int .i64 v) from (ints_set9 p d v).symm];exact hst
 ·rw [show (Value.slice Q.1 j Q.2).ownBlock=blkOf Q from own_blk Q _];exact h.a12 gp hbp
 ·rw [show (Value.slice R.1 l R.2).ownBlock=blkOf R from own_blk R _];exact h.a13 gp hbp
end
theorem rdT_at {t:Tm}{c:Cy}{m:Int}{N i:Nat}(hi:i<(daysTo t c m N).length):∃d:Nat,d<N∧gi (daysTo t c m N) i=d∧mnAt t c d=m:=by
 have h:gi (daysTo t c m N) i ∈ daysTo t c m N:=by unfold gi;rw [List.getD_eq_getElem?_getD,List.getElem?_eq_getElem hi];exact List.getElem_mem hi
 obtain ⟨d,h1,h2,h3⟩:=(daysTo_mem t c m _ _).1 h
 exact ⟨d,h1,h3,h2⟩
theorem rdays_ok {t:Tm}{c:Cy}(ht:TmOk t)(hc:CyOk c){m:Int}(h0:0≤m)(h1:m<c.n):daysE t c m=0∧daysR t c m=daysTo t c m t.len.toNat:=by
 have hb:bE t c=0:=by unfold bE;rw [if_neg (by rw [ht.to];decide)];exact hc.to
 have e:daysE t c m=0:=by unfold daysE;rw [if_neg (by simp [hb]),if_pos (inB_true.2 ⟨h0,by omega⟩)]
 exact ⟨e,by rw [daysR,if_pos e]⟩
theorem dyTo_none (n:Nat):dyTo (fun _=>none) n=List.replicate n (-1):=by
 rw [List.eq_replicate_iff]
 refine ⟨dyTo_len _ n,fun x hx=>?_⟩
 simp [dyTo] at hx
 exact hx.2.symm
/-- The office,made. -/
theorem RO.made {B g:Nat}{t:Tm}{c:Cy}{b:Bk}{wc w:World}{tr tc bi br P Q R:SlH}{hp hq hr:Nat→SlH}(h7:7≤B)(hBg:B≤g)
  (h:NwL t c b tr tc bi br g wc P Q R t.len.toNat t.len.toNat t.len.toNat (mnL t c) (List.replicate t.len.toNat (-1)) (List.replicate t.len.toNat (-1)) w)
  (h1:RNF (fun k=>B≤k∧k<g) w tr.1 t.rest) (h2:RNF (fun k=>B≤k∧k<g) w tc.1 t.clo) (h3:RBk (fun k=>B≤k∧k<g) w bi.1 br.1 b hp hq hr) (ok:newE t c b=0) :
  RO w (fun k=>B≤k∧k<w.heap.size) g ⟨tr,tc,bi,br,hp,hq,hr,P,(none,0),(none,0),fun _=>(none,0),(none,0),(none,0),Q,R⟩ (new0 t c b):=by
 have hgw:=h.box.lt
 have b1:∀x,blkOf P=some x→g+1≤x∧x<w.heap.size:=fun x hx=>World.ownsRow.lt h.o1 x (by rw [show (Value.slice P.1 t.len.toNat P.2).ownBlock=blkOf P from own_blk P _];exact hx)
 have b2:∀x,blkOf Q=some x→g+1≤x∧x<w.heap.size:=fun x hx=>World.ownsRow.lt h.o2 x (by rw [show (Value.slice Q.1 t.len.toNat Q.2).ownBlock=blkOf Q from own_blk Q _];exact hx)
 have b3:∀x,blkOf R=some x→g+1≤x∧x<w.heap.size:=fun x hx=>World.ownsRow.lt h.o3 x (by rw [show (Value.slice R.1 t.len.toNat R.2).ownBlock=blkOf R from own_blk R _];exact hx)
 have hF:∀k,(B≤k∧k<g)→Jm (fun k=>B≤k∧k<w.heap.size) g ⟨tr,tc,bi,br,hp,hq,hr,P,(none,0),(none,0),fun _=>(none,0),(none,0),(none,0),Q,R⟩ k :=
  fun k hk=>⟨⟨hk.1,by omega⟩,by omega,by simp [blkOf],fun e=>by have:=b2 k e;omega,fun e=>by have:=b3 k e;omega⟩
 have hd:dyTo (new0 t c b).cooked (new0 t c b).days=List.replicate t.len.toNat (-1):=dyTo_none t.len.toNat
 have hd2:dyTo (new0 t c b).eaten (new0 t c b).days=List.replicate t.len.toNat (-1):=dyTo_none t.len.toNat
 have hml:(mnL t c).length=t.len.toNat:=by simp [mnL]
 have hrl:(List.replicate t.len.toNat (-1:Int)).length=t.len.toNat:=List.length_replicate
 refine ⟨?_,fun k hk=>⟨by omega,hk.2⟩,⟨hBg,hgw⟩,h1.mono hF,h2.mono hF,h3.mono hF,?_,
  ⟨⟨rfl,fun h=>by simp [new0] at h⟩,fun _ _ h=>by simp [new0] at h⟩,⟨⟨rfl,fun h=>by simp [new0] at h⟩,fun _ _ h=>by simp [new0] at h⟩,⟨⟨rfl,fun h=>by simp [new0] at h⟩,fun _ _ h=>by simp [new0] at h⟩,fun k hk=>by simp [new0] at hk,
  World.ownsRow_nil _ _ _ _,?_,?_,fun k e=>by simp [blkOf] at e,fun k e=>⟨⟨by have:=b2 k e;omega,(b2 k e).2⟩,by have:=b2 k e;omega⟩,fun k e=>⟨⟨by have:=b3 k e;omega,(b3 k e).2⟩,by have:=b3 k e;omega,fun e2=>h.a23 k e2 e⟩,OfOk.new ok,by simp [new0]⟩
 ·unfold cellsR
  rw [hd,hd2,hrl,show (mnL (new0 t c b).tm (new0 t c b).cy).length=t.len.toNat from hml]
  exact h.box
 ·show ReadsF _ w 1 P.1 (mnL t c).length (ints (mnL t c))
  rw [hml]
  refine ReadsF.of_own h.o1 (fun k hk=>?_)
  have hk':blkOf P=some k:=by rw [← show (Value.slice P.1 t.len.toNat P.2).ownBlock=blkOf P from own_blk P _];exact hk
  have:=b1 k hk'
  exact ⟨⟨by omega,this.2⟩,by omega,by simp [blkOf],h.a12 k hk',h.a13 k hk'⟩
 ·rw [hd,hrl];exact own_base h.o2 (Nat.zero_le _)
 ·rw [hd2,hrl];exact own_base h.o3 (Nat.zero_le _)
theorem row_at9 {w:World}{base e c:Nat}{A:Option Addr}{l:List Int}(h:w.ownsRow base e 1 (.slice A l.length c) l.length (ints l)){k:Nat}(hk:k<l.length) :
  ∃b,A=some ⟨b,0,none⟩∧b<w.heap.size∧w.cell? ⟨b,k,none⟩=some (.int .i64 (gi l k))∧w.frozen? ⟨b,k,none⟩=false:=by
 rcases h.2 with ⟨h1,h2⟩ | ⟨b,cap,cur,h1,hbg,hg,hrest⟩
 ·omega
 ·injection h1 with h1 _ hc
  subst h1
  subst hc
  have hlt:=World.ownsRow.lt h b rfl
  refine ⟨b,rfl,hlt.2,?_,World.ownsRow.frozenAt h _⟩
  rw [World.ownsRow.cellAt h k (by omega)]
  simp [ints,gi,hk]
section
variable {w:World}{F:Nat→Prop}{g:Nat}{h:Hr}{s:Of}
theorem RO.ckAt (hP:RO w F g h s){n:Nat}(hn:n<s.days):∃b,h.ck.1=some ⟨b,0,none⟩∧F b∧b<w.heap.size∧w.cell? ⟨b,n,none⟩=some (.int .i64 ((s.cooked n).getD (-1)))∧w.frozen? ⟨b,n,none⟩=false:=by
 obtain ⟨b,hA,hb,hc,hf⟩:=row_at9 (k:=n) hP.ck (by rw [dyTo_len];exact hn)
 rw [dyTo_at _ _ _ hn] at hc
 exact ⟨b,hA,(hP.ckF b (by unfold blkOf;rw [hA];rfl)).1,hb,hc,hf⟩
theorem RO.etAt (hP:RO w F g h s){n:Nat}(hn:n<s.days):∃b,h.et.1=some ⟨b,0,none⟩∧F b∧b<w.heap.size∧w.cell? ⟨b,n,none⟩=some (.int .i64 ((s.eaten n).getD (-1)))∧w.frozen? ⟨b,n,none⟩=false:=by
 obtain ⟨b,hA,hb,hc,hf⟩:=row_at9 (k:=n) hP.et (by rw [dyTo_len];exact hn)
 rw [dyTo_at _ _ _ hn] at hc
 exact ⟨b,hA,(hP.etF b (by unfold blkOf;rw [hA];rfl)).1,hb,hc,hf⟩
theorem RO.lo_set (hP:RO w F g h s)(p:Addr)(v:Value):∀k,grown F w (w.setCell p v) k→7≤k∧k<(w.setCell p v).heap.size:=fun k hk=>by
 rw [set_size]
 rcases hk with hk | hk
 ·exact hP.lo k hk
 ·rw [set_size] at hk;omega
theorem rcook_any (hP:RO w F g h s)(d n:Int)(hn:0≤n) :
  Calls Tryz.prog 140 #[.pointer (some ⟨g,0,none⟩),.int .i64 d,.int .i64 n] w (RetR w F g (cokE s d n) (if cokE s d n=0 then { s with cooked:=updF s.cooked d n } else s)):=by
 have q:=hP.cCk
 have hcon:=ropn_any hP d
 cases ho:s.opn d with
 | false =>
  have he:cokE s d n=13:=by unfold cokE;rw [if_pos ho]
  rw [he,if_neg (by decide)]
  rw [ho] at hcon
  have HC:=Lib.hid hcon
  clear hcon he
  go_enter Tryz.func140,Tryz.ntmps140
  go_wp2_with (go_at_call 99;(with_reducible refine HC.out.mono ?_);rintro e w5 ⟨rfl,hw5⟩;have hw6:=hw5.symm;clear hw5;subst hw6)
  go_ret
  exact hP.quiet (Below.refl _ _)
 | true =>
  obtain ⟨hd0,hd1⟩:=Of.opn_bd hP.ok ho
  have hdd:d<(s.days:Int):=by unfold Of.opn at ho;rw [decide_eq_true_eq] at ho;exact ho.2.1
  obtain ⟨m,rfl⟩:∃m:Nat,d=m:=⟨d.toNat,by omega⟩
  obtain ⟨b,hA,hbF,hbs,hc,hf⟩:=hP.ckAt (n:=m) (by omega)
  rw [hA] at q
  rw [ho] at hcon
  have HC:=Lib.hid hcon
  clear hcon
  cases hco:s.cooked m with
  | some x =>
   obtain ⟨_,hx0,hx1⟩:=hP.ok.ck m x hco
   have he:cokE s m n=12:=by unfold cokE;rw [if_neg (by rw [ho];decide),if_pos (by rw [hco];rfl)]
   rw [he,if_neg (by decide)]
   rw [hco,Option.getD_some] at hc
   clear he hco ho
   go_enter Tryz.func140,Tryz.ntmps140
   go_wp2_with (go_at_call 99;(with_reducible refine HC.out.mono ?_);rintro e w5 ⟨rfl,hw5⟩;have hw6:=hw5.symm;clear hw5;subst hw6)
   go_ret
   exact hP.quiet (Below.refl _ _)
  | none =>
   rw [hco,Option.getD_none] at hc
   by_cases h4:100000<n
   ·have he:cokE s m n=4:=by unfold cokE;rw [if_neg (by rw [ho];decide),if_neg (by rw [hco];decide),if_pos h4]
    rw [he,if_neg (by decide)]
    clear he hco ho
    go_enter Tryz.func140,Tryz.ntmps140
    go_wp2_with (go_at_call 99;(with_reducible refine HC.out.mono ?_);rintro e w5 ⟨rfl,hw5⟩;have hw6:=hw5.symm;clear hw5;subst hw6)
    go_ret
    exact hP.quiet (Below.refl _ _)
   ·have he:cokE s m n=0:=by unfold cokE;rw [if_neg (by rw [ho];decide),if_neg (by rw [hco];decide),if_neg h4]
    have hS:=hP.setCook hA (by omega) n (hP.ok.cook hn he)
    rw [he,if_pos rfl]
    clear he hco ho
    go_enter Tryz.func140,Tryz.ntmps140
    go_wp2_with (go_at_call 99;(with_reducible refine HC.out.mono ?_);rintro e w5 ⟨rfl,hw5⟩;have hw6:=hw5.symm;clear hw5;subst hw6)
    go_ret
    exact ⟨rfl,(Off.refl F w).setCell (.inl hbF) _,h,hS.wide (fun _ hk=>.inl hk) (hP.lo_set _ _)⟩
theorem reat_any (hP:RO w F g h s)(d n:Int)(hn:0≤n) :
  Calls Tryz.prog 141 #[.pointer (some ⟨g,0,none⟩),.int .i64 d,.int .i64 n] w (RetR w F g (eteE s d n) (if eteE s d n=0 then { s with eaten:=updF s.eaten d n } else s)):=by
 have q:=hP.cCk
 have q2:=hP.cEt
 have hcon:=ropn_any hP d
 cases ho:s.opn d with
 | false =>
  have he:eteE s d n=13:=by unfold eteE;rw [if_pos ho]
  rw [he,if_neg (by decide)]
  rw [ho] at hcon
  have HC:=Lib.hid hcon
  clear hcon he
  go_enter Tryz.func141,Tryz.ntmps141
  go_wp2_with (go_at_call 99;(with_reducible refine HC.out.mono ?_);rintro e w5 ⟨rfl,hw5⟩;have hw6:=hw5.symm;clear hw5;subst hw6)
  go_ret
  exact hP.quiet (Below.refl _ _)
 | true =>
  obtain ⟨hd0,hd1⟩:=Of.opn_bd hP.ok ho
  have hdd:d<(s.days:Int):=by unfold Of.opn at ho;rw [decide_eq_true_eq] at ho;exact ho.2.1
  obtain ⟨m,rfl⟩:∃m:Nat,d=m:=⟨d.toNat,by omega⟩
  obtain ⟨b,hA,hbF,hbs,hc,hf⟩:=hP.ckAt (n:=m) (by omega)
  obtain ⟨b2,hA2,hbF2,hbs2,hc2,hf2⟩:=hP.etAt (n:=m) (by omega)
  rw [hA] at q
  rw [hA2] at q2
  rw [ho] at hcon
  have HC:=Lib.hid hcon
  clear hcon
  cases hco:s.cooked m with
  | none =>
   have he:eteE s m n=12:=by unfold eteE;rw [if_neg (by rw [ho];decide),if_pos (.inl (by rw [hco];rfl))]
   rw [he,if_neg (by decide)]
   rw [hco,Option.getD_none] at hc
   clear he hco ho
   go_enter Tryz.func141,Tryz.ntmps141
   go_wp2_with (go_at_call 99;(with_reducible refine HC.out.mono ?_);rintro e w5 ⟨rfl,hw5⟩;have hw6:=hw5.symm;clear hw5;subst hw6)
   go_ret
   exact hP.quiet (Below.refl _ _)
  | some x =>
   obtain ⟨_,hx0,hx1⟩:=hP.ok.ck m x hco
   rw [hco,Option.getD_some] at hc
   cases het:s.eaten m with
   | some y =>
    obtain ⟨x',hx',hy0,hy1⟩:=hP.ok.et m y het
    rw [het,Option.getD_some] at hc2
    have he:eteE s m n=12:=by unfold eteE;rw [if_neg (by rw [ho];decide),if_pos (.inr (by rw [het];rfl))]
    rw [he,if_neg (by decide)]
    clear he hco ho het hx'
    go_enter Tryz.func141,Tryz.ntmps141
    go_wp2_with (go_at_call 99;(with_reducible refine HC.out.mono ?_);rintro e w5 ⟨rfl,hw5⟩;have hw6:=hw5.symm;clear hw5;subst hw6)
    go_ret
    exact hP.quiet (Below.refl _ _)
   | none =>
    rw [het,Option.getD_none] at hc2
    by_cases h4:x<n
    ·have he:eteE s m n=11:=by unfold eteE;rw [if_neg (by rw [ho];decide),if_neg (by rw [hco,het];simp),if_pos (by rw [hco];exact h4)]
     rw [he,if_neg (by decide)]
     clear he hco ho het
     go_enter Tryz.func141,Tryz.ntmps141
     go_wp2_with (go_at_call 99;(with_reducible refine HC.out.mono ?_);rintro e w5 ⟨rfl,hw5⟩;have hw6:=hw5.symm;clear hw5;subst hw6)
     go_ret
     exact hP.quiet (Below.refl _ _)
    ·have he:eteE s m n=0:=by unfold eteE;rw [if_neg (by rw [ho];decide),if_neg (by rw [hco,het];simp),if_neg (by rw [hco];exact h4)]
     have hS:=hP.setEat hA2 (by omega) n (hP.ok.eat hn he)
     rw [he,if_pos rfl]
     clear he hco ho het
     go_enter Tryz.func141,Tryz.ntmps141
     go_wp2_with (go_at_call 99;(with_reducible refine HC.out.mono ?_);rintro e w5 ⟨rfl,hw5⟩;have hw6:=hw5.symm;clear hw5;subst hw6)
     go_ret
     exact ⟨rfl,(Off.refl F w).setCell (.inl hbF2) _,h,hS.wide (fun _ hk=>.inl hk) (hP.lo_set _ _)⟩
theorem rofree_any (hP:RO w F g h s)(n:List Int)(hn:n.length=3) :
  Calls Tryz.prog 139 #[.pointer (some ⟨g,0,none⟩),.int .i64 (gi n 0),.int .i64 (gi n 1),.int .i64 (gi n 2)] w (RetR w F g (freE s n) (if freE s n=0 then { s with rights:=freR s n } else s)):=by
 have hcon:=rchild_any hP (gi n 0)
 cases hk:hasK s.kids (gi n 0) with
 | false =>
  have he:freE s n=5:=by unfold freE;rw [if_pos hk]
  rw [he,if_neg (by decide)]
  rw [kix_none hk] at hcon
  have HC:=Lib.hid hcon
  clear hcon he hk
  go_enter Tryz.func139,Tryz.ntmps139
  go_wp2_with (go_at_call 98;(with_reducible refine HC.out.mono ?_);rintro e w5 ⟨rfl,hw5⟩;have hw6:=hw5.symm;clear hw5;subst hw6)
  go_ret
  exact hP.quiet (Below.refl _ _)
 | true =>
  have he:freE s n=vrt (freR s n):=by unfold freE;rw [if_neg (by rw [hk];decide)]
  obtain ⟨i,hi,hix,_,_⟩:=kix_some hk
  rw [hix] at hcon
  have hi0:decide ((i:Int)<0)=false:=by rw [decide_eq_false_iff_not];omega
  have HC:=Lib.hid hcon
  obtain ⟨E,hE⟩:∃E,freE s n=E:=⟨_,rfl⟩
  rw [hE]
  rw [hE] at he
  obtain ⟨T,hT⟩:∃T,T=if E=0 then { s with rights:=freR s n } else s:=⟨_,rfl⟩
  rw [← hT]
  have HT:=Lib.hid hT
  have HEE:=Lib.hid he
  have HE2:=Lib.hid hE
  have hrl:=hP.ok.rl
  have hgl:=hP.gl
  have q:=hP.cRi
  have hR:=hP.ri.1
  obtain ⟨i0,hi0',hz0,hz1,hz2⟩:=info_parts info_right'
  have own0:(w.alloc (.cells #[] 110)).ownsRow w.heap.size 110 3 (.slice (some ⟨w.heap.size,0,none⟩) 0 0) 0 []:=World.ownsRow_lit w #[] 0 (Nat.le_refl _) (by unfold maxLen;omega) rfl
  have hb0:Below w.heap.size w (w.alloc (.cells #[] 110)):=(Below.refl _ _).alloc (Nat.le_refl _) _
  have hl1:(freR s n).length=s.rights.length+1:=by simp [freR]
  clear hcon he hk hix hT hE
  go_enter Tryz.func139,Tryz.ntmps139
  go_wp2_with (first
   | (go_at_call 98;(with_reducible refine HC.out.mono ?_);rintro e w5 ⟨rfl,hw5⟩;have hw6:=hw5.symm;clear hw5;subst hw6)
   | (at_builtin;refine wpList_append_any _ rfl _ _ 97 rfl w.heap.size 110 i0 _ 3 24 Tryz.underlying97 hi0' hz0 hz1 hz2 rfl (by omega) _ 0 [] rfl own0 _ h.ri.1 s.rights.length h.ri.2 (cellsS s.rights) rfl (hR.below' hb0 (Nat.le_refl _)) (cellsS_one _) (by unfold maxLen;omega) (by omega) hb0.size ?_;intro v' w2 own2 hg2 hat2;obtain ⟨A',c',hAc⟩:=own_shape own2;subst hAc;rw [Nat.zero_add,List.nil_append] at own2;have hb2:Below w.heap.size w w2:=hb0.grown hg2 hb0.size (fun k hk=>(by have e:(some w.heap.size:Option Nat)=some k:=hk;cases e;exact Nat.le_refl _));have hs2:=hb2.size)
   | (at_builtin;refine wpList_app2 rfl _ _ rfl Tryz.underlying97 info_right' rfl (by omega) rfl own2 (news:=[.int .i64 (gi n 0),.int .i64 (gi n 1),.int .i64 (gi n 2)]) rfl rfl rfl (by simp [Value.oneCell']) (by omega) (by omega) hs2 ?_;intro A3 c3 w3 own3 hb3 hk3;have hb4:Below w.heap.size w w3:=hb2.trans (hb3 _ (Nat.le_refl _));have own4:w3.ownsRow w.heap.size 110 3 (.slice A3 (s.rights.length+1) c3) (s.rights.length+1) (cellsS (freR s n)):=(by rw [freR,cellsS_append];exact own3);have hva:=rvrights_any (freR s n) A3 c3 w3 (by unfold RSO;rw [hl1];exact Reads.of_own own4) (by omega);rw [hl1,← HEE.out] at hva;have HVA:=Lib.hid hva;clear hva own3))
  refine HVA.out.mono ?_
  rintro e w4 ⟨rfl,hb5⟩
  have hb6:Below w.heap.size w w4:=hb4.trans (hb5.mono hb4.size)
  have own5:=own_below own4 hb5 (fun k hk=>(World.ownsRow.lt own4 k hk).2)
  have hP4:=hP.below' hb6
  have hgf:=hP4.box.free 14
  have hgc:=hP4.cRi
  by_cases hv:E=0
  ·subst hv
   have hT2:T={ s with rights:=freR s n }:=by rw [HT.out,if_pos rfl]
   have hR4:ReadsF (Jm (grown F w w4) g h) w4 3 A3 (freR s n).length (cellsS (freR s n)):=by rw [hl1];exact ReadsF.of_own' own5 (fun k h1 h2=>hP.new_jm h1 h2)
   have hok:=hP.ok.free HE2.out
   have hS:=hP4.setRights (c:=c3) hR4 hok
   rw [hl1] at hS
   have HT2:=Lib.hid hT2
   clear hT2 hR4
   go_wp2
   go_ret
   rw [HT2.out]
   exact ⟨rfl,(Off.of_below hb6).setCell (.inl hP.gF) _,_,hS.re fun k=>(grown_set _ _ k).symm⟩
  ·have hv1:(E == 0)=false:=by simp [hv]
   have hT2:T=s:=by rw [HT.out,if_neg hv]
   have HT2:=Lib.hid hT2
   clear hT2 hv
   go_wp2
   go_ret
   rw [HT2.out]
   exact hP.quiet hb6
end
end Go.Proofs.YtiapkffihpgdcaaGreatDoor
namespace Go.Proofs.YtiapkffihpgdcaaGreatDoor
open Go.RowKit Go.Sort Go.MuLone
theorem OfOk.avl {s:Of}(hs:OfOk s){k:Nat}(hk:k<s.kids.length):(gk s.kids k).avoid.length≤10:=by
 have h1:=hs.bk.p0
 have h2:=hs.bk.p10
 have:=isSet_len (hs.ka _ (gk_mem hk)) h1
 omega
end Go.Proofs.YtiapkffihpgdcaaGreatDoor
