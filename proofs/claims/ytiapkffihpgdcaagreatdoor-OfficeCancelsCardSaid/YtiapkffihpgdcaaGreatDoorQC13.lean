import Derived.Test.YtiapkffihpgdcaaGreatDoorQC10
import Derived.Test.YtiapkffihpgdcaaGreatDoorQC11
import Derived.Test.YtiapkffihpgdcaaGreatDoorQC12
set_option linter.unusedVariables false
set_option linter.unusedSimpArgs false
set_option maxRecDepth 100000
set_option maxHeartbeats 4000000
namespace Go.Proofs.YtiapkffihpgdcaaGreatDoor
open Go.RowKit
section
variable {L:Int}{N:Nat}{w w'':World}{F:Nat→Prop}{g:Nat}{h:Hd}{s:Of}
theorem PO.next_ds (hP:PO L N w F g h s){hh:SlH}{l:List Dh}(hs:w.heap.size≤w''.heap.size)(hkp:∀k,k<w.heap.size→k≠g→blkOf h.ds≠some k→w''.heap[k]? = w.heap[k]?)
  (box:Box w'' g (cellsO L { s with dishes:=l } { h with ds:=hh })) (own:w''.ownsRow 0 81 2 (slN hh l.length) l.length (cells2 l.length (fun k=>St (gd l k).name) (fun k=>.int .i64 (gd l k).item))) (hb:blkOf hh=blkOf h.ds∨∃k,blkOf hh=some k∧w.heap.size≤k)
  (ok:OfOk { s with dishes:=l }):PO L N w'' (grown F w w'') g { h with ds:=hh } { s with dishes:=l }:=by
 have hnew:∀k,k<w.heap.size→blkOf h.ds≠some k→blkOf hh≠some k:=fun k hl h1 e=>by
  rcases hb with hb | ⟨k2,hb,h2⟩
  ·rw [hb] at e;exact h1 e
  ·rw [hb] at e;injection e with e;omega
 have K:Keeps (fun k=>k≠g∧blkOf h.ds≠some k) w w'':=⟨hs,fun k hk hl=>hkp k hl hk.1 hk.2⟩
 have mv:∀k,Im F g h k→k<w.heap.size→Im (grown F w w'') g { h with ds:=hh } k∧w''.heap[k]? = w.heap[k]?:=fun k hk hl=>⟨⟨.inl hk.1,hk.2.1,hk.2.2.1,hk.2.2.2.1,hnew k hl hk.2.2.2.2.1,hk.2.2.2.2.2.1,hk.2.2.2.2.2.2⟩,hkp k hl hk.2.1 hk.2.2.2.2.1⟩
 have xF:∀k,blkOf hh=some k→grown F w w'' k∧k≠g∧k≠h.ck∧k≠h.et:=fun k e=>by
  rcases hb with hb | ⟨k2,hb,h2⟩
  ·rw [hb] at e;exact ⟨.inl (hP.dsF k e).1,(hP.dsF k e).2⟩
  ·have hlt:=(World.ownsRow.lt own k (by rw [own_blk];exact e)).2
   rw [hb] at e;injection e with e;subst e
   have a1:=(hP.lo g hP.gF).2
   have a2:=(hP.lo h.ck hP.ckF.1).2
   have a3:=(hP.lo h.et hP.etF.1).2
   exact ⟨.inr ⟨h2,hlt⟩,by omega,by omega,by omega⟩
 exact hP.next box (grown_lo hP hs) (.inl hP.gF) mv hs ⟨rfl,rfl,rfl⟩ ⟨rfl,rfl,rfl,rfl,rfl,rfl,rfl,rfl⟩ (hP.fa.move mv hs) (hP.ri.move mv hs) (fun k hk=>(hP.av k hk).move mv hs)
  own
  (own_kept hP.kd K (fun k e=>⟨(hP.kdF k (by rw [own_blk] at e;exact e)).2.1,fun e2=>own_ty_ne hP.kd hP.ds (by decide) (by rw [own_blk];exact e2) e⟩))
  (own_kept hP.od K (fun k e=>⟨(hP.odF k (by rw [own_blk] at e;exact e)).2.1,fun e2=>own_ty_ne hP.od hP.ds (by decide) (by rw [own_blk];exact e2) e⟩))
  (hP.ck.kept K ⟨hP.ckF.2,fun e=>(hP.dsF _ e).2.2.1 rfl⟩) (hP.et.kept K ⟨hP.etF.2.1,fun e=>(hP.dsF _ e).2.2.2 rfl⟩) ⟨.inl hP.ckF.1,hP.ckF.2⟩ ⟨.inl hP.etF.1,hP.etF.2⟩ xF (fun k e=>⟨.inl (hP.kdF k e).1,(hP.kdF k e).2⟩) (fun k e=>⟨.inl (hP.odF k e).1,(hP.odF k e).2⟩) hP.fc ok
theorem PO.next_kd (hP:PO L N w F g h s){hh:SlH}{hk':Nat→SlH}{l:List Kd}(hs:w.heap.size≤w''.heap.size)(hkp:∀k,k<w.heap.size→k≠g→blkOf h.kd≠some k→w''.heap[k]? = w.heap[k]?)
  (box:Box w'' g (cellsO L { s with kids:=l } { h with kd:=hh,hk:=hk' })) (own:w''.ownsRow 0 56 2 (slN hh l.length) l.length (cells2 l.length (fun k=>.int .i64 (gk l k).num) (fun k=>slN (hk' k) (gk l k).avoid.length))) (hb:blkOf hh=blkOf h.kd∨∃k,blkOf hh=some k∧w.heap.size≤k)
  (av:∀k,k<l.length→RNF (Im (grown F w w'') g { h with kd:=hh,hk:=hk' }) w'' (hk' k).1 (gk l k).avoid) (ok:OfOk { s with kids:=l }):PO L N w'' (grown F w w'') g { h with kd:=hh,hk:=hk' } { s with kids:=l }:=by
 have hnew:∀k,k<w.heap.size→blkOf h.kd≠some k→blkOf hh≠some k:=fun k hl h1 e=>by
  rcases hb with hb | ⟨k2,hb,h2⟩
  ·rw [hb] at e;exact h1 e
  ·rw [hb] at e;injection e with e;omega
 have K:Keeps (fun k=>k≠g∧blkOf h.kd≠some k) w w'':=⟨hs,fun k hk hl=>hkp k hl hk.1 hk.2⟩
 have mv:∀k,Im F g h k→k<w.heap.size→Im (grown F w w'') g { h with kd:=hh,hk:=hk' } k∧w''.heap[k]? = w.heap[k]?:=fun k hk hl=>⟨⟨.inl hk.1,hk.2.1,hk.2.2.1,hk.2.2.2.1,hk.2.2.2.2.1,hnew k hl hk.2.2.2.2.2.1,hk.2.2.2.2.2.2⟩,hkp k hl hk.2.1 hk.2.2.2.2.2.1⟩
 have xF:∀k,blkOf hh=some k→grown F w w'' k∧k≠g∧k≠h.ck∧k≠h.et:=fun k e=>by
  rcases hb with hb | ⟨k2,hb,h2⟩
  ·rw [hb] at e;exact ⟨.inl (hP.kdF k e).1,(hP.kdF k e).2⟩
  ·have hlt:=(World.ownsRow.lt own k (by rw [own_blk];exact e)).2
   rw [hb] at e;injection e with e;subst e
   have a1:=(hP.lo g hP.gF).2
   have a2:=(hP.lo h.ck hP.ckF.1).2
   have a3:=(hP.lo h.et hP.etF.1).2
   exact ⟨.inr ⟨h2,hlt⟩,by omega,by omega,by omega⟩
 exact hP.next box (grown_lo hP hs) (.inl hP.gF) mv hs ⟨rfl,rfl,rfl⟩ ⟨rfl,rfl,rfl,rfl,rfl,rfl,rfl,rfl⟩ (hP.fa.move mv hs) (hP.ri.move mv hs) av
  (own_kept hP.ds K (fun k e=>⟨(hP.dsF k (by rw [own_blk] at e;exact e)).2.1,fun e2=>own_ty_ne hP.ds hP.kd (by decide) (by rw [own_blk];exact e2) e⟩))
  own
  (own_kept hP.od K (fun k e=>⟨(hP.odF k (by rw [own_blk] at e;exact e)).2.1,fun e2=>own_ty_ne hP.od hP.kd (by decide) (by rw [own_blk];exact e2) e⟩))
  (hP.ck.kept K ⟨hP.ckF.2,fun e=>(hP.kdF _ e).2.2.1 rfl⟩) (hP.et.kept K ⟨hP.etF.2.1,fun e=>(hP.kdF _ e).2.2.2 rfl⟩) ⟨.inl hP.ckF.1,hP.ckF.2⟩ ⟨.inl hP.etF.1,hP.etF.2⟩ (fun k e=>⟨.inl (hP.dsF k e).1,(hP.dsF k e).2⟩) xF (fun k e=>⟨.inl (hP.odF k e).1,(hP.odF k e).2⟩) hP.fc ok
theorem PO.next_od (hP:PO L N w F g h s){hh:SlH}{l:List Wd}(hs:w.heap.size≤w''.heap.size)(hkp:∀k,k<w.heap.size→k≠g→blkOf h.od≠some k→w''.heap[k]? = w.heap[k]?)
  (box:Box w'' g (cellsO L { s with orders:=l } { h with od:=hh })) (own:w''.ownsRow 0 9 1 (slN hh l.length) l.length (strs l)) (hb:blkOf hh=blkOf h.od∨∃k,blkOf hh=some k∧w.heap.size≤k)
  (ok:OfOk { s with orders:=l }):PO L N w'' (grown F w w'') g { h with od:=hh } { s with orders:=l }:=by
 have hnew:∀k,k<w.heap.size→blkOf h.od≠some k→blkOf hh≠some k:=fun k hl h1 e=>by
  rcases hb with hb | ⟨k2,hb,h2⟩
  ·rw [hb] at e;exact h1 e
  ·rw [hb] at e;injection e with e;omega
 have K:Keeps (fun k=>k≠g∧blkOf h.od≠some k) w w'':=⟨hs,fun k hk hl=>hkp k hl hk.1 hk.2⟩
 have mv:∀k,Im F g h k→k<w.heap.size→Im (grown F w w'') g { h with od:=hh } k∧w''.heap[k]? = w.heap[k]?:=fun k hk hl=>⟨⟨.inl hk.1,hk.2.1,hk.2.2.1,hk.2.2.2.1,hk.2.2.2.2.1,hk.2.2.2.2.2.1,hnew k hl hk.2.2.2.2.2.2⟩,hkp k hl hk.2.1 hk.2.2.2.2.2.2⟩
 have xF:∀k,blkOf hh=some k→grown F w w'' k∧k≠g∧k≠h.ck∧k≠h.et:=fun k e=>by
  rcases hb with hb | ⟨k2,hb,h2⟩
  ·rw [hb] at e;exact ⟨.inl (hP.odF k e).1,(hP.odF k e).2⟩
  ·have hlt:=(World.ownsRow.lt own k (by rw [own_blk];exact e)).2
   rw [hb] at e;injection e with e;subst e
   have a1:=(hP.lo g hP.gF).2
   have a2:=(hP.lo h.ck hP.ckF.1).2
   have a3:=(hP.lo h.et hP.etF.1).2
   exact ⟨.inr ⟨h2,hlt⟩,by omega,by omega,by omega⟩
 exact hP.next box (grown_lo hP hs) (.inl hP.gF) mv hs ⟨rfl,rfl,rfl⟩ ⟨rfl,rfl,rfl,rfl,rfl,rfl,rfl,rfl⟩ (hP.fa.move mv hs) (hP.ri.move mv hs) (fun k hk=>(hP.av k hk).move mv hs)
  (own_kept hP.ds K (fun k e=>⟨(hP.dsF k (by rw [own_blk] at e;exact e)).2.1,fun e2=>own_ty_ne hP.ds hP.od (by decide) (by rw [own_blk];exact e2) e⟩))
  (own_kept hP.kd K (fun k e=>⟨(hP.kdF k (by rw [own_blk] at e;exact e)).2.1,fun e2=>own_ty_ne hP.kd hP.od (by decide) (by rw [own_blk];exact e2) e⟩))
  own
  (hP.ck.kept K ⟨hP.ckF.2,fun e=>(hP.odF _ e).2.2.1 rfl⟩) (hP.et.kept K ⟨hP.etF.2.1,fun e=>(hP.odF _ e).2.2.2 rfl⟩) ⟨.inl hP.ckF.1,hP.ckF.2⟩ ⟨.inl hP.etF.1,hP.etF.2⟩ (fun k e=>⟨.inl (hP.dsF k e).1,(hP.dsF k e).2⟩) (fun k e=>⟨.inl (hP.kdF k e).1,(hP.kdF k e).2⟩) xF hP.fc ok
theorem grown_at {wr W w7:World}{b:Option Nat}(hb:Below wr.heap.size wr W)(hg:W.grownBy w7 b){p:Addr}(hp:p.block<wr.heap.size)(hn:b≠some p.block):w7.cell? p=wr.cell? p∧w7.frozen? p=wr.frozen? p:=by
 have hbk:w7.heap[p.block]? = wr.heap[p.block]?:=(hg.block p.block (Nat.lt_of_lt_of_le hp hb.size) (fun e=>hn e.symm)).trans (hb.block p.block hp)
 exact ⟨World.cell?_of_block (w:=wr) hbk,World.frozen?_of_block (w:=wr) hbk⟩
theorem cells2_snoc_ds (l:List Dh)(x:Dh):cells2 (l ++ [x]).length (fun k=>St (gd (l ++ [x]) k).name) (fun k=>.int .i64 (gd (l ++ [x]) k).item)=cells2 l.length (fun k=>St (gd l k).name) (fun k=>.int .i64 (gd l k).item) ++ [St x.name,.int .i64 x.item]:=by
 rw [List.length_append,List.length_singleton,cells2_succ,gd_new]
 congr 1
 exact cells2_congr (fun k hk=>by rw [gd_old l x hk]) (fun k hk=>by rw [gd_old l x hk])
theorem strs_snoc (l:List Wd)(x:Wd):strs (l ++ [x])=strs l ++ [St x]:=by simp [strs]
theorem PO.app_ds (hP:PO L N w F g h s){wr W w7:World}(h1:Below w.heap.size w wr)(h2:Below wr.heap.size wr W)(x:Dh){A3:Option Addr}{c3:Nat}(own7:w7.ownsRow 0 81 2 (.slice A3 (s.dishes.length+1) c3) (s.dishes.length+1) (cells2 s.dishes.length (fun k=>St (gd s.dishes k).name) (fun k=>.int .i64 (gd s.dishes k).item) ++ [St x.name,.int .i64 x.item]))
  (hg7:W.grownBy w7 (blkOf (h.ds.1,h.ds.2))) (hk7:blkOf (A3,c3)=blkOf (h.ds.1,h.ds.2)∨blkOf (A3,c3)=some W.heap.size) (ok:OfOk { s with dishes:=s.dishes ++ [x] }) :
  Off F w (w7.setCell ⟨g,13,none⟩ (.slice A3 (s.dishes.length+1) c3))∧PO L N (w7.setCell ⟨g,13,none⟩ (.slice A3 (s.dishes.length+1) c3)) (grown F w (w7.setCell ⟨g,13,none⟩ (.slice A3 (s.dishes.length+1) c3))) g { h with ds:=(A3,c3) } { s with dishes:=s.dishes ++ [x] }:=by
 have hPr:=hP.below h1
 have hlen:(s.dishes ++ [x]).length=s.dishes.length+1:=by simp
 have hgb:∀k,blkOf h.ds=some k→k≠g:=fun k e=>(hP.dsF k e).2.1
 have hsz:wr.heap.size≤w7.heap.size:=Nat.le_trans h2.size hg7.size
 have hng:(h.ds.1,h.ds.2)=h.ds:=rfl
 rw [hng] at hg7 hk7
 have hA:∀k,blkOf (A3,c3)=some k→k≠g:=fun k e=>by
  rcases hk7 with e2 | e2
  ·rw [e2] at e;exact hgb k e
  ·rw [e2] at e;injection e with e;have:=h2.size;have:=hPr.gl;omega
 have hne:blkOf h.ds≠some g:=fun e=>hgb g e rfl
 have hkp:∀k,k<wr.heap.size→k≠g→blkOf h.ds≠some k→(w7.setCell ⟨g,13,none⟩ (.slice A3 (s.dishes.length+1) c3)).heap[k]? = wr.heap[k]?:=fun k hk h3 h4=>(set_other _ _ _ _ h3).trans ((hg7.block k (Nat.lt_of_lt_of_le hk h2.size) (fun e=>h4 e.symm)).trans (h2.block k hk))
 have bx:Box w7 g (cellsO L s h):=⟨Nat.lt_of_lt_of_le hPr.gl hsz,fun j=>(grown_at (p:=⟨g,j,none⟩) h2 hg7 hPr.gl hne).1.trans (hPr.box.cell j),fun j=>(grown_at (p:=⟨g,j,none⟩) h2 hg7 hPr.gl hne).2.trans (hPr.box.free j)⟩
 have bx2:Box (w7.setCell ⟨g,13,none⟩ (.slice A3 (s.dishes.length+1) c3)) g (cellsO L { s with dishes:=s.dishes ++ [x] } { h with ds:=(A3,c3) }):=by
  have:=bx.set 13 (.slice A3 (s.dishes.length+1) c3) (by simp [cellsO])
  have e:(cellsO L s h).setIfInBounds 13 (.slice A3 (s.dishes.length+1) c3)=cellsO L { s with dishes:=s.dishes ++ [x] } { h with ds:=(A3,c3) }:=by
   unfold cellsO
   simp only [hlen]
   rfl
  rw [← e];exact this
 have ow:(w7.setCell ⟨g,13,none⟩ (.slice A3 (s.dishes.length+1) c3)).ownsRow 0 81 2 (slN (A3,c3) (s.dishes ++ [x]).length) (s.dishes ++ [x]).length (cells2 s.dishes.length (fun k=>St (gd s.dishes k).name) (fun k=>.int .i64 (gd s.dishes k).item) ++ [St x.name,.int .i64 x.item]):=by
  rw [hlen]
  exact ownsRow_setCell_other own7 (fun e=>by have e3:(Value.slice A3 (s.dishes.length+1) c3).ownBlock=blkOf (A3,c3):=own_blk (A3,c3) _;rw [e3] at e;exact hA _ e rfl) _
 rw [← cells2_snoc_ds] at ow
 have hPn:=hPr.next_ds (hh:=(A3,c3)) (l:=s.dishes ++ [x]) (by rw [set_size];exact hsz) hkp bx2 ow (by
  rcases hk7 with e2 | e2
  ·exact .inl e2
  ·exact .inr ⟨_,e2,h2.size⟩) ok
 have hsw:w.heap.size≤wr.heap.size:=h1.size
 refine ⟨?_,hPn.wide (fun k hk=>?_) (grown_lo hP (by rw [set_size];omega))⟩
 ·have o1:Off F w W:=.of_below (h1.trans (h2.mono h1.size))
  exact (o1.grown hg7 (fun k e=>.inl (hP.dsF k e).1)).setCell (.inl hP.gF) _
 ·rcases hk with hk | ⟨hk,hk2⟩
  ·exact .inl hk
  ·exact .inr ⟨by omega,hk2⟩
theorem PO.app_od (hP:PO L N w F g h s){wr W w7:World}(h1:Below w.heap.size w wr)(h2:Below wr.heap.size wr W)(x:Wd){A3:Option Addr}{c3:Nat}(own7:w7.ownsRow 0 9 1 (.slice A3 (s.orders.length+1) c3) (s.orders.length+1) (strs s.orders ++ [St x]))
  (hg7:W.grownBy w7 (blkOf (h.od.1,h.od.2))) (hk7:blkOf (A3,c3)=blkOf (h.od.1,h.od.2)∨blkOf (A3,c3)=some W.heap.size) (ok:OfOk { s with orders:=s.orders ++ [x] }) :
  Off F w (w7.setCell ⟨g,19,none⟩ (.slice A3 (s.orders.length+1) c3))∧PO L N (w7.setCell ⟨g,19,none⟩ (.slice A3 (s.orders.length+1) c3)) (grown F w (w7.setCell ⟨g,19,none⟩ (.slice A3 (s.orders.length+1) c3))) g { h with od:=(A3,c3) } { s with orders:=s.orders ++ [x] }:=by
 have hPr:=hP.below h1
 have hlen:(s.orders ++ [x]).length=s.orders.length+1:=by simp
 have hgb:∀k,blkOf h.od=some k→k≠g:=fun k e=>(hP.odF k e).2.1
 have hsz:wr.heap.size≤w7.heap.size:=Nat.le_trans h2.size hg7.size
 have hng:(h.od.1,h.od.2)=h.od:=rfl
 rw [hng] at hg7 hk7
 have hA:∀k,blkOf (A3,c3)=some k→k≠g:=fun k e=>by
  rcases hk7 with e2 | e2
  ·rw [e2] at e;exact hgb k e
  ·rw [e2] at e;injection e with e;have:=h2.size;have:=hPr.gl;omega
 have hne:blkOf h.od≠some g:=fun e=>hgb g e rfl
 have hkp:∀k,k<wr.heap.size→k≠g→blkOf h.od≠some k→(w7.setCell ⟨g,19,none⟩ (.slice A3 (s.orders.length+1) c3)).heap[k]? = wr.heap[k]?:=fun k hk h3 h4=>(set_other _ _ _ _ h3).trans ((hg7.block k (Nat.lt_of_lt_of_le hk h2.size) (fun e=>h4 e.symm)).trans (h2.block k hk))
 have bx:Box w7 g (cellsO L s h):=⟨Nat.lt_of_lt_of_le hPr.gl hsz,fun j=>(grown_at (p:=⟨g,j,none⟩) h2 hg7 hPr.gl hne).1.trans (hPr.box.cell j),fun j=>(grown_at (p:=⟨g,j,none⟩) h2 hg7 hPr.gl hne).2.trans (hPr.box.free j)⟩
 have bx2:Box (w7.setCell ⟨g,19,none⟩ (.slice A3 (s.orders.length+1) c3)) g (cellsO L { s with orders:=s.orders ++ [x] } { h with od:=(A3,c3) }):=by
  have:=bx.set 19 (.slice A3 (s.orders.length+1) c3) (by simp [cellsO])
  have e:(cellsO L s h).setIfInBounds 19 (.slice A3 (s.orders.length+1) c3)=cellsO L { s with orders:=s.orders ++ [x] } { h with od:=(A3,c3) }:=by
   unfold cellsO
   simp only [hlen]
   rfl
  rw [← e];exact this
 have ow:(w7.setCell ⟨g,19,none⟩ (.slice A3 (s.orders.length+1) c3)).ownsRow 0 9 1 (slN (A3,c3) (s.orders ++ [x]).length) (s.orders ++ [x]).length (strs s.orders ++ [St x]):=by
  rw [hlen]
  exact ownsRow_setCell_other own7 (fun e=>by have e3:(Value.slice A3 (s.orders.length+1) c3).ownBlock=blkOf (A3,c3):=own_blk (A3,c3) _;rw [e3] at e;exact hA _ e rfl) _
 rw [← strs_snoc] at ow
 have hPn:=hPr.next_od (hh:=(A3,c3)) (l:=s.orders ++ [x]) (by rw [set_size];exact hsz) hkp bx2 ow (by
  rcases hk7 with e2 | e2
  ·exact .inl e2
  ·exact .inr ⟨_,e2,h2.size⟩) ok
 have hsw:w.heap.size≤wr.heap.size:=h1.size
 refine ⟨?_,hPn.wide (fun k hk=>?_) (grown_lo hP (by rw [set_size];omega))⟩
 ·have o1:Off F w W:=.of_below (h1.trans (h2.mono h1.size))
  exact (o1.grown hg7 (fun k e=>.inl (hP.odF k e).1)).setCell (.inl hP.gF) _
 ·rcases hk with hk | ⟨hk,hk2⟩
  ·exact .inl hk
  ·exact .inr ⟨by omega,hk2⟩
end
end Go.Proofs.YtiapkffihpgdcaaGreatDoor
namespace Go.Proofs.YtiapkffihpgdcaaGreatDoor
structure BnS where
 out:List Kd
 done:Bool
def bnStep (p:BnS)(c x:Kd):BnS:=if !p.done && decide (c.num<x.num) then ⟨p.out ++ [c] ++ [x],true⟩ else ⟨p.out ++ [x],p.done⟩
def bnTo (l:List Kd)(c:Kd):Nat→BnS
 | 0=>⟨[],false⟩
 | k+1=>bnStep (bnTo l c k) c (gk l k)
def bnEnd (p:BnS)(c:Kd):List Kd:=if p.done then p.out else p.out ++ [c]
theorem insK_snoc_le {l:List Kd}{c x:Kd}(h:∀y ∈ l,y.num≤c.num):insK (l ++ [x]) c=if x.num≤c.num then l ++ [x] ++ [c] else l ++ [c] ++ [x]:=by
 have h1:(l ++ [x]).takeWhile (fun y=>decide (y.num≤c.num))=l ++ [x].takeWhile (fun y=>decide (y.num≤c.num)):=List.takeWhile_append_of_pos (by simpa using h)
 have h2:(l ++ [x]).dropWhile (fun y=>decide (y.num≤c.num))=[x].dropWhile (fun y=>decide (y.num≤c.num)):=List.dropWhile_append_of_pos (by simpa using h)
 unfold insK
 rw [h1,h2]
 by_cases e:x.num≤c.num
 ·rw [if_pos e];simp [e]
 ·rw [if_neg e];simp [e]
theorem insK_snoc_gt {l:List Kd}{c x:Kd}(h:∃y ∈ l,c.num<y.num):insK (l ++ [x]) c=insK l c ++ [x]:=by
 unfold insK
 have key:(l ++ [x]).takeWhile (fun y=>decide (y.num≤c.num))=l.takeWhile (fun y=>decide (y.num≤c.num))∧(l ++ [x]).dropWhile (fun y=>decide (y.num≤c.num))=l.dropWhile (fun y=>decide (y.num≤c.num)) ++ [x]:=by
  induction l with
  | nil=>obtain ⟨y,hy,_⟩:=h;simp at hy
  | cons a l ih =>
   rw [List.cons_append,List.takeWhile_cons,List.takeWhile_cons,List.dropWhile_cons,List.dropWhile_cons]
   by_cases e:a.num≤c.num
   ·have h':∃y ∈ l,c.num<y.num:=by
     obtain ⟨y,hy,hlt⟩:=h
     rcases List.mem_cons.1 hy with rfl | hy
     ·omega
     ·exact ⟨y,hy,hlt⟩
    obtain ⟨i1,i2⟩:=ih h'
    rw [decide_eq_true e]
    simp only [if_true]
    rw [i1,i2]
    exact ⟨rfl,rfl⟩
   ·rw [decide_eq_false e]
    simp
 rw [key.1,key.2]
 simp
theorem bnTo_spec (l:List Kd)(c:Kd):∀k,k≤l.length→((bnTo l c k).done=false∧(bnTo l c k).out=l.take k∧∀y ∈ l.take k,y.num≤c.num)∨((bnTo l c k).done=true∧(bnTo l c k).out=insK (l.take k) c∧∃y ∈ l.take k,c.num<y.num)
 | 0,_=>by left;simp [bnTo]
 | k+1,hk=>by
  have hlt:k<l.length:=by omega
  have ht:l.take (k+1)=l.take k ++ [gk l k]:=by
   rw [List.take_succ_eq_append_getElem hlt]
   congr 2
   simp [gk,hlt]
  have ih:=bnTo_spec l c k (by omega)
  simp only [bnTo,bnStep]
  rw [ht]
  rcases ih with ⟨h1,h2,h3⟩ | ⟨h1,h2,h3⟩
  ·rw [h1,h2]
   by_cases e:c.num<(gk l k).num
   ·right
    rw [decide_eq_true e]
    simp only [Bool.not_false,Bool.and_self,if_true]
    refine ⟨trivial,?_,gk l k,by simp,e⟩
    rw [insK_snoc_le h3,if_neg (by omega)]
   ·left
    rw [decide_eq_false e]
    simp only [Bool.and_false,Bool.false_eq_true,if_false]
    refine ⟨trivial,trivial,fun y hy=>?_⟩
    rcases List.mem_append.1 hy with hy | hy
    ·exact h3 y hy
    ·rw [List.mem_singleton.1 hy];omega
  ·right
   rw [h1,h2]
   simp only [Bool.not_true,Bool.false_and,Bool.false_eq_true,if_false]
   refine ⟨trivial,(insK_snoc_gt h3).symm,?_⟩
   obtain ⟨y,hy,hlt⟩:=h3
   exact ⟨y,List.mem_append_left _ hy,hlt⟩
theorem bn_insK (l:List Kd)(c:Kd):bnEnd (bnTo l c l.length) c=insK l c:=by
 unfold bnEnd
 rcases bnTo_spec l c l.length (Nat.le_refl _) with ⟨h1,h2,h3⟩ | ⟨h1,h2,h3⟩
 ·rw [h1,h2,List.take_length]
  rw [List.take_length] at h3
  simp only [Bool.false_eq_true,if_false]
  unfold insK
  have t:l.takeWhile (fun y=>decide (y.num≤c.num))=l:=by
   have:=List.takeWhile_append_of_pos (p:=fun y:Kd=>decide (y.num≤c.num)) (l₁:=l) (l₂:=[]) (by simpa using h3)
   simpa using this
  have d:l.dropWhile (fun y=>decide (y.num≤c.num))=[]:=by
   have:=List.dropWhile_append_of_pos (p:=fun y:Kd=>decide (y.num≤c.num)) (l₁:=l) (l₂:=[]) (by simpa using h3)
   simpa using this
  rw [t,d]
 ·rw [h1,h2,List.take_length];rfl
theorem insK_perm (l:List Kd)(c:Kd):(insK l c).Perm (l ++ [c]):=by
 unfold insK
 have h:l.takeWhile (fun x=>decide (x.num≤c.num)) ++ l.dropWhile (fun x=>decide (x.num≤c.num))=l:=List.takeWhile_append_dropWhile
 refine List.perm_middle.trans ?_
 rw [h]
 exact (List.perm_append_singleton c l).symm
theorem kids_sorted_eq {l m:List Kd}(hl:l.Pairwise fun a b=>a.num<b.num)(hm:m.Pairwise fun a b=>a.num≤b.num)(hp:m.Perm l):m=l:=by
 have hm2:m.Pairwise fun a b=>a.num<b.num:=by
  have hne:l.Pairwise fun a b=>a.num≠b.num:=hl.imp fun h=>by omega
  have hne':m.Pairwise fun a b=>a.num≠b.num:=(hp.symm.pairwise_iff (fun h=>Ne.symm h)).1 hne
  exact (hm.and hne').imp fun h=>by have:=h.1;have:=h.2;omega
 exact hp.eq_of_pairwise (le:=fun a b=>a.num<b.num) (fun a b _ _ h1 h2=>by omega) hm2 hl
end Go.Proofs.YtiapkffihpgdcaaGreatDoor
namespace Go.Proofs.YtiapkffihpgdcaaGreatDoor
open Go.RowKit
/-- The children with their lists. -/
def ksOf (l:List Kd)(hk:Nat→SlH):List KS:=(List.range l.length).map fun k=>(gk l k,hk k)
theorem ksOf_len (l:List Kd)(hk:Nat→SlH):(ksOf l hk).length=l.length:=by simp [ksOf]
theorem ksOf_at (l:List Kd)(hk:Nat→SlH){k:Nat}(h:k<l.length):gKS (ksOf l hk) k=(gk l k,hk k):=by simp [gKS,ksOf,h]
theorem ksOf_fst (l:List Kd)(hk:Nat→SlH):(ksOf l hk).map Prod.fst=l:=by
 apply List.ext_getElem?
 intro i
 by_cases h:i<l.length
 ·simp [ksOf,h,gk]
 ·rw [List.getElem?_eq_none (by simp [ksOf];omega),List.getElem?_eq_none (by omega)]
theorem gKS_snoc_old (l:List KS)(x:KS){k:Nat}(h:k<l.length):gKS (l ++ [x]) k=gKS l k:=by simp [gKS,List.getElem?_append_left h]
theorem gKS_snoc_new (l:List KS)(x:KS):gKS (l ++ [x]) l.length=x:=by simp [gKS]
theorem ksC_snoc (l:List Kd)(hk:Nat→SlH)(x:KS):ksC (ksOf l hk ++ [x])=cells2 l.length (fun k=>.int .i64 (gk l k).num) (fun k=>slN (hk k) (gk l k).avoid.length) ++ [.int .i64 x.1.num,slN x.2 x.1.avoid.length]:=by
 unfold ksC
 rw [List.length_append,List.length_singleton,ksOf_len,cells2_succ]
 have e:l.length=(ksOf l hk).length:=(ksOf_len l hk).symm
 congr 1
 ·exact cells2_congr (fun k hk'=>by rw [gKS_snoc_old _ _ (by omega),ksOf_at _ _ hk']) (fun k hk'=>by rw [gKS_snoc_old _ _ (by omega),ksOf_at _ _ hk'])
 ·have:gKS (ksOf l hk ++ [x]) l.length=x:=by rw [e];exact gKS_snoc_new _ _
  rw [this]
theorem gk_fst (m:List KS){k:Nat}(h:k<m.length):gk (m.map Prod.fst) k=(gKS m k).1:=by simp [gk,gKS,h]
theorem ksC_fst (m:List KS):ksC m=cells2 (m.map Prod.fst).length (fun k=>.int .i64 (gk (m.map Prod.fst) k).num) (fun k=>slN (gKS m k).2 (gk (m.map Prod.fst) k).avoid.length):=by
 unfold ksC
 rw [List.length_map]
 exact cells2_congr (fun k hk=>by rw [gk_fst m hk]) (fun k hk=>by rw [gk_fst m hk])
theorem gKS_mem {m:List KS}{k:Nat}(h:k<m.length):gKS m k ∈ m:=by rw [gKS_get m h];exact List.getElem_mem h
section
variable {L:Int}{N:Nat}{w:World}{F:Nat→Prop}{g:Nat}{h:Hd}{s:Of}
theorem PO.app_kd (hP:PO L N w F g h s){w2 W w7 w9:World}(h1:Below w.heap.size w w2){c:Kd}{A2:Option Addr}{c2:Nat}(own2:OwnN w2 w.heap.size A2 c2 c.avoid)(h2:Below w2.heap.size w2 W)
  {A3:Option Addr} {c3:Nat} (hg7:W.grownBy w7 (blkOf (h.kd.1,h.kd.2))) (hk7:blkOf (A3,c3)=blkOf (h.kd.1,h.kd.2)∨blkOf (A3,c3)=some W.heap.size)
  {m:List KS} (hp:m.Perm (ksOf s.kids h.hk ++ [(c,(A2,c2))])) (hm:∀i j,i<j→j<m.length→(gKS m i).1.num≤(gKS m j).1.num)
  (own9:w9.ownsRow 0 56 2 (.slice A3 (s.kids.length+1) c3) m.length (ksC m)) (hg9:(w7.setCell ⟨g,14,none⟩ (.slice A3 (s.kids.length+1) c3)).grownBy w9 (blkOf (A3,c3)))
  (hn:∀x ∈ s.kids,x.num≠c.num) (ok:OfOk { s with kids:=insK s.kids c }) :
  Off F w w9∧PO L N w9 (grown F w w9) g { h with kd:=(A3,c3),hk:=fun k=>(gKS m k).2 } { s with kids:=insK s.kids c }:=by
 have hlen:(insK s.kids c).length=s.kids.length+1:=by have:=(insK_perm s.kids c).length_eq;simpa using this
 have hml:m.length=s.kids.length+1:=by have:=hp.length_eq;simpa [ksOf_len] using this
 have hfst:m.map Prod.fst=insK s.kids c:=by
  refine kids_sorted_eq (insK_sorted hP.ok.ks hn) ?_ ?_
  ·rw [List.pairwise_iff_getElem]
   intro i j hi hj hij
   have:=hm i j hij (by simpa using hj)
   rw [gKS_get m (show i<m.length by simpa using hi),gKS_get m (show j<m.length by simpa using hj)] at this
   simpa using this
  ·have:=hp.map Prod.fst
   rw [List.map_append,ksOf_fst] at this
   exact this.trans (insK_perm s.kids c).symm
 have hng:(h.kd.1,h.kd.2)=h.kd:=rfl
 rw [hng] at hg7 hk7
 have hgl:=hP.gl
 have hgb:∀k,blkOf h.kd=some k→k≠g:=fun k e=>(hP.kdF k e).2.1
 have hs1:=h1.size
 have hs2:=h2.size
 have hs7:=hg7.size
 have hs9:=hg9.size
 rw [set_size] at hs9
 have hA:∀k,blkOf (A3,c3)=some k→k≠g:=fun k e=>by
  rcases hk7 with e2 | e2
  ·rw [e2] at e;exact hgb k e
  ·rw [e2] at e;injection e with e;omega
 have hne:blkOf h.kd≠some g:=fun e=>hgb g e rfl
 have hne3:blkOf (A3,c3)≠some g:=fun e=>hA g e rfl
 -- blocks that are neither g,nor the children's
 have hkp:∀k,k<W.heap.size→k≠g→blkOf h.kd≠some k→w9.heap[k]? = W.heap[k]?:=fun k hk h3 h4=>by
  have h5:blkOf (A3,c3)≠some k:=fun e=>by
   rcases hk7 with e2 | e2
   ·rw [e2] at e;exact h4 e
   ·rw [e2] at e;injection e with e;omega
  exact (hg9.block k (by rw [set_size];omega) (fun e=>h5 e.symm)).trans ((set_other _ _ _ _ h3).trans (hg7.block k hk (fun e=>h4 e.symm)))
 have hkw:∀k,k<w.heap.size→k≠g→blkOf h.kd≠some k→w9.heap[k]? = w.heap[k]?:=fun k hk h3 h4=>(hkp k (by omega) h3 h4).trans ((h2.block k (by omega)).trans (h1.block k hk))
 have bW:Box W g (cellsO L s h):=hP.box.keep (h1.trans (h2.mono hs1)) hgl
 have b7:Box w7 g (cellsO L s h):=⟨by omega,fun j=>(grown_at (p:=⟨g,j,none⟩) (Below.refl _ W) hg7 (by show g<W.heap.size;omega) hne).1.trans (bW.cell j),fun j=>(grown_at (p:=⟨g,j,none⟩) (Below.refl _ W) hg7 (by show g<W.heap.size;omega) hne).2.trans (bW.free j)⟩
 have b8:=b7.set 14 (.slice A3 (s.kids.length+1) c3) (by simp [cellsO])
 have e8:(cellsO L s h).setIfInBounds 14 (.slice A3 (s.kids.length+1) c3)=cellsO L { s with kids:=insK s.kids c } { h with kd:=(A3,c3),hk:=fun k=>(gKS m k).2 }:=by
  unfold cellsO
  simp only [hlen]
  rfl
 rw [e8] at b8
 have b9:Box w9 g (cellsO L { s with kids:=insK s.kids c } { h with kd:=(A3,c3),hk:=fun k=>(gKS m k).2 }):=⟨by omega,fun j=>(grown_at (p:=⟨g,j,none⟩) (Below.refl _ _) hg9 (by rw [set_size];show g<w7.heap.size;omega) hne3).1.trans (b8.cell j),fun j=>(grown_at (p:=⟨g,j,none⟩) (Below.refl _ _) hg9 (by rw [set_size];show g<w7.heap.size;omega) hne3).2.trans (b8.free j)⟩
 have ow:w9.ownsRow 0 56 2 (slN (A3,c3) (insK s.kids c).length) (insK s.kids c).length (cells2 (insK s.kids c).length (fun k=>.int .i64 (gk (insK s.kids c) k).num) (fun k=>slN (gKS m k).2 (gk (insK s.kids c) k).avoid.length)):=by
  rw [ksC_fst,hfst,hml] at own9
  rw [hlen] at own9 ⊢
  exact own9
 have hnb:blkOf (A3,c3)=blkOf h.kd∨∃k,blkOf (A3,c3)=some k∧w.heap.size≤k:=by
  rcases hk7 with e2 | e2
  ·exact .inl e2
  ·exact .inr ⟨_,e2,by omega⟩
 have hnew:∀k,k<w.heap.size→blkOf h.kd≠some k→blkOf (A3,c3)≠some k:=fun k hl h1 e=>by
  rcases hnb with hb | ⟨k2,hb,h2⟩
  ·rw [hb] at e;exact h1 e
  ·rw [hb] at e;injection e with e;omega
 have mv:∀k,Im F g h k→k<w.heap.size→Im (grown F w w9) g { h with kd:=(A3,c3),hk:=fun k=>(gKS m k).2 } k∧w9.heap[k]? = w.heap[k]?:=fun k hk hl=>⟨⟨.inl hk.1,hk.2.1,hk.2.2.1,hk.2.2.2.1,hk.2.2.2.2.1,hnew k hl hk.2.2.2.2.2.1,hk.2.2.2.2.2.2⟩,hkw k hl hk.2.1 hk.2.2.2.2.2.1⟩
 have hall:∀x ∈ m,RNF (Im (grown F w w9) g { h with kd:=(A3,c3),hk:=fun k=>(gKS m k).2 }) w9 x.2.1 x.1.avoid:=fun x hx=>by
  have hx2:=(hp.mem_iff).1 hx
  rcases List.mem_append.1 hx2 with hx3 | hx3
  ·obtain ⟨k,hk,rfl⟩:=List.mem_map.1 hx3
   rw [List.mem_range] at hk
   exact (hP.av k hk).move mv (by omega)
  ·rw [List.mem_singleton] at hx3
   subst hx3
   have o1:RNF (fun k=>w.heap.size≤k∧k<w2.heap.size) w2 A2 c.avoid:=ReadsF.of_own own2 fun k hk=>World.ownsRow.lt own2 k hk
   refine ReadsF.move o1 (fun k hk hl=>?_) (by omega)
   have d1:∀j,blkOf h.kd=some j→j<w.heap.size:=fun j e=>(hP.lo j (hP.kdF j e).1).2
   refine ⟨⟨.inr ⟨hk.1,by omega⟩,by omega,?_,?_,?_,?_,?_⟩,?_⟩
   ·have:=(hP.lo _ hP.ckF.1).2;show k≠h.ck;omega
   ·have:=(hP.lo _ hP.etF.1).2;show k≠h.et;omega
   ·intro e;have:=(hP.lo k (hP.dsF k e).1).2;omega
   ·intro e
    rcases hk7 with e2 | e2
    ·have e':blkOf (A3,c3)=some k:=e
     rw [e2] at e';have:=d1 k e';omega
    ·have e':blkOf (A3,c3)=some k:=e
     rw [e2] at e';injection e' with e';omega
   ·intro e;have:=(hP.lo k (hP.odF k e).1).2;omega
   ·exact (hkp k (by omega) (by omega) (fun e=>by have:=d1 k e;omega)).trans (h2.block k hk.2)
 refine ⟨?_,hP.next_kd (hh:=(A3,c3)) (hk':=fun k=>(gKS m k).2) (l:=insK s.kids c) (by omega) hkw b9 ow hnb (fun k hk=>?_) ok⟩
 ·have o1:Off F w W:=.of_below (h1.trans (h2.mono hs1))
  have o2:=(o1.grown hg7 (fun k e=>.inl (hP.kdF k e).1)).setCell (p:=⟨g,14,none⟩) (.inl hP.gF) (.slice A3 (s.kids.length+1) c3)
  refine o2.grown hg9 (fun k e=>?_)
  rcases hk7 with e2 | e2
  ·rw [e2] at e;exact .inl (hP.kdF k e).1
  ·rw [e2] at e;injection e with e;right;omega
 ·rw [hlen] at hk
  have:=hall (gKS m k) (gKS_mem (by omega))
  rw [← hfst,gk_fst m (by omega)]
  exact this
end
end Go.Proofs.YtiapkffihpgdcaaGreatDoor
