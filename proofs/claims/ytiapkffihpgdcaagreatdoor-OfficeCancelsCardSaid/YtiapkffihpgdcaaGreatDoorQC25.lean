import Derived.Test.YtiapkffihpgdcaaGreatDoorQC23
import Derived.Test.YtiapkffihpgdcaaGreatDoorQC24
set_option linter.unusedVariables false
set_option linter.unusedSimpArgs false
set_option maxRecDepth 100000
set_option maxHeartbeats 4000000
namespace Go.Proofs.YtiapkffihpgdcaaGreatDoor
open Go.RowKit Go.Sort
theorem takeL {P:Program}{l:List Oper}{Q:Exit→Act→World→Prop}{md:Region.Mode}{S:World→Prop}{i:Nat}{oi:Oper}{v:Value}{fuel:Nat}{listed:Array Bool}{a:Act}{w:World}(hi:l[i]? = some oi)
  (hs:Region.noSelect l.toArray=true) (hf:Region.free md l.toArray listed i=true) (hr:(Region.ready md l.toArray listed).contains i=true)
  (hQ:∀c a w,Q (.panic c) (a.put oi.dst v) w→Q (.panic c) a w) (hy:YieldsIf P l.toArray S oi v a) (hS:S w)
  (h:wpAnyH P md l.toArray Q S fuel (listed.setIfInBounds i true) (a.put oi.dst v) w):wpAnyH P md l.toArray Q S (fuel+1) listed a w :=
 wpAnyH_take (by rw [gqA];exact hi) hs hf hr hQ hy hS h
theorem consL {P:Program}{l:List Oper}{Q:Exit→Act→World→Prop}{md:Region.Mode}{S:World→Prop}{fuel:Nat}{listed:Array Bool}{a:Act}{w:World}{i:Nat}{o:Oper}{rs:List Nat}(ho:l[i]? = some o)
  (h:∀K':Act→World→Prop,Shut (∀a w,S w→(S w→wpAnyH P md l.toArray Q S fuel (listed.setIfInBounds i true) a w)→K' a w)→if Region.wanted o (yielded l.toArray a.tmps)=true then Oper.wp P o a w K' Q else K' (a.put o.dst undef) w)
  (hs:AllReadyH P md l.toArray Q S fuel listed a w rs):AllReadyH P md l.toArray Q S fuel listed a w (i :: rs) :=
 AllReadyH.cons (by rw [gqA];exact ho) h hs
theorem set_cell_ne {w:World}{p q:Addr}(v:Value)(h:¬ q.block=p.block):(w.setCell p v).cell? q=w.cell? q:=World.cell?_setCell_other (w:=w) (a:=p) (b:=q) (v:=v) (fun e=>h (by rw [e]))
/-- How far the copying of a book has come: the parameter's box,the result's box,the new book's box at g with its rules,and the items so far. -/
structure CpB (w:World) (b:Bk) (V1 V2:Value) (B g:Nat) (R:SlH) (hr:Nat→SlH) (A:Option Addr) (c:Nat) (hp hq:Nat→SlH) (k:Nat) (wr:World):Prop where
 lo:w.heap.size+2≤g
 gB:g<B
 BW:B≤wr.heap.size
 box0:Box wr w.heap.size #[.int .i64 b.props,V1,V2]
 box1:Box wr (w.heap.size+1) #[.int .i64 0,.slice none 0 0,.slice none 0 0]
 box:Box wr g #[.int .i64 b.props,.slice A k c,.slice R.1 b.rules.length R.2]
 rl:RRl (fun x=>w.heap.size+2≤x∧x≠g∧x<B) wr R.1 b.rules hr
 own:wr.ownsRow B 120 2 (.slice A k c) k (cells2 k (fun i=>slV (hp i) (gIt b.items i).parts) (fun i=>slV (hq i) (gIt b.items i).has))
 lst:∀i,i<k→OwnN wr B (hp i).1 (hp i).2 (gIt b.items i).parts∧OwnN wr B (hq i).1 (hq i).2 (gIt b.items i).has
 below:Below w.heap.size w wr
section
variable {w wr w':World}{b:Bk}{V1 V2:Value}{B g:Nat}{R:SlH}{hr:Nat→SlH}{A:Option Addr}{c:Nat}{hp hq:Nat→SlH}{k:Nat}
theorem CpB.keep (h : CpB w b V1 V2 B g R hr A c hp hq k wr) (hb : Below wr.heap.size wr w') : CpB w b V1 V2 B g R hr A c hp hq k w' :=
  ⟨h.lo, h.gB, Nat.le_trans h.BW hb.size, h.box0.below hb, h.box1.below hb, h.box.below hb, h.rl.below hb, own_below h.own hb fun x hx => (World.ownsRow.lt h.own x hx).2,
   fun i hi => ⟨own_below (h.lst i hi).1 hb fun x hx => (World.ownsRow.lt (h.lst i hi).1 x hx).2, own_below (h.lst i hi).2 hb fun x hx => (World.ownsRow.lt (h.lst i hi).2 x hx).2⟩, h.below.trans (hb.mono h.below.size)⟩
theorem CpB.app (h:CpB w b V1 V2 B g R hr A c hp hq k wr)(P Q:SlH){A':Option Addr}{c':Nat}
  (own':w'.ownsRow B 120 2 (.slice A' (k+1) c') (k+1) (cells2 k (fun i=>slV (hp i) (gIt b.items i).parts) (fun i=>slV (hq i) (gIt b.items i).has) ++ [slV P (gIt b.items k).parts,slV Q (gIt b.items k).has]))
  (hb:Below B wr w')
  (hk:∀(b2 e2 s2 n2:Nat) (v2:Value) (xs2:List Value),wr.ownsRow b2 e2 s2 v2 n2 xs2→e2≠120→w'.ownsRow b2 e2 s2 v2 n2 xs2)
  (hx:OwnN wr B P.1 P.2 (gIt b.items k).parts) (hy:OwnN wr B Q.1 Q.2 (gIt b.items k).has) :
  CpB w b V1 V2 B g R hr A' c' (fun i=>if i=k then P else hp i) (fun i=>if i=k then Q else hq i) (k+1) (w'.setCell ⟨g,1,none⟩ (.slice A' (k+1) c')):=by
 have hlo:=h.lo
 have hgB:=h.gB
 have hK:Keeps (fun x=>x<B∧x≠g) wr (w'.setCell ⟨g,1,none⟩ (.slice A' (k+1) c')) :=
  ((keepsB_below hb).mono fun x hx=>hx.1).on ⟨by simp [World.setCell],fun x hx _=>Below.heap_setCell _ _ _ _ hx.2⟩
 have hbg:Box w' g #[.int .i64 b.props,.slice A k c,.slice R.1 b.rules.length R.2]:=h.box.keep hb hgB
 refine ⟨hlo,hgB,Nat.le_trans h.BW (by simpa [World.setCell] using hb.size),h.box0.kept hK ⟨by omega,by omega⟩,h.box1.kept hK ⟨by omega,by omega⟩,by simpa using hbg.set 1 (.slice A' (k+1) c') (by simp),h.rl.kept (hK.mono fun x hx=>⟨hx.2.2,hx.2.1⟩),?_,fun i hi=>?_,?_⟩
 ·refine ownsRow_setCell_below ?_ hgB _
  rw [cells2_succ]
  have e:cells2 k (fun i=>slV (if i=k then P else hp i) (gIt b.items i).parts) (fun i=>slV (if i=k then Q else hq i) (gIt b.items i).has)=cells2 k (fun i=>slV (hp i) (gIt b.items i).parts) (fun i=>slV (hq i) (gIt b.items i).has) :=
   cells2_congr (fun i hi=>by rw [if_neg (by omega)]) (fun i hi=>by rw [if_neg (by omega)])
  rw [e,if_pos rfl,if_pos rfl]
  exact own'
 ·by_cases e:i=k
  ·subst e
   rw [if_pos rfl,if_pos rfl]
   exact ⟨ownsRow_setCell_below (hk _ _ _ _ _ _ hx (by decide)) hgB _,ownsRow_setCell_below (hk _ _ _ _ _ _ hy (by decide)) hgB _⟩
  ·rw [if_neg e,if_neg e]
   exact ⟨ownsRow_setCell_below (hk _ _ _ _ _ _ (h.lst i (by omega)).1 (by decide)) hgB _,ownsRow_setCell_below (hk _ _ _ _ _ _ (h.lst i (by omega)).2 (by decide)) hgB _⟩
 ·exact (h.below.trans (hb.mono (by omega))).setCell (p:=⟨g,1,none⟩) (by show w.heap.size≤g;omega) _
end
theorem rcopyBk_any (b : Bk) (hil : b.items.length ≤ 1000) (hrl : b.rules.length ≤ 1000) (hS : ∀ k, k < b.rules.length → (gRl b.rules k).iff.length ≤ 1000000)
    (hS1 : ∀ k, k < b.items.length → (gIt b.items k).parts.length ≤ 1000000) (hS2 : ∀ k, k < b.items.length → (gIt b.items k).has.length ≤ 1000000) (F : Nat → Prop) (A1 A2 : Option Addr) (c1 c2 : Nat) (hp hq hr : Nat → SlH) (w : World) (hR : RBk F w A1 A2 b hp hq hr) :
    Calls Tryz.prog 132 #[.agg #[.int .i64 b.props, .slice A1 b.items.length c1, .slice A2 b.rules.length c2]] w fun e w' => ∃ A1' c1' A2' c2' hp' hq' hr', e = .returned (.agg #[.int .i64 b.props, .slice A1' b.items.length c1', .slice A2' b.rules.length c2']) ∧ RBk (fun k => w.heap.size ≤ k) w' A1' A2' b hp' hq' hr' ∧ Below w.heap.size w w' := by
  obtain ⟨w2, hw2⟩ : ∃ w2, ((w.alloc (.cells #[.int .i64 b.props, .slice A1 b.items.length c1, .slice A2 b.rules.length c2] 30)).alloc (.cells #[.int .i64 0, .slice none 0 0, .slice none 0 0] 30)) = w2 := ⟨_, rfl⟩
  have hy : Below w.heap.size w w2 := by rw [← hw2]; exact ((Below.refl _ w).alloc (Nat.le_refl _) _).alloc (by simp) _
  have b0 : Box w2 w.heap.size #[.int .i64 b.props, .slice A1 b.items.length c1, .slice A2 b.rules.length c2] := by rw [← hw2]; exact (Box.new w _ _).alloc _
  have b1 : Box w2 (w.heap.size + 1) #[.int .i64 0, .slice none 0 0, .slice none 0 0] := by rw [← hw2]; exact (Box.new (w.alloc (.cells #[.int .i64 b.props, .slice A1 b.items.length c1, .slice A2 b.rules.length c2] 30)) _ _).at' (by simp)
  have hs2 : w2.heap.size = w.heap.size + 2 := by rw [← hw2]; simp
  have hR2 := (hR.below hy).rl
  have HCA := Lib.hid (rcopyRules_any b hrl hS F A2 c2 hr w2.drew (hR2.below (Below.refl w2.heap.size w2).drew))
  have HCB := Lib.hid (rcopyRules_any b hrl hS F A2 c2 hr (w2.alloc (.cells #[.int .i64 0, .slice none 0 0, .slice none 0 0] 30)).drew (hR2.below ((Below.refl w2.heap.size w2).alloc (Nat.le_refl _) _).drew))
  have HS2 := Lib.hid hs2
  have x0 := b0.cell 0; have x1 := b0.cell 1; have x2 := b0.cell 2
  simp only [List.getElem?_toArray, List.getElem?_cons_zero, List.getElem?_cons_succ] at x0 x1 x2
  clear hR2 hs2
  have hlt0 := b0.lt
  go_enter Tryz.func132, Tryz.ntmps132
  go_wp2_with fail
  clear hw2
  go_cut [3] (fun s wx => ∃ g B R hr', s = .pointer (some ⟨g, 0, none⟩) ∧ CpB w b (.slice A1 b.items.length c1) (.slice A2 b.rules.length c2) B g R hr' none 0 hp hq 0 wx)
  case first =>
    go_region_with (first
      | (go_at_call 198; (with_reducible refine HCA.out.mono ?_); rintro e wA ⟨AR, cR, hr', rfl, HC⟩; have hbA := HC.below; have hBA : Below w2.heap.size w2 wA := (Below.refl w2.heap.size w2).drew.trans hbA; have hwA : w.heap.size < wA.heap.size := Nat.lt_of_lt_of_le hlt0 hBA.size; have y0 := (hBA.cell (p := ⟨w.heap.size, 0, none⟩) hlt0).trans x0; have hsA := hBA.size; have hE := hBA.trans (((Below.refl wA.heap.size wA).alloc (Nat.le_refl _) (.cells #[.int .i64 b.props, .slice none 0 0, .slice AR b.rules.length cR] 30)).mono hsA))
      | (go_at_call 198; ((with_reducible refine HCB.out.mono ?_); rintro e wA ⟨AR, cR, hr', rfl, HC⟩; have hbA := HC.below; have hBA : Below w2.heap.size w2 wA := (((Below.refl w2.heap.size w2).alloc (Nat.le_refl _) _).drew).trans (hbA.mono (by simp)); have hwA : w.heap.size < wA.heap.size := Nat.lt_of_lt_of_le hlt0 hBA.size; have y0 := (hBA.cell (p := ⟨w.heap.size, 0, none⟩) hlt0).trans x0; have bx := ((Box.new w2 30 #[.int .i64 0, .slice none 0 0, .slice none 0 0]).drewN 1).below hbA; have e0 := bx.free 0; have e1 := bx.free 1; have e2 := bx.free 2; have e3 := bx.cell 0; have e4 := bx.cell 1; have e5 := bx.cell 2; simp only [List.getElem?_toArray, List.getElem?_cons_zero, List.getElem?_cons_succ] at e3 e4 e5; have hgA : w2.heap.size < wA.heap.size := bx.lt)))
    all_goals
      go_wp2_with fail
      go_meet
      have HH := HS2.out
      have ed : w2.drew.heap.size = w2.heap.size := rfl
      first
        | (refine ⟨wA.heap.size, wA.heap.size + 1, (AR, cR), hr', rfl, by omega, by omega, by simp, b0.below hE, b1.below hE, Box.new wA _ _, ?_, World.ownsRow_nil _ _ _ _, fun i hi => by omega, hy.trans (hE.mono hy.size)⟩
           refine RRl.below (w := wA) ⟨?_, fun i hi => ?_⟩ ((Below.refl _ _).alloc (Nat.le_refl _) _)
           · exact ReadsF.of_own' HC.own fun x h1 h2 => ⟨by omega, by omega, by omega⟩
           · exact ReadsF.of_own' (HC.lst i hi) fun x h1 h2 => ⟨by omega, by omega, by omega⟩)
        | (have hgs : w2.heap.size < wA.heap.size := bx.lt
           have q3 := ((bx.set 0 (.int .i64 b.props) (by simp)).set 1 (.slice none 0 0) (by simp)).set 2 (.slice AR b.rules.length cR) (by simp)
           have hK : Keeps (fun x => x ≠ w2.heap.size) wA (((wA.setCell ⟨w2.heap.size, 0, none⟩ (.int .i64 b.props)).setCell ⟨w2.heap.size, 1, none⟩ (.slice none 0 0)).setCell ⟨w2.heap.size, 2, none⟩ (.slice AR b.rules.length cR)) := ⟨by simp [World.setCell], fun x hx _ => by rw [Below.heap_setCell _ _ _ _ hx, Below.heap_setCell _ _ _ _ hx, Below.heap_setCell _ _ _ _ hx]⟩
           have sA : w2.heap.size + 1 ≤ (w2.alloc (.cells #[.int .i64 0, .slice none 0 0, .slice none 0 0] 30)).drew.heap.size := by simp
           refine ⟨w2.heap.size, wA.heap.size, (AR, cR), hr', rfl, by omega, hgs, by simp [World.setCell], (b0.below hBA).kept hK (by omega), (b1.below hBA).kept hK (by omega), by simpa using q3, ?_, World.ownsRow_nil _ _ _ _, fun i hi => by omega, ?_⟩
           · refine RRl.kept (w := wA) ⟨?_, fun i hi => ?_⟩ (hK.mono fun x hx => hx.2.1)
             · exact ReadsF.of_own' HC.own fun x h1 h2 => ⟨by omega, by omega, by omega⟩
             · exact ReadsF.of_own' (HC.lst i hi) fun x h1 h2 => ⟨by omega, by omega, by omega⟩
           · exact (((hy.trans (hBA.mono hy.size)).setCell (p := ⟨w2.heap.size, 0, none⟩) hy.size _).setCell (p := ⟨w2.heap.size, 1, none⟩) hy.size _).setCell (p := ⟨w2.heap.size, 2, none⟩) hy.size _)
  case rest =>
    obtain ⟨g, B, R, hr', rfl, HI0⟩ := hcut
    clear x0 x1 x2 b0 b1 HCA HCB HS2
    go_wp2_with fail
    go_loopw [4] (fun x wr => ∃ (k : Nat) (A : Option Addr) (c : Nat) (hp' hq' : Nat → SlH), k ≤ b.items.length ∧ x = .int .i64 k ∧ CpB w b (.slice A1 b.items.length c1) (.slice A2 b.rules.length c2) B g R hr' A c hp' hq' k wr) (fun x _ => b.items.length - (intOf x).toNat)
    case atStart => exact ⟨0, none, 0, hp, hq, by omega, rfl, HI0⟩
    case round =>
      clear HI0
      obtain ⟨k, A, c, hp', hq', hk, rfl, HI⟩ := hrel
      have y1 := HI.box0.cell 1
      simp only [List.getElem?_toArray, List.getElem?_cons_zero, List.getElem?_cons_succ] at y1
      by_cases hlt : k < b.items.length
      · obtain ⟨ad, rfl, hab, _, d0, d1⟩ := hR.it.row.at_ hlt
        unfold slV at d0 d1
        have hlo := HI.lo
        have hgl := HI.box.lt
        have hc1 := copyInts_any (gIt b.items k).parts (hp k).1 (hp k).2 wr.drew (show RN wr.drew (hp k).1 (gIt b.items k).parts from ((hR.below HI.below).it.parts k hlt).rn) (hS1 k hlt)
        have hc2 : ∀ W, Below wr.heap.size wr W → Calls Tryz.prog 197 #[.slice (hq k).1 (gIt b.items k).has.length (hq k).2] W _ := fun W hb => copyInts_any (gIt b.items k).has (hq k).1 (hq k).2 W ((((hR.below HI.below).it.has k hlt).rn).below hb) (hS2 k hlt)
        have HC1 := Lib.hid hc1; have HC2 := Lib.hid hc2
        obtain ⟨LP, hLP⟩ : ∃ LP, LP = (gIt b.items k).parts := ⟨_, rfl⟩
        obtain ⟨LH, hLH⟩ : ∃ LH, LH = (gIt b.items k).has := ⟨_, rfl⟩
        have HLP := Lib.hid hLP; have HLH := Lib.hid hLH
        rw [← hLP] at d0 HC1
        rw [← hLH] at d1 HC2
        clear hc1 hc2 hLP hLH
        have D0 := Lib.hid d0; have D1 := Lib.hid d1
        have d2 := HI.box.cell 1
        simp only [List.getElem?_toArray, List.getElem?_cons_zero, List.getElem?_cons_succ] at d2
        have D2 := Lib.hid d2; have Y1 := Lib.hid y1
        have hwl := HI.box0.lt
        have hBW := HI.below
        replace d0 := (hBW.cell (by exact hab)).trans d0
        replace d1 := (hBW.cell (by exact hab)).trans d1
        go_wp2_with fail
        have hgw2 : ¬ w.heap.size = g := by omega
        have hadg : ¬ (ad.add (k * 2)).block = g := by omega
        have q1 : wr.drew.cell? ⟨w.heap.size, 1, none⟩ = some (.slice (some ad) b.items.length c1) := Y1.out
        have q2 : wr.drew.cell? (ad.add (k * 2)) = some (.slice (hp k).1 LP.length (hp k).2) := d0
        have q3 : wr.drew.cell? ⟨(ad.add (k * 2)).block, (ad.add (k * 2)).off + 1, none⟩ = some (.slice (hq k).1 LH.length (hq k).2) := d1
        refine wp_region_noPanic ?_
        refine wp_region_held_drew (S := (fun w' => w'.cell? ⟨w.heap.size, 1, none⟩ = some (.slice (some ad) b.items.length c1) ∧ w'.cell? (ad.add (k * 2)) = some (.slice (hp k).1 LP.length (hp k).2) ∧ w'.cell? ⟨(ad.add (k * 2)).block, (ad.add (k * 2)).off + 1, none⟩ = some (.slice (hq k).1 LH.length (hq k).2))) (by kernel_rfl) ?_ (fun hHeld => ?_)
        · exact ⟨q1, q2, q3⟩
        refine takeL (i := 0) (v := ?_) rfl (by kernel_rfl) (by kernel_rfl) (by kernel_rfl) (fun _ _ _ h => h) (Or.inl ⟨by rfl, ?_⟩) (by assumption) ?_
        rotate_left
        focus (intro w hSw; (try dsimp only at hSw); go_simp; (try with_reducible rfl))
        (try simp only [Act.put, List.setIfInBounds_toArray, List.set_cons_zero, List.set_cons_succ])
        refine takeL (i := 2) (v := ?_) rfl (by kernel_rfl) (by kernel_rfl) (by kernel_rfl) (fun _ _ _ h => h) (Or.inl ⟨by rfl, ?_⟩) (by assumption) ?_
        rotate_left
        focus (intro w hSw; (try dsimp only at hSw); go_simp; (try with_reducible rfl))
        (try simp only [Act.put, List.setIfInBounds_toArray, List.set_cons_zero, List.set_cons_succ])
        refine takeL (i := 3) (v := ?_) rfl (by kernel_rfl) (by kernel_rfl) (by kernel_rfl) (fun _ _ _ h => h) (Or.inl ⟨by rfl, ?_⟩) (by assumption) ?_
        rotate_left
        focus (intro w hSw; (try dsimp only at hSw); go_simp; (try with_reducible rfl))
        (try simp only [Act.put, List.setIfInBounds_toArray, List.set_cons_zero, List.set_cons_succ])
        refine takeL (i := 4) (v := ?_) rfl (by kernel_rfl) (by kernel_rfl) (by kernel_rfl) (fun _ _ _ h => h) (Or.inl ⟨by rfl, ?_⟩) (by assumption) ?_
        rotate_left
        focus (intro w hSw; (try dsimp only at hSw); go_simp; (try with_reducible rfl))
        (try simp only [Act.put, List.setIfInBounds_toArray, List.set_cons_zero, List.set_cons_succ])
        refine takeL (i := 5) (v := ?_) rfl (by kernel_rfl) (by kernel_rfl) (by kernel_rfl) (fun _ _ _ h => h) (Or.inl ⟨by rfl, ?_⟩) (by assumption) ?_
        rotate_left
        focus (intro w hSw; (try dsimp only at hSw); go_simp; (try with_reducible rfl))
        (try simp only [Act.put, List.setIfInBounds_toArray, List.set_cons_zero, List.set_cons_succ])
        refine takeL (i := 6) (v := ?_) rfl (by kernel_rfl) (by kernel_rfl) (by kernel_rfl) (fun _ _ _ h => h) (Or.inl ⟨by rfl, ?_⟩) (by assumption) ?_
        rotate_left
        focus (intro w hSw; (try dsimp only at hSw); go_simp; (try with_reducible rfl))
        (try simp only [Act.put, List.setIfInBounds_toArray, List.set_cons_zero, List.set_cons_succ])
        refine takeL (i := 7) (v := ?_) rfl (by kernel_rfl) (by kernel_rfl) (by kernel_rfl) (fun _ _ _ h => h) (Or.inl ⟨by rfl, ?_⟩) (by assumption) ?_
        rotate_left
        focus (intro w hSw; (try dsimp only at hSw); go_simp; (try with_reducible rfl))
        (try simp only [Act.put, List.setIfInBounds_toArray, List.set_cons_zero, List.set_cons_succ])
        refine takeL (i := 9) (v := ?_) rfl (by kernel_rfl) (by kernel_rfl) (by kernel_rfl) (fun _ _ _ h => h) (Or.inl ⟨by rfl, ?_⟩) (by assumption) ?_
        rotate_left
        focus (intro w hSw; (try dsimp only at hSw); go_simp; (try with_reducible rfl))
        (try simp only [Act.put, List.setIfInBounds_toArray, List.set_cons_zero, List.set_cons_succ])
        refine takeL (i := 10) (v := ?_) rfl (by kernel_rfl) (by kernel_rfl) (by kernel_rfl) (fun _ _ _ h => h) (Or.inl ⟨by rfl, ?_⟩) (by assumption) ?_
        rotate_left
        focus (intro w hSw; (try dsimp only at hSw); go_simp; (try with_reducible rfl))
        (try simp only [Act.put, List.setIfInBounds_toArray, List.set_cons_zero, List.set_cons_succ])
        refine takeL (i := 11) (v := ?_) rfl (by kernel_rfl) (by kernel_rfl) (by kernel_rfl) (fun _ _ _ h => h) (Or.inl ⟨by rfl, ?_⟩) (by assumption) ?_
        rotate_left
        focus (intro w hSw; (try dsimp only at hSw); go_simp; (try with_reducible rfl))
        (try simp only [Act.put, List.setIfInBounds_toArray, List.set_cons_zero, List.set_cons_succ])
        refine takeL (i := 12) (v := ?_) rfl (by kernel_rfl) (by kernel_rfl) (by kernel_rfl) (fun _ _ _ h => h) (Or.inl ⟨by rfl, ?_⟩) (by assumption) ?_
        rotate_left
        focus (intro w hSw; (try dsimp only at hSw); go_simp; (try with_reducible rfl))
        (try simp only [Act.put, List.setIfInBounds_toArray, List.set_cons_zero, List.set_cons_succ])
        refine takeL (i := 13) (v := ?_) rfl (by kernel_rfl) (by kernel_rfl) (by kernel_rfl) (fun _ _ _ h => h) (Or.inl ⟨by rfl, ?_⟩) (by assumption) ?_
        rotate_left
        focus (intro w hSw; (try dsimp only at hSw); go_simp; (try with_reducible rfl))
        (try simp only [Act.put, List.setIfInBounds_toArray, List.set_cons_zero, List.set_cons_succ])
        refine takeL (i := 14) (v := ?_) rfl (by kernel_rfl) (by kernel_rfl) (by kernel_rfl) (fun _ _ _ h => h) (Or.inl ⟨by rfl, ?_⟩) (by assumption) ?_
        rotate_left
        focus (intro w hSw; (try dsimp only at hSw); go_simp; (try with_reducible rfl))
        (try simp only [Act.put, List.setIfInBounds_toArray, List.set_cons_zero, List.set_cons_succ])
        refine wpAnyH_ready (rs := [1, 8]) (by kernel_rfl) (by simp) ?_
        refine consL (i := 1) rfl (fun K hK => ?_) ?_
        · go_simp
          refine hK.out _ _ ?_ (fun hHeld => ?_)
          · exact hHeld
          clear hK K
          (try simp only [Act.put, List.setIfInBounds_toArray, List.set_cons_zero, List.set_cons_succ])
          refine wpAnyH_ready (rs := [8]) (by kernel_rfl) (by simp) ?_
          refine consL (i := 8) rfl (fun K hK => ?_) ?_
          · go_simp
            (go_at_call 197; (with_reducible refine HC1.out.mono ?_); rintro e wA ⟨AA, cA, rfl, ownA, hbA⟩; have hBA : Below wr.heap.size wr wA := (Below.refl wr.heap.size wr).drew.trans hbA; have hsA := hBA.size; have k0 := (hBA.cell (p := ⟨g, 1, none⟩) hgl).trans D2.out; have k1 := (hBA.cell (p := ⟨w.heap.size, 1, none⟩) hwl).trans Y1.out; have hWA := hBW.trans (hBA.mono hBW.size); have k2 := (hWA.cell (by exact hab)).trans D0.out; have k3 := (hWA.cell (by exact hab)).trans D1.out)
            (try go_wp2_with fail)
            refine hK.out _ _ ?_ (fun hHeld => ?_)
            · exact ⟨k1, k2, k3⟩
            clear hK K
            (try simp only [Act.put, List.setIfInBounds_toArray, List.set_cons_zero, List.set_cons_succ])
            refine wpAnyH_ready (rs := [15]) (by kernel_rfl) (by simp) ?_
            refine consL (i := 15) rfl (fun K hK => ?_) ?_
            · go_simp
              (go_at_call 197; (with_reducible refine (HC2.out _ hBA).mono ?_); rintro e wB ⟨AB, cB, rfl, ownB, hbB⟩; have hBB : Below wr.heap.size wr wB := hBA.trans (hbB.mono hsA); have HI4 := HI.keep hBB; have own4 := HI4.own; have ownA0 : OwnN wB B AA cA LP := own_below (own_base ownA (by exact HI.BW)) hbB (fun x hx => (World.ownsRow.lt ownA x hx).2); have hBwr := HI.BW; have ownB0 : OwnN wB B AB cB LH := own_base ownB (by omega); have hs4 : B ≤ wB.heap.size := Nat.le_trans hBwr hBB.size; have hgwB : g < wB.heap.size := Nat.lt_of_lt_of_le hgl hBB.size; have n0 := (hBB.cell (p := ⟨g, 1, none⟩) hgl).trans D2.out; have na := (fun (o : Obj) => (World.cell?_alloc_lt wB o ⟨g, 1, none⟩ hgwB).trans n0); have n1 := (hBB.cell (p := ⟨w.heap.size, 1, none⟩) hwl).trans Y1.out; have hWB := HI4.below; have n2 := (hWB.cell (by exact hab)).trans D0.out; have n3 := (hWB.cell (by exact hab)).trans D1.out; have hwB := HI4.box0.lt; have habB := Nat.lt_of_lt_of_le hab hWB.size; have p1 := (fun (o : Obj) => (World.cell?_alloc_lt wB o ⟨w.heap.size, 1, none⟩ hwB).trans n1); have p2 := (fun (o : Obj) => (World.cell?_alloc_lt wB o (ad.add (k * 2)) habB).trans n2); have p3 := (fun (o : Obj) => (World.cell?_alloc_lt wB o ⟨(ad.add (k * 2)).block, (ad.add (k * 2)).off + 1, none⟩ habB).trans n3))
              (try go_wp2_with fail)
              refine hK.out _ _ ?_ (fun hHeld => ?_)
              · exact ⟨n1, n2, n3⟩
              clear hK K
              (try simp only [Act.put, List.setIfInBounds_toArray, List.set_cons_zero, List.set_cons_succ])
              refine takeL (i := 16) (v := ?_) rfl (by kernel_rfl) (by kernel_rfl) (by kernel_rfl) (fun _ _ _ h => h) (Or.inl ⟨by rfl, ?_⟩) (by assumption) ?_
              rotate_left
              focus (intro w hSw; (try dsimp only at hSw); go_simp; (try with_reducible rfl))
              (try simp only [Act.put, List.setIfInBounds_toArray, List.set_cons_zero, List.set_cons_succ])
              refine wpAnyH_ready (rs := [17]) (by kernel_rfl) (by simp) ?_
              refine consL (i := 17) rfl (fun K hK => ?_) ?_
              · go_simp
                refine hK.out _ _ ?_ (fun hHeld => ?_)
                · exact ⟨p1 _, p2 _, p3 _⟩
                clear hK K
                (try simp only [Act.put, List.setIfInBounds_toArray, List.set_cons_zero, List.set_cons_succ])
                refine wpAnyH_ready (rs := [18]) (by kernel_rfl) (by simp) ?_
                refine consL (i := 18) rfl (fun K hK => ?_) ?_
                · (refine step_app2 (by rfl) _ _ (by rfl) Tryz.underlying27 info_item' rfl (by omega) (by rfl) (World.ownsRow.alloc own4 _) (news := [.slice AA LP.length cA, .slice AB LH.length cB]) ⟨wB.heap.size, 0, none⟩ (by rfl) (by rfl) (World.news_of_block (cs := #[.slice AA LP.length cA, .slice AB LH.length cB]) (t := 120) (fr := (0, 0)) (heap_alloc_new wB _)) (by simp [Value.oneCell']) (by omega) (by omega) (by have := hs4; simp; omega) ?_; intro A7 c7 w7 own7 hb7 hk7; have hgB := HI.gB; have hb47 : Below B wB w7 := (((Below.refl wB.heap.size wB).alloc (Nat.le_refl _) (.cells #[.slice AA LP.length cA, .slice AB LH.length cB] 120)).mono hs4).trans (hb7 B (Nat.le_refl _)); have bx7 := HI4.box.keep hb47 hgB; have m0 := bx7.cell 1; have mf := bx7.free 1; have m1 := (HI4.box0.keep hb47 (by omega)).cell 1; simp only [List.getElem?_toArray, List.getElem?_cons_zero, List.getElem?_cons_succ] at m0 m1; have hW7 := hWB.trans (hb47.mono (by omega)); have m2 := (hW7.cell (by exact hab)).trans D0.out; have m3 := (hW7.cell (by exact hab)).trans D1.out; have s1 := fun v => (set_cell_ne (w := w7) (p := ⟨g, 1, none⟩) (q := ⟨w.heap.size, 1, none⟩) v hgw2).trans m1; have s2 := fun v => (set_cell_ne (w := w7) (p := ⟨g, 1, none⟩) (q := ad.add (k * 2)) v hadg).trans m2; have s3 := fun v => (set_cell_ne (w := w7) (p := ⟨g, 1, none⟩) (q := ⟨(ad.add (k * 2)).block, (ad.add (k * 2)).off + 1, none⟩) v hadg).trans m3)
                  refine hK.out _ _ ?_ (fun hHeld => ?_)
                  · exact ⟨m1, m2, m3⟩
                  clear hK K
                  (try simp only [Act.put, List.setIfInBounds_toArray, List.set_cons_zero, List.set_cons_succ])
                  refine takeL (i := 19) (v := ?_) rfl (by kernel_rfl) (by kernel_rfl) (by kernel_rfl) (fun _ _ _ h => h) (Or.inl ⟨by rfl, ?_⟩) (by assumption) ?_
                  rotate_left
                  focus (intro w hSw; (try dsimp only at hSw); go_simp; (try with_reducible rfl))
                  (try simp only [Act.put, List.setIfInBounds_toArray, List.set_cons_zero, List.set_cons_succ])
                  refine wpAnyH_ready (rs := [20]) (by kernel_rfl) (by simp) ?_
                  refine consL (i := 20) rfl (fun K hK => ?_) ?_
                  · go_simp
                    refine hK.out _ _ ?_ (fun hHeld => ?_)
                    · exact ⟨s1 _, s2 _, s3 _⟩
                    clear hK K
                    (try simp only [Act.put, List.setIfInBounds_toArray, List.set_cons_zero, List.set_cons_succ])
                    refine wpAnyH_done (by kernel_rfl) ?_ _
                    refine NoPanic.normal ?_
                    rw [HLP.out] at ownA0 own7
                    rw [HLH.out] at ownB0 own7
                    have HI7 := HI4.app (AA, cA) (AB, cB) own7 hb47 (fun b2 e2 s2 n2 v2 xs2 ho he => hk7 _ _ _ _ _ _ (World.ownsRow.alloc ho _) he) ownA0 ownB0
                    go_wp2_with fail
                    go_roundw
                    case rel => exact ⟨k + 1, A7, c7, _, _, by omega, by go_num, HI7⟩
                    case measure => simp [intOf]; omega
                  · exact AllReadyH.nil
                · exact AllReadyH.nil
              · exact AllReadyH.nil
            · exact AllReadyH.nil
          · exact AllReadyH.nil
        refine consL (i := 8) rfl (fun K hK => ?_) ?_
        · go_simp
          (go_at_call 197; (with_reducible refine HC1.out.mono ?_); rintro e wA ⟨AA, cA, rfl, ownA, hbA⟩; have hBA : Below wr.heap.size wr wA := (Below.refl wr.heap.size wr).drew.trans hbA; have hsA := hBA.size; have k0 := (hBA.cell (p := ⟨g, 1, none⟩) hgl).trans D2.out; have k1 := (hBA.cell (p := ⟨w.heap.size, 1, none⟩) hwl).trans Y1.out; have hWA := hBW.trans (hBA.mono hBW.size); have k2 := (hWA.cell (by exact hab)).trans D0.out; have k3 := (hWA.cell (by exact hab)).trans D1.out)
          (try go_wp2_with fail)
          refine hK.out _ _ ?_ (fun hHeld => ?_)
          · exact ⟨k1, k2, k3⟩
          clear hK K
          (try simp only [Act.put, List.setIfInBounds_toArray, List.set_cons_zero, List.set_cons_succ])
          refine wpAnyH_ready (rs := [1, 15]) (by kernel_rfl) (by simp) ?_
          refine consL (i := 1) rfl (fun K hK => ?_) ?_
          · go_simp
            refine hK.out _ _ ?_ (fun hHeld => ?_)
            · exact hHeld
            clear hK K
            (try simp only [Act.put, List.setIfInBounds_toArray, List.set_cons_zero, List.set_cons_succ])
            refine wpAnyH_ready (rs := [15]) (by kernel_rfl) (by simp) ?_
            refine consL (i := 15) rfl (fun K hK => ?_) ?_
            · go_simp
              (go_at_call 197; (with_reducible refine (HC2.out _ hBA).mono ?_); rintro e wB ⟨AB, cB, rfl, ownB, hbB⟩; have hBB : Below wr.heap.size wr wB := hBA.trans (hbB.mono hsA); have HI4 := HI.keep hBB; have own4 := HI4.own; have ownA0 : OwnN wB B AA cA LP := own_below (own_base ownA (by exact HI.BW)) hbB (fun x hx => (World.ownsRow.lt ownA x hx).2); have hBwr := HI.BW; have ownB0 : OwnN wB B AB cB LH := own_base ownB (by omega); have hs4 : B ≤ wB.heap.size := Nat.le_trans hBwr hBB.size; have hgwB : g < wB.heap.size := Nat.lt_of_lt_of_le hgl hBB.size; have n0 := (hBB.cell (p := ⟨g, 1, none⟩) hgl).trans D2.out; have na := (fun (o : Obj) => (World.cell?_alloc_lt wB o ⟨g, 1, none⟩ hgwB).trans n0); have n1 := (hBB.cell (p := ⟨w.heap.size, 1, none⟩) hwl).trans Y1.out; have hWB := HI4.below; have n2 := (hWB.cell (by exact hab)).trans D0.out; have n3 := (hWB.cell (by exact hab)).trans D1.out; have hwB := HI4.box0.lt; have habB := Nat.lt_of_lt_of_le hab hWB.size; have p1 := (fun (o : Obj) => (World.cell?_alloc_lt wB o ⟨w.heap.size, 1, none⟩ hwB).trans n1); have p2 := (fun (o : Obj) => (World.cell?_alloc_lt wB o (ad.add (k * 2)) habB).trans n2); have p3 := (fun (o : Obj) => (World.cell?_alloc_lt wB o ⟨(ad.add (k * 2)).block, (ad.add (k * 2)).off + 1, none⟩ habB).trans n3))
              (try go_wp2_with fail)
              refine hK.out _ _ ?_ (fun hHeld => ?_)
              · exact ⟨n1, n2, n3⟩
              clear hK K
              (try simp only [Act.put, List.setIfInBounds_toArray, List.set_cons_zero, List.set_cons_succ])
              refine takeL (i := 16) (v := ?_) rfl (by kernel_rfl) (by kernel_rfl) (by kernel_rfl) (fun _ _ _ h => h) (Or.inl ⟨by rfl, ?_⟩) (by assumption) ?_
              rotate_left
              focus (intro w hSw; (try dsimp only at hSw); go_simp; (try with_reducible rfl))
              (try simp only [Act.put, List.setIfInBounds_toArray, List.set_cons_zero, List.set_cons_succ])
              refine wpAnyH_ready (rs := [17]) (by kernel_rfl) (by simp) ?_
              refine consL (i := 17) rfl (fun K hK => ?_) ?_
              · go_simp
                refine hK.out _ _ ?_ (fun hHeld => ?_)
                · exact ⟨p1 _, p2 _, p3 _⟩
                clear hK K
                (try simp only [Act.put, List.setIfInBounds_toArray, List.set_cons_zero, List.set_cons_succ])
                refine wpAnyH_ready (rs := [18]) (by kernel_rfl) (by simp) ?_
                refine consL (i := 18) rfl (fun K hK => ?_) ?_
                · (refine step_app2 (by rfl) _ _ (by rfl) Tryz.underlying27 info_item' rfl (by omega) (by rfl) (World.ownsRow.alloc own4 _) (news := [.slice AA LP.length cA, .slice AB LH.length cB]) ⟨wB.heap.size, 0, none⟩ (by rfl) (by rfl) (World.news_of_block (cs := #[.slice AA LP.length cA, .slice AB LH.length cB]) (t := 120) (fr := (0, 0)) (heap_alloc_new wB _)) (by simp [Value.oneCell']) (by omega) (by omega) (by have := hs4; simp; omega) ?_; intro A7 c7 w7 own7 hb7 hk7; have hgB := HI.gB; have hb47 : Below B wB w7 := (((Below.refl wB.heap.size wB).alloc (Nat.le_refl _) (.cells #[.slice AA LP.length cA, .slice AB LH.length cB] 120)).mono hs4).trans (hb7 B (Nat.le_refl _)); have bx7 := HI4.box.keep hb47 hgB; have m0 := bx7.cell 1; have mf := bx7.free 1; have m1 := (HI4.box0.keep hb47 (by omega)).cell 1; simp only [List.getElem?_toArray, List.getElem?_cons_zero, List.getElem?_cons_succ] at m0 m1; have hW7 := hWB.trans (hb47.mono (by omega)); have m2 := (hW7.cell (by exact hab)).trans D0.out; have m3 := (hW7.cell (by exact hab)).trans D1.out; have s1 := fun v => (set_cell_ne (w := w7) (p := ⟨g, 1, none⟩) (q := ⟨w.heap.size, 1, none⟩) v hgw2).trans m1; have s2 := fun v => (set_cell_ne (w := w7) (p := ⟨g, 1, none⟩) (q := ad.add (k * 2)) v hadg).trans m2; have s3 := fun v => (set_cell_ne (w := w7) (p := ⟨g, 1, none⟩) (q := ⟨(ad.add (k * 2)).block, (ad.add (k * 2)).off + 1, none⟩) v hadg).trans m3)
                  refine hK.out _ _ ?_ (fun hHeld => ?_)
                  · exact ⟨m1, m2, m3⟩
                  clear hK K
                  (try simp only [Act.put, List.setIfInBounds_toArray, List.set_cons_zero, List.set_cons_succ])
                  refine takeL (i := 19) (v := ?_) rfl (by kernel_rfl) (by kernel_rfl) (by kernel_rfl) (fun _ _ _ h => h) (Or.inl ⟨by rfl, ?_⟩) (by assumption) ?_
                  rotate_left
                  focus (intro w hSw; (try dsimp only at hSw); go_simp; (try with_reducible rfl))
                  (try simp only [Act.put, List.setIfInBounds_toArray, List.set_cons_zero, List.set_cons_succ])
                  refine wpAnyH_ready (rs := [20]) (by kernel_rfl) (by simp) ?_
                  refine consL (i := 20) rfl (fun K hK => ?_) ?_
                  · go_simp
                    refine hK.out _ _ ?_ (fun hHeld => ?_)
                    · exact ⟨s1 _, s2 _, s3 _⟩
                    clear hK K
                    (try simp only [Act.put, List.setIfInBounds_toArray, List.set_cons_zero, List.set_cons_succ])
                    refine wpAnyH_done (by kernel_rfl) ?_ _
                    refine NoPanic.normal ?_
                    rw [HLP.out] at ownA0 own7
                    rw [HLH.out] at ownB0 own7
                    have HI7 := HI4.app (AA, cA) (AB, cB) own7 hb47 (fun b2 e2 s2 n2 v2 xs2 ho he => hk7 _ _ _ _ _ _ (World.ownsRow.alloc ho _) he) ownA0 ownB0
                    go_wp2_with fail
                    go_roundw
                    case rel => exact ⟨k + 1, A7, c7, _, _, by omega, by go_num, HI7⟩
                    case measure => simp [intOf]; omega
                  · exact AllReadyH.nil
                · exact AllReadyH.nil
              · exact AllReadyH.nil
            · exact AllReadyH.nil
          refine consL (i := 15) rfl (fun K hK => ?_) ?_
          · go_simp
            (go_at_call 197; (with_reducible refine (HC2.out _ hBA).mono ?_); rintro e wB ⟨AB, cB, rfl, ownB, hbB⟩; have hBB : Below wr.heap.size wr wB := hBA.trans (hbB.mono hsA); have HI4 := HI.keep hBB; have own4 := HI4.own; have ownA0 : OwnN wB B AA cA LP := own_below (own_base ownA (by exact HI.BW)) hbB (fun x hx => (World.ownsRow.lt ownA x hx).2); have hBwr := HI.BW; have ownB0 : OwnN wB B AB cB LH := own_base ownB (by omega); have hs4 : B ≤ wB.heap.size := Nat.le_trans hBwr hBB.size; have hgwB : g < wB.heap.size := Nat.lt_of_lt_of_le hgl hBB.size; have n0 := (hBB.cell (p := ⟨g, 1, none⟩) hgl).trans D2.out; have na := (fun (o : Obj) => (World.cell?_alloc_lt wB o ⟨g, 1, none⟩ hgwB).trans n0); have n1 := (hBB.cell (p := ⟨w.heap.size, 1, none⟩) hwl).trans Y1.out; have hWB := HI4.below; have n2 := (hWB.cell (by exact hab)).trans D0.out; have n3 := (hWB.cell (by exact hab)).trans D1.out; have hwB := HI4.box0.lt; have habB := Nat.lt_of_lt_of_le hab hWB.size; have p1 := (fun (o : Obj) => (World.cell?_alloc_lt wB o ⟨w.heap.size, 1, none⟩ hwB).trans n1); have p2 := (fun (o : Obj) => (World.cell?_alloc_lt wB o (ad.add (k * 2)) habB).trans n2); have p3 := (fun (o : Obj) => (World.cell?_alloc_lt wB o ⟨(ad.add (k * 2)).block, (ad.add (k * 2)).off + 1, none⟩ habB).trans n3))
            (try go_wp2_with fail)
            refine hK.out _ _ ?_ (fun hHeld => ?_)
            · exact ⟨n1, n2, n3⟩
            clear hK K
            (try simp only [Act.put, List.setIfInBounds_toArray, List.set_cons_zero, List.set_cons_succ])
            refine takeL (i := 16) (v := ?_) rfl (by kernel_rfl) (by kernel_rfl) (by kernel_rfl) (fun _ _ _ h => h) (Or.inl ⟨by rfl, ?_⟩) (by assumption) ?_
            rotate_left
            focus (intro w hSw; (try dsimp only at hSw); go_simp; (try with_reducible rfl))
            (try simp only [Act.put, List.setIfInBounds_toArray, List.set_cons_zero, List.set_cons_succ])
            refine wpAnyH_ready (rs := [1, 17]) (by kernel_rfl) (by simp) ?_
            refine consL (i := 1) rfl (fun K hK => ?_) ?_
            · go_simp
              refine hK.out _ _ ?_ (fun hHeld => ?_)
              · exact hHeld
              clear hK K
              (try simp only [Act.put, List.setIfInBounds_toArray, List.set_cons_zero, List.set_cons_succ])
              refine wpAnyH_ready (rs := [17]) (by kernel_rfl) (by simp) ?_
              refine consL (i := 17) rfl (fun K hK => ?_) ?_
              · go_simp
                refine hK.out _ _ ?_ (fun hHeld => ?_)
                · exact ⟨p1 _, p2 _, p3 _⟩
                clear hK K
                (try simp only [Act.put, List.setIfInBounds_toArray, List.set_cons_zero, List.set_cons_succ])
                refine wpAnyH_ready (rs := [18]) (by kernel_rfl) (by simp) ?_
                refine consL (i := 18) rfl (fun K hK => ?_) ?_
                · (refine step_app2 (by rfl) _ _ (by rfl) Tryz.underlying27 info_item' rfl (by omega) (by rfl) (World.ownsRow.alloc own4 _) (news := [.slice AA LP.length cA, .slice AB LH.length cB]) ⟨wB.heap.size, 0, none⟩ (by rfl) (by rfl) (World.news_of_block (cs := #[.slice AA LP.length cA, .slice AB LH.length cB]) (t := 120) (fr := (0, 0)) (heap_alloc_new wB _)) (by simp [Value.oneCell']) (by omega) (by omega) (by have := hs4; simp; omega) ?_; intro A7 c7 w7 own7 hb7 hk7; have hgB := HI.gB; have hb47 : Below B wB w7 := (((Below.refl wB.heap.size wB).alloc (Nat.le_refl _) (.cells #[.slice AA LP.length cA, .slice AB LH.length cB] 120)).mono hs4).trans (hb7 B (Nat.le_refl _)); have bx7 := HI4.box.keep hb47 hgB; have m0 := bx7.cell 1; have mf := bx7.free 1; have m1 := (HI4.box0.keep hb47 (by omega)).cell 1; simp only [List.getElem?_toArray, List.getElem?_cons_zero, List.getElem?_cons_succ] at m0 m1; have hW7 := hWB.trans (hb47.mono (by omega)); have m2 := (hW7.cell (by exact hab)).trans D0.out; have m3 := (hW7.cell (by exact hab)).trans D1.out; have s1 := fun v => (set_cell_ne (w := w7) (p := ⟨g, 1, none⟩) (q := ⟨w.heap.size, 1, none⟩) v hgw2).trans m1; have s2 := fun v => (set_cell_ne (w := w7) (p := ⟨g, 1, none⟩) (q := ad.add (k * 2)) v hadg).trans m2; have s3 := fun v => (set_cell_ne (w := w7) (p := ⟨g, 1, none⟩) (q := ⟨(ad.add (k * 2)).block, (ad.add (k * 2)).off + 1, none⟩) v hadg).trans m3)
                  refine hK.out _ _ ?_ (fun hHeld => ?_)
                  · exact ⟨m1, m2, m3⟩
                  clear hK K
                  (try simp only [Act.put, List.setIfInBounds_toArray, List.set_cons_zero, List.set_cons_succ])
                  refine takeL (i := 19) (v := ?_) rfl (by kernel_rfl) (by kernel_rfl) (by kernel_rfl) (fun _ _ _ h => h) (Or.inl ⟨by rfl, ?_⟩) (by assumption) ?_
                  rotate_left
                  focus (intro w hSw; (try dsimp only at hSw); go_simp; (try with_reducible rfl))
                  (try simp only [Act.put, List.setIfInBounds_toArray, List.set_cons_zero, List.set_cons_succ])
                  refine wpAnyH_ready (rs := [20]) (by kernel_rfl) (by simp) ?_
                  refine consL (i := 20) rfl (fun K hK => ?_) ?_
                  · go_simp
                    refine hK.out _ _ ?_ (fun hHeld => ?_)
                    · exact ⟨s1 _, s2 _, s3 _⟩
                    clear hK K
                    (try simp only [Act.put, List.setIfInBounds_toArray, List.set_cons_zero, List.set_cons_succ])
                    refine wpAnyH_done (by kernel_rfl) ?_ _
                    refine NoPanic.normal ?_
                    rw [HLP.out] at ownA0 own7
                    rw [HLH.out] at ownB0 own7
                    have HI7 := HI4.app (AA, cA) (AB, cB) own7 hb47 (fun b2 e2 s2 n2 v2 xs2 ho he => hk7 _ _ _ _ _ _ (World.ownsRow.alloc ho _) he) ownA0 ownB0
                    go_wp2_with fail
                    go_roundw
                    case rel => exact ⟨k + 1, A7, c7, _, _, by omega, by go_num, HI7⟩
                    case measure => simp [intOf]; omega
                  · exact AllReadyH.nil
                · exact AllReadyH.nil
              · exact AllReadyH.nil
            refine consL (i := 17) rfl (fun K hK => ?_) ?_
            · go_simp
              refine hK.out _ _ ?_ (fun hHeld => ?_)
              · exact ⟨p1 _, p2 _, p3 _⟩
              clear hK K
              (try simp only [Act.put, List.setIfInBounds_toArray, List.set_cons_zero, List.set_cons_succ])
              refine wpAnyH_ready (rs := [1]) (by kernel_rfl) (by simp) ?_
              refine consL (i := 1) rfl (fun K hK => ?_) ?_
              · go_simp
                refine hK.out _ _ ?_ (fun hHeld => ?_)
                · exact hHeld
                clear hK K
                (try simp only [Act.put, List.setIfInBounds_toArray, List.set_cons_zero, List.set_cons_succ])
                refine wpAnyH_ready (rs := [18]) (by kernel_rfl) (by simp) ?_
                refine consL (i := 18) rfl (fun K hK => ?_) ?_
                · (refine step_app2 (by rfl) _ _ (by rfl) Tryz.underlying27 info_item' rfl (by omega) (by rfl) (World.ownsRow.alloc own4 _) (news := [.slice AA LP.length cA, .slice AB LH.length cB]) ⟨wB.heap.size, 0, none⟩ (by rfl) (by rfl) (World.news_of_block (cs := #[.slice AA LP.length cA, .slice AB LH.length cB]) (t := 120) (fr := (0, 0)) (heap_alloc_new wB _)) (by simp [Value.oneCell']) (by omega) (by omega) (by have := hs4; simp; omega) ?_; intro A7 c7 w7 own7 hb7 hk7; have hgB := HI.gB; have hb47 : Below B wB w7 := (((Below.refl wB.heap.size wB).alloc (Nat.le_refl _) (.cells #[.slice AA LP.length cA, .slice AB LH.length cB] 120)).mono hs4).trans (hb7 B (Nat.le_refl _)); have bx7 := HI4.box.keep hb47 hgB; have m0 := bx7.cell 1; have mf := bx7.free 1; have m1 := (HI4.box0.keep hb47 (by omega)).cell 1; simp only [List.getElem?_toArray, List.getElem?_cons_zero, List.getElem?_cons_succ] at m0 m1; have hW7 := hWB.trans (hb47.mono (by omega)); have m2 := (hW7.cell (by exact hab)).trans D0.out; have m3 := (hW7.cell (by exact hab)).trans D1.out; have s1 := fun v => (set_cell_ne (w := w7) (p := ⟨g, 1, none⟩) (q := ⟨w.heap.size, 1, none⟩) v hgw2).trans m1; have s2 := fun v => (set_cell_ne (w := w7) (p := ⟨g, 1, none⟩) (q := ad.add (k * 2)) v hadg).trans m2; have s3 := fun v => (set_cell_ne (w := w7) (p := ⟨g, 1, none⟩) (q := ⟨(ad.add (k * 2)).block, (ad.add (k * 2)).off + 1, none⟩) v hadg).trans m3)
                  refine hK.out _ _ ?_ (fun hHeld => ?_)
                  · exact ⟨m1, m2, m3⟩
                  clear hK K
                  (try simp only [Act.put, List.setIfInBounds_toArray, List.set_cons_zero, List.set_cons_succ])
                  refine takeL (i := 19) (v := ?_) rfl (by kernel_rfl) (by kernel_rfl) (by kernel_rfl) (fun _ _ _ h => h) (Or.inl ⟨by rfl, ?_⟩) (by assumption) ?_
                  rotate_left
                  focus (intro w hSw; (try dsimp only at hSw); go_simp; (try with_reducible rfl))
                  (try simp only [Act.put, List.setIfInBounds_toArray, List.set_cons_zero, List.set_cons_succ])
                  refine wpAnyH_ready (rs := [20]) (by kernel_rfl) (by simp) ?_
                  refine consL (i := 20) rfl (fun K hK => ?_) ?_
                  · go_simp
                    refine hK.out _ _ ?_ (fun hHeld => ?_)
                    · exact ⟨s1 _, s2 _, s3 _⟩
                    clear hK K
                    (try simp only [Act.put, List.setIfInBounds_toArray, List.set_cons_zero, List.set_cons_succ])
                    refine wpAnyH_done (by kernel_rfl) ?_ _
                    refine NoPanic.normal ?_
                    rw [HLP.out] at ownA0 own7
                    rw [HLH.out] at ownB0 own7
                    have HI7 := HI4.app (AA, cA) (AB, cB) own7 hb47 (fun b2 e2 s2 n2 v2 xs2 ho he => hk7 _ _ _ _ _ _ (World.ownsRow.alloc ho _) he) ownA0 ownB0
                    go_wp2_with fail
                    go_roundw
                    case rel => exact ⟨k + 1, A7, c7, _, _, by omega, by go_num, HI7⟩
                    case measure => simp [intOf]; omega
                  · exact AllReadyH.nil
                · exact AllReadyH.nil
              · exact AllReadyH.nil
            · exact AllReadyH.nil
          · exact AllReadyH.nil
        · exact AllReadyH.nil
      · obtain rfl : k = b.items.length := by omega
        have hlo := HI.lo; have hgB := HI.gB
        have z0 := HI.box.cell 0; have z1 := HI.box.cell 1; have z2 := HI.box.cell 2
        have g0 := HI.box1.free 0; have g1 := HI.box1.free 1; have g2 := HI.box1.free 2
        have r0 := HI.box1.cell 0; have r1 := HI.box1.cell 1; have r2 := HI.box1.cell 2
        simp only [List.getElem?_toArray, List.getElem?_cons_zero, List.getElem?_cons_succ] at z0 z1 z2 r0 r1 r2
        go_wp2_with fail
        have q3 := ((HI.box1.set 0 (.int .i64 b.props) (by simp)).set 1 (.slice A b.items.length c) (by simp)).set 2 (.slice R.1 b.rules.length R.2) (by simp)
        have v0 := q3.cell 0; have v1 := q3.cell 1; have v2 := q3.cell 2
        simp at v0 v1 v2
        have hb' := ((HI.below.setCell (p := ⟨w.heap.size + 1, 0, none⟩) (by show w.heap.size ≤ w.heap.size + 1; omega) (.int .i64 b.props)).setCell (p := ⟨w.heap.size + 1, 1, none⟩) (by show w.heap.size ≤ w.heap.size + 1; omega) (.slice A b.items.length c)).setCell (p := ⟨w.heap.size + 1, 2, none⟩) (by show w.heap.size ≤ w.heap.size + 1; omega) (.slice R.1 b.rules.length R.2)
        have hk2 : Keeps (fun x => x ≠ w.heap.size + 1) wr (((wr.setCell ⟨w.heap.size + 1, 0, none⟩ (.int .i64 b.props)).setCell ⟨w.heap.size + 1, 1, none⟩ (.slice A b.items.length c)).setCell ⟨w.heap.size + 1, 2, none⟩ (.slice R.1 b.rules.length R.2)) := ⟨by simp [World.setCell], fun x hx _ => by rw [Below.heap_setCell _ _ _ _ hx, Below.heap_setCell _ _ _ _ hx, Below.heap_setCell _ _ _ _ hx]⟩
        refine bodyPost_ret (v := .agg #[.int .i64 b.props, .slice A b.items.length c, .slice R.1 b.rules.length R.2]) (by simp [results, Tryz.results132, go_sem, v0, v1, v2]) rfl ?_
        refine ⟨A, c, R.1, R.2, hp', hq', hr', rfl, ⟨⟨?_, fun i hi => ?_, fun i hi => ?_⟩, ?_⟩, hb'⟩
        · exact ReadsF.mono (ReadsF.kept (F := fun x => B ≤ x) (ReadsF.of_own HI.own fun x hx => (World.ownsRow.lt HI.own x hx).1) (hk2.mono fun x hx => by have : B ≤ x := hx; omega)) fun x hx => by have : B ≤ x := hx; omega
        · exact ReadsF.mono (ReadsF.kept (F := fun x => B ≤ x) (ReadsF.of_own (HI.lst i hi).1 fun x hx => (World.ownsRow.lt (HI.lst i hi).1 x hx).1) (hk2.mono fun x hx => by have : B ≤ x := hx; omega)) fun x hx => by have : B ≤ x := hx; omega
        · exact ReadsF.mono (ReadsF.kept (F := fun x => B ≤ x) (ReadsF.of_own (HI.lst i hi).2 fun x hx => (World.ownsRow.lt (HI.lst i hi).2 x hx).1) (hk2.mono fun x hx => by have : B ≤ x := hx; omega)) fun x hx => by have : B ≤ x := hx; omega
        · exact (HI.rl.kept (hk2.mono fun x hx => by have := hx.1; omega)).mono fun x hx => by have := hx.1; omega
end Go.Proofs.YtiapkffihpgdcaaGreatDoor
