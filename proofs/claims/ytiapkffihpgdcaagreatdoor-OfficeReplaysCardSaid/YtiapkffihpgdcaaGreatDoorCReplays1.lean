/-
  OfficeReplays: for every firm, every list of orders and every number the law returns true, panics nowhere and leaves its arguments as they were: a book done anew makes the same office, and so do its first lines. On the tied card. No condition beyond the card.
-/
import Derived.Test.YtiapkffihpgdcaaGreatDoorQB1
import Derived.Test.YtiapkffihpgdcaaGreatDoorQB2
import Derived.Test.YtiapkffihpgdcaaGreatDoorQB3
import Derived.Test.YtiapkffihpgdcaaGreatDoorQB4
import Derived.Test.YtiapkffihpgdcaaGreatDoorQB5
import Derived.Test.YtiapkffihpgdcaaGreatDoorQB6
import Derived.Test.YtiapkffihpgdcaaGreatDoorQB7
import Derived.Test.YtiapkffihpgdcaaGreatDoorQB8
import Derived.Test.YtiapkffihpgdcaaGreatDoorQB9
import Derived.Test.YtiapkffihpgdcaaGreatDoorQB10
import Derived.Test.YtiapkffihpgdcaaGreatDoorQB11
import Derived.Test.YtiapkffihpgdcaaGreatDoorQB12
import Derived.Test.YtiapkffihpgdcaaGreatDoorQB13
import Derived.Test.YtiapkffihpgdcaaGreatDoorQB14
import Derived.Test.YtiapkffihpgdcaaGreatDoorQB15
import Derived.Test.YtiapkffihpgdcaaGreatDoorQB16
import Derived.Test.YtiapkffihpgdcaaGreatDoorQB17
import Derived.Test.YtiapkffihpgdcaaGreatDoorQB18
import Derived.Test.YtiapkffihpgdcaaGreatDoorQB19
import Derived.Test.YtiapkffihpgdcaaGreatDoorQB20
import Derived.Test.YtiapkffihpgdcaaGreatDoorQB21
import Derived.Test.YtiapkffihpgdcaaGreatDoorQB22
import Derived.Test.YtiapkffihpgdcaaGreatDoorQB23
import Derived.Test.YtiapkffihpgdcaaGreatDoorQB24
import Derived.Test.YtiapkffihpgdcaaGreatDoorQB25
import Derived.Test.YtiapkffihpgdcaaGreatDoorQB26
import Derived.Test.YtiapkffihpgdcaaGreatDoorQB27
import Derived.Test.YtiapkffihpgdcaaGreatDoorQB28
import Derived.Test.YtiapkffihpgdcaaGreatDoorQB29
import Derived.Test.YtiapkffihpgdcaaGreatDoorQB30
import Derived.Test.YtiapkffihpgdcaaGreatDoorQB31
import Derived.Test.YtiapkffihpgdcaaGreatDoorQB32
import Derived.Test.YtiapkffihpgdcaaGreatDoorQB33
import Derived.Test.YtiapkffihpgdcaaGreatDoorQB34
import Derived.Test.YtiapkffihpgdcaaGreatDoorQB35
import Derived.IntWalk
import Derived.ScopeJumps
import Derived.WalkMore
import Derived.StillTailTactics
import Derived.Test.YtiapkffihpgdcaaGreatDoorTie
import Derived.Test.YtiapkffihpgdcaaGreatDoorCards
import Derived.SevenTiedAt
import Derived.ChangeMaps5
set_option linter.unusedVariables false
set_option linter.unusedSimpArgs false
set_option maxRecDepth 100000
namespace Go.Proofs.YtiapkffihpgdcaaGreatDoor
open Go.RowKit
def apart (v v':Value):Prop:=∀k,v.ownBlock=some k→v'.ownBlock=some k→False
section
variable {P:Program}{W:World}{ops:Array Oper}{o:Oper}{a:Act}{K:Act→World→Prop}{Q:Exit→Act→World→Prop}{E:Prop}{rest:List Oper}
 {t e:TypeId} {z:Value} {size bytes base n c:Nat} {A:Option Addr} {xs news:List Value}
end
theorem kn_equal {w0 w1 w:World}{N:Nat}{Z Z':Nat→Prop}{g x:Nat}{s:Of}(hk:KN w0 N Z g s w)(hx:KR w1 Z' x s w) :
  Calls Tryz.prog 54 #[.pointer (some ⟨g,0,none⟩),.pointer (some ⟨x,0,none⟩)] w fun e w'=>e=.returned (.bool true)∧Below w.heap.size w w':=by
 obtain ⟨F,h,hP,_⟩:=hk
 obtain ⟨F',h',hO,_⟩:=hx
 exact equal_any hP hO
section
variable {w0 w:World}{N g x:Nat}{s s':Of}
theorem DN.cOd (hd:DN w0 N g x s s' w):w.cell? ⟨x,17,none⟩=some (.int .i64 s'.orders.length):=by
 obtain ⟨F,F',h,h',hd⟩:=hd
 exact hd.ro.cOd
theorem DN.cBk (hd:DN w0 N g x s s' w):w.cell? ⟨x,18,none⟩=some (St (bok s')):=by
 obtain ⟨F,F',h,h',hd⟩:=hd
 exact hd.ro.cBk
theorem DN.kr (hd:DN w0 N g x s s' w):KR w0 (fun _=>False) x s' w:=by
 obtain ⟨F,F',h,h',hd⟩:=hd
 exact ⟨F',h',hd.ro,hd.bel,hd.lo',fun _ hz=>hz.elim⟩
end
theorem mod_nat (n:Int)(M:Nat)(h:M≤200):∃k:Nat,k≤M∧RowKit.wrap64 ((IntKind.u64.wrap n).tmod ((M:Int)+1))=k:=by
 have hu:0≤IntKind.u64.wrap n:=by simp [IntKind.wrap,IntKind.bits,IntKind.signed];omega
 rw [Int.tmod_eq_emod_of_nonneg hu]
 have h1:=Int.emod_nonneg (IntKind.u64.wrap n) (show (M:Int)+1≠0 by omega)
 have h2:=Int.emod_lt_of_pos (IntKind.u64.wrap n) (show 0<(M:Int)+1 by omega)
 refine ⟨(IntKind.u64.wrap n % ((M:Int)+1)).toNat,by omega,?_⟩
 rw [IntWalk.wrap64_in _ (by omega)];omega
theorem rread_at {w:World}(t:Wd)(ls:List Wd)(ht:t.length≤1000000000)(hrd:rd t=(ls,[])) :
  Calls Tryz.prog 33 #[St t] w fun e w'=>∃A c,e=.returned (.tuple #[.slice A ls.length c,St []])∧OwnS w' w.heap.size A c ls∧Below w.heap.size w w':=by
 have:=rread_any (w:=w) t ht
 rw [hrd] at this
 exact this
set_option maxHeartbeats 3200000 in
theorem pre_OfficeReplays {f:Fi}{w:World}(hf:f.In w)(hE:EnvA w)(l:List Wd)(A:Option Addr)(c:Nat)(hR:RS w A l)(hll:l.length≤9223372036854775807)(n:Int)(h:lrg f.t f.b=true∨(lrg f.t f.b=false∧lng l=true)∨(lrg f.t f.b=false∧lng l=false∧f.e≠0)) :
  Calls Tryz.prog 13 #[.agg f.cells,.slice A l.length c,.int .i64 n] w fun e w'=>e=.returned (.bool true)∧Below w.heap.size w w':=by
 unfold Fi.cells
 obtain ⟨w2,hw2⟩:∃w2,w.alloc (.cells #[.int .i64 f.t.len,.slice f.A1 f.t.rest.length f.c1,.slice f.A2 f.t.clo.length f.c2,.int .i64 f.c.n,.int .i64 f.c.f,.int .i64 f.c.k,.int .i64 f.b.props,.slice f.B1 f.b.items.length f.d1,.slice f.B2 f.b.rules.length f.d2] 32)=w2:=⟨_,rfl⟩
 have hy:Below w.heap.size w w2:=by rw [← hw2];exact (Below.refl _ w).alloc (Nat.le_refl _) _
 have b0:Box w2 w.heap.size #[.int .i64 f.t.len,.slice f.A1 f.t.rest.length f.c1,.slice f.A2 f.t.clo.length f.c2,.int .i64 f.c.n,.int .i64 f.c.f,.int .i64 f.c.k,.int .i64 f.b.props,.slice f.B1 f.b.items.length f.d1,.slice f.B2 f.b.rules.length f.d2]:=by rw [← hw2];exact Box.new w _ _
 have HL:=Lib.hid (large_any f.t f.c f.b (fun _=>True) f.A1 f.A2 f.B1 f.B2 f.c1 f.c2 f.d1 f.d2 f.hp f.hq f.hr w2 (hf.below hy).bk)
 have HO:=Lib.hid (fun (w':World) (hb:Below w2.heap.size w2 w')=>olong_any l A c w' hll ((hR.below hy).below hb))
 have x0:=b0.cell 0;have x1:=b0.cell 1;have x2:=b0.cell 2;have x3:=b0.cell 3;have x4:=b0.cell 4;have x5:=b0.cell 5;have x6:=b0.cell 6;have x7:=b0.cell 7;have x8:=b0.cell 8;simp only [gqA,gqB,gqC] at x0 x1 x2 x3 x4 x5 x6 x7 x8
 rcases h with h | ⟨h,h'⟩ | ⟨h,h',hz⟩
 ·rw [h] at HL
  go_enter Tryz.func13,Tryz.ntmps13
  go_wp2_with (first | (go_at_call 34;(with_reducible refine HL.out.mono ?_);rintro e w3 ⟨rfl,hb3⟩;have b3:=b0.below hb3;have hy3:=hy.trans (hb3.mono hy.size);have y0:=b3.cell 0;have y1:=b3.cell 1;have y2:=b3.cell 2;have y3:=b3.cell 3;have y4:=b3.cell 4;have y5:=b3.cell 5;have y6:=b3.cell 6;have y7:=b3.cell 7;have y8:=b3.cell 8;simp only [gqA,gqB,gqC] at y0 y1 y2 y3 y4 y5 y6 y7 y8) | (go_at_call 31;(with_reducible refine (oknown_any (hE.below hy3)).mono ?_);rintro e wk ⟨rfl,hbk⟩))
  go_ret
  exact ⟨rfl,hy3.trans (hbk.mono hy3.size)⟩
 ·rw [h] at HL
  rw [h'] at HO
  go_enter Tryz.func13,Tryz.ntmps13
  go_wp2_with (first | (go_at_call 34;(with_reducible refine HL.out.mono ?_);rintro e w3 ⟨rfl,hb3⟩;have b3:=b0.below hb3;have hy3:=hy.trans (hb3.mono hy.size);have y0:=b3.cell 0;have y1:=b3.cell 1;have y2:=b3.cell 2;have y3:=b3.cell 3;have y4:=b3.cell 4;have y5:=b3.cell 5;have y6:=b3.cell 6;have y7:=b3.cell 7;have y8:=b3.cell 8;simp only [gqA,gqB,gqC] at y0 y1 y2 y3 y4 y5 y6 y7 y8) | (go_at_call 35;(with_reducible refine (HO.out _ hb3).mono ?_);rintro e w4 ⟨rfl,hb4⟩;have b4:=b3.below hb4;have hy4:=hy3.trans (hb4.mono hy3.size);have z0:=b4.cell 0;have z1:=b4.cell 1;have z2:=b4.cell 2;have z3:=b4.cell 3;have z4:=b4.cell 4;have z5:=b4.cell 5;have z6:=b4.cell 6;have z7:=b4.cell 7;have z8:=b4.cell 8;simp only [gqA,gqB,gqC] at z0 z1 z2 z3 z4 z5 z6 z7 z8) | (go_at_call 31;(with_reducible refine (oknown_any (hE.below hy4)).mono ?_);rintro e wk ⟨rfl,hbk⟩))
  go_ret
  exact ⟨rfl,hy4.trans (hbk.mono hy4.size)⟩
 ·rw [h] at HL
  rw [h'] at HO
  have hlen:=lrg_len h
  have HB:=Lib.hid (fun (w':World) (hb:Below w.heap.size w w')=>begin_bad (hf.below hb) hlen (hE.below hb) hz)
  have HF:=Lib.hid (fun (w':World) (hb:Below w.heap.size w w')=>failed_any (hf.below hb) hlen (hE.below hb) hz)
  unfold Fi.cells at HB HF
  clear hz h h'
  go_enter Tryz.func13,Tryz.ntmps13
  go_wp2_with (first
   | (go_at_call 34;(with_reducible refine HL.out.mono ?_);rintro e w3 ⟨rfl,hb3⟩;have b3:=b0.below hb3;have hy3:=hy.trans (hb3.mono hy.size);have y0:=b3.cell 0;have y1:=b3.cell 1;have y2:=b3.cell 2;have y3:=b3.cell 3;have y4:=b3.cell 4;have y5:=b3.cell 5;have y6:=b3.cell 6;have y7:=b3.cell 7;have y8:=b3.cell 8;simp only [gqA,gqB,gqC] at y0 y1 y2 y3 y4 y5 y6 y7 y8)
   | (go_at_call 35;(with_reducible refine (HO.out _ hb3).mono ?_);rintro e w4 ⟨rfl,hb4⟩;have b4:=b3.below hb4;have hy4:=hy3.trans (hb4.mono hy3.size);have z0:=b4.cell 0;have z1:=b4.cell 1;have z2:=b4.cell 2;have z3:=b4.cell 3;have z4:=b4.cell 4;have z5:=b4.cell 5;have z6:=b4.cell 6;have z7:=b4.cell 7;have z8:=b4.cell 8;simp only [gqA,gqB,gqC] at z0 z1 z2 z3 z4 z5 z6 z7 z8)
   | (go_at_call 36;(with_reducible refine (HB.out _ hy4).mono ?_);rintro e w5 ⟨rfl,hb5⟩;have b5:=b4.below hb5;have hy5:=hy4.trans (hb5.mono hy4.size);have v0:=b5.cell 0;have v1:=b5.cell 1;have v2:=b5.cell 2;have v3:=b5.cell 3;have v4:=b5.cell 4;have v5:=b5.cell 5;have v6:=b5.cell 6;have v7:=b5.cell 7;have v8:=b5.cell 8;simp only [gqA,gqB,gqC] at v0 v1 v2 v3 v4 v5 v6 v7 v8)
   | (go_at_call 37;(with_reducible refine (HF.out _ hy5).mono ?_);rintro e w6 ⟨rfl,hb6⟩))
  go_ret
  exact ⟨rfl,hy5.trans (hb6.mono hy5.size)⟩
set_option maxHeartbeats 3200000 in
theorem main_OfficeReplays {f : Fi} {w : World} (hf : f.In w) (hE : EnvA w) (l : List Wd) (A : Option Addr) (c : Nat) (hR : RS w A l) (hll : l.length ≤ 9223372036854775807) (n : Int) (h : lrg f.t f.b = false) (h' : lng l = false) (hz : f.e = 0) :
    Calls Tryz.prog 13 #[.agg f.cells, .slice A l.length c, .int .i64 n] w fun e w' => e = .returned (.bool true) ∧ Below w.heap.size w w' := by
  unfold Fi.cells
  obtain ⟨w2, hw2⟩ : ∃ w2, w.alloc (.cells #[.int .i64 f.t.len, .slice f.A1 f.t.rest.length f.c1, .slice f.A2 f.t.clo.length f.c2, .int .i64 f.c.n, .int .i64 f.c.f, .int .i64 f.c.k, .int .i64 f.b.props, .slice f.B1 f.b.items.length f.d1, .slice f.B2 f.b.rules.length f.d2] 32) = w2 := ⟨_, rfl⟩
  have hy : Below w.heap.size w w2 := by rw [← hw2]; exact (Below.refl _ w).alloc (Nat.le_refl _) _
  have b0 : Box w2 w.heap.size #[.int .i64 f.t.len, .slice f.A1 f.t.rest.length f.c1, .slice f.A2 f.t.clo.length f.c2, .int .i64 f.c.n, .int .i64 f.c.f, .int .i64 f.c.k, .int .i64 f.b.props, .slice f.B1 f.b.items.length f.d1, .slice f.B2 f.b.rules.length f.d2] := by rw [← hw2]; exact Box.new w _ _
  have HL := Lib.hid (large_any f.t f.c f.b (fun _ => True) f.A1 f.A2 f.B1 f.B2 f.c1 f.c2 f.d1 f.d2 f.hp f.hq f.hr w2 (hf.below hy).bk)
  have HO := Lib.hid (fun (w' : World) (hb : Below w2.heap.size w2 w') => olong_any l A c w' hll ((hR.below hy).below hb))
  have x0 := b0.cell 0; have x1 := b0.cell 1; have x2 := b0.cell 2; have x3 := b0.cell 3; have x4 := b0.cell 4; have x5 := b0.cell 5; have x6 := b0.cell 6; have x7 := b0.cell 7; have x8 := b0.cell 8; simp only [List.getElem?_toArray, List.getElem?_cons_zero, List.getElem?_cons_succ] at x0 x1 x2 x3 x4 x5 x6 x7 x8
  rw [h] at HL
  rw [h'] at HO
  have hlen := lrg_len h
  have htlen := lrg_tlen h hz
  obtain ⟨hl3, hlw⟩ := lng_no h'
  have HLW := Lib.hid hlw
  have HB := Lib.hid (fun (w' : World) (hb : Below w.heap.size w w') => begin_ok (hf.below hb) hlen (hE.below hb) hz)
  unfold Fi.cells at HB
  obtain ⟨m, hm⟩ : ∃ m, m = min l.length 30 := ⟨_, rfl⟩
  have hm1 : m ≤ l.length ∧ m ≤ 30 := by omega
  have hm2 : m = l.length ∨ (m = 30 ∧ 30 < l.length) := by omega
  have HM := Lib.hid hm2
  have hso := OfOk.new hz
  have hzz := hz
  have hng := h'
  clear hz h h' hlw hm hm2
  have HX := Lib.hid (fun (w' : World) (hb : Below w.heap.size w w') => both_ok9 (hf.below hb) hlen (hE.below hb) hzz l A c (hR.below hb) hng)
  unfold Fi.cells at HX
  obtain ⟨S, hS⟩ : ∃ S, S = runTo f.s0 l (min l.length 30) := ⟨_, rfl⟩
  rw [← hS] at HX
  obtain ⟨q, hq⟩ : ∃ q, q = min l.length 30 := ⟨_, rfl⟩
  have hq30 : q < 1000000000 := by omega
  rw [← hq] at HX
  obtain ⟨hso2, hro, hrs⟩ := replay_facts hS hzz
  obtain ⟨hrd, hbl⟩ := rd_take hso2 _ (Nat.le_refl _)
  rw [List.take_length] at hrd
  have hol := hso2.ol
  obtain ⟨ls, hls⟩ : ∃ ls, ls = S.orders := ⟨_, rfl⟩
  obtain ⟨T, hT⟩ : ∃ T, T = bok S := ⟨_, rfl⟩
  have hT2 : bokTo S.orders S.orders.length = T := by rw [hT]; rfl
  rw [hT2] at hrd hbl
  rw [← hls] at hro hrs hrd hbl hol
  have HPR := Lib.hid (fun (w' : World) (hb : Below w.heap.size w w') => preplay_at (hf.below hb) hlen (hE.below hb) hzz T ls (by omega) hrd hro)
  rw [hrs] at HPR
  have HRE := Lib.hid (fun (w' : World) => rread_at (w := w') T ls (by omega) hrd)
  have HTK := Lib.hid (fun (k : Nat) (hk : k ≤ ls.length) => by have := rd_take hso2 k (by rw [← hls]; exact hk); rw [← hls] at this; exact this)
  have HOT := Lib.hid (fun (k : Nat) (hk : k ≤ ls.length) => okTo_take f.s0 ls hro k hk)
  have HZZ := Lib.hid hzz
  have HLS := Lib.hid hls
  have HTT := Lib.hid hT
  have n1 : ((ls.length : Int) != (ls.length : Int)) = false := by simp
  clear hS hng hq hzz hro hrs hrd hls hT hT2
  go_enter Tryz.func13, Tryz.ntmps13
  go_wp2_with (first
    | (go_at_call 34; (with_reducible refine HL.out.mono ?_); rintro e w3 ⟨rfl, hb3⟩; have b3 := b0.below hb3; have hy3 := hy.trans (hb3.mono hy.size); have y0 := b3.cell 0; have y1 := b3.cell 1; have y2 := b3.cell 2; have y3 := b3.cell 3; have y4 := b3.cell 4; have y5 := b3.cell 5; have y6 := b3.cell 6; have y7 := b3.cell 7; have y8 := b3.cell 8; simp only [List.getElem?_toArray, List.getElem?_cons_zero, List.getElem?_cons_succ] at y0 y1 y2 y3 y4 y5 y6 y7 y8)
    | (go_at_call 35; (with_reducible refine (HO.out _ hb3).mono ?_); rintro e w4 ⟨rfl, hb4⟩; have b4 := b3.below hb4; have hy4 := hy3.trans (hb4.mono hy3.size); have z0 := b4.cell 0; have z1 := b4.cell 1; have z2 := b4.cell 2; have z3 := b4.cell 3; have z4 := b4.cell 4; have z5 := b4.cell 5; have z6 := b4.cell 6; have z7 := b4.cell 7; have z8 := b4.cell 8; simp only [List.getElem?_toArray, List.getElem?_cons_zero, List.getElem?_cons_succ] at z0 z1 z2 z3 z4 z5 z6 z7 z8)
    | (go_at_call 36; (with_reducible refine (HB.out _ hy4).mono ?_); rintro e w5 ⟨g, x, rfl, hd⟩; have b5 := b4.below hd.bel; have hy5 := hy4.trans (hd.bel.mono hy4.size); have v0 := b5.cell 0; have v1 := b5.cell 1; have v2 := b5.cell 2; have v3 := b5.cell 3; have v4 := b5.cell 4; have v5 := b5.cell 5; have v6 := b5.cell 6; have v7 := b5.cell 7; have v8 := b5.cell 8; simp only [List.getElem?_toArray, List.getElem?_cons_zero, List.getElem?_cons_succ] at v0 v1 v2 v3 v4 v5 v6 v7 v8)
    | (go_at_call 38; (with_reducible refine (HX.out _ hy5).mono ?_); rintro e w6 ⟨gg, xx, rfl, hd6⟩
       have hy6 := hy5.trans (hd6.bel.mono hy5.size)
       have b6 := b5.below hd6.bel
       have p0 := b6.cell 0; have p1 := b6.cell 1; have p2 := b6.cell 2; have p3 := b6.cell 3; have p4 := b6.cell 4; have p5 := b6.cell 5; have p6 := b6.cell 6; have p7 := b6.cell 7; have p8 := b6.cell 8; simp only [List.getElem?_toArray, List.getElem?_cons_zero, List.getElem?_cons_succ] at p0 p1 p2 p3 p4 p5 p6 p7 p8))
  have D6 := hd6.below (Below.refl w6.heap.size w6).drew
  have HK := Lib.hid D6.book
  clear x0 x1 x2 x3 x4 x5 x6 x7 x8 y0 y1 y2 y3 y4 y5 y6 y7 y8 z0 z1 z2 z3 z4 z5 z6 z7 z8 v0 v1 v2 v3 v4 v5 v6 v7 v8 HB HX HL HO
  go_region_held3 (fun w' => w'.cell? ⟨w.heap.size, 0, none⟩ = some (.int .i64 f.t.len) ∧ w'.cell? ⟨w.heap.size, 1, none⟩ = some (.slice f.A1 f.t.rest.length f.c1) ∧ w'.cell? ⟨w.heap.size, 2, none⟩ = some (.slice f.A2 f.t.clo.length f.c2) ∧ w'.cell? ⟨w.heap.size, 3, none⟩ = some (.int .i64 f.c.n) ∧ w'.cell? ⟨w.heap.size, 4, none⟩ = some (.int .i64 f.c.f) ∧ w'.cell? ⟨w.heap.size, 5, none⟩ = some (.int .i64 f.c.k) ∧ w'.cell? ⟨w.heap.size, 6, none⟩ = some (.int .i64 f.b.props) ∧ w'.cell? ⟨w.heap.size, 7, none⟩ = some (.slice f.B1 f.b.items.length f.d1) ∧ w'.cell? ⟨w.heap.size, 8, none⟩ = some (.slice f.B2 f.b.rules.length f.d2))
    (first | exact ⟨p0, p1, p2, p3, p4, p5, p6, p7, p8⟩ | exact ⟨r0, r1, r2, r3, r4, r5, r6, r7, r8⟩ | exact ⟨s0, s1, s2, s3, s4, s5, s6, s7, s8⟩ | go_keep)
    (first
      | (go_at_call 23; rw [← HTT.out] at HK; (with_reducible refine HK.out.mono ?_); rintro e w7 ⟨rfl, hb7⟩
         have hd7 := D6.below hb7
         have hy7 := hy5.trans (hd7.bel.mono hy5.size)
         have b7 := b5.below hd7.bel
         have r0 := b7.cell 0; have r1 := b7.cell 1; have r2 := b7.cell 2; have r3 := b7.cell 3; have r4 := b7.cell 4; have r5 := b7.cell 5; have r6 := b7.cell 6; have r7 := b7.cell 7; have r8 := b7.cell 8; simp only [List.getElem?_toArray, List.getElem?_cons_zero, List.getElem?_cons_succ] at r0 r1 r2 r3 r4 r5 r6 r7 r8)
      | (go_at_call 55; (with_reducible refine (HPR.out _ hy7).mono ?_); rintro e w8 ⟨g2, rfl, hk8⟩
         have hd8 := hd7.below hk8.at_
         have hy8 := hy5.trans (hd8.bel.mono hy5.size)
         have b8 := b5.below hd8.bel
         have HQ := Lib.hid (kn_equal hk8 hd8.kr)
         have o17 := hd8.cOd
         rw [← HLS.out] at o17
         have s0 := b8.cell 0; have s1 := b8.cell 1; have s2 := b8.cell 2; have s3 := b8.cell 3; have s4 := b8.cell 4; have s5 := b8.cell 5; have s6 := b8.cell 6; have s7 := b8.cell 7; have s8 := b8.cell 8; simp only [List.getElem?_toArray, List.getElem?_cons_zero, List.getElem?_cons_succ] at s0 s1 s2 s3 s4 s5 s6 s7 s8))
  all_goals
    go_wp2_with (first
      | (go_at_call 54; (with_reducible refine HQ.out.mono ?_); rintro e w9 ⟨rfl, hb9⟩
         have hd9 := hd8.below hb9
         have o18 := hd9.cBk
         rw [← HTT.out] at o18)
      | (go_at_call 33; (with_reducible refine (HRE.out _).mono ?_); rintro e wA ⟨RA, rc, rfl, ownR, hbA⟩
         have hdA := hd9.below hbA
         have hyA := hy5.trans (hdA.bel.mono hy5.size)))
  all_goals
    obtain ⟨k0, hk0, ek0⟩ := mod_nat n ls.length (by omega)
    rw [ek0]
    clear ek0
    obtain ⟨hrd0, hbl0⟩ := HTK.out k0 hk0
    have hok0 := HOT.out k0 hk0
    have hl0 : (ls.take k0).length = k0 := by rw [List.length_take]; omega
    have bA := b5.below hdA.bel
    have rsA := RS.of_own ownR
    have HKL := Lib.hid (fun (k : Nat) (hk : k ≤ ls.length) => (HTK.out k hk).2)
    obtain ⟨TK, hTK⟩ : ∃ TK, TK = bokTo ls k0 := ⟨_, rfl⟩
    obtain ⟨l0, hl00⟩ : ∃ l0, l0 = ls.take k0 := ⟨_, rfl⟩
    rw [← hl00] at hl0 hrd0 hok0
    rw [← hTK] at hrd0 hbl0
    have hok1 : okTo f.s0 l0 l0.length = true := by rw [hl0]; exact hok0
    have HXR := Lib.hid (fun (w' : World) (hb : Below w.heap.size w w') => xreplay_at (hf.below hb) hlen (hE.below hb) HZZ.out TK l0 (by omega) hrd0 hok1)
    have HPR2 := Lib.hid (fun (w' : World) (hb : Below w.heap.size w w') => preplay_at (hf.below hb) hlen (hE.below hb) HZZ.out TK l0 (by omega) hrd0 hok1)
    rw [hl0] at HXR HPR2
    have HTK0 := Lib.hid hTK
    have n2 : ((k0 : Int) == (k0 : Int)) = true := by simp
    clear hrd0 hok0 hok1 hl00 hTK hd6 hd7 hd8 hd9 D6 HK HTK HOT n1
    go_loopw [18, 19] (fun tx v wr => ∃ k : Nat, k ≤ k0 ∧ v = .int .i64 k ∧ tx = St (bokTo ls k) ∧ Below wA.heap.size wA wr) (fun _ v _ => k0 - (intOf v).toNat)
    case atStart => exact ⟨0, by omega, rfl, rfl, Below.refl _ _⟩
    case round =>
      obtain ⟨k, hk, rfl, rfl, hb⟩ := hrel
      by_cases hlt : k < k0
      · obtain ⟨ad, rfl, hab, c0⟩ := (rsA.below hb).at_ (k := k) (by omega)
        have hst : bokTo ls (k + 1) = bokTo ls k ++ (ls[k]'(by omega) ++ [10]) := by rw [← nil_getD (by omega)]; rfl
        have hln := HKL.out (k + 1) (by omega)
        obtain ⟨tx, htx⟩ : ∃ tx, tx = ls[k]'(by omega) := ⟨_, rfl⟩
        rw [← htx] at c0 hst
        rw [hst] at hln
        obtain ⟨P, hP⟩ : ∃ P, P = bokTo ls k := ⟨_, rfl⟩
        rw [← hP] at hst hln ⊢
        have HST := Lib.hid hst
        have hcat1 : (⟨tx.toArray⟩ : ByteArray) ++ ⟨#[10]⟩ = ⟨(tx ++ [10]).toArray⟩ := st_app tx [10]
        have hcat2 : (⟨P.toArray⟩ : ByteArray) ++ ⟨(tx ++ [10]).toArray⟩ = ⟨(P ++ (tx ++ [10])).toArray⟩ := st_app P (tx ++ [10])
        simp only [List.length_append, List.length_cons, List.length_nil] at hln
        have hsum1 : ¬ 9223372036854775807 < tx.length + 1 := by omega
        have hsum2 : ¬ 9223372036854775807 < P.length + (tx.length + 1) := by omega
        have hsum3 : ¬ 9223372036854775807 < P.length + (tx ++ [10]).length := by simp; omega
        clear htx hst hP
        go_wp2_with fail
        go_roundw
        case rel => exact ⟨k + 1, by omega, by go_num, by rw [HST.out], hb⟩
        case measure => simp [intOf]; omega
      · obtain rfl : k = k0 := by omega
        rw [← HTK0.out]
        have hyr := hyA.trans (hb.mono hyA.size)
        have br := bA.below hb
        have m0 := br.cell 0; have m1 := br.cell 1; have m2 := br.cell 2; have m3 := br.cell 3; have m4 := br.cell 4; have m5 := br.cell 5; have m6 := br.cell 6; have m7 := br.cell 7; have m8 := br.cell 8; simp only [List.getElem?_toArray, List.getElem?_cons_zero, List.getElem?_cons_succ] at m0 m1 m2 m3 m4 m5 m6 m7 m8
        go_wp2_with (first
          | (go_at_call 56; (with_reducible refine (HXR.out _ hyr).mono ?_); rintro e wB ⟨x2, rfl, hkB⟩
             have bB := br.below hkB.at_
             have hyB := hyr.trans (hkB.at_.mono hyr.size)
             have j0 := bB.cell 0; have j1 := bB.cell 1; have j2 := bB.cell 2; have j3 := bB.cell 3; have j4 := bB.cell 4; have j5 := bB.cell 5; have j6 := bB.cell 6; have j7 := bB.cell 7; have j8 := bB.cell 8; simp only [List.getElem?_toArray, List.getElem?_cons_zero, List.getElem?_cons_succ] at j0 j1 j2 j3 j4 j5 j6 j7 j8)
          | (go_at_call 55; (with_reducible refine (HPR2.out _ hyB).mono ?_); rintro e wC ⟨g3, rfl, hkC⟩
             have hyC := hyB.trans (hkC.at_.mono hyB.size)
             have HQ2 := Lib.hid (kn_equal hkC (hkB.below hkC.at_)))
          | (go_at_call 54; (with_reducible refine HQ2.out.mono ?_); rintro e wD ⟨rfl, hbD⟩
             have hyD := hyC.trans (hbD.mono hyC.size))
          | (go_at_call 31; (with_reducible refine (oknown_any (hE.below hyD)).mono ?_); rintro e wk ⟨rfl, hbk⟩))
        go_ret
        exact ⟨rfl, hyD.trans (hbk.mono hyD.size)⟩
theorem officeReplays_any {f:Fi}{w:World}(hf:f.In w)(hE:EnvA w)(l:List Wd)(A:Option Addr)(c:Nat)(hR:RS w A l)(hll:l.length≤9223372036854775807)(n:Int) :
  Calls Tryz.prog 13 #[.agg f.cells,.slice A l.length c,.int .i64 n] w fun e w'=>e=.returned (.bool true)∧Below w.heap.size w w':=by
 cases h:lrg f.t f.b with
 | true=>exact pre_OfficeReplays hf hE l A c hR hll n (.inl h)
 | false =>
  cases h':lng l with
  | true=>exact pre_OfficeReplays hf hE l A c hR hll n (.inr (.inl ⟨h,h'⟩))
  | false =>
   by_cases hz:f.e=0
   ·exact main_OfficeReplays hf hE l A c hR hll n h h' hz
   ·exact pre_OfficeReplays hf hE l A c hR hll n (.inr (.inr ⟨h,h',hz⟩))
end Go.Proofs.YtiapkffihpgdcaaGreatDoor
namespace Go.Proofs.YtiapkffihpgdcaaGreatDoor
open Go.ChangeShapes Go.WideShapes Go.ChangeAt Go.RowKit Go.Deep Go.Joins
theorem handed_shaped {H:Type}{enc:TypeId × Value→H}{a:Assume}{C:Checked}{os:Os}{f:FuncId}{fn:Func}{s:ChangeSpec}{conds:List PathCond}{apart fresh handsOn again:Bool}{X:World→Array Value→Prop}
  (hX:∀(w w':World) (args:Array Value),w.heap=w'.heap→X w args→X w' args)
  (own:ownKnob C.prog.godebug=none) (started:os.Started) (noInit:C.prog.inits.idxOf? f=none) (hfn:C.prog.funcs[f]? = some fn)
  (start:∃(w:World) (tape:Tape) (i:Input),w.os=os∧(w.forCall tape i).Shaped C.prog∧i.vars=[]∧Input.okWide C.prog (w.forCall tape i) .any w.heap.size f i ∧
   ((s.pre enc C.prog fn conds apart (w.forCall tape i).memory i.args∧X (w.forCall tape i).memory i.args)∧sizedMet enc C.prog fn (OpenSpec.ofChange s) apart (w.forCall tape i).memory i.args)∧a.holds C.prog (lone (Frame.enter C.prog f i.args .normal) [] (w.forCall tape i)))
  (walk:∀(W:World) (base:Nat) (args:Array Value) (ds gs:List (DataW H)) (before:List MemPlace),
   (∀(j:Nat) t v,fn.params[j]? = some t→args[j]? = some v→Value.okWide C.prog W .any base t v)→DataW.Whole enc C.prog fn.params.toList s.vars apart W args.toList ds gs before→W.ShapedOpen C.prog→X W args →
   Calls C.prog f args W fun e W'=>∃v,e=.returned v∧s.post enc C.prog fn apart fresh handsOn again W args v W') :
  ReturnsInHanded a C os f .any (fun w args=>(s.pre enc C.prog fn conds apart w args∧X w args)∧sizedMet enc C.prog fn (OpenSpec.ofChange s) apart w args) (s.post enc C.prog fn apart fresh handsOn again):=by
 refine returnsInHanded_of_calls own started noInit start ?_
 rintro w tape i-hsh - ⟨_,_,_,g,hg,_,_,_,_,hval⟩ ⟨⟨⟨ds,gs,before,hw,-⟩,hx⟩,-⟩ -
 obtain rfl:g=fn:=Option.some.inj (hg.symm.trans hfn)
 refine (walk (w.forCall tape i) w.heap.size i.args ds gs before hval (DataW.Whole.of_heap (by rfl) hw) hsh (hX _ _ _ (by rfl) hx)).mono fun e W' hh=>?_
 obtain ⟨v,he,hp⟩:=hh
 subst he
 exact ChangeSpec.post_blind hp
/-- The listed variables that hold plain data. -/
noncomputable def plainL:List (String × DataW Unit):=[("math/bits.deBruijn32tab",Rows.laid_math_bits_deBruijn32tab),("math/bits.deBruijn64tab",Rows.laid_math_bits_deBruijn64tab),("unicode/utf8.acceptRanges",Rows.laid_unicode_utf8_acceptRanges),("unicode/utf8.first",Rows.laid_unicode_utf8_first)]
theorem officeReplays_env {W:World}(hL:laidMetH Tryz.prog Rows.officeReplaysRow.laid W)(hs:W.ShapedOpen Tryz.prog):EnvA W:=by
 obtain ⟨h1,h2⟩:=plain_met (Lp:=plainL) (by kernel_rfl) (by kernel_rfl) hL
 exact env_of h1 (by simp [plainL]) (by simp [plainL]) h2 hs
theorem officeReplays_lifted (os:Os)(started:os.Started)(H:Type)(enc:TypeId × Value→H) :
  ReturnsInHanded {} Tryz.checked os 13 .any (fun w args=>(Rows.officeReplaysSpec.pre enc Tryz.prog Tryz.f13 [] false w args∧laidMetH Tryz.prog Rows.officeReplaysRow.laid w)∧sizedMet enc Tryz.prog Tryz.f13 (OpenSpec.ofChange Rows.officeReplaysSpec) false w args)
   (Rows.officeReplaysSpec.post enc Tryz.prog Tryz.f13 false true false false):=by
 refine handed_shaped (C:=Tryz.checked) (X:=fun w _=>laidMetH Tryz.prog Rows.officeReplaysRow.laid w) (fun _ _ _ hh h=>h.of_heap hh) own_ started (by kernel_rfl) Tryz.func13
  (ChangeSpec.witness_shaped (enc:=enc) (C:=Tryz.checked) (os:=os) (X:=fun w _=>laidMetH Tryz.prog Rows.officeReplaysRow.laid w) false (witW os plainL) #[.agg #[.int .i64 0,.slice none 0 0,.slice none 0 0,.int .i64 0,.int .i64 0,.int .i64 0,.int .i64 0,.slice none 0 0,.slice none 0 0],.slice none 0 0,.int .i64 0] 8 (by unfold witW;rw [World.layVars_os];rfl)
   (World.shaped_of_ZipB (by kernel_rfl) (by kernel_rfl)) (by kernel_rfl) (by kernel_rfl) (by kernel_rfl)
   (laidMetH_of_parts (by rw [show (Rows.officeReplaysRow.laid.filter fun x=>x.2.handleName?.isNone)=plainL by kernel_rfl];exact witW_met _ (by kernel_rfl) (by kernel_rfl)) (by kernel_rfl))) ?_
 intro W base args ds gs before hval0 hW hS hL
 have hval:∀(j:Nat) t v,Tryz.f13.params[j]? = some t→args[j]? = some v→Value.okWide Tryz.prog W .any base t v:=hval0
 have hW':=hW
 obtain ⟨p,q,hA0,hV,rfl,hfz,hnd⟩:=hW
 have hA:DataW.TrodAll enc Tryz.prog W 0 (fun _=>true) true Tryz.f13.params.toList args.toList ds p:=hA0
 rw [Tryz.params13] at hA hval
 obtain ⟨v0,v1,v2,d0,d1,d2,p0,p1,p2,rfl,rfl,rfl,h0,h1,h2⟩:=trodAll_three hA
 obtain ⟨f,rfl,hf⟩:=open_firm (hval 0 _ v0 rfl rfl) h0
 obtain ⟨l,A,c,rfl,hrs,hll,hlk⟩:=open_orders (hval 1 _ v1 rfl rfl) h1
 obtain ⟨n2,rfl,-,-,wn2⟩:=Go.ChangeShapes.open_int Tryz.underlying3 (hval 2 _ v2 rfl rfl) h2
 refine (officeReplays_any hf (officeReplays_env hL hS) l A c hrs hll n2).mono fun e W' ⟨he,hb⟩=>?_
 subst he
 exact ⟨_,rfl,law_post hW' rfl (by kernel_rfl) rfl (by rw [Tryz.params13];intro t ht;simp at ht;rcases ht with rfl | rfl | rfl <;> exact ⟨by kernel_rfl,of_decide_eq_true (by kernel_rfl)⟩) hb⟩
set_option maxHeartbeats 4000000 in
theorem officeReplays_closed:joinedFacts Tryz.prog 13 Tryz.f13 Rows.officeReplaysSpec Rows.officeReplaysRow=true:=by
 unfold joinedFacts
 simp only [Bool.and_eq_true]
 repeat' apply And.intro
 all_goals (as_aux_lemma=>kernel_rfl)
set_option maxHeartbeats 4000000 in
theorem officeReplays_wrap:Tryz.f13.isWrapper Tryz.prog Rows.officeReplaysRow.wrapper Rows.officeReplaysRow.mainSum:=by
 unfold Func.isWrapper;first | (rw [if_pos (by decide +kernel)];kernel_rfl) | (rw [if_neg (by decide +kernel)];exact ⟨rfl,rfl⟩)
theorem officeReplays_named:Tryz.prog.funcNamed Rows.officeReplaysRow.func=some 13:=by kernel_rfl
theorem officeReplays_inst:Tryz.f13.isInstance Tryz.prog Rows.officeReplaysRow.origin Rows.officeReplaysRow.targs:=of_decide_eq_true (by kernel_rfl)
set_option maxHeartbeats 4000000 in
theorem officeReplays_row:Rows.OfficeReplaysSaid :=
 OpenClaim.holds_of_wide 13 Tryz.f13 rfl rfl rfl rfl rfl rfl rfl ⟨rfl,rfl,rfl,rfl,rfl⟩ rfl rfl rfl rfl rfl officeReplays_named Tryz.func13 officeReplays_closed
  officeReplays_inst officeReplays_wrap
  (fun os started H enc _=>officeReplays_lifted os started H enc)
theorem officeReplays_wfT:Rows.officeReplaysRow.wfByText (OpenSpec.ofChange Rows.officeReplaysSpec)=true:=by kernel_rfl
theorem office_main:Tryz.pinned.checked.prog.mainIs=some (true,"5a9a52965f4185065c0d39a39ec58f829537e604a07fc4f1dbce9d7d2d17f592".toList):=by kernel_rfl
theorem office_looks:true=Tryz.pinned.checked.prog.looks []:=by kernel_rfl
theorem officeReplays_goes:false=Rows.officeReplaysRow.goesBy Tryz.pinned.checked.prog:=by kernel_rfl
theorem officeReplays_stand:([32,33,3].all fun u=>!Tryz.prog.wantsStandIn u)=true:=by kernel_rfl
set_option maxHeartbeats 4000000 in
theorem officeReplays_holds:Rows.OfficeReplaysCardSaid :=
 Claim7.holds_tied_plain_at .later [] [.data,.data,.data,.handle,.pinned] true (true,"5a9a52965f4185065c0d39a39ec58f829537e604a07fc4f1dbce9d7d2d17f592") true
  officeReplays_row (fun _ h=>by cases h) officeReplays_wfT (fun _ h=>by cases h) officeReplays_row_tie rfl ⟨rfl,rfl⟩ office_main rfl
  (fun f fn hf hfn=>by
   obtain rfl:f=13:=Option.some.inj (officeReplays_named.symm.trans hf) |>.symm
   obtain rfl:fn=Tryz.f13:=(Option.some.inj (Tryz.func13.symm.trans hfn)).symm
   exact ⟨office_looks,fun j t ht=>by
    rw [Tryz.params13] at ht
    have hm:t ∈ [32,33,3]:=by simpa using Array.mem_of_getElem? ht
    exact (show Tryz.prog.wantsStandIn t=false by simpa using List.all_eq_true.1 officeReplays_stand t hm)⟩)
  officeReplays_goes
end Go.Proofs.YtiapkffihpgdcaaGreatDoor
