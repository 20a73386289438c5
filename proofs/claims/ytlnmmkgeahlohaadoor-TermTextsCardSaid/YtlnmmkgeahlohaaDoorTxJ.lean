/-
  Walks: the program's Parse.
-/
import Derived.Test.YtlnmmkgeahlohaaDoorTxI
namespace Go.Proofs.YtlnmmkgeahlohaaDoor
set_option linter.unusedVariables false
set_option linter.unusedSimpArgs false
open Go.RowKit

theorem wpList_app5 {P : Program} {W : World} {ops : Array Oper} {o : Oper} {a : Act} {Q : Exit → Act → World → Prop} {rest : List Oper}
  {t e : TypeId} {z : Value} {size bytes base n c : Nat} {A : Option Addr} {xs news : List Value} (hgd : o.guard = none) (s x : Operand)
    (ho : o.op = .call { callee := .builtin .append, args := #[s, x], argTypes := #[t, t] }) (ht : P.underlying t = some (.slice e))
    (hinfo : (P.info? e).map (fun i => (i.zero, i.size, i.bytes)) = some (some z, size, bytes)) (hzs : z.cells.size = size) (hsz : 0 < size)
    (hs : a.eval s = .slice A n c) (hown : W.ownsRow base e size (.slice A n c) n xs)
    (ad : Addr) (hx : a.eval x = .slice (some ad) 1 1) (hl : news.length = size) (hnews : ∀ j u, news[j]? = some u → W.cell? (ad.add j) = some u) (h1 : ∀ u ∈ news, u.oneCell' = true)
    (hn : n + 1 ≤ 1000000000) (hbytes : bytes ≤ 1000) (hbase : base ≤ W.heap.size)
    (h : ∀ A' c' w', w'.ownsRow base e size (.slice A' (n + 1) c') (n + 1) (xs ++ news) → Grew W w' A c n A' c' → wpList P ops Q rest (a.put o.dst (.slice A' (n + 1) c')) w') :
    wpList P ops Q (o :: rest) a W := by
  obtain ⟨i, hi, hz0, hz1, hz2⟩ := info_parts hinfo
  have hb : (n + 1) * bytes ≤ 140737488355328 := by
    have : (n + 1) * bytes ≤ 1000000000 * 1000 := Nat.mul_le_mul hn hbytes
    omega
  refine wpList_append_lies W hgd s x t ho base e i z size bytes ht hi hz0 hz1 hz2 hzs hsz _ n xs hs hown ad 1 1 news hx (by omega) hnews h1 (by omega) (by unfold maxLen; omega) hb hbase _ rfl ?_
  intro g cap w' hown' hg hat hlt
  refine h _ _ w' hown' ⟨hg, fun k hk => ?_⟩
  simp only [Value.ownBlock, Option.some.injEq] at hk
  subst hk
  exact hat
def selA (b sel : Nat) : Addr := if sel = 0 then ⟨b + 1 + 1 + 1, 0, none⟩ else if sel = 1 then ⟨b + 1, 1, none⟩ else ⟨b + 1, 2, none⟩
theorem pstep_rest (p : PS) : pstep p wRest = some ⟨1, p.one, p.rest, p.clo⟩ := by unfold pstep; rw [if_pos rfl]
theorem pstep_clo (p : PS) : pstep p wClosed = some ⟨2, p.one, p.rest, p.clo⟩ := by unfold pstep; rw [if_neg (by decide), if_pos rfl]
theorem pstep_ok (p : PS) {y : Wd} (h1 : y ≠ wRest) (h2 : y ≠ wClosed) {n : Int} (h : Lib.atoiAll y = .ok n) : pstep p y = some (p.push n) := by unfold pstep; rw [if_neg h1, if_neg h2, h]
theorem pstep_no (p : PS) {y : Wd} (h1 : y ≠ wRest) (h2 : y ≠ wClosed) (h : ∀ n, Lib.atoiAll y ≠ .ok n) : pstep p y = none := by
  unfold pstep; rw [if_neg h1, if_neg h2]
  rcases hh : Lib.atoiAll y with n | _ | _
  · exact absurd hh (h n)
  · rfl
  · rfl
theorem push0 {p : PS} (h : p.sel = 0) (n : Int) : p.push n = ⟨0, p.one ++ [n], p.rest, p.clo⟩ := by unfold PS.push; rw [if_pos h, h]
theorem push1 {p : PS} (h : p.sel = 1) (n : Int) : p.push n = ⟨1, p.one, p.rest ++ [n], p.clo⟩ := by unfold PS.push; rw [if_neg (by omega), if_pos h, h]
theorem push2 {p : PS} (h : p.sel = 2) (n : Int) : p.push n = ⟨2, p.one, p.rest, p.clo ++ [n]⟩ := by unfold PS.push; rw [if_neg (by omega), if_neg (by omega), h]
theorem selA0 (b : Nat) : selA b 0 = ⟨b + 1 + 1 + 1, 0, none⟩ := rfl
theorem selA1 (b : Nat) : selA b 1 = ⟨b + 1, 1, none⟩ := rfl
theorem selA2 (b : Nat) : selA b 2 = ⟨b + 1, 2, none⟩ := rfl
/-- The world in which the program begins to read the words. -/
def pW (w : World) (ws : List Wd) : World :=
  ((((w.alloc (.cells zT 24)).alloc (.cells zT 24)).alloc (.cells #[] 3)).alloc (.cells #[.slice (some ⟨w.heap.size + 1 + 1, 0, none⟩) 0 0] 22)).alloc (.cells (strs ws).toArray 9)
theorem pW_below (w : World) (ws : List Wd) : Below w.heap.size w (pW w ws) := by
  unfold pW
  exact (((((Below.refl _ w).alloc (Nat.le_refl _) _).alloc (by simp) _).alloc (by simp; omega) _).alloc (by simp; omega) _).alloc (by simp; omega) _
theorem pW_pc (w : World) (ws : List Wd) : PC (pW w ws) w.heap.size (strs ws).toArray none 0 [] none 0 [] (some ⟨w.heap.size + 1 + 1, 0, none⟩) 0 [] := by
  have own := World.ownsRow_lit (base := 0) (e := 3) (size := 1) ((w.alloc (.cells zT 24)).alloc (.cells zT 24)) #[] 0 (Nat.zero_le _) (by unfold maxLen; omega) rfl
  have own2 := World.ownsRow.alloc (World.ownsRow.alloc own (.cells #[.slice (some ⟨w.heap.size + 1 + 1, 0, none⟩) 0 0] 22)) (.cells (strs ws).toArray 9)
  have e : ((w.alloc (.cells zT 24)).alloc (.cells zT 24)).heap.size = w.heap.size + 1 + 1 := by simp
  rw [e] at own2
  refine ⟨by unfold pW; simp, ?_, ?_, ?_, ?_, OwnB.nil _ _, OwnB.nil _ _, ⟨own2, fun k hk => ?_⟩, apart_nil _ _, apart_nil _ _, apart_nil _ _⟩
  · exact ((((Box.new w _ zT).alloc _).alloc _).alloc _).alloc _
  · exact ((((Box.new (w.alloc (.cells zT 24)) _ zT).alloc _).alloc _).alloc _).at' (by simp)
  · exact ((Box.new (((w.alloc (.cells zT 24)).alloc (.cells zT 24)).alloc (.cells #[] 3)) _ _).alloc _).at' (by simp)
  · exact (Box.new ((((w.alloc (.cells zT 24)).alloc (.cells zT 24)).alloc (.cells #[] 3)).alloc (.cells #[.slice (some ⟨w.heap.size + 1 + 1, 0, none⟩) 0 0] 22)) _ _).at' (by simp)
  · simp [Value.ownBlock] at hk; omega
set_option maxRecDepth 100000 in
set_option maxHeartbeats 1000000 in
theorem parse_any (s : List UInt8) (hs : s.length ≤ 100000) (w : World) (hEn : Env w) : Calls Tryd.prog 8 #[St s] w (RetP w (prT s) (prE s)) := by
  obtain ⟨E, hE⟩ : ∃ E, E = prE s := ⟨_, rfl⟩
  obtain ⟨T, hT⟩ : ∃ T, T = prT s := ⟨_, rfl⟩
  rw [← hE, ← hT]
  have HE := Lib.hid hE
  have HT := Lib.hid hT
  clear hE hT
  by_cases h4 : 4000 < s.length
  · have hE1 : E = 4 := by rw [HE.out, prE, if_pos h4]
    have hT1 : T = ⟨0, [], []⟩ := by rw [HT.out, prT, if_neg (by rw [← HE.out, hE1]; decide)]
    have HE1 := Lib.hid hE1
    have HT1 := Lib.hid hT1
    clear hE1 hT1
    have b0 := Box.new w 24 zT
    have hy : Below w.heap.size w (w.alloc (.cells zT 24)) := (Below.refl _ w).alloc (Nat.le_refl _) _
    go_enter Tryd.func8, Tryd.ntmps8
    go_wp2
    unfold zT at hy
    refine bodyPost_ret (v := .tuple #[.agg #[.int .i64 0, .slice none 0 0, .slice none 0 0], .int .i64 4]) (by simp [results, Tryd.results8, go_sem]) rfl ?_
    exact RetP.bad rfl HT1.out HE1.out hy
  have hW0 := split_any s hs ((((w.alloc (.cells zT 24)).alloc (.cells zT 24)).alloc (.cells #[] 3)).alloc (.cells #[.slice (some ⟨w.heap.size + 1 + 1, 0, none⟩) 0 0] 22)) (hEn.below ((((((Below.refl _ w).alloc (Nat.le_refl _) _).alloc (by simp) _).alloc (by simp; omega) _).alloc (by simp; omega) _)))
  rw [show ((((w.alloc (.cells zT 24)).alloc (.cells zT 24)).alloc (.cells #[] 3)).alloc (.cells #[.slice (some ⟨w.heap.size + 1 + 1, 0, none⟩) 0 0] 22)).heap.size = w.heap.size + 1 + 1 + 1 + 1 by simp] at hW0
  have pc0 := pW_pc w (wds s)
  have hy0 := pW_below w (wds s)
  obtain ⟨W, hW⟩ : ∃ W, W = pW w (wds s) := ⟨_, rfl⟩
  rw [← hW] at pc0 hy0
  have HW := Lib.hid hW
  have hwl := wds_len s
  have hw0 : 1 ≤ (wds s).length := by have := wds_ne s; cases h : wds s with | nil => exact absurd h this | cons _ _ => simp
  have hwm := wds_mem s
  obtain ⟨ws, hws⟩ : ∃ ws, ws = wds s := ⟨_, rfl⟩
  rw [← hws] at hwl hw0 hwm pc0 hW0
  have HWS := Lib.hid hws
  clear hW hws
  unfold zT at hW0
  go_enter Tryd.func8, Tryd.ntmps8
  go_wp2_with fail
  refine hW0.mono ?_
  rintro e W' ⟨rfl, hW'⟩
  have hWW : W' = W := by rw [hW', HW.out, ← HWS.out]; rfl
  subst hWW
  clear hW' hW0
  go_wp2
  go_loopw [6, 21] (fun lp x wr => ∃ k : Nat, k ≤ ws.length ∧ x = .int .i64 k ∧ ∃ p : PS, pk ws k = some p ∧ lp = .pointer (some (selA w.heap.size p.sel)) ∧ p.sel ≤ 2 ∧ p.one.length ≤ k ∧ p.rest.length ≤ k ∧ p.clo.length ≤ k ∧ Below w.heap.size w wr ∧ (∃ A1 c1 A2 c2 A3 c3, PC wr w.heap.size (strs ws).toArray A1 c1 p.rest A2 c2 p.clo A3 c3 p.one)) (fun _ x _ => ws.length - (intOf x).toNat)
  case atStart => exact ⟨0, by omega, rfl, p0, rfl, rfl, by simp [p0], by simp [p0], by simp [p0], by simp [p0], hy0, none, 0, none, 0, _, 0, pc0⟩
  case round =>
    clear pc0 hy0
    obtain ⟨k, hk, rfl, p, hp, rfl, hsel, m1, m2, m3, hy, A1, c1, A2, c2, A3, c3, pc⟩ := hrel
    have hEr := hEn.below hy
    by_cases hlt : k < ws.length
    · obtain ⟨y, hy0⟩ : ∃ y, y = ws[k] := ⟨_, rfl⟩
      have hyl : y.length ≤ s.length := hwm y (by rw [hy0]; exact List.getElem_mem hlt)
      have e0 : wr.cell? ⟨w.heap.size + 1 + 1 + 1 + 1, k, none⟩ = some (St y) := by
        rw [show w.heap.size + 1 + 1 + 1 + 1 = w.heap.size + 4 from rfl, pc.wd.cell k, hy0]
        simp [strs, hlt]
      have z0 : (0 : Int) ≤ (k : Int) := Int.natCast_nonneg _
      have z1 : (k : Int) < (ws.length : Int) := by omega
      by_cases k0 : k = 0
      · have k0' : ((k : Int) == 0) = true := by simp; omega
        have hp' : pk ws (k + 1) = some p := by rw [← hp, k0, pk_one]; rfl
        have HP' := Lib.hid hp'
        clear hp hp' k0 hy0
        go_wp2
        go_roundw
        case rel => exact ⟨k + 1, by omega, by go_num, p, HP'.out, rfl, by first | exact hsel | exact Nat.le_refl 2 | exact (by decide : (1 : Nat) ≤ 2) | exact (by decide : (0 : Nat) ≤ 2), by omega, by omega, by omega, hy, A1, c1, A2, c2, A3, c3, pc⟩
        case measure => simp [intOf]; omega
      have k0' : ((k : Int) == 0) = false := by simp; omega
      have hp' := pk_step ws (by omega) hlt hp
      rw [← hy0] at hp'
      by_cases hr : y = wRest
      · have hr' : (y == [114, 101, 115, 116]) = true := by rw [hr]; rfl
        rw [hr, pstep_rest] at hp'
        have HP' := Lib.hid hp'
        clear hp hp' hr hy0
        go_wp2
        go_roundw
        case rel => exact ⟨k + 1, by omega, by go_num, _, HP'.out, rfl, by first | exact hsel | exact Nat.le_refl 2 | exact (by decide : (1 : Nat) ≤ 2) | exact (by decide : (0 : Nat) ≤ 2), by show p.one.length ≤ _; omega, by show p.rest.length ≤ _; omega, by show p.clo.length ≤ _; omega, hy, A1, c1, A2, c2, A3, c3, pc⟩
        case measure => simp [intOf]; omega
      have hr' : (y == [114, 101, 115, 116]) = false := by simpa [wRest] using hr
      by_cases hc : y = wClosed
      · have hc' : (y == [99, 108, 111, 115, 101, 100]) = true := by rw [hc]; rfl
        rw [hc, pstep_clo] at hp'
        have HP' := Lib.hid hp'
        clear hp hp' hc hy0 hr
        go_wp2
        go_roundw
        case rel => exact ⟨k + 1, by omega, by go_num, _, HP'.out, rfl, by first | exact hsel | exact Nat.le_refl 2 | exact (by decide : (1 : Nat) ≤ 2) | exact (by decide : (0 : Nat) ≤ 2), by show p.one.length ≤ _; omega, by show p.rest.length ≤ _; omega, by show p.clo.length ≤ _; omega, hy, A1, c1, A2, c2, A3, c3, pc⟩
        case measure => simp [intOf]; omega
      have hc' : (y == [99, 108, 111, 115, 101, 100]) = false := by simpa [wClosed] using hc
      by_cases hn : ∃ n, Lib.atoiAll y = .ok n
      · obtain ⟨n, hn⟩ := hn
        rw [pstep_ok p hr hc hn] at hp'
        have hA := fun W => Tryd.strconv_Atoi_ok ⟨y.toArray⟩ (by rw [st_size]; omega) n hn W
        have e3 : p.sel = 0 ∨ p.sel = 1 ∨ p.sel = 2 := by omega
        clear hp hy0 hr hc hn
        go_wp2_with fail
        refine (hA _).mono ?_
        rintro e wd ⟨rfl, hb⟩
        replace pc := pc.below hb
        replace hy := hy.trans (hb.mono hy.size)
        clear hb e0 hA
        rcases e3 with e3 | e3 | e3
        · rw [push0 e3] at hp'
          have HP' := Lib.hid hp'
          have HE3 := Lib.hid e3
          rw [e3, selA0]
          clear hp' e3
          have y0 : wd.cell? ⟨w.heap.size + 1 + 1 + 1, 0, none⟩ = some (.slice A3 p.one.length c3) := (pc.one.cell 0).trans rfl
          have hob := pc.o3.1
          go_wp2_with (at_builtin; refine wpList_app5 rfl _ _ rfl Tryd.underlying22 info_int rfl (by omega) rfl (World.ownsRow.alloc hob _) (news := [.int .i64 n]) ⟨wd.heap.size, 0, none⟩ rfl rfl (World.news_of_block (cs := #[.int .i64 n]) (t := 3) (fr := (0, 0)) (heap_alloc_new _ _)) (by simp [Value.oneCell']) (by omega) (by omega) (Nat.zero_le _) ?_; intro A4 c4 w7 own7 gr; have bx7 := BoxOf (pc.one.alloc (.cells #[.int .i64 n] 3)) gr.grown (pc.o3.ne (.inr (.inr (.inl rfl)))); have o7 : w7.cell? ⟨w.heap.size + 1 + 1 + 1, 0, none⟩ = some (.slice A3 p.one.length c3) := (bx7.cell 0).trans rfl; have p7 : w7.frozen? ⟨w.heap.size + 1 + 1 + 1, 0, none⟩ = false := bx7.free 0)
          go_roundw
          case rel =>
            have pc8 := (pc.below ((Below.refl wd.heap.size wd).alloc (Nat.le_refl _) (.cells #[.int .i64 n] 3))).push3 gr own7
            have hy8 := (hy.trans (((Below.refl w.heap.size wd).alloc hy.size (.cells #[.int .i64 n] 3)).grown gr.grown (by have := hy.size; simp; omega) (fun k hk => by have := pc.o3.2 k hk; omega))).setCell (p := ⟨w.heap.size + 1 + 1 + 1, 0, none⟩) (by show w.heap.size ≤ w.heap.size + 1 + 1 + 1; omega) (.slice A4 (p.one.length + 1) c4)
            exact ⟨k + 1, by omega, by go_num, _, HP'.out, rfl, by first | exact hsel | exact Nat.le_refl 2 | exact (by decide : (1 : Nat) ≤ 2) | exact (by decide : (0 : Nat) ≤ 2), by show (p.one ++ [n]).length ≤ _; rw [lenOf]; omega, by show p.rest.length ≤ _; omega, by show p.clo.length ≤ _; omega, hy8, A1, c1, A2, c2, A4, c4, pc8⟩
          case measure => simp [intOf]; omega
        · rw [push1 e3] at hp'
          have HP' := Lib.hid hp'
          have HE3 := Lib.hid e3
          rw [e3, selA1]
          clear hp' e3
          have y0 : wd.cell? ⟨w.heap.size + 1, 1, none⟩ = some (.slice A1 p.rest.length c1) := (pc.box.cell 1).trans rfl
          have hob := pc.o1.1
          go_wp2_with (at_builtin; refine wpList_app5 rfl _ _ rfl Tryd.underlying22 info_int rfl (by omega) rfl (World.ownsRow.alloc hob _) (news := [.int .i64 n]) ⟨wd.heap.size, 0, none⟩ rfl rfl (World.news_of_block (cs := #[.int .i64 n]) (t := 3) (fr := (0, 0)) (heap_alloc_new _ _)) (by simp [Value.oneCell']) (by omega) (by omega) (Nat.zero_le _) ?_; intro A4 c4 w7 own7 gr; have bx7 := BoxOf (pc.box.alloc (.cells #[.int .i64 n] 3)) gr.grown (pc.o1.ne (.inr (.inl rfl))); have o7 : w7.cell? ⟨w.heap.size + 1, 1, none⟩ = some (.slice A1 p.rest.length c1) := (bx7.cell 1).trans rfl; have p7 : w7.frozen? ⟨w.heap.size + 1, 1, none⟩ = false := bx7.free 1)
          go_roundw
          case rel =>
            have pc8 := (pc.below ((Below.refl wd.heap.size wd).alloc (Nat.le_refl _) (.cells #[.int .i64 n] 3))).push1 gr own7
            have hy8 := (hy.trans (((Below.refl w.heap.size wd).alloc hy.size (.cells #[.int .i64 n] 3)).grown gr.grown (by have := hy.size; simp; omega) (fun k hk => by have := pc.o1.2 k hk; omega))).setCell (p := ⟨w.heap.size + 1, 1, none⟩) (by show w.heap.size ≤ w.heap.size + 1; omega) (.slice A4 (p.rest.length + 1) c4)
            exact ⟨k + 1, by omega, by go_num, _, HP'.out, rfl, by first | exact hsel | exact Nat.le_refl 2 | exact (by decide : (1 : Nat) ≤ 2) | exact (by decide : (0 : Nat) ≤ 2), by show p.one.length ≤ _; omega, by show (p.rest ++ [n]).length ≤ _; rw [lenOf]; omega, by show p.clo.length ≤ _; omega, hy8, A4, c4, A2, c2, A3, c3, pc8⟩
          case measure => simp [intOf]; omega
        · rw [push2 e3] at hp'
          have HP' := Lib.hid hp'
          have HE3 := Lib.hid e3
          rw [e3, selA2]
          clear hp' e3
          have y0 : wd.cell? ⟨w.heap.size + 1, 2, none⟩ = some (.slice A2 p.clo.length c2) := (pc.box.cell 2).trans rfl
          have hob := pc.o2.1
          go_wp2_with (at_builtin; refine wpList_app5 rfl _ _ rfl Tryd.underlying22 info_int rfl (by omega) rfl (World.ownsRow.alloc hob _) (news := [.int .i64 n]) ⟨wd.heap.size, 0, none⟩ rfl rfl (World.news_of_block (cs := #[.int .i64 n]) (t := 3) (fr := (0, 0)) (heap_alloc_new _ _)) (by simp [Value.oneCell']) (by omega) (by omega) (Nat.zero_le _) ?_; intro A4 c4 w7 own7 gr; have bx7 := BoxOf (pc.box.alloc (.cells #[.int .i64 n] 3)) gr.grown (pc.o2.ne (.inr (.inl rfl))); have o7 : w7.cell? ⟨w.heap.size + 1, 2, none⟩ = some (.slice A2 p.clo.length c2) := (bx7.cell 2).trans rfl; have p7 : w7.frozen? ⟨w.heap.size + 1, 2, none⟩ = false := bx7.free 2)
          go_roundw
          case rel =>
            have pc8 := (pc.below ((Below.refl wd.heap.size wd).alloc (Nat.le_refl _) (.cells #[.int .i64 n] 3))).push2 gr own7
            have hy8 := (hy.trans (((Below.refl w.heap.size wd).alloc hy.size (.cells #[.int .i64 n] 3)).grown gr.grown (by have := hy.size; simp; omega) (fun k hk => by have := pc.o2.2 k hk; omega))).setCell (p := ⟨w.heap.size + 1, 2, none⟩) (by show w.heap.size ≤ w.heap.size + 1; omega) (.slice A4 (p.clo.length + 1) c4)
            exact ⟨k + 1, by omega, by go_num, _, HP'.out, rfl, by first | exact hsel | exact Nat.le_refl 2 | exact (by decide : (1 : Nat) ≤ 2) | exact (by decide : (0 : Nat) ≤ 2), by show p.one.length ≤ _; omega, by show p.rest.length ≤ _; omega, by show (p.clo ++ [n]).length ≤ _; rw [lenOf]; omega, hy8, A1, c1, A4, c4, A3, c3, pc8⟩
          case measure => simp [intOf]; omega
      · have hA := Tryd.strconv_Atoi_bad ⟨y.toArray⟩ (by rw [st_size]; omega) (fun v hv => hn ⟨v, hv⟩)
        obtain ⟨tp, pp, hv1⟩ := hEr.es
        obtain ⟨tq, qq, hv2⟩ := hEr.er
        have hA1 := hA tp pp tq qq wr hv1 hv2
        have hbad : pT s = none := by
          have h1 := pk_bad ws (by omega) hlt hp (by rw [← hy0]; exact pstep_no p hr hc (fun n h => hn ⟨n, h⟩))
          unfold pT; rw [← HWS.out]; exact h1
        have hE1 : E = 3 := by rw [HE.out, prE, if_neg h4, hbad]
        have hT1 : T = ⟨0, [], []⟩ := by rw [HT.out, prT, if_neg (by rw [← HE.out, hE1]; decide)]
        have HE1 := Lib.hid hE1
        have HT1 := Lib.hid hT1
        clear hE1 hT1 hbad hA hv1 hv2 hp hp' hy0 hr hc hn
        go_wp2_with fail
        refine hA1.mono ?_
        rintro e wd ⟨n, t, r, rfl, hb⟩
        replace pc := pc.below hb
        replace hy := hy.trans (hb.mono hy.size)
        clear hb e0 hA1
        have f0 := pc.res.free 0; have f1 := pc.res.free 1; have f2 := pc.res.free 2
        have g5 := pc.res
        unfold zT at g5
        have x0 := g5.cell 0; have x1 := g5.cell 1; have x2 := g5.cell 2
        simp only [List.getElem?_toArray, List.getElem?_cons_zero, List.getElem?_cons_succ] at x0 x1 x2
        go_wp2_with fail
        obtain ⟨q0, q1, q2⟩ := BoxThree g5 (.int .i64 0) (.slice none 0 0) (.slice none 0 0)
        refine bodyPost_ret (v := .tuple #[.agg #[.int .i64 0, .slice none 0 0, .slice none 0 0], .int .i64 3]) (by simp [results, Tryd.results8, go_sem, q0, q1, q2]) rfl ?_
        exact RetP.bad rfl HT1.out HE1.out (((hy.setCell (p := ⟨w.heap.size, 0, none⟩) (Nat.le_refl _) _).setCell (p := ⟨w.heap.size, 1, none⟩) (Nat.le_refl _) _).setCell (p := ⟨w.heap.size, 2, none⟩) (Nat.le_refl _) _)
    · have hkl : k = ws.length := by omega
      subst hkl
      have hpT : pT s = some p := by unfold pT; rw [← HWS.out, ← pk_fin]; exact hp
      obtain ⟨t, ht⟩ : ∃ t, t = p.tm := ⟨_, rfl⟩
      have e2 : p.rest = t.rest := by rw [ht]; rfl
      have e3 : p.clo = t.clo := by rw [ht]; rfl
      have hlen : t.len = if p.one.length = 1 then gi p.one 0 else 0 := by rw [ht]; rfl
      have hTE : E = if tE t = 0 ∧ fmtT t = s then 0 else 3 := by rw [HE.out, prE, if_neg h4, hpT, ht]
      have hTT : T = if E = 0 then t else ⟨0, [], []⟩ := by rw [HT.out, prT, ← HE.out, hpT, ht]
      rw [e2, e3] at pc
      rw [e2] at m2
      rw [e3] at m3
      have HTE := Lib.hid hTE
      have HTT := Lib.hid hTT
      clear hTE hTT ht hpT e2 e3 hp
      have d0 : wr.cell? ⟨w.heap.size + 1 + 1 + 1, 0, none⟩ = some (.slice A3 p.one.length c3) := (pc.one.cell 0).trans rfl
      by_cases ho : p.one.length = 1
      · have ho' : ((p.one.length : Int) == 1) = true := by simp; omega
        obtain ⟨ad, rfl, hab, q0⟩ := (show RN wr A3 p.one from Reads.of_own pc.o3.1).at_ (show 0 < p.one.length by omega)
        rw [if_pos ho] at hlen
        rw [← hlen] at q0
        have q0a : ad.add 0 = ad := by cases ad; simp [Addr.add]
        rw [q0a] at q0 hab
        have z1 : (0 : Int) < (p.one.length : Int) := by omega
        have z2 : 0 < p.one.length := by omega
        have y0 := pc.box.cell 0; have y1 := pc.box.cell 1; have y2 := pc.box.cell 2
        have f0 := pc.box.free 0
        have bx := BoxSet pc.box 0 (by simp) (.int .i64 t.len)
        have g := BoxFar (p := ⟨w.heap.size + 1, 0, none⟩) pc.res (by show w.heap.size ≠ w.heap.size + 1; omega) (.int .i64 t.len)
        have o1 := pc.o1.set (a := ⟨w.heap.size + 1, 0, none⟩) (.inr (.inl rfl)) (.int .i64 t.len)
        have o2 := pc.o2.set (a := ⟨w.heap.size + 1, 0, none⟩) (.inr (.inl rfl)) (.int .i64 t.len)
        have hyx := hy.setCell (p := ⟨w.heap.size + 1, 0, none⟩) (by show w.heap.size ≤ w.heap.size + 1; omega) (.int .i64 t.len)
        have hEx := hEn.below hyx
        have r1 : RN _ A1 t.rest := Reads.of_own o1.1
        have r2 : RN _ A2 t.clo := Reads.of_own o2.1
        simp only [List.getElem?_toArray, List.getElem?_cons_zero, List.getElem?_cons_succ] at y0 y1 y2
        clear hlen pc ho hEr
        go_wp2_with fail
        refine (format_any t A1 A2 c1 c2 _ hEx r1 r2 (by omega) (by omega)).mono ?_
        rintro e w5 ⟨rfl, hb5⟩
        have g5 := g.below hb5
        have b5 := bx.below hb5
        have hy5 := hyx.trans (hb5.mono hyx.size)
        have p1 := o1.below hb5
        have p2 := o2.below hb5
        clear y0 y1 y2 f0 bx g o1 o2 hyx hEx r1 r2 hb5 hy d0 q0
        have y0 := b5.cell 0; have y1 := b5.cell 1; have y2 := b5.cell 2
        have f0 := g5.free 0; have f1 := g5.free 1; have f2 := g5.free 2
        unfold zT at g5
        have x0 := g5.cell 0; have x1 := g5.cell 1; have x2 := g5.cell 2
        simp only [List.getElem?_toArray, List.getElem?_cons_zero, List.getElem?_cons_succ] at y0 y1 y2 x0 x1 x2
        by_cases he : tE t = 0
        · have he' : (tE t != 0) = false := by simp [he]
          have hS : fmtS t = fmtT t := if_pos he
          by_cases hq : fmtT t = s
          · have hq' : (fmtS t == s) = true := by rw [hS, hq]; simp
            have hq2 : (fmtS t != s) = false := by rw [hS, hq]; simp
            have hE1 : E = 0 := by rw [HTE.out, if_pos ⟨he, hq⟩]
            have hT1 : T = t := by rw [HTT.out, if_pos hE1]
            have HE1 := Lib.hid hE1
            have HT1 := Lib.hid hT1
            clear hE1 hT1 hS hq he
            go_wp2_with fail
            obtain ⟨q0, q1, q2⟩ := BoxThree g5 (.int .i64 t.len) (.slice A1 t.rest.length c1) (.slice A2 t.clo.length c2)
            refine bodyPost_ret (v := .tuple #[.agg #[.int .i64 t.len, .slice A1 t.rest.length c1, .slice A2 t.clo.length c2], .int .i64 0]) (by simp [results, Tryd.results8, go_sem, q0, q1, q2]) rfl ?_
            have O1 := ((p1.set (a := ⟨w.heap.size, 0, none⟩) (.inl rfl) (.int .i64 t.len)).set (a := ⟨w.heap.size, 1, none⟩) (.inl rfl) (.slice A1 t.rest.length c1)).set (a := ⟨w.heap.size, 2, none⟩) (.inl rfl) (.slice A2 t.clo.length c2)
            have O2 := ((p2.set (a := ⟨w.heap.size, 0, none⟩) (.inl rfl) (.int .i64 t.len)).set (a := ⟨w.heap.size, 1, none⟩) (.inl rfl) (.slice A1 t.rest.length c1)).set (a := ⟨w.heap.size, 2, none⟩) (.inl rfl) (.slice A2 t.clo.length c2)
            rw [HT1.out, HE1.out]
            exact ⟨A1, c1, A2, c2, rfl, Reads.of_own O1.1, Reads.of_own O2.1, ((hy5.setCell (p := ⟨w.heap.size, 0, none⟩) (Nat.le_refl _) _).setCell (p := ⟨w.heap.size, 1, none⟩) (Nat.le_refl _) _).setCell (p := ⟨w.heap.size, 2, none⟩) (Nat.le_refl _) _⟩
          · have hq' : (fmtS t == s) = false := by rw [hS]; simpa using hq
            have hq2 : (fmtS t != s) = true := by rw [hS]; simpa using hq
            have hE1 : E = 3 := by rw [HTE.out, if_neg (fun h => hq h.2)]
            have hT1 : T = ⟨0, [], []⟩ := by rw [HTT.out, if_neg (by rw [hE1]; decide)]
            have HE1 := Lib.hid hE1
            have HT1 := Lib.hid hT1
            clear hE1 hT1 hS hq he y0 y1 y2
            go_wp2_with fail
            obtain ⟨q0, q1, q2⟩ := BoxThree g5 (.int .i64 0) (.slice none 0 0) (.slice none 0 0)
            refine bodyPost_ret (v := .tuple #[.agg #[.int .i64 0, .slice none 0 0, .slice none 0 0], .int .i64 3]) (by simp [results, Tryd.results8, go_sem, q0, q1, q2]) rfl ?_
            exact RetP.bad rfl HT1.out HE1.out (((hy5.setCell (p := ⟨w.heap.size, 0, none⟩) (Nat.le_refl _) _).setCell (p := ⟨w.heap.size, 1, none⟩) (Nat.le_refl _) _).setCell (p := ⟨w.heap.size, 2, none⟩) (Nat.le_refl _) _)
        · have he' : (tE t != 0) = true := by simp [he]
          have hE1 : E = 3 := by rw [HTE.out, if_neg (fun h => he h.1)]
          have hT1 : T = ⟨0, [], []⟩ := by rw [HTT.out, if_neg (by rw [hE1]; decide)]
          have HE1 := Lib.hid hE1
          have HT1 := Lib.hid hT1
          clear hE1 hT1 he y0 y1 y2
          go_wp2_with fail
          obtain ⟨q0, q1, q2⟩ := BoxThree g5 (.int .i64 0) (.slice none 0 0) (.slice none 0 0)
          refine bodyPost_ret (v := .tuple #[.agg #[.int .i64 0, .slice none 0 0, .slice none 0 0], .int .i64 3]) (by simp [results, Tryd.results8, go_sem, q0, q1, q2]) rfl ?_
          exact RetP.bad rfl HT1.out HE1.out (((hy5.setCell (p := ⟨w.heap.size, 0, none⟩) (Nat.le_refl _) _).setCell (p := ⟨w.heap.size, 1, none⟩) (Nat.le_refl _) _).setCell (p := ⟨w.heap.size, 2, none⟩) (Nat.le_refl _) _)
      · have ho' : ((p.one.length : Int) == 1) = false := by simp; omega
        rw [if_neg ho] at hlen
        have bx : Box wr (w.heap.size + 1) #[.int .i64 t.len, .slice A1 t.rest.length c1, .slice A2 t.clo.length c2] := by rw [hlen]; exact pc.box
        have g := pc.res
        have o1 := pc.o1
        have o2 := pc.o2
        have y0 := bx.cell 0; have y1 := bx.cell 1; have y2 := bx.cell 2
        have r1 : RN wr A1 t.rest := Reads.of_own o1.1
        have r2 : RN wr A2 t.clo := Reads.of_own o2.1
        simp only [List.getElem?_toArray, List.getElem?_cons_zero, List.getElem?_cons_succ] at y0 y1 y2
        clear hlen pc ho
        go_wp2_with fail
        refine (format_any t A1 A2 c1 c2 _ hEr r1 r2 (by omega) (by omega)).mono ?_
        rintro e w5 ⟨rfl, hb5⟩
        have g5 := g.below hb5
        have b5 := bx.below hb5
        have hy5 := hy.trans (hb5.mono hy.size)
        have p1 := o1.below hb5
        have p2 := o2.below hb5
        clear y0 y1 y2 bx g o1 o2 r1 r2 hb5 hy d0 hEr
        have y0 := b5.cell 0; have y1 := b5.cell 1; have y2 := b5.cell 2
        have f0 := g5.free 0; have f1 := g5.free 1; have f2 := g5.free 2
        unfold zT at g5
        have x0 := g5.cell 0; have x1 := g5.cell 1; have x2 := g5.cell 2
        simp only [List.getElem?_toArray, List.getElem?_cons_zero, List.getElem?_cons_succ] at y0 y1 y2 x0 x1 x2
        by_cases he : tE t = 0
        · have he' : (tE t != 0) = false := by simp [he]
          have hS : fmtS t = fmtT t := if_pos he
          by_cases hq : fmtT t = s
          · have hq' : (fmtS t == s) = true := by rw [hS, hq]; simp
            have hq2 : (fmtS t != s) = false := by rw [hS, hq]; simp
            have hE1 : E = 0 := by rw [HTE.out, if_pos ⟨he, hq⟩]
            have hT1 : T = t := by rw [HTT.out, if_pos hE1]
            have HE1 := Lib.hid hE1
            have HT1 := Lib.hid hT1
            clear hE1 hT1 hS hq he
            go_wp2_with fail
            obtain ⟨q0, q1, q2⟩ := BoxThree g5 (.int .i64 t.len) (.slice A1 t.rest.length c1) (.slice A2 t.clo.length c2)
            refine bodyPost_ret (v := .tuple #[.agg #[.int .i64 t.len, .slice A1 t.rest.length c1, .slice A2 t.clo.length c2], .int .i64 0]) (by simp [results, Tryd.results8, go_sem, q0, q1, q2]) rfl ?_
            have O1 := ((p1.set (a := ⟨w.heap.size, 0, none⟩) (.inl rfl) (.int .i64 t.len)).set (a := ⟨w.heap.size, 1, none⟩) (.inl rfl) (.slice A1 t.rest.length c1)).set (a := ⟨w.heap.size, 2, none⟩) (.inl rfl) (.slice A2 t.clo.length c2)
            have O2 := ((p2.set (a := ⟨w.heap.size, 0, none⟩) (.inl rfl) (.int .i64 t.len)).set (a := ⟨w.heap.size, 1, none⟩) (.inl rfl) (.slice A1 t.rest.length c1)).set (a := ⟨w.heap.size, 2, none⟩) (.inl rfl) (.slice A2 t.clo.length c2)
            rw [HT1.out, HE1.out]
            exact ⟨A1, c1, A2, c2, rfl, Reads.of_own O1.1, Reads.of_own O2.1, ((hy5.setCell (p := ⟨w.heap.size, 0, none⟩) (Nat.le_refl _) _).setCell (p := ⟨w.heap.size, 1, none⟩) (Nat.le_refl _) _).setCell (p := ⟨w.heap.size, 2, none⟩) (Nat.le_refl _) _⟩
          · have hq' : (fmtS t == s) = false := by rw [hS]; simpa using hq
            have hq2 : (fmtS t != s) = true := by rw [hS]; simpa using hq
            have hE1 : E = 3 := by rw [HTE.out, if_neg (fun h => hq h.2)]
            have hT1 : T = ⟨0, [], []⟩ := by rw [HTT.out, if_neg (by rw [hE1]; decide)]
            have HE1 := Lib.hid hE1
            have HT1 := Lib.hid hT1
            clear hE1 hT1 hS hq he y0 y1 y2
            go_wp2_with fail
            obtain ⟨q0, q1, q2⟩ := BoxThree g5 (.int .i64 0) (.slice none 0 0) (.slice none 0 0)
            refine bodyPost_ret (v := .tuple #[.agg #[.int .i64 0, .slice none 0 0, .slice none 0 0], .int .i64 3]) (by simp [results, Tryd.results8, go_sem, q0, q1, q2]) rfl ?_
            exact RetP.bad rfl HT1.out HE1.out (((hy5.setCell (p := ⟨w.heap.size, 0, none⟩) (Nat.le_refl _) _).setCell (p := ⟨w.heap.size, 1, none⟩) (Nat.le_refl _) _).setCell (p := ⟨w.heap.size, 2, none⟩) (Nat.le_refl _) _)
        · have he' : (tE t != 0) = true := by simp [he]
          have hE1 : E = 3 := by rw [HTE.out, if_neg (fun h => he h.1)]
          have hT1 : T = ⟨0, [], []⟩ := by rw [HTT.out, if_neg (by rw [hE1]; decide)]
          have HE1 := Lib.hid hE1
          have HT1 := Lib.hid hT1
          clear hE1 hT1 he y0 y1 y2
          go_wp2_with fail
          obtain ⟨q0, q1, q2⟩ := BoxThree g5 (.int .i64 0) (.slice none 0 0) (.slice none 0 0)
          refine bodyPost_ret (v := .tuple #[.agg #[.int .i64 0, .slice none 0 0, .slice none 0 0], .int .i64 3]) (by simp [results, Tryd.results8, go_sem, q0, q1, q2]) rfl ?_
          exact RetP.bad rfl HT1.out HE1.out (((hy5.setCell (p := ⟨w.heap.size, 0, none⟩) (Nat.le_refl _) _).setCell (p := ⟨w.heap.size, 1, none⟩) (Nat.le_refl _) _).setCell (p := ⟨w.heap.size, 2, none⟩) (Nat.le_refl _) _)
end Go.Proofs.YtlnmmkgeahlohaaDoor
