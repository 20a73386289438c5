/-
  Walks: slices.SortFunc at none; order.Rights.
-/
import Derived.Test.YtoopmancobfjeaaRu
namespace Go.Proofs.Ytoopmancobfjeaa
set_option linter.unusedVariables false
set_option linter.unusedSimpArgs false
open Go.RowKit Go.Shelf

set_option maxRecDepth 100000 in
set_option maxHeartbeats 1000000 in
theorem sortR_none (A : Option Addr) (cp : Nat) (w : World) :
    Calls Try.prog 88 #[.slice A 0 cp, .func (.func 89) #[] #[]] w fun e w' => e = .returned (.tuple #[]) ∧ Below w.heap.size w w' := by
  have hlen : Calls Try.prog (srt_ren.f 15) #[.int .u64 0] w fun e w' => e = .returned (.int .i64 (Lib.bitLen 0 : Nat)) ∧ w' = w := Any.bits_Len (SlLaysF0.n15.bits (P := Try.prog) (ρ := srt_ren) { srt with }) 0 w (by omega) (by omega)
  change Calls Try.prog 102 _ _ _ at hlen
  go_enter Try.func88, Try.ntmps88
  go_wp2_with (first | (go_at_call 102; refine hlen.mono ?_; rintro e w' ⟨rfl, rfl⟩) | go_in)
  go_loopw [1, 2] (fun x y wr => x = .int .i64 0 ∧ y = .int .i64 0 ∧ Below w'.heap.size w' wr) (fun _ _ _ => 0)
  case atStart => exact ⟨rfl, rfl, Below.refl _ _⟩
  case round =>
    obtain ⟨rfl, rfl, hb⟩ := hrel
    go_wp2_with go_in
    go_loopw [8] (fun x wq => x = .int .i64 1 ∧ Below w'.heap.size w' wq) (fun _ _ => 0)
    case atStart => exact ⟨rfl, hb⟩
    case round =>
      clear hb
      obtain ⟨rfl, hb⟩ := hrel
      go_wp2
      go_end0
      go_wp2

theorem sortR_any (l : List Sp) (hl : l.length ≤ 1000000) (A : Option Addr) (cp base : Nat) (w : World) (own : OwnR w base A cp l) (hbase : base ≤ w.heap.size) :
    Calls Try.prog 88 #[.slice A l.length cp, .func (.func 89) #[] #[]] w fun e w' =>
      e = .returned (.tuple #[]) ∧ ∃ m : List Sp, m.Perm l ∧ (∀ i j, i < j → j < m.length → (gs m i).un ≤ (gs m j).un) ∧ OwnR w' base A cp m ∧ Below base w w' := by
  by_cases h0 : 0 < l.length
  · exact sortR_some l hl h0 A cp base w own hbase
  · have hn : l = [] := List.eq_nil_of_length_eq_zero (by omega)
    subst hn
    refine (sortR_none A cp w).mono ?_
    rintro e w' ⟨rfl, hb⟩
    exact ⟨rfl, [], List.Perm.refl _, fun i j _ hj => by simp at hj, own.kept hb, hb.mono hbase⟩

theorem freeB_iff (r : List Sp) (c d : Int) : freeB r c d = true ↔ ∃ x ∈ r, x.fr = c ∧ x.un ≤ d ∧ d < x.me := by
  unfold freeB
  rw [frTo_iff]
  constructor
  · rintro ⟨i, hi, h⟩
    simp only [tellN, decide_eq_true_eq] at h
    exact ⟨gs r i, by rw [← gs_getElem r i hi]; exact List.getElem_mem hi, h⟩
  · rintro ⟨x, hx, h⟩
    obtain ⟨i, hi, rfl⟩ := List.mem_iff_getElem.1 hx
    refine ⟨i, hi, ?_⟩
    rw [gs_getElem r i hi] at h
    simp only [tellN, decide_eq_true_eq]
    exact h
theorem rights_same {r m : List Sp} {ch : Int} (hv : vrt r = 0) (hp : m.Perm (keepR r ch)) (hs : ∀ i j, i < j → j < m.length → (gs m i).un ≤ (gs m j).un) : mTo m m.length = dTo ch (fun d => freeB r ch d) 1000 := by
  obtain ⟨_, hok⟩ := vrt_ok hv
  have hm : ∀ x, x ∈ m ↔ x ∈ r ∧ x.fr = ch := by
    intro x
    rw [hp.mem_iff, keepR, List.mem_filter]; simp
  have hr : ∀ x ∈ r, 0 ≤ x.un ∧ x.un < x.me ∧ x.me ≤ 1000 := by
    intro x hx
    obtain ⟨i, hi, rfl⟩ := List.mem_iff_getElem.1 hx
    have := (rtB_iff _).1 (hok i hi)
    rw [gs_getElem r i hi]
    exact ⟨this.2.2.1, this.2.2.2.1, this.2.2.2.2⟩
  have hg : ∀ i, i < m.length → gs m i ∈ m := fun i hi => by rw [← gs_getElem m i hi]; exact List.getElem_mem hi
  obtain ⟨n1, c1, _⟩ := mTo_ok (ch := ch) (S := m) (fun i hi => by
    have := (hm _).1 (hg i hi)
    exact ⟨this.2, (hr _ this.1).2.1⟩) hs m.length (Nat.le_refl _)
  obtain ⟨n2, c2, _⟩ := dTo_ok ch (fun d => freeB r ch d) 1000
  refine nf_ext ch n1 n2 fun d => ?_
  rw [c1, c2, freeB_iff]
  constructor
  · rintro ⟨i, hi, h1, h2⟩
    have h3 := (hm _).1 (hg i hi)
    have h4 := hr _ h3.1
    exact ⟨by omega, by omega, _, h3.1, h3.2, h1, h2⟩
  · rintro ⟨h1, h2, x, hx, h3, h4, h5⟩
    obtain ⟨i, hi, he⟩ := List.mem_iff_getElem.1 ((hm x).2 ⟨hx, h3⟩)
    exact ⟨i, hi, by rw [← gs_getElem m i hi, he]; exact ⟨h4, h5⟩⟩
theorem mTo_len (S : List Sp) : ∀ k, (mTo S k).length ≤ k
  | 0 => by simp [mTo]
  | k + 1 => by
    have ih := mTo_len S k
    show (mstep (mTo S k) (gs S k)).length ≤ _
    unfold mstep
    split
    · rw [List.length_set]; omega
    · simp; omega

set_option maxRecDepth 100000 in
set_option maxHeartbeats 2000000 in
theorem rights_any (r : List Sp) (ch : Int) (A0 : Option Addr) (c0 : Nat) (w : World) (hR : RS w A0 r) (hl : r.length ≤ 1000000) :
    Calls Try.prog 52 #[.slice A0 r.length c0, .int .i64 ch] w fun e w' => RetR w (rgL r ch) (rgE r ch) e w' ∧ (rgL r ch).length ≤ r.length := by
  obtain ⟨E, hE⟩ : ∃ E, E = rgE r ch := ⟨_, rfl⟩
  obtain ⟨O, hO⟩ : ∃ O, O = rgL r ch := ⟨_, rfl⟩
  rw [← hE, ← hO]
  have HE := Lib.hid hE
  have HO := Lib.hid hO
  clear hE hO
  have hx0 : Below (w.heap.size + 1) (w.alloc (.cells #[.int .i64 ch] 3)) (w.alloc (.cells #[.int .i64 ch] 3)) := Below.refl _ _
  obtain ⟨bx, _, hz0, hy0⟩ := blk_facts hx0 (by omega)
  go_enter Try.func52, Try.ntmps52
  go_wp2_with fail
  refine (vrights_any r A0 c0 _ (hR.below hy0) (by omega)).mono ?_
  rintro e w1 ⟨rfl, hb1⟩
  have hx1 := hx0.trans (hb1.mono (by simp))
  clear bx hb1 hz0
  obtain ⟨bx, _, hz1, hy1⟩ := blk_facts hx1 (by omega)
  have g1 : w1.cell? ⟨w.heap.size, 0, none⟩ = some (.int .i64 ch) := by rw [bx]; rfl
  have hR1 := hR.below hy1
  clear bx hx0 hx1 hy0
  by_cases hv : vrt r = 0
  · have hv1 : (vrt r != 0) = false := by simp [hv]
    cases hi : inB ch 0 99 with
    | true =>
      have hE1 : E = 0 := by rw [HE.out, rgE, if_neg (by simp [hv]), if_pos hi]
      have hO1 : O = dTo ch (fun d => freeB r ch d) 1000 := by rw [HO.out, rgL, if_pos (by rw [← HE.out, hE1])]
      have HE1 := Lib.hid hE1
      have HO1 := Lib.hid hO1
      have HV := Lib.hid hv
      clear hE1 hO1 hv
      go_wp2_with (first | (go_at_call 58; refine (isChild_any _ _).mono ?_; rintro e w' ⟨rfl, hw'⟩; subst hw'; rw [hi]))
      refine (clonR_any r (by omega) A0 c0 _ hR1).mono ?_
      rintro e w2 ⟨A1, p1, rfl, own1, hb2⟩
      have g2 := (hb2.cell (p := ⟨w.heap.size, 0, none⟩) hz1).trans g1
      have hs2 := hb2.size
      go_wp2_with fail
      refine (delR_any r ch hl A1 p1 _ w.heap.size _ own1 g2 hz1 hs2).mono ?_
      rintro e w3 ⟨rfl, own3, hb3⟩
      have hs3 := hb3.size
      obtain ⟨K, hK⟩ : ∃ K, K = keepR r ch := ⟨_, rfl⟩
      have hKl : K.length ≤ 1000000 := by rw [hK]; exact Nat.le_trans (List.length_filter_le _ _) hl
      rw [← hK] at own3 ⊢
      have hKr : K.length ≤ r.length := by rw [hK]; exact List.length_filter_le _ _
      have HKL := Lib.hid hKr
      have HK := Lib.hid hK
      clear hK hKr
      go_wp2_with fail
      refine (sortR_any K hKl A1 p1 _ _ own3 (by omega)).mono ?_
      rintro e w4 ⟨rfl, m, hp, hso, own4, hb4⟩
      have hml : m.length = K.length := hp.length_eq
      have hO2 : O = mTo m m.length := by rw [HO1.out]; exact (rights_same HV.out (by rw [← HK.out]; exact hp) hso).symm
      have HO2 := Lib.hid hO2
      have hR4 := own4.reads
      have hy4 : Below w.heap.size w w4 := hy1.trans ((hb2.mono hy1.size).trans ((hb3.trans hb4).mono hy1.size))
      clear hO2 hp hso own4 own3 own1 hb2 hb3 hb4 g1 g2
      go_wp2
      go_loopw [8, 28] (fun o x wr => ∃ k : Nat, k ≤ K.length ∧ x = .int .i64 k ∧ ∃ A c, o = .slice A (mTo m k).length c ∧ OwnR wr w4.heap.size A c (mTo m k) ∧ Below w4.heap.size w4 wr) (fun _ x _ => K.length - (intOf x).toNat)
      case atStart => exact ⟨0, by omega, rfl, none, 0, rfl, World.ownsRow_nil _ _ _ _, Below.refl _ _⟩
      case round =>
        obtain ⟨k, hk, rfl, A, c, rfl, own, hbl⟩ := hrel
        have hbs := hbl.size
        by_cases hlt : k < K.length
        · obtain ⟨ad, rfl, hab, c0', c1, c2⟩ := (hR4.below hbl).at_ (k := k) (by omega)
          have hll := mTo_len m k
          obtain ⟨L, hL⟩ : ∃ L, L = mTo m k := ⟨_, rfl⟩
          rw [← hL] at own hll ⊢
          have HL := Lib.hid hL; clear hL
          have hba := (Below.refl wr.heap.size wr).alloc (Nat.le_refl _) (.cells #[.int .i64 (gs m k).fr, .int .i64 (gs m k).un, .int .i64 (gs m k).me] 105)
          have own1 := own.kept hba
          have hbl1 := hbl.trans (hba.mono hbs)
          clear hbl hba
          by_cases hl0 : 0 < L.length
          · obtain ⟨gb, rfl, hgb1, hgb2, hcs, hfz⟩ := own1.last hl0
            have hgbw : gb < wr.heap.size := (World.ownsRow.lt own gb rfl).2
            obtain ⟨d0, d1, d2⟩ := hcs (L.length - 1) (by omega)
            have hgn : ¬ wr.heap.size = gb := by omega
            have hgn2 : ¬ gb = wr.heap.size := by omega
            clear hcs own
            by_cases hu : (gs m k).un ≤ (gs L (L.length - 1)).me
            · have hn : mTo m (k + 1) = L.set (L.length - 1) ⟨(gs L (L.length - 1)).fr, (gs L (L.length - 1)).un, if (gs L (L.length - 1)).me < (gs m k).me then (gs m k).me else (gs L (L.length - 1)).me⟩ := by
                show mstep (mTo m k) (gs m k) = _
                rw [← HL.out]; unfold mstep lastS; rw [if_pos ⟨hl0, hu⟩]
              have HN := Lib.hid hn; clear hn
              go_wp2_with fail
              go_quiet (fail)
              go_wp2_with fail
              go_region
              have hmx : (if (gs L (L.length - 1)).me < (gs m k).me then (gs m k).me else (gs L (L.length - 1)).me) = max (gs L (L.length - 1)).me (gs m k).me := by rw [Int.max_def]; split <;> split <;> omega
              have own2 : OwnR (((wr.alloc (.cells #[.int .i64 (gs m k).fr, .int .i64 (gs m k).un, .int .i64 (gs m k).me] 105)).drewN (nq + 1)).setCell ⟨gb, (L.length - 1) * 3 + 2, none⟩ (.int .i64 (max (gs L (L.length - 1)).me (gs m k).me))) w4.heap.size (some ⟨gb, 0, none⟩) c (mTo m (k + 1)) := by
                have z : OwnR ((wr.alloc (.cells #[.int .i64 (gs m k).fr, .int .i64 (gs m k).un, .int .i64 (gs m k).me] 105)).drewN (nq + 1)) w4.heap.size (some ⟨gb, 0, none⟩) c L := own1
                rw [HN.out, hmx]
                exact z.longer (L.length - 1) (by omega) _
              have hbl2 := (below_drewN hbl1 (nq + 1)).setCell (p := ⟨gb, (L.length - 1) * 3 + 2, none⟩) hgb1 (.int .i64 (max (gs L (L.length - 1)).me (gs m k).me))
              go_wp2
              go_roundw
              case rel => exact ⟨k + 1, by omega, by go_num, _, c, by rw [HN.out, List.length_set], own2, hbl2⟩
              case measure => simp [intOf]; omega
            · have hn : mTo m (k + 1) = L ++ [gs m k] := by
                show mstep (mTo m k) (gs m k) = _
                rw [← HL.out]; unfold mstep lastS; rw [if_neg (by rintro ⟨_, h⟩; exact hu h)]
              have HN := Lib.hid hn; clear hn
              go_wp2_with fail
              go_quiet (fail)
              obtain ⟨wq, hwq⟩ : ∃ wq, wq = (wr.alloc (.cells #[.int .i64 (gs m k).fr, .int .i64 (gs m k).un, .int .i64 (gs m k).me] 105)).drewN nq := ⟨_, rfl⟩
              have hcx : ∀ j, wq.cell? ⟨wr.heap.size, j, none⟩ = #[Value.int .i64 (gs m k).fr, .int .i64 (gs m k).un, .int .i64 (gs m k).me][j]? := fun j => by
                rw [hwq]; show (wr.alloc (.cells #[.int .i64 (gs m k).fr, .int .i64 (gs m k).un, .int .i64 (gs m k).me] 105)).cell? ⟨wr.heap.size, j, none⟩ = _; simp [World.cell?_alloc_at]
              have hlq : wr.heap.size < wq.heap.size := by rw [hwq]; show wr.heap.size < (wr.alloc (.cells #[.int .i64 (gs m k).fr, .int .i64 (gs m k).un, .int .i64 (gs m k).me] 105)).heap.size; simp
              have ownq : OwnR wq w4.heap.size (some ⟨gb, 0, none⟩) c L := by rw [hwq]; exact own1
              have hblq : Below w4.heap.size w4 wq := by rw [hwq]; exact below_drewN hbl1 _
              rw [← hwq]
              have x0 := hcx 0; have x1 := hcx 1; have x2 := hcx 2
              simp only [List.getElem?_toArray, List.getElem?_cons_zero, List.getElem?_cons_succ] at x0 x1 x2
              clear hwq own1 hbl1 hcx
              go_wp2_with (at_builtin; refine wpList_app1 rfl _ _ rfl Try.underlying64 info_right rfl (by omega) rfl ownq rfl rfl (by simp [Value.oneCell']) (by omega) (by omega) (by omega) ?_; intro A' c' w2 own2 hb2)
              have hbl2 := hblq.trans (hb2 _ (Nat.le_refl _))
              clear ownq hb2
              go_wp2
              go_roundw
              case rel => exact ⟨k + 1, by omega, by go_num, A', c', by rw [HN.out, List.length_append]; rfl, by rw [HN.out]; unfold OwnR; rw [List.length_append, cellsS_append]; exact own2, hbl2⟩
              case measure => simp [intOf]; omega
          · have hn : mTo m (k + 1) = L ++ [gs m k] := by
              show mstep (mTo m k) (gs m k) = _
              rw [← HL.out]; unfold mstep lastS; rw [if_neg (by rintro ⟨h, _⟩; exact hl0 h)]
            have HN := Lib.hid hn; clear hn own
            go_wp2_with fail
            go_quiet (fail)
            obtain ⟨wq, hwq⟩ : ∃ wq, wq = (wr.alloc (.cells #[.int .i64 (gs m k).fr, .int .i64 (gs m k).un, .int .i64 (gs m k).me] 105)).drewN nq := ⟨_, rfl⟩
            have hcx : ∀ j, wq.cell? ⟨wr.heap.size, j, none⟩ = #[Value.int .i64 (gs m k).fr, .int .i64 (gs m k).un, .int .i64 (gs m k).me][j]? := fun j => by
              rw [hwq]; show (wr.alloc (.cells #[.int .i64 (gs m k).fr, .int .i64 (gs m k).un, .int .i64 (gs m k).me] 105)).cell? ⟨wr.heap.size, j, none⟩ = _; simp [World.cell?_alloc_at]
            have hlq : wr.heap.size < wq.heap.size := by rw [hwq]; show wr.heap.size < (wr.alloc (.cells #[.int .i64 (gs m k).fr, .int .i64 (gs m k).un, .int .i64 (gs m k).me] 105)).heap.size; simp
            have ownq : OwnR wq w4.heap.size A c L := by rw [hwq]; exact own1
            have hblq : Below w4.heap.size w4 wq := by rw [hwq]; exact below_drewN hbl1 _
            rw [← hwq]
            have x0 := hcx 0; have x1 := hcx 1; have x2 := hcx 2
            simp only [List.getElem?_toArray, List.getElem?_cons_zero, List.getElem?_cons_succ] at x0 x1 x2
            clear hwq own1 hbl1 hcx
            go_wp2_with (at_builtin; refine wpList_app1 rfl _ _ rfl Try.underlying64 info_right rfl (by omega) rfl ownq rfl rfl (by simp [Value.oneCell']) (by omega) (by omega) (by omega) ?_; intro A' c' w2 own2 hb2)
            have hbl2 := hblq.trans (hb2 _ (Nat.le_refl _))
            clear ownq hb2
            go_wp2
            go_roundw
            case rel => exact ⟨k + 1, by omega, by go_num, A', c', by rw [HN.out, List.length_append]; rfl, by rw [HN.out]; unfold OwnR; rw [List.length_append, cellsS_append]; exact own2, hbl2⟩
            case measure => simp [intOf]; omega
        · have hkk : k = K.length := by omega
          subst hkk
          go_wp2
          go_ret2
          have hO3 : O = mTo m K.length := by rw [HO2.out, hml]
          exact ⟨⟨A, c, ret2 (by rw [hO3] <;> rfl) (by rw [HE1.out] <;> rfl), by rw [hO3]; exact own_base own hy4.size, hy4.trans (hbl.mono hy4.size)⟩, by rw [hO3]; have := mTo_len m K.length; have := HKL.out; omega⟩
    | false =>
      have hE1 : E = 1 := by rw [HE.out, rgE, if_neg (by simp [hv]), if_neg (by simp [hi])]
      have hO1 : O = [] := by rw [HO.out, rgL, if_neg (by rw [← HE.out, hE1]; simp)]
      have HE1 := Lib.hid hE1
      have HO1 := Lib.hid hO1
      clear hv hE1 hO1
      go_wp2_with (go_at_call 58; refine (isChild_any _ _).mono ?_; rintro e w' ⟨rfl, hw'⟩; subst hw'; rw [hi])
      go_ret2
      exact ⟨⟨none, 0, ret2 (by rw [HO1.out]; rfl) (by rw [HE1.out] <;> rfl), by rw [HO1.out]; exact World.ownsRow_nil _ _ _ _, hy1⟩, by rw [HO1.out]; simp⟩
  · have hv1 : (vrt r != 0) = true := by simp [hv]
    have hE1 : E = vrt r := by rw [HE.out, rgE, if_pos hv]
    have hO1 : O = [] := by rw [HO.out, rgL, if_neg (by rw [← HE.out, hE1]; exact hv)]
    have HE1 := Lib.hid hE1
    have HO1 := Lib.hid hO1
    clear hv hE1 hO1
    go_wp2
    go_ret2
    exact ⟨⟨none, 0, ret2 (by rw [HO1.out]; rfl) (by rw [HE1.out] <;> rfl), by rw [HO1.out]; exact World.ownsRow_nil _ _ _ _, hy1⟩, by rw [HO1.out]; simp⟩
end Go.Proofs.Ytoopmancobfjeaa
