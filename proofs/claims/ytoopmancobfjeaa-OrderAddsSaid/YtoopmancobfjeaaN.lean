/-
  Walks: Compact.
-/
import Derived.Test.YtoopmancobfjeaaM
import Derived.Deep.RegionHeld3
namespace Go.Proofs.Ytoopmancobfjeaa
set_option linter.unusedVariables false
set_option linter.unusedSimpArgs false
open Go.RowKit

/-! ### plain -/
def cpFact (k : Nat) (s : Sp) : Fact := ⟨0, k, s.fr, s.un, s.me⟩
def cpTo (l : List Fact) (t : Int) : Nat → List Fact
  | 0 => []
  | k + 1 => cpTo l t k ++ (spansL l t k).map (cpFact k)
theorem spansL_le (l : List Fact) (t c : Int) : (spansL l t c).length ≤ 1000 := spTo_len _ _ _
theorem cpTo_le (l : List Fact) (t : Int) (k : Nat) : (cpTo l t k).length ≤ k * 1000 := by
  induction k with
  | zero => simp [cpTo]
  | succ k ih => have := spansL_le l t k; simp only [cpTo, List.length_append, List.length_map]; omega
def cpE (l : List Fact) (t : Int) : Int := if vld l = 0 then (if 60 < (cpTo l t 100).length then 4 else 0) else vld l
def cpR (l : List Fact) (t : Int) : List Fact := if cpE l t = 0 then cpTo l t 100 else []

theorem sp_cover (m : Nat → Int) (p : Nat → Bool) (k : Nat) :
    (∀ s ∈ spTo m p k, 0 ≤ s.fr ∧ s.fr < s.un ∧ s.un ≤ k ∧ ∀ d : Nat, s.fr ≤ d → (d : Int) < s.un → p d = true ∧ m d = s.me) ∧
    (∀ d, d < k → p d = true → ∃ s ∈ spTo m p k, s.fr ≤ d ∧ (d : Int) < s.un) := by
  induction k with
  | zero => exact ⟨by simp [spTo], by intro d hd; omega⟩
  | succ k ih =>
    obtain ⟨i1, i2⟩ := ih
    by_cases hp : p k = true
    · by_cases hc : 0 < (spTo m p k).length ∧ (gs (spTo m p k) ((spTo m p k).length - 1)).un = k ∧ (gs (spTo m p k) ((spTo m p k).length - 1)).me = m k
      · rw [spTo_more m p k hp hc]
        obtain ⟨h0, hu, hm⟩ := hc
        have hlast : gs (spTo m p k) ((spTo m p k).length - 1) ∈ spTo m p k := by
          have : (spTo m p k)[(spTo m p k).length - 1]'(by omega) = gs (spTo m p k) ((spTo m p k).length - 1) := by
            simp only [gs]; exact (List.getElem_eq_getD _)
          rw [← this]; exact List.getElem_mem _
        obtain ⟨j1, j2, j3, j4⟩ := i1 _ hlast
        constructor
        · intro s hs
          rcases List.mem_or_eq_of_mem_set hs with hs | rfl
          · obtain ⟨a1, a2, a3, a4⟩ := i1 s hs
            exact ⟨a1, a2, by omega, a4⟩
          · refine ⟨j1, Int.lt_trans j2 (Int.lt_succ _), by show _ + 1 ≤ _; omega, fun d h1 h2 => ?_⟩
            by_cases e : d = k
            · subst e; exact ⟨hp, hm.symm⟩
            · have h2' : (d : Int) < (gs (spTo m p k) ((spTo m p k).length - 1)).un + 1 := h2
              have h1' : (gs (spTo m p k) ((spTo m p k).length - 1)).fr ≤ d := h1
              exact j4 d h1' (by omega)
        · intro d hd hpd
          by_cases e : d = k
          · subst e
            refine ⟨_, List.mem_set (by omega) _, ?_, ?_⟩
            · show (gs (spTo m p d) ((spTo m p d).length - 1)).fr ≤ _; omega
            · show _ < (gs (spTo m p d) ((spTo m p d).length - 1)).un + 1; omega
          · obtain ⟨s, hs, h1, h2⟩ := i2 d (by omega) hpd
            obtain ⟨i, hi, rfl⟩ := List.getElem_of_mem hs
            by_cases ei : i = (spTo m p k).length - 1
            · refine ⟨_, List.mem_set (by omega) _, ?_, ?_⟩
              · have : gs (spTo m p k) ((spTo m p k).length - 1) = (spTo m p k)[i] := by subst ei; simp only [gs]; exact (List.getElem_eq_getD _).symm
                rw [this]; exact h1
              · have : gs (spTo m p k) ((spTo m p k).length - 1) = (spTo m p k)[i] := by subst ei; simp only [gs]; exact (List.getElem_eq_getD _).symm
                show _ < (gs (spTo m p k) ((spTo m p k).length - 1)).un + 1
                rw [this]; omega
            · refine ⟨(spTo m p k)[i], ?_, h1, h2⟩
              have : ((spTo m p k).set ((spTo m p k).length - 1) ⟨(gs (spTo m p k) ((spTo m p k).length - 1)).fr, (gs (spTo m p k) ((spTo m p k).length - 1)).un + 1, (gs (spTo m p k) ((spTo m p k).length - 1)).me⟩)[i]'(by simpa using hi) = (spTo m p k)[i] := by
                rw [List.getElem_set_ne (by omega)]
              rw [← this]; exact List.getElem_mem _
      · rw [spTo_new m p k hp hc]
        constructor
        · intro s hs
          rcases List.mem_append.1 hs with hs | hs
          · obtain ⟨a1, a2, a3, a4⟩ := i1 s hs
            exact ⟨a1, a2, by omega, a4⟩
          · simp only [List.mem_singleton] at hs
            subst hs
            refine ⟨by show (0 : Int) ≤ k; omega, by show (k : Int) < k + 1; omega, by show (k : Int) + 1 ≤ _; omega, fun d h1 h2 => ?_⟩
            have h1' : (k : Int) ≤ d := h1
            have h2' : (d : Int) < k + 1 := h2
            have e : d = k := by omega
            subst e; exact ⟨hp, rfl⟩
        · intro d hd hpd
          by_cases e : d = k
          · subst e
            exact ⟨⟨d, d + 1, m d⟩, by simp, Int.le_refl _, by show (d : Int) < d + 1; omega⟩
          · obtain ⟨s, hs, h1, h2⟩ := i2 d (by omega) hpd
            exact ⟨s, List.mem_append_left _ hs, h1, h2⟩
    · have hp' : p k = false := by simpa using hp
      rw [spTo_skip m p k hp']
      constructor
      · intro s hs
        obtain ⟨a1, a2, a3, a4⟩ := i1 s hs
        exact ⟨a1, a2, by omega, a4⟩
      · intro d hd hpd
        by_cases e : d = k
        · subst e; rw [hp'] at hpd; cases hpd
        · exact i2 d (by omega) hpd

theorem cp_mem {l : List Fact} {t : Int} : ∀ (n : Nat) (f : Fact), f ∈ cpTo l t n ↔ ∃ k : Nat, k < n ∧ ∃ s ∈ spansL l t k, f = cpFact k s
  | 0, f => by simp [cpTo]
  | n + 1, f => by
    rw [cpTo, List.mem_append, cp_mem n f, List.mem_map]
    constructor
    · rintro (⟨k, hk, s, hs, rfl⟩ | ⟨s, hs, rfl⟩)
      · exact ⟨k, by omega, s, hs, rfl⟩
      · exact ⟨n, by omega, s, hs, rfl⟩
    · rintro ⟨k, hk, s, hs, rfl⟩
      by_cases e : k = n
      · subst e; exact .inr ⟨s, hs, rfl⟩
      · exact .inl ⟨k, by omega, s, hs, rfl⟩

theorem cp_valid {l : List Fact} (hV : Vld l) {t : Int} (hlen : (cpTo l t 100).length ≤ 60) : Vld (cpTo l t 100) := by
  have key : ∀ i, i < (cpTo l t 100).length → ∃ k : Nat, k < 100 ∧ ∃ s ∈ spansL l t k, gf (cpTo l t 100) i = cpFact k s := fun i hi => (cp_mem 100 _).1 (gf_mem _ i hi)
  refine ⟨hlen, fun i hi => ?_, fun i j hij hj => ?_⟩
  · obtain ⟨k, hk, s, hs, e⟩ := key i hi
    rw [e, right_iff]
    obtain ⟨a1, a2, a3, a4⟩ := (sp_cover _ _ 1000).1 s hs
    have hb := a4 s.fr.toNat (by omega) (by omega)
    have hkb := knw_bd hV t k (s.fr.toNat : Nat)
    rw [hb.2] at hkb
    simp only [cpFact]
    omega
  · obtain ⟨k, hk, s, hs, e⟩ := key i (by omega)
    obtain ⟨k', hk', s', hs', e'⟩ := key j hj
    rw [e, e']; simp [cpFact]

/-- The last fact of those that meet a test: its meal, if all that meet it have one meal. -/
theorem knw_of_hits {x : List Fact} {t c d m : Int} (h1 : ∀ i, i < x.length → hit (gf x i) t c d = true → (gf x i).me = m) (h2 : (∃ i, i < x.length ∧ hit (gf x i) t c d = true) ∨ m = 0) : knw x t c d = m := by
  have key : ∀ k, k ≤ x.length → (rsnTo x t c d k = -1 ∧ ∀ i, i < k → hit (gf x i) t c d = false) ∨ (∃ i, i < k ∧ rsnTo x t c d k = (i : Nat) ∧ hit (gf x i) t c d = true) := by
    intro k
    induction k with
    | zero => intro _; exact .inl ⟨rfl, fun i hi => by omega⟩
    | succ k ih =>
      intro hk
      cases hq : hit (gf x k) t c d with
      | true => exact .inr ⟨k, by omega, rsnTo_hit _ _ _ _ _ hq, hq⟩
      | false =>
        rw [rsnTo_miss _ _ _ _ _ hq]
        rcases ih (by omega) with ⟨a, b⟩ | ⟨i, a, b, c'⟩
        · refine .inl ⟨a, fun i hi => ?_⟩
          by_cases e : i = k
          · subst e; exact hq
          · exact b i (by omega)
        · exact .inr ⟨i, by omega, b, c'⟩
  unfold knw rsn
  rcases key x.length (Nat.le_refl _) with ⟨a, b⟩ | ⟨i, a, b, c'⟩
  · rw [a]
    rcases h2 with ⟨i, hi, hh⟩ | rfl
    · rw [b i hi] at hh; cases hh
    · simp [fMe]
  · rw [b]
    unfold fMe
    rw [if_neg (by omega), Int.toNat_natCast]
    exact h1 i a c'

theorem cp_same {l : List Fact} (hV : Vld l) (t : Int) {c d : Int} (hc0 : 0 ≤ c) (hc1 : c ≤ 99) (hd0 : 0 ≤ d) (hd1 : d ≤ 999) : knw (cpTo l t 100) 0 c d = knw l t c d := by
  obtain ⟨cn, rfl⟩ := Int.eq_ofNat_of_zero_le hc0
  obtain ⟨dn, rfl⟩ := Int.eq_ofNat_of_zero_le hd0
  have hb := knw_bd hV t cn dn
  refine knw_of_hits (fun i hi hh => ?_) ?_
  · obtain ⟨k, hk, s, hs, e⟩ := (cp_mem 100 _).1 (gf_mem _ i hi)
    rw [e] at hh ⊢
    simp only [hit, Bool.and_eq_true, covB_iff, cpFact] at hh
    obtain ⟨-, h1, h2, h3⟩ := hh
    have hk' : k = cn := by omega
    subst hk'
    exact ((sp_cover _ _ 1000).1 s hs).2.2.2 dn h2 h3 |>.2.symm
  · by_cases h0 : knw l t cn dn = 0
    · exact .inr h0
    · left
      obtain ⟨s, hs, h1, h2⟩ := (sp_cover (fun d => knw l t cn d) (fun d => decide (0 < knw l t cn d)) 1000).2 dn (by omega) (by simp; omega)
      have hm : cpFact cn s ∈ cpTo l t 100 := (cp_mem 100 _).2 ⟨cn, by omega, s, hs, rfl⟩
      obtain ⟨i, hi, e⟩ := List.getElem_of_mem hm
      refine ⟨i, hi, ?_⟩
      rw [← gf_getElem _ i hi, e]
      exact Bool.and_eq_true_iff.2 ⟨decide_eq_true (Int.le_refl _), (covB_iff _ _ _).2 ⟨rfl, h1, h2⟩⟩

/-! ### memory -/
theorem own_ne {w : World} {b1 e1 s1 n1 b2 e2 s2 n2 : Nat} {v1 v2 : Value} {xs1 xs2 : List Value} (h1 : w.ownsRow b1 e1 s1 v1 n1 xs1) (h2 : w.ownsRow b2 e2 s2 v2 n2 xs2) (hne : e1 ≠ e2) : v1.ownBlock = none ∨ v1.ownBlock ≠ v2.ownBlock := by
  rcases h1.2 with ⟨rfl, _⟩ | ⟨g, cap, cur, rfl, _, hh, _⟩
  · exact .inl rfl
  · right
    rcases h2.2 with ⟨rfl, _⟩ | ⟨g', cap', cur', rfl, _, hh', _⟩
    · simp [Value.ownBlock]
    · intro he
      have : g = g' := by simpa [Value.ownBlock] using he
      subst this
      rw [hh] at hh'
      injection hh' with hh'
      injection hh' with _ ht
      exact hne ht
/-- As wpList_app1; and what is owned besides, of another element type, stays. -/
theorem wpList_app2 {P : Program} {w : World} {ops : Array Oper} {rest : List Oper} {o : Oper} {a : Act} {Q : Exit → Act → World → Prop} (hgd : o.guard = none) (s x : Operand) {t e : TypeId}
    (ho : o.op = .call { callee := .builtin .append, args := #[s, x], argTypes := #[t, t] }) {z : Value} {size bytes : Nat} (ht : P.underlying t = some (.slice e))
    (hinfo : (P.info? e).map (fun i => (i.zero, i.size, i.bytes)) = some (some z, size, bytes)) (hzs : z.cells.size = size) (hsz : 0 < size)
    {base : Nat} {A : Option Addr} {n c : Nat} {xs : List Value} (hs : a.eval s = .slice A n c) (hown : w.ownsRow base e size (.slice A n c) n xs)
    {news : List Value} {gb : Nat} (hgb : gb = w.heap.size) (hx : a.eval x = .slice (some ⟨gb, 0, none⟩) 1 1) (hl : news.length = size) (h1 : ∀ u ∈ news, u.oneCell' = true)
    (hn : n + 1 ≤ 1000000000) (hbytes : bytes ≤ 1000) (hbase : base ≤ w.heap.size)
    (h : ∀ A' c' w', w'.ownsRow base e size (.slice A' (n + 1) c') (n + 1) (xs ++ news) → (∀ B, B ≤ base → Below B w w') →
      (∀ (b2 e2 s2 n2 : Nat) (v2 : Value) (xs2 : List Value), w.ownsRow b2 e2 s2 v2 n2 xs2 → e2 ≠ e → w'.ownsRow b2 e2 s2 v2 n2 xs2) → wpList P ops Q rest (a.put o.dst (.slice A' (n + 1) c')) w') :
    wpList P ops Q (o :: rest) a (w.alloc (.cells news.toArray e)) := by
  subst hgb
  obtain ⟨i, hi, hz0, hz1, hz2⟩ := info_parts hinfo
  have hlt : ∀ j u, news[j]? = some u → (w.alloc (.cells news.toArray e)).cell? ((⟨w.heap.size, 0, none⟩ : Addr).add j) = some u := by
    intro j u hu
    have hadd : (⟨w.heap.size, 0, none⟩ : Addr).add j = ⟨w.heap.size, j, none⟩ := by unfold Addr.add; split <;> simp_all
    rw [hadd, World.cell?_alloc_at _ _ _ _ rfl]
    simpa using hu
  have hb : (n + 1) * bytes ≤ 140737488355328 := by
    have : (n + 1) * bytes ≤ 1000000000 * 1000 := Nat.mul_le_mul hn hbytes
    omega
  refine wpList_append_own _ hgd s x t ho base e i z size bytes ht hi hz0 hz1 hz2 hzs hsz _ n xs hs (hown.alloc _) _ 1 1 news hx (by omega) hlt h1 (by unfold maxLen; omega) hb (by simp; omega) ?_
  intro v' w' hown' hg _
  obtain ⟨A', c', hv⟩ := own_shape hown'
  rw [hv] at hown' ⊢
  refine h A' c' w' hown' (fun B hB => ?_) (fun b2 e2 s2 n2 v2 xs2 h2 hne => ?_)
  · exact ((Below.refl B w).alloc (by omega) _).grown hg (by simp; omega) (fun k hk => by have := hown.lt k hk; omega)
  · exact (h2.alloc (.cells news.toArray e)).kept hg (own_ne (h2.alloc (.cells news.toArray e)) (hown.alloc (.cells news.toArray e)) hne)
def RetCp (w0 : World) (L : List Fact) (er : Int) (e : Ending) (w' : World) : Prop := RetF w0 L er e w'
theorem cells_map_take (L : List Sp) (k j : Nat) (hj : j < L.length) : (L.take (j + 1)).map (cpFact k) = (L.take j).map (cpFact k) ++ [cpFact k (gs L j)] := by
  rw [List.take_succ_eq_append_getElem hj, List.map_append]
  simp [gs, hj]

set_option maxRecDepth 100000 in
set_option maxHeartbeats 1600000 in
theorem compactX_any (l : List Fact) (t : Int) (hl : l.length ≤ 100000000) (A0 : Option Addr) (c0 B : Nat) (hc : l.length ≤ c0) (w : World) (hR : RF w B A0 l) :
    Calls Try.prog 38 #[.slice A0 l.length c0, .int .i64 t] w (RetF w (cpR l t) (cpE l t)) := by
  obtain ⟨L, hL⟩ : ∃ L, L = cpR l t := ⟨_, rfl⟩
  obtain ⟨E, hE⟩ : ∃ E, E = cpE l t := ⟨_, rfl⟩
  rw [← hL, ← hE]
  have h1 : ¬ vld l = 0 → E = vld l ∧ L = [] := fun h => by
    have e1 : E = vld l := by rw [hE, cpE, if_neg h]
    exact ⟨e1, by rw [hL, cpR, if_neg (by rw [← hE, e1]; exact h)]⟩
  obtain ⟨M, hM⟩ : ∃ M, M = cpTo l t 100 := ⟨_, rfl⟩
  have h2 : vld l = 0 → 60 < M.length → E = 4 ∧ L = [] := fun h h' => by
    have e1 : E = 4 := by rw [hE, cpE, if_pos h, ← hM, if_pos h']
    exact ⟨e1, by rw [hL, cpR, if_neg (by rw [← hE, e1]; decide)]⟩
  have h3 : vld l = 0 → ¬ 60 < M.length → E = 0 ∧ L = M := fun h h' => by
    have e1 : E = 0 := by rw [hE, cpE, if_pos h, ← hM, if_neg h']
    exact ⟨e1, by rw [hL, cpR, if_pos (by rw [← hE, e1]), hM]⟩
  have H1 := Lib.hid h1
  have H2 := Lib.hid h2
  have H3 := Lib.hid h3
  have HM := Lib.hid hM
  clear h1 h2 h3 hL hE hM
  go_enter Try.func38, Try.ntmps38
  go_wp2_with fail
  refine (validate_any l A0 c0 B _ hR (by omega)).mono ?_
  rintro e w1 ⟨rfl, hb1⟩
  by_cases hv : vld l = 0
  · have hV := Vld.of hv
    have hv1 : (vld l != 0) = false := by simp [hv]
    have HV := Lib.hid hv; clear hv
    go_wp2
    go_loopw [7, 16] (fun o x wr => ∃ k : Nat, k ≤ 100 ∧ x = .int .i64 k ∧ ∃ A c, o = .slice A (cpTo l t k).length c ∧ OwnF wr w.heap.size A c (cpTo l t k) ∧ Below w.heap.size w wr) (fun _ x _ => 100 - (intOf x).toNat)
    case atStart => exact ⟨0, by omega, rfl, none, 0, rfl, World.ownsRow_nil _ _ _ _, hb1⟩
    case round =>
      obtain ⟨k, hk, rfl, A, c, rfl, own, hbl⟩ := hrel
      obtain ⟨wo, rfl⟩ : ∃ wo : World, wo = wr := ⟨_, rfl⟩
      have hcl := cpTo_le l t k
      by_cases hlt : k < 100
      · go_wp2_with fail
        refine (ordered_any l t k hV A0 c0 B hc _ (hR.below hbl)).mono ?_
        rintro e w2 ⟨A2, c2, rfl, own2, hb2⟩
        have own3 := own.kept hb2
        have hbl2 := hbl.trans (hb2.mono hbl.size)
        clear own hb2 hbl
        have hsl := spansL_le l t k
        obtain ⟨S, hS⟩ : ∃ S, S = spansL l t k := ⟨_, rfl⟩
        rw [← hS] at own2 hsl ⊢
        have hnext : cpTo l t (k + 1) = cpTo l t k ++ S.map (cpFact k) := by rw [hS]; rfl
        have HNX := Lib.hid hnext
        clear hnext hS
        obtain ⟨C, hC⟩ : ∃ C, C = cpTo l t k := ⟨_, rfl⟩
        rw [← hC] at own3 hcl HNX ⊢
        clear hC
        go_wp2
        go_loopw [7, 24] (fun o y wi => ∃ j : Nat, j ≤ S.length ∧ y = .int .i64 j ∧ ∃ A c n, o = .slice A n c ∧ n = C.length + j ∧ OwnF wi w.heap.size A c (C ++ (S.take j).map (cpFact k)) ∧ OwnS wi wo.heap.size A2 c2 S ∧ Below w.heap.size w wi) (fun _ y _ => S.length - (intOf y).toNat)
        case atStart => exact ⟨0, by omega, rfl, A, c, _, rfl, rfl, by simpa using own3, own2, hbl2⟩
        case round =>
          clear own3 own2 hbl2
          obtain ⟨j, hj, rfl, A3, c3, n, rfl, hn, own, own2, hbl⟩ := hrel
          have hlen : (C ++ (S.take j).map (cpFact k)).length = C.length + j := by simp; omega
          by_cases hjl : j < S.length
          · obtain ⟨ad, rfl, hab, d0, d1, d2⟩ := (RS.of_own own2).at_ hjl
            have hbs := hbl.size
            have own' := own
            unfold OwnF at own'
            rw [hlen, ← hn] at own'
            have hnb : n ≤ 200000 := by omega
            have HLEN := Lib.hid hlen
            have HN := Lib.hid hn
            clear hlen hn own
            go_wp2_with (at_builtin; refine wpList_app2 rfl _ _ rfl Try.underlying22 info_fact rfl (by omega) rfl (own'.alloc _) (by simp) rfl rfl (by simp [Value.oneCell']) (by omega) (by omega) (by simp; omega) ?_; intro A' c' w3 own3 hb3 hk3)
            have hb4 := hbl.trans (((Below.refl w.heap.size wr).alloc hbs _).trans (hb3 w.heap.size (Nat.le_refl _)))
            have own4 : OwnS w3 wo.heap.size (some ad) c2 S := hk3 _ _ _ _ _ _ (World.ownsRow.alloc own2 _) (by decide)
            go_roundw
            case rel => exact ⟨j + 1, by omega, by go_num, A', c', n + 1, rfl, by have := HN.out; omega, by rw [cells_map_take _ _ _ hjl, ← List.append_assoc]; exact OwnF.snoc own3 (by rw [HLEN.out, HN.out]) rfl, own4, hb4⟩
            case measure => simp [intOf]; omega
          · have hjS : S.take j = S := List.take_of_length_le (by omega)
            rw [hjS] at own
            have HN := Lib.hid hn
            have HLEN := Lib.hid hlen
            clear hn hlen hjS
            go_wp2
            go_roundw
            case rel => exact ⟨k + 1, by omega, by go_num, A3, c3, by rw [HNX.out, List.length_append, List.length_map, HN.out]; congr 1; omega, by rw [HNX.out]; exact own, hbl⟩
            case measure => simp [intOf]; omega
      · have hkM : cpTo l t k = M := by rw [HM.out, show k = 100 by omega]
        rw [hkM] at own hcl ⊢
        clear hkM
        by_cases hbig : 60 < M.length
        · have HX := Lib.hid (H2.out HV.out hbig)
          go_wp2
          go_ret2
          exact ⟨none, 0, ret2 (by rw [HX.out.2]; rfl) (by rw [HX.out.1]; rfl), by rw [HX.out.2]; exact World.ownsRow_nil _ _ _ _, hbl⟩
        · have HX := Lib.hid (H3.out HV.out hbig)
          go_wp2
          go_ret2
          exact ⟨A, c, ret2 (by rw [HX.out.2]; rfl) (by rw [HX.out.1]; rfl), by rw [HX.out.2]; exact own, hbl⟩
  · have hv1 : (vld l != 0) = true := by simp [hv]
    have HX := Lib.hid (H1.out hv)
    clear hv
    go_wp2
    go_ret2
    exact ⟨none, 0, ret2 (by rw [HX.out.2]; rfl) (by rw [HX.out.1]; rfl), by rw [HX.out.2]; exact World.ownsRow_nil _ _ _ _, hb1⟩

end Go.Proofs.Ytoopmancobfjeaa
