import Derived.Test.YtiapkffihpgdcaaGreatDoorQA18
import Derived.Test.YtiapkffihpgdcaaGreatDoorQA19
import Derived.Test.YtiapkffihpgdcaaGreatDoorProg
import Derived.WalkKit
import Derived.LaidEql
import Derived.Stop.Asserts
import Derived.RowKitTokens
import Derived.Lib.Hide
import Derived.Conc.RwLib
import Derived.Conc.MuData
import Derived.Conc.MuLone
import Derived.KernelRfl
set_option linter.unusedVariables false
set_option linter.unusedSimpArgs false
set_option maxRecDepth 100000
namespace Go.Proofs.YtiapkffihpgdcaaGreatDoor
open Go.RowKit Go.Extern.Stop Go.Stop Go.Extern
theorem as_nil (t : Value) (w : World) :
  Calls Tryz.prog 80 #[.nilIface, t] w fun e w' => e = .returned (.bool false) ∧ w' = w := by
 go_enter Tryz.func80, Tryz.ntmps80
 go_wp2
 go_ret
 exact ⟨rfl, rfl⟩
theorem as_valueOfP (t : Addr) (w : World) : (ReflectliteValue.unpack (.iface 151 (.pointer (some t)))).run Tryz.prog w
  = .ok (.agg #[.pointer (some ⟨7, 151, none⟩), .pointer (some ⟨w.heap.size, 0, none⟩), .int .u64 150]) (w.alloc (.cells #[.pointer (some t)] 151)) := by kernel_rfl
theorem as_typeP (a : Addr) (w : World) : (ReflectliteValue.methodAny (ReflectliteValue.valueError "reflectlite.Value.Type" 0) (fun t _ _ _ => ReflectliteType.toType t) #[.agg #[.pointer (some ⟨7, 151, none⟩), .pointer (some a), .int .u64 150]]).run Tryz.prog w
  = .ok (.iface 278 (.agg #[.pointer (some ⟨7, 151, none⟩)])) w := by kernel_rfl
theorem as_kindP (w : World) : ((ReflectliteType.abiMethod fun t => (fun a : Nat => Value.int IntKind.u8 (a : Int)) <$> Rtype.kind t) #[.pointer (some ⟨7, 151, none⟩)]).run Tryz.prog w = .ok (.int .u8 22) w := by kernel_rfl
theorem as_kindR (w : World) : ((ReflectliteType.abiMethod fun t => (fun a : Nat => Value.int IntKind.u8 (a : Int)) <$> Rtype.kind t) #[.pointer (some ⟨7, 146, none⟩)]).run Tryz.prog w = .ok (.int .u8 25) w := by kernel_rfl
theorem as_rlm (z : Sem Value) (f : TypeId → Addr → Nat → Nat → Sem Value) (v : Value) :
  ReflectliteValue.method z f #[v] = (do match ← ReflectliteValue.parts v with | none => z | some (t, a, fl) => f t a fl (fl % 32)) := rfl
theorem as_partsP (a : Addr) (w : World) : (ReflectliteValue.parts (.agg #[.pointer (some ⟨7, 151, none⟩), .pointer (some a), .int .u64 150])).run Tryz.prog w = .ok (some (151, a, 150)) w := by kernel_rfl
theorem as_isNil (a p : Addr) (W : World) (ha : W.cell? a = some (.pointer (some p))) :
  (ReflectliteValue.method (ReflectliteValue.valueError "reflectlite.Value.IsNil" 0) ReflectliteValue.isNil #[.agg #[.pointer (some ⟨7, 151, none⟩), .pointer (some a), .int .u64 150]]).run Tryz.prog W = .ok (.bool false) W := by
 rw [as_rlm]
 simp only [Sem.run_bind, as_partsP, Result.andThen]
 simp [ReflectliteValue.isNil, loadVar, isAgg, underlying, Tryz.underlying151, ha, Result.andThen]
theorem as_elemP (w : World) : (ReflectliteType.method ReflectliteType.elem #[.agg #[.pointer (some ⟨7, 151, none⟩)]]).run Tryz.prog w = .ok (.iface 278 (.agg #[.pointer (some ⟨7, 146, none⟩)])) w := by kernel_rfl
theorem as_implements (w : World) : (ReflectliteType.relation "Implements" ReflectliteType.implements_ #[.agg #[.pointer (some ⟨7, 146, none⟩)], .iface 278 (.agg #[.pointer (some ⟨7, 149, none⟩)])]).run Tryz.prog w = .ok (.bool true) w := by kernel_rfl
theorem as_typeOf (v : Value) (w : World) : (ReflectliteType.typeOf #[.iface 146 v]).run Tryz.prog w = .ok (.iface 278 (.agg #[.pointer (some ⟨7, 146, none⟩)])) w := by kernel_rfl
theorem as_assignable (w : World) : (ReflectliteType.relation "AssignableTo" ReflectliteType.assignableTo #[.agg #[.pointer (some ⟨7, 146, none⟩)], .iface 278 (.agg #[.pointer (some ⟨7, 146, none⟩)])]).run Tryz.prog w = .ok (.bool true) w := by kernel_rfl
theorem as_valueOfR (c : Int) (w : World) : (ReflectliteValue.unpack (.iface 146 (.agg #[.int .i64 c]))).run Tryz.prog w
  = .ok (.agg #[.pointer (some ⟨7, 146, none⟩), .pointer (some ⟨w.heap.size, 0, none⟩), .int .u64 153]) (w.alloc (.cells #[.int .i64 c] 146)) := by kernel_rfl
theorem as_elemOf (w : World) : (Rtype.elem? 151).run Tryz.prog w = .ok (some 146) w := by kernel_rfl
theorem as_mk (p : Addr) (w : World) : (ReflectliteValue.mk 146 p ReflectliteValue.flagAddr).run Tryz.prog w = .ok (.agg #[.pointer (some ⟨7, 146, none⟩), .pointer (some p), .int .u64 409]) w := by kernel_rfl
theorem as_elemV (a p : Addr) (W : World) (ha : W.cell? a = some (.pointer (some p))) :
  (ReflectliteValue.method (ReflectliteValue.valueError "reflectlite.Value.Elem" 0) ReflectliteValue.elem #[.agg #[.pointer (some ⟨7, 151, none⟩), .pointer (some a), .int .u64 150]]).run Tryz.prog W
   = .ok (.agg #[.pointer (some ⟨7, 146, none⟩), .pointer (some p), .int .u64 409]) W := by
 rw [as_rlm]
 simp only [Sem.run_bind, as_partsP, Result.andThen]
 simp [ReflectliteValue.elem, loadVar, isAgg, underlying, Tryz.underlying151, ha, Result.andThen, as_elemOf, as_mk]
theorem as_rls (v x : Value) : ReflectliteValue.set #[v, x] = (do
  let (some (dst, a, fl), some (src, b, _)) := (← ReflectliteValue.parts v, ← ReflectliteValue.parts x)
   | unsupported (.noEntry "extern/(internal/reflectlite.Value).Set.zeroValue")
  if fl / ReflectliteValue.flagAddr % 2 == 0 then unsupported (.noEntry "extern/(internal/reflectlite.Value).Set.unaddressable")
  let val ← loadVar src b
  if ← Rtype.directlyAssignable dst src then storeVar dst a val
  else if ← Rtype.implements dst src then
   if (← Rtype.kind src) == 20 then
    match val with
    | .nilIface => unsupported (.noEntry "extern/reflectlite: a nil value of one interface type handed on as a value of another")
    | _ => storeVar dst a val
   else storeVar dst a (.iface src val)
  else panicString ("reflectlite.Set: value of type " ++ (← Rtype.spelt src) ++ " is not assignable to type " ++ (← Rtype.spelt dst))
  pure (.tuple #[])) := rfl
theorem as_partsA (a : Addr) (w : World) : (ReflectliteValue.parts (.agg #[.pointer (some ⟨7, 146, none⟩), .pointer (some a), .int .u64 409])).run Tryz.prog w = .ok (some (146, a, 409)) w := by kernel_rfl
theorem as_partsR (a : Addr) (w : World) : (ReflectliteValue.parts (.agg #[.pointer (some ⟨7, 146, none⟩), .pointer (some a), .int .u64 153])).run Tryz.prog w = .ok (some (146, a, 153)) w := by kernel_rfl
theorem as_direct (w : World) : (Rtype.directlyAssignable 146 146).run Tryz.prog w = .ok true w := by kernel_rfl
/-- (Value).Set: the refusal at ta gets what the Value's own variable at b holds. -/
theorem as_set (ta b : Addr) (c : Int) (old : Value) (W : World) (hb : W.cell? b = some (.int .i64 c)) (ht : W.cell? ta = some old) (hf : W.frozen? ta = false) :
  (ReflectliteValue.set #[.agg #[.pointer (some ⟨7, 146, none⟩), .pointer (some ta), .int .u64 409], .agg #[.pointer (some ⟨7, 146, none⟩), .pointer (some b), .int .u64 153]]).run Tryz.prog W
   = .ok (.tuple #[]) (W.setCell ta (.int .i64 c)) := by
 rw [as_rls]
 simp only [Sem.run_bind, as_partsA, as_partsR, Result.andThen]
 simp [ReflectliteValue.flagAddr, loadVar, isAgg, underlying, Tryz.underlying146, hb, Result.andThen, as_direct, storeVar, Value.cells, storeCells, Addr.add]
 have hl := run_loadCells_list (P := Tryz.prog) (w := W) b [.int .i64 c] (fun j v hj => by
  match j, hj with
  | 0, hj => simp at hj; subst hj; rw [show b.add 0 = b from by cases b; simp [Addr.add]]; exact hb)
 simp only [List.length_cons, List.length_nil] at hl
 rw [hl]
 simp
 rw [show storeCells ta [Value.int .i64 c] = (do storeCells ta [Value.int .i64 c]) from rfl]
 simp [storeCells, Addr.add]
 rw [run_store Tryz.prog W ta _ _ (by rfl)]
 simp [ht, hf]
theorem as_mKind (h : Value) (w : World) : (Go.method 500 278 (.agg #[h]) "Kind").run Tryz.prog w = .ok (357, h) w := by kernel_rfl
theorem as_mElem (h : Value) (w : World) : (Go.method 500 278 (.agg #[h]) "Elem").run Tryz.prog w = .ok (368, .agg #[h]) w := by kernel_rfl
theorem as_mImplements (h : Value) (w : World) : (Go.method 500 278 (.agg #[h]) "Implements").run Tryz.prog w = .ok (369, .agg #[h]) w := by kernel_rfl
theorem as_mAssignableTo (h : Value) (w : World) : (Go.method 500 278 (.agg #[h]) "AssignableTo").run Tryz.prog w = .ok (366, .agg #[h]) w := by kernel_rfl
set_option maxHeartbeats 4000000 in
theorem as_hit (c : Int) (t : Addr) (old : Value) (w : World) (hg : w.cell? ⟨0, 0, none⟩ = some (.iface 278 (.agg #[.pointer (some ⟨7, 149, none⟩)]))) (ht0 : w.cell? t = some old) (hf0 : w.frozen? t = false) :
  Calls Tryz.prog 80 #[.iface 146 (.agg #[.int .i64 c]), .iface 151 (.pointer (some t))] w fun ev w' => ev = .returned (.bool true) ∧ w' = ((((w.alloc (.cells #[.pointer (some t)] 151)).alloc (.cells #[.pointer (some ⟨7, 151, none⟩), .pointer (some ⟨w.heap.size, 0, none⟩), .int .u64 150] 229)).alloc (.cells #[.pointer (some ⟨7, 151, none⟩), .pointer (some ⟨w.heap.size, 0, none⟩), .int .u64 150] 229)).alloc (.cells #[.int .i64 c] 146)).setCell t (.int .i64 c) := by
 have h6 := @run_callFunc_extern Tryz.prog 161 _ (fun args => ReflectliteValue.unpack (args.getD 0 (.tuple #[]))) Tryz.func161 (by kernel_rfl) (by kernel_rfl) (by kernel_rfl) (by kernel_rfl)
 have h7 := @run_callFunc_extern Tryz.prog 162 _ (ReflectliteValue.methodAny (ReflectliteValue.valueError "reflectlite.Value.Type" 0) (fun t _ _ _ => ReflectliteType.toType t)) Tryz.func162 (by kernel_rfl) (by kernel_rfl) (by kernel_rfl) (by kernel_rfl)
 have h8 := @run_callFunc_extern Tryz.prog 163 _ (ReflectliteValue.method (ReflectliteValue.valueError "reflectlite.Value.IsNil" 0) ReflectliteValue.isNil) Tryz.func163 (by kernel_rfl) (by kernel_rfl) (by kernel_rfl) (by kernel_rfl)
 have h27 := @run_callFunc_extern Tryz.prog 357 _ (ReflectliteType.abiMethod fun t => do pure (.int .u8 (← Rtype.kind t))) Tryz.func357 (by kernel_rfl) (by kernel_rfl) (by kernel_rfl) (by kernel_rfl)
 have h37 := @run_callFunc_extern Tryz.prog 368 _ (ReflectliteType.method ReflectliteType.elem) Tryz.func368 (by kernel_rfl) (by kernel_rfl) (by kernel_rfl) (by kernel_rfl)
 have h38 := @run_callFunc_extern Tryz.prog 369 _ (ReflectliteType.relation "Implements" ReflectliteType.implements_) Tryz.func369 (by kernel_rfl) (by kernel_rfl) (by kernel_rfl) (by kernel_rfl)
 have h10 := @run_callFunc_extern Tryz.prog 228 _ (ReflectliteType.typeOf) Tryz.func228 (by kernel_rfl) (by kernel_rfl) (by kernel_rfl) (by kernel_rfl)
 have h35 := @run_callFunc_extern Tryz.prog 366 _ (ReflectliteType.relation "AssignableTo" ReflectliteType.assignableTo) Tryz.func366 (by kernel_rfl) (by kernel_rfl) (by kernel_rfl) (by kernel_rfl)
 have h11 := @run_callFunc_extern Tryz.prog 229 _ (ReflectliteValue.method (ReflectliteValue.valueError "reflectlite.Value.Elem" 0) ReflectliteValue.elem) Tryz.func229 (by kernel_rfl) (by kernel_rfl) (by kernel_rfl) (by kernel_rfl)
 have h12 := @run_callFunc_extern Tryz.prog 230 _ (ReflectliteValue.set) Tryz.func230 (by kernel_rfl) (by kernel_rfl) (by kernel_rfl) (by kernel_rfl)
 have tO := as_typeOf
 have aR := as_assignable
 have vR := as_valueOfR
 have f6 := as_valueOfP
 have f7 := as_typeP
 have kP := as_kindP
 have kR := as_kindR
 have eP := as_elemP
 have iR := as_implements
 have mK := as_mKind
 have mE := as_mElem
 have mI := as_mImplements
 have mA := as_mAssignableTo
 have n8 := as_isNil ⟨w.heap.size, 0, none⟩ t ((w.alloc (.cells #[.pointer (some t)] 151)).alloc (.cells #[.pointer (some ⟨7, 151, none⟩), .pointer (some ⟨w.heap.size, 0, none⟩), .int .u64 150] 229)) (by simp)
 have hlt : 0 < w.heap.size := by
  rcases Nat.eq_zero_or_pos w.heap.size with h0 | h
  ·simp [World.cell?, h0] at hg
  ·exact h
 have hg2 : ((w.alloc (.cells #[.pointer (some t)] 151)).alloc (.cells #[.pointer (some ⟨7, 151, none⟩), .pointer (some ⟨w.heap.size, 0, none⟩), .int .u64 150] 229)).cell? ⟨0, 0, none⟩ = some (.iface 278 (.agg #[.pointer (some ⟨7, 149, none⟩)])) := by
  rw [World.cell?_alloc_lt _ _ ⟨0, 0, none⟩ (by simp), World.cell?_alloc_lt _ _ ⟨0, 0, none⟩ hlt]; exact hg
 have htl : t.block < w.heap.size := by
  rcases Nat.lt_or_ge t.block w.heap.size with h | h
  ·exact h
  ·simp [World.cell?, Array.getElem?_eq_none h] at ht0
 have el := as_elemV ⟨w.heap.size, 0, none⟩ t (((w.alloc (.cells #[.pointer (some t)] 151)).alloc (.cells #[.pointer (some ⟨7, 151, none⟩), .pointer (some ⟨w.heap.size, 0, none⟩), .int .u64 150] 229)).alloc (.cells #[.pointer (some ⟨7, 151, none⟩), .pointer (some ⟨w.heap.size, 0, none⟩), .int .u64 150] 229)) (by rw [World.cell?_alloc_lt _ _ ⟨w.heap.size, 0, none⟩ (by simp; omega)]; simp)
 have st := as_set t ⟨w.heap.size + 1 + 1 + 1, 0, none⟩ c old ((((w.alloc (.cells #[.pointer (some t)] 151)).alloc (.cells #[.pointer (some ⟨7, 151, none⟩), .pointer (some ⟨w.heap.size, 0, none⟩), .int .u64 150] 229)).alloc (.cells #[.pointer (some ⟨7, 151, none⟩), .pointer (some ⟨w.heap.size, 0, none⟩), .int .u64 150] 229)).alloc (.cells #[.int .i64 c] 146))
  (by rw [World.cell?_alloc_at _ _ _ _ (by simp)]; rfl)
  (by rw [World.cell?_alloc_lt _ _ t (by simp; omega), World.cell?_alloc_lt _ _ t (by simp; omega), World.cell?_alloc_lt _ _ t (by simp; omega), World.cell?_alloc_lt _ _ t htl]; exact ht0)
  (by rw [World.frozen?_alloc_old _ _ t (by simp; omega), World.frozen?_alloc_old _ _ t (by simp; omega), World.frozen?_alloc_old _ _ t (by simp; omega), World.frozen?_alloc_old _ _ t (Nat.ne_of_lt htl)]; exact hf0)
 go_enter Tryz.func80, Tryz.ntmps80
 go_wp2
 refine wp_loop_rounds 1 ?_
 rw [rounds_succ]
 go_wp2
 go_ret
 exact ⟨rfl, rfl⟩
end Go.Proofs.YtiapkffihpgdcaaGreatDoor
namespace Go.Proofs.YtiapkffihpgdcaaGreatDoor
open Go.RowKit
theorem wpList_app3 {P : Program} {w : World} {ops : Array Oper} {rest : List Oper} {o : Oper} {a : Act} {Q : Exit → Act → World → Prop} (hgd : o.guard = none) (s x : Operand) {t e : TypeId}
    (ho : o.op = .call { callee := .builtin .append, args := #[s, x], argTypes := #[t, t] }) {z : Value} {size bytes : Nat} (ht : P.underlying t = some (.slice e))
    (hinfo : (P.info? e).map (fun i => (i.zero, i.size, i.bytes)) = some (some z, size, bytes)) (hzs : z.cells.size = size) (hsz : 0 < size)
    {base : Nat} {A : Option Addr} {n c : Nat} {xs : List Value} (hs : a.eval s = .slice A n c) (hown : w.ownsRow base e size (.slice A n c) n xs)
    {news : List Value} (hx : a.eval x = .slice (some ⟨w.heap.size, 0, none⟩) 1 1) (hl : news.length = size) (h1 : ∀ u ∈ news, u.oneCell' = true)
    (hn : n + 1 ≤ 1000000000) (hbytes : bytes ≤ 1000) (hbase : base ≤ w.heap.size)
    (h : ∀ A' c' w', w'.ownsRow base e size (.slice A' (n + 1) c') (n + 1) (xs ++ news) → (w.alloc (.cells news.toArray e)).grownBy w' (blkOf (A, c)) → (blkOf (A', c') = blkOf (A, c) ∨ blkOf (A', c') = some (w.alloc (.cells news.toArray e)).heap.size) → wpList P ops Q rest (a.put o.dst (.slice A' (n + 1) c')) w') :
    wpList P ops Q (o :: rest) a (w.alloc (.cells news.toArray e)) := by
  obtain ⟨i, hi, hz0, hz1, hz2⟩ := info_parts hinfo
  have hlt : ∀ j u, news[j]? = some u → (w.alloc (.cells news.toArray e)).cell? ((⟨w.heap.size, 0, none⟩ : Addr).add j) = some u := by
    intro j u hu
    have hadd : (⟨w.heap.size, 0, none⟩ : Addr).add j = ⟨w.heap.size, j, none⟩ := by unfold Addr.add; split <;> simp_all
    rw [hadd, World.cell?_alloc_at _ _ _ _ rfl]
    simpa using hu
  have hb : (n + 1) * bytes ≤ 140737488355328 := by
    have : (n + 1) * bytes ≤ 1000000000 * 1000 := Nat.mul_le_mul hn hbytes
    omega
  have e1 : (Value.slice A n c).ownBlock = blkOf (A, c) := own_blk (A, c) n
  refine wpList_append_any _ hgd s x t ho base e i z size bytes ht hi hz0 hz1 hz2 hzs hsz _ n xs hs (hown.alloc _) (w.heap.size + 1) _ 1 1 news hx ⟨by omega, fun _ => ⟨_, rfl, by simp, hlt⟩⟩ h1 (by unfold maxLen; omega) hb (by simp; omega) ?_
  intro v' w' hown' hg hx'
  obtain ⟨A', c', hv⟩ := own_shape hown'
  rw [hv] at hown' hx'
  rw [hv]
  rw [e1] at hg hx'
  have e2 : (Value.slice A' (n + 1) c').ownBlock = blkOf (A', c') := own_blk (A', c') (n + 1)
  rw [e2] at hx'
  exact h A' c' w' hown' hg hx'
theorem info_str9 : (Tryz.prog.info? 9).map (fun i => (i.zero, i.size, i.bytes)) = some (some (St []), 1, 16) := by kernel_rfl
/-- The error that a code stands for. -/
def erV (c : Int) : Value := if c = 0 then .nilIface else .iface 146 (.agg #[.int .i64 c])
theorem erV_no {c : Int} (h : c ≠ 0) : erV c = .iface 146 (.agg #[.int .i64 c]) := by unfold erV; rw [if_neg h]
theorem refuse_any (c : Int) (w : World) : Calls Tryz.prog 166 #[.int .i64 c] w fun e w' => e = .returned (erV c) ∧ w = w' := by
 by_cases h : c = 0
 ·subst h
  go_enter Tryz.func166, Tryz.ntmps166
  go_wp2
  go_ret
  exact ⟨rfl, rfl⟩
 ·have h' : (c == 0) = false := by simp [h]
  rw [erV_no h]
  go_enter Tryz.func166, Tryz.ntmps166
  go_wp2
  go_ret
  exact ⟨rfl, rfl⟩
theorem exS_keeps (o : Of) (r : Rq) : (exS o r).orders = o.orders := by
 unfold exS
 repeat (first | rfl | split)
theorem prs_name {s : Wd} {r : Rq} (h : prs s = some r) : r.name.length ≤ s.length ∧ r.nums.length ≤ s.length + 1 := by
 obtain ⟨hw1, hw2⟩ := wds_lens s
 have ht : ∀ x ∈ (wds s).tail, x.length ≤ s.length := fun x hx => hw1 x (List.mem_of_mem_tail hx)
 unfold prs at h
 cases hf : fmOf (hd (wds s)) with
 | none => rw [hf] at h; cases h
 | some f =>
  rw [hf] at h
  simp only at h
  by_cases h60 : 60 < s.length
  ·rw [if_pos h60] at h; cases h
  ·rw [if_neg h60] at h
   cases hn : f.name with
   | false =>
    rw [hn] at h
    simp only [Bool.false_eq_true, if_false] at h
    obtain ⟨rfl, _, _⟩ := rqN_some h
    exact ⟨by simp, by simp; omega⟩
   | true =>
    rw [hn] at h
    simp only [if_true] at h
    by_cases he : (wds s).tail = []
    ·rw [if_pos he] at h; cases h
    ·rw [if_neg he] at h
     cases hl : letB (hd (wds s).tail) with
     | false => rw [hl] at h; cases h
     | true =>
      rw [hl] at h
      simp only [if_true] at h
      obtain ⟨rfl, _, _⟩ := rqN_some h
      refine ⟨?_, by simp; omega⟩
      show (hd (wds s).tail).length ≤ _
      cases htl : (wds s).tail with
      | nil => exact absurd htl he
      | cons x r => exact ht x (by rw [htl]; simp)
/-- What the doing of an order leaves. -/
def RetE (L : Int) (N : Nat) (w : World) (F : Nat → Prop) (g : Nat) (code : Int) (s' : Of) (e : Ending) (w' : World) : Prop :=
 e = .returned (erV code) ∧ Off F w w' ∧ ∃ h', PO L N w' (grown F w w') g h' s'
section
variable {L : Int} {N : Nat} {w : World} {F : Nat → Prop} {g : Nat} {h : Hd} {s : Of}
set_option maxHeartbeats 3200000 in
theorem do_any (hP : PO L N w F g h s) (hE : EnvZ w) (hN : N < 1000000000) (txt : Wd) (ht : txt.length ≤ 1000000000) :
  Calls Tryz.prog 81 #[.pointer (some ⟨g, 0, none⟩), St txt] w (RetE L (N + 1) w F g (doE s txt) (doS s txt)) := by
 obtain ⟨D, hD⟩ : ∃ D, D = doE s txt := ⟨_, rfl⟩
 obtain ⟨T, hT⟩ : ∃ T, T = doS s txt := ⟨_, rfl⟩
 rw [← hD, ← hT]
 have HD := Lib.hid hD
 have HT := Lib.hid hT
 clear hD hT
 have hcon := parse_any txt ht w hE
 cases hp : prs txt with
 | none =>
  rw [hp] at hcon
  have h3 : D = 3 := by rw [HD.out, doE_none hp]
  have hTs : T = s := by rw [HT.out, doS_bad (by rw [doE_none hp]; decide)]
  subst h3
  have HTS := Lib.hid hTs
  have HC := Lib.hid hcon
  clear hcon hTs hp
  go_enter Tryz.func81, Tryz.ntmps81
  go_wp2_with (go_at_call 165; (with_reducible refine HC.out.mono ?_); rintro e w2 ⟨he2, hb2⟩; have he3 : e = .returned (.tuple #[rq0, .iface 146 (.agg #[.int .i64 3])]) := he2; subst he3; clear he2; unfold rq0)
  go_ret
  rw [HTS.out]
  have hbx := hb2.alloc hb2.size (.cells #[.int .i64 0, St [], .slice none 0 0] 239)
  exact ⟨rfl, .of_below hbx, h, (hP.below' hbx).more (Nat.le_succ _)⟩
 | some r =>
  rw [hp] at hcon
  obtain ⟨hrq, h60⟩ := prs_ok hp
  obtain ⟨hnl, hnu⟩ := prs_name hp
  have hol := hP.ok.ol
  have HC := Lib.hid hcon
  have HPR := Lib.hid hp
  clear hcon
  by_cases h200 : 200 ≤ s.orders.length
  ·have h200' : decide ((200 : Int) ≤ (s.orders.length : Int)) = true := by rw [decide_eq_true_eq]; omega
   have h4 : D = 4 := by rw [HD.out, doE_full hp h200]
   have hTs : T = s := by rw [HT.out, doS_bad (by rw [doE_full hp h200]; decide)]
   subst h4
   have HTS := Lib.hid hTs
   clear hTs hp h200
   go_enter Tryz.func81, Tryz.ntmps81
   go_wp2_with (go_at_call 165; (with_reducible refine HC.out.mono ?_); rintro e w2 ⟨⟨A, c, he2, own2⟩, hb2⟩; subst he2; obtain ⟨w3, hw3⟩ : ∃ w3, w2.alloc (.cells #[.int .i64 r.kind, St r.name, .slice A r.nums.length c] 239) = w3 := ⟨_, rfl⟩; have hb3 : Below w2.heap.size w2 w3 := (by rw [← hw3]; exact (Below.refl _ _).alloc (Nat.le_refl _) _); have b3 : Box w3 w2.heap.size #[.int .i64 r.kind, St r.name, .slice A r.nums.length c] := (by rw [← hw3]; exact Box.new _ _ _); have x0 := b3.cell 0; have x1 := b3.cell 1; have x2 := b3.cell 2; simp only [List.getElem?_toArray, List.getElem?_cons_zero, List.getElem?_cons_succ] at x0 x1 x2; have hbx := hb2.trans (hb3.mono hb2.size); have hP3 := hP.below hbx; have q19 := hP3.cOd)
   go_ret
   rw [HTS.out]
   exact ⟨rfl, .of_below hbx, h, (hP.below' hbx).more (Nat.le_succ _)⟩
  ·have h200' : decide ((200 : Int) ≤ (s.orders.length : Int)) = false := by rw [decide_eq_false_iff_not]; omega
   have hDE : D = exE s r := by rw [HD.out, doE_some hp (by omega)]
   obtain ⟨S2, hS2⟩ : ∃ S2, S2 = if exE s r = 0 then exS s r else s := ⟨_, rfl⟩
   have HS2 := Lib.hid hS2
   have HDE := Lib.hid hDE
   clear hDE hS2 hp
   go_enter Tryz.func81, Tryz.ntmps81
   go_wp2_with (go_at_call 165; (with_reducible refine HC.out.mono ?_); rintro e w2 ⟨⟨A, c, he2, own2⟩, hb2⟩; subst he2; obtain ⟨w3, hw3⟩ : ∃ w3, w2.alloc (.cells #[.int .i64 r.kind, St r.name, .slice A r.nums.length c] 239) = w3 := ⟨_, rfl⟩; have hb3 : Below w2.heap.size w2 w3 := (by rw [← hw3]; exact (Below.refl _ _).alloc (Nat.le_refl _) _); have b3 : Box w3 w2.heap.size #[.int .i64 r.kind, St r.name, .slice A r.nums.length c] := (by rw [← hw3]; exact Box.new _ _ _); have x0 := b3.cell 0; have x1 := b3.cell 1; have x2 := b3.cell 2; simp only [List.getElem?_toArray, List.getElem?_cons_zero, List.getElem?_cons_succ] at x0 x1 x2; have hbx := hb2.trans (hb3.mono hb2.size); have hP3 := hP.below hbx; have q19 := hP3.cOd)
   have own3 := own_below own2 hb3 (fun k hk => (World.ownsRow.lt own2 k hk).2)
   have hc : r.nums.length ≤ c := by
    rcases own2.2 with ⟨h1, h2⟩ | ⟨_, _, _, h1, _, _, h4, _⟩
    ·omega
    ·injection h1 with _ _ h1; omega
   have hex := execute_any hP3 (hE.below hbx) hN r hrq (by omega) (by omega) A c (RN.of_own own3) hc
   rw [← HDE.out, ] at hex
   rw [show (if D = 0 then exS s r else s) = S2 by rw [HS2.out, HDE.out]] at hex
   refine hex.mono ?_
   rintro e w4 hr4
   have he4 := hr4.1
   subst he4
   have HR := Lib.hid hr4
   clear hr4 hex x0 x1 x2 own2 own3 b3 hw3 q19
   go_wp2_with fail
   refine (refuse_any D _).mono ?_
   rintro e w5 ⟨rfl, rfl⟩
   by_cases hz : D = 0
   ·subst hz
    have hz0 : erV 0 = .nilIface := rfl
    have hS3 : S2 = exS s r := by rw [HS2.out, ← HDE.out, if_pos rfl]
    have hkp : S2.orders = s.orders := by rw [hS3, exS_keeps]
    have hT3 : T = { S2 with orders := S2.orders ++ [txt] } := by
     have : doE s txt = 0 := HD.out.symm
     rw [HT.out, doS_good this HPR.out, hS3, exS_keeps]
    obtain ⟨-, ho4, h4, hP4⟩ := RetO.back hP hbx HR.out
    have hok : OfOk { S2 with orders := S2.orders ++ [txt] } := hP4.ok.orders HPR.out (by rw [hkp]; omega) rfl
    have hl4 : S2.orders.length < 200 := by rw [hkp]; omega
    have HT3 := Lib.hid hT3
    have HOK := Lib.hid hok
    have q := hP4.cOd
    have f := hP4.box.free 19
    have ow : w4.ownsRow 0 9 1 (.slice h4.od.1 S2.orders.length h4.od.2) S2.orders.length (strs S2.orders) := hP4.od
    have hgl := hP4.gl
    have hne : blkOf (h4.od.1, h4.od.2) ≠ some g := fun e => (hP4.odF g e).2.1 rfl
    have HNE := Lib.hid hne
    rw [hz0]
    clear hz0 hS3 hkp hT3 hok hne
    go_wp2_with (at_builtin; refine wpList_app3 rfl _ _ rfl Tryz.underlying33 info_str9 rfl (by omega) rfl ow rfl rfl (by simp [Value.oneCell']) (by omega) (by omega) (by omega) ?_; intro A3 c3 w7 own7 hg7 hk7; have hX7 := grown_at (wr := w4) ((Below.refl _ _).alloc (Nat.le_refl _) _) hg7 (p := ⟨g, 19, none⟩) hgl HNE.out; have z7 := hX7.1.trans q; have f7 := hX7.2.trans f; clear hX7)
    go_ret
    rw [HT3.out]
    obtain ⟨o1, o2⟩ := hP4.app_od (Below.refl _ _) ((Below.refl _ _).alloc (Nat.le_refl _) _) txt own7 hg7 hk7 HOK.out
    refine ⟨rfl, ho4.trans o1 (fun k hk => ?_), _, o2.wide (fun k hk => ?_) (grown_lo hP (Nat.le_trans ho4.size o1.size))⟩
    ·rcases hk with hk | hk
     ·exact .inl hk
     ·exact .inr hk.1
    ·rcases hk with (hk | hk) | hk
     ·exact .inl hk
     ·exact .inr ⟨hk.1, Nat.lt_of_lt_of_le hk.2 o1.size⟩
     ·exact .inr ⟨Nat.le_trans ho4.size hk.1, hk.2⟩
   ·have hS3 : S2 = s := by rw [HS2.out, ← HDE.out, if_neg hz]
    have hT3 : T = s := by rw [HT.out, doS_bad (by rw [← HD.out]; exact hz)]
    have HZ := Lib.hid hz
    have HT3 := Lib.hid hT3
    have HS3 := Lib.hid hS3
    rw [erV_no hz]
    clear hz hT3 hS3
    go_wp2_with fail
    go_ret
    obtain ⟨-, ho4, h4, hP4⟩ := RetO.back hP hbx HR.out
    rw [HS3.out] at hP4
    rw [HT3.out]
    exact ⟨by rw [erV_no HZ.out]; rfl, ho4, h4, hP4⟩
end
end Go.Proofs.YtiapkffihpgdcaaGreatDoor
namespace Go.Proofs.YtiapkffihpgdcaaGreatDoor
abbrev muLink : Go.Conc.Locks.MuLink := { lock := 78, unlock := 79, ilock := 159, iunlock := 160, lockSlow := 224, unlockSlow := 227, disable := 220, enable := 222, acquire := 223, relMerge := 225, cas32 := 221, add32 := 226, tMutex := 134, tIMutex := 132, tPMutex := 225, tPIMutex := 271, tPI32 := 273, tUP := 226, tNoCopy := 129, tU32 := 130 }
theorem muLib : Go.Conc.Locks.MuLib Tryz.prog muLink :=
 ⟨Tryz.func78, Tryz.func79, Tryz.func159, Tryz.func160, Tryz.func220, Tryz.func222, Tryz.func223, Tryz.func225, Tryz.func221, Tryz.func226, Tryz.underlying132, Tryz.runUnderlying132, Tryz.sizeOf132, Tryz.isAgg132, Tryz.zeroValue132, Tryz.underlying134, Tryz.runUnderlying134, Tryz.sizeOf134, Tryz.isAgg134, Tryz.zeroValue134, Tryz.underlying225, Tryz.runUnderlying225, Tryz.sizeOf225, Tryz.isAgg225, Tryz.zeroValue225, Tryz.underlying271, Tryz.runUnderlying271, Tryz.sizeOf271, Tryz.isAgg271, Tryz.zeroValue271, Tryz.underlying273, Tryz.runUnderlying273, Tryz.sizeOf273, Tryz.isAgg273, Tryz.zeroValue273, Tryz.underlying226, Tryz.runUnderlying226, Tryz.sizeOf226, Tryz.isAgg226, Tryz.zeroValue226, Tryz.underlying129, Tryz.runUnderlying129, Tryz.sizeOf129, Tryz.isAgg129, Tryz.zeroValue129, Tryz.underlying21, Tryz.runUnderlying21, Tryz.sizeOf21, Tryz.isAgg21, Tryz.zeroValue21, (by kernel_rfl)⟩
end Go.Proofs.YtiapkffihpgdcaaGreatDoor
