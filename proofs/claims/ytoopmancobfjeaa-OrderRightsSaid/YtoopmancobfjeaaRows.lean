/-
  No cell of these rows narrows 'for every input' (looked for: loops, veiled, ifaces, maps, wideKeys, modest, calm, conditions, laid).
  DERIVED. THE GIVEN ROWS OF THIS SEAT. 12 by the template 'for every input the law returns true; each argument reads behind the call as it read before'; 0 by the template 'total and deterministic' (their statements: YtoopmancobfjeaaTotals.lean).
  GIVEN WITH THE SEED: the statements are not yours to turn. If you find one false, say at which input.
  Laid BY PROGRAM, IN A SANDBOX (cutbox-rows.mjs): the forced cells as the released guide's own fill.sh prints them over the translation 62112802d61e37b4… (all of the seat's roots in one cut). By AI agents, Wed Nov 11 2026. No macro, syntax, notation, axiom, sorry.
-/
import Derived.Test.YtoopmancobfjeaaChecked
import GoSem.Claim
import GoSem.ClaimJoined
import GoSem.ClaimMapViews
import Derived.JoinedTies
import Derived.KernelRfl
namespace Go.Proofs.Ytoopmancobfjeaa
/- THE CELL 'sum', in the pinned program and in every row, IS THE sha256 OF THE DUMP (.gsa) THAT YtoopmancobfjeaaProg.lean LOADS. Nothing in Lean hashes anything: it is a label: what it is worth is what the hold of that sum in a sandbox is worth. -/
noncomputable def Try.pinned : Pinned := { name := "ytoopmancobfjeaa", sum := "62112802d61e37b40bcc0f2b2d2e501b2436fbe1930fb549477d757a83496171", checked := Try.checked }
namespace Rows
def none {H : Type} : Left H := { results := [], args := [] }

/-- 'canteenlaw05.OrderSpans': WHATEVER THE INPUT: true; the input reads as it did. -/
def orderSpansSpec : ChangeSpec := { name := "orderSpans", fn := fun _ => fun
  | [d1, d2] => { results := [.lit (.bool true)], args := [d1, d2] }
  | _ => none }
def orderSpansRow : OpenClaim := { program := "ytoopmancobfjeaa", sum := "62112802d61e37b40bcc0f2b2d2e501b2436fbe1930fb549477d757a83496171", func := "canteen/canteenlaw05.OrderSpans", spec := "orderSpans", unfollowed := true, recurses := true, apart := false }
def OrderSpansSaid : Prop := orderSpansRow.holds Try.pinned (OpenSpec.ofChange orderSpansSpec)

/-- ITS FALSE NEIGHBOUR: 'it returns false'. Refute it at one input. -/
def orderSpansWrong : ChangeSpec := { name := "orderSpans", fn := fun _ => fun
  | [d1, d2] => { results := [.lit (.bool false)], args := [d1, d2] }
  | _ => none }
def OrderSpansWrongFalsely : Prop := orderSpansRow.holds Try.pinned (OpenSpec.ofChange orderSpansWrong)

/-- 'canteenlaw05.OrderChanges': WHATEVER THE INPUT: true; the input reads as it did. -/
def orderChangesSpec : ChangeSpec := { name := "orderChanges", fn := fun _ => fun
  | [d1, d2] => { results := [.lit (.bool true)], args := [d1, d2] }
  | _ => none }
def orderChangesRow : OpenClaim := { program := "ytoopmancobfjeaa", sum := "62112802d61e37b40bcc0f2b2d2e501b2436fbe1930fb549477d757a83496171", func := "canteen/canteenlaw05.OrderChanges", spec := "orderChanges", unfollowed := true, recurses := true, apart := false }
def OrderChangesSaid : Prop := orderChangesRow.holds Try.pinned (OpenSpec.ofChange orderChangesSpec)

/-- ITS FALSE NEIGHBOUR: 'it returns false'. Refute it at one input. -/
def orderChangesWrong : ChangeSpec := { name := "orderChanges", fn := fun _ => fun
  | [d1, d2] => { results := [.lit (.bool false)], args := [d1, d2] }
  | _ => none }
def OrderChangesWrongFalsely : Prop := orderChangesRow.holds Try.pinned (OpenSpec.ofChange orderChangesWrong)

/-- 'canteenlaw05.OrderCounts': WHATEVER THE INPUT: true; the input reads as it did. -/
def orderCountsSpec : ChangeSpec := { name := "orderCounts", fn := fun _ => fun
  | [d1, d2, d3] => { results := [.lit (.bool true)], args := [d1, d2, d3] }
  | _ => none }
def orderCountsRow : OpenClaim := { program := "ytoopmancobfjeaa", sum := "62112802d61e37b40bcc0f2b2d2e501b2436fbe1930fb549477d757a83496171", func := "canteen/canteenlaw05.OrderCounts", spec := "orderCounts", unfollowed := true, recurses := true, apart := false }
def OrderCountsSaid : Prop := orderCountsRow.holds Try.pinned (OpenSpec.ofChange orderCountsSpec)

/-- ITS FALSE NEIGHBOUR: 'it returns false'. Refute it at one input. -/
def orderCountsWrong : ChangeSpec := { name := "orderCounts", fn := fun _ => fun
  | [d1, d2, d3] => { results := [.lit (.bool false)], args := [d1, d2, d3] }
  | _ => none }
def OrderCountsWrongFalsely : Prop := orderCountsRow.holds Try.pinned (OpenSpec.ofChange orderCountsWrong)

/-- 'canteenlaw05.OrderAdds': WHATEVER THE INPUT: true; the input reads as it did. -/
def orderAddsSpec : ChangeSpec := { name := "orderAdds", fn := fun _ => fun
  | [d1, d2] => { results := [.lit (.bool true)], args := [d1, d2] }
  | _ => none }
def orderAddsRow : OpenClaim := { program := "ytoopmancobfjeaa", sum := "62112802d61e37b40bcc0f2b2d2e501b2436fbe1930fb549477d757a83496171", func := "canteen/canteenlaw05.OrderAdds", spec := "orderAdds", unfollowed := true, recurses := true, apart := false }
def OrderAddsSaid : Prop := orderAddsRow.holds Try.pinned (OpenSpec.ofChange orderAddsSpec)

/-- ITS FALSE NEIGHBOUR: 'it returns false'. Refute it at one input. -/
def orderAddsWrong : ChangeSpec := { name := "orderAdds", fn := fun _ => fun
  | [d1, d2] => { results := [.lit (.bool false)], args := [d1, d2] }
  | _ => none }
def OrderAddsWrongFalsely : Prop := orderAddsRow.holds Try.pinned (OpenSpec.ofChange orderAddsWrong)

/-- 'canteenlaw05.OrderChildren': WHATEVER THE INPUT: true; the input reads as it did. -/
def orderChildrenSpec : ChangeSpec := { name := "orderChildren", fn := fun _ => fun
  | [d1, d2] => { results := [.lit (.bool true)], args := [d1, d2] }
  | _ => none }
def orderChildrenRow : OpenClaim := { program := "ytoopmancobfjeaa", sum := "62112802d61e37b40bcc0f2b2d2e501b2436fbe1930fb549477d757a83496171", func := "canteen/canteenlaw05.OrderChildren", spec := "orderChildren", unfollowed := true, recurses := true, apart := false }
def OrderChildrenSaid : Prop := orderChildrenRow.holds Try.pinned (OpenSpec.ofChange orderChildrenSpec)

/-- ITS FALSE NEIGHBOUR: 'it returns false'. Refute it at one input. -/
def orderChildrenWrong : ChangeSpec := { name := "orderChildren", fn := fun _ => fun
  | [d1, d2] => { results := [.lit (.bool false)], args := [d1, d2] }
  | _ => none }
def OrderChildrenWrongFalsely : Prop := orderChildrenRow.holds Try.pinned (OpenSpec.ofChange orderChildrenWrong)

/-- 'canteenlaw05.OrderKnows': WHATEVER THE INPUT: true; the input reads as it did. -/
def orderKnowsSpec : ChangeSpec := { name := "orderKnows", fn := fun _ => fun
  | [d1, d2] => { results := [.lit (.bool true)], args := [d1, d2] }
  | _ => none }
def orderKnowsRow : OpenClaim := { program := "ytoopmancobfjeaa", sum := "62112802d61e37b40bcc0f2b2d2e501b2436fbe1930fb549477d757a83496171", func := "canteen/canteenlaw05.OrderKnows", spec := "orderKnows", unfollowed := true, recurses := true, apart := false }
def OrderKnowsSaid : Prop := orderKnowsRow.holds Try.pinned (OpenSpec.ofChange orderKnowsSpec)

/-- ITS FALSE NEIGHBOUR: 'it returns false'. Refute it at one input. -/
def orderKnowsWrong : ChangeSpec := { name := "orderKnows", fn := fun _ => fun
  | [d1, d2] => { results := [.lit (.bool false)], args := [d1, d2] }
  | _ => none }
def OrderKnowsWrongFalsely : Prop := orderKnowsRow.holds Try.pinned (OpenSpec.ofChange orderKnowsWrong)

/-- 'canteenlaw05.OrderCompacts': WHATEVER THE INPUT: true; the input reads as it did. -/
def orderCompactsSpec : ChangeSpec := { name := "orderCompacts", fn := fun _ => fun
  | [d1, d2] => { results := [.lit (.bool true)], args := [d1, d2] }
  | _ => none }
def orderCompactsRow : OpenClaim := { program := "ytoopmancobfjeaa", sum := "62112802d61e37b40bcc0f2b2d2e501b2436fbe1930fb549477d757a83496171", func := "canteen/canteenlaw05.OrderCompacts", spec := "orderCompacts", unfollowed := true, recurses := true, apart := false }
def OrderCompactsSaid : Prop := orderCompactsRow.holds Try.pinned (OpenSpec.ofChange orderCompactsSpec)

/-- ITS FALSE NEIGHBOUR: 'it returns false'. Refute it at one input. -/
def orderCompactsWrong : ChangeSpec := { name := "orderCompacts", fn := fun _ => fun
  | [d1, d2] => { results := [.lit (.bool false)], args := [d1, d2] }
  | _ => none }
def OrderCompactsWrongFalsely : Prop := orderCompactsRow.holds Try.pinned (OpenSpec.ofChange orderCompactsWrong)

/-- 'canteenlaw05.OrderNeeds': WHATEVER THE INPUT: true; the input reads as it did. -/
def orderNeedsSpec : ChangeSpec := { name := "orderNeeds", fn := fun _ => fun
  | [d1, d2] => { results := [.lit (.bool true)], args := [d1, d2] }
  | _ => none }
def orderNeedsRow : OpenClaim := { program := "ytoopmancobfjeaa", sum := "62112802d61e37b40bcc0f2b2d2e501b2436fbe1930fb549477d757a83496171", func := "canteen/canteenlaw05.OrderNeeds", spec := "orderNeeds", unfollowed := true, recurses := true, apart := false }
def OrderNeedsSaid : Prop := orderNeedsRow.holds Try.pinned (OpenSpec.ofChange orderNeedsSpec)

/-- ITS FALSE NEIGHBOUR: 'it returns false'. Refute it at one input. -/
def orderNeedsWrong : ChangeSpec := { name := "orderNeeds", fn := fun _ => fun
  | [d1, d2] => { results := [.lit (.bool false)], args := [d1, d2] }
  | _ => none }
def OrderNeedsWrongFalsely : Prop := orderNeedsRow.holds Try.pinned (OpenSpec.ofChange orderNeedsWrong)

/-- 'canteenlaw05.OrderTells': WHATEVER THE INPUT: true; the input reads as it did. -/
def orderTellsSpec : ChangeSpec := { name := "orderTells", fn := fun _ => fun
  | [d1, d2] => { results := [.lit (.bool true)], args := [d1, d2] }
  | _ => none }
def orderTellsRow : OpenClaim := { program := "ytoopmancobfjeaa", sum := "62112802d61e37b40bcc0f2b2d2e501b2436fbe1930fb549477d757a83496171", func := "canteen/canteenlaw05.OrderTells", spec := "orderTells", unfollowed := true, recurses := true, apart := false }
def OrderTellsSaid : Prop := orderTellsRow.holds Try.pinned (OpenSpec.ofChange orderTellsSpec)

/-- ITS FALSE NEIGHBOUR: 'it returns false'. Refute it at one input. -/
def orderTellsWrong : ChangeSpec := { name := "orderTells", fn := fun _ => fun
  | [d1, d2] => { results := [.lit (.bool false)], args := [d1, d2] }
  | _ => none }
def OrderTellsWrongFalsely : Prop := orderTellsRow.holds Try.pinned (OpenSpec.ofChange orderTellsWrong)

/-- 'canteenlaw05.OrderPays': WHATEVER THE INPUT: true; the input reads as it did. -/
def orderPaysSpec : ChangeSpec := { name := "orderPays", fn := fun _ => fun
  | [d1, d2, d3] => { results := [.lit (.bool true)], args := [d1, d2, d3] }
  | _ => none }
def orderPaysRow : OpenClaim := { program := "ytoopmancobfjeaa", sum := "62112802d61e37b40bcc0f2b2d2e501b2436fbe1930fb549477d757a83496171", func := "canteen/canteenlaw05.OrderPays", spec := "orderPays", unfollowed := true, recurses := true, apart := false }
def OrderPaysSaid : Prop := orderPaysRow.holds Try.pinned (OpenSpec.ofChange orderPaysSpec)

/-- ITS FALSE NEIGHBOUR: 'it returns false'. Refute it at one input. -/
def orderPaysWrong : ChangeSpec := { name := "orderPays", fn := fun _ => fun
  | [d1, d2, d3] => { results := [.lit (.bool false)], args := [d1, d2, d3] }
  | _ => none }
def OrderPaysWrongFalsely : Prop := orderPaysRow.holds Try.pinned (OpenSpec.ofChange orderPaysWrong)

/-- 'canteenlaw05.OrderBills': WHATEVER THE INPUT: true; the input reads as it did. -/
def orderBillsSpec : ChangeSpec := { name := "orderBills", fn := fun _ => fun
  | [d1, d2, d3] => { results := [.lit (.bool true)], args := [d1, d2, d3] }
  | _ => none }
def orderBillsRow : OpenClaim := { program := "ytoopmancobfjeaa", sum := "62112802d61e37b40bcc0f2b2d2e501b2436fbe1930fb549477d757a83496171", func := "canteen/canteenlaw05.OrderBills", spec := "orderBills", unfollowed := true, recurses := true, apart := false }
def OrderBillsSaid : Prop := orderBillsRow.holds Try.pinned (OpenSpec.ofChange orderBillsSpec)

/-- ITS FALSE NEIGHBOUR: 'it returns false'. Refute it at one input. -/
def orderBillsWrong : ChangeSpec := { name := "orderBills", fn := fun _ => fun
  | [d1, d2, d3] => { results := [.lit (.bool false)], args := [d1, d2, d3] }
  | _ => none }
def OrderBillsWrongFalsely : Prop := orderBillsRow.holds Try.pinned (OpenSpec.ofChange orderBillsWrong)

/-- 'canteenlaw05.OrderRights': WHATEVER THE INPUT: true; the input reads as it did. -/
def orderRightsSpec : ChangeSpec := { name := "orderRights", fn := fun _ => fun
  | [d1, d2] => { results := [.lit (.bool true)], args := [d1, d2] }
  | _ => none }
def orderRightsRow : OpenClaim := { program := "ytoopmancobfjeaa", sum := "62112802d61e37b40bcc0f2b2d2e501b2436fbe1930fb549477d757a83496171", func := "canteen/canteenlaw05.OrderRights", spec := "orderRights", unfollowed := true, recurses := true, apart := false }
def OrderRightsSaid : Prop := orderRightsRow.holds Try.pinned (OpenSpec.ofChange orderRightsSpec)

/-- ITS FALSE NEIGHBOUR: 'it returns false'. Refute it at one input. -/
def orderRightsWrong : ChangeSpec := { name := "orderRights", fn := fun _ => fun
  | [d1, d2] => { results := [.lit (.bool false)], args := [d1, d2] }
  | _ => none }
def OrderRightsWrongFalsely : Prop := orderRightsRow.holds Try.pinned (OpenSpec.ofChange orderRightsWrong)

/- THE SECOND FORM. 'bulk': how many values and letters a reading holds, each counted each time it is reached (what is shared counts as often as it is met; a slice's spare places count too). A statement '..UptoSaid' is the law's where the arguments, and the package variables that the reading takes, are together of bulk at most 1048576: NARROWER than '..Said'. Prove '..Said' where nothing that the law and all that it calls make is longer than what came in: it says more and counts as full. Else prove '..UptoSaid'. A law counts once. -/
mutual
def uptoBulk {H : Type} : DataW H → Nat
  | .lit (.string bytes) => bytes.length + 1
  | .lit _ => 1
  | .nil => 1
  | .ptr d => uptoBulk d + 1
  | .slice elems spare => uptoBulkAll elems + uptoBulkAll spare + 1
  | .agg parts => uptoBulkAll parts + 1
  | .iface _ d => uptoBulk d + 1
  | .map entries => uptoBulkEntries entries + 1
  | .held _ => 1
def uptoBulkAll {H : Type} : List (DataW H) → Nat
  | [] => 0
  | d :: r => uptoBulk d + uptoBulkAll r
def uptoBulkEntries {H : Type} : List (Lit × DataW H) → Nat
  | [] => 0
  | x :: r => uptoBulkEntry x + uptoBulkEntries r
def uptoBulkEntry {H : Type} : Lit × DataW H → Nat
  | (.string bytes, d) => bytes.length + uptoBulk d + 1
  | (_, d) => uptoBulk d + 1
 end
def uptoSmall : (H : Type) → List (DataW H) → Bool := fun _ ds => decide (uptoBulkAll ds ≤ 1048576)
def OpenSpec.upto (s : _root_.Go.ChangeSpec) : _root_.Go.OpenSpec := { _root_.Go.OpenSpec.ofChange s with cond := some uptoSmall }

/-- 'canteenlaw05.OrderSpans', WHERE WHAT IT READS IS OF BULK AT MOST 1048576: true; the input reads as it did. -/
def orderSpansUptoRow : OpenClaim := { program := "ytoopmancobfjeaa", sum := "62112802d61e37b40bcc0f2b2d2e501b2436fbe1930fb549477d757a83496171", func := "canteen/canteenlaw05.OrderSpans", spec := "orderSpans", unfollowed := true, recurses := true, apart := false, narrowed := true }
def OrderSpansUptoSaid : Prop := orderSpansUptoRow.holds Try.pinned (OpenSpec.upto orderSpansSpec)

/-- 'canteenlaw05.OrderChanges', WHERE WHAT IT READS IS OF BULK AT MOST 1048576: true; the input reads as it did. -/
def orderChangesUptoRow : OpenClaim := { program := "ytoopmancobfjeaa", sum := "62112802d61e37b40bcc0f2b2d2e501b2436fbe1930fb549477d757a83496171", func := "canteen/canteenlaw05.OrderChanges", spec := "orderChanges", unfollowed := true, recurses := true, apart := false, narrowed := true }
def OrderChangesUptoSaid : Prop := orderChangesUptoRow.holds Try.pinned (OpenSpec.upto orderChangesSpec)

/-- 'canteenlaw05.OrderCounts', WHERE WHAT IT READS IS OF BULK AT MOST 1048576: true; the input reads as it did. -/
def orderCountsUptoRow : OpenClaim := { program := "ytoopmancobfjeaa", sum := "62112802d61e37b40bcc0f2b2d2e501b2436fbe1930fb549477d757a83496171", func := "canteen/canteenlaw05.OrderCounts", spec := "orderCounts", unfollowed := true, recurses := true, apart := false, narrowed := true }
def OrderCountsUptoSaid : Prop := orderCountsUptoRow.holds Try.pinned (OpenSpec.upto orderCountsSpec)

/-- 'canteenlaw05.OrderAdds', WHERE WHAT IT READS IS OF BULK AT MOST 1048576: true; the input reads as it did. -/
def orderAddsUptoRow : OpenClaim := { program := "ytoopmancobfjeaa", sum := "62112802d61e37b40bcc0f2b2d2e501b2436fbe1930fb549477d757a83496171", func := "canteen/canteenlaw05.OrderAdds", spec := "orderAdds", unfollowed := true, recurses := true, apart := false, narrowed := true }
def OrderAddsUptoSaid : Prop := orderAddsUptoRow.holds Try.pinned (OpenSpec.upto orderAddsSpec)

/-- 'canteenlaw05.OrderChildren', WHERE WHAT IT READS IS OF BULK AT MOST 1048576: true; the input reads as it did. -/
def orderChildrenUptoRow : OpenClaim := { program := "ytoopmancobfjeaa", sum := "62112802d61e37b40bcc0f2b2d2e501b2436fbe1930fb549477d757a83496171", func := "canteen/canteenlaw05.OrderChildren", spec := "orderChildren", unfollowed := true, recurses := true, apart := false, narrowed := true }
def OrderChildrenUptoSaid : Prop := orderChildrenUptoRow.holds Try.pinned (OpenSpec.upto orderChildrenSpec)

/-- 'canteenlaw05.OrderKnows', WHERE WHAT IT READS IS OF BULK AT MOST 1048576: true; the input reads as it did. -/
def orderKnowsUptoRow : OpenClaim := { program := "ytoopmancobfjeaa", sum := "62112802d61e37b40bcc0f2b2d2e501b2436fbe1930fb549477d757a83496171", func := "canteen/canteenlaw05.OrderKnows", spec := "orderKnows", unfollowed := true, recurses := true, apart := false, narrowed := true }
def OrderKnowsUptoSaid : Prop := orderKnowsUptoRow.holds Try.pinned (OpenSpec.upto orderKnowsSpec)

/-- 'canteenlaw05.OrderCompacts', WHERE WHAT IT READS IS OF BULK AT MOST 1048576: true; the input reads as it did. -/
def orderCompactsUptoRow : OpenClaim := { program := "ytoopmancobfjeaa", sum := "62112802d61e37b40bcc0f2b2d2e501b2436fbe1930fb549477d757a83496171", func := "canteen/canteenlaw05.OrderCompacts", spec := "orderCompacts", unfollowed := true, recurses := true, apart := false, narrowed := true }
def OrderCompactsUptoSaid : Prop := orderCompactsUptoRow.holds Try.pinned (OpenSpec.upto orderCompactsSpec)

/-- 'canteenlaw05.OrderNeeds', WHERE WHAT IT READS IS OF BULK AT MOST 1048576: true; the input reads as it did. -/
def orderNeedsUptoRow : OpenClaim := { program := "ytoopmancobfjeaa", sum := "62112802d61e37b40bcc0f2b2d2e501b2436fbe1930fb549477d757a83496171", func := "canteen/canteenlaw05.OrderNeeds", spec := "orderNeeds", unfollowed := true, recurses := true, apart := false, narrowed := true }
def OrderNeedsUptoSaid : Prop := orderNeedsUptoRow.holds Try.pinned (OpenSpec.upto orderNeedsSpec)

/-- 'canteenlaw05.OrderTells', WHERE WHAT IT READS IS OF BULK AT MOST 1048576: true; the input reads as it did. -/
def orderTellsUptoRow : OpenClaim := { program := "ytoopmancobfjeaa", sum := "62112802d61e37b40bcc0f2b2d2e501b2436fbe1930fb549477d757a83496171", func := "canteen/canteenlaw05.OrderTells", spec := "orderTells", unfollowed := true, recurses := true, apart := false, narrowed := true }
def OrderTellsUptoSaid : Prop := orderTellsUptoRow.holds Try.pinned (OpenSpec.upto orderTellsSpec)

/-- 'canteenlaw05.OrderPays', WHERE WHAT IT READS IS OF BULK AT MOST 1048576: true; the input reads as it did. -/
def orderPaysUptoRow : OpenClaim := { program := "ytoopmancobfjeaa", sum := "62112802d61e37b40bcc0f2b2d2e501b2436fbe1930fb549477d757a83496171", func := "canteen/canteenlaw05.OrderPays", spec := "orderPays", unfollowed := true, recurses := true, apart := false, narrowed := true }
def OrderPaysUptoSaid : Prop := orderPaysUptoRow.holds Try.pinned (OpenSpec.upto orderPaysSpec)

/-- 'canteenlaw05.OrderBills', WHERE WHAT IT READS IS OF BULK AT MOST 1048576: true; the input reads as it did. -/
def orderBillsUptoRow : OpenClaim := { program := "ytoopmancobfjeaa", sum := "62112802d61e37b40bcc0f2b2d2e501b2436fbe1930fb549477d757a83496171", func := "canteen/canteenlaw05.OrderBills", spec := "orderBills", unfollowed := true, recurses := true, apart := false, narrowed := true }
def OrderBillsUptoSaid : Prop := orderBillsUptoRow.holds Try.pinned (OpenSpec.upto orderBillsSpec)

/-- 'canteenlaw05.OrderRights', WHERE WHAT IT READS IS OF BULK AT MOST 1048576: true; the input reads as it did. -/
def orderRightsUptoRow : OpenClaim := { program := "ytoopmancobfjeaa", sum := "62112802d61e37b40bcc0f2b2d2e501b2436fbe1930fb549477d757a83496171", func := "canteen/canteenlaw05.OrderRights", spec := "orderRights", unfollowed := true, recurses := true, apart := false, narrowed := true }
def OrderRightsUptoSaid : Prop := orderRightsUptoRow.holds Try.pinned (OpenSpec.upto orderRightsSpec)

end Rows
end Go.Proofs.Ytoopmancobfjeaa
