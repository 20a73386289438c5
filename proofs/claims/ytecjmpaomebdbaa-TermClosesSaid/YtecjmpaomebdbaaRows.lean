/-
  No cell of these rows narrows 'for every input' (looked for: loops, veiled, ifaces, maps, wideKeys, modest, calm, conditions, laid).
  DERIVED. THE GIVEN ROWS OF THIS SEAT. 14 by the template 'for every input the law returns true; each argument reads behind the call as it read before'; 0 by the template 'total and deterministic' (their statements: YtecjmpaomebdbaaTotals.lean).
  GIVEN WITH THE SEED: the statements are not yours to turn. If you find one false, say at which input.
  Laid BY PROGRAM, IN A SANDBOX (cutbox-rows.mjs): the forced cells as the released guide's own fill.sh prints them over the translation 443d1c904e3747ed… (all of the seat's roots in one cut). By AI agents, Wed Nov 11 2026. No macro, syntax, notation, axiom, sorry.
-/
import Derived.Test.YtecjmpaomebdbaaChecked
import GoSem.Claim
import GoSem.ClaimJoined
import GoSem.ClaimMapViews
import Derived.JoinedTies
import Derived.KernelRfl
namespace Go.Proofs.Ytecjmpaomebdbaa
/- THE CELL 'sum', in the pinned program and in every row, IS THE sha256 OF THE DUMP (.gsa) THAT YtecjmpaomebdbaaProg.lean LOADS. Nothing in Lean hashes anything: it is a label: what it is worth is what the hold of that sum in a sandbox is worth. -/
noncomputable def Try.pinned : Pinned := { name := "ytecjmpaomebdbaa", sum := "443d1c904e3747ed99fefdde4dfbbf1a52221d6b1db1371072453e5692f850f5", checked := Try.checked }
namespace Rows
def none {H : Type} : Left H := { results := [], args := [] }

/-- 'canteenlaw01.TermMenus': WHATEVER THE INPUT: true; the input reads as it did. -/
def termMenusSpec : ChangeSpec := { name := "termMenus", fn := fun _ => fun
  | [d1, d2, d3] => { results := [.lit (.bool true)], args := [d1, d2, d3] }
  | _ => none }
def termMenusRow : OpenClaim := { program := "ytecjmpaomebdbaa", sum := "443d1c904e3747ed99fefdde4dfbbf1a52221d6b1db1371072453e5692f850f5", func := "canteen/canteenlaw01.TermMenus", spec := "termMenus", apart := false }
def TermMenusSaid : Prop := termMenusRow.holds Try.pinned (OpenSpec.ofChange termMenusSpec)

/-- ITS FALSE NEIGHBOUR: 'it returns false'. Refute it at one input. -/
def termMenusWrong : ChangeSpec := { name := "termMenus", fn := fun _ => fun
  | [d1, d2, d3] => { results := [.lit (.bool false)], args := [d1, d2, d3] }
  | _ => none }
def TermMenusWrongFalsely : Prop := termMenusRow.holds Try.pinned (OpenSpec.ofChange termMenusWrong)

/-- 'canteentop.TopDays': WHATEVER THE INPUT: true; the input reads as it did. -/
def topDaysSpec : ChangeSpec := { name := "topDays", fn := fun _ => fun
  | [d1, d2, d3] => { results := [.lit (.bool true)], args := [d1, d2, d3] }
  | _ => none }
def topDaysRow : OpenClaim := { program := "ytecjmpaomebdbaa", sum := "443d1c904e3747ed99fefdde4dfbbf1a52221d6b1db1371072453e5692f850f5", func := "canteen/canteentop.TopDays", spec := "topDays", inPlace := ["slices.overlaps[int]"], unfollowed := true, recurses := true, apart := false }
def TopDaysSaid : Prop := topDaysRow.holds Try.pinned (OpenSpec.ofChange topDaysSpec)

/-- ITS FALSE NEIGHBOUR: 'it returns false'. Refute it at one input. -/
def topDaysWrong : ChangeSpec := { name := "topDays", fn := fun _ => fun
  | [d1, d2, d3] => { results := [.lit (.bool false)], args := [d1, d2, d3] }
  | _ => none }
def TopDaysWrongFalsely : Prop := topDaysRow.holds Try.pinned (OpenSpec.ofChange topDaysWrong)

/-- 'canteenlaw01.TermSolves': WHATEVER THE INPUT: true; the input reads as it did. -/
def termSolvesSpec : ChangeSpec := { name := "termSolves", fn := fun _ => fun
  | [d] => { results := [.lit (.bool true)], args := [d] }
  | _ => none }
def termSolvesRow : OpenClaim := { program := "ytecjmpaomebdbaa", sum := "443d1c904e3747ed99fefdde4dfbbf1a52221d6b1db1371072453e5692f850f5", func := "canteen/canteenlaw01.TermSolves", spec := "termSolves", apart := false }
def TermSolvesSaid : Prop := termSolvesRow.holds Try.pinned (OpenSpec.ofChange termSolvesSpec)

/-- ITS FALSE NEIGHBOUR: 'it returns false'. Refute it at one input. -/
def termSolvesWrong : ChangeSpec := { name := "termSolves", fn := fun _ => fun
  | [d] => { results := [.lit (.bool false)], args := [d] }
  | _ => none }
def TermSolvesWrongFalsely : Prop := termSolvesRow.holds Try.pinned (OpenSpec.ofChange termSolvesWrong)

/-- 'canteenlaw01.TermSolvesAll': WHATEVER THE INPUT: true; the input reads as it did. -/
def termSolvesAllSpec : ChangeSpec := { name := "termSolvesAll", fn := fun _ => fun
  | [d1, d2] => { results := [.lit (.bool true)], args := [d1, d2] }
  | _ => none }
def termSolvesAllRow : OpenClaim := { program := "ytecjmpaomebdbaa", sum := "443d1c904e3747ed99fefdde4dfbbf1a52221d6b1db1371072453e5692f850f5", func := "canteen/canteenlaw01.TermSolvesAll", spec := "termSolvesAll", apart := false }
def TermSolvesAllSaid : Prop := termSolvesAllRow.holds Try.pinned (OpenSpec.ofChange termSolvesAllSpec)

/-- ITS FALSE NEIGHBOUR: 'it returns false'. Refute it at one input. -/
def termSolvesAllWrong : ChangeSpec := { name := "termSolvesAll", fn := fun _ => fun
  | [d1, d2] => { results := [.lit (.bool false)], args := [d1, d2] }
  | _ => none }
def TermSolvesAllWrongFalsely : Prop := termSolvesAllRow.holds Try.pinned (OpenSpec.ofChange termSolvesAllWrong)

/-- 'canteenlaw01.TermValidates': WHATEVER THE INPUT: true; the input reads as it did. -/
def termValidatesSpec : ChangeSpec := { name := "termValidates", fn := fun _ => fun
  | [d1, d2, d3] => { results := [.lit (.bool true)], args := [d1, d2, d3] }
  | _ => none }
def termValidatesRow : OpenClaim := { program := "ytecjmpaomebdbaa", sum := "443d1c904e3747ed99fefdde4dfbbf1a52221d6b1db1371072453e5692f850f5", func := "canteen/canteenlaw01.TermValidates", spec := "termValidates", apart := false }
def TermValidatesSaid : Prop := termValidatesRow.holds Try.pinned (OpenSpec.ofChange termValidatesSpec)

/-- ITS FALSE NEIGHBOUR: 'it returns false'. Refute it at one input. -/
def termValidatesWrong : ChangeSpec := { name := "termValidates", fn := fun _ => fun
  | [d1, d2, d3] => { results := [.lit (.bool false)], args := [d1, d2, d3] }
  | _ => none }
def TermValidatesWrongFalsely : Prop := termValidatesRow.holds Try.pinned (OpenSpec.ofChange termValidatesWrong)

/-- 'canteenlaw01.TermTurns': WHATEVER THE INPUT: true; the input reads as it did. -/
def termTurnsSpec : ChangeSpec := { name := "termTurns", fn := fun _ => fun
  | [d1, d2, d3] => { results := [.lit (.bool true)], args := [d1, d2, d3] }
  | _ => none }
def termTurnsRow : OpenClaim := { program := "ytecjmpaomebdbaa", sum := "443d1c904e3747ed99fefdde4dfbbf1a52221d6b1db1371072453e5692f850f5", func := "canteen/canteenlaw01.TermTurns", spec := "termTurns", apart := false }
def TermTurnsSaid : Prop := termTurnsRow.holds Try.pinned (OpenSpec.ofChange termTurnsSpec)

/-- ITS FALSE NEIGHBOUR: 'it returns false'. Refute it at one input. -/
def termTurnsWrong : ChangeSpec := { name := "termTurns", fn := fun _ => fun
  | [d1, d2, d3] => { results := [.lit (.bool false)], args := [d1, d2, d3] }
  | _ => none }
def TermTurnsWrongFalsely : Prop := termTurnsRow.holds Try.pinned (OpenSpec.ofChange termTurnsWrong)

/-- 'canteenlaw01.TermTogether': WHATEVER THE INPUT: true; the input reads as it did. -/
def termTogetherSpec : ChangeSpec := { name := "termTogether", fn := fun _ => fun
  | [d1, d2, d3] => { results := [.lit (.bool true)], args := [d1, d2, d3] }
  | _ => none }
def termTogetherRow : OpenClaim := { program := "ytecjmpaomebdbaa", sum := "443d1c904e3747ed99fefdde4dfbbf1a52221d6b1db1371072453e5692f850f5", func := "canteen/canteenlaw01.TermTogether", spec := "termTogether", apart := false }
def TermTogetherSaid : Prop := termTogetherRow.holds Try.pinned (OpenSpec.ofChange termTogetherSpec)

/-- ITS FALSE NEIGHBOUR: 'it returns false'. Refute it at one input. -/
def termTogetherWrong : ChangeSpec := { name := "termTogether", fn := fun _ => fun
  | [d1, d2, d3] => { results := [.lit (.bool false)], args := [d1, d2, d3] }
  | _ => none }
def TermTogetherWrongFalsely : Prop := termTogetherRow.holds Try.pinned (OpenSpec.ofChange termTogetherWrong)

/-- 'canteenlaw01.TermMeets': WHATEVER THE INPUT: true; the input reads as it did. -/
def termMeetsSpec : ChangeSpec := { name := "termMeets", fn := fun _ => fun
  | [d1, d2, d3] => { results := [.lit (.bool true)], args := [d1, d2, d3] }
  | _ => none }
def termMeetsRow : OpenClaim := { program := "ytecjmpaomebdbaa", sum := "443d1c904e3747ed99fefdde4dfbbf1a52221d6b1db1371072453e5692f850f5", func := "canteen/canteenlaw01.TermMeets", spec := "termMeets", apart := false }
def TermMeetsSaid : Prop := termMeetsRow.holds Try.pinned (OpenSpec.ofChange termMeetsSpec)

/-- ITS FALSE NEIGHBOUR: 'it returns false'. Refute it at one input. -/
def termMeetsWrong : ChangeSpec := { name := "termMeets", fn := fun _ => fun
  | [d1, d2, d3] => { results := [.lit (.bool false)], args := [d1, d2, d3] }
  | _ => none }
def TermMeetsWrongFalsely : Prop := termMeetsRow.holds Try.pinned (OpenSpec.ofChange termMeetsWrong)

/-- 'canteenlaw01.TermCounts': WHATEVER THE INPUT: true; the input reads as it did. -/
def termCountsSpec : ChangeSpec := { name := "termCounts", fn := fun _ => fun
  | [d1, d2, d3] => { results := [.lit (.bool true)], args := [d1, d2, d3] }
  | _ => none }
def termCountsRow : OpenClaim := { program := "ytecjmpaomebdbaa", sum := "443d1c904e3747ed99fefdde4dfbbf1a52221d6b1db1371072453e5692f850f5", func := "canteen/canteenlaw01.TermCounts", spec := "termCounts", unfollowed := true, recurses := true, apart := false }
def TermCountsSaid : Prop := termCountsRow.holds Try.pinned (OpenSpec.ofChange termCountsSpec)

/-- ITS FALSE NEIGHBOUR: 'it returns false'. Refute it at one input. -/
def termCountsWrong : ChangeSpec := { name := "termCounts", fn := fun _ => fun
  | [d1, d2, d3] => { results := [.lit (.bool false)], args := [d1, d2, d3] }
  | _ => none }
def TermCountsWrongFalsely : Prop := termCountsRow.holds Try.pinned (OpenSpec.ofChange termCountsWrong)

/-- 'canteenlaw01.TermEven': WHATEVER THE INPUT: true; the input reads as it did. -/
def termEvenSpec : ChangeSpec := { name := "termEven", fn := fun _ => fun
  | [d1, d2] => { results := [.lit (.bool true)], args := [d1, d2] }
  | _ => none }
def termEvenRow : OpenClaim := { program := "ytecjmpaomebdbaa", sum := "443d1c904e3747ed99fefdde4dfbbf1a52221d6b1db1371072453e5692f850f5", func := "canteen/canteenlaw01.TermEven", spec := "termEven", unfollowed := true, recurses := true, apart := false }
def TermEvenSaid : Prop := termEvenRow.holds Try.pinned (OpenSpec.ofChange termEvenSpec)

/-- ITS FALSE NEIGHBOUR: 'it returns false'. Refute it at one input. -/
def termEvenWrong : ChangeSpec := { name := "termEven", fn := fun _ => fun
  | [d1, d2] => { results := [.lit (.bool false)], args := [d1, d2] }
  | _ => none }
def TermEvenWrongFalsely : Prop := termEvenRow.holds Try.pinned (OpenSpec.ofChange termEvenWrong)

/-- 'canteenlaw01.TermDays': WHATEVER THE INPUT: true; the input reads as it did. -/
def termDaysSpec : ChangeSpec := { name := "termDays", fn := fun _ => fun
  | [d1, d2, d3] => { results := [.lit (.bool true)], args := [d1, d2, d3] }
  | _ => none }
def termDaysRow : OpenClaim := { program := "ytecjmpaomebdbaa", sum := "443d1c904e3747ed99fefdde4dfbbf1a52221d6b1db1371072453e5692f850f5", func := "canteen/canteenlaw01.TermDays", spec := "termDays", apart := false }
def TermDaysSaid : Prop := termDaysRow.holds Try.pinned (OpenSpec.ofChange termDaysSpec)

/-- ITS FALSE NEIGHBOUR: 'it returns false'. Refute it at one input. -/
def termDaysWrong : ChangeSpec := { name := "termDays", fn := fun _ => fun
  | [d1, d2, d3] => { results := [.lit (.bool false)], args := [d1, d2, d3] }
  | _ => none }
def TermDaysWrongFalsely : Prop := termDaysRow.holds Try.pinned (OpenSpec.ofChange termDaysWrong)

/-- 'canteenlaw01.TermNumbers': WHATEVER THE INPUT: true; the input reads as it did. -/
def termNumbersSpec : ChangeSpec := { name := "termNumbers", fn := fun _ => fun
  | [d1, d2, d3] => { results := [.lit (.bool true)], args := [d1, d2, d3] }
  | _ => none }
def termNumbersRow : OpenClaim := { program := "ytecjmpaomebdbaa", sum := "443d1c904e3747ed99fefdde4dfbbf1a52221d6b1db1371072453e5692f850f5", func := "canteen/canteenlaw01.TermNumbers", spec := "termNumbers", unfollowed := true, recurses := true, apart := false }
def TermNumbersSaid : Prop := termNumbersRow.holds Try.pinned (OpenSpec.ofChange termNumbersSpec)

/-- ITS FALSE NEIGHBOUR: 'it returns false'. Refute it at one input. -/
def termNumbersWrong : ChangeSpec := { name := "termNumbers", fn := fun _ => fun
  | [d1, d2, d3] => { results := [.lit (.bool false)], args := [d1, d2, d3] }
  | _ => none }
def TermNumbersWrongFalsely : Prop := termNumbersRow.holds Try.pinned (OpenSpec.ofChange termNumbersWrong)

/-- 'canteenlaw01.TermClosesOne': WHATEVER THE INPUT: true; the input reads as it did. -/
def termClosesOneSpec : ChangeSpec := { name := "termClosesOne", fn := fun _ => fun
  | [d1, d2, d3] => { results := [.lit (.bool true)], args := [d1, d2, d3] }
  | _ => none }
def termClosesOneRow : OpenClaim := { program := "ytecjmpaomebdbaa", sum := "443d1c904e3747ed99fefdde4dfbbf1a52221d6b1db1371072453e5692f850f5", func := "canteen/canteenlaw01.TermClosesOne", spec := "termClosesOne", inPlace := ["slices.overlaps[int]"], apart := false }
def TermClosesOneSaid : Prop := termClosesOneRow.holds Try.pinned (OpenSpec.ofChange termClosesOneSpec)

/-- ITS FALSE NEIGHBOUR: 'it returns false'. Refute it at one input. -/
def termClosesOneWrong : ChangeSpec := { name := "termClosesOne", fn := fun _ => fun
  | [d1, d2, d3] => { results := [.lit (.bool false)], args := [d1, d2, d3] }
  | _ => none }
def TermClosesOneWrongFalsely : Prop := termClosesOneRow.holds Try.pinned (OpenSpec.ofChange termClosesOneWrong)

/-- 'canteenlaw01.TermCloses': WHATEVER THE INPUT: true; the input reads as it did. -/
def termClosesSpec : ChangeSpec := { name := "termCloses", fn := fun _ => fun
  | [d1, d2] => { results := [.lit (.bool true)], args := [d1, d2] }
  | _ => none }
def termClosesRow : OpenClaim := { program := "ytecjmpaomebdbaa", sum := "443d1c904e3747ed99fefdde4dfbbf1a52221d6b1db1371072453e5692f850f5", func := "canteen/canteenlaw01.TermCloses", spec := "termCloses", inPlace := ["slices.overlaps[int]"], apart := false }
def TermClosesSaid : Prop := termClosesRow.holds Try.pinned (OpenSpec.ofChange termClosesSpec)

/-- ITS FALSE NEIGHBOUR: 'it returns false'. Refute it at one input. -/
def termClosesWrong : ChangeSpec := { name := "termCloses", fn := fun _ => fun
  | [d1, d2] => { results := [.lit (.bool false)], args := [d1, d2] }
  | _ => none }
def TermClosesWrongFalsely : Prop := termClosesRow.holds Try.pinned (OpenSpec.ofChange termClosesWrong)

/- THE SECOND FORM. 'bulk': how many values and letters a reading holds, each counted each time it is reached (what is shared counts as often as it is met; a slice's spare places count too). A statement '..UptoSaid' is the law's where the arguments, and the package variables that the reading takes, are together of bulk at most 1048576: NARROWER than '..Said'. Prove '..Said' where nothing that the law and all that it calls make is longer than what came in: it says more and counts as full. Else prove '..UptoSaid'. A law counts once. -/
mutual
def uptoBulk {H : Type} : DataW H → Nat
  | .lit (.string bytes) => bytes.length + 1
  | .lit _ => 1
  | .nil => 1
  | .ptr d => uptoBulk d + 1
  | .slice elems spare => uptoBulkAll elems + uptoBulkAll spare + 1
  | .agg parts => uptoBulkAll parts + 1
  | .iface _ d => uptoBulk d + 1
  | .map entries => uptoBulkEntries entries + 1
  | .held _ => 1
def uptoBulkAll {H : Type} : List (DataW H) → Nat
  | [] => 0
  | d :: r => uptoBulk d + uptoBulkAll r
def uptoBulkEntries {H : Type} : List (Lit × DataW H) → Nat
  | [] => 0
  | x :: r => uptoBulkEntry x + uptoBulkEntries r
def uptoBulkEntry {H : Type} : Lit × DataW H → Nat
  | (.string bytes, d) => bytes.length + uptoBulk d + 1
  | (_, d) => uptoBulk d + 1
 end
def uptoSmall : (H : Type) → List (DataW H) → Bool := fun _ ds => decide (uptoBulkAll ds ≤ 1048576)
def OpenSpec.upto (s : _root_.Go.ChangeSpec) : _root_.Go.OpenSpec := { _root_.Go.OpenSpec.ofChange s with cond := some uptoSmall }

/-- 'canteenlaw01.TermMenus', WHERE WHAT IT READS IS OF BULK AT MOST 1048576: true; the input reads as it did. -/
def termMenusUptoRow : OpenClaim := { program := "ytecjmpaomebdbaa", sum := "443d1c904e3747ed99fefdde4dfbbf1a52221d6b1db1371072453e5692f850f5", func := "canteen/canteenlaw01.TermMenus", spec := "termMenus", apart := false, narrowed := true }
def TermMenusUptoSaid : Prop := termMenusUptoRow.holds Try.pinned (OpenSpec.upto termMenusSpec)

/-- 'canteentop.TopDays', WHERE WHAT IT READS IS OF BULK AT MOST 1048576: true; the input reads as it did. -/
def topDaysUptoRow : OpenClaim := { program := "ytecjmpaomebdbaa", sum := "443d1c904e3747ed99fefdde4dfbbf1a52221d6b1db1371072453e5692f850f5", func := "canteen/canteentop.TopDays", spec := "topDays", inPlace := ["slices.overlaps[int]"], unfollowed := true, recurses := true, apart := false, narrowed := true }
def TopDaysUptoSaid : Prop := topDaysUptoRow.holds Try.pinned (OpenSpec.upto topDaysSpec)

/-- 'canteenlaw01.TermSolves', WHERE WHAT IT READS IS OF BULK AT MOST 1048576: true; the input reads as it did. -/
def termSolvesUptoRow : OpenClaim := { program := "ytecjmpaomebdbaa", sum := "443d1c904e3747ed99fefdde4dfbbf1a52221d6b1db1371072453e5692f850f5", func := "canteen/canteenlaw01.TermSolves", spec := "termSolves", apart := false, narrowed := true }
def TermSolvesUptoSaid : Prop := termSolvesUptoRow.holds Try.pinned (OpenSpec.upto termSolvesSpec)

/-- 'canteenlaw01.TermSolvesAll', WHERE WHAT IT READS IS OF BULK AT MOST 1048576: true; the input reads as it did. -/
def termSolvesAllUptoRow : OpenClaim := { program := "ytecjmpaomebdbaa", sum := "443d1c904e3747ed99fefdde4dfbbf1a52221d6b1db1371072453e5692f850f5", func := "canteen/canteenlaw01.TermSolvesAll", spec := "termSolvesAll", apart := false, narrowed := true }
def TermSolvesAllUptoSaid : Prop := termSolvesAllUptoRow.holds Try.pinned (OpenSpec.upto termSolvesAllSpec)

/-- 'canteenlaw01.TermValidates', WHERE WHAT IT READS IS OF BULK AT MOST 1048576: true; the input reads as it did. -/
def termValidatesUptoRow : OpenClaim := { program := "ytecjmpaomebdbaa", sum := "443d1c904e3747ed99fefdde4dfbbf1a52221d6b1db1371072453e5692f850f5", func := "canteen/canteenlaw01.TermValidates", spec := "termValidates", apart := false, narrowed := true }
def TermValidatesUptoSaid : Prop := termValidatesUptoRow.holds Try.pinned (OpenSpec.upto termValidatesSpec)

/-- 'canteenlaw01.TermTurns', WHERE WHAT IT READS IS OF BULK AT MOST 1048576: true; the input reads as it did. -/
def termTurnsUptoRow : OpenClaim := { program := "ytecjmpaomebdbaa", sum := "443d1c904e3747ed99fefdde4dfbbf1a52221d6b1db1371072453e5692f850f5", func := "canteen/canteenlaw01.TermTurns", spec := "termTurns", apart := false, narrowed := true }
def TermTurnsUptoSaid : Prop := termTurnsUptoRow.holds Try.pinned (OpenSpec.upto termTurnsSpec)

/-- 'canteenlaw01.TermTogether', WHERE WHAT IT READS IS OF BULK AT MOST 1048576: true; the input reads as it did. -/
def termTogetherUptoRow : OpenClaim := { program := "ytecjmpaomebdbaa", sum := "443d1c904e3747ed99fefdde4dfbbf1a52221d6b1db1371072453e5692f850f5", func := "canteen/canteenlaw01.TermTogether", spec := "termTogether", apart := false, narrowed := true }
def TermTogetherUptoSaid : Prop := termTogetherUptoRow.holds Try.pinned (OpenSpec.upto termTogetherSpec)

/-- 'canteenlaw01.TermMeets', WHERE WHAT IT READS IS OF BULK AT MOST 1048576: true; the input reads as it did. -/
def termMeetsUptoRow : OpenClaim := { program := "ytecjmpaomebdbaa", sum := "443d1c904e3747ed99fefdde4dfbbf1a52221d6b1db1371072453e5692f850f5", func := "canteen/canteenlaw01.TermMeets", spec := "termMeets", apart := false, narrowed := true }
def TermMeetsUptoSaid : Prop := termMeetsUptoRow.holds Try.pinned (OpenSpec.upto termMeetsSpec)

/-- 'canteenlaw01.TermCounts', WHERE WHAT IT READS IS OF BULK AT MOST 1048576: true; the input reads as it did. -/
def termCountsUptoRow : OpenClaim := { program := "ytecjmpaomebdbaa", sum := "443d1c904e3747ed99fefdde4dfbbf1a52221d6b1db1371072453e5692f850f5", func := "canteen/canteenlaw01.TermCounts", spec := "termCounts", unfollowed := true, recurses := true, apart := false, narrowed := true }
def TermCountsUptoSaid : Prop := termCountsUptoRow.holds Try.pinned (OpenSpec.upto termCountsSpec)

/-- 'canteenlaw01.TermEven', WHERE WHAT IT READS IS OF BULK AT MOST 1048576: true; the input reads as it did. -/
def termEvenUptoRow : OpenClaim := { program := "ytecjmpaomebdbaa", sum := "443d1c904e3747ed99fefdde4dfbbf1a52221d6b1db1371072453e5692f850f5", func := "canteen/canteenlaw01.TermEven", spec := "termEven", unfollowed := true, recurses := true, apart := false, narrowed := true }
def TermEvenUptoSaid : Prop := termEvenUptoRow.holds Try.pinned (OpenSpec.upto termEvenSpec)

/-- 'canteenlaw01.TermDays', WHERE WHAT IT READS IS OF BULK AT MOST 1048576: true; the input reads as it did. -/
def termDaysUptoRow : OpenClaim := { program := "ytecjmpaomebdbaa", sum := "443d1c904e3747ed99fefdde4dfbbf1a52221d6b1db1371072453e5692f850f5", func := "canteen/canteenlaw01.TermDays", spec := "termDays", apart := false, narrowed := true }
def TermDaysUptoSaid : Prop := termDaysUptoRow.holds Try.pinned (OpenSpec.upto termDaysSpec)

/-- 'canteenlaw01.TermNumbers', WHERE WHAT IT READS IS OF BULK AT MOST 1048576: true; the input reads as it did. -/
def termNumbersUptoRow : OpenClaim := { program := "ytecjmpaomebdbaa", sum := "443d1c904e3747ed99fefdde4dfbbf1a52221d6b1db1371072453e5692f850f5", func := "canteen/canteenlaw01.TermNumbers", spec := "termNumbers", unfollowed := true, recurses := true, apart := false, narrowed := true }
def TermNumbersUptoSaid : Prop := termNumbersUptoRow.holds Try.pinned (OpenSpec.upto termNumbersSpec)

/-- 'canteenlaw01.TermClosesOne', WHERE WHAT IT READS IS OF BULK AT MOST 1048576: true; the input reads as it did. -/
def termClosesOneUptoRow : OpenClaim := { program := "ytecjmpaomebdbaa", sum := "443d1c904e3747ed99fefdde4dfbbf1a52221d6b1db1371072453e5692f850f5", func := "canteen/canteenlaw01.TermClosesOne", spec := "termClosesOne", inPlace := ["slices.overlaps[int]"], apart := false, narrowed := true }
def TermClosesOneUptoSaid : Prop := termClosesOneUptoRow.holds Try.pinned (OpenSpec.upto termClosesOneSpec)

/-- 'canteenlaw01.TermCloses', WHERE WHAT IT READS IS OF BULK AT MOST 1048576: true; the input reads as it did. -/
def termClosesUptoRow : OpenClaim := { program := "ytecjmpaomebdbaa", sum := "443d1c904e3747ed99fefdde4dfbbf1a52221d6b1db1371072453e5692f850f5", func := "canteen/canteenlaw01.TermCloses", spec := "termCloses", inPlace := ["slices.overlaps[int]"], apart := false, narrowed := true }
def TermClosesUptoSaid : Prop := termClosesUptoRow.holds Try.pinned (OpenSpec.upto termClosesSpec)

end Rows
end Go.Proofs.Ytecjmpaomebdbaa
