/-
  DERIVED. GIVEN WITH THE SEED: THE CARDS: each row of YtlnmmkgeahlohaaDoorRows.lean that lists a variable, with what it lists TIED to the program's text (the seventh form; the later family's looks); each row that meets fmt, with fmt's text TOLD by the authors' own Lean function (tested against real Go, not proved from fmt's source: count such statements apart). THE CARD IS WHAT COUNTS. Prove the row's statement (the work); the ties are given (YtlnmmkgeahlohaaDoorTie.lean); close each card by the builder's one call (the guide's Derived/Test/ToyasCard.lean, 'card_holds'). Laid BY PROGRAM, IN A SANDBOX (cutbox-door.mjs). By AI agents, Wed Nov 11 2026. No macro, syntax, notation, axiom, sorry.
-/
import Derived.Test.YtlnmmkgeahlohaaDoorRows
import GoSem.ClaimSeven
namespace Go.Proofs.YtlnmmkgeahlohaaDoor
namespace Rows

/-- THE TIED CARD OF 'canteenlaw01.TermTexts'. -/
def termTextsCard : Claim7 := { stood := { row := termTextsRow, standIns := [], harness := (true, "845ac80b56af21ed291b3d4bfb3fd08823cf353e46d7b2254bda7e05339ac8ae"), looks := true }, kinds := [], alts := [], laidByText := true, laidKinds := [.data, .data, .data, .data, .sentinel, .sentinel, .pinned], laidTests := true, laidLooks := .later }
def TermTextsCardSaid : Prop := Claim7.holds Tryd.pinned (.plain (OpenSpec.ofChange termTextsSpec)) termTextsCard

/-- THE SECOND FORM's CARD OF 'canteenlaw01.TermTexts'. -/
def termTextsUptoCard : Claim7 := { stood := { row := termTextsUptoRow, standIns := [], harness := (true, "845ac80b56af21ed291b3d4bfb3fd08823cf353e46d7b2254bda7e05339ac8ae"), looks := true }, kinds := [], alts := [], laidByText := true, laidKinds := [.data, .data, .data, .data, .sentinel, .sentinel, .pinned], laidTests := true, laidLooks := .later }
def TermTextsUptoCardSaid : Prop := Claim7.holds Tryd.pinned (.plain (OpenSpec.upto termTextsSpec)) termTextsUptoCard
end Rows
end Go.Proofs.YtlnmmkgeahlohaaDoor
