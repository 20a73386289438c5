/-
  DERIVED. GIVEN WITH THE SEED: THE CARDS: each row of YtiapkffihpgdcaaGreatDoorRows.lean that lists a variable, with what it lists TIED to the program's text (the seventh form; the later family's looks); each row that meets fmt, with fmt's text TOLD by the authors' own Lean function (tested against real Go, not proved from fmt's source: count such statements apart). THE CARD IS WHAT COUNTS. Prove the row's statement (the work); the ties are given (YtiapkffihpgdcaaGreatDoorTie.lean); close each card by the builder's one call (the guide's Derived/Test/ToyasCard.lean, 'card_holds'). Laid BY PROGRAM, IN A SANDBOX (cutbox-door.mjs). By AI agents, Wed Nov 11 2026. No macro, syntax, notation, axiom, sorry.
-/
import Derived.Test.YtiapkffihpgdcaaGreatDoorRows
import GoSem.ClaimSeven
namespace Go.Proofs.YtiapkffihpgdcaaGreatDoor
namespace Rows

/-- THE TIED CARD OF 'canteentop.TopHarm'. -/
def topHarmCard : Claim7 := { stood := { row := topHarmRow, standIns := [], harness := (true, "5a9a52965f4185065c0d39a39ec58f829537e604a07fc4f1dbce9d7d2d17f592"), looks := true }, kinds := [], alts := [], laidByText := true, laidKinds := [.data, .data, .data, .handle, .pinned], laidTests := true, laidLooks := .later }
def TopHarmCardSaid : Prop := Claim7.holds Tryz.pinned (.plain (OpenSpec.ofChange topHarmSpec)) topHarmCard

/-- THE TIED CARD OF 'canteentop.TopDue'. -/
def topDueCard : Claim7 := { stood := { row := topDueRow, standIns := [], harness := (true, "5a9a52965f4185065c0d39a39ec58f829537e604a07fc4f1dbce9d7d2d17f592"), looks := true }, kinds := [], alts := [], laidByText := true, laidKinds := [.data, .data, .data, .handle, .pinned], laidTests := true, laidLooks := .later }
def TopDueCardSaid : Prop := Claim7.holds Tryz.pinned (.plain (OpenSpec.ofChange topDueSpec)) topDueCard

/-- THE TIED CARD OF 'canteenlaw09.OfficeReads'. -/
def officeReadsCard : Claim7 := { stood := { row := officeReadsRow, standIns := [], harness := (true, "5a9a52965f4185065c0d39a39ec58f829537e604a07fc4f1dbce9d7d2d17f592"), looks := true }, kinds := [], alts := [], laidByText := true, laidKinds := [.data, .data, .data, .handle, .pinned], laidTests := true, laidLooks := .later }
def OfficeReadsCardSaid : Prop := Claim7.holds Tryz.pinned (.plain (OpenSpec.ofChange officeReadsSpec)) officeReadsCard

/-- THE TIED CARD OF 'canteenlaw09.OfficeHarms'. -/
def officeHarmsCard : Claim7 := { stood := { row := officeHarmsRow, standIns := [], harness := (true, "5a9a52965f4185065c0d39a39ec58f829537e604a07fc4f1dbce9d7d2d17f592"), looks := true }, kinds := [], alts := [], laidByText := true, laidKinds := [.data, .data, .data, .handle, .pinned], laidTests := true, laidLooks := .later }
def OfficeHarmsCardSaid : Prop := Claim7.holds Tryz.pinned (.plain (OpenSpec.ofChange officeHarmsSpec)) officeHarmsCard

/-- THE TIED CARD OF 'canteenlaw09.OfficeTells'. -/
def officeTellsCard : Claim7 := { stood := { row := officeTellsRow, standIns := [], harness := (true, "5a9a52965f4185065c0d39a39ec58f829537e604a07fc4f1dbce9d7d2d17f592"), looks := true }, kinds := [], alts := [], laidByText := true, laidKinds := [.data, .data, .data, .handle, .pinned], laidTests := true, laidLooks := .later }
def OfficeTellsCardSaid : Prop := Claim7.holds Tryz.pinned (.plain (OpenSpec.ofChange officeTellsSpec)) officeTellsCard

/-- THE TIED CARD OF 'canteenlaw09.OfficeCounts'. -/
def officeCountsCard : Claim7 := { stood := { row := officeCountsRow, standIns := [], harness := (true, "5a9a52965f4185065c0d39a39ec58f829537e604a07fc4f1dbce9d7d2d17f592"), looks := true }, kinds := [], alts := [], laidByText := true, laidKinds := [.data, .data, .data, .handle, .pinned], laidTests := true, laidLooks := .later }
def OfficeCountsCardSaid : Prop := Claim7.holds Tryz.pinned (.plain (OpenSpec.ofChange officeCountsSpec)) officeCountsCard

/-- THE TIED CARD OF 'canteenlaw09.OfficeLabels'. -/
def officeLabelsCard : Claim7 := { stood := { row := officeLabelsRow, standIns := [], harness := (true, "5a9a52965f4185065c0d39a39ec58f829537e604a07fc4f1dbce9d7d2d17f592"), looks := true }, kinds := [], alts := [], laidByText := true, laidKinds := [.data, .data, .data, .handle, .pinned], laidTests := true, laidLooks := .later }
def OfficeLabelsCardSaid : Prop := Claim7.holds Tryz.pinned (.plain (OpenSpec.ofChange officeLabelsSpec)) officeLabelsCard

/-- THE TIED CARD OF 'canteenlaw09.OfficeRuns'. -/
def officeRunsCard : Claim7 := { stood := { row := officeRunsRow, standIns := [], harness := (true, "5a9a52965f4185065c0d39a39ec58f829537e604a07fc4f1dbce9d7d2d17f592"), looks := true }, kinds := [], alts := [], laidByText := true, laidKinds := [.data, .data, .data, .handle, .pinned], laidTests := true, laidLooks := .later }
def OfficeRunsCardSaid : Prop := Claim7.holds Tryz.pinned (.plain (OpenSpec.ofChange officeRunsSpec)) officeRunsCard

/-- THE TIED CARD OF 'canteenlaw09.OfficeOrders'. -/
def officeOrdersCard : Claim7 := { stood := { row := officeOrdersRow, standIns := [], harness := (true, "5a9a52965f4185065c0d39a39ec58f829537e604a07fc4f1dbce9d7d2d17f592"), looks := true }, kinds := [], alts := [], laidByText := true, laidKinds := [.data, .data, .data, .handle, .pinned], laidTests := true, laidLooks := .later }
def OfficeOrdersCardSaid : Prop := Claim7.holds Tryz.pinned (.plain (OpenSpec.ofChange officeOrdersSpec)) officeOrdersCard

/-- THE TIED CARD OF 'canteenlaw09.OfficeRefuses'. -/
def officeRefusesCard : Claim7 := { stood := { row := officeRefusesRow, standIns := [], harness := (true, "5a9a52965f4185065c0d39a39ec58f829537e604a07fc4f1dbce9d7d2d17f592"), looks := true }, kinds := [], alts := [], laidByText := true, laidKinds := [.data, .data, .data, .handle, .pinned], laidTests := true, laidLooks := .later }
def OfficeRefusesCardSaid : Prop := Claim7.holds Tryz.pinned (.plain (OpenSpec.ofChange officeRefusesSpec)) officeRefusesCard

/-- THE TIED CARD OF 'canteenlaw09.OfficeReplays'. -/
def officeReplaysCard : Claim7 := { stood := { row := officeReplaysRow, standIns := [], harness := (true, "5a9a52965f4185065c0d39a39ec58f829537e604a07fc4f1dbce9d7d2d17f592"), looks := true }, kinds := [], alts := [], laidByText := true, laidKinds := [.data, .data, .data, .handle, .pinned], laidTests := true, laidLooks := .later }
def OfficeReplaysCardSaid : Prop := Claim7.holds Tryz.pinned (.plain (OpenSpec.ofChange officeReplaysSpec)) officeReplaysCard

/-- THE TIED CARD OF 'canteenlaw09.OfficeBooks'. -/
def officeBooksCard : Claim7 := { stood := { row := officeBooksRow, standIns := [], harness := (true, "5a9a52965f4185065c0d39a39ec58f829537e604a07fc4f1dbce9d7d2d17f592"), looks := true }, kinds := [], alts := [], laidByText := true, laidKinds := [.data, .data, .data, .handle, .pinned], laidTests := true, laidLooks := .later }
def OfficeBooksCardSaid : Prop := Claim7.holds Tryz.pinned (.plain (OpenSpec.ofChange officeBooksSpec)) officeBooksCard

/-- THE TIED CARD OF 'canteenlaw09.OfficeAudits'. -/
def officeAuditsCard : Claim7 := { stood := { row := officeAuditsRow, standIns := [], harness := (true, "5a9a52965f4185065c0d39a39ec58f829537e604a07fc4f1dbce9d7d2d17f592"), looks := true }, kinds := [], alts := [], laidByText := true, laidKinds := [.data, .data, .data, .handle, .pinned], laidTests := true, laidLooks := .later }
def OfficeAuditsCardSaid : Prop := Claim7.holds Tryz.pinned (.plain (OpenSpec.ofChange officeAuditsSpec)) officeAuditsCard

/-- THE TIED CARD OF 'canteenlaw09.OfficeCancels'. -/
def officeCancelsCard : Claim7 := { stood := { row := officeCancelsRow, standIns := [], harness := (true, "5a9a52965f4185065c0d39a39ec58f829537e604a07fc4f1dbce9d7d2d17f592"), looks := true }, kinds := [], alts := [], laidByText := true, laidKinds := [.data, .data, .data, .data, .handle, .pinned], laidTests := true, laidLooks := .later }
def OfficeCancelsCardSaid : Prop := Claim7.holds Tryz.pinned (.plain (OpenSpec.ofChange officeCancelsSpec)) officeCancelsCard

/-- THE TIED CARD OF 'canteenlaw09.OfficeNews'. -/
def officeNewsCard : Claim7 := { stood := { row := officeNewsRow, standIns := [], harness := (true, "5a9a52965f4185065c0d39a39ec58f829537e604a07fc4f1dbce9d7d2d17f592"), looks := true }, kinds := [], alts := [], laidByText := true, laidKinds := [.data, .data, .data, .handle, .pinned], laidTests := true, laidLooks := .later }
def OfficeNewsCardSaid : Prop := Claim7.holds Tryz.pinned (.plain (OpenSpec.ofChange officeNewsSpec)) officeNewsCard

/-- THE TIED CARD OF 'canteentop.TopReplay'. -/
def topReplayCard : Claim7 := { stood := { row := topReplayRow, standIns := [], harness := (true, "5a9a52965f4185065c0d39a39ec58f829537e604a07fc4f1dbce9d7d2d17f592"), looks := true }, kinds := [], alts := [], laidByText := true, laidKinds := [.data, .data, .data, .handle, .pinned], laidTests := true, laidLooks := .later }
def TopReplayCardSaid : Prop := Claim7.holds Tryz.pinned (.plain (OpenSpec.ofChange topReplaySpec)) topReplayCard

/-- THE SECOND FORM's CARD OF 'canteentop.TopHarm'. -/
def topHarmUptoCard : Claim7 := { stood := { row := topHarmUptoRow, standIns := [], harness := (true, "5a9a52965f4185065c0d39a39ec58f829537e604a07fc4f1dbce9d7d2d17f592"), looks := true }, kinds := [], alts := [], laidByText := true, laidKinds := [.data, .data, .data, .handle, .pinned], laidTests := true, laidLooks := .later }
def TopHarmUptoCardSaid : Prop := Claim7.holds Tryz.pinned (.plain (OpenSpec.upto topHarmSpec)) topHarmUptoCard

/-- THE SECOND FORM's CARD OF 'canteentop.TopDue'. -/
def topDueUptoCard : Claim7 := { stood := { row := topDueUptoRow, standIns := [], harness := (true, "5a9a52965f4185065c0d39a39ec58f829537e604a07fc4f1dbce9d7d2d17f592"), looks := true }, kinds := [], alts := [], laidByText := true, laidKinds := [.data, .data, .data, .handle, .pinned], laidTests := true, laidLooks := .later }
def TopDueUptoCardSaid : Prop := Claim7.holds Tryz.pinned (.plain (OpenSpec.upto topDueSpec)) topDueUptoCard

/-- THE SECOND FORM's CARD OF 'canteenlaw09.OfficeReads'. -/
def officeReadsUptoCard : Claim7 := { stood := { row := officeReadsUptoRow, standIns := [], harness := (true, "5a9a52965f4185065c0d39a39ec58f829537e604a07fc4f1dbce9d7d2d17f592"), looks := true }, kinds := [], alts := [], laidByText := true, laidKinds := [.data, .data, .data, .handle, .pinned], laidTests := true, laidLooks := .later }
def OfficeReadsUptoCardSaid : Prop := Claim7.holds Tryz.pinned (.plain (OpenSpec.upto officeReadsSpec)) officeReadsUptoCard

/-- THE SECOND FORM's CARD OF 'canteenlaw09.OfficeHarms'. -/
def officeHarmsUptoCard : Claim7 := { stood := { row := officeHarmsUptoRow, standIns := [], harness := (true, "5a9a52965f4185065c0d39a39ec58f829537e604a07fc4f1dbce9d7d2d17f592"), looks := true }, kinds := [], alts := [], laidByText := true, laidKinds := [.data, .data, .data, .handle, .pinned], laidTests := true, laidLooks := .later }
def OfficeHarmsUptoCardSaid : Prop := Claim7.holds Tryz.pinned (.plain (OpenSpec.upto officeHarmsSpec)) officeHarmsUptoCard

/-- THE SECOND FORM's CARD OF 'canteenlaw09.OfficeTells'. -/
def officeTellsUptoCard : Claim7 := { stood := { row := officeTellsUptoRow, standIns := [], harness := (true, "5a9a52965f4185065c0d39a39ec58f829537e604a07fc4f1dbce9d7d2d17f592"), looks := true }, kinds := [], alts := [], laidByText := true, laidKinds := [.data, .data, .data, .handle, .pinned], laidTests := true, laidLooks := .later }
def OfficeTellsUptoCardSaid : Prop := Claim7.holds Tryz.pinned (.plain (OpenSpec.upto officeTellsSpec)) officeTellsUptoCard

/-- THE SECOND FORM's CARD OF 'canteenlaw09.OfficeCounts'. -/
def officeCountsUptoCard : Claim7 := { stood := { row := officeCountsUptoRow, standIns := [], harness := (true, "5a9a52965f4185065c0d39a39ec58f829537e604a07fc4f1dbce9d7d2d17f592"), looks := true }, kinds := [], alts := [], laidByText := true, laidKinds := [.data, .data, .data, .handle, .pinned], laidTests := true, laidLooks := .later }
def OfficeCountsUptoCardSaid : Prop := Claim7.holds Tryz.pinned (.plain (OpenSpec.upto officeCountsSpec)) officeCountsUptoCard

/-- THE SECOND FORM's CARD OF 'canteenlaw09.OfficeLabels'. -/
def officeLabelsUptoCard : Claim7 := { stood := { row := officeLabelsUptoRow, standIns := [], harness := (true, "5a9a52965f4185065c0d39a39ec58f829537e604a07fc4f1dbce9d7d2d17f592"), looks := true }, kinds := [], alts := [], laidByText := true, laidKinds := [.data, .data, .data, .handle, .pinned], laidTests := true, laidLooks := .later }
def OfficeLabelsUptoCardSaid : Prop := Claim7.holds Tryz.pinned (.plain (OpenSpec.upto officeLabelsSpec)) officeLabelsUptoCard

/-- THE SECOND FORM's CARD OF 'canteenlaw09.OfficeRuns'. -/
def officeRunsUptoCard : Claim7 := { stood := { row := officeRunsUptoRow, standIns := [], harness := (true, "5a9a52965f4185065c0d39a39ec58f829537e604a07fc4f1dbce9d7d2d17f592"), looks := true }, kinds := [], alts := [], laidByText := true, laidKinds := [.data, .data, .data, .handle, .pinned], laidTests := true, laidLooks := .later }
def OfficeRunsUptoCardSaid : Prop := Claim7.holds Tryz.pinned (.plain (OpenSpec.upto officeRunsSpec)) officeRunsUptoCard

/-- THE SECOND FORM's CARD OF 'canteenlaw09.OfficeOrders'. -/
def officeOrdersUptoCard : Claim7 := { stood := { row := officeOrdersUptoRow, standIns := [], harness := (true, "5a9a52965f4185065c0d39a39ec58f829537e604a07fc4f1dbce9d7d2d17f592"), looks := true }, kinds := [], alts := [], laidByText := true, laidKinds := [.data, .data, .data, .handle, .pinned], laidTests := true, laidLooks := .later }
def OfficeOrdersUptoCardSaid : Prop := Claim7.holds Tryz.pinned (.plain (OpenSpec.upto officeOrdersSpec)) officeOrdersUptoCard

/-- THE SECOND FORM's CARD OF 'canteenlaw09.OfficeRefuses'. -/
def officeRefusesUptoCard : Claim7 := { stood := { row := officeRefusesUptoRow, standIns := [], harness := (true, "5a9a52965f4185065c0d39a39ec58f829537e604a07fc4f1dbce9d7d2d17f592"), looks := true }, kinds := [], alts := [], laidByText := true, laidKinds := [.data, .data, .data, .handle, .pinned], laidTests := true, laidLooks := .later }
def OfficeRefusesUptoCardSaid : Prop := Claim7.holds Tryz.pinned (.plain (OpenSpec.upto officeRefusesSpec)) officeRefusesUptoCard

/-- THE SECOND FORM's CARD OF 'canteenlaw09.OfficeReplays'. -/
def officeReplaysUptoCard : Claim7 := { stood := { row := officeReplaysUptoRow, standIns := [], harness := (true, "5a9a52965f4185065c0d39a39ec58f829537e604a07fc4f1dbce9d7d2d17f592"), looks := true }, kinds := [], alts := [], laidByText := true, laidKinds := [.data, .data, .data, .handle, .pinned], laidTests := true, laidLooks := .later }
def OfficeReplaysUptoCardSaid : Prop := Claim7.holds Tryz.pinned (.plain (OpenSpec.upto officeReplaysSpec)) officeReplaysUptoCard

/-- THE SECOND FORM's CARD OF 'canteenlaw09.OfficeBooks'. -/
def officeBooksUptoCard : Claim7 := { stood := { row := officeBooksUptoRow, standIns := [], harness := (true, "5a9a52965f4185065c0d39a39ec58f829537e604a07fc4f1dbce9d7d2d17f592"), looks := true }, kinds := [], alts := [], laidByText := true, laidKinds := [.data, .data, .data, .handle, .pinned], laidTests := true, laidLooks := .later }
def OfficeBooksUptoCardSaid : Prop := Claim7.holds Tryz.pinned (.plain (OpenSpec.upto officeBooksSpec)) officeBooksUptoCard

/-- THE SECOND FORM's CARD OF 'canteenlaw09.OfficeAudits'. -/
def officeAuditsUptoCard : Claim7 := { stood := { row := officeAuditsUptoRow, standIns := [], harness := (true, "5a9a52965f4185065c0d39a39ec58f829537e604a07fc4f1dbce9d7d2d17f592"), looks := true }, kinds := [], alts := [], laidByText := true, laidKinds := [.data, .data, .data, .handle, .pinned], laidTests := true, laidLooks := .later }
def OfficeAuditsUptoCardSaid : Prop := Claim7.holds Tryz.pinned (.plain (OpenSpec.upto officeAuditsSpec)) officeAuditsUptoCard

/-- THE SECOND FORM's CARD OF 'canteenlaw09.OfficeCancels'. -/
def officeCancelsUptoCard : Claim7 := { stood := { row := officeCancelsUptoRow, standIns := [], harness := (true, "5a9a52965f4185065c0d39a39ec58f829537e604a07fc4f1dbce9d7d2d17f592"), looks := true }, kinds := [], alts := [], laidByText := true, laidKinds := [.data, .data, .data, .data, .handle, .pinned], laidTests := true, laidLooks := .later }
def OfficeCancelsUptoCardSaid : Prop := Claim7.holds Tryz.pinned (.plain (OpenSpec.upto officeCancelsSpec)) officeCancelsUptoCard

/-- THE SECOND FORM's CARD OF 'canteenlaw09.OfficeNews'. -/
def officeNewsUptoCard : Claim7 := { stood := { row := officeNewsUptoRow, standIns := [], harness := (true, "5a9a52965f4185065c0d39a39ec58f829537e604a07fc4f1dbce9d7d2d17f592"), looks := true }, kinds := [], alts := [], laidByText := true, laidKinds := [.data, .data, .data, .handle, .pinned], laidTests := true, laidLooks := .later }
def OfficeNewsUptoCardSaid : Prop := Claim7.holds Tryz.pinned (.plain (OpenSpec.upto officeNewsSpec)) officeNewsUptoCard

/-- THE SECOND FORM's CARD OF 'canteentop.TopReplay'. -/
def topReplayUptoCard : Claim7 := { stood := { row := topReplayUptoRow, standIns := [], harness := (true, "5a9a52965f4185065c0d39a39ec58f829537e604a07fc4f1dbce9d7d2d17f592"), looks := true }, kinds := [], alts := [], laidByText := true, laidKinds := [.data, .data, .data, .handle, .pinned], laidTests := true, laidLooks := .later }
def TopReplayUptoCardSaid : Prop := Claim7.holds Tryz.pinned (.plain (OpenSpec.upto topReplaySpec)) topReplayUptoCard
end Rows
end Go.Proofs.YtiapkffihpgdcaaGreatDoor
