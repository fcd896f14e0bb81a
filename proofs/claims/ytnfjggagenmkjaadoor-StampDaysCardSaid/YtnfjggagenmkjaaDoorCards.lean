/-
  DERIVED. GIVEN WITH THE SEED: THE CARDS: each row of YtnfjggagenmkjaaDoorRows.lean that lists a variable, with what it lists TIED to the program's text (the seventh form; the later family's looks); each row that meets fmt, with fmt's text TOLD by the authors' own Lean function (tested against real Go, not proved from fmt's source: count such statements apart). THE CARD IS WHAT COUNTS. Prove the row's statement (the work); the ties are given (YtnfjggagenmkjaaDoorTie.lean); close each card by the builder's one call (the guide's Derived/Test/ToyasCard.lean, 'card_holds'). Laid BY PROGRAM, IN A SANDBOX (cutbox-door.mjs). By AI agents, Wed Nov 11 2026. No macro, syntax, notation, axiom, sorry.
-/
import Derived.Test.YtnfjggagenmkjaaDoorRows
import GoSem.ClaimSeven
namespace Go.Proofs.YtnfjggagenmkjaaDoor
namespace Rows

/-- THE TIED CARD OF 'targumlaw10.StampBack'. -/
def stampBackCard : Claim7 := { stood := { row := stampBackRow, standIns := [], harness := (true, "7c6352bdf8fbf0052098b2c8a283c5800fffbc4fd8b77d9733e6648a67425575"), looks := false }, kinds := [], alts := [], laidByText := true, laidKinds := [.data, .data, .data, .data, .pinned], laidTests := true, laidLooks := .later }
def StampBackCardSaid : Prop := Claim7.holds Tryd.pinned (.plain (OpenSpec.ofChange stampBackSpec)) stampBackCard

/-- THE TIED CARD OF 'targumlaw10.StampZones'. -/
def stampZonesCard : Claim7 := { stood := { row := stampZonesRow, standIns := [], harness := (true, "7c6352bdf8fbf0052098b2c8a283c5800fffbc4fd8b77d9733e6648a67425575"), looks := false }, kinds := [], alts := [], laidByText := true, laidKinds := [.data, .data, .data, .data, .pinned], laidTests := true, laidLooks := .later }
def StampZonesCardSaid : Prop := Claim7.holds Tryd.pinned (.plain (OpenSpec.ofChange stampZonesSpec)) stampZonesCard

/-- THE TIED CARD OF 'targumlaw10.StampDays'. -/
def stampDaysCard : Claim7 := { stood := { row := stampDaysRow, standIns := [], harness := (true, "7c6352bdf8fbf0052098b2c8a283c5800fffbc4fd8b77d9733e6648a67425575"), looks := false }, kinds := [], alts := [], laidByText := true, laidKinds := [.data, .data, .data, .data, .pinned], laidTests := true, laidLooks := .later }
def StampDaysCardSaid : Prop := Claim7.holds Tryd.pinned (.plain (OpenSpec.ofChange stampDaysSpec)) stampDaysCard

/-- THE TIED CARD OF 'targumlaw10.StampTells'. -/
def stampTellsCard : Claim7 := { stood := { row := stampTellsRow, standIns := [], harness := (true, "7c6352bdf8fbf0052098b2c8a283c5800fffbc4fd8b77d9733e6648a67425575"), looks := false }, kinds := [], alts := [], laidByText := true, laidKinds := [.data, .data, .data, .data, .pinned], laidTests := true, laidLooks := .later }
def StampTellsCardSaid : Prop := Claim7.holds Tryd.pinned (.plain (OpenSpec.ofChange stampTellsSpec)) stampTellsCard

/-- THE TIED CARD OF 'targumlaw10.StampParts'. -/
def stampPartsCard : Claim7 := { stood := { row := stampPartsRow, standIns := [], harness := (true, "7c6352bdf8fbf0052098b2c8a283c5800fffbc4fd8b77d9733e6648a67425575"), looks := false }, kinds := [], alts := [], laidByText := true, laidKinds := [.data, .data, .data, .data, .pinned], laidTests := true, laidLooks := .later }
def StampPartsCardSaid : Prop := Claim7.holds Tryd.pinned (.plain (OpenSpec.ofChange stampPartsSpec)) stampPartsCard

/-- THE SECOND FORM's CARD OF 'targumlaw10.StampBack'. -/
def stampBackUptoCard : Claim7 := { stood := { row := stampBackUptoRow, standIns := [], harness := (true, "7c6352bdf8fbf0052098b2c8a283c5800fffbc4fd8b77d9733e6648a67425575"), looks := false }, kinds := [], alts := [], laidByText := true, laidKinds := [.data, .data, .data, .data, .pinned], laidTests := true, laidLooks := .later }
def StampBackUptoCardSaid : Prop := Claim7.holds Tryd.pinned (.plain (OpenSpec.upto stampBackSpec)) stampBackUptoCard

/-- THE SECOND FORM's CARD OF 'targumlaw10.StampZones'. -/
def stampZonesUptoCard : Claim7 := { stood := { row := stampZonesUptoRow, standIns := [], harness := (true, "7c6352bdf8fbf0052098b2c8a283c5800fffbc4fd8b77d9733e6648a67425575"), looks := false }, kinds := [], alts := [], laidByText := true, laidKinds := [.data, .data, .data, .data, .pinned], laidTests := true, laidLooks := .later }
def StampZonesUptoCardSaid : Prop := Claim7.holds Tryd.pinned (.plain (OpenSpec.upto stampZonesSpec)) stampZonesUptoCard

/-- THE SECOND FORM's CARD OF 'targumlaw10.StampDays'. -/
def stampDaysUptoCard : Claim7 := { stood := { row := stampDaysUptoRow, standIns := [], harness := (true, "7c6352bdf8fbf0052098b2c8a283c5800fffbc4fd8b77d9733e6648a67425575"), looks := false }, kinds := [], alts := [], laidByText := true, laidKinds := [.data, .data, .data, .data, .pinned], laidTests := true, laidLooks := .later }
def StampDaysUptoCardSaid : Prop := Claim7.holds Tryd.pinned (.plain (OpenSpec.upto stampDaysSpec)) stampDaysUptoCard

/-- THE SECOND FORM's CARD OF 'targumlaw10.StampTells'. -/
def stampTellsUptoCard : Claim7 := { stood := { row := stampTellsUptoRow, standIns := [], harness := (true, "7c6352bdf8fbf0052098b2c8a283c5800fffbc4fd8b77d9733e6648a67425575"), looks := false }, kinds := [], alts := [], laidByText := true, laidKinds := [.data, .data, .data, .data, .pinned], laidTests := true, laidLooks := .later }
def StampTellsUptoCardSaid : Prop := Claim7.holds Tryd.pinned (.plain (OpenSpec.upto stampTellsSpec)) stampTellsUptoCard

/-- THE SECOND FORM's CARD OF 'targumlaw10.StampParts'. -/
def stampPartsUptoCard : Claim7 := { stood := { row := stampPartsUptoRow, standIns := [], harness := (true, "7c6352bdf8fbf0052098b2c8a283c5800fffbc4fd8b77d9733e6648a67425575"), looks := false }, kinds := [], alts := [], laidByText := true, laidKinds := [.data, .data, .data, .data, .pinned], laidTests := true, laidLooks := .later }
def StampPartsUptoCardSaid : Prop := Claim7.holds Tryd.pinned (.plain (OpenSpec.upto stampPartsSpec)) stampPartsUptoCard
end Rows
end Go.Proofs.YtnfjggagenmkjaaDoor
