/-
  DERIVED. GIVEN WITH THE SEED: THE CARDS: each row of YtffmgholjdfcnaaGreatDoorRows.lean that lists a variable, with what it lists TIED to the program's text (the seventh form; the later family's looks); each row that meets fmt, with fmt's text TOLD by the authors' own Lean function (tested against real Go, not proved from fmt's source: count such statements apart). THE CARD IS WHAT COUNTS. Prove the row's statement (the work); the ties are given (YtffmgholjdfcnaaGreatDoorTie.lean); close each card by the builder's one call (the guide's Derived/Test/ToyasCard.lean, 'card_holds'). Laid BY PROGRAM, IN A SANDBOX (cutbox-door.mjs). By AI agents, Wed Nov 11 2026. No macro, syntax, notation, axiom, sorry.
-/
import Derived.Test.YtffmgholjdfcnaaGreatDoorRows
import GoSem.ClaimSeven
namespace Go.Proofs.YtffmgholjdfcnaaGreatDoor
namespace Rows

/-- THE TIED CARD OF 'targumlaw13.ResolveTells'. -/
def resolveTellsCard : Claim7 := { stood := { row := resolveTellsRow, standIns := [], harness := (true, "0f692e817cdd4c2c2b9805b5d8e5c5d8f789caa25ba8cceaede935d9f05c4260"), looks := false }, kinds := [], alts := [], laidByText := true, laidKinds := [.data, .data, .data, .data, .pinned], laidTests := true, laidLooks := .later }
def ResolveTellsCardSaid : Prop := Claim7.holds Tryz.pinned (.plain (OpenSpec.ofChange resolveTellsSpec)) resolveTellsCard

/-- THE TIED CARD OF 'targumlaw13.ResolveStays'. -/
def resolveStaysCard : Claim7 := { stood := { row := resolveStaysRow, standIns := [], harness := (true, "0f692e817cdd4c2c2b9805b5d8e5c5d8f789caa25ba8cceaede935d9f05c4260"), looks := false }, kinds := [], alts := [], laidByText := true, laidKinds := [.data, .data, .data, .data, .pinned], laidTests := true, laidLooks := .later }
def ResolveStaysCardSaid : Prop := Claim7.holds Tryz.pinned (.plain (OpenSpec.ofChange resolveStaysSpec)) resolveStaysCard

/-- THE TIED CARD OF 'targumlaw13.ResolveTurns'. -/
def resolveTurnsCard : Claim7 := { stood := { row := resolveTurnsRow, standIns := [], harness := (true, "0f692e817cdd4c2c2b9805b5d8e5c5d8f789caa25ba8cceaede935d9f05c4260"), looks := false }, kinds := [], alts := [], laidByText := true, laidKinds := [.data, .data, .data, .data, .pinned], laidTests := true, laidLooks := .later }
def ResolveTurnsCardSaid : Prop := Claim7.holds Tryz.pinned (.plain (OpenSpec.ofChange resolveTurnsSpec)) resolveTurnsCard

/-- THE TIED CARD OF 'targumlaw14.BuildTells'. -/
def buildTellsCard : Claim7 := { stood := { row := buildTellsRow, standIns := [], harness := (true, "0f692e817cdd4c2c2b9805b5d8e5c5d8f789caa25ba8cceaede935d9f05c4260"), looks := false }, kinds := [], alts := [], laidByText := true, laidKinds := [.data, .data, .data, .data, .pinned], laidTests := true, laidLooks := .later }
def BuildTellsCardSaid : Prop := Claim7.holds Tryz.pinned (.plain (OpenSpec.ofChange buildTellsSpec)) buildTellsCard

/-- THE TIED CARD OF 'targumlaw14.BuildOwn'. -/
def buildOwnCard : Claim7 := { stood := { row := buildOwnRow, standIns := [], harness := (true, "0f692e817cdd4c2c2b9805b5d8e5c5d8f789caa25ba8cceaede935d9f05c4260"), looks := false }, kinds := [], alts := [], laidByText := true, laidKinds := [.data, .data, .data, .data, .pinned], laidTests := true, laidLooks := .later }
def BuildOwnCardSaid : Prop := Claim7.holds Tryz.pinned (.plain (OpenSpec.ofChange buildOwnSpec)) buildOwnCard

/-- THE TIED CARD OF 'targumlaw14.BuildSilent'. -/
def buildSilentCard : Claim7 := { stood := { row := buildSilentRow, standIns := [], harness := (true, "0f692e817cdd4c2c2b9805b5d8e5c5d8f789caa25ba8cceaede935d9f05c4260"), looks := false }, kinds := [], alts := [], laidByText := true, laidKinds := [.data, .data, .data, .data, .pinned], laidTests := true, laidLooks := .later }
def BuildSilentCardSaid : Prop := Claim7.holds Tryz.pinned (.plain (OpenSpec.ofChange buildSilentSpec)) buildSilentCard

/-- THE TIED CARD OF 'targumlaw14.BuildPlain'. -/
def buildPlainCard : Claim7 := { stood := { row := buildPlainRow, standIns := [], harness := (true, "0f692e817cdd4c2c2b9805b5d8e5c5d8f789caa25ba8cceaede935d9f05c4260"), looks := false }, kinds := [], alts := [], laidByText := true, laidKinds := [.data, .data, .data, .data, .pinned], laidTests := true, laidLooks := .later }
def BuildPlainCardSaid : Prop := Claim7.holds Tryz.pinned (.plain (OpenSpec.ofChange buildPlainSpec)) buildPlainCard

/-- THE TIED CARD OF 'targumlaw16.DivergeTells'. -/
def divergeTellsCard : Claim7 := { stood := { row := divergeTellsRow, standIns := [], harness := (true, "0f692e817cdd4c2c2b9805b5d8e5c5d8f789caa25ba8cceaede935d9f05c4260"), looks := false }, kinds := [], alts := [], laidByText := true, laidKinds := [.data, .data, .data, .data, .pinned], laidTests := true, laidLooks := .later }
def DivergeTellsCardSaid : Prop := Claim7.holds Tryz.pinned (.plain (OpenSpec.ofChange divergeTellsSpec)) divergeTellsCard

/-- THE TIED CARD OF 'targumlaw16.DivergeSays'. -/
def divergeSaysCard : Claim7 := { stood := { row := divergeSaysRow, standIns := [], harness := (true, "0f692e817cdd4c2c2b9805b5d8e5c5d8f789caa25ba8cceaede935d9f05c4260"), looks := false }, kinds := [], alts := [], laidByText := true, laidKinds := [.data, .data, .data, .data, .pinned], laidTests := true, laidLooks := .later }
def DivergeSaysCardSaid : Prop := Claim7.holds Tryz.pinned (.plain (OpenSpec.ofChange divergeSaysSpec)) divergeSaysCard

/-- THE TIED CARD OF 'targumlaw16.DivergeKeeps'. -/
def divergeKeepsCard : Claim7 := { stood := { row := divergeKeepsRow, standIns := [], harness := (true, "0f692e817cdd4c2c2b9805b5d8e5c5d8f789caa25ba8cceaede935d9f05c4260"), looks := false }, kinds := [], alts := [], laidByText := true, laidKinds := [.data, .data, .data, .data, .pinned], laidTests := true, laidLooks := .later }
def DivergeKeepsCardSaid : Prop := Claim7.holds Tryz.pinned (.plain (OpenSpec.ofChange divergeKeepsSpec)) divergeKeepsCard

/-- THE TIED CARD OF 'targumlaw16.DivergeWhy'. -/
def divergeWhyCard : Claim7 := { stood := { row := divergeWhyRow, standIns := [], harness := (true, "0f692e817cdd4c2c2b9805b5d8e5c5d8f789caa25ba8cceaede935d9f05c4260"), looks := false }, kinds := [], alts := [], laidByText := true, laidKinds := [.data, .data, .data, .data, .pinned], laidTests := true, laidLooks := .later }
def DivergeWhyCardSaid : Prop := Claim7.holds Tryz.pinned (.plain (OpenSpec.ofChange divergeWhySpec)) divergeWhyCard

/-- THE SECOND FORM's CARD OF 'targumlaw13.ResolveTells'. -/
def resolveTellsUptoCard : Claim7 := { stood := { row := resolveTellsUptoRow, standIns := [], harness := (true, "0f692e817cdd4c2c2b9805b5d8e5c5d8f789caa25ba8cceaede935d9f05c4260"), looks := false }, kinds := [], alts := [], laidByText := true, laidKinds := [.data, .data, .data, .data, .pinned], laidTests := true, laidLooks := .later }
def ResolveTellsUptoCardSaid : Prop := Claim7.holds Tryz.pinned (.plain (OpenSpec.upto resolveTellsSpec)) resolveTellsUptoCard

/-- THE SECOND FORM's CARD OF 'targumlaw13.ResolveStays'. -/
def resolveStaysUptoCard : Claim7 := { stood := { row := resolveStaysUptoRow, standIns := [], harness := (true, "0f692e817cdd4c2c2b9805b5d8e5c5d8f789caa25ba8cceaede935d9f05c4260"), looks := false }, kinds := [], alts := [], laidByText := true, laidKinds := [.data, .data, .data, .data, .pinned], laidTests := true, laidLooks := .later }
def ResolveStaysUptoCardSaid : Prop := Claim7.holds Tryz.pinned (.plain (OpenSpec.upto resolveStaysSpec)) resolveStaysUptoCard

/-- THE SECOND FORM's CARD OF 'targumlaw13.ResolveTurns'. -/
def resolveTurnsUptoCard : Claim7 := { stood := { row := resolveTurnsUptoRow, standIns := [], harness := (true, "0f692e817cdd4c2c2b9805b5d8e5c5d8f789caa25ba8cceaede935d9f05c4260"), looks := false }, kinds := [], alts := [], laidByText := true, laidKinds := [.data, .data, .data, .data, .pinned], laidTests := true, laidLooks := .later }
def ResolveTurnsUptoCardSaid : Prop := Claim7.holds Tryz.pinned (.plain (OpenSpec.upto resolveTurnsSpec)) resolveTurnsUptoCard

/-- THE SECOND FORM's CARD OF 'targumlaw14.BuildTells'. -/
def buildTellsUptoCard : Claim7 := { stood := { row := buildTellsUptoRow, standIns := [], harness := (true, "0f692e817cdd4c2c2b9805b5d8e5c5d8f789caa25ba8cceaede935d9f05c4260"), looks := false }, kinds := [], alts := [], laidByText := true, laidKinds := [.data, .data, .data, .data, .pinned], laidTests := true, laidLooks := .later }
def BuildTellsUptoCardSaid : Prop := Claim7.holds Tryz.pinned (.plain (OpenSpec.upto buildTellsSpec)) buildTellsUptoCard

/-- THE SECOND FORM's CARD OF 'targumlaw14.BuildOwn'. -/
def buildOwnUptoCard : Claim7 := { stood := { row := buildOwnUptoRow, standIns := [], harness := (true, "0f692e817cdd4c2c2b9805b5d8e5c5d8f789caa25ba8cceaede935d9f05c4260"), looks := false }, kinds := [], alts := [], laidByText := true, laidKinds := [.data, .data, .data, .data, .pinned], laidTests := true, laidLooks := .later }
def BuildOwnUptoCardSaid : Prop := Claim7.holds Tryz.pinned (.plain (OpenSpec.upto buildOwnSpec)) buildOwnUptoCard

/-- THE SECOND FORM's CARD OF 'targumlaw14.BuildSilent'. -/
def buildSilentUptoCard : Claim7 := { stood := { row := buildSilentUptoRow, standIns := [], harness := (true, "0f692e817cdd4c2c2b9805b5d8e5c5d8f789caa25ba8cceaede935d9f05c4260"), looks := false }, kinds := [], alts := [], laidByText := true, laidKinds := [.data, .data, .data, .data, .pinned], laidTests := true, laidLooks := .later }
def BuildSilentUptoCardSaid : Prop := Claim7.holds Tryz.pinned (.plain (OpenSpec.upto buildSilentSpec)) buildSilentUptoCard

/-- THE SECOND FORM's CARD OF 'targumlaw14.BuildPlain'. -/
def buildPlainUptoCard : Claim7 := { stood := { row := buildPlainUptoRow, standIns := [], harness := (true, "0f692e817cdd4c2c2b9805b5d8e5c5d8f789caa25ba8cceaede935d9f05c4260"), looks := false }, kinds := [], alts := [], laidByText := true, laidKinds := [.data, .data, .data, .data, .pinned], laidTests := true, laidLooks := .later }
def BuildPlainUptoCardSaid : Prop := Claim7.holds Tryz.pinned (.plain (OpenSpec.upto buildPlainSpec)) buildPlainUptoCard

/-- THE SECOND FORM's CARD OF 'targumlaw16.DivergeTells'. -/
def divergeTellsUptoCard : Claim7 := { stood := { row := divergeTellsUptoRow, standIns := [], harness := (true, "0f692e817cdd4c2c2b9805b5d8e5c5d8f789caa25ba8cceaede935d9f05c4260"), looks := false }, kinds := [], alts := [], laidByText := true, laidKinds := [.data, .data, .data, .data, .pinned], laidTests := true, laidLooks := .later }
def DivergeTellsUptoCardSaid : Prop := Claim7.holds Tryz.pinned (.plain (OpenSpec.upto divergeTellsSpec)) divergeTellsUptoCard

/-- THE SECOND FORM's CARD OF 'targumlaw16.DivergeSays'. -/
def divergeSaysUptoCard : Claim7 := { stood := { row := divergeSaysUptoRow, standIns := [], harness := (true, "0f692e817cdd4c2c2b9805b5d8e5c5d8f789caa25ba8cceaede935d9f05c4260"), looks := false }, kinds := [], alts := [], laidByText := true, laidKinds := [.data, .data, .data, .data, .pinned], laidTests := true, laidLooks := .later }
def DivergeSaysUptoCardSaid : Prop := Claim7.holds Tryz.pinned (.plain (OpenSpec.upto divergeSaysSpec)) divergeSaysUptoCard

/-- THE SECOND FORM's CARD OF 'targumlaw16.DivergeKeeps'. -/
def divergeKeepsUptoCard : Claim7 := { stood := { row := divergeKeepsUptoRow, standIns := [], harness := (true, "0f692e817cdd4c2c2b9805b5d8e5c5d8f789caa25ba8cceaede935d9f05c4260"), looks := false }, kinds := [], alts := [], laidByText := true, laidKinds := [.data, .data, .data, .data, .pinned], laidTests := true, laidLooks := .later }
def DivergeKeepsUptoCardSaid : Prop := Claim7.holds Tryz.pinned (.plain (OpenSpec.upto divergeKeepsSpec)) divergeKeepsUptoCard

/-- THE SECOND FORM's CARD OF 'targumlaw16.DivergeWhy'. -/
def divergeWhyUptoCard : Claim7 := { stood := { row := divergeWhyUptoRow, standIns := [], harness := (true, "0f692e817cdd4c2c2b9805b5d8e5c5d8f789caa25ba8cceaede935d9f05c4260"), looks := false }, kinds := [], alts := [], laidByText := true, laidKinds := [.data, .data, .data, .data, .pinned], laidTests := true, laidLooks := .later }
def DivergeWhyUptoCardSaid : Prop := Claim7.holds Tryz.pinned (.plain (OpenSpec.upto divergeWhySpec)) divergeWhyUptoCard
end Rows
end Go.Proofs.YtffmgholjdfcnaaGreatDoor
