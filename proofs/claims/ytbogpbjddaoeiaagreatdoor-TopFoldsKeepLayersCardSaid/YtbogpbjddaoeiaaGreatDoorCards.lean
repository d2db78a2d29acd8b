/-
  DERIVED. GIVEN WITH THE SEED: THE CARDS: each row of YtbogpbjddaoeiaaGreatDoorRows.lean that lists a variable, with what it lists TIED to the program's text (the seventh form; the later family's looks); each row that meets fmt, with fmt's text TOLD by the authors' own Lean function (tested against real Go, not proved from fmt's source: count such statements apart). THE CARD IS WHAT COUNTS. Prove the row's statement (the work); the ties are given (YtbogpbjddaoeiaaGreatDoorTie.lean); close each card by the builder's one call (the guide's Derived/Test/ToyasCard.lean, 'card_holds'). Laid BY PROGRAM, IN A SANDBOX (cutbox-door.mjs). By AI agents, Wed Nov 11 2026. No macro, syntax, notation, axiom, sorry.
-/
import Derived.Test.YtbogpbjddaoeiaaGreatDoorRows
import GoSem.ClaimSeven
namespace Go.Proofs.YtbogpbjddaoeiaaGreatDoor
namespace Rows

/-- THE TIED CARD OF 'klippelaw04.RangesMakes'. -/
def rangesMakesCard : Claim7 := { stood := { row := rangesMakesRow, standIns := [], harness := (true, "bd9a968ff1cf2abb3cbdbc0204125c2cded56ce32220f41d655a2349483204eb"), looks := true }, kinds := [], alts := [], laidByText := true, laidKinds := [.data, .data, .data, .sentinel, .sentinel], laidTests := true, laidLooks := .later }
def RangesMakesCardSaid : Prop := Claim7.holds Tryz.pinned (.plain (OpenSpec.ofChange rangesMakesSpec)) rangesMakesCard

/-- THE TIED CARD OF 'klippelaw04.RangesIntegrals'. -/
def rangesIntegralsCard : Claim7 := { stood := { row := rangesIntegralsRow, standIns := [], harness := (true, "bd9a968ff1cf2abb3cbdbc0204125c2cded56ce32220f41d655a2349483204eb"), looks := true }, kinds := [], alts := [], laidByText := true, laidKinds := [.data, .data, .data, .sentinel, .sentinel], laidTests := true, laidLooks := .later }
def RangesIntegralsCardSaid : Prop := Claim7.holds Tryz.pinned (.plain (OpenSpec.ofChange rangesIntegralsSpec)) rangesIntegralsCard

/-- THE TIED CARD OF 'klippelaw04.RangesContains'. -/
def rangesContainsCard : Claim7 := { stood := { row := rangesContainsRow, standIns := [], harness := (true, "bd9a968ff1cf2abb3cbdbc0204125c2cded56ce32220f41d655a2349483204eb"), looks := true }, kinds := [], alts := [], laidByText := true, laidKinds := [.data, .data, .data, .sentinel, .sentinel], laidTests := true, laidLooks := .later }
def RangesContainsCardSaid : Prop := Claim7.holds Tryz.pinned (.plain (OpenSpec.ofChange rangesContainsSpec)) rangesContainsCard

/-- THE TIED CARD OF 'klippelaw04.RangesAbove'. -/
def rangesAboveCard : Claim7 := { stood := { row := rangesAboveRow, standIns := [], harness := (true, "bd9a968ff1cf2abb3cbdbc0204125c2cded56ce32220f41d655a2349483204eb"), looks := true }, kinds := [], alts := [], laidByText := true, laidKinds := [.data, .data, .data, .sentinel, .sentinel], laidTests := true, laidLooks := .later }
def RangesAboveCardSaid : Prop := Claim7.holds Tryz.pinned (.plain (OpenSpec.ofChange rangesAboveSpec)) rangesAboveCard

/-- THE TIED CARD OF 'klippelaw04.RangesValues'. -/
def rangesValuesCard : Claim7 := { stood := { row := rangesValuesRow, standIns := [], harness := (true, "bd9a968ff1cf2abb3cbdbc0204125c2cded56ce32220f41d655a2349483204eb"), looks := true }, kinds := [], alts := [], laidByText := true, laidKinds := [.data, .data, .data, .sentinel, .sentinel], laidTests := true, laidLooks := .later }
def RangesValuesCardSaid : Prop := Claim7.holds Tryz.pinned (.plain (OpenSpec.ofChange rangesValuesSpec)) rangesValuesCard

/-- THE TIED CARD OF 'klippelaw04.RangesCombines'. -/
def rangesCombinesCard : Claim7 := { stood := { row := rangesCombinesRow, standIns := [], harness := (true, "bd9a968ff1cf2abb3cbdbc0204125c2cded56ce32220f41d655a2349483204eb"), looks := true }, kinds := [], alts := [], laidByText := true, laidKinds := [.data, .data, .data, .sentinel, .sentinel], laidTests := true, laidLooks := .later }
def RangesCombinesCardSaid : Prop := Claim7.holds Tryz.pinned (.plain (OpenSpec.ofChange rangesCombinesSpec)) rangesCombinesCard

/-- THE TIED CARD OF 'klippelaw04.RangesAdds'. -/
def rangesAddsCard : Claim7 := { stood := { row := rangesAddsRow, standIns := [], harness := (true, "bd9a968ff1cf2abb3cbdbc0204125c2cded56ce32220f41d655a2349483204eb"), looks := true }, kinds := [], alts := [], laidByText := true, laidKinds := [.data, .data, .data, .sentinel, .sentinel], laidTests := true, laidLooks := .later }
def RangesAddsCardSaid : Prop := Claim7.holds Tryz.pinned (.plain (OpenSpec.ofChange rangesAddsSpec)) rangesAddsCard

/-- THE TIED CARD OF 'klippelaw04.RangesLaws'. -/
def rangesLawsCard : Claim7 := { stood := { row := rangesLawsRow, standIns := [], harness := (true, "bd9a968ff1cf2abb3cbdbc0204125c2cded56ce32220f41d655a2349483204eb"), looks := true }, kinds := [], alts := [], laidByText := true, laidKinds := [.data, .data, .data, .sentinel, .sentinel], laidTests := true, laidLooks := .later }
def RangesLawsCardSaid : Prop := Claim7.holds Tryz.pinned (.plain (OpenSpec.ofChange rangesLawsSpec)) rangesLawsCard

/-- THE TIED CARD OF 'klippelaw04.RangesFunctions'. -/
def rangesFunctionsCard : Claim7 := { stood := { row := rangesFunctionsRow, standIns := [], harness := (true, "bd9a968ff1cf2abb3cbdbc0204125c2cded56ce32220f41d655a2349483204eb"), looks := true }, kinds := [], alts := [], laidByText := true, laidKinds := [.data, .data, .data, .sentinel, .sentinel], laidTests := true, laidLooks := .later }
def RangesFunctionsCardSaid : Prop := Claim7.holds Tryz.pinned (.plain (OpenSpec.ofChange rangesFunctionsSpec)) rangesFunctionsCard

/-- THE TIED CARD OF 'klippelaw04.RangesChecks'. -/
def rangesChecksCard : Claim7 := { stood := { row := rangesChecksRow, standIns := [], harness := (true, "bd9a968ff1cf2abb3cbdbc0204125c2cded56ce32220f41d655a2349483204eb"), looks := true }, kinds := [], alts := [], laidByText := true, laidKinds := [.data, .data, .data, .sentinel, .sentinel], laidTests := true, laidLooks := .later }
def RangesChecksCardSaid : Prop := Claim7.holds Tryz.pinned (.plain (OpenSpec.ofChange rangesChecksSpec)) rangesChecksCard

/-- THE TIED CARD OF 'klippelaw04.RangesKnots'. -/
def rangesKnotsCard : Claim7 := { stood := { row := rangesKnotsRow, standIns := [], harness := (true, "bd9a968ff1cf2abb3cbdbc0204125c2cded56ce32220f41d655a2349483204eb"), looks := true }, kinds := [], alts := [], laidByText := true, laidKinds := [.data, .data, .data, .sentinel, .sentinel], laidTests := true, laidLooks := .later }
def RangesKnotsCardSaid : Prop := Claim7.holds Tryz.pinned (.plain (OpenSpec.ofChange rangesKnotsSpec)) rangesKnotsCard

/-- THE TIED CARD OF 'klippetop.TopFoldsKeepLayers'. -/
def topFoldsKeepLayersCard : Claim7 := { stood := { row := topFoldsKeepLayersRow, standIns := [], harness := (true, "bd9a968ff1cf2abb3cbdbc0204125c2cded56ce32220f41d655a2349483204eb"), looks := true }, kinds := [], alts := [], laidByText := true, laidKinds := [.data, .data, .data, .sentinel, .sentinel], laidTests := true, laidLooks := .later }
def TopFoldsKeepLayersCardSaid : Prop := Claim7.holds Tryz.pinned (.plain (OpenSpec.ofChange topFoldsKeepLayersSpec)) topFoldsKeepLayersCard

/-- THE SECOND FORM's CARD OF 'klippelaw04.RangesMakes'. -/
def rangesMakesUptoCard : Claim7 := { stood := { row := rangesMakesUptoRow, standIns := [], harness := (true, "bd9a968ff1cf2abb3cbdbc0204125c2cded56ce32220f41d655a2349483204eb"), looks := true }, kinds := [], alts := [], laidByText := true, laidKinds := [.data, .data, .data, .sentinel, .sentinel], laidTests := true, laidLooks := .later }
def RangesMakesUptoCardSaid : Prop := Claim7.holds Tryz.pinned (.plain (OpenSpec.upto rangesMakesSpec)) rangesMakesUptoCard

/-- THE SECOND FORM's CARD OF 'klippelaw04.RangesIntegrals'. -/
def rangesIntegralsUptoCard : Claim7 := { stood := { row := rangesIntegralsUptoRow, standIns := [], harness := (true, "bd9a968ff1cf2abb3cbdbc0204125c2cded56ce32220f41d655a2349483204eb"), looks := true }, kinds := [], alts := [], laidByText := true, laidKinds := [.data, .data, .data, .sentinel, .sentinel], laidTests := true, laidLooks := .later }
def RangesIntegralsUptoCardSaid : Prop := Claim7.holds Tryz.pinned (.plain (OpenSpec.upto rangesIntegralsSpec)) rangesIntegralsUptoCard

/-- THE SECOND FORM's CARD OF 'klippelaw04.RangesContains'. -/
def rangesContainsUptoCard : Claim7 := { stood := { row := rangesContainsUptoRow, standIns := [], harness := (true, "bd9a968ff1cf2abb3cbdbc0204125c2cded56ce32220f41d655a2349483204eb"), looks := true }, kinds := [], alts := [], laidByText := true, laidKinds := [.data, .data, .data, .sentinel, .sentinel], laidTests := true, laidLooks := .later }
def RangesContainsUptoCardSaid : Prop := Claim7.holds Tryz.pinned (.plain (OpenSpec.upto rangesContainsSpec)) rangesContainsUptoCard

/-- THE SECOND FORM's CARD OF 'klippelaw04.RangesAbove'. -/
def rangesAboveUptoCard : Claim7 := { stood := { row := rangesAboveUptoRow, standIns := [], harness := (true, "bd9a968ff1cf2abb3cbdbc0204125c2cded56ce32220f41d655a2349483204eb"), looks := true }, kinds := [], alts := [], laidByText := true, laidKinds := [.data, .data, .data, .sentinel, .sentinel], laidTests := true, laidLooks := .later }
def RangesAboveUptoCardSaid : Prop := Claim7.holds Tryz.pinned (.plain (OpenSpec.upto rangesAboveSpec)) rangesAboveUptoCard

/-- THE SECOND FORM's CARD OF 'klippelaw04.RangesValues'. -/
def rangesValuesUptoCard : Claim7 := { stood := { row := rangesValuesUptoRow, standIns := [], harness := (true, "bd9a968ff1cf2abb3cbdbc0204125c2cded56ce32220f41d655a2349483204eb"), looks := true }, kinds := [], alts := [], laidByText := true, laidKinds := [.data, .data, .data, .sentinel, .sentinel], laidTests := true, laidLooks := .later }
def RangesValuesUptoCardSaid : Prop := Claim7.holds Tryz.pinned (.plain (OpenSpec.upto rangesValuesSpec)) rangesValuesUptoCard

/-- THE SECOND FORM's CARD OF 'klippelaw04.RangesCombines'. -/
def rangesCombinesUptoCard : Claim7 := { stood := { row := rangesCombinesUptoRow, standIns := [], harness := (true, "bd9a968ff1cf2abb3cbdbc0204125c2cded56ce32220f41d655a2349483204eb"), looks := true }, kinds := [], alts := [], laidByText := true, laidKinds := [.data, .data, .data, .sentinel, .sentinel], laidTests := true, laidLooks := .later }
def RangesCombinesUptoCardSaid : Prop := Claim7.holds Tryz.pinned (.plain (OpenSpec.upto rangesCombinesSpec)) rangesCombinesUptoCard

/-- THE SECOND FORM's CARD OF 'klippelaw04.RangesAdds'. -/
def rangesAddsUptoCard : Claim7 := { stood := { row := rangesAddsUptoRow, standIns := [], harness := (true, "bd9a968ff1cf2abb3cbdbc0204125c2cded56ce32220f41d655a2349483204eb"), looks := true }, kinds := [], alts := [], laidByText := true, laidKinds := [.data, .data, .data, .sentinel, .sentinel], laidTests := true, laidLooks := .later }
def RangesAddsUptoCardSaid : Prop := Claim7.holds Tryz.pinned (.plain (OpenSpec.upto rangesAddsSpec)) rangesAddsUptoCard

/-- THE SECOND FORM's CARD OF 'klippelaw04.RangesLaws'. -/
def rangesLawsUptoCard : Claim7 := { stood := { row := rangesLawsUptoRow, standIns := [], harness := (true, "bd9a968ff1cf2abb3cbdbc0204125c2cded56ce32220f41d655a2349483204eb"), looks := true }, kinds := [], alts := [], laidByText := true, laidKinds := [.data, .data, .data, .sentinel, .sentinel], laidTests := true, laidLooks := .later }
def RangesLawsUptoCardSaid : Prop := Claim7.holds Tryz.pinned (.plain (OpenSpec.upto rangesLawsSpec)) rangesLawsUptoCard

/-- THE SECOND FORM's CARD OF 'klippelaw04.RangesFunctions'. -/
def rangesFunctionsUptoCard : Claim7 := { stood := { row := rangesFunctionsUptoRow, standIns := [], harness := (true, "bd9a968ff1cf2abb3cbdbc0204125c2cded56ce32220f41d655a2349483204eb"), looks := true }, kinds := [], alts := [], laidByText := true, laidKinds := [.data, .data, .data, .sentinel, .sentinel], laidTests := true, laidLooks := .later }
def RangesFunctionsUptoCardSaid : Prop := Claim7.holds Tryz.pinned (.plain (OpenSpec.upto rangesFunctionsSpec)) rangesFunctionsUptoCard

/-- THE SECOND FORM's CARD OF 'klippelaw04.RangesChecks'. -/
def rangesChecksUptoCard : Claim7 := { stood := { row := rangesChecksUptoRow, standIns := [], harness := (true, "bd9a968ff1cf2abb3cbdbc0204125c2cded56ce32220f41d655a2349483204eb"), looks := true }, kinds := [], alts := [], laidByText := true, laidKinds := [.data, .data, .data, .sentinel, .sentinel], laidTests := true, laidLooks := .later }
def RangesChecksUptoCardSaid : Prop := Claim7.holds Tryz.pinned (.plain (OpenSpec.upto rangesChecksSpec)) rangesChecksUptoCard

/-- THE SECOND FORM's CARD OF 'klippelaw04.RangesKnots'. -/
def rangesKnotsUptoCard : Claim7 := { stood := { row := rangesKnotsUptoRow, standIns := [], harness := (true, "bd9a968ff1cf2abb3cbdbc0204125c2cded56ce32220f41d655a2349483204eb"), looks := true }, kinds := [], alts := [], laidByText := true, laidKinds := [.data, .data, .data, .sentinel, .sentinel], laidTests := true, laidLooks := .later }
def RangesKnotsUptoCardSaid : Prop := Claim7.holds Tryz.pinned (.plain (OpenSpec.upto rangesKnotsSpec)) rangesKnotsUptoCard

/-- THE SECOND FORM's CARD OF 'klippetop.TopFoldsKeepLayers'. -/
def topFoldsKeepLayersUptoCard : Claim7 := { stood := { row := topFoldsKeepLayersUptoRow, standIns := [], harness := (true, "bd9a968ff1cf2abb3cbdbc0204125c2cded56ce32220f41d655a2349483204eb"), looks := true }, kinds := [], alts := [], laidByText := true, laidKinds := [.data, .data, .data, .sentinel, .sentinel], laidTests := true, laidLooks := .later }
def TopFoldsKeepLayersUptoCardSaid : Prop := Claim7.holds Tryz.pinned (.plain (OpenSpec.upto topFoldsKeepLayersSpec)) topFoldsKeepLayersUptoCard
end Rows
end Go.Proofs.YtbogpbjddaoeiaaGreatDoor
