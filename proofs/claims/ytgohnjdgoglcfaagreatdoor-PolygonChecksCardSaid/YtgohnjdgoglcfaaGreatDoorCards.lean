/-
  DERIVED. GIVEN WITH THE SEED: THE CARDS: each row of YtgohnjdgoglcfaaGreatDoorRows.lean that lists a variable, with what it lists TIED to the program's text (the seventh form; the later family's looks); each row that meets fmt, with fmt's text TOLD by the authors' own Lean function (tested against real Go, not proved from fmt's source: count such statements apart). THE CARD IS WHAT COUNTS. Prove the row's statement (the work); the ties are given (YtgohnjdgoglcfaaGreatDoorTie.lean); close each card by the builder's one call (the guide's Derived/Test/ToyasCard.lean, 'card_holds'). Laid BY PROGRAM, IN A SANDBOX (cutbox-door.mjs). By AI agents, Wed Nov 11 2026. No macro, syntax, notation, axiom, sorry.
-/
import Derived.Test.YtgohnjdgoglcfaaGreatDoorRows
import GoSem.ClaimSeven
namespace Go.Proofs.YtgohnjdgoglcfaaGreatDoor
namespace Rows

/-- THE TIED CARD OF 'klippelaw09.PolygonHulls'. -/
def polygonHullsCard : Claim7 := { stood := { row := polygonHullsRow, standIns := [], harness := (true, "fcdcc097a8d9d39517c91af360935f07c46ed3ec5ce8b2d6756baf6ebeba1e53"), looks := true }, kinds := [], alts := [], laidByText := true, laidKinds := [.data, .data, .data, .sentinel, .sentinel], laidTests := true, laidLooks := .later }
def PolygonHullsCardSaid : Prop := Claim7.holds Tryz.pinned (.plain (OpenSpec.ofChange polygonHullsSpec)) polygonHullsCard

/-- THE TIED CARD OF 'klippelaw09.PolygonChords'. -/
def polygonChordsCard : Claim7 := { stood := { row := polygonChordsRow, standIns := [], harness := (true, "fcdcc097a8d9d39517c91af360935f07c46ed3ec5ce8b2d6756baf6ebeba1e53"), looks := true }, kinds := [], alts := [], laidByText := true, laidKinds := [.data, .data, .data, .sentinel, .sentinel], laidTests := true, laidLooks := .later }
def PolygonChordsCardSaid : Prop := Claim7.holds Tryz.pinned (.plain (OpenSpec.ofChange polygonChordsSpec)) polygonChordsCard

/-- THE TIED CARD OF 'klippelaw09.PolygonMeasures'. -/
def polygonMeasuresCard : Claim7 := { stood := { row := polygonMeasuresRow, standIns := [], harness := (true, "fcdcc097a8d9d39517c91af360935f07c46ed3ec5ce8b2d6756baf6ebeba1e53"), looks := true }, kinds := [], alts := [], laidByText := true, laidKinds := [.data, .data, .data, .sentinel, .sentinel], laidTests := true, laidLooks := .later }
def PolygonMeasuresCardSaid : Prop := Claim7.holds Tryz.pinned (.plain (OpenSpec.ofChange polygonMeasuresSpec)) polygonMeasuresCard

/-- THE TIED CARD OF 'klippelaw09.PolygonWhere'. -/
def polygonWhereCard : Claim7 := { stood := { row := polygonWhereRow, standIns := [], harness := (true, "fcdcc097a8d9d39517c91af360935f07c46ed3ec5ce8b2d6756baf6ebeba1e53"), looks := true }, kinds := [], alts := [], laidByText := true, laidKinds := [.data, .data, .data, .sentinel, .sentinel], laidTests := true, laidLooks := .later }
def PolygonWhereCardSaid : Prop := Claim7.holds Tryz.pinned (.plain (OpenSpec.ofChange polygonWhereSpec)) polygonWhereCard

/-- THE TIED CARD OF 'klippelaw09.PolygonClips'. -/
def polygonClipsCard : Claim7 := { stood := { row := polygonClipsRow, standIns := [], harness := (true, "fcdcc097a8d9d39517c91af360935f07c46ed3ec5ce8b2d6756baf6ebeba1e53"), looks := true }, kinds := [], alts := [], laidByText := true, laidKinds := [.data, .data, .data, .sentinel, .sentinel], laidTests := true, laidLooks := .later }
def PolygonClipsCardSaid : Prop := Claim7.holds Tryz.pinned (.plain (OpenSpec.ofChange polygonClipsSpec)) polygonClipsCard

/-- THE TIED CARD OF 'klippelaw09.PolygonMeets'. -/
def polygonMeetsCard : Claim7 := { stood := { row := polygonMeetsRow, standIns := [], harness := (true, "fcdcc097a8d9d39517c91af360935f07c46ed3ec5ce8b2d6756baf6ebeba1e53"), looks := true }, kinds := [], alts := [], laidByText := true, laidKinds := [.data, .data, .data, .sentinel, .sentinel], laidTests := true, laidLooks := .later }
def PolygonMeetsCardSaid : Prop := Claim7.holds Tryz.pinned (.plain (OpenSpec.ofChange polygonMeetsSpec)) polygonMeetsCard

/-- THE TIED CARD OF 'klippelaw09.PolygonMaps'. -/
def polygonMapsCard : Claim7 := { stood := { row := polygonMapsRow, standIns := [], harness := (true, "fcdcc097a8d9d39517c91af360935f07c46ed3ec5ce8b2d6756baf6ebeba1e53"), looks := true }, kinds := [], alts := [], laidByText := true, laidKinds := [.data, .data, .data, .sentinel, .sentinel], laidTests := true, laidLooks := .later }
def PolygonMapsCardSaid : Prop := Claim7.holds Tryz.pinned (.plain (OpenSpec.ofChange polygonMapsSpec)) polygonMapsCard

/-- THE TIED CARD OF 'klippelaw09.PolygonLaws'. -/
def polygonLawsCard : Claim7 := { stood := { row := polygonLawsRow, standIns := [], harness := (true, "fcdcc097a8d9d39517c91af360935f07c46ed3ec5ce8b2d6756baf6ebeba1e53"), looks := true }, kinds := [], alts := [], laidByText := true, laidKinds := [.data, .data, .data, .sentinel, .sentinel], laidTests := true, laidLooks := .later }
def PolygonLawsCardSaid : Prop := Claim7.holds Tryz.pinned (.plain (OpenSpec.ofChange polygonLawsSpec)) polygonLawsCard

/-- THE TIED CARD OF 'klippelaw09.PolygonChecks'. -/
def polygonChecksCard : Claim7 := { stood := { row := polygonChecksRow, standIns := [], harness := (true, "fcdcc097a8d9d39517c91af360935f07c46ed3ec5ce8b2d6756baf6ebeba1e53"), looks := true }, kinds := [], alts := [], laidByText := true, laidKinds := [.data, .data, .data, .sentinel, .sentinel], laidTests := true, laidLooks := .later }
def PolygonChecksCardSaid : Prop := Claim7.holds Tryz.pinned (.plain (OpenSpec.ofChange polygonChecksSpec)) polygonChecksCard

/-- THE SECOND FORM's CARD OF 'klippelaw09.PolygonHulls'. -/
def polygonHullsUptoCard : Claim7 := { stood := { row := polygonHullsUptoRow, standIns := [], harness := (true, "fcdcc097a8d9d39517c91af360935f07c46ed3ec5ce8b2d6756baf6ebeba1e53"), looks := true }, kinds := [], alts := [], laidByText := true, laidKinds := [.data, .data, .data, .sentinel, .sentinel], laidTests := true, laidLooks := .later }
def PolygonHullsUptoCardSaid : Prop := Claim7.holds Tryz.pinned (.plain (OpenSpec.upto polygonHullsSpec)) polygonHullsUptoCard

/-- THE SECOND FORM's CARD OF 'klippelaw09.PolygonChords'. -/
def polygonChordsUptoCard : Claim7 := { stood := { row := polygonChordsUptoRow, standIns := [], harness := (true, "fcdcc097a8d9d39517c91af360935f07c46ed3ec5ce8b2d6756baf6ebeba1e53"), looks := true }, kinds := [], alts := [], laidByText := true, laidKinds := [.data, .data, .data, .sentinel, .sentinel], laidTests := true, laidLooks := .later }
def PolygonChordsUptoCardSaid : Prop := Claim7.holds Tryz.pinned (.plain (OpenSpec.upto polygonChordsSpec)) polygonChordsUptoCard

/-- THE SECOND FORM's CARD OF 'klippelaw09.PolygonMeasures'. -/
def polygonMeasuresUptoCard : Claim7 := { stood := { row := polygonMeasuresUptoRow, standIns := [], harness := (true, "fcdcc097a8d9d39517c91af360935f07c46ed3ec5ce8b2d6756baf6ebeba1e53"), looks := true }, kinds := [], alts := [], laidByText := true, laidKinds := [.data, .data, .data, .sentinel, .sentinel], laidTests := true, laidLooks := .later }
def PolygonMeasuresUptoCardSaid : Prop := Claim7.holds Tryz.pinned (.plain (OpenSpec.upto polygonMeasuresSpec)) polygonMeasuresUptoCard

/-- THE SECOND FORM's CARD OF 'klippelaw09.PolygonWhere'. -/
def polygonWhereUptoCard : Claim7 := { stood := { row := polygonWhereUptoRow, standIns := [], harness := (true, "fcdcc097a8d9d39517c91af360935f07c46ed3ec5ce8b2d6756baf6ebeba1e53"), looks := true }, kinds := [], alts := [], laidByText := true, laidKinds := [.data, .data, .data, .sentinel, .sentinel], laidTests := true, laidLooks := .later }
def PolygonWhereUptoCardSaid : Prop := Claim7.holds Tryz.pinned (.plain (OpenSpec.upto polygonWhereSpec)) polygonWhereUptoCard

/-- THE SECOND FORM's CARD OF 'klippelaw09.PolygonClips'. -/
def polygonClipsUptoCard : Claim7 := { stood := { row := polygonClipsUptoRow, standIns := [], harness := (true, "fcdcc097a8d9d39517c91af360935f07c46ed3ec5ce8b2d6756baf6ebeba1e53"), looks := true }, kinds := [], alts := [], laidByText := true, laidKinds := [.data, .data, .data, .sentinel, .sentinel], laidTests := true, laidLooks := .later }
def PolygonClipsUptoCardSaid : Prop := Claim7.holds Tryz.pinned (.plain (OpenSpec.upto polygonClipsSpec)) polygonClipsUptoCard

/-- THE SECOND FORM's CARD OF 'klippelaw09.PolygonMeets'. -/
def polygonMeetsUptoCard : Claim7 := { stood := { row := polygonMeetsUptoRow, standIns := [], harness := (true, "fcdcc097a8d9d39517c91af360935f07c46ed3ec5ce8b2d6756baf6ebeba1e53"), looks := true }, kinds := [], alts := [], laidByText := true, laidKinds := [.data, .data, .data, .sentinel, .sentinel], laidTests := true, laidLooks := .later }
def PolygonMeetsUptoCardSaid : Prop := Claim7.holds Tryz.pinned (.plain (OpenSpec.upto polygonMeetsSpec)) polygonMeetsUptoCard

/-- THE SECOND FORM's CARD OF 'klippelaw09.PolygonMaps'. -/
def polygonMapsUptoCard : Claim7 := { stood := { row := polygonMapsUptoRow, standIns := [], harness := (true, "fcdcc097a8d9d39517c91af360935f07c46ed3ec5ce8b2d6756baf6ebeba1e53"), looks := true }, kinds := [], alts := [], laidByText := true, laidKinds := [.data, .data, .data, .sentinel, .sentinel], laidTests := true, laidLooks := .later }
def PolygonMapsUptoCardSaid : Prop := Claim7.holds Tryz.pinned (.plain (OpenSpec.upto polygonMapsSpec)) polygonMapsUptoCard

/-- THE SECOND FORM's CARD OF 'klippelaw09.PolygonLaws'. -/
def polygonLawsUptoCard : Claim7 := { stood := { row := polygonLawsUptoRow, standIns := [], harness := (true, "fcdcc097a8d9d39517c91af360935f07c46ed3ec5ce8b2d6756baf6ebeba1e53"), looks := true }, kinds := [], alts := [], laidByText := true, laidKinds := [.data, .data, .data, .sentinel, .sentinel], laidTests := true, laidLooks := .later }
def PolygonLawsUptoCardSaid : Prop := Claim7.holds Tryz.pinned (.plain (OpenSpec.upto polygonLawsSpec)) polygonLawsUptoCard

/-- THE SECOND FORM's CARD OF 'klippelaw09.PolygonChecks'. -/
def polygonChecksUptoCard : Claim7 := { stood := { row := polygonChecksUptoRow, standIns := [], harness := (true, "fcdcc097a8d9d39517c91af360935f07c46ed3ec5ce8b2d6756baf6ebeba1e53"), looks := true }, kinds := [], alts := [], laidByText := true, laidKinds := [.data, .data, .data, .sentinel, .sentinel], laidTests := true, laidLooks := .later }
def PolygonChecksUptoCardSaid : Prop := Claim7.holds Tryz.pinned (.plain (OpenSpec.upto polygonChecksSpec)) polygonChecksUptoCard
end Rows
end Go.Proofs.YtgohnjdgoglcfaaGreatDoor
