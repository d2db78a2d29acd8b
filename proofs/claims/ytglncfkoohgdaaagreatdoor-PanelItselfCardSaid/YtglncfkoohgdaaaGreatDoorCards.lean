/-
  DERIVED. GIVEN WITH THE SEED: THE CARDS: each row of YtglncfkoohgdaaaGreatDoorRows.lean that lists a variable, with what it lists TIED to the program's text (the seventh form; the later family's looks); each row that meets fmt, with fmt's text TOLD by the authors' own Lean function (tested against real Go, not proved from fmt's source: count such statements apart). THE CARD IS WHAT COUNTS. Prove the row's statement (the work); the ties are given (YtglncfkoohgdaaaGreatDoorTie.lean); close each card by the builder's one call (the guide's Derived/Test/ToyasCard.lean, 'card_holds'). Laid BY PROGRAM, IN A SANDBOX (cutbox-door.mjs). By AI agents, Wed Nov 11 2026. No macro, syntax, notation, axiom, sorry.
-/
import Derived.Test.YtglncfkoohgdaaaGreatDoorRows
import GoSem.ClaimSeven
namespace Go.Proofs.YtglncfkoohgdaaaGreatDoor
namespace Rows

/-- THE TIED CARD OF 'klippelaw45.PanelLess'. -/
def panelLessCard : Claim7 := { stood := { row := panelLessRow, standIns := [], harness := (true, "463a352a4857e39528a19b4c6df00ce5816c075c7925d39ba192e5390499e84a"), looks := true }, kinds := [], alts := [], laidByText := true, laidKinds := [.data, .data, .data, .sentinel, .sentinel], laidTests := true, laidLooks := .later }
def PanelLessCardSaid : Prop := Claim7.holds Tryz.pinned (.plain (OpenSpec.ofChange panelLessSpec)) panelLessCard

/-- THE TIED CARD OF 'klippelaw45.PanelLinks'. -/
def panelLinksCard : Claim7 := { stood := { row := panelLinksRow, standIns := [], harness := (true, "463a352a4857e39528a19b4c6df00ce5816c075c7925d39ba192e5390499e84a"), looks := true }, kinds := [], alts := [], laidByText := true, laidKinds := [.data, .data, .data, .sentinel, .sentinel], laidTests := true, laidLooks := .later }
def PanelLinksCardSaid : Prop := Claim7.holds Tryz.pinned (.plain (OpenSpec.ofChange panelLinksSpec)) panelLinksCard

/-- THE TIED CARD OF 'klippelaw45.PanelBodies'. -/
def panelBodiesCard : Claim7 := { stood := { row := panelBodiesRow, standIns := [], harness := (true, "463a352a4857e39528a19b4c6df00ce5816c075c7925d39ba192e5390499e84a"), looks := true }, kinds := [], alts := [], laidByText := true, laidKinds := [.data, .data, .data, .sentinel, .sentinel], laidTests := true, laidLooks := .later }
def PanelBodiesCardSaid : Prop := Claim7.holds Tryz.pinned (.plain (OpenSpec.ofChange panelBodiesSpec)) panelBodiesCard

/-- THE TIED CARD OF 'klippelaw45.PanelPlaces'. -/
def panelPlacesCard : Claim7 := { stood := { row := panelPlacesRow, standIns := [], harness := (true, "463a352a4857e39528a19b4c6df00ce5816c075c7925d39ba192e5390499e84a"), looks := true }, kinds := [], alts := [], laidByText := true, laidKinds := [.data, .data, .data, .sentinel, .sentinel], laidTests := true, laidLooks := .later }
def PanelPlacesCardSaid : Prop := Claim7.holds Tryz.pinned (.plain (OpenSpec.ofChange panelPlacesSpec)) panelPlacesCard

/-- THE TIED CARD OF 'klippelaw45.PanelCovers'. -/
def panelCoversCard : Claim7 := { stood := { row := panelCoversRow, standIns := [], harness := (true, "463a352a4857e39528a19b4c6df00ce5816c075c7925d39ba192e5390499e84a"), looks := true }, kinds := [], alts := [], laidByText := true, laidKinds := [.data, .data, .data, .sentinel, .sentinel], laidTests := true, laidLooks := .later }
def PanelCoversCardSaid : Prop := Claim7.holds Tryz.pinned (.plain (OpenSpec.ofChange panelCoversSpec)) panelCoversCard

/-- THE TIED CARD OF 'klippelaw45.PanelBeds'. -/
def panelBedsCard : Claim7 := { stood := { row := panelBedsRow, standIns := [], harness := (true, "463a352a4857e39528a19b4c6df00ce5816c075c7925d39ba192e5390499e84a"), looks := true }, kinds := [], alts := [], laidByText := true, laidKinds := [.data, .data, .data, .sentinel, .sentinel], laidTests := true, laidLooks := .later }
def PanelBedsCardSaid : Prop := Claim7.holds Tryz.pinned (.plain (OpenSpec.ofChange panelBedsSpec)) panelBedsCard

/-- THE TIED CARD OF 'klippelaw45.PanelItself'. -/
def panelItselfCard : Claim7 := { stood := { row := panelItselfRow, standIns := [], harness := (true, "463a352a4857e39528a19b4c6df00ce5816c075c7925d39ba192e5390499e84a"), looks := true }, kinds := [], alts := [], laidByText := true, laidKinds := [.data, .data, .data, .sentinel, .sentinel], laidTests := true, laidLooks := .later }
def PanelItselfCardSaid : Prop := Claim7.holds Tryz.pinned (.plain (OpenSpec.ofChange panelItselfSpec)) panelItselfCard

/-- THE TIED CARD OF 'klippelaw45.PanelContradicts'. -/
def panelContradictsCard : Claim7 := { stood := { row := panelContradictsRow, standIns := [], harness := (true, "463a352a4857e39528a19b4c6df00ce5816c075c7925d39ba192e5390499e84a"), looks := true }, kinds := [], alts := [], laidByText := true, laidKinds := [.data, .data, .data, .sentinel, .sentinel], laidTests := true, laidLooks := .later }
def PanelContradictsCardSaid : Prop := Claim7.holds Tryz.pinned (.plain (OpenSpec.ofChange panelContradictsSpec)) panelContradictsCard

/-- THE TIED CARD OF 'klippelaw45.PanelChecks'. -/
def panelChecksCard : Claim7 := { stood := { row := panelChecksRow, standIns := [], harness := (true, "463a352a4857e39528a19b4c6df00ce5816c075c7925d39ba192e5390499e84a"), looks := true }, kinds := [], alts := [], laidByText := true, laidKinds := [.data, .data, .data, .sentinel, .sentinel], laidTests := true, laidLooks := .later }
def PanelChecksCardSaid : Prop := Claim7.holds Tryz.pinned (.plain (OpenSpec.ofChange panelChecksSpec)) panelChecksCard

/-- THE SECOND FORM's CARD OF 'klippelaw45.PanelLess'. -/
def panelLessUptoCard : Claim7 := { stood := { row := panelLessUptoRow, standIns := [], harness := (true, "463a352a4857e39528a19b4c6df00ce5816c075c7925d39ba192e5390499e84a"), looks := true }, kinds := [], alts := [], laidByText := true, laidKinds := [.data, .data, .data, .sentinel, .sentinel], laidTests := true, laidLooks := .later }
def PanelLessUptoCardSaid : Prop := Claim7.holds Tryz.pinned (.plain (OpenSpec.upto panelLessSpec)) panelLessUptoCard

/-- THE SECOND FORM's CARD OF 'klippelaw45.PanelLinks'. -/
def panelLinksUptoCard : Claim7 := { stood := { row := panelLinksUptoRow, standIns := [], harness := (true, "463a352a4857e39528a19b4c6df00ce5816c075c7925d39ba192e5390499e84a"), looks := true }, kinds := [], alts := [], laidByText := true, laidKinds := [.data, .data, .data, .sentinel, .sentinel], laidTests := true, laidLooks := .later }
def PanelLinksUptoCardSaid : Prop := Claim7.holds Tryz.pinned (.plain (OpenSpec.upto panelLinksSpec)) panelLinksUptoCard

/-- THE SECOND FORM's CARD OF 'klippelaw45.PanelBodies'. -/
def panelBodiesUptoCard : Claim7 := { stood := { row := panelBodiesUptoRow, standIns := [], harness := (true, "463a352a4857e39528a19b4c6df00ce5816c075c7925d39ba192e5390499e84a"), looks := true }, kinds := [], alts := [], laidByText := true, laidKinds := [.data, .data, .data, .sentinel, .sentinel], laidTests := true, laidLooks := .later }
def PanelBodiesUptoCardSaid : Prop := Claim7.holds Tryz.pinned (.plain (OpenSpec.upto panelBodiesSpec)) panelBodiesUptoCard

/-- THE SECOND FORM's CARD OF 'klippelaw45.PanelPlaces'. -/
def panelPlacesUptoCard : Claim7 := { stood := { row := panelPlacesUptoRow, standIns := [], harness := (true, "463a352a4857e39528a19b4c6df00ce5816c075c7925d39ba192e5390499e84a"), looks := true }, kinds := [], alts := [], laidByText := true, laidKinds := [.data, .data, .data, .sentinel, .sentinel], laidTests := true, laidLooks := .later }
def PanelPlacesUptoCardSaid : Prop := Claim7.holds Tryz.pinned (.plain (OpenSpec.upto panelPlacesSpec)) panelPlacesUptoCard

/-- THE SECOND FORM's CARD OF 'klippelaw45.PanelCovers'. -/
def panelCoversUptoCard : Claim7 := { stood := { row := panelCoversUptoRow, standIns := [], harness := (true, "463a352a4857e39528a19b4c6df00ce5816c075c7925d39ba192e5390499e84a"), looks := true }, kinds := [], alts := [], laidByText := true, laidKinds := [.data, .data, .data, .sentinel, .sentinel], laidTests := true, laidLooks := .later }
def PanelCoversUptoCardSaid : Prop := Claim7.holds Tryz.pinned (.plain (OpenSpec.upto panelCoversSpec)) panelCoversUptoCard

/-- THE SECOND FORM's CARD OF 'klippelaw45.PanelBeds'. -/
def panelBedsUptoCard : Claim7 := { stood := { row := panelBedsUptoRow, standIns := [], harness := (true, "463a352a4857e39528a19b4c6df00ce5816c075c7925d39ba192e5390499e84a"), looks := true }, kinds := [], alts := [], laidByText := true, laidKinds := [.data, .data, .data, .sentinel, .sentinel], laidTests := true, laidLooks := .later }
def PanelBedsUptoCardSaid : Prop := Claim7.holds Tryz.pinned (.plain (OpenSpec.upto panelBedsSpec)) panelBedsUptoCard

/-- THE SECOND FORM's CARD OF 'klippelaw45.PanelItself'. -/
def panelItselfUptoCard : Claim7 := { stood := { row := panelItselfUptoRow, standIns := [], harness := (true, "463a352a4857e39528a19b4c6df00ce5816c075c7925d39ba192e5390499e84a"), looks := true }, kinds := [], alts := [], laidByText := true, laidKinds := [.data, .data, .data, .sentinel, .sentinel], laidTests := true, laidLooks := .later }
def PanelItselfUptoCardSaid : Prop := Claim7.holds Tryz.pinned (.plain (OpenSpec.upto panelItselfSpec)) panelItselfUptoCard

/-- THE SECOND FORM's CARD OF 'klippelaw45.PanelContradicts'. -/
def panelContradictsUptoCard : Claim7 := { stood := { row := panelContradictsUptoRow, standIns := [], harness := (true, "463a352a4857e39528a19b4c6df00ce5816c075c7925d39ba192e5390499e84a"), looks := true }, kinds := [], alts := [], laidByText := true, laidKinds := [.data, .data, .data, .sentinel, .sentinel], laidTests := true, laidLooks := .later }
def PanelContradictsUptoCardSaid : Prop := Claim7.holds Tryz.pinned (.plain (OpenSpec.upto panelContradictsSpec)) panelContradictsUptoCard

/-- THE SECOND FORM's CARD OF 'klippelaw45.PanelChecks'. -/
def panelChecksUptoCard : Claim7 := { stood := { row := panelChecksUptoRow, standIns := [], harness := (true, "463a352a4857e39528a19b4c6df00ce5816c075c7925d39ba192e5390499e84a"), looks := true }, kinds := [], alts := [], laidByText := true, laidKinds := [.data, .data, .data, .sentinel, .sentinel], laidTests := true, laidLooks := .later }
def PanelChecksUptoCardSaid : Prop := Claim7.holds Tryz.pinned (.plain (OpenSpec.upto panelChecksSpec)) panelChecksUptoCard
end Rows
end Go.Proofs.YtglncfkoohgdaaaGreatDoor
