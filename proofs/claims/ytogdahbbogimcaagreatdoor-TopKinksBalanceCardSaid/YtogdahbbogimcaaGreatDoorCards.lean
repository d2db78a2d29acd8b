/-
  DERIVED. GIVEN WITH THE SEED: THE CARDS: each row of YtogdahbbogimcaaGreatDoorRows.lean that lists a variable, with what it lists TIED to the program's text (the seventh form; the later family's looks); each row that meets fmt, with fmt's text TOLD by the authors' own Lean function (tested against real Go, not proved from fmt's source: count such statements apart). THE CARD IS WHAT COUNTS. Prove the row's statement (the work); the ties are given (YtogdahbbogimcaaGreatDoorTie.lean); close each card by the builder's one call (the guide's Derived/Test/ToyasCard.lean, 'card_holds'). Laid BY PROGRAM, IN A SANDBOX (cutbox-door.mjs). By AI agents, Wed Nov 11 2026. No macro, syntax, notation, axiom, sorry.
-/
import Derived.Test.YtogdahbbogimcaaGreatDoorRows
import GoSem.ClaimSeven
namespace Go.Proofs.YtogdahbbogimcaaGreatDoor
namespace Rows

/-- THE TIED CARD OF 'klippetop.TopKinksBalance'. -/
def topKinksBalanceCard : Claim7 := { stood := { row := topKinksBalanceRow, standIns := [], harness := (true, "9e03d7c2ad63380f9ba1ffb6606a0acf64216a1bc17b8e35fe8bd61cc27407be"), looks := true }, kinds := [], alts := [], laidByText := true, laidKinds := [.data, .data, .data, .sentinel, .sentinel], laidTests := true, laidLooks := .later }
def TopKinksBalanceCardSaid : Prop := Claim7.holds Tryz.pinned (.plain (OpenSpec.ofChange topKinksBalanceSpec)) topKinksBalanceCard

/-- THE SECOND FORM's CARD OF 'klippetop.TopKinksBalance'. -/
def topKinksBalanceUptoCard : Claim7 := { stood := { row := topKinksBalanceUptoRow, standIns := [], harness := (true, "9e03d7c2ad63380f9ba1ffb6606a0acf64216a1bc17b8e35fe8bd61cc27407be"), looks := true }, kinds := [], alts := [], laidByText := true, laidKinds := [.data, .data, .data, .sentinel, .sentinel], laidTests := true, laidLooks := .later }
def TopKinksBalanceUptoCardSaid : Prop := Claim7.holds Tryz.pinned (.plain (OpenSpec.upto topKinksBalanceSpec)) topKinksBalanceUptoCard
end Rows
end Go.Proofs.YtogdahbbogimcaaGreatDoor
