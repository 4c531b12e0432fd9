/-
  DERIVED. GIVEN WITH THE SEED: THE CARDS: each row of YtampcbncgofkoaaGreatDoorRows.lean that lists a variable, with what it lists TIED to the program's text (the seventh form; the later family's looks); each row that meets fmt, with fmt's text TOLD by the authors' own Lean function (tested against real Go, not proved from fmt's source: count such statements apart). THE CARD IS WHAT COUNTS. Prove the row's statement (the work); the ties are given (YtampcbncgofkoaaGreatDoorTie.lean); close each card by the builder's one call (the guide's Derived/Test/ToyasCard.lean, 'card_holds'). Laid BY PROGRAM, IN A SANDBOX (cutbox-door.mjs). By AI agents, Wed Nov 11 2026. No macro, syntax, notation, axiom, sorry.
-/
import Derived.Test.YtampcbncgofkoaaGreatDoorRows
import GoSem.ClaimSeven
namespace Go.Proofs.YtampcbncgofkoaaGreatDoor
namespace Rows

/-- THE TIED CARD OF 'stamptop.TopText'. -/
def topTextCard : Claim7 := { stood := { row := topTextRow, standIns := [], harness := (true, "5265014b707eced3201de0947c67f1eb4726c1120bb8bed7b0a9bf95406e7553"), looks := true }, kinds := [], alts := [], laidByText := true, laidKinds := [.data, .data, .data, .sentinel, .sentinel], laidTests := true, laidLooks := .later }
def TopTextCardSaid : Prop := Claim7.holds Tryz.pinned (.plain (OpenSpec.ofChange topTextSpec)) topTextCard

/-- THE SECOND FORM's CARD OF 'stamptop.TopText'. -/
def topTextUptoCard : Claim7 := { stood := { row := topTextUptoRow, standIns := [], harness := (true, "5265014b707eced3201de0947c67f1eb4726c1120bb8bed7b0a9bf95406e7553"), looks := true }, kinds := [], alts := [], laidByText := true, laidKinds := [.data, .data, .data, .sentinel, .sentinel], laidTests := true, laidLooks := .later }
def TopTextUptoCardSaid : Prop := Claim7.holds Tryz.pinned (.plain (OpenSpec.upto topTextSpec)) topTextUptoCard
end Rows
end Go.Proofs.YtampcbncgofkoaaGreatDoor
