/-
  DERIVED. GIVEN WITH THE SEED: THE CARDS: each row of YtpfapfgfchenoaaDoorRows.lean that lists a variable, with what it lists TIED to the program's text (the seventh form; the later family's looks); each row that meets fmt, with fmt's text TOLD by the authors' own Lean function (tested against real Go, not proved from fmt's source: count such statements apart). THE CARD IS WHAT COUNTS. Prove the row's statement (the work); the ties are given (YtpfapfgfchenoaaDoorTie.lean); close each card by the builder's one call (the guide's Derived/Test/ToyasCard.lean, 'card_holds'). Laid BY PROGRAM, IN A SANDBOX (cutbox-door.mjs). By AI agents, Wed Nov 11 2026. No macro, syntax, notation, axiom, sorry.
-/
import Derived.Test.YtpfapfgfchenoaaDoorRows
import GoSem.ClaimSeven
namespace Go.Proofs.YtpfapfgfchenoaaDoor
namespace Rows

/-- THE TIED CARD OF 'stamplaw2.FlowTells'. -/
def flowTellsCard : Claim7 := { stood := { row := flowTellsRow, standIns := [], harness := (true, "ad9a8f11dd06350ec6c2243f650b8fac3cd5d000dd72d700f1536df5205717f2"), looks := true }, kinds := [], alts := [], laidByText := true, laidKinds := [.data, .data, .data, .sentinel, .sentinel], laidTests := true, laidLooks := .later }
def FlowTellsCardSaid : Prop := Claim7.holds Tryd.pinned (.plain (OpenSpec.ofChange flowTellsSpec)) flowTellsCard

/-- THE TIED CARD OF 'stamplaw2.FlowTurns'. -/
def flowTurnsCard : Claim7 := { stood := { row := flowTurnsRow, standIns := [], harness := (true, "ad9a8f11dd06350ec6c2243f650b8fac3cd5d000dd72d700f1536df5205717f2"), looks := true }, kinds := [], alts := [], laidByText := true, laidKinds := [.data, .data, .data, .sentinel, .sentinel], laidTests := true, laidLooks := .later }
def FlowTurnsCardSaid : Prop := Claim7.holds Tryd.pinned (.plain (OpenSpec.ofChange flowTurnsSpec)) flowTurnsCard

/-- THE TIED CARD OF 'stamplaw2.FlowJoined'. -/
def flowJoinedCard : Claim7 := { stood := { row := flowJoinedRow, standIns := [], harness := (true, "ad9a8f11dd06350ec6c2243f650b8fac3cd5d000dd72d700f1536df5205717f2"), looks := true }, kinds := [], alts := [], laidByText := true, laidKinds := [.data, .data, .data, .sentinel, .sentinel], laidTests := true, laidLooks := .later }
def FlowJoinedCardSaid : Prop := Claim7.holds Tryd.pinned (.plain (OpenSpec.ofChange flowJoinedSpec)) flowJoinedCard

/-- THE SECOND FORM's CARD OF 'stamplaw2.FlowTells'. -/
def flowTellsUptoCard : Claim7 := { stood := { row := flowTellsUptoRow, standIns := [], harness := (true, "ad9a8f11dd06350ec6c2243f650b8fac3cd5d000dd72d700f1536df5205717f2"), looks := true }, kinds := [], alts := [], laidByText := true, laidKinds := [.data, .data, .data, .sentinel, .sentinel], laidTests := true, laidLooks := .later }
def FlowTellsUptoCardSaid : Prop := Claim7.holds Tryd.pinned (.plain (OpenSpec.upto flowTellsSpec)) flowTellsUptoCard

/-- THE SECOND FORM's CARD OF 'stamplaw2.FlowTurns'. -/
def flowTurnsUptoCard : Claim7 := { stood := { row := flowTurnsUptoRow, standIns := [], harness := (true, "ad9a8f11dd06350ec6c2243f650b8fac3cd5d000dd72d700f1536df5205717f2"), looks := true }, kinds := [], alts := [], laidByText := true, laidKinds := [.data, .data, .data, .sentinel, .sentinel], laidTests := true, laidLooks := .later }
def FlowTurnsUptoCardSaid : Prop := Claim7.holds Tryd.pinned (.plain (OpenSpec.upto flowTurnsSpec)) flowTurnsUptoCard

/-- THE SECOND FORM's CARD OF 'stamplaw2.FlowJoined'. -/
def flowJoinedUptoCard : Claim7 := { stood := { row := flowJoinedUptoRow, standIns := [], harness := (true, "ad9a8f11dd06350ec6c2243f650b8fac3cd5d000dd72d700f1536df5205717f2"), looks := true }, kinds := [], alts := [], laidByText := true, laidKinds := [.data, .data, .data, .sentinel, .sentinel], laidTests := true, laidLooks := .later }
def FlowJoinedUptoCardSaid : Prop := Claim7.holds Tryd.pinned (.plain (OpenSpec.upto flowJoinedSpec)) flowJoinedUptoCard
end Rows
end Go.Proofs.YtpfapfgfchenoaaDoor
