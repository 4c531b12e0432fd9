/-
  No cell of these rows narrows 'for every input' (looked for: loops, veiled, ifaces, maps, wideKeys, modest, calm, conditions, laid).
  DERIVED. THE GIVEN ROWS OF THIS SEAT. 5 by the template 'for every input the law returns true; each argument reads behind the call as it read before'; 0 by the template 'total and deterministic' (their statements: YtpbfcpnenpcobaaTotals.lean).
  GIVEN WITH THE SEED: the statements are not yours to turn. If you find one false, say at which input.
  Laid BY PROGRAM, IN A SANDBOX (cutbox-rows.mjs): the forced cells as the released guide's own fill.sh prints them over the translation 359ca4b9e6a07717… (all of the seat's roots in one cut). By AI agents, Wed Nov 11 2026. No macro, syntax, notation, axiom, sorry.
-/
import Derived.Test.YtpbfcpnenpcobaaChecked
import GoSem.Claim
import GoSem.ClaimJoined
import GoSem.ClaimMapViews
import Derived.JoinedTies
import Derived.KernelRfl
namespace Go.Proofs.Ytpbfcpnenpcobaa
/- THE CELL 'sum', in the pinned program and in every row, IS THE sha256 OF THE DUMP (.gsa) THAT YtpbfcpnenpcobaaProg.lean LOADS. Nothing in Lean hashes anything: it is a label: what it is worth is what the hold of that sum in a sandbox is worth. -/
noncomputable def Try.pinned : Pinned := { name := "ytpbfcpnenpcobaa", sum := "359ca4b9e6a07717dca2d2ff106ca72c21d6db7f89d4ae95d74a2209610f7b4e", checked := Try.checked }
namespace Rows
def none {H : Type} : Left H := { results := [], args := [] }

/-- 'stamplaw5.WireTells': WHATEVER THE INPUT: true; the input reads as it did. -/
def wireTellsSpec : ChangeSpec := { name := "wireTells", fn := fun _ => fun
  | [d1, d2] => { results := [.lit (.bool true)], args := [d1, d2] }
  | _ => none }
def wireTellsRow : OpenClaim := { program := "ytpbfcpnenpcobaa", sum := "359ca4b9e6a07717dca2d2ff106ca72c21d6db7f89d4ae95d74a2209610f7b4e", func := "stampways/stamplaw5.WireTells", spec := "wireTells", apart := false }
def WireTellsSaid : Prop := wireTellsRow.holds Try.pinned (OpenSpec.ofChange wireTellsSpec)

/-- ITS FALSE NEIGHBOUR: 'it returns false'. Refute it at one input. -/
def wireTellsWrong : ChangeSpec := { name := "wireTells", fn := fun _ => fun
  | [d1, d2] => { results := [.lit (.bool false)], args := [d1, d2] }
  | _ => none }
def WireTellsWrongFalsely : Prop := wireTellsRow.holds Try.pinned (OpenSpec.ofChange wireTellsWrong)

/-- 'stamplaw5.WireTurns': WHATEVER THE INPUT: true; the input reads as it did. -/
def wireTurnsSpec : ChangeSpec := { name := "wireTurns", fn := fun _ => fun
  | [d1, d2] => { results := [.lit (.bool true)], args := [d1, d2] }
  | _ => none }
def wireTurnsRow : OpenClaim := { program := "ytpbfcpnenpcobaa", sum := "359ca4b9e6a07717dca2d2ff106ca72c21d6db7f89d4ae95d74a2209610f7b4e", func := "stampways/stamplaw5.WireTurns", spec := "wireTurns", apart := false }
def WireTurnsSaid : Prop := wireTurnsRow.holds Try.pinned (OpenSpec.ofChange wireTurnsSpec)

/-- ITS FALSE NEIGHBOUR: 'it returns false'. Refute it at one input. -/
def wireTurnsWrong : ChangeSpec := { name := "wireTurns", fn := fun _ => fun
  | [d1, d2] => { results := [.lit (.bool false)], args := [d1, d2] }
  | _ => none }
def WireTurnsWrongFalsely : Prop := wireTurnsRow.holds Try.pinned (OpenSpec.ofChange wireTurnsWrong)

/-- 'stamplaw5.WireSpoilt': WHATEVER THE INPUT: true; the input reads as it did. -/
def wireSpoiltSpec : ChangeSpec := { name := "wireSpoilt", fn := fun _ => fun
  | [d1, d2, d3] => { results := [.lit (.bool true)], args := [d1, d2, d3] }
  | _ => none }
def wireSpoiltRow : OpenClaim := { program := "ytpbfcpnenpcobaa", sum := "359ca4b9e6a07717dca2d2ff106ca72c21d6db7f89d4ae95d74a2209610f7b4e", func := "stampways/stamplaw5.WireSpoilt", spec := "wireSpoilt", apart := false }
def WireSpoiltSaid : Prop := wireSpoiltRow.holds Try.pinned (OpenSpec.ofChange wireSpoiltSpec)

/-- ITS FALSE NEIGHBOUR: 'it returns false'. Refute it at one input. -/
def wireSpoiltWrong : ChangeSpec := { name := "wireSpoilt", fn := fun _ => fun
  | [d1, d2, d3] => { results := [.lit (.bool false)], args := [d1, d2, d3] }
  | _ => none }
def WireSpoiltWrongFalsely : Prop := wireSpoiltRow.holds Try.pinned (OpenSpec.ofChange wireSpoiltWrong)

/-- 'stamplaw5.WireSize': WHATEVER THE INPUT: true; the input reads as it did. -/
def wireSizeSpec : ChangeSpec := { name := "wireSize", fn := fun _ => fun
  | [d] => { results := [.lit (.bool true)], args := [d] }
  | _ => none }
def wireSizeRow : OpenClaim := { program := "ytpbfcpnenpcobaa", sum := "359ca4b9e6a07717dca2d2ff106ca72c21d6db7f89d4ae95d74a2209610f7b4e", func := "stampways/stamplaw5.WireSize", spec := "wireSize", apart := false }
def WireSizeSaid : Prop := wireSizeRow.holds Try.pinned (OpenSpec.ofChange wireSizeSpec)

/-- ITS FALSE NEIGHBOUR: 'it returns false'. Refute it at one input. -/
def wireSizeWrong : ChangeSpec := { name := "wireSize", fn := fun _ => fun
  | [d] => { results := [.lit (.bool false)], args := [d] }
  | _ => none }
def WireSizeWrongFalsely : Prop := wireSizeRow.holds Try.pinned (OpenSpec.ofChange wireSizeWrong)

/-- 'stamptop.Names': WHATEVER THE INPUT: true; the input reads as it did. -/
def namesSpec : ChangeSpec := { name := "names", fn := fun _ => fun
  | [] => { results := [.lit (.bool true)], args := [] }
  | _ => none }
def namesRow : OpenClaim := { program := "ytpbfcpnenpcobaa", sum := "359ca4b9e6a07717dca2d2ff106ca72c21d6db7f89d4ae95d74a2209610f7b4e", func := "stampways/stamptop.Names", spec := "names", apart := false }
def NamesSaid : Prop := namesRow.holds Try.pinned (OpenSpec.ofChange namesSpec)

/-- ITS FALSE NEIGHBOUR: 'it returns false'. Refute it at one input. -/
def namesWrong : ChangeSpec := { name := "names", fn := fun _ => fun
  | [] => { results := [.lit (.bool false)], args := [] }
  | _ => none }
def NamesWrongFalsely : Prop := namesRow.holds Try.pinned (OpenSpec.ofChange namesWrong)

/- THE SECOND FORM. 'bulk': how many values and letters a reading holds, each counted each time it is reached (what is shared counts as often as it is met; a slice's spare places count too). A statement '..UptoSaid' is the law's where the arguments, and the package variables that the reading takes, are together of bulk at most 1048576: NARROWER than '..Said'. Prove '..Said' where nothing that the law and all that it calls make is longer than what came in: it says more and counts as full. Else prove '..UptoSaid'. A law counts once. -/
mutual
def uptoBulk {H : Type} : DataW H → Nat
  | .lit (.string bytes) => bytes.length + 1
  | .lit _ => 1
  | .nil => 1
  | .ptr d => uptoBulk d + 1
  | .slice elems spare => uptoBulkAll elems + uptoBulkAll spare + 1
  | .agg parts => uptoBulkAll parts + 1
  | .iface _ d => uptoBulk d + 1
  | .map entries => uptoBulkEntries entries + 1
  | .held _ => 1
def uptoBulkAll {H : Type} : List (DataW H) → Nat
  | [] => 0
  | d :: r => uptoBulk d + uptoBulkAll r
def uptoBulkEntries {H : Type} : List (Lit × DataW H) → Nat
  | [] => 0
  | x :: r => uptoBulkEntry x + uptoBulkEntries r
def uptoBulkEntry {H : Type} : Lit × DataW H → Nat
  | (.string bytes, d) => bytes.length + uptoBulk d + 1
  | (_, d) => uptoBulk d + 1
 end
def uptoSmall : (H : Type) → List (DataW H) → Bool := fun _ ds => decide (uptoBulkAll ds ≤ 1048576)
def OpenSpec.upto (s : _root_.Go.ChangeSpec) : _root_.Go.OpenSpec := { _root_.Go.OpenSpec.ofChange s with cond := some uptoSmall }

/-- 'stamplaw5.WireTells', WHERE WHAT IT READS IS OF BULK AT MOST 1048576: true; the input reads as it did. -/
def wireTellsUptoRow : OpenClaim := { program := "ytpbfcpnenpcobaa", sum := "359ca4b9e6a07717dca2d2ff106ca72c21d6db7f89d4ae95d74a2209610f7b4e", func := "stampways/stamplaw5.WireTells", spec := "wireTells", apart := false, narrowed := true }
def WireTellsUptoSaid : Prop := wireTellsUptoRow.holds Try.pinned (OpenSpec.upto wireTellsSpec)

/-- 'stamplaw5.WireTurns', WHERE WHAT IT READS IS OF BULK AT MOST 1048576: true; the input reads as it did. -/
def wireTurnsUptoRow : OpenClaim := { program := "ytpbfcpnenpcobaa", sum := "359ca4b9e6a07717dca2d2ff106ca72c21d6db7f89d4ae95d74a2209610f7b4e", func := "stampways/stamplaw5.WireTurns", spec := "wireTurns", apart := false, narrowed := true }
def WireTurnsUptoSaid : Prop := wireTurnsUptoRow.holds Try.pinned (OpenSpec.upto wireTurnsSpec)

/-- 'stamplaw5.WireSpoilt', WHERE WHAT IT READS IS OF BULK AT MOST 1048576: true; the input reads as it did. -/
def wireSpoiltUptoRow : OpenClaim := { program := "ytpbfcpnenpcobaa", sum := "359ca4b9e6a07717dca2d2ff106ca72c21d6db7f89d4ae95d74a2209610f7b4e", func := "stampways/stamplaw5.WireSpoilt", spec := "wireSpoilt", apart := false, narrowed := true }
def WireSpoiltUptoSaid : Prop := wireSpoiltUptoRow.holds Try.pinned (OpenSpec.upto wireSpoiltSpec)

/-- 'stamplaw5.WireSize', WHERE WHAT IT READS IS OF BULK AT MOST 1048576: true; the input reads as it did. -/
def wireSizeUptoRow : OpenClaim := { program := "ytpbfcpnenpcobaa", sum := "359ca4b9e6a07717dca2d2ff106ca72c21d6db7f89d4ae95d74a2209610f7b4e", func := "stampways/stamplaw5.WireSize", spec := "wireSize", apart := false, narrowed := true }
def WireSizeUptoSaid : Prop := wireSizeUptoRow.holds Try.pinned (OpenSpec.upto wireSizeSpec)

/-- 'stamptop.Names', WHERE WHAT IT READS IS OF BULK AT MOST 1048576: true; the input reads as it did. -/
def namesUptoRow : OpenClaim := { program := "ytpbfcpnenpcobaa", sum := "359ca4b9e6a07717dca2d2ff106ca72c21d6db7f89d4ae95d74a2209610f7b4e", func := "stampways/stamptop.Names", spec := "names", apart := false, narrowed := true }
def NamesUptoSaid : Prop := namesUptoRow.holds Try.pinned (OpenSpec.upto namesSpec)

end Rows
end Go.Proofs.Ytpbfcpnenpcobaa
