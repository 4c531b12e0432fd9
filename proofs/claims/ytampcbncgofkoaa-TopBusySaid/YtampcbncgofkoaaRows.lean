/-
  No cell of these rows narrows 'for every input' (looked for: loops, veiled, ifaces, maps, wideKeys, modest, calm, conditions, laid).
  DERIVED. THE GIVEN ROWS OF THIS SEAT. 6 by the template 'for every input the law returns true; each argument reads behind the call as it read before'; 0 by the template 'total and deterministic' (their statements: YtampcbncgofkoaaTotals.lean).
  GIVEN WITH THE SEED: the statements are not yours to turn. If you find one false, say at which input.
  Laid BY PROGRAM, IN A SANDBOX (cutbox-rows.mjs): the forced cells as the released guide's own fill.sh prints them over the translation ff5855484fa2cf8a… (all of the seat's roots in one cut). By AI agents, Wed Nov 11 2026. No macro, syntax, notation, axiom, sorry.
-/
import Derived.Test.YtampcbncgofkoaaChecked
import GoSem.Claim
import GoSem.ClaimJoined
import GoSem.ClaimMapViews
import Derived.JoinedTies
import Derived.KernelRfl
namespace Go.Proofs.Ytampcbncgofkoaa
/- THE CELL 'sum', in the pinned program and in every row, IS THE sha256 OF THE DUMP (.gsa) THAT YtampcbncgofkoaaProg.lean LOADS. Nothing in Lean hashes anything: it is a label: what it is worth is what the hold of that sum in a sandbox is worth. -/
noncomputable def Try.pinned : Pinned := { name := "ytampcbncgofkoaa", sum := "ff5855484fa2cf8ab44e26d4ad894edf484117a7908b146f75e12761f5af5c49", checked := Try.checked }
namespace Rows
def none {H : Type} : Left H := { results := [], args := [] }

/-- 'stamptop.TopTwo': WHATEVER THE INPUT: true; the input reads as it did. -/
def topTwoSpec : ChangeSpec := { name := "topTwo", fn := fun _ => fun
  | [d1, d2, d3, d4, d5] => { results := [.lit (.bool true)], args := [d1, d2, d3, d4, d5] }
  | _ => none }
def topTwoRow : OpenClaim := { program := "ytampcbncgofkoaa", sum := "ff5855484fa2cf8ab44e26d4ad894edf484117a7908b146f75e12761f5af5c49", func := "stampways/stamptop.TopTwo", spec := "topTwo", inPlace := ["slices.overlaps[stampways/api.Stamp]"], unfollowed := true, recurses := true, plainKeys := false, apart := false }
def TopTwoSaid : Prop := topTwoRow.holds Try.pinned (OpenSpec.ofChange topTwoSpec)

/-- ITS FALSE NEIGHBOUR: 'it returns false'. Refute it at one input. -/
def topTwoWrong : ChangeSpec := { name := "topTwo", fn := fun _ => fun
  | [d1, d2, d3, d4, d5] => { results := [.lit (.bool false)], args := [d1, d2, d3, d4, d5] }
  | _ => none }
def TopTwoWrongFalsely : Prop := topTwoRow.holds Try.pinned (OpenSpec.ofChange topTwoWrong)

/-- 'stamptop.TopFull': WHATEVER THE INPUT: true; the input reads as it did. -/
def topFullSpec : ChangeSpec := { name := "topFull", fn := fun _ => fun
  | [d1, d2] => { results := [.lit (.bool true)], args := [d1, d2] }
  | _ => none }
def topFullRow : OpenClaim := { program := "ytampcbncgofkoaa", sum := "ff5855484fa2cf8ab44e26d4ad894edf484117a7908b146f75e12761f5af5c49", func := "stampways/stamptop.TopFull", spec := "topFull", inPlace := ["slices.overlaps[stampways/api.Stamp]"], unfollowed := true, recurses := true, plainKeys := false, apart := false }
def TopFullSaid : Prop := topFullRow.holds Try.pinned (OpenSpec.ofChange topFullSpec)

/-- ITS FALSE NEIGHBOUR: 'it returns false'. Refute it at one input. -/
def topFullWrong : ChangeSpec := { name := "topFull", fn := fun _ => fun
  | [d1, d2] => { results := [.lit (.bool false)], args := [d1, d2] }
  | _ => none }
def TopFullWrongFalsely : Prop := topFullRow.holds Try.pinned (OpenSpec.ofChange topFullWrong)

/-- 'stamptop.TopBusy': WHATEVER THE INPUT: true; the input reads as it did. -/
def topBusySpec : ChangeSpec := { name := "topBusy", fn := fun _ => fun
  | [d1, d2, d3, d4] => { results := [.lit (.bool true)], args := [d1, d2, d3, d4] }
  | _ => none }
def topBusyRow : OpenClaim := { program := "ytampcbncgofkoaa", sum := "ff5855484fa2cf8ab44e26d4ad894edf484117a7908b146f75e12761f5af5c49", func := "stampways/stamptop.TopBusy", spec := "topBusy", inPlace := ["slices.overlaps[stampways/api.Stamp]"], unfollowed := true, recurses := true, plainKeys := false, apart := false }
def TopBusySaid : Prop := topBusyRow.holds Try.pinned (OpenSpec.ofChange topBusySpec)

/-- ITS FALSE NEIGHBOUR: 'it returns false'. Refute it at one input. -/
def topBusyWrong : ChangeSpec := { name := "topBusy", fn := fun _ => fun
  | [d1, d2, d3, d4] => { results := [.lit (.bool false)], args := [d1, d2, d3, d4] }
  | _ => none }
def TopBusyWrongFalsely : Prop := topBusyRow.holds Try.pinned (OpenSpec.ofChange topBusyWrong)

/-- 'stamptop.TopAvoid': WHATEVER THE INPUT: true; the input reads as it did. -/
def topAvoidSpec : ChangeSpec := { name := "topAvoid", fn := fun _ => fun
  | [d1, d2, d3] => { results := [.lit (.bool true)], args := [d1, d2, d3] }
  | _ => none }
def topAvoidRow : OpenClaim := { program := "ytampcbncgofkoaa", sum := "ff5855484fa2cf8ab44e26d4ad894edf484117a7908b146f75e12761f5af5c49", func := "stampways/stamptop.TopAvoid", spec := "topAvoid", inPlace := ["slices.overlaps[stampways/api.Stamp]"], unfollowed := true, recurses := true, plainKeys := false, apart := false }
def TopAvoidSaid : Prop := topAvoidRow.holds Try.pinned (OpenSpec.ofChange topAvoidSpec)

/-- ITS FALSE NEIGHBOUR: 'it returns false'. Refute it at one input. -/
def topAvoidWrong : ChangeSpec := { name := "topAvoid", fn := fun _ => fun
  | [d1, d2, d3] => { results := [.lit (.bool false)], args := [d1, d2, d3] }
  | _ => none }
def TopAvoidWrongFalsely : Prop := topAvoidRow.holds Try.pinned (OpenSpec.ofChange topAvoidWrong)

/-- 'stamptop.TopMany': WHATEVER THE INPUT: true; the input reads as it did. -/
def topManySpec : ChangeSpec := { name := "topMany", fn := fun _ => fun
  | [d1, d2, d3, d4] => { results := [.lit (.bool true)], args := [d1, d2, d3, d4] }
  | _ => none }
def topManyRow : OpenClaim := { program := "ytampcbncgofkoaa", sum := "ff5855484fa2cf8ab44e26d4ad894edf484117a7908b146f75e12761f5af5c49", func := "stampways/stamptop.TopMany", spec := "topMany", inPlace := ["slices.overlaps[stampways/api.Stamp]"], unfollowed := true, recurses := true, plainKeys := false, apart := false }
def TopManySaid : Prop := topManyRow.holds Try.pinned (OpenSpec.ofChange topManySpec)

/-- ITS FALSE NEIGHBOUR: 'it returns false'. Refute it at one input. -/
def topManyWrong : ChangeSpec := { name := "topMany", fn := fun _ => fun
  | [d1, d2, d3, d4] => { results := [.lit (.bool false)], args := [d1, d2, d3, d4] }
  | _ => none }
def TopManyWrongFalsely : Prop := topManyRow.holds Try.pinned (OpenSpec.ofChange topManyWrong)

/-- 'stamptop.TopLine': WHATEVER THE INPUT: true; the input reads as it did. -/
def topLineSpec : ChangeSpec := { name := "topLine", fn := fun _ => fun
  | [d1, d2, d3] => { results := [.lit (.bool true)], args := [d1, d2, d3] }
  | _ => none }
def topLineRow : OpenClaim := { program := "ytampcbncgofkoaa", sum := "ff5855484fa2cf8ab44e26d4ad894edf484117a7908b146f75e12761f5af5c49", func := "stampways/stamptop.TopLine", spec := "topLine", inPlace := ["slices.overlaps[stampways/api.Stamp]"], unfollowed := true, recurses := true, plainKeys := false, apart := false }
def TopLineSaid : Prop := topLineRow.holds Try.pinned (OpenSpec.ofChange topLineSpec)

/-- ITS FALSE NEIGHBOUR: 'it returns false'. Refute it at one input. -/
def topLineWrong : ChangeSpec := { name := "topLine", fn := fun _ => fun
  | [d1, d2, d3] => { results := [.lit (.bool false)], args := [d1, d2, d3] }
  | _ => none }
def TopLineWrongFalsely : Prop := topLineRow.holds Try.pinned (OpenSpec.ofChange topLineWrong)

/- THE SECOND FORM. 'bulk': how many values and letters a reading holds, each counted each time it is reached (what is shared counts as often as it is met; a slice's spare places count too). A statement '..UptoSaid' is the law's where the arguments, and the package variables that the reading takes, are together of bulk at most 1048576: NARROWER than '..Said'. Prove '..Said' where nothing that the law and all that it calls make is longer than what came in: it says more and counts as full. Else prove '..UptoSaid'. A law counts once. -/
mutual
def uptoBulk {H : Type} : DataW H → Nat
  | .lit (.string bytes) => bytes.length + 1
  | .lit _ => 1
  | .nil => 1
  | .ptr d => uptoBulk d + 1
  | .slice elems spare => uptoBulkAll elems + uptoBulkAll spare + 1
  | .agg parts => uptoBulkAll parts + 1
  | .iface _ d => uptoBulk d + 1
  | .map entries => uptoBulkEntries entries + 1
  | .held _ => 1
def uptoBulkAll {H : Type} : List (DataW H) → Nat
  | [] => 0
  | d :: r => uptoBulk d + uptoBulkAll r
def uptoBulkEntries {H : Type} : List (Lit × DataW H) → Nat
  | [] => 0
  | x :: r => uptoBulkEntry x + uptoBulkEntries r
def uptoBulkEntry {H : Type} : Lit × DataW H → Nat
  | (.string bytes, d) => bytes.length + uptoBulk d + 1
  | (_, d) => uptoBulk d + 1
 end
def uptoSmall : (H : Type) → List (DataW H) → Bool := fun _ ds => decide (uptoBulkAll ds ≤ 1048576)
def OpenSpec.upto (s : _root_.Go.ChangeSpec) : _root_.Go.OpenSpec := { _root_.Go.OpenSpec.ofChange s with cond := some uptoSmall }

/-- 'stamptop.TopTwo', WHERE WHAT IT READS IS OF BULK AT MOST 1048576: true; the input reads as it did. -/
def topTwoUptoRow : OpenClaim := { program := "ytampcbncgofkoaa", sum := "ff5855484fa2cf8ab44e26d4ad894edf484117a7908b146f75e12761f5af5c49", func := "stampways/stamptop.TopTwo", spec := "topTwo", inPlace := ["slices.overlaps[stampways/api.Stamp]"], unfollowed := true, recurses := true, plainKeys := false, apart := false, narrowed := true }
def TopTwoUptoSaid : Prop := topTwoUptoRow.holds Try.pinned (OpenSpec.upto topTwoSpec)

/-- 'stamptop.TopFull', WHERE WHAT IT READS IS OF BULK AT MOST 1048576: true; the input reads as it did. -/
def topFullUptoRow : OpenClaim := { program := "ytampcbncgofkoaa", sum := "ff5855484fa2cf8ab44e26d4ad894edf484117a7908b146f75e12761f5af5c49", func := "stampways/stamptop.TopFull", spec := "topFull", inPlace := ["slices.overlaps[stampways/api.Stamp]"], unfollowed := true, recurses := true, plainKeys := false, apart := false, narrowed := true }
def TopFullUptoSaid : Prop := topFullUptoRow.holds Try.pinned (OpenSpec.upto topFullSpec)

/-- 'stamptop.TopBusy', WHERE WHAT IT READS IS OF BULK AT MOST 1048576: true; the input reads as it did. -/
def topBusyUptoRow : OpenClaim := { program := "ytampcbncgofkoaa", sum := "ff5855484fa2cf8ab44e26d4ad894edf484117a7908b146f75e12761f5af5c49", func := "stampways/stamptop.TopBusy", spec := "topBusy", inPlace := ["slices.overlaps[stampways/api.Stamp]"], unfollowed := true, recurses := true, plainKeys := false, apart := false, narrowed := true }
def TopBusyUptoSaid : Prop := topBusyUptoRow.holds Try.pinned (OpenSpec.upto topBusySpec)

/-- 'stamptop.TopAvoid', WHERE WHAT IT READS IS OF BULK AT MOST 1048576: true; the input reads as it did. -/
def topAvoidUptoRow : OpenClaim := { program := "ytampcbncgofkoaa", sum := "ff5855484fa2cf8ab44e26d4ad894edf484117a7908b146f75e12761f5af5c49", func := "stampways/stamptop.TopAvoid", spec := "topAvoid", inPlace := ["slices.overlaps[stampways/api.Stamp]"], unfollowed := true, recurses := true, plainKeys := false, apart := false, narrowed := true }
def TopAvoidUptoSaid : Prop := topAvoidUptoRow.holds Try.pinned (OpenSpec.upto topAvoidSpec)

/-- 'stamptop.TopMany', WHERE WHAT IT READS IS OF BULK AT MOST 1048576: true; the input reads as it did. -/
def topManyUptoRow : OpenClaim := { program := "ytampcbncgofkoaa", sum := "ff5855484fa2cf8ab44e26d4ad894edf484117a7908b146f75e12761f5af5c49", func := "stampways/stamptop.TopMany", spec := "topMany", inPlace := ["slices.overlaps[stampways/api.Stamp]"], unfollowed := true, recurses := true, plainKeys := false, apart := false, narrowed := true }
def TopManyUptoSaid : Prop := topManyUptoRow.holds Try.pinned (OpenSpec.upto topManySpec)

/-- 'stamptop.TopLine', WHERE WHAT IT READS IS OF BULK AT MOST 1048576: true; the input reads as it did. -/
def topLineUptoRow : OpenClaim := { program := "ytampcbncgofkoaa", sum := "ff5855484fa2cf8ab44e26d4ad894edf484117a7908b146f75e12761f5af5c49", func := "stampways/stamptop.TopLine", spec := "topLine", inPlace := ["slices.overlaps[stampways/api.Stamp]"], unfollowed := true, recurses := true, plainKeys := false, apart := false, narrowed := true }
def TopLineUptoSaid : Prop := topLineUptoRow.holds Try.pinned (OpenSpec.upto topLineSpec)

end Rows
end Go.Proofs.Ytampcbncgofkoaa
