/-
  No cell of these rows narrows 'for every input' (looked for: loops, veiled, ifaces, maps, wideKeys, modest, calm, conditions, laid).
  DERIVED. THE GIVEN ROWS OF THIS SEAT. 9 by the template 'for every input the law returns true; each argument reads behind the call as it read before'; 0 by the template 'total and deterministic' (their statements: YtpfmolaebloipaaTotals.lean).
  GIVEN WITH THE SEED: the statements are not yours to turn. If you find one false, say at which input.
  Laid BY PROGRAM, IN A SANDBOX (cutbox-rows.mjs): the forced cells as the released guide's own fill.sh prints them over the translation d9335d40eeca2c23… (all of the seat's roots in one cut). By AI agents, Wed Nov 11 2026. No macro, syntax, notation, axiom, sorry.
-/
import Derived.Test.YtpfmolaebloipaaChecked
import GoSem.Claim
import GoSem.ClaimJoined
import GoSem.ClaimMapViews
import Derived.JoinedTies
import Derived.KernelRfl
namespace Go.Proofs.Ytpfmolaebloipaa
/- THE CELL 'sum', in the pinned program and in every row, IS THE sha256 OF THE DUMP (.gsa) THAT YtpfmolaebloipaaProg.lean LOADS. Nothing in Lean hashes anything: it is a label: what it is worth is what the hold of that sum in a sandbox is worth. -/
noncomputable def Try.pinned : Pinned := { name := "ytpfmolaebloipaa", sum := "d9335d40eeca2c23a1afae21a76b223b8ca255352ca083ea34c34bdb86447e89", checked := Try.checked }
namespace Rows
def none {H : Type} : Left H := { results := [], args := [] }

/-- 'stamplaw8.RoomPaths': WHATEVER THE INPUT: true; the input reads as it did. -/
def roomPathsSpec : ChangeSpec := { name := "roomPaths", fn := fun _ => fun
  | [d1, d2] => { results := [.lit (.bool true)], args := [d1, d2] }
  | _ => none }
def roomPathsRow : OpenClaim := { program := "ytpfmolaebloipaa", sum := "d9335d40eeca2c23a1afae21a76b223b8ca255352ca083ea34c34bdb86447e89", func := "stampways/stamplaw8.RoomPaths", spec := "roomPaths", inPlace := ["slices.overlaps[stampways/api.Stamp]"], unfollowed := true, recurses := true, plainKeys := false, apart := false }
def RoomPathsSaid : Prop := roomPathsRow.holds Try.pinned (OpenSpec.ofChange roomPathsSpec)

/-- ITS FALSE NEIGHBOUR: 'it returns false'. Refute it at one input. -/
def roomPathsWrong : ChangeSpec := { name := "roomPaths", fn := fun _ => fun
  | [d1, d2] => { results := [.lit (.bool false)], args := [d1, d2] }
  | _ => none }
def RoomPathsWrongFalsely : Prop := roomPathsRow.holds Try.pinned (OpenSpec.ofChange roomPathsWrong)

/-- 'stamplaw8.RoomPlans': WHATEVER THE INPUT: true; the input reads as it did. -/
def roomPlansSpec : ChangeSpec := { name := "roomPlans", fn := fun _ => fun
  | [d1, d2] => { results := [.lit (.bool true)], args := [d1, d2] }
  | _ => none }
def roomPlansRow : OpenClaim := { program := "ytpfmolaebloipaa", sum := "d9335d40eeca2c23a1afae21a76b223b8ca255352ca083ea34c34bdb86447e89", func := "stampways/stamplaw8.RoomPlans", spec := "roomPlans", inPlace := ["slices.overlaps[stampways/api.Stamp]"], unfollowed := true, recurses := true, plainKeys := false, apart := false }
def RoomPlansSaid : Prop := roomPlansRow.holds Try.pinned (OpenSpec.ofChange roomPlansSpec)

/-- ITS FALSE NEIGHBOUR: 'it returns false'. Refute it at one input. -/
def roomPlansWrong : ChangeSpec := { name := "roomPlans", fn := fun _ => fun
  | [d1, d2] => { results := [.lit (.bool false)], args := [d1, d2] }
  | _ => none }
def RoomPlansWrongFalsely : Prop := roomPlansRow.holds Try.pinned (OpenSpec.ofChange roomPlansWrong)

/-- 'stamplaw8.RoomFull': WHATEVER THE INPUT: true; the input reads as it did. -/
def roomFullSpec : ChangeSpec := { name := "roomFull", fn := fun _ => fun
  | [d1, d2] => { results := [.lit (.bool true)], args := [d1, d2] }
  | _ => none }
def roomFullRow : OpenClaim := { program := "ytpfmolaebloipaa", sum := "d9335d40eeca2c23a1afae21a76b223b8ca255352ca083ea34c34bdb86447e89", func := "stampways/stamplaw8.RoomFull", spec := "roomFull", inPlace := ["slices.overlaps[stampways/api.Stamp]"], unfollowed := true, recurses := true, plainKeys := false, apart := false }
def RoomFullSaid : Prop := roomFullRow.holds Try.pinned (OpenSpec.ofChange roomFullSpec)

/-- ITS FALSE NEIGHBOUR: 'it returns false'. Refute it at one input. -/
def roomFullWrong : ChangeSpec := { name := "roomFull", fn := fun _ => fun
  | [d1, d2] => { results := [.lit (.bool false)], args := [d1, d2] }
  | _ => none }
def RoomFullWrongFalsely : Prop := roomFullRow.holds Try.pinned (OpenSpec.ofChange roomFullWrong)

/-- 'stamplaw8.RoomSettles': WHATEVER THE INPUT: true; the input reads as it did. -/
def roomSettlesSpec : ChangeSpec := { name := "roomSettles", fn := fun _ => fun
  | [d1, d2] => { results := [.lit (.bool true)], args := [d1, d2] }
  | _ => none }
def roomSettlesRow : OpenClaim := { program := "ytpfmolaebloipaa", sum := "d9335d40eeca2c23a1afae21a76b223b8ca255352ca083ea34c34bdb86447e89", func := "stampways/stamplaw8.RoomSettles", spec := "roomSettles", inPlace := ["slices.overlaps[stampways/api.Stamp]"], unfollowed := true, recurses := true, plainKeys := false, apart := false }
def RoomSettlesSaid : Prop := roomSettlesRow.holds Try.pinned (OpenSpec.ofChange roomSettlesSpec)

/-- ITS FALSE NEIGHBOUR: 'it returns false'. Refute it at one input. -/
def roomSettlesWrong : ChangeSpec := { name := "roomSettles", fn := fun _ => fun
  | [d1, d2] => { results := [.lit (.bool false)], args := [d1, d2] }
  | _ => none }
def RoomSettlesWrongFalsely : Prop := roomSettlesRow.holds Try.pinned (OpenSpec.ofChange roomSettlesWrong)

/-- 'stamplaw8.RoomArrives': WHATEVER THE INPUT: true; the input reads as it did. -/
def roomArrivesSpec : ChangeSpec := { name := "roomArrives", fn := fun _ => fun
  | [d1, d2, d3] => { results := [.lit (.bool true)], args := [d1, d2, d3] }
  | _ => none }
def roomArrivesRow : OpenClaim := { program := "ytpfmolaebloipaa", sum := "d9335d40eeca2c23a1afae21a76b223b8ca255352ca083ea34c34bdb86447e89", func := "stampways/stamplaw8.RoomArrives", spec := "roomArrives", inPlace := ["slices.overlaps[stampways/api.Stamp]"], unfollowed := true, recurses := true, plainKeys := false, apart := false }
def RoomArrivesSaid : Prop := roomArrivesRow.holds Try.pinned (OpenSpec.ofChange roomArrivesSpec)

/-- ITS FALSE NEIGHBOUR: 'it returns false'. Refute it at one input. -/
def roomArrivesWrong : ChangeSpec := { name := "roomArrives", fn := fun _ => fun
  | [d1, d2, d3] => { results := [.lit (.bool false)], args := [d1, d2, d3] }
  | _ => none }
def RoomArrivesWrongFalsely : Prop := roomArrivesRow.holds Try.pinned (OpenSpec.ofChange roomArrivesWrong)

/-- 'stamplaw8.RoomRefused': WHATEVER THE INPUT: true; the input reads as it did. -/
def roomRefusedSpec : ChangeSpec := { name := "roomRefused", fn := fun _ => fun
  | [d1, d2] => { results := [.lit (.bool true)], args := [d1, d2] }
  | _ => none }
def roomRefusedRow : OpenClaim := { program := "ytpfmolaebloipaa", sum := "d9335d40eeca2c23a1afae21a76b223b8ca255352ca083ea34c34bdb86447e89", func := "stampways/stamplaw8.RoomRefused", spec := "roomRefused", inPlace := ["slices.overlaps[stampways/api.Stamp]"], unfollowed := true, recurses := true, plainKeys := false, apart := false }
def RoomRefusedSaid : Prop := roomRefusedRow.holds Try.pinned (OpenSpec.ofChange roomRefusedSpec)

/-- ITS FALSE NEIGHBOUR: 'it returns false'. Refute it at one input. -/
def roomRefusedWrong : ChangeSpec := { name := "roomRefused", fn := fun _ => fun
  | [d1, d2] => { results := [.lit (.bool false)], args := [d1, d2] }
  | _ => none }
def RoomRefusedWrongFalsely : Prop := roomRefusedRow.holds Try.pinned (OpenSpec.ofChange roomRefusedWrong)

/-- 'stamplaw8.RoomNever': WHATEVER THE INPUT: true; the input reads as it did. -/
def roomNeverSpec : ChangeSpec := { name := "roomNever", fn := fun _ => fun
  | [d1, d2] => { results := [.lit (.bool true)], args := [d1, d2] }
  | _ => none }
def roomNeverRow : OpenClaim := { program := "ytpfmolaebloipaa", sum := "d9335d40eeca2c23a1afae21a76b223b8ca255352ca083ea34c34bdb86447e89", func := "stampways/stamplaw8.RoomNever", spec := "roomNever", inPlace := ["slices.overlaps[stampways/api.Stamp]"], unfollowed := true, recurses := true, plainKeys := false, apart := false }
def RoomNeverSaid : Prop := roomNeverRow.holds Try.pinned (OpenSpec.ofChange roomNeverSpec)

/-- ITS FALSE NEIGHBOUR: 'it returns false'. Refute it at one input. -/
def roomNeverWrong : ChangeSpec := { name := "roomNever", fn := fun _ => fun
  | [d1, d2] => { results := [.lit (.bool false)], args := [d1, d2] }
  | _ => none }
def RoomNeverWrongFalsely : Prop := roomNeverRow.holds Try.pinned (OpenSpec.ofChange roomNeverWrong)

/-- 'stamplaw8.RoomStamps': WHATEVER THE INPUT: true; the input reads as it did. -/
def roomStampsSpec : ChangeSpec := { name := "roomStamps", fn := fun _ => fun
  | [d1, d2] => { results := [.lit (.bool true)], args := [d1, d2] }
  | _ => none }
def roomStampsRow : OpenClaim := { program := "ytpfmolaebloipaa", sum := "d9335d40eeca2c23a1afae21a76b223b8ca255352ca083ea34c34bdb86447e89", func := "stampways/stamplaw8.RoomStamps", spec := "roomStamps", inPlace := ["slices.overlaps[stampways/api.Stamp]"], unfollowed := true, recurses := true, plainKeys := false, apart := false }
def RoomStampsSaid : Prop := roomStampsRow.holds Try.pinned (OpenSpec.ofChange roomStampsSpec)

/-- ITS FALSE NEIGHBOUR: 'it returns false'. Refute it at one input. -/
def roomStampsWrong : ChangeSpec := { name := "roomStamps", fn := fun _ => fun
  | [d1, d2] => { results := [.lit (.bool false)], args := [d1, d2] }
  | _ => none }
def RoomStampsWrongFalsely : Prop := roomStampsRow.holds Try.pinned (OpenSpec.ofChange roomStampsWrong)

/-- 'stamplaw8.RoomPast': WHATEVER THE INPUT: true; the input reads as it did. -/
def roomPastSpec : ChangeSpec := { name := "roomPast", fn := fun _ => fun
  | [d1, d2, d3] => { results := [.lit (.bool true)], args := [d1, d2, d3] }
  | _ => none }
def roomPastRow : OpenClaim := { program := "ytpfmolaebloipaa", sum := "d9335d40eeca2c23a1afae21a76b223b8ca255352ca083ea34c34bdb86447e89", func := "stampways/stamplaw8.RoomPast", spec := "roomPast", inPlace := ["slices.overlaps[stampways/api.Stamp]"], unfollowed := true, recurses := true, plainKeys := false, apart := false }
def RoomPastSaid : Prop := roomPastRow.holds Try.pinned (OpenSpec.ofChange roomPastSpec)

/-- ITS FALSE NEIGHBOUR: 'it returns false'. Refute it at one input. -/
def roomPastWrong : ChangeSpec := { name := "roomPast", fn := fun _ => fun
  | [d1, d2, d3] => { results := [.lit (.bool false)], args := [d1, d2, d3] }
  | _ => none }
def RoomPastWrongFalsely : Prop := roomPastRow.holds Try.pinned (OpenSpec.ofChange roomPastWrong)

/- THE SECOND FORM. 'bulk': how many values and letters a reading holds, each counted each time it is reached (what is shared counts as often as it is met; a slice's spare places count too). A statement '..UptoSaid' is the law's where the arguments, and the package variables that the reading takes, are together of bulk at most 1048576: NARROWER than '..Said'. Prove '..Said' where nothing that the law and all that it calls make is longer than what came in: it says more and counts as full. Else prove '..UptoSaid'. A law counts once. -/
mutual
def uptoBulk {H : Type} : DataW H → Nat
  | .lit (.string bytes) => bytes.length + 1
  | .lit _ => 1
  | .nil => 1
  | .ptr d => uptoBulk d + 1
  | .slice elems spare => uptoBulkAll elems + uptoBulkAll spare + 1
  | .agg parts => uptoBulkAll parts + 1
  | .iface _ d => uptoBulk d + 1
  | .map entries => uptoBulkEntries entries + 1
  | .held _ => 1
def uptoBulkAll {H : Type} : List (DataW H) → Nat
  | [] => 0
  | d :: r => uptoBulk d + uptoBulkAll r
def uptoBulkEntries {H : Type} : List (Lit × DataW H) → Nat
  | [] => 0
  | x :: r => uptoBulkEntry x + uptoBulkEntries r
def uptoBulkEntry {H : Type} : Lit × DataW H → Nat
  | (.string bytes, d) => bytes.length + uptoBulk d + 1
  | (_, d) => uptoBulk d + 1
 end
def uptoSmall : (H : Type) → List (DataW H) → Bool := fun _ ds => decide (uptoBulkAll ds ≤ 1048576)
def OpenSpec.upto (s : _root_.Go.ChangeSpec) : _root_.Go.OpenSpec := { _root_.Go.OpenSpec.ofChange s with cond := some uptoSmall }

/-- 'stamplaw8.RoomPaths', WHERE WHAT IT READS IS OF BULK AT MOST 1048576: true; the input reads as it did. -/
def roomPathsUptoRow : OpenClaim := { program := "ytpfmolaebloipaa", sum := "d9335d40eeca2c23a1afae21a76b223b8ca255352ca083ea34c34bdb86447e89", func := "stampways/stamplaw8.RoomPaths", spec := "roomPaths", inPlace := ["slices.overlaps[stampways/api.Stamp]"], unfollowed := true, recurses := true, plainKeys := false, apart := false, narrowed := true }
def RoomPathsUptoSaid : Prop := roomPathsUptoRow.holds Try.pinned (OpenSpec.upto roomPathsSpec)

/-- 'stamplaw8.RoomPlans', WHERE WHAT IT READS IS OF BULK AT MOST 1048576: true; the input reads as it did. -/
def roomPlansUptoRow : OpenClaim := { program := "ytpfmolaebloipaa", sum := "d9335d40eeca2c23a1afae21a76b223b8ca255352ca083ea34c34bdb86447e89", func := "stampways/stamplaw8.RoomPlans", spec := "roomPlans", inPlace := ["slices.overlaps[stampways/api.Stamp]"], unfollowed := true, recurses := true, plainKeys := false, apart := false, narrowed := true }
def RoomPlansUptoSaid : Prop := roomPlansUptoRow.holds Try.pinned (OpenSpec.upto roomPlansSpec)

/-- 'stamplaw8.RoomFull', WHERE WHAT IT READS IS OF BULK AT MOST 1048576: true; the input reads as it did. -/
def roomFullUptoRow : OpenClaim := { program := "ytpfmolaebloipaa", sum := "d9335d40eeca2c23a1afae21a76b223b8ca255352ca083ea34c34bdb86447e89", func := "stampways/stamplaw8.RoomFull", spec := "roomFull", inPlace := ["slices.overlaps[stampways/api.Stamp]"], unfollowed := true, recurses := true, plainKeys := false, apart := false, narrowed := true }
def RoomFullUptoSaid : Prop := roomFullUptoRow.holds Try.pinned (OpenSpec.upto roomFullSpec)

/-- 'stamplaw8.RoomSettles', WHERE WHAT IT READS IS OF BULK AT MOST 1048576: true; the input reads as it did. -/
def roomSettlesUptoRow : OpenClaim := { program := "ytpfmolaebloipaa", sum := "d9335d40eeca2c23a1afae21a76b223b8ca255352ca083ea34c34bdb86447e89", func := "stampways/stamplaw8.RoomSettles", spec := "roomSettles", inPlace := ["slices.overlaps[stampways/api.Stamp]"], unfollowed := true, recurses := true, plainKeys := false, apart := false, narrowed := true }
def RoomSettlesUptoSaid : Prop := roomSettlesUptoRow.holds Try.pinned (OpenSpec.upto roomSettlesSpec)

/-- 'stamplaw8.RoomArrives', WHERE WHAT IT READS IS OF BULK AT MOST 1048576: true; the input reads as it did. -/
def roomArrivesUptoRow : OpenClaim := { program := "ytpfmolaebloipaa", sum := "d9335d40eeca2c23a1afae21a76b223b8ca255352ca083ea34c34bdb86447e89", func := "stampways/stamplaw8.RoomArrives", spec := "roomArrives", inPlace := ["slices.overlaps[stampways/api.Stamp]"], unfollowed := true, recurses := true, plainKeys := false, apart := false, narrowed := true }
def RoomArrivesUptoSaid : Prop := roomArrivesUptoRow.holds Try.pinned (OpenSpec.upto roomArrivesSpec)

/-- 'stamplaw8.RoomRefused', WHERE WHAT IT READS IS OF BULK AT MOST 1048576: true; the input reads as it did. -/
def roomRefusedUptoRow : OpenClaim := { program := "ytpfmolaebloipaa", sum := "d9335d40eeca2c23a1afae21a76b223b8ca255352ca083ea34c34bdb86447e89", func := "stampways/stamplaw8.RoomRefused", spec := "roomRefused", inPlace := ["slices.overlaps[stampways/api.Stamp]"], unfollowed := true, recurses := true, plainKeys := false, apart := false, narrowed := true }
def RoomRefusedUptoSaid : Prop := roomRefusedUptoRow.holds Try.pinned (OpenSpec.upto roomRefusedSpec)

/-- 'stamplaw8.RoomNever', WHERE WHAT IT READS IS OF BULK AT MOST 1048576: true; the input reads as it did. -/
def roomNeverUptoRow : OpenClaim := { program := "ytpfmolaebloipaa", sum := "d9335d40eeca2c23a1afae21a76b223b8ca255352ca083ea34c34bdb86447e89", func := "stampways/stamplaw8.RoomNever", spec := "roomNever", inPlace := ["slices.overlaps[stampways/api.Stamp]"], unfollowed := true, recurses := true, plainKeys := false, apart := false, narrowed := true }
def RoomNeverUptoSaid : Prop := roomNeverUptoRow.holds Try.pinned (OpenSpec.upto roomNeverSpec)

/-- 'stamplaw8.RoomStamps', WHERE WHAT IT READS IS OF BULK AT MOST 1048576: true; the input reads as it did. -/
def roomStampsUptoRow : OpenClaim := { program := "ytpfmolaebloipaa", sum := "d9335d40eeca2c23a1afae21a76b223b8ca255352ca083ea34c34bdb86447e89", func := "stampways/stamplaw8.RoomStamps", spec := "roomStamps", inPlace := ["slices.overlaps[stampways/api.Stamp]"], unfollowed := true, recurses := true, plainKeys := false, apart := false, narrowed := true }
def RoomStampsUptoSaid : Prop := roomStampsUptoRow.holds Try.pinned (OpenSpec.upto roomStampsSpec)

/-- 'stamplaw8.RoomPast', WHERE WHAT IT READS IS OF BULK AT MOST 1048576: true; the input reads as it did. -/
def roomPastUptoRow : OpenClaim := { program := "ytpfmolaebloipaa", sum := "d9335d40eeca2c23a1afae21a76b223b8ca255352ca083ea34c34bdb86447e89", func := "stampways/stamplaw8.RoomPast", spec := "roomPast", inPlace := ["slices.overlaps[stampways/api.Stamp]"], unfollowed := true, recurses := true, plainKeys := false, apart := false, narrowed := true }
def RoomPastUptoSaid : Prop := roomPastUptoRow.holds Try.pinned (OpenSpec.upto roomPastSpec)

end Rows
end Go.Proofs.Ytpfmolaebloipaa
