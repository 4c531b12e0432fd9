/-
  No cell of these rows narrows 'for every input' (looked for: loops, veiled, ifaces, maps, wideKeys, modest, calm, conditions, laid).
  DERIVED. THE GIVEN ROWS OF THIS SEAT. 10 by the template 'for every input the law returns true; each argument reads behind the call as it read before'; 0 by the template 'total and deterministic' (their statements: YtflhmpmdpdekeaaTotals.lean).
  GIVEN WITH THE SEED: the statements are not yours to turn. If you find one false, say at which input.
  Laid BY PROGRAM, IN A SANDBOX (cutbox-rows.mjs): the forced cells as the released guide's own fill.sh prints them over the translation b18e43143d3a3e7e… (all of the seat's roots in one cut). By AI agents, Wed Nov 11 2026. No macro, syntax, notation, axiom, sorry.
-/
import Derived.Test.YtflhmpmdpdekeaaChecked
import GoSem.Claim
import GoSem.ClaimJoined
import GoSem.ClaimMapViews
import Derived.JoinedTies
import Derived.KernelRfl
namespace Go.Proofs.Ytflhmpmdpdekeaa
/- THE CELL 'sum', in the pinned program and in every row, IS THE sha256 OF THE DUMP (.gsa) THAT YtflhmpmdpdekeaaProg.lean LOADS. Nothing in Lean hashes anything: it is a label: what it is worth is what the hold of that sum in a sandbox is worth. -/
noncomputable def Try.pinned : Pinned := { name := "ytflhmpmdpdekeaa", sum := "b18e43143d3a3e7ecedd87d0a414183ed23fa8f37d5f42be246bd301e72f255a", checked := Try.checked }
namespace Rows
def none {H : Type} : Left H := { results := [], args := [] }

/-- 'stamplaw3.PathServes': WHATEVER THE INPUT: true; the input reads as it did. -/
def pathServesSpec : ChangeSpec := { name := "pathServes", fn := fun _ => fun
  | [d1, d2] => { results := [.lit (.bool true)], args := [d1, d2] }
  | _ => none }
def pathServesRow : OpenClaim := { program := "ytflhmpmdpdekeaa", sum := "b18e43143d3a3e7ecedd87d0a414183ed23fa8f37d5f42be246bd301e72f255a", func := "stampways/stamplaw3.PathServes", spec := "pathServes", unfollowed := true, recurses := true, plainKeys := false, apart := false }
def PathServesSaid : Prop := pathServesRow.holds Try.pinned (OpenSpec.ofChange pathServesSpec)

/-- ITS FALSE NEIGHBOUR: 'it returns false'. Refute it at one input. -/
def pathServesWrong : ChangeSpec := { name := "pathServes", fn := fun _ => fun
  | [d1, d2] => { results := [.lit (.bool false)], args := [d1, d2] }
  | _ => none }
def PathServesWrongFalsely : Prop := pathServesRow.holds Try.pinned (OpenSpec.ofChange pathServesWrong)

/-- 'stamplaw3.PathLeast': WHATEVER THE INPUT: true; the input reads as it did. -/
def pathLeastSpec : ChangeSpec := { name := "pathLeast", fn := fun _ => fun
  | [d1, d2, d3] => { results := [.lit (.bool true)], args := [d1, d2, d3] }
  | _ => none }
def pathLeastRow : OpenClaim := { program := "ytflhmpmdpdekeaa", sum := "b18e43143d3a3e7ecedd87d0a414183ed23fa8f37d5f42be246bd301e72f255a", func := "stampways/stamplaw3.PathLeast", spec := "pathLeast", unfollowed := true, recurses := true, plainKeys := false, apart := false }
def PathLeastSaid : Prop := pathLeastRow.holds Try.pinned (OpenSpec.ofChange pathLeastSpec)

/-- ITS FALSE NEIGHBOUR: 'it returns false'. Refute it at one input. -/
def pathLeastWrong : ChangeSpec := { name := "pathLeast", fn := fun _ => fun
  | [d1, d2, d3] => { results := [.lit (.bool false)], args := [d1, d2, d3] }
  | _ => none }
def PathLeastWrongFalsely : Prop := pathLeastRow.holds Try.pinned (OpenSpec.ofChange pathLeastWrong)

/-- 'stamplaw3.PathMore': WHATEVER THE INPUT: true; the input reads as it did. -/
def pathMoreSpec : ChangeSpec := { name := "pathMore", fn := fun _ => fun
  | [d1, d2, d3] => { results := [.lit (.bool true)], args := [d1, d2, d3] }
  | _ => none }
def pathMoreRow : OpenClaim := { program := "ytflhmpmdpdekeaa", sum := "b18e43143d3a3e7ecedd87d0a414183ed23fa8f37d5f42be246bd301e72f255a", func := "stampways/stamplaw3.PathMore", spec := "pathMore", unfollowed := true, recurses := true, plainKeys := false, apart := false }
def PathMoreSaid : Prop := pathMoreRow.holds Try.pinned (OpenSpec.ofChange pathMoreSpec)

/-- ITS FALSE NEIGHBOUR: 'it returns false'. Refute it at one input. -/
def pathMoreWrong : ChangeSpec := { name := "pathMore", fn := fun _ => fun
  | [d1, d2, d3] => { results := [.lit (.bool false)], args := [d1, d2, d3] }
  | _ => none }
def PathMoreWrongFalsely : Prop := pathMoreRow.holds Try.pinned (OpenSpec.ofChange pathMoreWrong)

/-- 'stamplaw3.PathPart': WHATEVER THE INPUT: true; the input reads as it did. -/
def pathPartSpec : ChangeSpec := { name := "pathPart", fn := fun _ => fun
  | [d1, d2, d3, d4] => { results := [.lit (.bool true)], args := [d1, d2, d3, d4] }
  | _ => none }
def pathPartRow : OpenClaim := { program := "ytflhmpmdpdekeaa", sum := "b18e43143d3a3e7ecedd87d0a414183ed23fa8f37d5f42be246bd301e72f255a", func := "stampways/stamplaw3.PathPart", spec := "pathPart", unfollowed := true, recurses := true, plainKeys := false, apart := false }
def PathPartSaid : Prop := pathPartRow.holds Try.pinned (OpenSpec.ofChange pathPartSpec)

/-- ITS FALSE NEIGHBOUR: 'it returns false'. Refute it at one input. -/
def pathPartWrong : ChangeSpec := { name := "pathPart", fn := fun _ => fun
  | [d1, d2, d3, d4] => { results := [.lit (.bool false)], args := [d1, d2, d3, d4] }
  | _ => none }
def PathPartWrongFalsely : Prop := pathPartRow.holds Try.pinned (OpenSpec.ofChange pathPartWrong)

/-- 'stamplaw3.PathTells': WHATEVER THE INPUT: true; the input reads as it did. -/
def pathTellsSpec : ChangeSpec := { name := "pathTells", fn := fun _ => fun
  | [d1, d2, d3] => { results := [.lit (.bool true)], args := [d1, d2, d3] }
  | _ => none }
def pathTellsRow : OpenClaim := { program := "ytflhmpmdpdekeaa", sum := "b18e43143d3a3e7ecedd87d0a414183ed23fa8f37d5f42be246bd301e72f255a", func := "stampways/stamplaw3.PathTells", spec := "pathTells", unfollowed := true, recurses := true, plainKeys := false, apart := false }
def PathTellsSaid : Prop := pathTellsRow.holds Try.pinned (OpenSpec.ofChange pathTellsSpec)

/-- ITS FALSE NEIGHBOUR: 'it returns false'. Refute it at one input. -/
def pathTellsWrong : ChangeSpec := { name := "pathTells", fn := fun _ => fun
  | [d1, d2, d3] => { results := [.lit (.bool false)], args := [d1, d2, d3] }
  | _ => none }
def PathTellsWrongFalsely : Prop := pathTellsRow.holds Try.pinned (OpenSpec.ofChange pathTellsWrong)

/-- 'stamplaw1.TopoTells': WHATEVER THE INPUT: true; the input reads as it did. -/
def topoTellsSpec : ChangeSpec := { name := "topoTells", fn := fun _ => fun
  | [d1, d2, d3, d4] => { results := [.lit (.bool true)], args := [d1, d2, d3, d4] }
  | _ => none }
def topoTellsRow : OpenClaim := { program := "ytflhmpmdpdekeaa", sum := "b18e43143d3a3e7ecedd87d0a414183ed23fa8f37d5f42be246bd301e72f255a", func := "stampways/stamplaw1.TopoTells", spec := "topoTells", unfollowed := true, recurses := true, plainKeys := false, apart := false }
def TopoTellsSaid : Prop := topoTellsRow.holds Try.pinned (OpenSpec.ofChange topoTellsSpec)

/-- ITS FALSE NEIGHBOUR: 'it returns false'. Refute it at one input. -/
def topoTellsWrong : ChangeSpec := { name := "topoTells", fn := fun _ => fun
  | [d1, d2, d3, d4] => { results := [.lit (.bool false)], args := [d1, d2, d3, d4] }
  | _ => none }
def TopoTellsWrongFalsely : Prop := topoTellsRow.holds Try.pinned (OpenSpec.ofChange topoTellsWrong)

/-- 'stamplaw1.TopoReaches': WHATEVER THE INPUT: true; the input reads as it did. -/
def topoReachesSpec : ChangeSpec := { name := "topoReaches", fn := fun _ => fun
  | [d] => { results := [.lit (.bool true)], args := [d] }
  | _ => none }
def topoReachesRow : OpenClaim := { program := "ytflhmpmdpdekeaa", sum := "b18e43143d3a3e7ecedd87d0a414183ed23fa8f37d5f42be246bd301e72f255a", func := "stampways/stamplaw1.TopoReaches", spec := "topoReaches", recurses := true, plainKeys := false, apart := false }
def TopoReachesSaid : Prop := topoReachesRow.holds Try.pinned (OpenSpec.ofChange topoReachesSpec)

/-- ITS FALSE NEIGHBOUR: 'it returns false'. Refute it at one input. -/
def topoReachesWrong : ChangeSpec := { name := "topoReaches", fn := fun _ => fun
  | [d] => { results := [.lit (.bool false)], args := [d] }
  | _ => none }
def TopoReachesWrongFalsely : Prop := topoReachesRow.holds Try.pinned (OpenSpec.ofChange topoReachesWrong)

/-- 'stamplaw1.TopoBack': WHATEVER THE INPUT: true; the input reads as it did. -/
def topoBackSpec : ChangeSpec := { name := "topoBack", fn := fun _ => fun
  | [d1, d2, d3] => { results := [.lit (.bool true)], args := [d1, d2, d3] }
  | _ => none }
def topoBackRow : OpenClaim := { program := "ytflhmpmdpdekeaa", sum := "b18e43143d3a3e7ecedd87d0a414183ed23fa8f37d5f42be246bd301e72f255a", func := "stampways/stamplaw1.TopoBack", spec := "topoBack", recurses := true, plainKeys := false, apart := false }
def TopoBackSaid : Prop := topoBackRow.holds Try.pinned (OpenSpec.ofChange topoBackSpec)

/-- ITS FALSE NEIGHBOUR: 'it returns false'. Refute it at one input. -/
def topoBackWrong : ChangeSpec := { name := "topoBack", fn := fun _ => fun
  | [d1, d2, d3] => { results := [.lit (.bool false)], args := [d1, d2, d3] }
  | _ => none }
def TopoBackWrongFalsely : Prop := topoBackRow.holds Try.pinned (OpenSpec.ofChange topoBackWrong)

/-- 'stamplaw1.TopoMore': WHATEVER THE INPUT: true; the input reads as it did. -/
def topoMoreSpec : ChangeSpec := { name := "topoMore", fn := fun _ => fun
  | [d1, d2] => { results := [.lit (.bool true)], args := [d1, d2] }
  | _ => none }
def topoMoreRow : OpenClaim := { program := "ytflhmpmdpdekeaa", sum := "b18e43143d3a3e7ecedd87d0a414183ed23fa8f37d5f42be246bd301e72f255a", func := "stampways/stamplaw1.TopoMore", spec := "topoMore", unfollowed := true, recurses := true, plainKeys := false, apart := false }
def TopoMoreSaid : Prop := topoMoreRow.holds Try.pinned (OpenSpec.ofChange topoMoreSpec)

/-- ITS FALSE NEIGHBOUR: 'it returns false'. Refute it at one input. -/
def topoMoreWrong : ChangeSpec := { name := "topoMore", fn := fun _ => fun
  | [d1, d2] => { results := [.lit (.bool false)], args := [d1, d2] }
  | _ => none }
def TopoMoreWrongFalsely : Prop := topoMoreRow.holds Try.pinned (OpenSpec.ofChange topoMoreWrong)

/-- 'stamplaw3.PathReaches': WHATEVER THE INPUT: true; the input reads as it did. -/
def pathReachesSpec : ChangeSpec := { name := "pathReaches", fn := fun _ => fun
  | [d1, d2, d3] => { results := [.lit (.bool true)], args := [d1, d2, d3] }
  | _ => none }
def pathReachesRow : OpenClaim := { program := "ytflhmpmdpdekeaa", sum := "b18e43143d3a3e7ecedd87d0a414183ed23fa8f37d5f42be246bd301e72f255a", func := "stampways/stamplaw3.PathReaches", spec := "pathReaches", unfollowed := true, recurses := true, plainKeys := false, apart := false }
def PathReachesSaid : Prop := pathReachesRow.holds Try.pinned (OpenSpec.ofChange pathReachesSpec)

/-- ITS FALSE NEIGHBOUR: 'it returns false'. Refute it at one input. -/
def pathReachesWrong : ChangeSpec := { name := "pathReaches", fn := fun _ => fun
  | [d1, d2, d3] => { results := [.lit (.bool false)], args := [d1, d2, d3] }
  | _ => none }
def PathReachesWrongFalsely : Prop := pathReachesRow.holds Try.pinned (OpenSpec.ofChange pathReachesWrong)

/- THE SECOND FORM. 'bulk': how many values and letters a reading holds, each counted each time it is reached (what is shared counts as often as it is met; a slice's spare places count too). A statement '..UptoSaid' is the law's where the arguments, and the package variables that the reading takes, are together of bulk at most 1048576: NARROWER than '..Said'. Prove '..Said' where nothing that the law and all that it calls make is longer than what came in: it says more and counts as full. Else prove '..UptoSaid'. A law counts once. -/
mutual
def uptoBulk {H : Type} : DataW H → Nat
  | .lit (.string bytes) => bytes.length + 1
  | .lit _ => 1
  | .nil => 1
  | .ptr d => uptoBulk d + 1
  | .slice elems spare => uptoBulkAll elems + uptoBulkAll spare + 1
  | .agg parts => uptoBulkAll parts + 1
  | .iface _ d => uptoBulk d + 1
  | .map entries => uptoBulkEntries entries + 1
  | .held _ => 1
def uptoBulkAll {H : Type} : List (DataW H) → Nat
  | [] => 0
  | d :: r => uptoBulk d + uptoBulkAll r
def uptoBulkEntries {H : Type} : List (Lit × DataW H) → Nat
  | [] => 0
  | x :: r => uptoBulkEntry x + uptoBulkEntries r
def uptoBulkEntry {H : Type} : Lit × DataW H → Nat
  | (.string bytes, d) => bytes.length + uptoBulk d + 1
  | (_, d) => uptoBulk d + 1
 end
def uptoSmall : (H : Type) → List (DataW H) → Bool := fun _ ds => decide (uptoBulkAll ds ≤ 1048576)
def OpenSpec.upto (s : _root_.Go.ChangeSpec) : _root_.Go.OpenSpec := { _root_.Go.OpenSpec.ofChange s with cond := some uptoSmall }

/-- 'stamplaw3.PathServes', WHERE WHAT IT READS IS OF BULK AT MOST 1048576: true; the input reads as it did. -/
def pathServesUptoRow : OpenClaim := { program := "ytflhmpmdpdekeaa", sum := "b18e43143d3a3e7ecedd87d0a414183ed23fa8f37d5f42be246bd301e72f255a", func := "stampways/stamplaw3.PathServes", spec := "pathServes", unfollowed := true, recurses := true, plainKeys := false, apart := false, narrowed := true }
def PathServesUptoSaid : Prop := pathServesUptoRow.holds Try.pinned (OpenSpec.upto pathServesSpec)

/-- 'stamplaw3.PathLeast', WHERE WHAT IT READS IS OF BULK AT MOST 1048576: true; the input reads as it did. -/
def pathLeastUptoRow : OpenClaim := { program := "ytflhmpmdpdekeaa", sum := "b18e43143d3a3e7ecedd87d0a414183ed23fa8f37d5f42be246bd301e72f255a", func := "stampways/stamplaw3.PathLeast", spec := "pathLeast", unfollowed := true, recurses := true, plainKeys := false, apart := false, narrowed := true }
def PathLeastUptoSaid : Prop := pathLeastUptoRow.holds Try.pinned (OpenSpec.upto pathLeastSpec)

/-- 'stamplaw3.PathMore', WHERE WHAT IT READS IS OF BULK AT MOST 1048576: true; the input reads as it did. -/
def pathMoreUptoRow : OpenClaim := { program := "ytflhmpmdpdekeaa", sum := "b18e43143d3a3e7ecedd87d0a414183ed23fa8f37d5f42be246bd301e72f255a", func := "stampways/stamplaw3.PathMore", spec := "pathMore", unfollowed := true, recurses := true, plainKeys := false, apart := false, narrowed := true }
def PathMoreUptoSaid : Prop := pathMoreUptoRow.holds Try.pinned (OpenSpec.upto pathMoreSpec)

/-- 'stamplaw3.PathPart', WHERE WHAT IT READS IS OF BULK AT MOST 1048576: true; the input reads as it did. -/
def pathPartUptoRow : OpenClaim := { program := "ytflhmpmdpdekeaa", sum := "b18e43143d3a3e7ecedd87d0a414183ed23fa8f37d5f42be246bd301e72f255a", func := "stampways/stamplaw3.PathPart", spec := "pathPart", unfollowed := true, recurses := true, plainKeys := false, apart := false, narrowed := true }
def PathPartUptoSaid : Prop := pathPartUptoRow.holds Try.pinned (OpenSpec.upto pathPartSpec)

/-- 'stamplaw3.PathTells', WHERE WHAT IT READS IS OF BULK AT MOST 1048576: true; the input reads as it did. -/
def pathTellsUptoRow : OpenClaim := { program := "ytflhmpmdpdekeaa", sum := "b18e43143d3a3e7ecedd87d0a414183ed23fa8f37d5f42be246bd301e72f255a", func := "stampways/stamplaw3.PathTells", spec := "pathTells", unfollowed := true, recurses := true, plainKeys := false, apart := false, narrowed := true }
def PathTellsUptoSaid : Prop := pathTellsUptoRow.holds Try.pinned (OpenSpec.upto pathTellsSpec)

/-- 'stamplaw1.TopoTells', WHERE WHAT IT READS IS OF BULK AT MOST 1048576: true; the input reads as it did. -/
def topoTellsUptoRow : OpenClaim := { program := "ytflhmpmdpdekeaa", sum := "b18e43143d3a3e7ecedd87d0a414183ed23fa8f37d5f42be246bd301e72f255a", func := "stampways/stamplaw1.TopoTells", spec := "topoTells", unfollowed := true, recurses := true, plainKeys := false, apart := false, narrowed := true }
def TopoTellsUptoSaid : Prop := topoTellsUptoRow.holds Try.pinned (OpenSpec.upto topoTellsSpec)

/-- 'stamplaw1.TopoReaches', WHERE WHAT IT READS IS OF BULK AT MOST 1048576: true; the input reads as it did. -/
def topoReachesUptoRow : OpenClaim := { program := "ytflhmpmdpdekeaa", sum := "b18e43143d3a3e7ecedd87d0a414183ed23fa8f37d5f42be246bd301e72f255a", func := "stampways/stamplaw1.TopoReaches", spec := "topoReaches", recurses := true, plainKeys := false, apart := false, narrowed := true }
def TopoReachesUptoSaid : Prop := topoReachesUptoRow.holds Try.pinned (OpenSpec.upto topoReachesSpec)

/-- 'stamplaw1.TopoBack', WHERE WHAT IT READS IS OF BULK AT MOST 1048576: true; the input reads as it did. -/
def topoBackUptoRow : OpenClaim := { program := "ytflhmpmdpdekeaa", sum := "b18e43143d3a3e7ecedd87d0a414183ed23fa8f37d5f42be246bd301e72f255a", func := "stampways/stamplaw1.TopoBack", spec := "topoBack", recurses := true, plainKeys := false, apart := false, narrowed := true }
def TopoBackUptoSaid : Prop := topoBackUptoRow.holds Try.pinned (OpenSpec.upto topoBackSpec)

/-- 'stamplaw1.TopoMore', WHERE WHAT IT READS IS OF BULK AT MOST 1048576: true; the input reads as it did. -/
def topoMoreUptoRow : OpenClaim := { program := "ytflhmpmdpdekeaa", sum := "b18e43143d3a3e7ecedd87d0a414183ed23fa8f37d5f42be246bd301e72f255a", func := "stampways/stamplaw1.TopoMore", spec := "topoMore", unfollowed := true, recurses := true, plainKeys := false, apart := false, narrowed := true }
def TopoMoreUptoSaid : Prop := topoMoreUptoRow.holds Try.pinned (OpenSpec.upto topoMoreSpec)

/-- 'stamplaw3.PathReaches', WHERE WHAT IT READS IS OF BULK AT MOST 1048576: true; the input reads as it did. -/
def pathReachesUptoRow : OpenClaim := { program := "ytflhmpmdpdekeaa", sum := "b18e43143d3a3e7ecedd87d0a414183ed23fa8f37d5f42be246bd301e72f255a", func := "stampways/stamplaw3.PathReaches", spec := "pathReaches", unfollowed := true, recurses := true, plainKeys := false, apart := false, narrowed := true }
def PathReachesUptoSaid : Prop := pathReachesUptoRow.holds Try.pinned (OpenSpec.upto pathReachesSpec)

end Rows
end Go.Proofs.Ytflhmpmdpdekeaa
