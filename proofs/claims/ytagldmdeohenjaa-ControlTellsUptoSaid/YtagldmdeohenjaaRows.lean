/-
  No cell of these rows narrows 'for every input' (looked for: loops, veiled, ifaces, maps, wideKeys, modest, calm, conditions, laid).
  DERIVED. THE GIVEN ROWS OF THIS SEAT. 4 by the template 'for every input the law returns true; each argument reads behind the call as it read before'; 0 by the template 'total and deterministic' (their statements: YtagldmdeohenjaaTotals.lean).
  GIVEN WITH THE SEED: the statements are not yours to turn. If you find one false, say at which input.
  Laid BY PROGRAM, IN A SANDBOX (cutbox-rows.mjs): the forced cells as the released guide's own fill.sh prints them over the translation f1053ccb057c52ef… (all of the seat's roots in one cut). By AI agents, Wed Nov 11 2026. No macro, syntax, notation, axiom, sorry.
-/
import Derived.Test.YtagldmdeohenjaaChecked
import GoSem.Claim
import GoSem.ClaimJoined
import GoSem.ClaimMapViews
import Derived.JoinedTies
import Derived.KernelRfl
namespace Go.Proofs.Ytagldmdeohenjaa
/- THE CELL 'sum', in the pinned program and in every row, IS THE sha256 OF THE DUMP (.gsa) THAT YtagldmdeohenjaaProg.lean LOADS. Nothing in Lean hashes anything: it is a label: what it is worth is what the hold of that sum in a sandbox is worth. -/
noncomputable def Try.pinned : Pinned := { name := "ytagldmdeohenjaa", sum := "f1053ccb057c52efb3d9203b986d78ee9e91b8dbc8a1c16d0f8c173ca87067e1", checked := Try.checked }
namespace Rows
def none {H : Type} : Left H := { results := [], args := [] }

/-- 'stamplaw7.ControlOrder': WHATEVER THE INPUT: true; the input reads as it did. -/
def controlOrderSpec : ChangeSpec := { name := "controlOrder", fn := fun _ => fun
  | [d1, d2, d3] => { results := [.lit (.bool true)], args := [d1, d2, d3] }
  | _ => none }
def controlOrderRow : OpenClaim := { program := "ytagldmdeohenjaa", sum := "f1053ccb057c52efb3d9203b986d78ee9e91b8dbc8a1c16d0f8c173ca87067e1", func := "stampways/stamplaw7.ControlOrder", spec := "controlOrder", unfollowed := true, recurses := true, plainKeys := false, apart := false }
def ControlOrderSaid : Prop := controlOrderRow.holds Try.pinned (OpenSpec.ofChange controlOrderSpec)

/-- ITS FALSE NEIGHBOUR: 'it returns false'. Refute it at one input. -/
def controlOrderWrong : ChangeSpec := { name := "controlOrder", fn := fun _ => fun
  | [d1, d2, d3] => { results := [.lit (.bool false)], args := [d1, d2, d3] }
  | _ => none }
def ControlOrderWrongFalsely : Prop := controlOrderRow.holds Try.pinned (OpenSpec.ofChange controlOrderWrong)

/-- 'stamplaw7.ControlTells': WHATEVER THE INPUT: true; the input reads as it did. -/
def controlTellsSpec : ChangeSpec := { name := "controlTells", fn := fun _ => fun
  | [d1, d2, d3, d4] => { results := [.lit (.bool true)], args := [d1, d2, d3, d4] }
  | _ => none }
def controlTellsRow : OpenClaim := { program := "ytagldmdeohenjaa", sum := "f1053ccb057c52efb3d9203b986d78ee9e91b8dbc8a1c16d0f8c173ca87067e1", func := "stampways/stamplaw7.ControlTells", spec := "controlTells", unfollowed := true, recurses := true, plainKeys := false, apart := false }
def ControlTellsSaid : Prop := controlTellsRow.holds Try.pinned (OpenSpec.ofChange controlTellsSpec)

/-- ITS FALSE NEIGHBOUR: 'it returns false'. Refute it at one input. -/
def controlTellsWrong : ChangeSpec := { name := "controlTells", fn := fun _ => fun
  | [d1, d2, d3, d4] => { results := [.lit (.bool false)], args := [d1, d2, d3, d4] }
  | _ => none }
def ControlTellsWrongFalsely : Prop := controlTellsRow.holds Try.pinned (OpenSpec.ofChange controlTellsWrong)

/-- 'stamplaw7.ControlSettles': WHATEVER THE INPUT: true; the input reads as it did. -/
def controlSettlesSpec : ChangeSpec := { name := "controlSettles", fn := fun _ => fun
  | [d1, d2, d3, d4] => { results := [.lit (.bool true)], args := [d1, d2, d3, d4] }
  | _ => none }
def controlSettlesRow : OpenClaim := { program := "ytagldmdeohenjaa", sum := "f1053ccb057c52efb3d9203b986d78ee9e91b8dbc8a1c16d0f8c173ca87067e1", func := "stampways/stamplaw7.ControlSettles", spec := "controlSettles", unfollowed := true, recurses := true, plainKeys := false, apart := false }
def ControlSettlesSaid : Prop := controlSettlesRow.holds Try.pinned (OpenSpec.ofChange controlSettlesSpec)

/-- ITS FALSE NEIGHBOUR: 'it returns false'. Refute it at one input. -/
def controlSettlesWrong : ChangeSpec := { name := "controlSettles", fn := fun _ => fun
  | [d1, d2, d3, d4] => { results := [.lit (.bool false)], args := [d1, d2, d3, d4] }
  | _ => none }
def ControlSettlesWrongFalsely : Prop := controlSettlesRow.holds Try.pinned (OpenSpec.ofChange controlSettlesWrong)

/-- 'stamplaw7.ControlRight': WHATEVER THE INPUT: true; the input reads as it did. -/
def controlRightSpec : ChangeSpec := { name := "controlRight", fn := fun _ => fun
  | [d1, d2, d3, d4] => { results := [.lit (.bool true)], args := [d1, d2, d3, d4] }
  | _ => none }
def controlRightRow : OpenClaim := { program := "ytagldmdeohenjaa", sum := "f1053ccb057c52efb3d9203b986d78ee9e91b8dbc8a1c16d0f8c173ca87067e1", func := "stampways/stamplaw7.ControlRight", spec := "controlRight", unfollowed := true, recurses := true, plainKeys := false, apart := false }
def ControlRightSaid : Prop := controlRightRow.holds Try.pinned (OpenSpec.ofChange controlRightSpec)

/-- ITS FALSE NEIGHBOUR: 'it returns false'. Refute it at one input. -/
def controlRightWrong : ChangeSpec := { name := "controlRight", fn := fun _ => fun
  | [d1, d2, d3, d4] => { results := [.lit (.bool false)], args := [d1, d2, d3, d4] }
  | _ => none }
def ControlRightWrongFalsely : Prop := controlRightRow.holds Try.pinned (OpenSpec.ofChange controlRightWrong)

/- THE SECOND FORM. 'bulk': how many values and letters a reading holds, each counted each time it is reached (what is shared counts as often as it is met; a slice's spare places count too). A statement '..UptoSaid' is the law's where the arguments, and the package variables that the reading takes, are together of bulk at most 1048576: NARROWER than '..Said'. Prove '..Said' where nothing that the law and all that it calls make is longer than what came in: it says more and counts as full. Else prove '..UptoSaid'. A law counts once. -/
mutual
def uptoBulk {H : Type} : DataW H → Nat
  | .lit (.string bytes) => bytes.length + 1
  | .lit _ => 1
  | .nil => 1
  | .ptr d => uptoBulk d + 1
  | .slice elems spare => uptoBulkAll elems + uptoBulkAll spare + 1
  | .agg parts => uptoBulkAll parts + 1
  | .iface _ d => uptoBulk d + 1
  | .map entries => uptoBulkEntries entries + 1
  | .held _ => 1
def uptoBulkAll {H : Type} : List (DataW H) → Nat
  | [] => 0
  | d :: r => uptoBulk d + uptoBulkAll r
def uptoBulkEntries {H : Type} : List (Lit × DataW H) → Nat
  | [] => 0
  | x :: r => uptoBulkEntry x + uptoBulkEntries r
def uptoBulkEntry {H : Type} : Lit × DataW H → Nat
  | (.string bytes, d) => bytes.length + uptoBulk d + 1
  | (_, d) => uptoBulk d + 1
 end
def uptoSmall : (H : Type) → List (DataW H) → Bool := fun _ ds => decide (uptoBulkAll ds ≤ 1048576)
def OpenSpec.upto (s : _root_.Go.ChangeSpec) : _root_.Go.OpenSpec := { _root_.Go.OpenSpec.ofChange s with cond := some uptoSmall }

/-- 'stamplaw7.ControlOrder', WHERE WHAT IT READS IS OF BULK AT MOST 1048576: true; the input reads as it did. -/
def controlOrderUptoRow : OpenClaim := { program := "ytagldmdeohenjaa", sum := "f1053ccb057c52efb3d9203b986d78ee9e91b8dbc8a1c16d0f8c173ca87067e1", func := "stampways/stamplaw7.ControlOrder", spec := "controlOrder", unfollowed := true, recurses := true, plainKeys := false, apart := false, narrowed := true }
def ControlOrderUptoSaid : Prop := controlOrderUptoRow.holds Try.pinned (OpenSpec.upto controlOrderSpec)

/-- 'stamplaw7.ControlTells', WHERE WHAT IT READS IS OF BULK AT MOST 1048576: true; the input reads as it did. -/
def controlTellsUptoRow : OpenClaim := { program := "ytagldmdeohenjaa", sum := "f1053ccb057c52efb3d9203b986d78ee9e91b8dbc8a1c16d0f8c173ca87067e1", func := "stampways/stamplaw7.ControlTells", spec := "controlTells", unfollowed := true, recurses := true, plainKeys := false, apart := false, narrowed := true }
def ControlTellsUptoSaid : Prop := controlTellsUptoRow.holds Try.pinned (OpenSpec.upto controlTellsSpec)

/-- 'stamplaw7.ControlSettles', WHERE WHAT IT READS IS OF BULK AT MOST 1048576: true; the input reads as it did. -/
def controlSettlesUptoRow : OpenClaim := { program := "ytagldmdeohenjaa", sum := "f1053ccb057c52efb3d9203b986d78ee9e91b8dbc8a1c16d0f8c173ca87067e1", func := "stampways/stamplaw7.ControlSettles", spec := "controlSettles", unfollowed := true, recurses := true, plainKeys := false, apart := false, narrowed := true }
def ControlSettlesUptoSaid : Prop := controlSettlesUptoRow.holds Try.pinned (OpenSpec.upto controlSettlesSpec)

/-- 'stamplaw7.ControlRight', WHERE WHAT IT READS IS OF BULK AT MOST 1048576: true; the input reads as it did. -/
def controlRightUptoRow : OpenClaim := { program := "ytagldmdeohenjaa", sum := "f1053ccb057c52efb3d9203b986d78ee9e91b8dbc8a1c16d0f8c173ca87067e1", func := "stampways/stamplaw7.ControlRight", spec := "controlRight", unfollowed := true, recurses := true, plainKeys := false, apart := false, narrowed := true }
def ControlRightUptoSaid : Prop := controlRightUptoRow.holds Try.pinned (OpenSpec.upto controlRightSpec)

end Rows
end Go.Proofs.Ytagldmdeohenjaa
