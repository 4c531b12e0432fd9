/-
  No cell of these rows narrows 'for every input' (looked for: loops, veiled, ifaces, maps, wideKeys, modest, calm, conditions, laid).
  DERIVED. THE GIVEN ROWS OF THIS SEAT. 10 by the template 'for every input the law returns true; each argument reads behind the call as it read before'; 0 by the template 'total and deterministic' (their statements: YtcfcdembhjnjfaaTotals.lean).
  GIVEN WITH THE SEED: the statements are not yours to turn. If you find one false, say at which input.
  Laid BY PROGRAM, IN A SANDBOX (cutbox-rows.mjs): the forced cells as the released guide's own fill.sh prints them over the translation a7793d52ecb2ec08… (all of the seat's roots in one cut). By AI agents, Wed Nov 11 2026. No macro, syntax, notation, axiom, sorry.
-/
import Derived.Test.YtcfcdembhjnjfaaChecked
import GoSem.Claim
import GoSem.ClaimJoined
import GoSem.ClaimMapViews
import Derived.JoinedTies
import Derived.KernelRfl
namespace Go.Proofs.Ytcfcdembhjnjfaa
/- THE CELL 'sum', in the pinned program and in every row, IS THE sha256 OF THE DUMP (.gsa) THAT YtcfcdembhjnjfaaProg.lean LOADS. Nothing in Lean hashes anything: it is a label: what it is worth is what the hold of that sum in a sandbox is worth. -/
noncomputable def Try.pinned : Pinned := { name := "ytcfcdembhjnjfaa", sum := "a7793d52ecb2ec08d2efa2046264ed9956780bcd292b57a578abea8fa75558af", checked := Try.checked }
namespace Rows
def none {H : Type} : Left H := { results := [], args := [] }

/-- 'stamplaw4.RuleAdd': WHATEVER THE INPUT: true; the input reads as it did. -/
def ruleAddSpec : ChangeSpec := { name := "ruleAdd", fn := fun _ => fun
  | [d1, d2] => { results := [.lit (.bool true)], args := [d1, d2] }
  | _ => none }
def ruleAddRow : OpenClaim := { program := "ytcfcdembhjnjfaa", sum := "a7793d52ecb2ec08d2efa2046264ed9956780bcd292b57a578abea8fa75558af", func := "stampways/stamplaw4.RuleAdd", spec := "ruleAdd", unfollowed := true, recurses := true, plainKeys := false, apart := false }
def RuleAddSaid : Prop := ruleAddRow.holds Try.pinned (OpenSpec.ofChange ruleAddSpec)

/-- ITS FALSE NEIGHBOUR: 'it returns false'. Refute it at one input. -/
def ruleAddWrong : ChangeSpec := { name := "ruleAdd", fn := fun _ => fun
  | [d1, d2] => { results := [.lit (.bool false)], args := [d1, d2] }
  | _ => none }
def RuleAddWrongFalsely : Prop := ruleAddRow.holds Try.pinned (OpenSpec.ofChange ruleAddWrong)

/-- 'stamplaw4.RuleTells': WHATEVER THE INPUT: true; the input reads as it did. -/
def ruleTellsSpec : ChangeSpec := { name := "ruleTells", fn := fun _ => fun
  | [d1, d2, d3, d4, d5, d6] => { results := [.lit (.bool true)], args := [d1, d2, d3, d4, d5, d6] }
  | _ => none }
def ruleTellsRow : OpenClaim := { program := "ytcfcdembhjnjfaa", sum := "a7793d52ecb2ec08d2efa2046264ed9956780bcd292b57a578abea8fa75558af", func := "stampways/stamplaw4.RuleTells", spec := "ruleTells", unfollowed := true, recurses := true, plainKeys := false, apart := false }
def RuleTellsSaid : Prop := ruleTellsRow.holds Try.pinned (OpenSpec.ofChange ruleTellsSpec)

/-- ITS FALSE NEIGHBOUR: 'it returns false'. Refute it at one input. -/
def ruleTellsWrong : ChangeSpec := { name := "ruleTells", fn := fun _ => fun
  | [d1, d2, d3, d4, d5, d6] => { results := [.lit (.bool false)], args := [d1, d2, d3, d4, d5, d6] }
  | _ => none }
def RuleTellsWrongFalsely : Prop := ruleTellsRow.holds Try.pinned (OpenSpec.ofChange ruleTellsWrong)

/-- 'stamplaw4.RuleDrop': WHATEVER THE INPUT: true; the input reads as it did. -/
def ruleDropSpec : ChangeSpec := { name := "ruleDrop", fn := fun _ => fun
  | [d1, d2, d3, d4] => { results := [.lit (.bool true)], args := [d1, d2, d3, d4] }
  | _ => none }
def ruleDropRow : OpenClaim := { program := "ytcfcdembhjnjfaa", sum := "a7793d52ecb2ec08d2efa2046264ed9956780bcd292b57a578abea8fa75558af", func := "stampways/stamplaw4.RuleDrop", spec := "ruleDrop", unfollowed := true, recurses := true, plainKeys := false, apart := false }
def RuleDropSaid : Prop := ruleDropRow.holds Try.pinned (OpenSpec.ofChange ruleDropSpec)

/-- ITS FALSE NEIGHBOUR: 'it returns false'. Refute it at one input. -/
def ruleDropWrong : ChangeSpec := { name := "ruleDrop", fn := fun _ => fun
  | [d1, d2, d3, d4] => { results := [.lit (.bool false)], args := [d1, d2, d3, d4] }
  | _ => none }
def RuleDropWrongFalsely : Prop := ruleDropRow.holds Try.pinned (OpenSpec.ofChange ruleDropWrong)

/-- 'stamplaw4.RuleCount': WHATEVER THE INPUT: true; the input reads as it did. -/
def ruleCountSpec : ChangeSpec := { name := "ruleCount", fn := fun _ => fun
  | [d1, d2, d3] => { results := [.lit (.bool true)], args := [d1, d2, d3] }
  | _ => none }
def ruleCountRow : OpenClaim := { program := "ytcfcdembhjnjfaa", sum := "a7793d52ecb2ec08d2efa2046264ed9956780bcd292b57a578abea8fa75558af", func := "stampways/stamplaw4.RuleCount", spec := "ruleCount", unfollowed := true, recurses := true, plainKeys := false, apart := false }
def RuleCountSaid : Prop := ruleCountRow.holds Try.pinned (OpenSpec.ofChange ruleCountSpec)

/-- ITS FALSE NEIGHBOUR: 'it returns false'. Refute it at one input. -/
def ruleCountWrong : ChangeSpec := { name := "ruleCount", fn := fun _ => fun
  | [d1, d2, d3] => { results := [.lit (.bool false)], args := [d1, d2, d3] }
  | _ => none }
def RuleCountWrongFalsely : Prop := ruleCountRow.holds Try.pinned (OpenSpec.ofChange ruleCountWrong)

/-- 'stamplaw4.RuleWalks': WHATEVER THE INPUT: true; the input reads as it did. -/
def ruleWalksSpec : ChangeSpec := { name := "ruleWalks", fn := fun _ => fun
  | [d1, d2, d3, d4] => { results := [.lit (.bool true)], args := [d1, d2, d3, d4] }
  | _ => none }
def ruleWalksRow : OpenClaim := { program := "ytcfcdembhjnjfaa", sum := "a7793d52ecb2ec08d2efa2046264ed9956780bcd292b57a578abea8fa75558af", func := "stampways/stamplaw4.RuleWalks", spec := "ruleWalks", unfollowed := true, recurses := true, plainKeys := false, apart := false }
def RuleWalksSaid : Prop := ruleWalksRow.holds Try.pinned (OpenSpec.ofChange ruleWalksSpec)

/-- ITS FALSE NEIGHBOUR: 'it returns false'. Refute it at one input. -/
def ruleWalksWrong : ChangeSpec := { name := "ruleWalks", fn := fun _ => fun
  | [d1, d2, d3, d4] => { results := [.lit (.bool false)], args := [d1, d2, d3, d4] }
  | _ => none }
def RuleWalksWrongFalsely : Prop := ruleWalksRow.holds Try.pinned (OpenSpec.ofChange ruleWalksWrong)

/-- 'stamplaw6.AgentTells': WHATEVER THE INPUT: true; the input reads as it did. -/
def agentTellsSpec : ChangeSpec := { name := "agentTells", fn := fun _ => fun
  | [d1, d2, d3] => { results := [.lit (.bool true)], args := [d1, d2, d3] }
  | _ => none }
def agentTellsRow : OpenClaim := { program := "ytcfcdembhjnjfaa", sum := "a7793d52ecb2ec08d2efa2046264ed9956780bcd292b57a578abea8fa75558af", func := "stampways/stamplaw6.AgentTells", spec := "agentTells", inPlace := ["slices.overlaps[stampways/api.Stamp]"], unfollowed := true, recurses := true, plainKeys := false, apart := false }
def AgentTellsSaid : Prop := agentTellsRow.holds Try.pinned (OpenSpec.ofChange agentTellsSpec)

/-- ITS FALSE NEIGHBOUR: 'it returns false'. Refute it at one input. -/
def agentTellsWrong : ChangeSpec := { name := "agentTells", fn := fun _ => fun
  | [d1, d2, d3] => { results := [.lit (.bool false)], args := [d1, d2, d3] }
  | _ => none }
def AgentTellsWrongFalsely : Prop := agentTellsRow.holds Try.pinned (OpenSpec.ofChange agentTellsWrong)

/-- 'stamplaw6.AgentApart': WHATEVER THE INPUT: true; the input reads as it did. -/
def agentApartSpec : ChangeSpec := { name := "agentApart", fn := fun _ => fun
  | [d1, d2] => { results := [.lit (.bool true)], args := [d1, d2] }
  | _ => none }
def agentApartRow : OpenClaim := { program := "ytcfcdembhjnjfaa", sum := "a7793d52ecb2ec08d2efa2046264ed9956780bcd292b57a578abea8fa75558af", func := "stampways/stamplaw6.AgentApart", spec := "agentApart", inPlace := ["slices.overlaps[stampways/api.Stamp]"], unfollowed := true, recurses := true, plainKeys := false, apart := false }
def AgentApartSaid : Prop := agentApartRow.holds Try.pinned (OpenSpec.ofChange agentApartSpec)

/-- ITS FALSE NEIGHBOUR: 'it returns false'. Refute it at one input. -/
def agentApartWrong : ChangeSpec := { name := "agentApart", fn := fun _ => fun
  | [d1, d2] => { results := [.lit (.bool false)], args := [d1, d2] }
  | _ => none }
def AgentApartWrongFalsely : Prop := agentApartRow.holds Try.pinned (OpenSpec.ofChange agentApartWrong)

/-- 'stamplaw6.AgentTwice': WHATEVER THE INPUT: true; the input reads as it did. -/
def agentTwiceSpec : ChangeSpec := { name := "agentTwice", fn := fun _ => fun
  | [d1, d2] => { results := [.lit (.bool true)], args := [d1, d2] }
  | _ => none }
def agentTwiceRow : OpenClaim := { program := "ytcfcdembhjnjfaa", sum := "a7793d52ecb2ec08d2efa2046264ed9956780bcd292b57a578abea8fa75558af", func := "stampways/stamplaw6.AgentTwice", spec := "agentTwice", inPlace := ["slices.overlaps[stampways/api.Stamp]"], unfollowed := true, recurses := true, plainKeys := false, apart := false }
def AgentTwiceSaid : Prop := agentTwiceRow.holds Try.pinned (OpenSpec.ofChange agentTwiceSpec)

/-- ITS FALSE NEIGHBOUR: 'it returns false'. Refute it at one input. -/
def agentTwiceWrong : ChangeSpec := { name := "agentTwice", fn := fun _ => fun
  | [d1, d2] => { results := [.lit (.bool false)], args := [d1, d2] }
  | _ => none }
def AgentTwiceWrongFalsely : Prop := agentTwiceRow.holds Try.pinned (OpenSpec.ofChange agentTwiceWrong)

/-- 'stamplaw6.AgentGone': WHATEVER THE INPUT: true; the input reads as it did. -/
def agentGoneSpec : ChangeSpec := { name := "agentGone", fn := fun _ => fun
  | [d1, d2, d3] => { results := [.lit (.bool true)], args := [d1, d2, d3] }
  | _ => none }
def agentGoneRow : OpenClaim := { program := "ytcfcdembhjnjfaa", sum := "a7793d52ecb2ec08d2efa2046264ed9956780bcd292b57a578abea8fa75558af", func := "stampways/stamplaw6.AgentGone", spec := "agentGone", inPlace := ["slices.overlaps[stampways/api.Stamp]"], unfollowed := true, recurses := true, plainKeys := false, apart := false }
def AgentGoneSaid : Prop := agentGoneRow.holds Try.pinned (OpenSpec.ofChange agentGoneSpec)

/-- ITS FALSE NEIGHBOUR: 'it returns false'. Refute it at one input. -/
def agentGoneWrong : ChangeSpec := { name := "agentGone", fn := fun _ => fun
  | [d1, d2, d3] => { results := [.lit (.bool false)], args := [d1, d2, d3] }
  | _ => none }
def AgentGoneWrongFalsely : Prop := agentGoneRow.holds Try.pinned (OpenSpec.ofChange agentGoneWrong)

/-- 'stamplaw6.AgentOrder': WHATEVER THE INPUT: true; the input reads as it did. -/
def agentOrderSpec : ChangeSpec := { name := "agentOrder", fn := fun _ => fun
  | [d1, d2, d3] => { results := [.lit (.bool true)], args := [d1, d2, d3] }
  | _ => none }
def agentOrderRow : OpenClaim := { program := "ytcfcdembhjnjfaa", sum := "a7793d52ecb2ec08d2efa2046264ed9956780bcd292b57a578abea8fa75558af", func := "stampways/stamplaw6.AgentOrder", spec := "agentOrder", inPlace := ["slices.overlaps[stampways/api.Stamp]"], unfollowed := true, recurses := true, plainKeys := false, apart := false }
def AgentOrderSaid : Prop := agentOrderRow.holds Try.pinned (OpenSpec.ofChange agentOrderSpec)

/-- ITS FALSE NEIGHBOUR: 'it returns false'. Refute it at one input. -/
def agentOrderWrong : ChangeSpec := { name := "agentOrder", fn := fun _ => fun
  | [d1, d2, d3] => { results := [.lit (.bool false)], args := [d1, d2, d3] }
  | _ => none }
def AgentOrderWrongFalsely : Prop := agentOrderRow.holds Try.pinned (OpenSpec.ofChange agentOrderWrong)

/- THE SECOND FORM. 'bulk': how many values and letters a reading holds, each counted each time it is reached (what is shared counts as often as it is met; a slice's spare places count too). A statement '..UptoSaid' is the law's where the arguments, and the package variables that the reading takes, are together of bulk at most 1048576: NARROWER than '..Said'. Prove '..Said' where nothing that the law and all that it calls make is longer than what came in: it says more and counts as full. Else prove '..UptoSaid'. A law counts once. -/
mutual
def uptoBulk {H : Type} : DataW H → Nat
  | .lit (.string bytes) => bytes.length + 1
  | .lit _ => 1
  | .nil => 1
  | .ptr d => uptoBulk d + 1
  | .slice elems spare => uptoBulkAll elems + uptoBulkAll spare + 1
  | .agg parts => uptoBulkAll parts + 1
  | .iface _ d => uptoBulk d + 1
  | .map entries => uptoBulkEntries entries + 1
  | .held _ => 1
def uptoBulkAll {H : Type} : List (DataW H) → Nat
  | [] => 0
  | d :: r => uptoBulk d + uptoBulkAll r
def uptoBulkEntries {H : Type} : List (Lit × DataW H) → Nat
  | [] => 0
  | x :: r => uptoBulkEntry x + uptoBulkEntries r
def uptoBulkEntry {H : Type} : Lit × DataW H → Nat
  | (.string bytes, d) => bytes.length + uptoBulk d + 1
  | (_, d) => uptoBulk d + 1
 end
def uptoSmall : (H : Type) → List (DataW H) → Bool := fun _ ds => decide (uptoBulkAll ds ≤ 1048576)
def OpenSpec.upto (s : _root_.Go.ChangeSpec) : _root_.Go.OpenSpec := { _root_.Go.OpenSpec.ofChange s with cond := some uptoSmall }

/-- 'stamplaw4.RuleAdd', WHERE WHAT IT READS IS OF BULK AT MOST 1048576: true; the input reads as it did. -/
def ruleAddUptoRow : OpenClaim := { program := "ytcfcdembhjnjfaa", sum := "a7793d52ecb2ec08d2efa2046264ed9956780bcd292b57a578abea8fa75558af", func := "stampways/stamplaw4.RuleAdd", spec := "ruleAdd", unfollowed := true, recurses := true, plainKeys := false, apart := false, narrowed := true }
def RuleAddUptoSaid : Prop := ruleAddUptoRow.holds Try.pinned (OpenSpec.upto ruleAddSpec)

/-- 'stamplaw4.RuleTells', WHERE WHAT IT READS IS OF BULK AT MOST 1048576: true; the input reads as it did. -/
def ruleTellsUptoRow : OpenClaim := { program := "ytcfcdembhjnjfaa", sum := "a7793d52ecb2ec08d2efa2046264ed9956780bcd292b57a578abea8fa75558af", func := "stampways/stamplaw4.RuleTells", spec := "ruleTells", unfollowed := true, recurses := true, plainKeys := false, apart := false, narrowed := true }
def RuleTellsUptoSaid : Prop := ruleTellsUptoRow.holds Try.pinned (OpenSpec.upto ruleTellsSpec)

/-- 'stamplaw4.RuleDrop', WHERE WHAT IT READS IS OF BULK AT MOST 1048576: true; the input reads as it did. -/
def ruleDropUptoRow : OpenClaim := { program := "ytcfcdembhjnjfaa", sum := "a7793d52ecb2ec08d2efa2046264ed9956780bcd292b57a578abea8fa75558af", func := "stampways/stamplaw4.RuleDrop", spec := "ruleDrop", unfollowed := true, recurses := true, plainKeys := false, apart := false, narrowed := true }
def RuleDropUptoSaid : Prop := ruleDropUptoRow.holds Try.pinned (OpenSpec.upto ruleDropSpec)

/-- 'stamplaw4.RuleCount', WHERE WHAT IT READS IS OF BULK AT MOST 1048576: true; the input reads as it did. -/
def ruleCountUptoRow : OpenClaim := { program := "ytcfcdembhjnjfaa", sum := "a7793d52ecb2ec08d2efa2046264ed9956780bcd292b57a578abea8fa75558af", func := "stampways/stamplaw4.RuleCount", spec := "ruleCount", unfollowed := true, recurses := true, plainKeys := false, apart := false, narrowed := true }
def RuleCountUptoSaid : Prop := ruleCountUptoRow.holds Try.pinned (OpenSpec.upto ruleCountSpec)

/-- 'stamplaw4.RuleWalks', WHERE WHAT IT READS IS OF BULK AT MOST 1048576: true; the input reads as it did. -/
def ruleWalksUptoRow : OpenClaim := { program := "ytcfcdembhjnjfaa", sum := "a7793d52ecb2ec08d2efa2046264ed9956780bcd292b57a578abea8fa75558af", func := "stampways/stamplaw4.RuleWalks", spec := "ruleWalks", unfollowed := true, recurses := true, plainKeys := false, apart := false, narrowed := true }
def RuleWalksUptoSaid : Prop := ruleWalksUptoRow.holds Try.pinned (OpenSpec.upto ruleWalksSpec)

/-- 'stamplaw6.AgentTells', WHERE WHAT IT READS IS OF BULK AT MOST 1048576: true; the input reads as it did. -/
def agentTellsUptoRow : OpenClaim := { program := "ytcfcdembhjnjfaa", sum := "a7793d52ecb2ec08d2efa2046264ed9956780bcd292b57a578abea8fa75558af", func := "stampways/stamplaw6.AgentTells", spec := "agentTells", inPlace := ["slices.overlaps[stampways/api.Stamp]"], unfollowed := true, recurses := true, plainKeys := false, apart := false, narrowed := true }
def AgentTellsUptoSaid : Prop := agentTellsUptoRow.holds Try.pinned (OpenSpec.upto agentTellsSpec)

/-- 'stamplaw6.AgentApart', WHERE WHAT IT READS IS OF BULK AT MOST 1048576: true; the input reads as it did. -/
def agentApartUptoRow : OpenClaim := { program := "ytcfcdembhjnjfaa", sum := "a7793d52ecb2ec08d2efa2046264ed9956780bcd292b57a578abea8fa75558af", func := "stampways/stamplaw6.AgentApart", spec := "agentApart", inPlace := ["slices.overlaps[stampways/api.Stamp]"], unfollowed := true, recurses := true, plainKeys := false, apart := false, narrowed := true }
def AgentApartUptoSaid : Prop := agentApartUptoRow.holds Try.pinned (OpenSpec.upto agentApartSpec)

/-- 'stamplaw6.AgentTwice', WHERE WHAT IT READS IS OF BULK AT MOST 1048576: true; the input reads as it did. -/
def agentTwiceUptoRow : OpenClaim := { program := "ytcfcdembhjnjfaa", sum := "a7793d52ecb2ec08d2efa2046264ed9956780bcd292b57a578abea8fa75558af", func := "stampways/stamplaw6.AgentTwice", spec := "agentTwice", inPlace := ["slices.overlaps[stampways/api.Stamp]"], unfollowed := true, recurses := true, plainKeys := false, apart := false, narrowed := true }
def AgentTwiceUptoSaid : Prop := agentTwiceUptoRow.holds Try.pinned (OpenSpec.upto agentTwiceSpec)

/-- 'stamplaw6.AgentGone', WHERE WHAT IT READS IS OF BULK AT MOST 1048576: true; the input reads as it did. -/
def agentGoneUptoRow : OpenClaim := { program := "ytcfcdembhjnjfaa", sum := "a7793d52ecb2ec08d2efa2046264ed9956780bcd292b57a578abea8fa75558af", func := "stampways/stamplaw6.AgentGone", spec := "agentGone", inPlace := ["slices.overlaps[stampways/api.Stamp]"], unfollowed := true, recurses := true, plainKeys := false, apart := false, narrowed := true }
def AgentGoneUptoSaid : Prop := agentGoneUptoRow.holds Try.pinned (OpenSpec.upto agentGoneSpec)

/-- 'stamplaw6.AgentOrder', WHERE WHAT IT READS IS OF BULK AT MOST 1048576: true; the input reads as it did. -/
def agentOrderUptoRow : OpenClaim := { program := "ytcfcdembhjnjfaa", sum := "a7793d52ecb2ec08d2efa2046264ed9956780bcd292b57a578abea8fa75558af", func := "stampways/stamplaw6.AgentOrder", spec := "agentOrder", inPlace := ["slices.overlaps[stampways/api.Stamp]"], unfollowed := true, recurses := true, plainKeys := false, apart := false, narrowed := true }
def AgentOrderUptoSaid : Prop := agentOrderUptoRow.holds Try.pinned (OpenSpec.upto agentOrderSpec)

end Rows
end Go.Proofs.Ytcfcdembhjnjfaa
