/-
  The types of tables: what their readings are.
-/
import Derived.Test.YtcfcdembhjnjfaaFrame
import Derived.Test.YtcfcdembhjnjfaaReach
import Derived.Test.YtcfcdembhjnjfaaRows
set_option linter.unusedSimpArgs false
set_option linter.unusedVariables false
namespace Go.Proofs.Ytcfcdembhjnjfaa
open Go.RowKit Go.St Go.ChangeShapes Go.WideShapes

theorem o_int : Opens Try.prog 3 intS := opens_int Try.underlying3 (by kernel_rfl)
theorem o_ints : Opens Try.prog 50 (sliceS intS) := o_int.slice Try.underlying50 (by kernel_rfl)
theorem o_rule : Opens Try.prog 28 ruleS := opens_link Try.underlying28 (by kernel_rfl) o_int ⟨rfl, rfl⟩ ⟨rfl, rfl⟩ ⟨rfl, rfl⟩ rfl (fun a b c w ia ib ic => ⟨⟨a, b, c⟩, rfl, ia, ib, ic⟩)
theorem o_rules : Opens Try.prog 22 (sliceS ruleS) := o_rule.slice Try.underlying22 (by kernel_rfl)
theorem r_rules0 : OpensR Try.prog 22 (sliceS ruleS) (fun xs => xs.length * 24 ≤ 140737488351232 ∧ ∀ x ∈ xs, True) := o_rule.reach.slice Try.underlying22 (by kernel_rfl) (by kernel_rfl)
theorem r_rules : OpensR Try.prog 22 (sliceS ruleS) (fun xs => xs.length * 24 ≤ 140737488351232) :=
  ⟨r_rules0.size, r_rules0.pos, fun h hf => let ⟨a, ha, hr⟩ := r_rules0.op h hf; ⟨a, ha, hr.1⟩⟩
theorem law_own : ownKnob Try.prog.godebug = none := by kernel_rfl
theorem law_laid : laidOutB Try.prog = true := by kernel_rfl

end Go.Proofs.Ytcfcdembhjnjfaa
