/-
  The types of rows of tables: what their readings are.
-/
import Derived.Test.YtcfcdembhjnjfaaPathO
set_option linter.unusedSimpArgs false
set_option linter.unusedVariables false
namespace Go.Proofs.Ytcfcdembhjnjfaa
open Go.RowKit Go.St Go.ChangeShapes Go.WideShapes
theorem o_rule : Opens Try.prog 28 ruleS := opens_link Try.underlying28 (by kernel_rfl) o_int ⟨rfl, rfl⟩ ⟨rfl, rfl⟩ ⟨rfl, rfl⟩ rfl (fun a b c w ia ib ic => ⟨⟨a, b, c⟩, rfl, ia, ib, ic⟩)
theorem o_rules : Opens Try.prog 22 (sliceS ruleS) := o_rule.slice Try.underlying22 (by kernel_rfl)
theorem o_tabs : Opens Try.prog 39 (sliceS (sliceS ruleS)) := o_rules.slice Try.underlying39 (by kernel_rfl)
end Go.Proofs.Ytcfcdembhjnjfaa
