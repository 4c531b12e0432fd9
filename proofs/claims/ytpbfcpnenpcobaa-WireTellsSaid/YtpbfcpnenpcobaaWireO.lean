/-
  The types of an order's parts: what their readings are.
-/
import Derived.Test.YtpbfcpnenpcobaaFrame
import Derived.Test.YtpbfcpnenpcobaaRows
set_option linter.unusedSimpArgs false
set_option linter.unusedVariables false
namespace Go.Proofs.Ytpbfcpnenpcobaa
open Go.RowKit Go.St Go.ChangeShapes Go.WideShapes

theorem o_int : Opens Try.prog 3 intS := opens_int Try.underlying3 (by kernel_rfl)
theorem o_byte : Opens Try.prog 5 byteS := opens_byte Try.underlying5 (by kernel_rfl)
theorem o_ints : Opens Try.prog 23 (sliceS intS) := o_int.slice Try.underlying23 (by kernel_rfl)
theorem o_bytes : Opens Try.prog 26 (sliceS byteS) := o_byte.slice Try.underlying26 (by kernel_rfl)
theorem o_rule : Opens Try.prog 41 ruleS := opens_link Try.underlying41 (by kernel_rfl) o_int ⟨rfl, rfl⟩ ⟨rfl, rfl⟩ ⟨rfl, rfl⟩ rfl (fun a b c w ia ib ic => ⟨⟨a, b, c⟩, rfl, ia, ib, ic⟩)
theorem o_rules : Opens Try.prog 22 (sliceS ruleS) := o_rule.slice Try.underlying22 (by kernel_rfl)
theorem o_order : Opens Try.prog 25 orderS := opens_order Try.underlying25 (by kernel_rfl) o_int o_rules o_ints ⟨rfl, rfl⟩ ⟨rfl, rfl⟩ ⟨rfl, rfl⟩ ⟨rfl, rfl⟩ ⟨rfl, rfl⟩
theorem law_own : ownKnob Try.prog.godebug = none := by kernel_rfl
theorem law_laid : laidOutB Try.prog = true := by kernel_rfl

/-- a struct's value, of its reading -/
theorem okAgg {base : Nat} {P : Program} {t : TypeId} {w : World} {v : Value} {fs : Array Field} (ht : P.underlying t = some (.struct fs)) (h : Value.okWide P w .any base t v) : ∃ cs, v = .agg cs := by
  simp only [Value.okWide, ht] at h
  obtain ⟨cs, rfl, _⟩ := h
  exact ⟨cs, rfl⟩
theorem cells_agg (cs : Array Value) : (Value.agg cs).cells.toList = cs.toList := by simp [Value.cells]

end Go.Proofs.Ytpbfcpnenpcobaa
