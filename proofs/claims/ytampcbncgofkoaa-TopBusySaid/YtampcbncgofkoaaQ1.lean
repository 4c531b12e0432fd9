/- Texts of this proof, one behind the other. -/
import Derived.Test.YtampcbncgofkoaaPk1
set_option linter.unusedSimpArgs false
set_option linter.unusedVariables false
set_option maxRecDepth 100000
set_option maxHeartbeats 16000000
namespace Go.St
variable {α : Type} {lt : α → α → Bool}
variable {α : Type} {lt : α → α → Bool}
instance (r : C1) : Decidable (O3 r) := by unfold O3; infer_instance
variable {α : Type} {lt : α → α → Bool}
variable {α : Type}
instance (x : J0) : Decidable (W8 x) := by unfold W8; infer_instance
end Go.St
