/- Texts of this proof, one behind the other. -/
import Derived.Test.YtampcbncgofkoaaRows
import Derived.Test.YtampcbncgofkoaaPk9
set_option linter.unusedSimpArgs false
set_option linter.unusedVariables false
set_option maxRecDepth 100000
set_option maxHeartbeats 16000000
namespace Go.Proofs.Ytampcbncgofkoaa
open Go.RowKit Go.St Go.ChangeShapes Go.WideShapes
theorem A24:ownKnob Try.prog.godebug=none:=by kernel_rfl
theorem A0w:laidOutB Try.prog=true:=by kernel_rfl
end Go.Proofs.Ytampcbncgofkoaa
