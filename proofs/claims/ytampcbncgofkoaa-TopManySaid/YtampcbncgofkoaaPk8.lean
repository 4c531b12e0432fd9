/- Texts of this proof, one behind the other. -/
import Derived.Deep.Slices
import Derived.ProofKit
import Derived.Test.YtampcbncgofkoaaPk1
set_option linter.unusedSimpArgs false
set_option linter.unusedVariables false
set_option maxRecDepth 100000
set_option maxHeartbeats 16000000
namespace Go.St
open Go.RowKit Go.Deep Go.ChangeShapes Go.WideShapes
theorem I64.of_wf {n:Int} (h:(Lit.int .i64 n).wf=true):I64 n:=by
 simp only [Lit.wf,Bool.and_eq_true,decide_eq_true_eq] at h
 have e1:IntKind.i64.min=-9223372036854775808:=by decide
 have e2:IntKind.i64.max=9223372036854775807:=by decide
 rw [e1,e2] at h
 exact h
end Go.St
