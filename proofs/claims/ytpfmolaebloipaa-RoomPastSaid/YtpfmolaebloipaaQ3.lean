/- Texts of this proof, one behind the other. -/
import Derived.Test.YtpfmolaebloipaaPk11
set_option linter.unusedSimpArgs false
set_option linter.unusedVariables false
set_option maxRecDepth 100000
set_option maxHeartbeats 16000000
namespace Go.St
open Go.RowKit Go.ChangeShapes Go.WideShapes Go.ChangeAt
section
variable {H : Type} {enc : TypeId × Value → H} {P : Program} {w : World} {r : Reach} {b0 : Nat} {sp : Nat → Bool} {held : Bool} {t : TypeId} {v : Value} {d : DataW H} {ps : List MemPlace}
theorem B79 (ht:P.underlying t=some (.int .i64)) (hval:Value.okWide P w r b0 t v) (hd:DataW.Trod enc P w 0 sp held t v d ps):∃ n,v=.int .i64 n∧I64 n:=by
 obtain ⟨n,rfl,_,_,hw⟩:=open_int ht hval hd
 exact ⟨n,rfl,I64.of_wf hw⟩
end
end Go.St
