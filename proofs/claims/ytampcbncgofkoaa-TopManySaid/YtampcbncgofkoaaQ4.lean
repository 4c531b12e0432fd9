/- Texts of this proof, one behind the other. -/
import Derived.Test.YtampcbncgofkoaaQ2
import Derived.Test.YtampcbncgofkoaaPk9
set_option linter.unusedSimpArgs false
set_option linter.unusedVariables false
set_option maxRecDepth 100000
set_option maxHeartbeats 16000000
namespace Go.St
open Go.RowKit Go.ChangeShapes Go.WideShapes Go.ChangeAt
section
variable {H : Type} {enc : TypeId × Value → H} {P : Program} {w : World} {r : Reach} {b0 : Nat} {sp : Nat → Bool} {held : Bool} {t : TypeId} {v : Value} {d : DataW H} {ps : List MemPlace}
theorem A2q {α:Type} {S:D1 α} {fs:Array Field} (ho:O2 P t S) (ht:P.underlying t=some (.struct fs)) (hval:Value.okWide P w r b0 t v) (hd:DataW.Trod enc P w 0 sp held t v d ps):
  ∃ a cs,v=.agg cs.toArray∧S.rep (fun _=>True) w cs a:=by
 obtain ⟨cs,rfl,_⟩:=okWide_struct ht hval
 obtain ⟨fuel,hf⟩:=hd
 obtain ⟨a,ha⟩:=ho.op hf
 exact ⟨a,cs.toList,by simp,by simpa [Value.cells] using ha⟩
end
end Go.St
