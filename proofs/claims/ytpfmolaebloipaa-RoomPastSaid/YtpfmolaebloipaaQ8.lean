/- Texts of this proof, one behind the other. -/
import Derived.Test.YtpfmolaebloipaaQ7
import Derived.Test.YtpfmolaebloipaaPk39
set_option linter.unusedSimpArgs false
set_option linter.unusedVariables false
set_option maxRecDepth 100000
set_option maxHeartbeats 16000000
namespace Go.St
open Go.RowKit
section
variable {α : Type} {s : D1 α} {ok ok' : Nat → Prop} {w w' : World} {ao : Option Addr} {cap : Nat} {xs : List α}
theorem C7.E {e:TypeId} {base n:Nat} (h:C7 s e ok base w ao n cap xs):A1c s ok w ao cap xs:=by
 have hr:=h.row (ok':=fun _=>True) (fun _ _=>trivial) (fun _ _=>trivial)
 refine ⟨hr.1,hr.2.1,?_⟩
 obtain ⟨cells,h1,rfl,h3,h4,h5⟩:=h
 obtain ⟨hc,hle,hm,⟨rfl,h0⟩|⟨g,cur,rfl,hb,hg,r⟩⟩:=id h1
 ·left
  exact List.eq_nil_of_length_eq_zero (by omega)
 ·right
  refine ⟨g,0,rfl,(h1.lt g rfl).2,fun i x hx=>⟨_,h3 i x hx,fun j c hj=>?_⟩⟩
  rw [Nat.zero_add]
  exact h1.cell rfl _ _ (Z2 hj)
end
end Go.St
