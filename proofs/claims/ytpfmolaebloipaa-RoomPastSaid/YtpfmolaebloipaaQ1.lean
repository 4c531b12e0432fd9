/- Texts of this proof, one behind the other. -/
import Derived.Test.YtpfmolaebloipaaPk1
set_option linter.unusedSimpArgs false
set_option linter.unusedVariables false
set_option maxRecDepth 100000
set_option maxHeartbeats 16000000
namespace Go.St
variable {α : Type} {lt : α → α → Bool}
variable {α : Type} {lt : α → α → Bool}
instance (r : C1) : Decidable (O3 r) := by unfold O3; infer_instance
theorem B7y {m:List C1} (h:m.Pairwise fun a b=>B4 a b=true) {r:C1} (hr:r∈m):N0 m r.ver r.flow=(r.next,true):=by
 unfold N0
 cases hf:m.find? (fun x=>x.ver==r.ver && x.flow==r.flow) with
 |none=>
  have:=List.find?_eq_none.1 hf r hr
  simp at this
 |some x=>
  have h1:=List.find?_some hf
  have h2:=List.mem_of_find?_eq_some hf
  simp at h1
  have:x=r:=B4r h h2 hr (by rw [A56];omega) (by rw [A56];omega)
  subst this;rfl
variable {α : Type} {lt : α → α → Bool}
variable {α : Type}
instance (x : J0) : Decidable (W8 x) := by unfold W8; infer_instance
end Go.St
