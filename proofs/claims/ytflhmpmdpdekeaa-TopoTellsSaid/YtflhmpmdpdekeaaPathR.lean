/-
  The types of nets, with the bound on their bytes.
-/
import Derived.Test.YtflhmpmdpdekeaaPathO
import Derived.Test.YtflhmpmdpdekeaaReach
set_option linter.unusedVariables false
namespace Go.Proofs.Ytflhmpmdpdekeaa
open Go.RowKit Go.St Go.ChangeShapes Go.WideShapes

theorem r_links : OpensR Try.prog 22 (sliceS linkS) (fun xs => xs.length * 24 ≤ 140737488351232 ∧ ∀ x ∈ xs, True) := o_link.reach.slice Try.underlying22 (by kernel_rfl) (by kernel_rfl)
theorem r_topo0 : OpensR Try.prog 24 topoS (fun t => t.links.length * 24 ≤ 140737488351232 ∧ ∀ x ∈ t.links, True) := opens_topoR Try.underlying24 (by kernel_rfl) o_int r_links ⟨rfl, rfl⟩ ⟨rfl, rfl⟩
theorem r_topo : OpensR Try.prog 24 topoS (fun t => t.links.length * 24 ≤ 140737488351232) :=
  ⟨r_topo0.size, r_topo0.pos, fun h hf => let ⟨a, ha, hr⟩ := r_topo0.op h hf; ⟨a, ha, hr.1⟩⟩

end Go.Proofs.Ytflhmpmdpdekeaa
