/-
  A link more reaches more: who is reached stays so; of two that are joined anew each reaches what the other one did: the law TopoMore holds.
  No condition.
-/
import Derived.Test.YtflhmpmdpdekeaaTopoMo
import Derived.Test.YtflhmpmdpdekeaaPathR
namespace Go.Proofs.Ytflhmpmdpdekeaa
open Go.ChangeShapes Go.WideShapes Go.ChangeAt Go.RowKit Go.St
set_option linter.unusedVariables false

set_option maxRecDepth 100000 in
theorem topoMore_lifted (os : Os) (started : os.Started) (H : Type) (enc : TypeId × Value → H) :
    ReturnsInHanded {} Try.checked os 11 .any (Rows.topoMoreSpec.pre6 enc Try.prog Try.f11 Rows.topoMoreRow.domain false) (Rows.topoMoreSpec.post enc Try.prog Try.f11 false true false false) := by
  refine returnsInHanded_of_change_sized (C := Try.checked) law_own started (by kernel_rfl) Try.func11
    (ChangeSpec.witness6 (enc := enc) (C := Try.checked) false ⟨#[], #[.agg #[.int .i64 0, .slice none 0 0], .agg #[.int .i64 0, .int .i64 0, .int .i64 0]], []⟩ 8 (by kernel_rfl) (by kernel_rfl) (by kernel_rfl) (by kernel_rfl)) ?_
  intro W base args ds gs before hval0 hW hcnd hsz0 _
  have hval : ∀ (j : Nat) t v, Try.f11.params[j]? = some t → args[j]? = some v → Value.okWide Try.prog W .any base t v := hval0
  have hW' := hW
  obtain ⟨p, q, hA0, hV, rfl, hfz, hnd⟩ := hW
  have hA : DataW.TrodAll enc Try.prog W 0 (fun _ => true) true Try.f11.params.toList args.toList ds p := hA0
  have hsz : (DataW.weightsEach Try.prog (Try.f11.params.toList ++ Rows.topoMoreSpec.plain.varTypes Try.prog) (ds ++ gs)).all (· ≤ reachBytes) = true := hsz0
  rw [Try.params11] at hA hval hsz
  obtain ⟨v0, vs0, d0, ds0, p0, q0, hargs, rfl, rfl, h0, r0⟩ := trodAll_cons hA
  obtain ⟨v1, vs1, d1, ds1, p1, q1, rfl, rfl, rfl, h1, r1⟩ := trodAll_cons r0
  obtain ⟨rfl, rfl, rfl⟩ := trodAll_nil r1
  obtain rfl : args = #[v0, v1] := by cases args; simp_all
  clear hA0 hval0
  obtain ⟨x0, cs0, rfl, i0, z0⟩ := arg_aggR r_topo Try.underlying24 (hval 0 _ _ rfl rfl) h0 (fits_of hsz (j := 0) rfl rfl)
  obtain ⟨x1, cs1, rfl, i1⟩ := arg_agg o_link Try.underlying38 (hval 1 _ _ rfl rfl) h1
  refine (topoMore_c W x0 cs0 _ i0 z0 x1 cs1 _ i1).mono fun e W' ⟨he, bel⟩ => ?_
  subst he
  exact ⟨_, rfl, law_post law_laid rfl hW' rfl rfl Try.underlying4 (by rw [Try.params11]; intro t ht; simp at ht; rcases ht with rfl | rfl <;> exact ⟨by kernel_rfl, of_decide_eq_true (by kernel_rfl)⟩) bel⟩

theorem topoMore_said : Rows.TopoMoreSaid :=
  OpenClaim.holds_of_wide 11 Try.f11 rfl rfl rfl rfl rfl rfl rfl ⟨rfl, rfl, rfl, rfl, rfl⟩ rfl rfl rfl rfl rfl (by kernel_rfl) Try.func11 (by kernel_rfl)
    (of_decide_eq_true (by kernel_rfl)) (by unfold Func.isWrapper; first | (rw [if_pos (by decide +kernel)]; kernel_rfl) | (rw [if_neg (by decide +kernel)]; exact ⟨rfl, rfl⟩))
    (fun os started H enc _ => topoMore_lifted os started H enc)

end Go.Proofs.Ytflhmpmdpdekeaa
