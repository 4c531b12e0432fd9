/-
  What is added to a table is there, and no other rule; added again it is the same.
  No condition.
-/
import Derived.Test.YtcfcdembhjnjfaaRuleAd
import Derived.Test.YtcfcdembhjnjfaaRuleO
namespace Go.Proofs.Ytcfcdembhjnjfaa
open Go.ChangeShapes Go.WideShapes Go.ChangeAt Go.RowKit Go.St
set_option linter.unusedVariables false

set_option maxRecDepth 100000 in
theorem ruleAdd_lifted (os : Os) (started : os.Started) (H : Type) (enc : TypeId × Value → H) :
    ReturnsInHanded {} Try.checked os 3 .any (Rows.ruleAddSpec.pre6 enc Try.prog Try.f3 Rows.ruleAddRow.domain false) (Rows.ruleAddSpec.post enc Try.prog Try.f3 false true false false) := by
  refine returnsInHanded_of_change_sized (C := Try.checked) law_own started (by kernel_rfl) Try.func3
    (ChangeSpec.witness6 (enc := enc) (C := Try.checked) false ⟨#[], #[.slice none 0 0, .slice none 0 0], []⟩ 8 (by kernel_rfl) (by kernel_rfl) (by kernel_rfl) (by kernel_rfl)) ?_
  intro W base args ds gs before hval0 hW hcnd hsz0 _
  have hval : ∀ (j : Nat) t v, Try.f3.params[j]? = some t → args[j]? = some v → Value.okWide Try.prog W .any base t v := hval0
  have hW' := hW
  obtain ⟨p, q, hA0, hV, rfl, hfz, hnd⟩ := hW
  have hA : DataW.TrodAll enc Try.prog W 0 (fun _ => true) true Try.f3.params.toList args.toList ds p := hA0
  have hsz : (DataW.weightsEach Try.prog (Try.f3.params.toList ++ Rows.ruleAddSpec.plain.varTypes Try.prog) (ds ++ gs)).all (· ≤ reachBytes) = true := hsz0
  rw [Try.params3] at hA hval hsz
  obtain ⟨v0, vs0, d0, ds0, p0, q0, hargs, rfl, rfl, h0, r0⟩ := trodAll_cons hA
  obtain ⟨v1, vs1, d1, ds1, p1, q1, rfl, rfl, rfl, h1, r1⟩ := trodAll_cons r0
  obtain ⟨rfl, rfl, rfl⟩ := trodAll_nil r1
  obtain rfl : args = #[v0, v1] := by cases args; simp_all
  clear hA0 hval0
  obtain ⟨xs0, ao0, cap0, rfl, i0, z0⟩ := arg_rowR r_rules Try.underlying22 (hval 0 _ _ rfl rfl) h0 (fits_of hsz (j := 0) rfl rfl)
  obtain ⟨xs1, ao1, cap1, rfl, i1, z1⟩ := arg_rowR r_rules Try.underlying22 (hval 1 _ _ rfl rfl) h1 (fits_of hsz (j := 1) rfl rfl)
  refine (ruleAdd_c W xs0 ao0 cap0 _ i0 z0 xs1 ao1 cap1 _ i1 z1).mono fun e W' ⟨he, bel⟩ => ?_
  subst he
  exact ⟨_, rfl, law_post law_laid rfl hW' rfl rfl Try.underlying4 (by rw [Try.params3]; intro t ht; simp at ht; rcases ht with rfl | rfl <;> exact ⟨by kernel_rfl, of_decide_eq_true (by kernel_rfl)⟩) bel⟩

theorem ruleAdd_said : Rows.RuleAddSaid :=
  OpenClaim.holds_of_wide 3 Try.f3 rfl rfl rfl rfl rfl rfl rfl ⟨rfl, rfl, rfl, rfl, rfl⟩ rfl rfl rfl rfl rfl (by kernel_rfl) Try.func3 (by kernel_rfl)
    (of_decide_eq_true (by kernel_rfl)) (by unfold Func.isWrapper; first | (rw [if_pos (by decide +kernel)]; kernel_rfl) | (rw [if_neg (by decide +kernel)]; exact ⟨rfl, rfl⟩))
    (fun os started H enc _ => ruleAdd_lifted os started H enc)

end Go.Proofs.Ytcfcdembhjnjfaa
