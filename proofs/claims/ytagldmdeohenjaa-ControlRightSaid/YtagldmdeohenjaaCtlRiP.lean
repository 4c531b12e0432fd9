/-
  Each order that is told while a change goes on is for a switch that is there, can be written, and has a number of its own.
  No condition.
-/
import Derived.Test.YtagldmdeohenjaaCtlRi
import Derived.Test.YtagldmdeohenjaaPathO
namespace Go.Proofs.Ytagldmdeohenjaa
open Go.ChangeShapes Go.WideShapes Go.ChangeAt Go.RowKit Go.St
set_option linter.unusedVariables false

set_option maxRecDepth 100000 in
theorem controlRight_lifted (os : Os) (started : os.Started) (H : Type) (enc : TypeId × Value → H) :
    ReturnsInHanded {} Try.checked os 6 .any (Rows.controlRightSpec.pre6 enc Try.prog Try.f6 Rows.controlRightRow.domain false) (Rows.controlRightSpec.post enc Try.prog Try.f6 false true false false) := by
  refine returnsInHanded_of_change (C := Try.checked) law_own started (by kernel_rfl) Try.func6
    (ChangeSpec.witness6 (enc := enc) (C := Try.checked) false ⟨#[], #[.agg #[.int .i64 0, .slice none 0 0], .slice none 0 0, .slice none 0 0, .slice none 0 0], []⟩ 8 (by kernel_rfl) (by kernel_rfl) (by kernel_rfl) (by kernel_rfl)) ?_
  intro W base args ds gs before hval0 hW hcnd _
  have hval : ∀ (j : Nat) t v, Try.f6.params[j]? = some t → args[j]? = some v → Value.okWide Try.prog W .any base t v := hval0
  have hW' := hW
  obtain ⟨p, q, hA0, hV, rfl, hfz, hnd⟩ := hW
  have hA : DataW.TrodAll enc Try.prog W 0 (fun _ => true) true Try.f6.params.toList args.toList ds p := hA0
  rw [Try.params6] at hA hval
  obtain ⟨v0, vs0, d0, ds0, p0, q0, hargs, rfl, rfl, h0, r0⟩ := trodAll_cons hA
  obtain ⟨v1, vs1, d1, ds1, p1, q1, rfl, rfl, rfl, h1, r1⟩ := trodAll_cons r0
  obtain ⟨v2, vs2, d2, ds2, p2, q2, rfl, rfl, rfl, h2, r2⟩ := trodAll_cons r1
  obtain ⟨v3, vs3, d3, ds3, p3, q3, rfl, rfl, rfl, h3, r3⟩ := trodAll_cons r2
  obtain ⟨rfl, rfl, rfl⟩ := trodAll_nil r3
  obtain rfl : args = #[v0, v1, v2, v3] := by cases args; simp_all
  clear hA0 hval0
  obtain ⟨x0, cs0, rfl, i0⟩ := arg_agg o_topo Try.underlying24 (hval 0 _ _ rfl rfl) h0
  obtain ⟨xs1, ao1, cap1, rfl, i1⟩ := arg_row o_flows Try.underlying25 (hval 1 _ _ rfl rfl) h1
  obtain ⟨xs2, ao2, cap2, rfl, i2⟩ := arg_row o_flows Try.underlying25 (hval 2 _ _ rfl rfl) h2
  obtain ⟨xs3, ao3, cap3, rfl, i3⟩ := arg_row o_ints Try.underlying26 (hval 3 _ _ rfl rfl) h3
  refine (controlRight_c W x0 cs0 _ i0 xs1 ao1 cap1 _ i1 xs2 ao2 cap2 _ i2 xs3 ao3 cap3 _ i3).mono fun e W' ⟨he, bel⟩ => ?_
  subst he
  exact ⟨_, rfl, law_post law_laid rfl hW' rfl rfl Try.underlying4 (by rw [Try.params6]; intro t ht; simp at ht; rcases ht with rfl | rfl | rfl | rfl <;> exact ⟨by kernel_rfl, of_decide_eq_true (by kernel_rfl)⟩) bel⟩

theorem controlRight_said : Rows.ControlRightSaid :=
  OpenClaim.holds_of_wide 6 Try.f6 rfl rfl rfl rfl rfl rfl rfl ⟨rfl, rfl, rfl, rfl, rfl⟩ rfl rfl rfl rfl rfl (by kernel_rfl) Try.func6 (by kernel_rfl)
    (of_decide_eq_true (by kernel_rfl)) (by unfold Func.isWrapper; first | (rw [if_pos (by decide +kernel)]; kernel_rfl) | (rw [if_neg (by decide +kernel)]; exact ⟨rfl, rfl⟩))
    (fun os started H enc _ => controlRight_lifted os started H enc)

end Go.Proofs.Ytagldmdeohenjaa
