/-
  The package and the document agree on what asking, an answer and a drop lead to.
  Where what is read is of bulk at most 1048576.
-/
import Derived.OpenShut
import Derived.JoinedCond
import Derived.Test.YtagldmdeohenjaaPk44
import Derived.Test.YtagldmdeohenjaaPk33
namespace Go.Proofs.Ytagldmdeohenjaa
open Go.ChangeShapes Go.WideShapes Go.ChangeAt Go.RowKit Go.St
set_option linter.unusedVariables false

theorem b_ints : OpensB Try.prog 26 (sliceS intS) rowBulk := o_int.bulk.slice Try.underlying26 (by kernel_rfl)
theorem b_flow : OpensB Try.prog 64 flowS flowBulk := opens_flowB Try.underlying64 (by kernel_rfl) o_int b_ints ⟨rfl, rfl⟩ ⟨rfl, rfl⟩ ⟨rfl, rfl⟩ ⟨rfl, rfl⟩
theorem b_flows : OpensB Try.prog 25 (sliceS flowS) flowsBulk := b_flow.slice Try.underlying25 (by kernel_rfl)
theorem b_paths : OpensB Try.prog 28 (sliceS (sliceS intS)) planBulk := (o_int.bulk.slice (t := 92) Try.underlying92 (by kernel_rfl)).slice Try.underlying28 (by kernel_rfl)
theorem b_planF : OpensB Try.prog 30 planS (fun p => flowsBulk p.flows + planBulk p.paths) := opens_planF Try.underlying30 (by kernel_rfl) o_int b_flows b_paths ⟨rfl, rfl⟩ ⟨rfl, rfl⟩ ⟨rfl, rfl⟩
theorem b_ctl : OpensB Try.prog 32 ctlS ctlBulk := opens_ctlB Try.underlying32 (by kernel_rfl) o_int b_planF b_ints ⟨rfl, rfl⟩ ⟨rfl, rfl⟩ ⟨rfl, rfl⟩ ⟨rfl, rfl⟩ ⟨rfl, rfl⟩

set_option maxRecDepth 100000 in
theorem controlTells_contract (H : Type) (enc : TypeId × Value → H) (W : World) (base : Nat) (args : Array Value) (ds gs : List (DataW H)) (before : List MemPlace)
    (hval0 : ∀ (j : Nat) t v, Try.f4.params[j]? = some t → args[j]? = some v → Value.okWide Try.prog W .any base t v)
    (hW : DataW.Whole enc Try.prog Try.f4.params.toList Rows.controlTellsSpec.vars false W args.toList ds gs before) (hk : Rows.uptoSmall H (ds ++ gs) = true) :
    Calls Try.prog 4 args W fun e W' => ∃ v, e = .returned v ∧ Rows.controlTellsSpec.post enc Try.prog Try.f4 false true false false W args v W' := by
  have hval : ∀ (j : Nat) t v, Try.f4.params[j]? = some t → args[j]? = some v → Value.okWide Try.prog W .any base t v := hval0
  have hW' := hW
  obtain ⟨p, q, hA0, hV, rfl, hfz, hnd⟩ := hW
  have hA : DataW.TrodAll enc Try.prog W 0 (fun _ => true) true Try.f4.params.toList args.toList ds p := hA0
  rw [Try.params4] at hA hval
  obtain ⟨v0, vs0, d0, ds0, p0, q0, hargs, rfl, rfl, h0, r0⟩ := trodAll_cons hA
  obtain ⟨v1, vs1, d1, ds1, p1, q1, rfl, rfl, rfl, h1, r1⟩ := trodAll_cons r0
  obtain ⟨v2, vs2, d2, ds2, p2, q2, rfl, rfl, rfl, h2, r2⟩ := trodAll_cons r1
  obtain ⟨v3, vs3, d3, ds3, p3, q3, rfl, rfl, rfl, h3, r3⟩ := trodAll_cons r2
  obtain ⟨rfl, rfl, rfl⟩ := trodAll_nil r3
  obtain rfl : args = #[v0, v1, v2, v3] := by cases args; simp_all
  clear hA0 hval0
  have hk2 : Rows.uptoBulkAll ([d0, d1, d2, d3] ++ gs) ≤ 1048576 := of_decide_eq_true hk
  have m0 : Rows.uptoBulk d0 ≤ 1048576 := Nat.le_trans (bulk_mem (by simp)) hk2
  obtain ⟨x0, cs0, rfl, i0, z0⟩ := arg_aggB b_ctl Try.underlying32 (hval 0 _ _ rfl rfl) h0
  obtain ⟨x1, cs1, rfl, i1⟩ := arg_agg o_topo Try.underlying24 (hval 1 _ _ rfl rfl) h1
  obtain ⟨xs2, ao2, cap2, rfl, i2⟩ := arg_row o_flows Try.underlying25 (hval 2 _ _ rfl rfl) h2
  obtain ⟨n3, rfl, i3⟩ := arg_int Try.underlying3 (hval 3 _ _ rfl rfl) h3
  refine (controlTells_c W x0 cs0 _ i0 (ctlSmall_of (Nat.le_trans z0 m0)) x1 cs1 _ i1 xs2 ao2 cap2 _ i2 n3 i3).mono fun e W' ⟨he, bel⟩ => ?_
  subst he
  exact ⟨_, rfl, law_post law_laid rfl hW' rfl rfl Try.underlying4 (by rw [Try.params4]; intro t ht; simp at ht; rcases ht with rfl | rfl | rfl | rfl <;> exact ⟨by kernel_rfl, of_decide_eq_true (by kernel_rfl)⟩) bel⟩

set_option maxRecDepth 100000 in
theorem controlTells_lifted (os : Os) (started : os.Started) (H : Type) (enc : TypeId × Value → H) (F : Stop.Interp) :
    ReturnsInHanded {} Try.checked os 4 .any ((Rows.OpenSpec.upto Rows.controlTellsSpec).pre6 enc Try.prog Try.f4 Rows.controlTellsUptoRow.domain false) (((Rows.OpenSpec.upto Rows.controlTellsSpec).at F).post enc Try.prog Try.f4 false true false false) := by
  refine returnsInHanded_of_cond (C := Try.checked) (s := Rows.OpenSpec.upto Rows.controlTellsSpec) (k := Rows.uptoSmall) rfl law_own started (by kernel_rfl) Try.func4
    (OpenSpec.witness (enc := enc) (C := Try.checked) (s := Rows.OpenSpec.upto Rows.controlTellsSpec) (k := Rows.uptoSmall) rfl false ⟨#[], #[.agg #[.int .i64 0, .int .i64 0, .slice none 0 0, .slice none 0 0, .int .i64 0, .slice none 0 0, .slice none 0 0, .int .i64 0, .slice none 0 0], .agg #[.int .i64 0, .slice none 0 0], .slice none 0 0, .int .i64 0], []⟩ 8 (by kernel_rfl) (by kernel_rfl) (by kernel_rfl)
      (x := ([.agg [.lit (.int .i64 0), .agg [.lit (.int .i64 0), .nil, .nil], .agg [.lit (.int .i64 0), .nil, .nil], .lit (.int .i64 0), .nil], .agg [.lit (.int .i64 0), .nil], .nil, .lit (.int .i64 0)], [], [])) (by kernel_rfl) rfl (by kernel_rfl)) ?_
  intro W base args ds gs before hval hW _ hk _
  exact controlTells_contract H enc W base args ds gs before hval hW hk

theorem controlTells_said : Rows.ControlTellsUptoSaid :=
  OpenClaim.holds_of_cond 4 Try.f4 rfl rfl rfl rfl rfl rfl rfl ⟨rfl, rfl, rfl, rfl, rfl⟩ rfl rfl rfl rfl rfl (by kernel_rfl) Try.func4 (by kernel_rfl)
    (of_decide_eq_true (by kernel_rfl)) (by unfold Func.isWrapper; first | (rw [if_pos (by decide +kernel)]; kernel_rfl) | (rw [if_neg (by decide +kernel)]; exact ⟨rfl, rfl⟩))
    (fun os started H enc _ F => controlTells_lifted os started H enc F)

end Go.Proofs.Ytagldmdeohenjaa
