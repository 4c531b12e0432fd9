/-
  The package and the document agree on every plan's rules and on what comes of any tables.
  Where what is read is of bulk at most 1048576.
-/
import Derived.Test.YtcfcdembhjnjfaaRuTe
import Derived.Test.YtcfcdembhjnjfaaBulkP
import Derived.Test.YtcfcdembhjnjfaaRuleOW
import Derived.OpenShut
import Derived.JoinedCond
namespace Go.Proofs.Ytcfcdembhjnjfaa
open Go.ChangeShapes Go.WideShapes Go.ChangeAt Go.RowKit Go.St
set_option linter.unusedVariables false

theorem b_rules : OpensB Try.prog 22 (sliceS ruleS) (fun xs => (xs.map fun _ => 1).sum + 1) := o_rule.bulk.slice Try.underlying22 (by kernel_rfl)
theorem b_paths : OpensB Try.prog 36 (sliceS (sliceS intS)) planBulk := (o_int.bulk.slice (t := 51) Try.underlying51 (by kernel_rfl)).slice Try.underlying36 (by kernel_rfl)
theorem b_plan : OpensB Try.prog 38 planS (fun p => planBulk p.paths) := opens_planB Try.underlying38 (by kernel_rfl) o_int o_flows b_paths ⟨rfl, rfl⟩ ⟨rfl, rfl⟩ ⟨rfl, rfl⟩
theorem ones_sum' (q : List Rule) : (q.map fun _ => 1).sum = q.length := by
  induction q with
  | nil => rfl
  | cons x l ih => simp only [List.map_cons, List.sum_cons, ih, List.length_cons]; omega

set_option maxRecDepth 100000 in
theorem ruleTells_contract (H : Type) (enc : TypeId × Value → H) (W : World) (base : Nat) (args : Array Value) (ds gs : List (DataW H)) (before : List MemPlace)
    (hval0 : ∀ (j : Nat) t v, Try.f4.params[j]? = some t → args[j]? = some v → Value.okWide Try.prog W .any base t v)
    (hW : DataW.Whole enc Try.prog Try.f4.params.toList Rows.ruleTellsSpec.vars false W args.toList ds gs before) (hk : Rows.uptoSmall H (ds ++ gs) = true) :
    Calls Try.prog 4 args W fun e W' => ∃ v, e = .returned v ∧ Rows.ruleTellsSpec.post enc Try.prog Try.f4 false true false false W args v W' := by
  have hval : ∀ (j : Nat) t v, Try.f4.params[j]? = some t → args[j]? = some v → Value.okWide Try.prog W .any base t v := hval0
  have hW' := hW
  obtain ⟨p, q, hA0, hV, rfl, hfz, hnd⟩ := hW
  have hA : DataW.TrodAll enc Try.prog W 0 (fun _ => true) true Try.f4.params.toList args.toList ds p := hA0
  rw [Try.params4] at hA hval
  obtain ⟨v0, vs0, d0, ds0, p0, q0, hargs, rfl, rfl, h0, r0⟩ := trodAll_cons hA
  obtain ⟨v1, vs1, d1, ds1, p1, q1, rfl, rfl, rfl, h1, r1⟩ := trodAll_cons r0
  obtain ⟨v2, vs2, d2, ds2, p2, q2, rfl, rfl, rfl, h2, r2⟩ := trodAll_cons r1
  obtain ⟨v3, vs3, d3, ds3, p3, q3, rfl, rfl, rfl, h3, r3⟩ := trodAll_cons r2
  obtain ⟨v4, vs4, d4, ds4, p4, q4, rfl, rfl, rfl, h4, r4⟩ := trodAll_cons r3
  obtain ⟨v5, vs5, d5, ds5, p5, q5, rfl, rfl, rfl, h5, r5⟩ := trodAll_cons r4
  obtain ⟨rfl, rfl, rfl⟩ := trodAll_nil r5
  obtain rfl : args = #[v0, v1, v2, v3, v4, v5] := by cases args; simp_all
  clear hA0 hval0
  have hk2 : Rows.uptoBulkAll ([d0, d1, d2, d3, d4, d5] ++ gs) ≤ 1048576 := of_decide_eq_true hk
  have m0 : Rows.uptoBulk d0 ≤ 1048576 := Nat.le_trans (bulk_mem (by simp)) hk2
  have m2 : Rows.uptoBulk d2 ≤ 1048576 := Nat.le_trans (bulk_mem (by simp)) hk2
  have m3 : Rows.uptoBulk d3 ≤ 1048576 := Nat.le_trans (bulk_mem (by simp)) hk2
  obtain ⟨x0, cs0, rfl, i0, z0⟩ := arg_aggB b_plan Try.underlying38 (hval 0 _ _ rfl rfl) h0
  obtain ⟨n1, rfl, i1⟩ := arg_int Try.underlying3 (hval 1 _ _ rfl rfl) h1
  obtain ⟨xs2, ao2, cap2, rfl, i2, z2⟩ := arg_rowB b_rules Try.underlying22 (hval 2 _ _ rfl rfl) h2
  obtain ⟨xs3, ao3, cap3, rfl, i3, z3⟩ := arg_rowB b_rules Try.underlying22 (hval 3 _ _ rfl rfl) h3
  obtain ⟨n4, rfl, i4⟩ := arg_int Try.underlying3 (hval 4 _ _ rfl rfl) h4
  obtain ⟨n5, rfl, i5⟩ := arg_int Try.underlying3 (hval 5 _ _ rfl rfl) h5
  rw [ones_sum'] at z2 z3
  have y1 : ∀ s : Nat, (rulesAt x0 s).length ≤ 5864062014800 := fun s => Nat.le_trans rulesFrom_len (by omega)
  have y2 : x0.paths.length ≤ 100000000000000 := Nat.le_trans (paths_len _) (by omega)
  refine (ruleTells_c W x0 cs0 _ i0 n1 i1 xs2 ao2 cap2 _ i2 xs3 ao3 cap3 _ i3 n4 i4 n5 i5 y1 y2 (by omega) (by omega)).mono fun e W' ⟨he, bel⟩ => ?_
  subst he
  exact ⟨_, rfl, law_post law_laid rfl hW' rfl rfl Try.underlying4 (by rw [Try.params4]; intro t ht; simp at ht; rcases ht with rfl | rfl | rfl | rfl | rfl | rfl <;> exact ⟨by kernel_rfl, of_decide_eq_true (by kernel_rfl)⟩) bel⟩

set_option maxRecDepth 100000 in
theorem ruleTells_lifted (os : Os) (started : os.Started) (H : Type) (enc : TypeId × Value → H) (F : Stop.Interp) :
    ReturnsInHanded {} Try.checked os 4 .any ((Rows.OpenSpec.upto Rows.ruleTellsSpec).pre6 enc Try.prog Try.f4 Rows.ruleTellsUptoRow.domain false) (((Rows.OpenSpec.upto Rows.ruleTellsSpec).at F).post enc Try.prog Try.f4 false true false false) := by
  refine returnsInHanded_of_cond (C := Try.checked) (s := Rows.OpenSpec.upto Rows.ruleTellsSpec) (k := Rows.uptoSmall) rfl law_own started (by kernel_rfl) Try.func4
    (OpenSpec.witness (enc := enc) (C := Try.checked) (s := Rows.OpenSpec.upto Rows.ruleTellsSpec) (k := Rows.uptoSmall) rfl false ⟨#[], #[.agg #[.int .i64 0, .slice none 0 0, .slice none 0 0], .int .i64 0, .slice none 0 0, .slice none 0 0, .int .i64 0, .int .i64 0], []⟩ 8 (by kernel_rfl) (by kernel_rfl) (by kernel_rfl)
      (x := ([.agg [.lit (.int .i64 0), .nil, .nil], .lit (.int .i64 0), .nil, .nil, .lit (.int .i64 0), .lit (.int .i64 0)], [], [])) (by kernel_rfl) rfl (by kernel_rfl)) ?_
  intro W base args ds gs before hval hW _ hk _
  exact ruleTells_contract H enc W base args ds gs before hval hW hk

theorem ruleTells_said : Rows.RuleTellsUptoSaid :=
  OpenClaim.holds_of_cond 4 Try.f4 rfl rfl rfl rfl rfl rfl rfl ⟨rfl, rfl, rfl, rfl, rfl⟩ rfl rfl rfl rfl rfl (by kernel_rfl) Try.func4 (by kernel_rfl)
    (of_decide_eq_true (by kernel_rfl)) (by unfold Func.isWrapper; first | (rw [if_pos (by decide +kernel)]; kernel_rfl) | (rw [if_neg (by decide +kernel)]; exact ⟨rfl, rfl⟩))
    (fun os started H enc _ F => ruleTells_lifted os started H enc F)

end Go.Proofs.Ytcfcdembhjnjfaa
