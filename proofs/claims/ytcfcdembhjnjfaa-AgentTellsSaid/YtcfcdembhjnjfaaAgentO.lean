/-
  The types of switches and orders: what their readings are.
-/
import Derived.Test.YtcfcdembhjnjfaaFrame
import Derived.Test.YtcfcdembhjnjfaaRows
set_option linter.unusedSimpArgs false
set_option linter.unusedVariables false
namespace Go.St
open Go.RowKit Go.Deep Go.ChangeShapes Go.WideShapes
theorem opens_switch {P : Program} {t ls ss : TypeId} {f0 f1 : Field} (ht : P.underlying t = some (.struct #[f0, f1])) (hc : P.cellsOf t = 2) (hl : Opens P ls (sliceS ruleS)) (hs : Opens P ss (sliceS stampS))
    (t0 : f0.type = ls ∧ f0.offset = 0) (t1 : f1.type = ss ∧ f1.offset = 1) : Opens P t switchS where
  size := by rw [hc]; rfl
  pos := by decide
  op h := by
    obtain ⟨xs, n, _, rfl, hlen', hlen, hf⟩ := DataW.trod_struct ht h
    rename_i cs _
    rw [hc] at hlen'
    match cs, hlen', xs, hlen with
    | [v0, v1], _, [x0, x1], _ =>
      have h0 := hf 0 f0 rfl
      have h1 := hf 1 f1 rfl
      rw [t0.1, t0.2, hl.size] at h0
      rw [t1.1, t1.2, hs.size] at h1
      obtain ⟨rr, ra, rc, hr1, hr2⟩ := hl.row h0
      obtain ⟨sr, sa, sc, hs1, hs2⟩ := hs.row h1
      simp [sliceS] at hr1 hs1
      subst hr1; subst hs1
      exact ⟨⟨rr, sr⟩, ra, rc, sa, sc, rfl, hr2, hs2⟩
end Go.St
namespace Go.Proofs.Ytcfcdembhjnjfaa
open Go.RowKit Go.St Go.ChangeShapes Go.WideShapes

theorem o_int : Opens Try.prog 3 intS := opens_int Try.underlying3 (by kernel_rfl)
theorem o_ints : Opens Try.prog 50 (sliceS intS) := o_int.slice Try.underlying50 (by kernel_rfl)
theorem o_rule : Opens Try.prog 28 ruleS := opens_link Try.underlying28 (by kernel_rfl) o_int ⟨rfl, rfl⟩ ⟨rfl, rfl⟩ ⟨rfl, rfl⟩ rfl (fun a b c w ia ib ic => ⟨⟨a, b, c⟩, rfl, ia, ib, ic⟩)
theorem o_rules : Opens Try.prog 22 (sliceS ruleS) := o_rule.slice Try.underlying22 (by kernel_rfl)
theorem o_stamp : Opens Try.prog 83 stampS := opens_stamp Try.underlying83 (by kernel_rfl) o_int ⟨rfl, rfl⟩ ⟨rfl, rfl⟩
theorem o_stamps : Opens Try.prog 56 (sliceS stampS) := o_stamp.slice Try.underlying56 (by kernel_rfl)
theorem o_switch : Opens Try.prog 58 switchS := opens_switch Try.underlying58 (by kernel_rfl) o_rules o_stamps ⟨rfl, rfl⟩ ⟨rfl, rfl⟩
theorem o_order : Opens Try.prog 60 orderS := opens_order Try.underlying60 (by kernel_rfl) o_int o_rules o_ints ⟨rfl, rfl⟩ ⟨rfl, rfl⟩ ⟨rfl, rfl⟩ ⟨rfl, rfl⟩ ⟨rfl, rfl⟩
theorem law_own : ownKnob Try.prog.godebug = none := by kernel_rfl
theorem law_laid : laidOutB Try.prog = true := by kernel_rfl

end Go.Proofs.Ytcfcdembhjnjfaa
