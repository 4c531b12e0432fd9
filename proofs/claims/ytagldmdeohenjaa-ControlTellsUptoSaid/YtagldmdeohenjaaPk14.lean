/-
  The types of nets and flows: what their readings are.
-/
import Derived.Test.YtagldmdeohenjaaRows
import Derived.Test.YtagldmdeohenjaaPk13
set_option linter.unusedSimpArgs false
set_option linter.unusedVariables false
namespace Go.St
open Go.RowKit Go.Deep Go.ChangeShapes Go.WideShapes
theorem opens_topo {P : Program} {t i ls : TypeId} {f0 f1 : Field} (ht : P.underlying t = some (.struct #[f0, f1])) (hc : P.cellsOf t = 2) (hi : Opens P i intS) (hl : Opens P ls (sliceS linkS))
    (t0 : f0.type = i ∧ f0.offset = 0) (t1 : f1.type = ls ∧ f1.offset = 1) : Opens P t topoS where
  size := by rw [hc]; rfl
  pos := by decide
  op h := by
    obtain ⟨xs, n, _, rfl, hlen', hlen, hf⟩ := DataW.trod_struct ht h
    rename_i cs _
    rw [hc] at hlen'
    match cs, hlen', xs, hlen with
    | [v0, v1], _, [x0, x1], _ =>
      have h0 := hf 0 f0 rfl
      have h1 := hf 1 f1 rfl
      rw [t0.1, t0.2, hi.size] at h0
      rw [t1.1, t1.2, hl.size] at h1
      obtain ⟨a, ha, ia⟩ := hi.op h0
      obtain ⟨rr, ra, rc, hr1, hr2⟩ := hl.row h1
      simp [intS, sliceS] at ha hr1
      subst ha; subst hr1
      exact ⟨⟨a, rr⟩, ra, rc, rfl, ia, hr2⟩

theorem opens_flow {P : Program} {t i fs : TypeId} {f0 f1 f2 f3 : Field} (ht : P.underlying t = some (.struct #[f0, f1, f2, f3])) (hc : P.cellsOf t = 4) (hi : Opens P i intS) (hl : Opens P fs (sliceS intS))
    (t0 : f0.type = i ∧ f0.offset = 0) (t1 : f1.type = i ∧ f1.offset = 1) (t2 : f2.type = fs ∧ f2.offset = 2) (t3 : f3.type = fs ∧ f3.offset = 3) : Opens P t flowS where
  size := by rw [hc]; rfl
  pos := by decide
  op h := by
    obtain ⟨xs, n, _, rfl, hlen', hlen, hf⟩ := DataW.trod_struct ht h
    rename_i cs _
    rw [hc] at hlen'
    match cs, hlen', xs, hlen with
    | [v0, v1, v2, v3], _, [x0, x1, x2, x3], _ =>
      have h0 := hf 0 f0 rfl
      have h1 := hf 1 f1 rfl
      have h2 := hf 2 f2 rfl
      have h3 := hf 3 f3 rfl
      rw [t0.1, t0.2, hi.size] at h0
      rw [t1.1, t1.2, hi.size] at h1
      rw [t2.1, t2.2, hl.size] at h2
      rw [t3.1, t3.2, hl.size] at h3
      obtain ⟨a, ha, ia⟩ := hi.op h0
      obtain ⟨b, hb, ib⟩ := hi.op h1
      obtain ⟨rr, ra, rc, hr1, hr2⟩ := hl.row h2
      obtain ⟨ss, sa, sc, hs1, hs2⟩ := hl.row h3
      simp [intS, sliceS] at ha hb hr1 hs1
      subst ha; subst hb; subst hr1; subst hs1
      exact ⟨⟨a, b, rr, ss⟩, ra, rc, sa, sc, rfl, ia, ib, hr2, hs2⟩
end Go.St
namespace Go.Proofs.Ytagldmdeohenjaa
open Go.RowKit Go.St Go.ChangeShapes Go.WideShapes

theorem o_int : Opens Try.prog 3 intS := opens_int Try.underlying3 (by kernel_rfl)
theorem o_ints : Opens Try.prog 26 (sliceS intS) := o_int.slice Try.underlying26 (by kernel_rfl)
theorem o_link : Opens Try.prog 90 linkS := opens_link Try.underlying90 (by kernel_rfl) o_int ⟨rfl, rfl⟩ ⟨rfl, rfl⟩ ⟨rfl, rfl⟩ rfl (fun a b c w ia ib ic => ⟨⟨a, b, c⟩, rfl, ia, ib, ic⟩)
theorem o_links : Opens Try.prog 22 (sliceS linkS) := o_link.slice Try.underlying22 (by kernel_rfl)
theorem o_topo : Opens Try.prog 24 topoS := opens_topo Try.underlying24 (by kernel_rfl) o_int o_links ⟨rfl, rfl⟩ ⟨rfl, rfl⟩
theorem o_flow : Opens Try.prog 64 flowS := opens_flow Try.underlying64 (by kernel_rfl) o_int o_ints ⟨rfl, rfl⟩ ⟨rfl, rfl⟩ ⟨rfl, rfl⟩ ⟨rfl, rfl⟩
theorem o_flows : Opens Try.prog 25 (sliceS flowS) := o_flow.slice Try.underlying25 (by kernel_rfl)
theorem law_own : ownKnob Try.prog.godebug = none := by kernel_rfl
theorem law_laid : laidOutB Try.prog = true := by kernel_rfl

end Go.Proofs.Ytagldmdeohenjaa
