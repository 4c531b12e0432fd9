/-
  A control's reading with its bulk.
-/
import Derived.Test.YtagldmdeohenjaaPk15
import Derived.Test.YtagldmdeohenjaaPk32
set_option linter.unusedSimpArgs false
set_option linter.unusedVariables false
namespace Go.St
open Go.RowKit
theorem mem_sum {α : Type} {μ : α → Nat} {x : α} : ∀ {l : List α}, x ∈ l → μ x ≤ (l.map μ).sum
  | a :: l, h => by
    simp only [List.map_cons, List.sum_cons]
    rcases List.mem_cons.1 h with rfl | h
    · omega
    · have := mem_sum (μ := μ) h; omega
theorem len_sum {α : Type} {μ : α → Nat} (hm : ∀ x, 1 ≤ μ x) : ∀ (l : List α), l.length ≤ (l.map μ).sum
  | [] => Nat.le_refl _
  | a :: l => by
    have h1 := hm a
    have := len_sum hm l
    simp only [List.map_cons, List.sum_cons, List.length_cons]
    omega
def rowBulk (l : List Int) : Nat := (l.map fun _ => 1).sum + 1
theorem rowBulk_len (l : List Int) : rowBulk l = l.length + 1 := by rw [rowBulk, ones_sum]
def flowBulk (f : Flow) : Nat := rowBulk f.via + rowBulk f.no
def flowsBulk (l : List Flow) : Nat := (l.map flowBulk).sum + 1
def ctlBulk (c : Ctl) : Nat := (flowsBulk c.now.flows + planBulk c.now.paths) + (flowsBulk c.next.flows + planBulk c.next.paths) + rowBulk c.waits
theorem planSmall_of {p : Plan} (h : flowsBulk p.flows + planBulk p.paths ≤ 10000000) : PlanSmall p := by
  refine ⟨?_, fun f hf => ?_, ?_, fun q hq => ?_⟩
  · have := len_sum (μ := flowBulk) (fun x => by unfold flowBulk; rw [rowBulk_len]; omega) p.flows
    unfold flowsBulk at h; omega
  · have := mem_sum (μ := flowBulk) hf
    unfold flowsBulk at h
    have e : flowBulk f = (f.via.length + 1) + (f.no.length + 1) := by unfold flowBulk; rw [rowBulk_len, rowBulk_len]
    constructor <;> omega
  · have := paths_len p.paths; omega
  · have := mem_sum (μ := fun q : List Int => (q.map fun _ => 1).sum + 1) hq
    rw [ones_sum] at this
    unfold planBulk at h
    omega
theorem ctlSmall_of {c : Ctl} (h : ctlBulk c ≤ 1048576) : CtlSmall c := by
  unfold ctlBulk at h
  refine ⟨planSmall_of (by omega), planSmall_of (by omega), ?_, fun s => ?_⟩
  · rw [rowBulk_len] at h; omega
  · exact Nat.le_trans rulesFrom_lenB (by omega)
end Go.St
namespace Go.Proofs.Ytagldmdeohenjaa
open Go.RowKit Go.St Go.Deep Go.ChangeShapes Go.WideShapes

theorem opens_flowB {P : Program} {t i fs : TypeId} {f0 f1 f2 f3 : Field} {μ : List Int → Nat} (ht : P.underlying t = some (.struct #[f0, f1, f2, f3])) (hc : P.cellsOf t = 4) (hi : Opens P i intS) (hl : OpensB P fs (sliceS intS) μ)
    (t0 : f0.type = i ∧ f0.offset = 0) (t1 : f1.type = i ∧ f1.offset = 1) (t2 : f2.type = fs ∧ f2.offset = 2) (t3 : f3.type = fs ∧ f3.offset = 3) : OpensB P t flowS (fun f => μ f.via + μ f.no) where
  size := by rw [hc]; rfl
  pos := by decide
  op h := by
    obtain ⟨xs, n, _, rfl, hlen', hlen, hf⟩ := DataW.trod_struct ht h
    rename_i cs _
    rw [hc] at hlen'
    match cs, hlen', xs, hlen with
    | [v0, v1, v2, v3], _, [x0, x1, x2, x3], _ =>
      have h0 := hf 0 f0 rfl
      have h1 := hf 1 f1 rfl
      have h2 := hf 2 f2 rfl
      have h3 := hf 3 f3 rfl
      rw [t0.1, t0.2, hi.size] at h0
      rw [t1.1, t1.2, hi.size] at h1
      rw [t2.1, t2.2, hl.size] at h2
      rw [t3.1, t3.2, hl.size] at h3
      obtain ⟨a, ha, ia⟩ := hi.op h0
      obtain ⟨b, hb, ib⟩ := hi.op h1
      obtain ⟨rr, ⟨ra, rc, hr1, hr2⟩, hrm⟩ := hl.op h2
      obtain ⟨ss, ⟨sa, sc, hs1, hs2⟩, hsm⟩ := hl.op h3
      simp [intS, sliceS] at ha hb hr1 hs1
      subst ha; subst hb; subst hr1; subst hs1
      refine ⟨⟨a, b, rr, ss⟩, ⟨ra, rc, sa, sc, rfl, ia, ib, hr2, hs2⟩, ?_⟩
      simp only [List.map_cons, List.map_nil, Rows.uptoBulk, Rows.uptoBulkAll] at *
      omega
theorem opens_planF {P : Program} {t i fs ps : TypeId} {f0 f1 f2 : Field} {μ : List (List Int) → Nat} {ν : List Flow → Nat} (ht : P.underlying t = some (.struct #[f0, f1, f2])) (hc : P.cellsOf t = 3) (hi : Opens P i intS) (hfl : OpensB P fs (sliceS flowS) ν) (hp : OpensB P ps (sliceS (sliceS intS)) μ)
    (t0 : f0.type = i ∧ f0.offset = 0) (t1 : f1.type = fs ∧ f1.offset = 1) (t2 : f2.type = ps ∧ f2.offset = 2) : OpensB P t planS (fun p => ν p.flows + μ p.paths) where
  size := by rw [hc]; rfl
  pos := by decide
  op h := by
    obtain ⟨xs, n, _, rfl, hl, hlen, hf⟩ := DataW.trod_struct ht h
    rename_i cs _
    rw [hc] at hl
    match cs, hl, xs, hlen with
    | [v0, v1, v2], _, [x0, x1, x2], _ =>
      have h0 := hf 0 f0 rfl
      have h1 := hf 1 f1 rfl
      have h2 := hf 2 f2 rfl
      rw [t0.1, t0.2, hi.size] at h0
      rw [t1.1, t1.2, hfl.size] at h1
      rw [t2.1, t2.2, hp.size] at h2
      obtain ⟨a, ha, ia⟩ := hi.op h0
      obtain ⟨b, ⟨ab, cb, hb, ib⟩, hn⟩ := hfl.op h1
      obtain ⟨c, ⟨ac, cc, hc', ic⟩, hm⟩ := hp.op h2
      simp [intS] at ha
      simp [sliceS] at hb hc'
      subst ha; subst hb; subst hc'
      refine ⟨⟨a, b, c⟩, ⟨ab, cb, ac, cc, rfl, ia, ib, ic⟩, ?_⟩
      simp only [List.map_cons, List.map_nil, Rows.uptoBulk, Rows.uptoBulkAll] at *
      omega
theorem opens_ctlB {P : Program} {t i ps ws : TypeId} {f0 f1 f2 f3 f4 : Field} {μ : Plan → Nat} {ν : List Int → Nat} (ht : P.underlying t = some (.struct #[f0, f1, f2, f3, f4])) (hc : P.cellsOf t = 9) (hi : Opens P i intS) (hp : OpensB P ps planS μ) (hw : OpensB P ws (sliceS intS) ν)
    (t0 : f0.type = i ∧ f0.offset = 0) (t1 : f1.type = ps ∧ f1.offset = 1) (t2 : f2.type = ps ∧ f2.offset = 4) (t3 : f3.type = i ∧ f3.offset = 7) (t4 : f4.type = ws ∧ f4.offset = 8) : OpensB P t ctlS (fun c => μ c.now + μ c.next + ν c.waits) where
  size := by rw [hc]; rfl
  pos := by decide
  op h := by
    obtain ⟨xs, n, _, rfl, hl, hlen, hf⟩ := DataW.trod_struct ht h
    rename_i cs _
    rw [hc] at hl
    match cs, hl, xs, hlen with
    | [v0, v1, v2, v3, v4, v5, v6, v7, v8], _, [x0, x1, x2, x3, x4], _ =>
      have h0 := hf 0 f0 rfl
      have h1 := hf 1 f1 rfl
      have h2 := hf 2 f2 rfl
      have h3 := hf 3 f3 rfl
      have h4 := hf 4 f4 rfl
      rw [t0.1, t0.2, hi.size] at h0
      rw [t1.1, t1.2, hp.size] at h1
      rw [t2.1, t2.2, hp.size] at h2
      rw [t3.1, t3.2, hi.size] at h3
      rw [t4.1, t4.2, hw.size] at h4
      obtain ⟨a, ha, ia⟩ := hi.op h0
      obtain ⟨b, hb, hbm⟩ := hp.op h1
      obtain ⟨c, hc', hcm⟩ := hp.op h2
      obtain ⟨d, hd, jd⟩ := hi.op h3
      obtain ⟨e, ⟨ae, ce, he, je⟩, hem⟩ := hw.op h4
      simp [intS] at ha hd
      simp [sliceS] at he
      subst ha; subst hd; subst he
      refine ⟨⟨a, b, c, d, e⟩, ⟨[v1, v2, v3], [v4, v5, v6], ae, ce, rfl, ia, jd, hb, hc', je⟩, ?_⟩
      simp only [List.map_cons, List.map_nil, Rows.uptoBulk, Rows.uptoBulkAll] at *
      omega

end Go.Proofs.Ytagldmdeohenjaa
