/-
  A plan's reading with its bulk; a switch's rules are no more than the paths' places.
-/
import Derived.Test.YtagldmdeohenjaaPk12
import Derived.Test.YtagldmdeohenjaaPk10
import Derived.Test.YtagldmdeohenjaaPk14
set_option linter.unusedSimpArgs false
set_option linter.unusedVariables false
namespace Go.St
theorem pathRules_lenB {v f s : Int} : ∀ {l : List Int}, (pathRules v f s l).length ≤ l.length
  | [] => Nat.le_refl _
  | [_] => Nat.zero_le _
  | a :: b :: l => by
    rw [pathRules]
    have := pathRules_lenB (v := v) (f := f) (s := s) (l := b :: l)
    simp only [List.length_append, List.length_cons] at *
    split <;> simp <;> omega
def planBulk (ps : List (List Int)) : Nat := (ps.map fun q => (q.map fun _ => 1).sum + 1).sum + 1
theorem ones_sum (q : List Int) : (q.map fun _ => 1).sum = q.length := by
  induction q with
  | nil => rfl
  | cons x l ih => simp only [List.map_cons, List.sum_cons, ih, List.length_cons]; omega
theorem rulesFrom_lenB {v s : Int} : ∀ {ps : List (List Int)} {j : Int}, (rulesFrom v s j ps).length ≤ planBulk ps
  | [], _ => Nat.zero_le _
  | q :: ps, j => by
    rw [rulesFrom, List.length_append]
    have h1 := rulesFrom_lenB (v := v) (s := s) (ps := ps) (j := j + 1)
    have h2 := pathRules_lenB (v := v) (f := j) (s := s) (l := q)
    simp only [planBulk, List.map_cons, List.sum_cons, ones_sum] at *
    omega
theorem paths_len : ∀ (ps : List (List Int)), ps.length ≤ planBulk ps
  | [] => Nat.zero_le _
  | q :: ps => by
    have := paths_len ps
    simp only [planBulk, List.map_cons, List.sum_cons, List.length_cons] at *
    omega
end Go.St
namespace Go.Proofs.Ytagldmdeohenjaa
open Go.RowKit Go.St Go.Deep Go.ChangeShapes Go.WideShapes

theorem opens_planB {P : Program} {t i fs ps : TypeId} {f0 f1 f2 : Field} {μ : List (List Int) → Nat} (ht : P.underlying t = some (.struct #[f0, f1, f2])) (hc : P.cellsOf t = 3) (hi : Opens P i intS) (hfl : Opens P fs (sliceS flowS)) (hp : OpensB P ps (sliceS (sliceS intS)) μ)
    (t0 : f0.type = i ∧ f0.offset = 0) (t1 : f1.type = fs ∧ f1.offset = 1) (t2 : f2.type = ps ∧ f2.offset = 2) : OpensB P t planS (fun p => μ p.paths) where
  size := by rw [hc]; rfl
  pos := by decide
  op h := by
    obtain ⟨xs, n, _, rfl, hl, hlen, hf⟩ := DataW.trod_struct ht h
    rename_i cs _
    rw [hc] at hl
    match cs, hl, xs, hlen with
    | [v0, v1, v2], _, [x0, x1, x2], _ =>
      have h0 := hf 0 f0 rfl
      have h1 := hf 1 f1 rfl
      have h2 := hf 2 f2 rfl
      rw [t0.1, t0.2, hi.size] at h0
      rw [t1.1, t1.2, hfl.size] at h1
      rw [t2.1, t2.2, hp.size] at h2
      obtain ⟨a, ha, ia⟩ := hi.op h0
      obtain ⟨b, ab, cb, hb, ib⟩ := hfl.op h1
      obtain ⟨c, ⟨ac, cc, hc', ic⟩, hm⟩ := hp.op h2
      simp [intS] at ha
      simp [sliceS] at hb hc'
      subst ha; subst hb; subst hc'
      refine ⟨⟨a, b, c⟩, ⟨ab, cb, ac, cc, rfl, ia, ib, ic⟩, ?_⟩
      simp only [List.map_cons, List.map_nil, Rows.uptoBulk, Rows.uptoBulkAll] at *
      omega

end Go.Proofs.Ytagldmdeohenjaa
