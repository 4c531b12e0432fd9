/-
  With a link more a path is no dearer, plainly.
-/
import Derived.Test.YtflhmpmdpdekeaaPathLs
set_option linter.unusedSimpArgs false
set_option linter.unusedVariables false
namespace Go.St

theorem costIn_snoc (a b : Int) (l : Link) : ∀ (ls : List Link), costIn a b ls ≠ 0 → costIn a b (ls ++ [l]) = costIn a b ls
  | [], h => absurd rfl h
  | k :: r, h => by
    simp only [List.cons_append, costIn] at h ⊢
    by_cases h0 : linkIs a b k = true
    · rw [if_pos h0, if_pos h0]
    · rw [if_neg h0] at h
      rw [if_neg h0, if_neg h0]
      exact costIn_snoc a b l r h

theorem linked_more {t : Topo} (l : Link) : ∀ (q : List Int), linked t q = true → linked ⟨t.n, t.links ++ [l]⟩ q = true ∧ pathCost ⟨t.n, t.links ++ [l]⟩ q = pathCost t q
  | [], _ => ⟨rfl, rfl⟩
  | [_], _ => ⟨rfl, rfl⟩
  | a :: b :: r, h => by
    simp only [linked, Bool.and_eq_true, decide_eq_true_eq] at h
    obtain ⟨h1, h2⟩ := linked_more l (b :: r) h.2
    have h3 : costOf ⟨t.n, t.links ++ [l]⟩ a b = costOf t a b := costIn_snoc a b l t.links h.1
    simp only [linked, pathCost, Bool.and_eq_true, decide_eq_true_eq]
    exact ⟨⟨by rw [h3]; exact h.1, h1⟩, by rw [h3, h2]⟩

theorem more_good {t : Topo} {f : Flow} (l : Link) {q : List Int} (h : Good t f q) : Good ⟨t.n, t.links ++ [l]⟩ f q :=
  ⟨h.src, h.dst, (linked_more l q h.link).1, h.nodup, h.rng, h.no, h.via⟩

theorem flows_right {t : Topo} {f : Flow} (h : (findOf t f).2 = 0) : (flowsWrong [f] t.n).1 = 0 := by
  unfold findOf at h
  by_cases h1 : (topoWrong t).1 = 0
  case neg => rw [if_pos h1] at h; exact absurd h h1
  rw [if_neg (by simp [h1])] at h
  by_cases h2 : (flowsWrong [f] t.n).1 = 0
  · exact h2
  · rw [if_pos h2] at h; exact absurd h h2

theorem more_cost {t : Topo} {f : Flow} (l : Link) (h : (findOf t f).2 = 0) (hu : (topoWrong ⟨t.n, t.links ++ [l]⟩).1 = 0) :
    (findOf ⟨t.n, t.links ++ [l]⟩ f).2 = 0 ∧ lengthOf t (findOf t f).1 = (pathCost t (findOf t f).1, true) ∧
      lengthOf ⟨t.n, t.links ++ [l]⟩ (findOf ⟨t.n, t.links ++ [l]⟩ f).1 = (pathCost ⟨t.n, t.links ++ [l]⟩ (findOf ⟨t.n, t.links ++ [l]⟩ f).1, true) ∧
      pathCost ⟨t.n, t.links ++ [l]⟩ (findOf ⟨t.n, t.links ++ [l]⟩ f).1 ≤ pathCost t (findOf t f).1 := by
  obtain ⟨ht, _, hg, _⟩ := find_good h
  have hg' := more_good l hg
  have hfl := flows_right h
  have h0 : (findOf ⟨t.n, t.links ++ [l]⟩ f).2 = 0 := by
    by_cases h9 : (findOf ⟨t.n, t.links ++ [l]⟩ f).2 = 9
    · exact absurd hg' (find_none h9 _)
    unfold findOf at h9 ⊢
    rw [if_neg (by simp [hu]), if_neg (by simp [hfl])] at h9 ⊢
    split at h9
    · exact absurd rfl h9
    · rfl
  obtain ⟨_, _, hgu, hmin⟩ := find_good h0
  refine ⟨h0, good_length ht hg, good_length hu hgu, ?_⟩
  have := hmin _ hg'
  rw [(linked_more l _ hg.link).2] at this
  omega

end Go.St
