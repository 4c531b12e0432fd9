/-
  Who is reached has a path, plainly.
-/
import Derived.Test.YtflhmpmdpdekeaaPathPS
import Derived.Test.YtflhmpmdpdekeaaPathLs
import Derived.Test.YtflhmpmdpdekeaaReachS
set_option linter.unusedSimpArgs false
set_option linter.unusedVariables false
namespace Go.St

theorem way_walk {t : Topo} {a b : Int} (h : Way t a b) (h0 : 0 ≤ a ∧ a < t.n) : ∃ W : List Int, W ≠ [] ∧ W.head? = some a ∧ W.getLast? = some b ∧ linked t W = true ∧ ∀ s ∈ W, 0 ≤ s ∧ s < t.n := by
  induction h with
  | refl => exact ⟨[a], by simp, rfl, rfl, rfl, by simpa using h0⟩
  | @step b c _ hc h1 h2 ih =>
    obtain ⟨W, w1, w2, w3, w4, w5⟩ := ih
    refine ⟨W ++ [c], by simp, ?_, by simp, ?_, ?_⟩
    · cases W with
      | nil => exact absurd rfl w1
      | cons x W => simpa using w2
    · rw [linked_snoc t _ _ w1, w4, List.getLastD_eq_getLast?, w3]
      simp
      omega
    · intro s hs
      rcases List.mem_append.1 hs with hs | hs
      · exact w5 s hs
      · simp only [List.mem_singleton] at hs; omega

theorem walk_way {t : Topo} (hc : CostsOk t) : ∀ (W : List Int) (a b : Int), W.head? = some a → W.getLast? = some b → linked t W = true → (∀ s ∈ W, 0 ≤ s ∧ s < t.n) → Way t a b
  | [], _, _, h, _, _, _ => by cases h
  | [x], a, b, h1, h2, _, _ => by simp at h1 h2; rw [← h1, ← h2]; exact .refl _
  | x :: y :: r, a, b, h1, h2, h3, h4 => by
    simp only [linked, Bool.and_eq_true, decide_eq_true_eq] at h3
    simp only [List.head?_cons, Option.some.injEq] at h1
    subst h1
    have hy := h4 y (by simp)
    have := hc x y
    exact Way.trans (.step (.refl _) (by omega) hy.1 hy.2) (walk_way hc (y :: r) y b rfl (by rw [List.getLast?_cons_cons] at h2; exact h2) h3.2 fun s hs => h4 s (List.mem_cons_of_mem _ hs))

theorem find_reach {t : Topo} {s d : Int} (ht : (topoWrong t).1 = 0) (s0 : 0 ≤ s) (s1 : s < t.n) (d0 : 0 ≤ d) (d1 : d < t.n) (hsd : s ≠ d) :
    (findOf t ⟨s, d, [], []⟩).2 = if d ∈ reaches t s then 0 else 9 := by
  have hc : CostsOk t := fun a b => (cost_range ht a b).1
  have hf : FlowOk t.n ⟨s, d, [], []⟩ := ⟨s0, s1, d0, d1, hsd, List.nodup_nil, by simp, by simp, by simp⟩
  have hfb : flowBad t.n ⟨s, d, [], []⟩ = 0 := by
    unfold flowBad
    dsimp only
    rw [if_neg (by omega), if_neg hsd]
    simp [listBad]
  have h2 : (findOf t ⟨s, d, [], []⟩).2 = 0 ∨ (findOf t ⟨s, d, [], []⟩).2 = 9 := by
    unfold findOf
    rw [if_neg (by simp [ht]), if_neg (by rw [flows1, hfb]; simp)]
    split
    · exact .inr rfl
    · exact .inl rfl
  by_cases hr : d ∈ reaches t s
  · rw [if_pos hr]
    rcases h2 with h2 | h2
    · exact h2
    · obtain ⟨W, w1, w2, w3, w4, w5⟩ := way_walk ((mem_reaches ht s0 s1).1 hr) ⟨s0, s1⟩
      obtain ⟨P, p1, p2, p3, p4, p5, p6⟩ := simple hc W w1 w4
      exact absurd (⟨p1.trans w2, p2.trans w3, p3, p4, fun z hz => w5 z (p5 z hz), fun z _ => by simp, by simp⟩ : Good t ⟨s, d, [], []⟩ P) (find_none h2 P)
  · rw [if_neg hr]
    rcases h2 with h2 | h2
    · obtain ⟨_, _, hg, _⟩ := find_good h2
      exact absurd ((mem_reaches ht s0 s1).2 (walk_way hc _ s d hg.src hg.dst hg.link hg.rng)) hr
    · exact h2

/-- a loop that asks each one -/
def anyFrom (d : Int) (l : List Int) (j : Nat) : Bool := (l.take j).any (fun x => x == d)
theorem anyFrom_next {d x : Int} {l : List Int} {j : Nat} (h : l[j]? = some x) : anyFrom d l (j + 1) = (anyFrom d l j || x == d) := by
  obtain ⟨hj, rfl⟩ := List.getElem?_eq_some_iff.1 h
  unfold anyFrom
  rw [List.take_succ_eq_append_getElem hj, List.any_append]
  simp only [List.any_cons, List.any_nil, Bool.or_false]
theorem anyFrom_end {d : Int} {l : List Int} {j : Nat} (h : l.length ≤ j) : anyFrom d l j = decide (d ∈ l) := by
  unfold anyFrom
  rw [List.take_of_length_le h]
  exact Bool.eq_iff_iff.2 (by simp)
end Go.St
