/-
  What the document's Serves tells, plainly; what good paths cost.
-/
import Derived.Test.YtflhmpmdpdekeaaServes
set_option linter.unusedSimpArgs false
set_option linter.unusedVariables false
namespace Go.St
open Go.RowKit
def servesFrom (f : Flow) : Nat → List Int → Bool
  | met, [] => decide (met = f.via.length)
  | met, s :: r => if s ∈ f.no then false else if s ∈ f.via then (if f.via[met]? = some s then servesFrom f (met + 1) r else false) else servesFrom f met r
def servesB (t : Topo) (f : Flow) (p : List Int) : Bool := (lengthOf t p).2 && (decide (p.head? = some f.src) && (decide (p.getLast? = some f.dst) && servesFrom f 0 p))

theorem serves_all {f : Flow} : ∀ (r : List Int) (met : Nat), servesFrom f met r = true → (∀ s ∈ r, s ∉ f.no) ∧ r.filter (fun s => decide (s ∈ f.via)) = f.via.drop met
  | [], met, h => by
    simp [servesFrom] at h
    refine ⟨by simp, ?_⟩
    rw [h, List.drop_length]; rfl
  | s :: r, met, h => by
    unfold servesFrom at h
    by_cases h1 : s ∈ f.no
    · rw [if_pos h1] at h; cases h
    rw [if_neg h1] at h
    by_cases h2 : s ∈ f.via
    · rw [if_pos h2] at h
      by_cases h3 : f.via[met]? = some s
      · rw [if_pos h3] at h
        obtain ⟨g1, g2⟩ := serves_all r (met + 1) h
        obtain ⟨hl, he⟩ := List.getElem?_eq_some_iff.1 h3
        refine ⟨fun x hx => by rcases List.mem_cons.1 hx with rfl | hx; exact h1; exact g1 x hx, ?_⟩
        rw [List.filter_cons, if_pos (by simpa using h2), g2, List.drop_eq_getElem_cons hl, he]
      · rw [if_neg h3] at h; cases h
    · rw [if_neg h2] at h
      obtain ⟨g1, g2⟩ := serves_all r met h
      refine ⟨fun x hx => by rcases List.mem_cons.1 hx with rfl | hx; exact h1; exact g1 x hx, ?_⟩
      rw [List.filter_cons, if_neg (by simpa using h2), g2]

theorem length_inv {t : Topo} : ∀ (r had : List Int) (n : Int), had.Nodup → (∀ s ∈ had, 0 ≤ s ∧ s < t.n) → linked t had = true → (lengthFrom t had n r).2 = true → (had ++ r).Nodup ∧ (∀ s ∈ had ++ r, 0 ≤ s ∧ s < t.n) ∧ linked t (had ++ r) = true
  | [], had, n, h1, h2, h3, _ => by rw [List.append_nil]; exact ⟨h1, h2, h3⟩
  | s :: r, had, n, h1, h2, h3, h => by
    unfold lengthFrom at h
    by_cases h0 : s < 0 ∨ t.n ≤ s ∨ s ∈ had
    · rw [if_pos h0] at h; cases h
    rw [if_neg h0] at h
    have e1 : had ++ s :: r = (had ++ [s]) ++ r := by simp
    have hnd : (had ++ [s]).Nodup := by
      rw [List.nodup_append]
      exact ⟨h1, List.nodup_cons.2 ⟨by simp, List.nodup_nil⟩, fun a ha b hb e => by
        have hb' : b = s := by simpa using hb
        exact h0 (.inr (.inr (hb' ▸ e ▸ ha)))⟩
    have hrg : ∀ x ∈ had ++ [s], 0 ≤ x ∧ x < t.n := by
      intro x hx
      rcases List.mem_append.1 hx with hx | hx
      · exact h2 x hx
      · have : x = s := by simpa using hx
        subst this
        exact ⟨Int.not_lt.1 fun h => h0 (.inl h), Int.not_le.1 fun h => h0 (.inr (.inl h))⟩
    rw [e1]
    cases hh : had.getLast? with
    | none =>
      have : had = [] := List.getLast?_eq_none_iff.1 hh
      subst this
      rw [hh] at h
      exact length_inv r [s] n hnd hrg rfl h
    | some q =>
      have hne : had ≠ [] := by rintro rfl; cases hh
      have hq : had.getLastD 0 = q := by rw [List.getLastD_eq_getLast?, hh]; rfl
      rw [hh] at h
      dsimp only at h
      by_cases hc : costOf t q s = 0
      · rw [if_pos hc] at h; cases h
      rw [if_neg hc] at h
      exact length_inv r (had ++ [s]) _ hnd hrg (by rw [linked_snoc t had s hne, h3, Bool.true_and, decide_eq_true_eq, hq]; exact hc) h

theorem length_nd {t : Topo} {p : List Int} (h : (lengthOf t p).2 = true) : p.Nodup ∧ (∀ s ∈ p, 0 ≤ s ∧ s < t.n) ∧ linked t p = true := length_inv p [] 0 List.nodup_nil (by simp) rfl h

theorem serves_good {t : Topo} {f : Flow} {p : List Int} (h : servesB t f p = true) : Good t f p := by
  unfold servesB at h
  simp only [Bool.and_eq_true, decide_eq_true_eq] at h
  obtain ⟨h1, h2, h3, h4⟩ := h
  obtain ⟨g1, g2, g3⟩ := length_nd h1
  obtain ⟨k1, k2⟩ := serves_all p 0 h4
  exact ⟨h2, h3, g3, g1, g2, k1, by simpa using k2⟩

theorem length_cost {t : Topo} (hc : ∀ a b, 0 ≤ costOf t a b ∧ costOf t a b ≤ 1000) : ∀ (r had : List Int) (n : Int), (had ++ r).Nodup → (∀ s ∈ had ++ r, 0 ≤ s ∧ s < t.n) → linked t (had ++ r) = true → had ++ r ≠ [] → n = pathCost t had → 0 ≤ n → n ≤ 1000 * had.length → (had ++ r).length ≤ 1000000 →
    lengthFrom t had n r = (pathCost t (had ++ r), true)
  | [], had, n, _, _, _, h, hn, _, _, _ => by
    cases had with
    | nil => simp at h
    | cons a q => simp [lengthFrom, hn]
  | s :: r, had, n, hn, hr, hl, h, hp, h0, h1, hlen => by
    have hs := hr s (by simp)
    have hnm : s ∉ had := fun hm => (List.nodup_append.1 hn).2.2 _ hm _ (by simp) rfl
    have e1 : had ++ s :: r = (had ++ [s]) ++ r := by simp
    unfold lengthFrom
    rw [if_neg (by simp only [not_or]; exact ⟨by omega, by omega, hnm⟩)]
    cases hh : had.getLast? with
    | none =>
      have : had = [] := List.getLast?_eq_none_iff.1 hh
      subst this
      exact length_cost hc r [s] n (by simpa using hn) (by simpa using hr) (by simpa using hl) (by simp) (by simpa [pathCost] using hp) h0 (by simp at h1; simp; omega) (by simpa using hlen)
    | some q =>
      have hne : had ≠ [] := by rintro rfl; cases hh
      have h6 := linked_left t _ _ (e1 ▸ hl)
      rw [linked_snoc t had s hne, Bool.and_eq_true, decide_eq_true_eq] at h6
      have hq : had.getLastD 0 = q := by rw [List.getLastD_eq_getLast?, hh]; rfl
      rw [hq] at h6
      obtain ⟨c0, c1⟩ := hc q s
      have hll : had.length ≤ 1000000 := by simp at hlen; omega
      have hw : IntKind.i64.wrap (n + costOf t q s) = n + costOf t q s := IntWalk.i64_in _ (by omega)
      dsimp only
      rw [if_neg h6.2, hw, e1]
      exact length_cost hc r (had ++ [s]) _ (e1 ▸ hn) (by rw [← e1]; exact hr) (e1 ▸ hl) (by simp) (by rw [pathCost_snoc t had s hne, hq, hp]) (by omega) (by simp; omega) (by rw [← e1]; exact hlen)
theorem good_length {t : Topo} {f : Flow} {p : List Int} (ht : (topoWrong t).1 = 0) (h : Good t f p) : lengthOf t p = (pathCost t p, true) := by
  have hl := nodup_len h.nodup h.rng
  have := (topo_right ht).1
  exact length_cost (cost_range ht) p [] 0 h.nodup h.rng h.link h.ne rfl (Int.le_refl 0) (by simp) (by simp; omega)

theorem lexLe_get : ∀ {p q : List Int}, lexLe p q = true → ∀ (j : Nat), (∀ i, i < j → p[i]? = q[i]?) → j < p.length → (∃ a b, p[j]? = some a ∧ q[j]? = some b ∧ a ≤ b)
  | [], _, _, j, _, hj => by simp at hj
  | a :: r, [], h, _, _, _ => by simp [lexLe] at h
  | a :: r, b :: s, h, j, he, hj => by
    simp only [lexLe, Bool.or_eq_true, Bool.and_eq_true, decide_eq_true_eq] at h
    cases j with
    | zero => exact ⟨a, b, rfl, rfl, by omega⟩
    | succ j =>
      have h0 := he 0 (by omega)
      simp at h0
      subst h0
      have hr : lexLe r s = true := by rcases h with h | h; omega; exact h.2
      have := lexLe_get hr j (fun i hi => by have := he (i + 1) (by omega); simpa using this) (by simpa using hj)
      simpa using this
end Go.St
