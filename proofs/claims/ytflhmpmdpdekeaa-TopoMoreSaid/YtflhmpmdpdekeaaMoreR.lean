/-
  A link more reaches more, plainly.
-/
import Derived.Test.YtflhmpmdpdekeaaMoreS
import Derived.Test.YtflhmpmdpdekeaaReachS
set_option linter.unusedSimpArgs false
set_option linter.unusedVariables false
namespace Go.St

theorem costIn_more {a b : Int} (l : Link) : ∀ (ls : List Link), costIn a b ls = 0 → costIn a b (ls ++ [l]) = (if linkIs a b l = true then l.cost else 0) ∨ (∃ k ∈ ls, k.cost = 0)
  | [], _ => .inl rfl
  | k :: r, h => by
    simp only [List.cons_append, costIn] at h ⊢
    by_cases h0 : linkIs a b k = true
    · rw [if_pos h0] at h
      exact .inr ⟨k, by simp, h⟩
    · rw [if_neg h0] at h
      rw [if_neg h0]
      rcases costIn_more l r h with h1 | ⟨k', h1, h2⟩
      · exact .inl h1
      · exact .inr ⟨k', by simp [h1], h2⟩

theorem way_more {t : Topo} (l : Link) {a b : Int} (h : Way t a b) : Way ⟨t.n, t.links ++ [l]⟩ a b := by
  induction h with
  | refl => exact .refl _
  | @step b c _ hc h0 h1 ih =>
    refine .step ih ?_ h0 h1
    have : costIn b c (t.links ++ [l]) = costIn b c t.links := costIn_snoc b c l t.links (Int.ne_of_gt hc)
    show 0 < costIn b c (t.links ++ [l])
    rw [this]
    exact hc

theorem reach_more {t : Topo} {l : Link} (ht : (topoWrong t).1 = 0) (hu : (topoWrong ⟨t.n, t.links ++ [l]⟩).1 = 0) {a b : Int} (ha : 0 ≤ a ∧ a < t.n) :
    b ∈ reaches ⟨t.n, t.links ++ [l]⟩ a ↔ (b ∈ reaches t a ∨ (l.a ∈ reaches t a ∧ b ∈ reaches t l.b) ∨ (l.b ∈ reaches t a ∧ b ∈ reaches t l.a)) := by
  have hl : LinkOk t.n l := (topo_right hu).2 l (by simp)
  have hA : 0 ≤ l.a ∧ l.a < t.n := ⟨hl.a0, hl.a1⟩
  have hB : 0 ≤ l.b ∧ l.b < t.n := ⟨hl.b0, hl.b1⟩
  rw [mem_reaches hu ha.1 ha.2, mem_reaches ht ha.1 ha.2, mem_reaches ht ha.1 ha.2, mem_reaches ht ha.1 ha.2, mem_reaches ht hB.1 hB.2, mem_reaches ht hA.1 hA.2]
  have hls := (topo_right ht).2
  have hcost : ∀ x y, costOf ⟨t.n, t.links ++ [l]⟩ x y = costOf t x y ∨ (costOf t x y = 0 ∧ linkIs x y l = true) := fun x y => by
    by_cases h0 : costIn x y t.links = 0
    · rcases costIn_more (a := x) (b := y) l t.links h0 with h1 | ⟨k, h1, h2⟩
      · by_cases h3 : linkIs x y l = true
        · exact .inr ⟨h0, h3⟩
        · refine .inl ?_
          show costIn x y (t.links ++ [l]) = costIn x y t.links
          rw [h1, if_neg h3, h0]
      · exact absurd h2 (by have := (hls k h1).c0; omega)
    · exact .inl (costIn_snoc x y l t.links h0)
  constructor
  · intro h
    induction h with
    | refl => exact .inl (.refl _)
    | @step b c _ hc h0 h1 ih =>
      rcases hcost b c with h2 | ⟨h2, h3⟩
      · rw [h2] at hc
        rcases ih with h | ⟨h, k⟩ | ⟨h, k⟩
        · exact .inl (h.step hc h0 h1)
        · exact .inr (.inl ⟨h, k.step hc h0 h1⟩)
        · exact .inr (.inr ⟨h, k.step hc h0 h1⟩)
      · have h4 : (b = l.a ∧ c = l.b) ∨ (b = l.b ∧ c = l.a) := by simp [linkIs] at h3; omega
        rcases h4 with ⟨rfl, rfl⟩ | ⟨rfl, rfl⟩
        · rcases ih with h | ⟨h, k⟩ | ⟨h, k⟩
          · exact .inr (.inl ⟨h, .refl _⟩)
          · exact .inr (.inl ⟨h, .refl _⟩)
          · exact .inl h
        · rcases ih with h | ⟨h, k⟩ | ⟨h, k⟩
          · exact .inr (.inr ⟨h, .refl _⟩)
          · exact .inl h
          · exact .inr (.inr ⟨h, .refl _⟩)
  · have hAB : 0 < costOf ⟨t.n, t.links ++ [l]⟩ l.a l.b := by
      have hpos : ∀ k ∈ t.links ++ [l], 0 < k.cost := fun k hk => by have := ((topo_right hu).2 k hk).c0; omega
      have : ∀ ls : List Link, (∀ k ∈ ls, 0 < k.cost) → l ∈ ls → 0 < costIn l.a l.b ls := by
        intro ls
        induction ls with
        | nil => intro _ h; cases h
        | cons k r ih =>
          intro h1 h2
          simp only [costIn]
          split
          · exact h1 k (by simp)
          · rename_i h3
            rcases List.mem_cons.1 h2 with rfl | h4
            · exact absurd (by simp [linkIs]) h3
            · exact ih (fun k hk => h1 k (List.mem_cons_of_mem _ hk)) h4
      exact this _ hpos (by simp)
    rintro (h | ⟨h, k⟩ | ⟨h, k⟩)
    · exact way_more l h
    · exact ((way_more l h).step hAB hB.1 hB.2).trans (way_more l k)
    · exact ((way_more l h).step (by rw [cost_symm]; exact hAB) hA.1 hA.2).trans (way_more l k)
end Go.St
