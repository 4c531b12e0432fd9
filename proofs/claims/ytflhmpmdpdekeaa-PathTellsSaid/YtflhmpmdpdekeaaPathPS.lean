/-
  A part of a cheapest path is a cheapest path.
-/
import Derived.Test.YtflhmpmdpdekeaaServeS
import Derived.Test.YtflhmpmdpdekeaaPathF
set_option linter.unusedSimpArgs false
set_option linter.unusedVariables false
namespace Go.St

theorem linked_right (t : Topo) : ∀ (a b : List Int), linked t (a ++ b) = true → linked t b = true
  | [], _, h => h
  | [x], [], _ => rfl
  | [x], y :: r, h => by simp only [List.cons_append, List.nil_append, linked, Bool.and_eq_true] at h; exact h.2
  | x :: y :: a, b, h => by
    simp only [List.cons_append, linked, Bool.and_eq_true] at h
    exact linked_right t (y :: a) b h.2
theorem pathCost_right {t : Topo} (hc : CostsOk t) : ∀ (a b : List Int), pathCost t b ≤ pathCost t (a ++ b)
  | [], _ => Int.le_refl _
  | [x], [] => Int.le_refl _
  | [x], y :: r => by have := hc x y; simp only [List.cons_append, List.nil_append, pathCost]; omega
  | x :: y :: a, b => by
    have h1 := pathCost_right hc (y :: a) b
    have := hc x y
    simp only [List.cons_append, pathCost] at h1 ⊢
    omega
theorem pathCost_split (t : Topo) (x : Int) : ∀ (a b : List Int), pathCost t (a ++ x :: b) = pathCost t (a ++ [x]) + pathCost t (x :: b)
  | [], b => by simp [pathCost]
  | [y], b => by simp [pathCost]
  | y :: z :: a, b => by
    have h1 := pathCost_split t x (z :: a) b
    simp only [List.cons_append, pathCost] at h1 ⊢
    omega
theorem linked_join (t : Topo) (x : Int) : ∀ (a b : List Int), linked t (a ++ [x]) = true → linked t (x :: b) = true → linked t (a ++ x :: b) = true
  | [], b, _, h => h
  | [y], b, h1, h2 => by
    simp only [List.cons_append, List.nil_append, linked, Bool.and_eq_true] at h1 ⊢
    exact ⟨h1.1, h2⟩
  | y :: z :: a, b, h1, h2 => by
    simp only [List.cons_append, linked, Bool.and_eq_true] at h1 ⊢
    exact ⟨h1.1, linked_join t x (z :: a) b h1.2 h2⟩

/-- a walk has a path that costs no more -/
theorem simple {t : Topo} (hc : CostsOk t) : ∀ (W : List Int), W ≠ [] → linked t W = true →
    ∃ P, P.head? = W.head? ∧ P.getLast? = W.getLast? ∧ linked t P = true ∧ P.Nodup ∧ (∀ s ∈ P, s ∈ W) ∧ pathCost t P ≤ pathCost t W
  | [], h, _ => (h rfl).elim
  | [x], _, _ => ⟨[x], rfl, rfl, rfl, by simp, by simp, Int.le_refl _⟩
  | x :: y :: r, _, hl => by
    simp only [linked, Bool.and_eq_true] at hl
    obtain ⟨P, h1, h2, h3, h4, h5, h6⟩ := simple hc (y :: r) (by simp) hl.2
    have hxy := hc x y
    by_cases hx : x ∈ P
    · obtain ⟨a, b, rfl⟩ := List.append_of_mem hx
      refine ⟨x :: b, rfl, ?_, linked_right t a _ h3, (List.nodup_append.1 h4).2.1, fun s hs => List.mem_cons_of_mem _ (h5 s (List.mem_append_right _ hs)), ?_⟩
      · rw [List.getLast?_cons_cons, ← h2, List.getLast?_append, List.getLast?_eq_some_getLast (by simp : x :: b ≠ [])]
        rfl
      · have := pathCost_right hc a (x :: b)
        simp only [pathCost] at h6 ⊢
        omega
    · obtain ⟨s, P', rfl⟩ : ∃ s P', P = s :: P' := by cases P with | nil => cases h1 | cons s P' => exact ⟨s, P', rfl⟩
      obtain rfl : s = y := by simpa using h1
      refine ⟨x :: s :: P', rfl, ?_, by simp only [linked, Bool.and_eq_true]; exact ⟨hl.1, h3⟩, List.nodup_cons.2 ⟨hx, h4⟩, fun z hz => ?_, ?_⟩
      · rw [List.getLast?_cons_cons, List.getLast?_cons_cons]; exact h2
      · rcases List.mem_cons.1 hz with rfl | hz
        · simp
        · exact List.mem_cons_of_mem _ (h5 z hz)
      · simp only [pathCost] at h6 ⊢
        omega

/-- a part of a cheapest path -/
theorem part_cost {t : Topo} {s d : Int} {j : Nat} (h : (findOf t ⟨s, d, [], []⟩).2 = 0) (hj : j + 1 < (findOf t ⟨s, d, [], []⟩).1.length) {x : Int} (hx : (findOf t ⟨s, d, [], []⟩).1[j]? = some x) :
    (findOf t ⟨x, d, [], []⟩).2 = 0 ∧ Good t ⟨x, d, [], []⟩ ((findOf t ⟨s, d, [], []⟩).1.drop j) ∧ Good t ⟨x, d, [], []⟩ (findOf t ⟨x, d, [], []⟩).1 ∧
      pathCost t ((findOf t ⟨s, d, [], []⟩).1.drop j) = pathCost t (findOf t ⟨x, d, [], []⟩).1 := by
  obtain ⟨ht, hf, hg, hmin⟩ := find_good h
  generalize (findOf t ⟨s, d, [], []⟩).1 = p at *
  have hc : CostsOk t := fun a b => (cost_range ht a b).1
  obtain ⟨hjl, hxe⟩ := List.getElem?_eq_some_iff.1 hx
  have hdrop : p.drop j = x :: p.drop (j + 1) := by rw [List.drop_eq_getElem_cons hjl, hxe]
  have hsplit : p = p.take j ++ x :: p.drop (j + 1) := by rw [← hdrop, List.take_append_drop]
  have hxr := hg.rng x (List.mem_of_getElem? hx)
  have hlast : (p.drop j).getLast? = some d := by
    have := hg.dst
    rw [hsplit, List.getLast?_append, List.getLast?_eq_some_getLast (by simp : x :: p.drop (j + 1) ≠ [])] at this
    rw [hdrop, List.getLast?_eq_some_getLast (by simp : x :: p.drop (j + 1) ≠ [])]
    exact this
  have hnd := hg.nodup
  have hxd : x ≠ d := by
    intro e
    rw [hsplit] at hnd
    have h2 := (List.nodup_append.1 hnd).2.1
    have hne : p.drop (j + 1) ≠ [] := by rw [Ne, List.drop_eq_nil_iff]; omega
    rw [hdrop, List.getLast?_cons, List.getLast?_eq_some_getLast hne] at hlast
    have hm : d ∈ p.drop (j + 1) := by
      have h3 : (p.drop (j + 1)).getLast hne = d := Option.some.inj hlast
      exact h3 ▸ List.getLast_mem hne
    exact (List.nodup_cons.1 h2).1 (e ▸ hm)
  have hgd : Good t ⟨x, d, [], []⟩ (p.drop j) := by
    refine ⟨by rw [hdrop]; rfl, hlast, ?_, ?_, fun z hz => hg.rng z (List.mem_of_mem_drop hz), fun z _ => by simp, by simp⟩
    · have := hg.link; rw [hsplit] at this; rw [hdrop]; exact linked_right t _ _ this
    · rw [hsplit] at hnd; rw [hdrop]; exact (List.nodup_append.1 hnd).2.1
  have hf' : FlowOk t.n ⟨x, d, [], []⟩ := ⟨hxr.1, hxr.2, hf.d0, hf.d1, hxd, List.nodup_nil, by simp, by simp, by simp⟩
  have hfb : flowBad t.n ⟨x, d, [], []⟩ = 0 := by
    have h1 := hf.d0
    have h2 := hf.d1
    dsimp only at h1 h2
    unfold flowBad
    dsimp only
    rw [if_neg (by omega), if_neg hxd]
    simp [listBad]
  have h0 : (findOf t ⟨x, d, [], []⟩).2 = 0 := by
    have L := search_leaves ht hf'
    obtain ⟨b, hb, _⟩ := L.beats (p.drop (j + 1)) (by have := hgd; rw [hdrop] at this; exact this)
    unfold findOf
    rw [if_neg (by simp [ht]), if_neg (by rw [flows1, hfb]; simp), hb]
  obtain ⟨_, _, hg', hmin'⟩ := find_good h0
  refine ⟨h0, hgd, hg', ?_⟩
  generalize (findOf t ⟨x, d, [], []⟩).1 = q at *
  have hle : pathCost t q ≤ pathCost t (p.drop j) := by rcases hmin' _ hgd with h | h <;> omega
  obtain ⟨B, rfl⟩ : ∃ B, q = x :: B := by
    have := hg'.src
    cases q with
    | nil => cases this
    | cons a B => exact ⟨B, by simp at this; rw [this]⟩
  -- the walk
  have hlk : linked t (p.take j ++ [x]) = true := by
    have := hg.link
    rw [hsplit, show p.take j ++ x :: p.drop (j + 1) = (p.take j ++ [x]) ++ p.drop (j + 1) by simp] at this
    exact linked_left t _ _ this
  obtain ⟨P, k1, k2, k3, k4, k5, k6⟩ := simple hc (p.take j ++ x :: B) (by simp) (linked_join t x _ _ hlk hg'.link)
  have hP : Good t ⟨s, d, [], []⟩ P := by
    refine ⟨?_, ?_, k3, k4, fun z hz => ?_, fun z _ => by simp, by simp⟩
    · rw [k1]
      have := hg.src
      rw [hsplit] at this
      rw [List.head?_append] at this ⊢
      simpa using this
    · rw [k2, List.getLast?_append, hg'.dst]; rfl
    · rcases List.mem_append.1 (k5 z hz) with h | h
      · exact hg.rng z (List.mem_of_mem_take h)
      · exact hg'.rng z h
  have hpP : pathCost t p ≤ pathCost t P := by rcases hmin P hP with h | h <;> omega
  have e1 := pathCost_split t x (p.take j) (p.drop (j + 1))
  have e2 := pathCost_split t x (p.take j) B
  rw [← hsplit] at e1
  rw [hdrop] at hle ⊢
  omega
end Go.St
