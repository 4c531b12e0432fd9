/-
  What is deleted from a row, plainly.
-/
import Derived.Test.YtcfcdembhjnjfaaRuleS
set_option linter.unusedSimpArgs false
set_option linter.unusedVariables false
namespace Go.St
variable {α : Type}
/-- the loop of DeleteFunc: what is kept, then what was there -/
def Del (p : α → Bool) (xs : List α) (m kk : Nat) (zs : List α) : Prop := zs.take kk = (xs.take m).filter (fun x => !p x) ∧ kk < m ∧ zs.length = xs.length ∧ ∀ i, kk ≤ i → zs[i]? = xs[i]?
theorem Del.start {p : α → Bool} {xs : List α} {k : Nat} {x : α} (h : ∀ y ∈ xs.take k, p y = false) (hx : xs[k]? = some x) (hp : p x = true) : Del p xs (k + 1) k xs := by
  refine ⟨?_, by omega, rfl, fun _ _ => rfl⟩
  rw [List.take_add_one, hx, List.filter_append, List.filter_eq_self.2 (fun y hy => by simp [h y hy])]
  simp [hp]
theorem Del.skip {p : α → Bool} {xs zs : List α} {m kk : Nat} {x : α} (h : Del p xs m kk zs) (hx : xs[m]? = some x) (hp : p x = true) : Del p xs (m + 1) kk zs := by
  obtain ⟨h1, h2, h3, h4⟩ := h
  refine ⟨?_, by omega, h3, h4⟩
  rw [List.take_add_one, hx, List.filter_append, ← h1]; simp [hp]
theorem Del.keep {p : α → Bool} {xs zs : List α} {m kk : Nat} {x : α} (h : Del p xs m kk zs) (hx : xs[m]? = some x) (hp : p x = false) : Del p xs (m + 1) (kk + 1) (zs.set kk x) := by
  obtain ⟨h1, h2, h3, h4⟩ := h
  have hm := (List.getElem?_eq_some_iff.1 hx).1
  refine ⟨?_, by omega, by simpa using h3, fun i hi => ?_⟩
  · rw [List.take_add_one, List.getElem?_set_self (by omega), List.take_set_of_le (Nat.le_refl _), h1, List.take_add_one, hx, List.filter_append]; simp [hp]
  · rw [List.getElem?_set_ne (by omega)]; exact h4 i (by omega)
theorem Del.done {p : α → Bool} {xs zs : List α} {m kk : Nat} (h : Del p xs m kk zs) (hm : xs.length ≤ m) (hk : kk ≤ xs.length) : zs.take kk = xs.filter (fun x => !p x) ∧ (xs.filter (fun x => !p x)).length = kk := by
  have h1 := h.1
  rw [List.take_of_length_le hm] at h1
  exact ⟨h1, by rw [← h1, List.length_take, h.2.2.1]; omega⟩
theorem none_step {p : α → Bool} {xs : List α} {k : Nat} {x : α} (h : ∀ y ∈ xs.take k, p y = false) (hx : xs[k]? = some x) (hp : p x = false) : ∀ y ∈ xs.take (k + 1), p y = false := by
  intro y hy
  rw [List.take_add_one, hx] at hy
  rcases List.mem_append.1 hy with hy | hy
  · exact h y hy
  · simp at hy; rw [hy]; exact hp
theorem none_end {p : α → Bool} {xs : List α} {k : Nat} (h : ∀ y ∈ xs.take k, p y = false) (hk : xs.length ≤ k) : xs.filter (fun x => !p x) = xs := by
  rw [List.take_of_length_le hk] at h
  exact List.filter_eq_self.2 fun y hy => by simp [h y hy]
theorem dropOf_eq (l : List Rule) (v : Int) : dropOf l v = l.filter (fun x => !(x.ver == v)) := rfl
end Go.St
