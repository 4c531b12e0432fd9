/-
  A path that is gone back costs the same; its parts as much together; plainly.
-/
import Derived.Test.YtflhmpmdpdekeaaServeS
import Derived.Test.YtflhmpmdpdekeaaPathPS
import Derived.Test.YtflhmpmdpdekeaaReachS
set_option linter.unusedSimpArgs false
set_option linter.unusedVariables false
namespace Go.St

theorem pathCost_le {t : Topo} (hc : ∀ a b, costOf t a b ≤ 1000) : ∀ p : List Int, pathCost t p ≤ 1000 * p.length
  | [] => by simp [pathCost]
  | [_] => by simp [pathCost]
  | a :: b :: r => by
    have h1 := pathCost_le hc (b :: r)
    have h2 := hc a b
    simp only [pathCost, List.length_cons] at *
    omega

theorem nice {t : Topo} {p : List Int} (ht : (topoWrong t).1 = 0) (hne : p ≠ []) (hnd : p.Nodup) (hrg : ∀ s ∈ p, 0 ≤ s ∧ s < t.n) (hl : linked t p = true) : lengthOf t p = (pathCost t p, true) ∧ 0 ≤ pathCost t p ∧ p.length ≤ 8 := by
  have h8 := nodup_len hnd hrg
  have hn := (topo_right ht).1.2.1
  refine ⟨?_, pathCost_nonneg (fun a b => (cost_range ht a b).1) p, by omega⟩
  have := length_cost (t := t) (cost_range ht) p [] 0 (by simpa using hnd) (by simpa using hrg) (by simpa using hl) (by simpa using hne) rfl (by omega) (by simp) (by simp; omega)
  simpa [lengthOf] using this

theorem last_rev (b : Int) (r : List Int) : (b :: r).reverse.getLastD 0 = b := by simp [List.getLastD_eq_getLast?]
theorem rev_cost (t : Topo) : ∀ p : List Int, pathCost t p.reverse = pathCost t p ∧ linked t p.reverse = linked t p
  | [] => ⟨rfl, rfl⟩
  | [_] => ⟨rfl, rfl⟩
  | a :: b :: r => by
    obtain ⟨h1, h2⟩ := rev_cost t (b :: r)
    have hne : (b :: r).reverse ≠ [] := by simp
    rw [show (a :: b :: r).reverse = (b :: r).reverse ++ [a] by simp]
    rw [pathCost_snoc t _ _ hne, linked_snoc t _ _ hne, last_rev, h1, h2, cost_symm t b a]
    refine ⟨?_, ?_⟩
    · simp only [pathCost]; omega
    · simp only [linked]; rw [Bool.and_comm]

theorem back_cost {t : Topo} {p : List Int} (ht : (topoWrong t).1 = 0) (h : (lengthOf t p).2 = true) :
    lengthOf t p = (pathCost t p, true) ∧ lengthOf t p.reverse = (pathCost t p, true) ∧ p.length ≤ 8 ∧
      ∀ j, j < p.length → ∃ a b, lengthOf t (p.take (j + 1)) = (a, true) ∧ lengthOf t (p.drop j) = (b, true) ∧ a + b = pathCost t p ∧ I64 (a + b) := by
  have hne : p ≠ [] := by
    rintro rfl
    simp [lengthOf, lengthFrom] at h
  obtain ⟨hnd, hrg, hl⟩ := length_nd h
  obtain ⟨n1, n2, n3⟩ := nice ht hne hnd hrg hl
  obtain ⟨r1, r2⟩ := rev_cost t p
  refine ⟨n1, ?_, n3, fun j hj => ?_⟩
  · have := (nice ht (p := p.reverse) (by simpa using hne) ((List.reverse_perm p).nodup_iff.2 hnd) (by simpa using hrg) (by rw [r2]; exact hl)).1
    rw [r1] at this
    exact this
  · have hd : p.drop j = p[j] :: p.drop (j + 1) := List.drop_eq_getElem_cons hj
    have htk : p.take (j + 1) = p.take j ++ [p[j]] := List.take_succ_eq_append_getElem hj
    have hsplit : p = p.take j ++ p[j] :: p.drop (j + 1) := by rw [← hd, List.take_append_drop]
    have hc := pathCost_split t p[j] (p.take j) (p.drop (j + 1))
    rw [← hsplit, ← hd, ← htk] at hc
    have hl1 : linked t (p.take (j + 1)) = true := linked_left t _ (p.drop (j + 1)) (by rw [List.take_append_drop]; exact hl)
    have hl2 : linked t (p.drop j) = true := linked_right t (p.take j) _ (by rw [List.take_append_drop]; exact hl)
    have h1 := nice ht (p := p.take (j + 1)) (by rw [htk]; exact List.append_ne_nil_of_right_ne_nil _ (by simp)) (hnd.sublist (List.take_sublist _ _)) (fun s hs => hrg s (List.mem_of_mem_take hs)) hl1
    have h2 := nice ht (p := p.drop j) (by rw [hd]; exact List.cons_ne_nil _ _) (hnd.sublist (List.drop_sublist _ _)) (fun s hs => hrg s (List.mem_of_mem_drop hs)) hl2
    refine ⟨_, _, h1.1, h2.1, hc.symm, ?_⟩
    rw [← hc]
    have hI : I64 (lengthOf t p).1 → I64 (pathCost t p) := by rw [n1]; exact id
    have hle : pathCost t p ≤ 1000 * p.length := pathCost_le (fun a b => (cost_range ht a b).2) p
    simp only [I64]
    omega
end Go.St
