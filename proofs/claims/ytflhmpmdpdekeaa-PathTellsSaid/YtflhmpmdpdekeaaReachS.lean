/-
  Who reaches whom, plainly.
-/
import Derived.Test.YtflhmpmdpdekeaaPathF
set_option linter.unusedSimpArgs false
set_option linter.unusedVariables false
namespace Go.St

theorem insertI_perm (x : Int) : ∀ l : List Int, (insertI x l).Perm (x :: l)
  | [] => List.Perm.refl _
  | y :: r => by
    unfold insertI
    by_cases h : x ≤ y
    · rw [if_pos h]
    · rw [if_neg h]; exact ((insertI_perm x r).cons y).trans (List.Perm.swap x y r)
theorem sortI_perm : ∀ l : List Int, (sortI l).Perm l
  | [] => List.Perm.refl _
  | x :: r => (insertI_perm x (sortI r)).trans ((sortI_perm r).cons x)
theorem insertI_sorted (x : Int) : ∀ l : List Int, l.Pairwise (· ≤ ·) → (insertI x l).Pairwise (· ≤ ·)
  | [], _ => by simp [insertI]
  | y :: r, h => by
    unfold insertI
    rw [List.pairwise_cons] at h
    by_cases hx : x ≤ y
    · rw [if_pos hx, List.pairwise_cons]
      refine ⟨fun z hz => ?_, List.pairwise_cons.2 h⟩
      rcases List.mem_cons.1 hz with rfl | hz
      · exact hx
      · exact Int.le_trans hx (h.1 z hz)
    · rw [if_neg hx, List.pairwise_cons]
      refine ⟨fun z hz => ?_, insertI_sorted x r h.2⟩
      rcases List.mem_cons.1 ((insertI_perm x r).mem_iff.1 hz) with rfl | hz
      · omega
      · exact h.1 z hz
theorem sortI_sorted : ∀ l : List Int, (sortI l).Pairwise (· ≤ ·)
  | [] => List.Pairwise.nil
  | x :: r => insertI_sorted x _ (sortI_sorted r)
theorem sortI_merge (l : List Int) : l.mergeSort (fun x y => decide (x ≤ y)) = sortI l := by
  have h1 := List.pairwise_mergeSort (le := fun x y : Int => decide (x ≤ y)) (by simp; omega) (by simp; omega) l
  simp only [decide_eq_true_eq] at h1
  exact List.Perm.eq_of_pairwise (le := (· ≤ ·)) (fun a b _ _ h h' => Int.le_antisymm h h') h1 (sortI_sorted l) ((List.mergeSort_perm _ _).trans (sortI_perm l).symm)

theorem sorted_eq {a b : List Int} (ha : a.Pairwise (· < ·)) (hb : b.Pairwise (· < ·)) (h : ∀ x, x ∈ a ↔ x ∈ b) : a = b := by
  refine List.Perm.eq_of_pairwise (le := (· ≤ ·)) (fun a b _ _ h h' => Int.le_antisymm h h') (ha.imp fun h => Int.le_of_lt h) (hb.imp fun h => Int.le_of_lt h) ?_
  have na : a.Nodup := ha.imp fun h => by omega
  have nb : b.Nodup := hb.imp fun h => by omega
  exact (List.perm_ext_iff_of_nodup na nb).2 h

/-! One round. -/
theorem visit_mem {t : Topo} {x y : Int} {o : List Int} : ∀ {k : Nat}, y ∈ visit t x o k ↔ y ∈ o ∨ ∃ j : Nat, j < k ∧ y = j ∧ 0 < costOf t x j
  | 0 => by simp [visit]
  | k + 1 => by
    have ih := @visit_mem t x y o k
    simp only [visit]
    by_cases hc : 0 < costOf t x k ∧ (k : Int) ∉ visit t x o k
    · rw [if_pos hc, List.mem_append, ih, List.mem_singleton]
      constructor
      · rintro ((h | ⟨j, hj, h⟩) | h)
        · exact .inl h
        · exact .inr ⟨j, by omega, h⟩
        · exact .inr ⟨k, by omega, h, hc.1⟩
      · rintro (h | ⟨j, hj, h, h'⟩)
        · exact .inl (.inl h)
        · by_cases hjk : j = k
          · subst hjk; exact .inr h
          · exact .inl (.inr ⟨j, by omega, h, h'⟩)
    · rw [if_neg hc, ih]
      constructor
      · rintro (h | ⟨j, hj, h⟩)
        · exact .inl h
        · exact .inr ⟨j, by omega, h⟩
      · rintro (h | ⟨j, hj, h, h'⟩)
        · exact .inl h
        · by_cases hjk : j = k
          · subst hjk
            have : (j : Int) ∈ visit t x o j := by
              by_cases hm : (j : Int) ∈ visit t x o j
              · exact hm
              · exact absurd ⟨h', hm⟩ hc
            rw [h]
            exact visit_mem.1 this
          · exact .inr ⟨j, by omega, h, h'⟩
theorem visit_pre (t : Topo) (x : Int) (o : List Int) : ∀ k, o <+: visit t x o k
  | 0 => List.prefix_refl _
  | k + 1 => by
    simp only [visit]
    split
    · exact (visit_pre t x o k).trans (List.prefix_append _ _)
    · exact visit_pre t x o k
theorem visit_nodup {t : Topo} {x : Int} {o : List Int} (h : o.Nodup) : ∀ k, (visit t x o k).Nodup
  | 0 => h
  | k + 1 => by
    simp only [visit]
    split
    · rename_i hc
      rw [List.nodup_append]
      exact ⟨visit_nodup h k, by simp, fun a ha b hb e => hc.2 (by simp at hb; subst hb; rwa [← e])⟩
    · exact visit_nodup h k
theorem visit_range {t : Topo} {x : Int} {o : List Int} (h : ∀ y ∈ o, 0 ≤ y ∧ y < t.n) {k : Nat} (hk : (k : Int) ≤ t.n) : ∀ y ∈ visit t x o k, 0 ≤ y ∧ y < t.n := by
  intro y hy
  rcases visit_mem.1 hy with hy | ⟨j, hj, rfl, _⟩
  · exact h y hy
  · omega
theorem prefix_get {o o' : List Int} (h : o <+: o') {i : Nat} {x : Int} (hx : o[i]? = some x) : o'[i]? = some x := by
  obtain ⟨r, rfl⟩ := h
  rw [List.getElem?_append_left (List.getElem?_eq_some_iff.1 hx).1]
  exact hx

theorem reach_step {t : Topo} {f i : Nat} {o c : List Int} {x : Int} (h : c = reachFrom t (f + 1) i o) (hx : o[i]? = some x) : c = reachFrom t f (i + 1) (visit t x o t.n.toNat) := by
  rw [h]; simp only [reachFrom, hx]
theorem reach_end {t : Topo} {f i : Nat} {o c : List Int} (h : c = reachFrom t f i o) (hx : ¬ i < o.length) : c = o := by
  rw [h]
  cases f with
  | zero => rfl
  | succ f => simp only [reachFrom, List.getElem?_eq_none (Nat.le_of_not_lt hx)]

/-! The whole: x is reached just if there is a way of links. -/
inductive Way (t : Topo) : Int → Int → Prop where
  | refl (a : Int) : Way t a a
  | step {a b c : Int} : Way t a b → 0 < costOf t b c → 0 ≤ c → c < t.n → Way t a c
theorem Way.trans {t : Topo} {a b c : Int} (h : Way t a b) (k : Way t b c) : Way t a c := by
  induction k with
  | refl => exact h
  | step _ hc h0 h1 ih => exact .step ih hc h0 h1

/-- what was gone through has nothing new behind it; what was reached has a way -/
structure Round (t : Topo) (s : Int) (i : Nat) (o : List Int) : Prop where
  le : i ≤ o.length
  nd : o.Nodup
  rng : ∀ y ∈ o, 0 ≤ y ∧ y < t.n
  way : ∀ y ∈ o, Way t s y
  first : s ∈ o
  shut : ∀ j, j < i → ∀ x, o[j]? = some x → ∀ y : Int, 0 ≤ y → y < t.n → 0 < costOf t x y → y ∈ o
theorem Round.next {t : Topo} {s : Int} {i : Nat} {o : List Int} (h : Round t s i o) {x : Int} (hx : o[i]? = some x) : Round t s (i + 1) (visit t x o t.n.toNat) := by
  have hp := visit_pre t x o t.n.toNat
  have hi := (List.getElem?_eq_some_iff.1 hx).1
  refine ⟨by have := hp.length_le; omega, visit_nodup h.nd _, ?_, ?_, hp.subset h.first, ?_⟩
  · by_cases hn : 0 ≤ t.n
    · exact visit_range h.rng (by omega)
    · intro y hy
      rcases visit_mem.1 hy with hy | ⟨j, hj, _⟩
      · exact h.rng y hy
      · omega
  · intro y hy
    rcases visit_mem.1 hy with hy | ⟨j, hj, rfl, hc⟩
    · exact h.way y hy
    · exact .step (h.way x (List.mem_of_getElem? hx)) hc (by omega) (by omega)
  · intro j hj z hz y h0 h1 hc
    have hz' : o[j]? = some z := by
      have hjl : j < o.length := by omega
      have := prefix_get hp (List.getElem?_eq_getElem hjl)
      rw [List.getElem?_eq_getElem hjl, ← hz, ← this]
    by_cases hji : j = i
    · subst hji
      obtain rfl : x = z := Option.some.inj (hx.symm.trans hz')
      exact visit_mem.2 (.inr ⟨y.toNat, by omega, by omega, by rwa [show ((y.toNat : Nat) : Int) = y by omega]⟩)
    · exact hp.subset (h.shut j (by omega) z hz' y h0 h1 hc)
theorem Round.len {t : Topo} {s : Int} {i : Nat} {o : List Int} (h : Round t s i o) : o.length ≤ t.n.toNat := nodup_len h.nd h.rng
theorem Round.all {t : Topo} {s : Int} {o : List Int} (h : Round t s o.length o) {y : Int} : y ∈ o ↔ Way t s y := by
  constructor
  · exact h.way y
  · intro hw
    induction hw with
    | refl => exact h.first
    | step _ hc h0 h1 ih =>
      obtain ⟨j, hj⟩ := List.getElem?_of_mem ih
      exact h.shut j (List.getElem?_eq_some_iff.1 hj).1 _ hj _ h0 h1 hc
theorem Round.start {t : Topo} {s : Int} (h0 : 0 ≤ s) (h1 : s < t.n) : Round t s 0 [s] :=
  ⟨by simp, by simp, by simpa using ⟨h0, h1⟩, by simpa using Way.refl s, by simp, fun j hj => by omega⟩
theorem reachFrom_all {t : Topo} {s : Int} (hn : t.n ≤ 8) : ∀ (f i : Nat) (o : List Int), Round t s i o → 9 ≤ f + i → Round t s (reachFrom t f i o).length (reachFrom t f i o)
  | 0, i, o, h, hf => by have := h.len; have := h.le; omega
  | f + 1, i, o, h, hf => by
    simp only [reachFrom]
    cases hx : o[i]? with
    | none =>
      have h1 := List.getElem?_eq_none_iff.1 hx
      have h2 := h.le
      have : o.length = i := by omega
      simp only
      rw [this]; exact h
    | some x => exact reachFrom_all hn f (i + 1) _ (h.next hx) (by omega)

/-- no more than right nets and switches are looked at -/
theorem reaches_nil {t : Topo} {s : Int} (h : (topoWrong t).1 ≠ 0 ∨ s < 0 ∨ t.n ≤ s) : reaches t s = [] := by unfold reaches; rw [if_pos h]
theorem reaches_some {t : Topo} {s : Int} (h : (topoWrong t).1 = 0) (h0 : 0 ≤ s) (h1 : s < t.n) : reaches t s = sortI (reachFrom t 9 0 [s]) := by unfold reaches; rw [if_neg (by simp [h]; omega)]
theorem mem_reaches {t : Topo} {s y : Int} (h : (topoWrong t).1 = 0) (h0 : 0 ≤ s) (h1 : s < t.n) : y ∈ reaches t s ↔ Way t s y := by
  rw [reaches_some h h0 h1, (sortI_perm _).mem_iff]
  exact (reachFrom_all (topo_right h).1.2.1 9 0 [s] (Round.start h0 h1) (by omega)).all
theorem reaches_range {t : Topo} {s y : Int} (hy : y ∈ reaches t s) : 0 ≤ y ∧ y < t.n := by
  by_cases h : (topoWrong t).1 ≠ 0 ∨ s < 0 ∨ t.n ≤ s
  · rw [reaches_nil h] at hy; cases hy
  simp only [not_or, ne_eq, Decidable.not_not] at h
  rw [reaches_some h.1 (by omega) (by omega), (sortI_perm _).mem_iff] at hy
  exact (reachFrom_all (topo_right h.1).1.2.1 9 0 [s] (Round.start (by omega) (by omega)) (by omega)).rng y hy
theorem reaches_rising {t : Topo} {s : Int} : (reaches t s).Pairwise (· < ·) := by
  by_cases h : (topoWrong t).1 ≠ 0 ∨ s < 0 ∨ t.n ≤ s
  · rw [reaches_nil h]; exact List.Pairwise.nil
  simp only [not_or, ne_eq, Decidable.not_not] at h
  rw [reaches_some h.1 (by omega) (by omega)]
  have hr := reachFrom_all (topo_right h.1).1.2.1 9 0 [s] (Round.start (show 0 ≤ s by omega) (by omega)) (by omega)
  have hnd : (sortI (reachFrom t 9 0 [s])).Nodup := (sortI_perm _).nodup_iff.2 hr.nd
  exact List.Pairwise.imp (fun h => by omega) (List.Pairwise.and (sortI_sorted _) hnd)
theorem reaches_len {t : Topo} {s : Int} : (reaches t s).length ≤ 8 := by
  by_cases h : (topoWrong t).1 ≠ 0 ∨ s < 0 ∨ t.n ≤ s
  · rw [reaches_nil h]; simp
  simp only [not_or, ne_eq, Decidable.not_not] at h
  have hr := reachFrom_all (topo_right h.1).1.2.1 9 0 [s] (Round.start (show 0 ≤ s by omega) (by omega)) (by omega)
  rw [reaches_some h.1 (by omega) (by omega), (sortI_perm _).length_eq]
  have := hr.len
  have := (topo_right h.1).1.2.1
  omega

theorem linkIs_symm (a b : Int) (l : Link) : linkIs a b l = linkIs b a l := by
  unfold linkIs; rw [Bool.or_comm]
theorem cost_symm (t : Topo) (a b : Int) : costOf t a b = costOf t b a := by
  unfold costOf
  induction t.links with
  | nil => rfl
  | cons l r ih => simp only [costIn]; rw [linkIs_symm, ih]
theorem costIn_src {a b : Int} : ∀ {ls : List Link}, 0 < costIn a b ls → ∃ l ∈ ls, linkIs a b l = true
  | [], h => by simp [costIn] at h
  | l :: r, h => by
    unfold costIn at h
    by_cases h0 : linkIs a b l = true
    · exact ⟨l, by simp, h0⟩
    · rw [if_neg h0] at h
      obtain ⟨k, hk, h1⟩ := costIn_src h
      exact ⟨k, by simp [hk], h1⟩
theorem cost_range2 {t : Topo} (ht : (topoWrong t).1 = 0) {a b : Int} (h : 0 < costOf t a b) : (0 ≤ a ∧ a < t.n) ∧ (0 ≤ b ∧ b < t.n) := by
  obtain ⟨l, hl, h1⟩ := costIn_src h
  have hk := (topo_right ht).2 l hl
  have := hk.a0; have := hk.a1; have := hk.b0; have := hk.b1
  unfold linkIs at h1
  simp only [Bool.or_eq_true, Bool.and_eq_true, beq_iff_eq] at h1
  omega
theorem Way.back {t : Topo} (ht : (topoWrong t).1 = 0) {a b : Int} (h : Way t a b) : Way t b a := by
  induction h with
  | refl => exact .refl _
  | step _ hc h0 h1 ih =>
    have hr := cost_range2 ht hc
    exact Way.trans (.step (.refl _) (by rwa [cost_symm]) hr.1.1 hr.1.2) ih
end Go.St
