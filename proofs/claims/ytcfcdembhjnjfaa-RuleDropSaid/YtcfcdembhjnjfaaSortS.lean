/-
  Stable sorting of lists, plainly: rearrangements that keep each class in its order.
-/
import Derived.Test.YtcfcdembhjnjfaaRep
set_option linter.unusedSimpArgs false
set_option linter.unusedVariables false
namespace Go.St

/-- an order up to classes -/
structure Weak {α : Type} (lt : α → α → Bool) : Prop where
  irr : ∀ a, lt a a = false
  tra : ∀ {a b c}, lt a b = true → lt b c = true → lt a c = true
  neg : ∀ {a b c}, lt a b = false → lt b c = false → lt a c = false

variable {α : Type} {lt : α → α → Bool}

def eqv (lt : α → α → Bool) (r x : α) : Bool := !lt r x && !lt x r
theorem eqv_iff {r x : α} : eqv lt r x = true ↔ lt r x = false ∧ lt x r = false := by simp [eqv]
/-- each class in its old order -/
def Stab (lt : α → α → Bool) (xs ys : List α) : Prop := ∀ r, ys.filter (eqv lt r) = xs.filter (eqv lt r)
/-- sorted -/
def Srt (lt : α → α → Bool) (xs : List α) : Prop := xs.Pairwise fun a b => lt b a = false

theorem Stab.refl (xs : List α) : Stab lt xs xs := fun _ => rfl
theorem Stab.trans {xs ys zs : List α} (h : Stab lt xs ys) (g : Stab lt ys zs) : Stab lt xs zs := fun r => (g r).trans (h r)
theorem Stab.append {xs ys us vs : List α} (h : Stab lt xs ys) (g : Stab lt us vs) : Stab lt (xs ++ us) (ys ++ vs) := fun r => by
  rw [List.filter_append, List.filter_append, h r, g r]
theorem Stab.mid {u w : List α} (h : Stab lt u w) (p s : List α) : Stab lt (p ++ u ++ s) (p ++ w ++ s) := ((Stab.refl p).append h).append (Stab.refl s)
theorem eqv_trans (W : Weak lt) {r x y : α} (h : eqv lt r x = true) (g : eqv lt r y = true) : lt x y = false :=
  W.neg (eqv_iff.1 h).2 (eqv_iff.1 g).1
theorem Stab.mem (W : Weak lt) {xs ys : List α} (h : Stab lt xs ys) {x : α} : x ∈ ys ↔ x ∈ xs := by
  have hx : eqv lt x x = true := eqv_iff.2 ⟨W.irr x, W.irr x⟩
  have : x ∈ ys.filter (eqv lt x) ↔ x ∈ xs.filter (eqv lt x) := by rw [h x]
  simpa [List.mem_filter, hx] using this
/-- one behind the other, where all of the second are less -/
theorem Stab.swap (W : Weak lt) {u v : List α} (h : ∀ x ∈ u, ∀ y ∈ v, lt y x = true) : Stab lt (u ++ v) (v ++ u) := fun r => by
  rw [List.filter_append, List.filter_append]
  by_cases hu : u.filter (eqv lt r) = []
  · rw [hu]; simp
  · have hv : v.filter (eqv lt r) = [] := by
      rw [List.filter_eq_nil_iff]
      intro y hy hyr
      obtain ⟨x, hx⟩ := List.exists_mem_of_ne_nil _ hu
      obtain ⟨hx1, hx2⟩ := List.mem_filter.1 hx
      have := eqv_trans W hyr hx2
      rw [h x hx1 y hy] at this; exact absurd this (by decide)
    rw [hv]; simp

theorem Srt.nil : Srt lt ([] : List α) := List.Pairwise.nil
theorem Srt.one (x : α) : Srt lt [x] := List.pairwise_singleton _ _
theorem Srt.append {u v : List α} : Srt lt (u ++ v) ↔ Srt lt u ∧ Srt lt v ∧ ∀ x ∈ u, ∀ y ∈ v, lt y x = false := List.pairwise_append

/-- there is one such list alone -/
theorem Stab.uniq (W : Weak lt) : ∀ {ys zs : List α}, Stab lt ys zs → Srt lt ys → Srt lt zs → ys = zs
  | [], zs, h, _, _ => by
    cases zs with
    | nil => rfl
    | cons z zs => exact absurd ((h.mem W).1 (List.mem_cons_self ..)) (by simp)
  | y :: ys, zs, h, h1, h2 => by
    cases zs with
    | nil => exact absurd ((h.mem W).2 (List.mem_cons_self ..)) (by simp)
    | cons z zs =>
      have a1 := (List.pairwise_cons.1 h1).1
      have a2 := (List.pairwise_cons.1 h2).1
      have hzy : lt z y = false := by
        rcases List.mem_cons.1 ((h.mem W).2 (List.mem_cons_self (a := y))) with e | e
        · subst e; exact W.irr _
        · exact (fun hh => hh) (by
            have := a2 y e
            rcases List.mem_cons.1 ((h.mem W).1 (List.mem_cons_self (a := z))) with e' | e'
            · subst e'; exact W.irr _
            · exact a1 z e')
      have hyz : lt y z = false := by
        rcases List.mem_cons.1 ((h.mem W).2 (List.mem_cons_self (a := y))) with e | e
        · subst e; exact W.irr _
        · exact a2 y e
      have hy : eqv lt y y = true := eqv_iff.2 ⟨W.irr y, W.irr y⟩
      have hz : eqv lt y z = true := eqv_iff.2 ⟨hyz, hzy⟩
      have e0 := h y
      rw [List.filter_cons_of_pos hz, List.filter_cons_of_pos hy] at e0
      have e1 : z = y := (List.cons.inj e0).1
      subst e1
      have ht : Stab lt ys zs := fun r => by
        have := h r
        by_cases hr : eqv lt r z = true
        · rw [List.filter_cons_of_pos hr, List.filter_cons_of_pos hr] at this; exact (List.cons.inj this).2
        · rw [List.filter_cons_of_neg hr, List.filter_cons_of_neg hr] at this; exact this
      rw [ht.uniq W (List.pairwise_cons.1 h1).2 (List.pairwise_cons.1 h2).2]

/-- the spec: x comes behind all that are not greater -/
def ins (lt : α → α → Bool) (x : α) : List α → List α
  | [] => [x]
  | y :: ys => if lt x y then x :: y :: ys else y :: ins lt x ys
theorem ins_mem {x z : α} : ∀ {ys : List α}, z ∈ ins lt x ys ↔ z = x ∨ z ∈ ys
  | [] => by simp [ins]
  | y :: ys => by
    unfold ins; split
    · simp
    · simp only [List.mem_cons, ins_mem (ys := ys)]
      constructor
      · rintro (h | h | h) <;> simp [h]
      · rintro (h | h | h) <;> simp [h]
theorem ins_srt (W : Weak lt) {x : α} : ∀ {ys : List α}, Srt lt ys → Srt lt (ins lt x ys)
  | [], _ => Srt.one x
  | y :: ys, h => by
    obtain ⟨h1, h2⟩ := List.pairwise_cons.1 h
    unfold ins; split
    case isTrue hx =>
      refine List.pairwise_cons.2 ⟨fun z hz => ?_, h⟩
      have hyx : lt y x = false := by
        cases hh : lt y x with
        | false => rfl
        | true => have := W.tra hx hh; rw [W.irr] at this; exact absurd this (by decide)
      rcases List.mem_cons.1 hz with rfl | hz
      · exact hyx
      · exact W.neg (h1 z hz) hyx
    case isFalse hx =>
      refine List.pairwise_cons.2 ⟨fun z hz => ?_, ins_srt W h2⟩
      rcases ins_mem.1 hz with rfl | hz
      · simpa using hx
      · exact h1 z hz
theorem ins_stab (W : Weak lt) {x : α} : ∀ {ys : List α}, Srt lt ys → Stab lt (ys ++ [x]) (ins lt x ys)
  | [], _ => Stab.refl _
  | y :: ys, h => by
    obtain ⟨h1, h2⟩ := List.pairwise_cons.1 h
    unfold ins; split
    case isTrue hx =>
      refine Stab.swap W (u := y :: ys) (v := [x]) fun a ha b hb => ?_
      obtain rfl : b = x := by simpa using hb
      rcases List.mem_cons.1 ha with rfl | ha
      · exact hx
      · cases hh : lt b a with
        | true => rfl
        | false => have := W.neg hh (h1 a ha); rw [hx] at this; exact absurd this (by decide)
    case isFalse hx => exact (Stab.refl [y]).append (ins_stab W h2)
/-- stable sorting -/
def ssort (lt : α → α → Bool) (xs : List α) : List α := xs.foldl (fun s x => ins lt x s) []
theorem ssort_go (W : Weak lt) : ∀ (xs s : List α), Srt lt s → Srt lt (xs.foldl (fun s x => ins lt x s) s) ∧ Stab lt (s ++ xs) (xs.foldl (fun s x => ins lt x s) s)
  | [], s, h => ⟨h, by rw [List.append_nil]; exact Stab.refl _⟩
  | x :: xs, s, h => by
    obtain ⟨h1, h2⟩ := ssort_go W xs (ins lt x s) (ins_srt W h)
    refine ⟨h1, fun r => ?_⟩
    rw [List.foldl_cons, h2 r, List.filter_append, ins_stab W h r]
    simp [List.filter_append, List.append_assoc, List.filter_cons]
    split <;> simp
theorem ssort_srt (W : Weak lt) (xs : List α) : Srt lt (ssort lt xs) := (ssort_go W xs [] Srt.nil).1
theorem ssort_stab (W : Weak lt) (xs : List α) : Stab lt xs (ssort lt xs) := (ssort_go W xs [] Srt.nil).2
/-- what is sorted and stable is that -/
theorem ssort_eq (W : Weak lt) {xs ys : List α} (h : Stab lt xs ys) (hs : Srt lt ys) : ys = ssort lt xs :=
  Stab.uniq W (Stab.trans (fun r => (h r).symm) (ssort_stab W xs)) hs (ssort_srt W xs)
theorem ssort_append (W : Weak lt) (xs ys : List α) : ssort lt (xs ++ ys) = ys.foldl (fun s x => ins lt x s) (ssort lt xs) := List.foldl_append ..
theorem ssort_sorted (W : Weak lt) {xs : List α} (h : Srt lt xs) : ssort lt xs = xs := (ssort_eq W (Stab.refl xs) h).symm
end Go.St
