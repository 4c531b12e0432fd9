/-
  More rules in a table, plainly.
-/
import Derived.Test.YtcfcdembhjnjfaaRuleS
set_option linter.unusedSimpArgs false
set_option linter.unusedVariables false
namespace Go.St

/-- what differs from the one ahead of it -/
def compGo : Rule → List Rule → List Rule
  | _, [] => []
  | p, r :: l => if r = p then compGo r l else r :: compGo r l
def comp : List Rule → List Rule
  | [] => []
  | r :: l => r :: compGo r l
theorem compGo_sub : ∀ (l : List Rule) (p : Rule), (compGo p l).Sublist l
  | [], _ => List.Sublist.slnil
  | r :: l, p => by
    rw [compGo]; split
    · exact (compGo_sub l r).cons r
    · exact (compGo_sub l r).cons_cons r
theorem comp_sub : ∀ l : List Rule, (comp l).Sublist l
  | [] => List.Sublist.slnil
  | r :: l => (compGo_sub l r).cons_cons r
theorem compGo_mem : ∀ (l : List Rule) (p x : Rule), x ∈ l → x = p ∨ x ∈ compGo p l
  | [], _, _, h => by simp at h
  | r :: l, p, x, h => by
    rw [compGo]
    rcases List.mem_cons.1 h with rfl | h
    · by_cases e : x = p
      · exact .inl e
      · rw [if_neg e]; exact .inr (by simp)
    · rcases compGo_mem l r x h with rfl | h'
      · by_cases e : x = p
        · exact .inl e
        · rw [if_neg e]; exact .inr (by simp)
      · right; split
        · exact h'
        · exact List.mem_cons_of_mem _ h'
theorem comp_mem (l : List Rule) (x : Rule) : x ∈ comp l ↔ x ∈ l := by
  constructor
  · exact fun h => (comp_sub l).subset h
  · intro h
    cases l with
    | nil => simp at h
    | cons r l =>
      rcases List.mem_cons.1 h with rfl | h
      · simp [comp]
      · rcases compGo_mem l r x h with rfl | h'
        · simp [comp]
        · exact List.mem_cons_of_mem _ h'
/-- sorted, and alike in each class: then it rises -/
theorem compGo_up : ∀ (l : List Rule) (p : Rule), Srt ruleLt (p :: l) → (∀ a ∈ p :: l, ∀ b ∈ p :: l, ruleLt a b = false → ruleLt b a = false → a = b) → (p :: compGo p l).Pairwise (fun a b => ruleLt a b = true)
  | [], p, _, _ => by simp [compGo]
  | r :: l, p, h, hc => by
    obtain ⟨h1, h2⟩ := List.pairwise_cons.1 h
    have ih := compGo_up l r h2 fun a ha b hb => hc a (List.mem_cons_of_mem _ ha) b (List.mem_cons_of_mem _ hb)
    rw [compGo]
    by_cases e : r = p
    · rw [if_pos e]; subst e; exact ih
    · rw [if_neg e]
      have hpr : ruleLt p r = true := by
        cases hh : ruleLt p r with
        | true => rfl
        | false => exact absurd (hc r (by simp) p (by simp) (h1 r (by simp)) hh) e
      refine List.pairwise_cons.2 ⟨fun x hx => ?_, ih⟩
      rcases List.mem_cons.1 hx with rfl | hx
      · exact hpr
      · exact ruleLt_weak.tra hpr ((List.pairwise_cons.1 ih).1 x hx)
theorem comp_up (l : List Rule) (h : Srt ruleLt l) (hc : ∀ a ∈ l, ∀ b ∈ l, ruleLt a b = false → ruleLt b a = false → a = b) : (comp l).Pairwise (fun a b => ruleLt a b = true) := by
  cases l with
  | nil => exact List.Pairwise.nil
  | cons r l => exact compGo_up l r h hc

def outOf (l more : List Rule) : List Rule := comp (ssort ruleLt (l ++ more))
def addOf (l more : List Rule) : List Rule × Int :=
  if (tabWrong l).1 ≠ 0 then ([], (tabWrong l).1) else if (tabWrong (outOf l more)).1 ≠ 0 then ([], (tabWrong (outOf l more)).1) else (outOf l more, 0)
theorem add_bad {l more : List Rule} (h : (addOf l more).2 ≠ 0) : (addOf l more).1 = [] := by
  unfold addOf at *
  by_cases h1 : (tabWrong l).1 ≠ 0
  · rw [if_pos h1]
  rw [if_neg h1] at h ⊢
  by_cases h2 : (tabWrong (outOf l more)).1 ≠ 0
  · rw [if_pos h2]
  · rw [if_neg h2] at h; exact absurd rfl h
theorem add_good {l more : List Rule} (h : (addOf l more).2 = 0) : (addOf l more).1 = outOf l more ∧ TabOk l ∧ TabOk (outOf l more) := by
  unfold addOf at *
  by_cases h1 : (tabWrong l).1 ≠ 0
  · rw [if_pos h1] at h; exact absurd h h1
  rw [if_neg h1] at h ⊢
  by_cases h2 : (tabWrong (outOf l more)).1 ≠ 0
  · rw [if_pos h2] at h; exact absurd h h2
  · rw [if_neg h2]; exact ⟨rfl, tab_ok.1 (by simpa using h1), tab_ok.1 (by simpa using h2)⟩
theorem out_mem (l more : List Rule) (x : Rule) : x ∈ outOf l more ↔ x ∈ l ∨ x ∈ more := by
  unfold outOf
  rw [comp_mem, (ssort_stab ruleLt_weak (l ++ more)).mem ruleLt_weak, List.mem_append]
theorem out_len (l more : List Rule) : (outOf l more).length ≤ l.length + more.length := by
  have h1 := (comp_sub (ssort ruleLt (l ++ more))).length_le
  have h2 : ∀ (xs s : List Rule), (xs.foldl (fun s x => ins ruleLt x s) s).length = s.length + xs.length := by
    have hi : ∀ (x : Rule) (s : List Rule), (ins ruleLt x s).length = s.length + 1 := by
      intro x s
      induction s with
      | nil => rfl
      | cons y ys ih => unfold ins; split <;> simp [ih]
    intro xs
    induction xs with
    | nil => intro s; rfl
    | cons x xs ih => intro s; rw [List.foldl_cons, ih, hi]; simp; omega
  have h3 : (ssort ruleLt (l ++ more)).length = (l ++ more).length := by unfold ssort; rw [h2]; simp
  rw [h3, List.length_append] at h1
  exact h1
/-- one of each class alone -/
theorem up_one {m : List Rule} (h : m.Pairwise fun a b => ruleLt a b = true) {a b : Rule} (ha : a ∈ m) (hb : b ∈ m) (h1 : ruleLt a b = false) (h2 : ruleLt b a = false) : a = b := by
  induction m with
  | nil => simp at ha
  | cons x m ih =>
    obtain ⟨g1, g2⟩ := List.pairwise_cons.1 h
    rcases List.mem_cons.1 ha with ea | ha' <;> rcases List.mem_cons.1 hb with eb | hb'
    · rw [ea, eb]
    · rw [ea, g1 b hb'] at h1; exact absurd h1 (by decide)
    · rw [eb, g1 a ha'] at h2; exact absurd h2 (by decide)
    · exact ih g2 ha' hb'
theorem up_next {m : List Rule} (h : m.Pairwise fun a b => ruleLt a b = true) {r : Rule} (hr : r ∈ m) : nextOf m r.ver r.flow = (r.next, true) := by
  unfold nextOf
  cases hf : m.find? (fun x => x.ver == r.ver && x.flow == r.flow) with
  | none =>
    have := List.find?_eq_none.1 hf r hr
    simp at this
  | some x =>
    have h1 := List.find?_some hf
    have h2 := List.mem_of_find?_eq_some hf
    simp at h1
    have : x = r := up_one h h2 hr (by rw [ruleLt_not]; omega) (by rw [ruleLt_not]; omega)
    subst this; rfl
/-- two that rise, with the same members, are one -/
theorem up_ext : ∀ {a b : List Rule}, a.Pairwise (fun x y => ruleLt x y = true) → b.Pairwise (fun x y => ruleLt x y = true) → (∀ x, x ∈ a ↔ x ∈ b) → a = b
  | [], b, _, _, h => by
    cases b with
    | nil => rfl
    | cons y b => exact absurd ((h y).2 (by simp)) (by simp)
  | x :: a, b, h1, h2, h => by
    cases b with
    | nil => exact absurd ((h x).1 (by simp)) (by simp)
    | cons y b =>
      obtain ⟨a1, a2⟩ := List.pairwise_cons.1 h1
      obtain ⟨b1, b2⟩ := List.pairwise_cons.1 h2
      have e : x = y := by
        rcases List.mem_cons.1 ((h x).1 (by simp)) with e | hx
        · exact e
        rcases List.mem_cons.1 ((h y).2 (by simp)) with e | hy
        · exact e.symm
        have g1 := b1 x hx
        have g2 := ruleLt_weak.tra g1 (a1 y hy)
        rw [ruleLt_weak.irr] at g2; exact absurd g2 (by decide)
      subst e
      congr 1
      refine up_ext a2 b2 fun z => ?_
      have hz := h z
      simp only [List.mem_cons] at hz
      constructor
      · intro hza
        rcases hz.1 (.inr hza) with rfl | hzb
        · have := a1 z hza; rw [ruleLt_weak.irr] at this; exact absurd this (by decide)
        · exact hzb
      · intro hzb
        rcases hz.2 (.inr hzb) with rfl | hza
        · have := b1 z hzb; rw [ruleLt_weak.irr] at this; exact absurd this (by decide)
        · exact hza
/-- added again it is the same -/
theorem add_again {l more : List Rule} (h : (addOf l more).2 = 0) : addOf (outOf l more) more = (outOf l more, 0) := by
  obtain ⟨_, _, hm⟩ := add_good h
  have e : outOf (outOf l more) more = outOf l more := by
    refine up_ext (comp_up _ (ssort_srt ruleLt_weak _) fun a ha b hb h1 h2 => ?_) hm.up fun x => ?_
    · have hs : ∀ x, x ∈ ssort ruleLt (outOf l more ++ more) → x ∈ outOf l more := fun x hx => by
        rw [(ssort_stab ruleLt_weak _).mem ruleLt_weak, List.mem_append] at hx
        rcases hx with hx | hx
        · exact hx
        · exact (out_mem l more x).2 (.inr hx)
      exact up_one hm.up (hs a ha) (hs b hb) h1 h2
    · rw [out_mem, out_mem]
      constructor
      · rintro (h | h)
        · exact h
        · exact .inr h
      · intro h; exact .inl h
  have z := tab_ok.2 hm
  unfold addOf
  rw [e, if_neg (by simp [z]), if_neg (by simp [z])]
end Go.St
