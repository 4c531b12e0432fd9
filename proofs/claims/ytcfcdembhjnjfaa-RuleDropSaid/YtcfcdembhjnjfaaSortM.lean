/-
  Merging in place, plainly.
-/
import Derived.Test.YtcfcdembhjnjfaaSortS
set_option linter.unusedSimpArgs false
set_option linter.unusedVariables false
namespace Go.St
variable {α : Type} {lt : α → α → Bool}

theorem Weak.not_rev (W : Weak lt) {a b : α} (h : lt a b = true) : lt b a = false := by
  cases hh : lt b a with
  | false => rfl
  | true => have := W.tra h hh; rw [W.irr] at this; exact absurd this (by decide)
theorem Weak.lt_le (W : Weak lt) {a b c : α} (h : lt a b = true) (g : lt c b = false) : lt a c = true := by
  cases hh : lt a c with
  | true => rfl
  | false => have := W.neg hh g; rw [h] at this; exact absurd this (by decide)
theorem Weak.le_lt (W : Weak lt) {a b c : α} (h : lt b a = false) (g : lt b c = true) : lt a c = true := by
  cases hh : lt a c with
  | true => rfl
  | false => have := W.neg h hh; rw [g] at this; exact absurd this (by decide)

/-- four parts, the middle ones exchanged, each half then sorted -/
theorem merge_parts (W : Weak lt) {u1 u2 v1 v2 w1 w2 : List α} (hu : Srt lt (u1 ++ u2)) (hv : Srt lt (v1 ++ v2)) (h1 : ∀ x ∈ u1, ∀ y ∈ v2, lt y x = false) (h2 : ∀ x ∈ u2, ∀ y ∈ v1, lt y x = true)
    (s1 : Stab lt (u1 ++ v1) w1) (s2 : Stab lt (u2 ++ v2) w2) (o1 : Srt lt w1) (o2 : Srt lt w2) : Stab lt ((u1 ++ u2) ++ (v1 ++ v2)) (w1 ++ w2) ∧ Srt lt (w1 ++ w2) := by
  obtain ⟨_, _, hu3⟩ := Srt.append.1 hu
  obtain ⟨_, _, hv3⟩ := Srt.append.1 hv
  constructor
  · have a1 : Stab lt (u1 ++ (u2 ++ v1) ++ v2) (u1 ++ (v1 ++ u2) ++ v2) := Stab.mid (Stab.swap W h2) _ _
    have a2 : Stab lt ((u1 ++ v1) ++ (u2 ++ v2)) (w1 ++ w2) := s1.append s2
    have e1 : (u1 ++ u2) ++ (v1 ++ v2) = u1 ++ (u2 ++ v1) ++ v2 := by simp
    have e2 : (u1 ++ v1) ++ (u2 ++ v2) = u1 ++ (v1 ++ u2) ++ v2 := by simp
    rw [e1]; rw [e2] at a2; exact a1.trans a2
  · refine Srt.append.2 ⟨o1, o2, fun x hx y hy => ?_⟩
    rcases List.mem_append.1 ((s1.mem W).1 hx) with hx | hx <;> rcases List.mem_append.1 ((s2.mem W).1 hy) with hy | hy
    · exact hu3 x hx y hy
    · exact h1 x hx y hy
    · exact W.not_rev (h2 y hy x hx)
    · exact hv3 x hx y hy

/-- from the bounds' neighbours to all -/
theorem le_cross (W : Weak lt) {u v : List α} (hu : Srt lt u) (hv : Srt lt v) (h : ∀ x y, u.getLast? = some x → v.head? = some y → lt y x = false) : ∀ x ∈ u, ∀ y ∈ v, lt y x = false := by
  intro x hx y hy
  obtain ⟨v0, vs, rfl⟩ : ∃ v0 vs, v = v0 :: vs := by cases v with | nil => simp at hy | cons a b => exact ⟨_, _, rfl⟩
  obtain ⟨us, ul, rfl⟩ : ∃ us ul, u = us ++ [ul] := by
    rcases List.eq_nil_or_concat u with e | ⟨us, ul, e⟩
    · subst e; simp at hx
    · exact ⟨us, ul, by rw [e]; simp⟩
  have h0 := h ul v0 (by simp) (by simp)
  have hxl : lt ul x = false := by
    rcases List.mem_append.1 hx with hx | hx
    · exact (Srt.append.1 hu).2.2 x hx ul (by simp)
    · obtain rfl : x = ul := by simpa using hx
      exact W.irr _
  have hyv : lt y v0 = false := by
    rcases List.mem_cons.1 hy with rfl | hy
    · exact W.irr _
    · exact (List.pairwise_cons.1 hv).1 y hy
  exact W.neg hyv (W.neg h0 hxl)
theorem lt_cross (W : Weak lt) {u v : List α} (hu : Srt lt u) (hv : Srt lt v) (h : ∀ x y, u.head? = some x → v.getLast? = some y → lt y x = true) : ∀ x ∈ u, ∀ y ∈ v, lt y x = true := by
  intro x hx y hy
  obtain ⟨u0, us, rfl⟩ : ∃ v0 vs, u = v0 :: vs := by cases u with | nil => simp at hx | cons a b => exact ⟨_, _, rfl⟩
  obtain ⟨vs, vl, rfl⟩ : ∃ us ul, v = us ++ [ul] := by
    rcases List.eq_nil_or_concat v with e | ⟨us, ul, e⟩
    · subst e; simp at hy
    · exact ⟨us, ul, by rw [e]; simp⟩
  have h0 := h u0 vl (by simp) (by simp)
  have hyl : lt vl y = false := by
    rcases List.mem_append.1 hy with hy | hy
    · exact (Srt.append.1 hv).2.2 y hy vl (by simp)
    · obtain rfl : y = vl := by simpa using hy
      exact W.irr _
  have hxu : lt x u0 = false := by
    rcases List.mem_cons.1 hx with rfl | hx
    · exact W.irr _
    · exact (List.pairwise_cons.1 hu).1 x hx
  exact W.lt_le (W.le_lt hyl h0) hxu

/-- one that comes into a sorted list -/
theorem merge_left (W : Weak lt) {x : α} {v1 v2 : List α} (hv : Srt lt (v1 ++ v2)) (h1 : ∀ y ∈ v1, lt y x = true) (h2 : ∀ y ∈ v2, lt y x = false) : Stab lt ([x] ++ (v1 ++ v2)) (v1 ++ ([x] ++ v2)) ∧ Srt lt (v1 ++ ([x] ++ v2)) := by
  obtain ⟨o1, o2, _⟩ := Srt.append.1 hv
  exact merge_parts W (u1 := []) (u2 := [x]) (v1 := v1) (v2 := v2) (w1 := v1) (w2 := [x] ++ v2) (Srt.one x) hv (by simp) (by simpa using h1) (Stab.refl _) (Stab.refl _) o1 (Srt.append.2 ⟨Srt.one x, o2, by simpa using h2⟩)
theorem merge_right (W : Weak lt) {y : α} {u1 u2 : List α} (hu : Srt lt (u1 ++ u2)) (h1 : ∀ x ∈ u1, lt y x = false) (h2 : ∀ x ∈ u2, lt y x = true) : Stab lt ((u1 ++ u2) ++ [y]) ((u1 ++ [y]) ++ u2) ∧ Srt lt ((u1 ++ [y]) ++ u2) := by
  obtain ⟨o1, o2, _⟩ := Srt.append.1 hu
  have := merge_parts W (u1 := u1) (u2 := u2) (v1 := [y]) (v2 := []) (w1 := u1 ++ [y]) (w2 := u2) hu (Srt.one y) (by simp) (by simpa using h2) (Stab.refl _) (by rw [List.append_nil]; exact Stab.refl _) (Srt.append.2 ⟨o1, Srt.one y, by simpa using h1⟩) o2
  simpa using this
end Go.St
