/-
  Sorting by blocks, plainly.
-/
import Derived.Test.YtcfcdembhjnjfaaRuleS
set_option linter.unusedSimpArgs false
set_option linter.unusedVariables false
namespace Go.St
variable {α : Type} {lt : α → α → Bool}

/-- sorted blocks of k, the last one perhaps shorter -/
inductive Bk (lt : α → α → Bool) (k : Nat) : List α → Prop
  | last {l : List α} : l.length ≤ k → Srt lt l → Bk lt k l
  | cons {u v : List α} : u.length = k → Srt lt u → Bk lt k v → Bk lt k (u ++ v)
/-- whole blocks alone -/
inductive BkF (lt : α → α → Bool) (k : Nat) : List α → Prop
  | nil : BkF lt k []
  | snoc {u v : List α} : BkF lt k u → v.length = k → Srt lt v → BkF lt k (u ++ v)
theorem BkF.to {k : Nat} {u : List α} (h : BkF lt k u) : ∀ {v : List α}, Bk lt k v → Bk lt k (u ++ v) := by
  induction h with
  | nil => intro v h; exact h
  | snoc _ h2 h3 ih => intro v h; rw [List.append_assoc]; exact ih (.cons h2 h3 h)
theorem Bk.two {k : Nat} (hk : 0 < k) {r : List α} (h : Bk lt k r) (hl : 2 * k ≤ r.length) : ∃ u v s, r = u ++ (v ++ s) ∧ u.length = k ∧ v.length = k ∧ Srt lt u ∧ Srt lt v ∧ Bk lt k s := by
  cases h with
  | last h1 h2 => omega
  | cons h1 h2 h3 =>
    rename_i u v
    rw [List.length_append] at hl
    cases h3 with
    | last g1 g2 => exact ⟨u, v, [], by simp, h1, by omega, h2, g2, .last (Nat.zero_le _) Srt.nil⟩
    | cons g1 g2 g3 => exact ⟨u, _, _, rfl, h1, g1, h2, g2, g3⟩
theorem Bk.rest {k : Nat} {r : List α} (h : Bk lt k r) (hl : r.length < 2 * k) (hl2 : k < r.length) : ∃ u v, r = u ++ v ∧ u.length = k ∧ Srt lt u ∧ Srt lt v := by
  cases h with
  | last h1 h2 => omega
  | cons h1 h2 h3 =>
    rename_i u v
    rw [List.length_append] at hl
    cases h3 with
    | last g1 g2 => exact ⟨u, v, rfl, h1, h2, g2⟩
    | cons g1 g2 g3 => rw [List.length_append] at hl; omega
theorem Bk.one {k : Nat} {r : List α} (h : Bk lt k r) (hl : r.length ≤ k) : Srt lt r := by
  cases h with
  | last h1 h2 => exact h2
  | cons h1 h2 h3 =>
    rename_i u v
    rw [List.length_append] at hl
    obtain rfl : v = [] := List.eq_nil_of_length_eq_zero (by omega)
    rw [List.append_nil]; exact h2

/-- blocks of twenty: as far as a -/
def StI (lt : α → α → Bool) (xs : List α) (a : Nat) (ys : List α) : Prop := ∃ d r, ys = d ++ r ∧ xs = xs.take a ++ r ∧ d.length = a ∧ BkF lt 20 d ∧ Stab lt (xs.take a) d
theorem StI.zero (xs : List α) : StI lt xs 0 xs := ⟨[], xs, rfl, by simp, rfl, .nil, Stab.refl _⟩
theorem StI.len {xs ys : List α} {a : Nat} (h : StI lt xs a ys) (ha : a ≤ xs.length) : ys.length = xs.length := by
  obtain ⟨d, r, rfl, h2, h3, _⟩ := h
  have := congrArg List.length h2
  simp only [List.length_append, List.length_take] at *; omega
theorem StI.parts {xs ys : List α} {a : Nat} (h : StI lt xs a ys) {b : Nat} (hab : a ≤ b) (hb : b ≤ xs.length) : ∃ p u s, ys = p ++ (u ++ s) ∧ p.length = a ∧ a + u.length = b ∧ (∀ v, v.length = u.length → Srt lt v → Stab lt u v → b = a + 20 → StI lt xs b (p ++ (v ++ s))) ∧
    (∀ v, v.length = u.length → Srt lt v → Stab lt u v → b < a + 20 → b = xs.length → Bk lt 20 (p ++ (v ++ s)) ∧ Stab lt xs (p ++ (v ++ s))) := by
  obtain ⟨d, r, rfl, h2, h3, h4, h5⟩ := h
  have hr : a + r.length = xs.length := by have := congrArg List.length h2; simp only [List.length_append, List.length_take] at this; omega
  have hrd : r = xs.drop a := by
    have h6 : xs.take a ++ xs.drop a = xs.take a ++ r := by rw [List.take_append_drop]; exact h2
    exact (List.append_cancel_left h6).symm
  refine ⟨d, r.take (b - a), r.drop (b - a), by rw [List.take_append_drop], h3, by simp; omega, ?_, ?_⟩
  · intro v hv hs hst hba
    have ht : xs.take b = xs.take a ++ r.take (b - a) := by
      rw [hrd, ← List.take_add]; congr 1; omega
    refine ⟨d ++ v, r.drop (b - a), by rw [List.append_assoc], ?_, ?_, h4.snoc ?_ hs, ?_⟩
    · rw [ht, List.append_assoc, List.take_append_drop]; exact h2
    · rw [List.length_append, hv]; simp; omega
    · rw [hv]; simp; omega
    · rw [ht]; exact h5.append hst
  · intro v hv hs hst hba hbn
    have hd : r.drop (b - a) = [] := List.drop_of_length_le (by omega)
    have htk : r.take (b - a) = r := List.take_of_length_le (by omega)
    rw [hd, List.append_nil]
    rw [htk] at hst hv
    refine ⟨h4.to (.last (by omega) hs), ?_⟩
    rw [h2]; exact h5.append hst

/-- merged as far as a, to blocks of twice the size -/
def StM (lt : α → α → Bool) (xs : List α) (k a : Nat) (ys : List α) : Prop := ∃ d r, ys = d ++ r ∧ d.length = a ∧ BkF lt (2 * k) d ∧ Bk lt k r ∧ Stab lt xs ys
theorem StM.zero {xs ys : List α} {k : Nat} (h : Bk lt k ys) (hs : Stab lt xs ys) : StM lt xs k 0 ys := ⟨[], ys, rfl, rfl, .nil, h, hs⟩
theorem StM.two {xs ys : List α} {k a : Nat} (h : StM lt xs k a ys) (hk : 0 < k) (hl : a + 2 * k ≤ ys.length) : ∃ p u v s, ys = p ++ (u ++ (v ++ s)) ∧ p.length = a ∧ u.length = k ∧ v.length = k ∧ Srt lt u ∧ Srt lt v ∧
    (∀ z, z.length = u.length + v.length → Srt lt z → Stab lt (u ++ v) z → StM lt xs k (a + 2 * k) (p ++ (z ++ s))) := by
  obtain ⟨d, r, rfl, h2, h3, h4, h5⟩ := h
  rw [List.length_append] at hl
  obtain ⟨u, v, s, rfl, g1, g2, g3, g4, g5⟩ := h4.two hk (by omega)
  refine ⟨d, u, v, s, rfl, h2, g1, g2, g3, g4, fun z z1 z2 z3 => ⟨d ++ z, s, by rw [List.append_assoc], by rw [List.length_append]; omega, h3.snoc (by omega) z2, g5, ?_⟩⟩
  refine h5.trans ?_
  have := Stab.mid z3 d s
  simpa only [List.append_assoc] using this
theorem StM.last {xs ys : List α} {k a : Nat} (h : StM lt xs k a ys) (hl : ys.length < a + 2 * k) (hl2 : a + k < ys.length) : ∃ p u v, ys = p ++ (u ++ (v ++ [])) ∧ p.length = a ∧ u.length = k ∧ Srt lt u ∧ Srt lt v ∧
    (∀ z, z.length = u.length + v.length → Srt lt z → Stab lt (u ++ v) z → Bk lt (2 * k) (p ++ (z ++ [])) ∧ Stab lt xs (p ++ (z ++ []))) := by
  obtain ⟨d, r, rfl, h2, h3, h4, h5⟩ := h
  rw [List.length_append] at hl hl2
  obtain ⟨u, v, rfl, g1, g2, g3⟩ := h4.rest (by omega) (by omega)
  refine ⟨d, u, v, by simp, h2, g1, g2, g3, fun z z1 z2 z3 => ?_⟩
  rw [List.length_append] at hl
  rw [List.append_nil]
  refine ⟨h3.to (.last (by omega) z2), h5.trans ((Stab.refl d).append z3)⟩
theorem StM.none {xs ys : List α} {k a : Nat} (h : StM lt xs k a ys) (hl : ys.length ≤ a + k) : Bk lt (2 * k) ys ∧ Stab lt xs ys := by
  obtain ⟨d, r, rfl, h2, h3, h4, h5⟩ := h
  rw [List.length_append] at hl
  exact ⟨h3.to (.last (by omega) (h4.one (by omega))), h5⟩
theorem Bk.done (W : Weak lt) {xs ys : List α} {k : Nat} (h : Bk lt k ys) (hs : Stab lt xs ys) (hl : ys.length ≤ k) : ys = ssort lt xs := ssort_eq W hs (h.one hl)
/-- lengths stay -/
theorem ins_len (x : α) : ∀ s : List α, (ins lt x s).length = s.length + 1
  | [] => rfl
  | y :: ys => by unfold ins; split <;> simp [ins_len x ys]
theorem ssort_len (xs : List α) : (ssort lt xs).length = xs.length := by
  have : ∀ (l s : List α), (l.foldl (fun s x => ins lt x s) s).length = s.length + l.length := by
    intro l
    induction l with
    | nil => intro s; rfl
    | cons x xs ih => intro s; rw [List.foldl_cons, ih, ins_len]; simp; omega
  unfold ssort; rw [this]; simp
end Go.St
