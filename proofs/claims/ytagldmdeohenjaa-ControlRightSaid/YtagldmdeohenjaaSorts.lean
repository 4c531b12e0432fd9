/-
  Stable sorting of lists, plainly: rearrangements that keep each class in its order.
-/
import Derived.Test.YtagldmdeohenjaaRep
import Derived.Test.YtagldmdeohenjaaData
set_option linter.unusedSimpArgs false
set_option linter.unusedVariables false
namespace Go.St

/-- an order up to classes -/
structure Weak {α : Type} (lt : α → α → Bool) : Prop where
  irr : ∀ a, lt a a = false
  tra : ∀ {a b c}, lt a b = true → lt b c = true → lt a c = true
  neg : ∀ {a b c}, lt a b = false → lt b c = false → lt a c = false

variable {α : Type} {lt : α → α → Bool}

def eqv (lt : α → α → Bool) (r x : α) : Bool := !lt r x && !lt x r
theorem eqv_iff {r x : α} : eqv lt r x = true ↔ lt r x = false ∧ lt x r = false := by simp [eqv]
/-- each class in its old order -/
def Stab (lt : α → α → Bool) (xs ys : List α) : Prop := ∀ r, ys.filter (eqv lt r) = xs.filter (eqv lt r)
/-- sorted -/
def Srt (lt : α → α → Bool) (xs : List α) : Prop := xs.Pairwise fun a b => lt b a = false

theorem Stab.refl (xs : List α) : Stab lt xs xs := fun _ => rfl
theorem Stab.trans {xs ys zs : List α} (h : Stab lt xs ys) (g : Stab lt ys zs) : Stab lt xs zs := fun r => (g r).trans (h r)
theorem Stab.append {xs ys us vs : List α} (h : Stab lt xs ys) (g : Stab lt us vs) : Stab lt (xs ++ us) (ys ++ vs) := fun r => by
  rw [List.filter_append, List.filter_append, h r, g r]
theorem Stab.mid {u w : List α} (h : Stab lt u w) (p s : List α) : Stab lt (p ++ u ++ s) (p ++ w ++ s) := ((Stab.refl p).append h).append (Stab.refl s)
theorem eqv_trans (W : Weak lt) {r x y : α} (h : eqv lt r x = true) (g : eqv lt r y = true) : lt x y = false :=
  W.neg (eqv_iff.1 h).2 (eqv_iff.1 g).1
theorem Stab.mem (W : Weak lt) {xs ys : List α} (h : Stab lt xs ys) {x : α} : x ∈ ys ↔ x ∈ xs := by
  have hx : eqv lt x x = true := eqv_iff.2 ⟨W.irr x, W.irr x⟩
  have : x ∈ ys.filter (eqv lt x) ↔ x ∈ xs.filter (eqv lt x) := by rw [h x]
  simpa [List.mem_filter, hx] using this
/-- one behind the other, where all of the second are less -/
theorem Stab.swap (W : Weak lt) {u v : List α} (h : ∀ x ∈ u, ∀ y ∈ v, lt y x = true) : Stab lt (u ++ v) (v ++ u) := fun r => by
  rw [List.filter_append, List.filter_append]
  by_cases hu : u.filter (eqv lt r) = []
  · rw [hu]; simp
  · have hv : v.filter (eqv lt r) = [] := by
      rw [List.filter_eq_nil_iff]
      intro y hy hyr
      obtain ⟨x, hx⟩ := List.exists_mem_of_ne_nil _ hu
      obtain ⟨hx1, hx2⟩ := List.mem_filter.1 hx
      have := eqv_trans W hyr hx2
      rw [h x hx1 y hy] at this; exact absurd this (by decide)
    rw [hv]; simp

theorem Srt.nil : Srt lt ([] : List α) := List.Pairwise.nil
theorem Srt.one (x : α) : Srt lt [x] := List.pairwise_singleton _ _
theorem Srt.append {u v : List α} : Srt lt (u ++ v) ↔ Srt lt u ∧ Srt lt v ∧ ∀ x ∈ u, ∀ y ∈ v, lt y x = false := List.pairwise_append

/-- there is one such list alone -/
theorem Stab.uniq (W : Weak lt) : ∀ {ys zs : List α}, Stab lt ys zs → Srt lt ys → Srt lt zs → ys = zs
  | [], zs, h, _, _ => by
    cases zs with
    | nil => rfl
    | cons z zs => exact absurd ((h.mem W).1 (List.mem_cons_self ..)) (by simp)
  | y :: ys, zs, h, h1, h2 => by
    cases zs with
    | nil => exact absurd ((h.mem W).2 (List.mem_cons_self ..)) (by simp)
    | cons z zs =>
      have a1 := (List.pairwise_cons.1 h1).1
      have a2 := (List.pairwise_cons.1 h2).1
      have hzy : lt z y = false := by
        rcases List.mem_cons.1 ((h.mem W).2 (List.mem_cons_self (a := y))) with e | e
        · subst e; exact W.irr _
        · exact (fun hh => hh) (by
            have := a2 y e
            rcases List.mem_cons.1 ((h.mem W).1 (List.mem_cons_self (a := z))) with e' | e'
            · subst e'; exact W.irr _
            · exact a1 z e')
      have hyz : lt y z = false := by
        rcases List.mem_cons.1 ((h.mem W).2 (List.mem_cons_self (a := y))) with e | e
        · subst e; exact W.irr _
        · exact a2 y e
      have hy : eqv lt y y = true := eqv_iff.2 ⟨W.irr y, W.irr y⟩
      have hz : eqv lt y z = true := eqv_iff.2 ⟨hyz, hzy⟩
      have e0 := h y
      rw [List.filter_cons_of_pos hz, List.filter_cons_of_pos hy] at e0
      have e1 : z = y := (List.cons.inj e0).1
      subst e1
      have ht : Stab lt ys zs := fun r => by
        have := h r
        by_cases hr : eqv lt r z = true
        · rw [List.filter_cons_of_pos hr, List.filter_cons_of_pos hr] at this; exact (List.cons.inj this).2
        · rw [List.filter_cons_of_neg hr, List.filter_cons_of_neg hr] at this; exact this
      rw [ht.uniq W (List.pairwise_cons.1 h1).2 (List.pairwise_cons.1 h2).2]

/-- the spec: x comes behind all that are not greater -/
def ins (lt : α → α → Bool) (x : α) : List α → List α
  | [] => [x]
  | y :: ys => if lt x y then x :: y :: ys else y :: ins lt x ys
theorem ins_mem {x z : α} : ∀ {ys : List α}, z ∈ ins lt x ys ↔ z = x ∨ z ∈ ys
  | [] => by simp [ins]
  | y :: ys => by
    unfold ins; split
    · simp
    · simp only [List.mem_cons, ins_mem (ys := ys)]
      constructor
      · rintro (h | h | h) <;> simp [h]
      · rintro (h | h | h) <;> simp [h]
theorem ins_srt (W : Weak lt) {x : α} : ∀ {ys : List α}, Srt lt ys → Srt lt (ins lt x ys)
  | [], _ => Srt.one x
  | y :: ys, h => by
    obtain ⟨h1, h2⟩ := List.pairwise_cons.1 h
    unfold ins; split
    case isTrue hx =>
      refine List.pairwise_cons.2 ⟨fun z hz => ?_, h⟩
      have hyx : lt y x = false := by
        cases hh : lt y x with
        | false => rfl
        | true => have := W.tra hx hh; rw [W.irr] at this; exact absurd this (by decide)
      rcases List.mem_cons.1 hz with rfl | hz
      · exact hyx
      · exact W.neg (h1 z hz) hyx
    case isFalse hx =>
      refine List.pairwise_cons.2 ⟨fun z hz => ?_, ins_srt W h2⟩
      rcases ins_mem.1 hz with rfl | hz
      · simpa using hx
      · exact h1 z hz
theorem ins_stab (W : Weak lt) {x : α} : ∀ {ys : List α}, Srt lt ys → Stab lt (ys ++ [x]) (ins lt x ys)
  | [], _ => Stab.refl _
  | y :: ys, h => by
    obtain ⟨h1, h2⟩ := List.pairwise_cons.1 h
    unfold ins; split
    case isTrue hx =>
      refine Stab.swap W (u := y :: ys) (v := [x]) fun a ha b hb => ?_
      obtain rfl : b = x := by simpa using hb
      rcases List.mem_cons.1 ha with rfl | ha
      · exact hx
      · cases hh : lt b a with
        | true => rfl
        | false => have := W.neg hh (h1 a ha); rw [hx] at this; exact absurd this (by decide)
    case isFalse hx => exact (Stab.refl [y]).append (ins_stab W h2)
/-- stable sorting -/
def ssort (lt : α → α → Bool) (xs : List α) : List α := xs.foldl (fun s x => ins lt x s) []
theorem ssort_go (W : Weak lt) : ∀ (xs s : List α), Srt lt s → Srt lt (xs.foldl (fun s x => ins lt x s) s) ∧ Stab lt (s ++ xs) (xs.foldl (fun s x => ins lt x s) s)
  | [], s, h => ⟨h, by rw [List.append_nil]; exact Stab.refl _⟩
  | x :: xs, s, h => by
    obtain ⟨h1, h2⟩ := ssort_go W xs (ins lt x s) (ins_srt W h)
    refine ⟨h1, fun r => ?_⟩
    rw [List.foldl_cons, h2 r, List.filter_append, ins_stab W h r]
    simp [List.filter_append, List.append_assoc, List.filter_cons]
    split <;> simp
theorem ssort_srt (W : Weak lt) (xs : List α) : Srt lt (ssort lt xs) := (ssort_go W xs [] Srt.nil).1
theorem ssort_stab (W : Weak lt) (xs : List α) : Stab lt xs (ssort lt xs) := (ssort_go W xs [] Srt.nil).2
/-- what is sorted and stable is that -/
theorem ssort_eq (W : Weak lt) {xs ys : List α} (h : Stab lt xs ys) (hs : Srt lt ys) : ys = ssort lt xs :=
  Stab.uniq W (Stab.trans (fun r => (h r).symm) (ssort_stab W xs)) hs (ssort_srt W xs)
theorem ssort_append (W : Weak lt) (xs ys : List α) : ssort lt (xs ++ ys) = ys.foldl (fun s x => ins lt x s) (ssort lt xs) := List.foldl_append ..
theorem ssort_sorted (W : Weak lt) {xs : List α} (h : Srt lt xs) : ssort lt xs = xs := (ssort_eq W (Stab.refl xs) h).symm
end Go.St

/-
  Merging in place, plainly.
-/
set_option linter.unusedSimpArgs false
set_option linter.unusedVariables false
namespace Go.St
variable {α : Type} {lt : α → α → Bool}

theorem Weak.not_rev (W : Weak lt) {a b : α} (h : lt a b = true) : lt b a = false := by
  cases hh : lt b a with
  | false => rfl
  | true => have := W.tra h hh; rw [W.irr] at this; exact absurd this (by decide)
theorem Weak.lt_le (W : Weak lt) {a b c : α} (h : lt a b = true) (g : lt c b = false) : lt a c = true := by
  cases hh : lt a c with
  | true => rfl
  | false => have := W.neg hh g; rw [h] at this; exact absurd this (by decide)
theorem Weak.le_lt (W : Weak lt) {a b c : α} (h : lt b a = false) (g : lt b c = true) : lt a c = true := by
  cases hh : lt a c with
  | true => rfl
  | false => have := W.neg h hh; rw [g] at this; exact absurd this (by decide)

/-- four parts, the middle ones exchanged, each half then sorted -/
theorem merge_parts (W : Weak lt) {u1 u2 v1 v2 w1 w2 : List α} (hu : Srt lt (u1 ++ u2)) (hv : Srt lt (v1 ++ v2)) (h1 : ∀ x ∈ u1, ∀ y ∈ v2, lt y x = false) (h2 : ∀ x ∈ u2, ∀ y ∈ v1, lt y x = true)
    (s1 : Stab lt (u1 ++ v1) w1) (s2 : Stab lt (u2 ++ v2) w2) (o1 : Srt lt w1) (o2 : Srt lt w2) : Stab lt ((u1 ++ u2) ++ (v1 ++ v2)) (w1 ++ w2) ∧ Srt lt (w1 ++ w2) := by
  obtain ⟨_, _, hu3⟩ := Srt.append.1 hu
  obtain ⟨_, _, hv3⟩ := Srt.append.1 hv
  constructor
  · have a1 : Stab lt (u1 ++ (u2 ++ v1) ++ v2) (u1 ++ (v1 ++ u2) ++ v2) := Stab.mid (Stab.swap W h2) _ _
    have a2 : Stab lt ((u1 ++ v1) ++ (u2 ++ v2)) (w1 ++ w2) := s1.append s2
    have e1 : (u1 ++ u2) ++ (v1 ++ v2) = u1 ++ (u2 ++ v1) ++ v2 := by simp
    have e2 : (u1 ++ v1) ++ (u2 ++ v2) = u1 ++ (v1 ++ u2) ++ v2 := by simp
    rw [e1]; rw [e2] at a2; exact a1.trans a2
  · refine Srt.append.2 ⟨o1, o2, fun x hx y hy => ?_⟩
    rcases List.mem_append.1 ((s1.mem W).1 hx) with hx | hx <;> rcases List.mem_append.1 ((s2.mem W).1 hy) with hy | hy
    · exact hu3 x hx y hy
    · exact h1 x hx y hy
    · exact W.not_rev (h2 y hy x hx)
    · exact hv3 x hx y hy

/-- from the bounds' neighbours to all -/
theorem le_cross (W : Weak lt) {u v : List α} (hu : Srt lt u) (hv : Srt lt v) (h : ∀ x y, u.getLast? = some x → v.head? = some y → lt y x = false) : ∀ x ∈ u, ∀ y ∈ v, lt y x = false := by
  intro x hx y hy
  obtain ⟨v0, vs, rfl⟩ : ∃ v0 vs, v = v0 :: vs := by cases v with | nil => simp at hy | cons a b => exact ⟨_, _, rfl⟩
  obtain ⟨us, ul, rfl⟩ : ∃ us ul, u = us ++ [ul] := by
    rcases List.eq_nil_or_concat u with e | ⟨us, ul, e⟩
    · subst e; simp at hx
    · exact ⟨us, ul, by rw [e]; simp⟩
  have h0 := h ul v0 (by simp) (by simp)
  have hxl : lt ul x = false := by
    rcases List.mem_append.1 hx with hx | hx
    · exact (Srt.append.1 hu).2.2 x hx ul (by simp)
    · obtain rfl : x = ul := by simpa using hx
      exact W.irr _
  have hyv : lt y v0 = false := by
    rcases List.mem_cons.1 hy with rfl | hy
    · exact W.irr _
    · exact (List.pairwise_cons.1 hv).1 y hy
  exact W.neg hyv (W.neg h0 hxl)
theorem lt_cross (W : Weak lt) {u v : List α} (hu : Srt lt u) (hv : Srt lt v) (h : ∀ x y, u.head? = some x → v.getLast? = some y → lt y x = true) : ∀ x ∈ u, ∀ y ∈ v, lt y x = true := by
  intro x hx y hy
  obtain ⟨u0, us, rfl⟩ : ∃ v0 vs, u = v0 :: vs := by cases u with | nil => simp at hx | cons a b => exact ⟨_, _, rfl⟩
  obtain ⟨vs, vl, rfl⟩ : ∃ us ul, v = us ++ [ul] := by
    rcases List.eq_nil_or_concat v with e | ⟨us, ul, e⟩
    · subst e; simp at hy
    · exact ⟨us, ul, by rw [e]; simp⟩
  have h0 := h u0 vl (by simp) (by simp)
  have hyl : lt vl y = false := by
    rcases List.mem_append.1 hy with hy | hy
    · exact (Srt.append.1 hv).2.2 y hy vl (by simp)
    · obtain rfl : y = vl := by simpa using hy
      exact W.irr _
  have hxu : lt x u0 = false := by
    rcases List.mem_cons.1 hx with rfl | hx
    · exact W.irr _
    · exact (List.pairwise_cons.1 hu).1 x hx
  exact W.lt_le (W.le_lt hyl h0) hxu

/-- one that comes into a sorted list -/
theorem merge_left (W : Weak lt) {x : α} {v1 v2 : List α} (hv : Srt lt (v1 ++ v2)) (h1 : ∀ y ∈ v1, lt y x = true) (h2 : ∀ y ∈ v2, lt y x = false) : Stab lt ([x] ++ (v1 ++ v2)) (v1 ++ ([x] ++ v2)) ∧ Srt lt (v1 ++ ([x] ++ v2)) := by
  obtain ⟨o1, o2, _⟩ := Srt.append.1 hv
  exact merge_parts W (u1 := []) (u2 := [x]) (v1 := v1) (v2 := v2) (w1 := v1) (w2 := [x] ++ v2) (Srt.one x) hv (by simp) (by simpa using h1) (Stab.refl _) (Stab.refl _) o1 (Srt.append.2 ⟨Srt.one x, o2, by simpa using h2⟩)
theorem merge_right (W : Weak lt) {y : α} {u1 u2 : List α} (hu : Srt lt (u1 ++ u2)) (h1 : ∀ x ∈ u1, lt y x = false) (h2 : ∀ x ∈ u2, lt y x = true) : Stab lt ((u1 ++ u2) ++ [y]) ((u1 ++ [y]) ++ u2) ∧ Srt lt ((u1 ++ [y]) ++ u2) := by
  obtain ⟨o1, o2, _⟩ := Srt.append.1 hu
  have := merge_parts W (u1 := u1) (u2 := u2) (v1 := [y]) (v2 := []) (w1 := u1 ++ [y]) (w2 := u2) hu (Srt.one y) (by simp) (by simpa using h2) (Stab.refl _) (by rw [List.append_nil]; exact Stab.refl _) (Srt.append.2 ⟨o1, Srt.one y, by simpa using h1⟩) o2
  simpa using this
end Go.St

/-
  Tables of rules, plainly.
-/
set_option linter.unusedSimpArgs false
set_option linter.unusedVariables false
namespace Go.St

def ruleLt (a b : Rule) : Bool := decide (a.ver < b.ver ∨ (a.ver = b.ver ∧ a.flow < b.flow))
theorem ruleLt_iff {a b : Rule} : ruleLt a b = true ↔ a.ver < b.ver ∨ (a.ver = b.ver ∧ a.flow < b.flow) := by simp [ruleLt]
theorem ruleLt_not {a b : Rule} : ruleLt a b = false ↔ b.ver < a.ver ∨ (a.ver = b.ver ∧ b.flow ≤ a.flow) := by
  simp only [ruleLt, decide_eq_false_iff_not]; omega
theorem ruleLt_weak : Weak ruleLt where
  irr a := by rw [ruleLt_not]; omega
  tra h g := by rw [ruleLt_iff] at *; omega
  neg h g := by rw [ruleLt_not] at *; omega

/-- the code's comparison -/
def cmpI (x y : Int) : Int := if x < y then -1 else if y < x then 1 else 0
def orderOf (a b : Rule) : Int := if cmpI a.ver b.ver ≠ 0 then cmpI a.ver b.ver else cmpI a.flow b.flow
theorem orderOf_lt (a b : Rule) : orderOf a b < 0 ↔ ruleLt a b = true := by
  rw [ruleLt_iff]; unfold orderOf cmpI
  by_cases h1 : a.ver < b.ver
  · rw [if_pos h1, if_pos (by decide)]; omega
  by_cases h2 : b.ver < a.ver
  · rw [if_neg h1, if_pos h2, if_pos (by decide)]; omega
  rw [if_neg h1, if_neg h2, if_neg (by decide)]
  by_cases h3 : a.flow < b.flow
  · rw [if_pos h3]; omega
  by_cases h4 : b.flow < a.flow
  · rw [if_neg h3, if_pos h4]; omega
  · rw [if_neg h3, if_neg h4]; omega
theorem orderOf_in (a b : Rule) : orderOf a b = -1 ∨ orderOf a b = 0 ∨ orderOf a b = 1 := by
  unfold orderOf cmpI
  repeat' split
  all_goals first | omega | simp_all

def ruleOut (r : Rule) : Prop := r.ver < 1 ∨ 1000 < r.ver ∨ r.flow < 0 ∨ 12 ≤ r.flow ∨ r.next < 0 ∨ 8 ≤ r.next
instance (r : Rule) : Decidable (ruleOut r) := by unfold ruleOut; infer_instance
/-- what is wrong from a rule on, with the one ahead of it -/
def tabGo : Int → Option Rule → List Rule → Int × Int
  | _, _, [] => (0, 0)
  | i, p, r :: l => if ruleOut r then (3, i) else if p.any (fun q => !ruleLt q r) = true then (2, i) else tabGo (i + 1) (some r) l
def tabWrong (l : List Rule) : Int × Int := if 16 < l.length then (10, 0) else tabGo 0 none l
def prevOf (l : List Rule) : Nat → Option Rule
  | 0 => none
  | j + 1 => l[j]?
theorem tab_step {l : List Rule} {j : Nat} {R : Int × Int} {r : Rule} (h : R = tabGo j (prevOf l j) (l.drop j)) (hr : l[j]? = some r) :
    R = if ruleOut r then (3, (j : Int)) else if (prevOf l j).any (fun q => !ruleLt q r) = true then (2, (j : Int)) else tabGo ((j + 1 : Nat) : Int) (prevOf l (j + 1)) (l.drop (j + 1)) := by
  obtain ⟨hj, rfl⟩ := List.getElem?_eq_some_iff.1 hr
  rw [h, List.drop_eq_getElem_cons hj, tabGo]
  simp only [prevOf, List.getElem?_eq_getElem hj]
  rfl
theorem tab_end {l : List Rule} {j : Nat} {R : Int × Int} (h : R = tabGo j (prevOf l j) (l.drop j)) (hj : l.length ≤ j) : R = (0, 0) := by
  rw [h, List.drop_of_length_le hj]; rfl

/-- right tables -/
structure TabOk (l : List Rule) : Prop where
  len : l.length ≤ 16
  rg : ∀ r ∈ l, ¬ ruleOut r
  up : l.Pairwise fun a b => ruleLt a b = true
theorem tabGo_zero : ∀ {l : List Rule} {i : Int} {p : Option Rule}, 0 ≤ i → ((tabGo i p l).1 = 0 ↔ (∀ r ∈ l, ¬ ruleOut r) ∧ (p.toList ++ l).Pairwise (fun a b => ruleLt a b = true))
  | [], i, p, _ => by cases p <;> simp [tabGo]
  | r :: l, i, p, hi => by
    rw [tabGo]
    by_cases h1 : ruleOut r
    · rw [if_pos h1]
      constructor
      · intro h; exact absurd (show (3 : Int) = 0 from h) (by decide)
      · intro h; exact absurd h1 (h.1 r (by simp))
    rw [if_neg h1]
    by_cases h2 : p.any (fun q => !ruleLt q r) = true
    · rw [if_pos h2]
      constructor
      · intro h; exact absurd (show (2 : Int) = 0 from h) (by decide)
      · rintro ⟨_, h⟩
        cases p with
        | none => simp at h2
        | some q =>
          have := (List.pairwise_cons.1 h).1 r (by simp)
          simp [this] at h2
    rw [if_neg h2, tabGo_zero (by omega)]
    have e0 : (∀ x ∈ r :: l, ¬ ruleOut x) ↔ ∀ x ∈ l, ¬ ruleOut x := by simp [h1]
    rw [e0]
    refine and_congr Iff.rfl ?_
    cases p with
    | none => simp
    | some q =>
      have hq : ruleLt q r = true := by simpa using h2
      simp only [Option.toList_some, List.cons_append, List.nil_append]
      constructor
      · intro h
        refine List.pairwise_cons.2 ⟨fun x hx => ?_, h⟩
        rcases List.mem_cons.1 hx with rfl | hx
        · exact hq
        · exact ruleLt_weak.tra hq ((List.pairwise_cons.1 h).1 x hx)
      · intro h; exact (List.pairwise_cons.1 h).2
theorem tab_ok {l : List Rule} : (tabWrong l).1 = 0 ↔ TabOk l := by
  unfold tabWrong
  by_cases h : 16 < l.length
  · rw [if_pos h]
    exact ⟨fun h => absurd h (by decide), fun g => by have := g.len; omega⟩
  · rw [if_neg h, tabGo_zero (by omega)]
    exact ⟨fun g => ⟨by omega, g.1, by simpa using g.2⟩, fun g => ⟨g.rg, by simpa using g.up⟩⟩

def nextOf (l : List Rule) (v f : Int) : Int × Bool := match l.find? (fun r => r.ver == v && r.flow == f) with
  | some r => (r.next, true)
  | none => (0, false)
theorem next_step {l : List Rule} {v f : Int} {j : Nat} {R : Int × Bool} {r : Rule} (h : R = nextOf (l.drop j) v f) (hr : l[j]? = some r) :
    R = if r.ver = v ∧ r.flow = f then (r.next, true) else nextOf (l.drop (j + 1)) v f := by
  obtain ⟨hj, rfl⟩ := List.getElem?_eq_some_iff.1 hr
  rw [h, List.drop_eq_getElem_cons hj]
  by_cases hc : l[j].ver = v ∧ l[j].flow = f
  · rw [if_pos hc]; unfold nextOf; rw [List.find?_cons_of_pos (by simp [hc.1, hc.2])]
  · rw [if_neg hc]; unfold nextOf; rw [List.find?_cons_of_neg (by simpa using hc)]
theorem next_end {l : List Rule} {v f : Int} {j : Nat} {R : Int × Bool} (h : R = nextOf (l.drop j) v f) (hj : l.length ≤ j) : R = (0, false) := by
  rw [h, List.drop_of_length_le hj]; rfl

def dropOf (l : List Rule) (v : Int) : List Rule := l.filter fun r => r.ver != v
theorem dropOf_ok {l : List Rule} (h : TabOk l) (v : Int) : TabOk (dropOf l v) :=
  ⟨Nat.le_trans (List.length_filter_le _ _) h.len, fun r hr => h.rg r (List.mem_filter.1 hr).1, h.up.filter _⟩
theorem next_drop_same (l : List Rule) (v f : Int) : nextOf (dropOf l v) v f = (0, false) := by
  unfold nextOf
  rw [show (dropOf l v).find? (fun r => r.ver == v && r.flow == f) = none from by
    rw [List.find?_eq_none]
    intro r hr
    have := (List.mem_filter.1 hr).2
    simp at this
    simp [this]]
theorem next_drop_other {l : List Rule} {v o f : Int} (h : o ≠ v) : nextOf (dropOf l v) o f = nextOf l o f := by
  unfold nextOf
  have : (dropOf l v).find? (fun r => r.ver == o && r.flow == f) = l.find? (fun r => r.ver == o && r.flow == f) := by
    unfold dropOf
    rw [List.find?_filter]
    congr 1
    funext r
    by_cases h1 : r.ver = o
    · subst h1; simp [h]; rfl
    · simp [h1]
  rw [this]
end Go.St

/-
  More rules in a table, plainly.
-/
set_option linter.unusedSimpArgs false
set_option linter.unusedVariables false
namespace Go.St

/-- what differs from the one ahead of it -/
def compGo : Rule → List Rule → List Rule
  | _, [] => []
  | p, r :: l => if r = p then compGo r l else r :: compGo r l
def comp : List Rule → List Rule
  | [] => []
  | r :: l => r :: compGo r l
theorem compGo_sub : ∀ (l : List Rule) (p : Rule), (compGo p l).Sublist l
  | [], _ => List.Sublist.slnil
  | r :: l, p => by
    rw [compGo]; split
    · exact (compGo_sub l r).cons r
    · exact (compGo_sub l r).cons_cons r
theorem comp_sub : ∀ l : List Rule, (comp l).Sublist l
  | [] => List.Sublist.slnil
  | r :: l => (compGo_sub l r).cons_cons r
theorem compGo_mem : ∀ (l : List Rule) (p x : Rule), x ∈ l → x = p ∨ x ∈ compGo p l
  | [], _, _, h => by simp at h
  | r :: l, p, x, h => by
    rw [compGo]
    rcases List.mem_cons.1 h with rfl | h
    · by_cases e : x = p
      · exact .inl e
      · rw [if_neg e]; exact .inr (by simp)
    · rcases compGo_mem l r x h with rfl | h'
      · by_cases e : x = p
        · exact .inl e
        · rw [if_neg e]; exact .inr (by simp)
      · right; split
        · exact h'
        · exact List.mem_cons_of_mem _ h'
theorem comp_mem (l : List Rule) (x : Rule) : x ∈ comp l ↔ x ∈ l := by
  constructor
  · exact fun h => (comp_sub l).subset h
  · intro h
    cases l with
    | nil => simp at h
    | cons r l =>
      rcases List.mem_cons.1 h with rfl | h
      · simp [comp]
      · rcases compGo_mem l r x h with rfl | h'
        · simp [comp]
        · exact List.mem_cons_of_mem _ h'
/-- sorted, and alike in each class: then it rises -/
theorem compGo_up : ∀ (l : List Rule) (p : Rule), Srt ruleLt (p :: l) → (∀ a ∈ p :: l, ∀ b ∈ p :: l, ruleLt a b = false → ruleLt b a = false → a = b) → (p :: compGo p l).Pairwise (fun a b => ruleLt a b = true)
  | [], p, _, _ => by simp [compGo]
  | r :: l, p, h, hc => by
    obtain ⟨h1, h2⟩ := List.pairwise_cons.1 h
    have ih := compGo_up l r h2 fun a ha b hb => hc a (List.mem_cons_of_mem _ ha) b (List.mem_cons_of_mem _ hb)
    rw [compGo]
    by_cases e : r = p
    · rw [if_pos e]; subst e; exact ih
    · rw [if_neg e]
      have hpr : ruleLt p r = true := by
        cases hh : ruleLt p r with
        | true => rfl
        | false => exact absurd (hc r (by simp) p (by simp) (h1 r (by simp)) hh) e
      refine List.pairwise_cons.2 ⟨fun x hx => ?_, ih⟩
      rcases List.mem_cons.1 hx with rfl | hx
      · exact hpr
      · exact ruleLt_weak.tra hpr ((List.pairwise_cons.1 ih).1 x hx)
theorem comp_up (l : List Rule) (h : Srt ruleLt l) (hc : ∀ a ∈ l, ∀ b ∈ l, ruleLt a b = false → ruleLt b a = false → a = b) : (comp l).Pairwise (fun a b => ruleLt a b = true) := by
  cases l with
  | nil => exact List.Pairwise.nil
  | cons r l => exact compGo_up l r h hc

def outOf (l more : List Rule) : List Rule := comp (ssort ruleLt (l ++ more))
def addOf (l more : List Rule) : List Rule × Int :=
  if (tabWrong l).1 ≠ 0 then ([], (tabWrong l).1) else if (tabWrong (outOf l more)).1 ≠ 0 then ([], (tabWrong (outOf l more)).1) else (outOf l more, 0)
theorem add_bad {l more : List Rule} (h : (addOf l more).2 ≠ 0) : (addOf l more).1 = [] := by
  unfold addOf at *
  by_cases h1 : (tabWrong l).1 ≠ 0
  · rw [if_pos h1]
  rw [if_neg h1] at h ⊢
  by_cases h2 : (tabWrong (outOf l more)).1 ≠ 0
  · rw [if_pos h2]
  · rw [if_neg h2] at h; exact absurd rfl h
theorem add_good {l more : List Rule} (h : (addOf l more).2 = 0) : (addOf l more).1 = outOf l more ∧ TabOk l ∧ TabOk (outOf l more) := by
  unfold addOf at *
  by_cases h1 : (tabWrong l).1 ≠ 0
  · rw [if_pos h1] at h; exact absurd h h1
  rw [if_neg h1] at h ⊢
  by_cases h2 : (tabWrong (outOf l more)).1 ≠ 0
  · rw [if_pos h2] at h; exact absurd h h2
  · rw [if_neg h2]; exact ⟨rfl, tab_ok.1 (by simpa using h1), tab_ok.1 (by simpa using h2)⟩
theorem out_mem (l more : List Rule) (x : Rule) : x ∈ outOf l more ↔ x ∈ l ∨ x ∈ more := by
  unfold outOf
  rw [comp_mem, (ssort_stab ruleLt_weak (l ++ more)).mem ruleLt_weak, List.mem_append]
theorem out_len (l more : List Rule) : (outOf l more).length ≤ l.length + more.length := by
  have h1 := (comp_sub (ssort ruleLt (l ++ more))).length_le
  have h2 : ∀ (xs s : List Rule), (xs.foldl (fun s x => ins ruleLt x s) s).length = s.length + xs.length := by
    have hi : ∀ (x : Rule) (s : List Rule), (ins ruleLt x s).length = s.length + 1 := by
      intro x s
      induction s with
      | nil => rfl
      | cons y ys ih => unfold ins; split <;> simp [ih]
    intro xs
    induction xs with
    | nil => intro s; rfl
    | cons x xs ih => intro s; rw [List.foldl_cons, ih, hi]; simp; omega
  have h3 : (ssort ruleLt (l ++ more)).length = (l ++ more).length := by unfold ssort; rw [h2]; simp
  rw [h3, List.length_append] at h1
  exact h1
/-- one of each class alone -/
theorem up_one {m : List Rule} (h : m.Pairwise fun a b => ruleLt a b = true) {a b : Rule} (ha : a ∈ m) (hb : b ∈ m) (h1 : ruleLt a b = false) (h2 : ruleLt b a = false) : a = b := by
  induction m with
  | nil => simp at ha
  | cons x m ih =>
    obtain ⟨g1, g2⟩ := List.pairwise_cons.1 h
    rcases List.mem_cons.1 ha with ea | ha' <;> rcases List.mem_cons.1 hb with eb | hb'
    · rw [ea, eb]
    · rw [ea, g1 b hb'] at h1; exact absurd h1 (by decide)
    · rw [eb, g1 a ha'] at h2; exact absurd h2 (by decide)
    · exact ih g2 ha' hb'
theorem up_next {m : List Rule} (h : m.Pairwise fun a b => ruleLt a b = true) {r : Rule} (hr : r ∈ m) : nextOf m r.ver r.flow = (r.next, true) := by
  unfold nextOf
  cases hf : m.find? (fun x => x.ver == r.ver && x.flow == r.flow) with
  | none =>
    have := List.find?_eq_none.1 hf r hr
    simp at this
  | some x =>
    have h1 := List.find?_some hf
    have h2 := List.mem_of_find?_eq_some hf
    simp at h1
    have : x = r := up_one h h2 hr (by rw [ruleLt_not]; omega) (by rw [ruleLt_not]; omega)
    subst this; rfl
/-- two that rise, with the same members, are one -/
theorem up_ext : ∀ {a b : List Rule}, a.Pairwise (fun x y => ruleLt x y = true) → b.Pairwise (fun x y => ruleLt x y = true) → (∀ x, x ∈ a ↔ x ∈ b) → a = b
  | [], b, _, _, h => by
    cases b with
    | nil => rfl
    | cons y b => exact absurd ((h y).2 (by simp)) (by simp)
  | x :: a, b, h1, h2, h => by
    cases b with
    | nil => exact absurd ((h x).1 (by simp)) (by simp)
    | cons y b =>
      obtain ⟨a1, a2⟩ := List.pairwise_cons.1 h1
      obtain ⟨b1, b2⟩ := List.pairwise_cons.1 h2
      have e : x = y := by
        rcases List.mem_cons.1 ((h x).1 (by simp)) with e | hx
        · exact e
        rcases List.mem_cons.1 ((h y).2 (by simp)) with e | hy
        · exact e.symm
        have g1 := b1 x hx
        have g2 := ruleLt_weak.tra g1 (a1 y hy)
        rw [ruleLt_weak.irr] at g2; exact absurd g2 (by decide)
      subst e
      congr 1
      refine up_ext a2 b2 fun z => ?_
      have hz := h z
      simp only [List.mem_cons] at hz
      constructor
      · intro hza
        rcases hz.1 (.inr hza) with rfl | hzb
        · have := a1 z hza; rw [ruleLt_weak.irr] at this; exact absurd this (by decide)
        · exact hzb
      · intro hzb
        rcases hz.2 (.inr hzb) with rfl | hza
        · have := b1 z hzb; rw [ruleLt_weak.irr] at this; exact absurd this (by decide)
        · exact hza
/-- added again it is the same -/
theorem add_again {l more : List Rule} (h : (addOf l more).2 = 0) : addOf (outOf l more) more = (outOf l more, 0) := by
  obtain ⟨_, _, hm⟩ := add_good h
  have e : outOf (outOf l more) more = outOf l more := by
    refine up_ext (comp_up _ (ssort_srt ruleLt_weak _) fun a ha b hb h1 h2 => ?_) hm.up fun x => ?_
    · have hs : ∀ x, x ∈ ssort ruleLt (outOf l more ++ more) → x ∈ outOf l more := fun x hx => by
        rw [(ssort_stab ruleLt_weak _).mem ruleLt_weak, List.mem_append] at hx
        rcases hx with hx | hx
        · exact hx
        · exact (out_mem l more x).2 (.inr hx)
      exact up_one hm.up (hs a ha) (hs b hb) h1 h2
    · rw [out_mem, out_mem]
      constructor
      · rintro (h | h)
        · exact h
        · exact .inr h
      · intro h; exact .inl h
  have z := tab_ok.2 hm
  unfold addOf
  rw [e, if_neg (by simp [z]), if_neg (by simp [z])]
end Go.St

/-
  Sorting by blocks, plainly.
-/
set_option linter.unusedSimpArgs false
set_option linter.unusedVariables false
namespace Go.St
variable {α : Type} {lt : α → α → Bool}

/-- sorted blocks of k, the last one perhaps shorter -/
inductive Bk (lt : α → α → Bool) (k : Nat) : List α → Prop
  | last {l : List α} : l.length ≤ k → Srt lt l → Bk lt k l
  | cons {u v : List α} : u.length = k → Srt lt u → Bk lt k v → Bk lt k (u ++ v)
/-- whole blocks alone -/
inductive BkF (lt : α → α → Bool) (k : Nat) : List α → Prop
  | nil : BkF lt k []
  | snoc {u v : List α} : BkF lt k u → v.length = k → Srt lt v → BkF lt k (u ++ v)
theorem BkF.to {k : Nat} {u : List α} (h : BkF lt k u) : ∀ {v : List α}, Bk lt k v → Bk lt k (u ++ v) := by
  induction h with
  | nil => intro v h; exact h
  | snoc _ h2 h3 ih => intro v h; rw [List.append_assoc]; exact ih (.cons h2 h3 h)
theorem Bk.two {k : Nat} (hk : 0 < k) {r : List α} (h : Bk lt k r) (hl : 2 * k ≤ r.length) : ∃ u v s, r = u ++ (v ++ s) ∧ u.length = k ∧ v.length = k ∧ Srt lt u ∧ Srt lt v ∧ Bk lt k s := by
  cases h with
  | last h1 h2 => omega
  | cons h1 h2 h3 =>
    rename_i u v
    rw [List.length_append] at hl
    cases h3 with
    | last g1 g2 => exact ⟨u, v, [], by simp, h1, by omega, h2, g2, .last (Nat.zero_le _) Srt.nil⟩
    | cons g1 g2 g3 => exact ⟨u, _, _, rfl, h1, g1, h2, g2, g3⟩
theorem Bk.rest {k : Nat} {r : List α} (h : Bk lt k r) (hl : r.length < 2 * k) (hl2 : k < r.length) : ∃ u v, r = u ++ v ∧ u.length = k ∧ Srt lt u ∧ Srt lt v := by
  cases h with
  | last h1 h2 => omega
  | cons h1 h2 h3 =>
    rename_i u v
    rw [List.length_append] at hl
    cases h3 with
    | last g1 g2 => exact ⟨u, v, rfl, h1, h2, g2⟩
    | cons g1 g2 g3 => rw [List.length_append] at hl; omega
theorem Bk.one {k : Nat} {r : List α} (h : Bk lt k r) (hl : r.length ≤ k) : Srt lt r := by
  cases h with
  | last h1 h2 => exact h2
  | cons h1 h2 h3 =>
    rename_i u v
    rw [List.length_append] at hl
    obtain rfl : v = [] := List.eq_nil_of_length_eq_zero (by omega)
    rw [List.append_nil]; exact h2

/-- blocks of twenty: as far as a -/
def StI (lt : α → α → Bool) (xs : List α) (a : Nat) (ys : List α) : Prop := ∃ d r, ys = d ++ r ∧ xs = xs.take a ++ r ∧ d.length = a ∧ BkF lt 20 d ∧ Stab lt (xs.take a) d
theorem StI.zero (xs : List α) : StI lt xs 0 xs := ⟨[], xs, rfl, by simp, rfl, .nil, Stab.refl _⟩
theorem StI.len {xs ys : List α} {a : Nat} (h : StI lt xs a ys) (ha : a ≤ xs.length) : ys.length = xs.length := by
  obtain ⟨d, r, rfl, h2, h3, _⟩ := h
  have := congrArg List.length h2
  simp only [List.length_append, List.length_take] at *; omega
theorem StI.parts {xs ys : List α} {a : Nat} (h : StI lt xs a ys) {b : Nat} (hab : a ≤ b) (hb : b ≤ xs.length) : ∃ p u s, ys = p ++ (u ++ s) ∧ p.length = a ∧ a + u.length = b ∧ (∀ v, v.length = u.length → Srt lt v → Stab lt u v → b = a + 20 → StI lt xs b (p ++ (v ++ s))) ∧
    (∀ v, v.length = u.length → Srt lt v → Stab lt u v → b < a + 20 → b = xs.length → Bk lt 20 (p ++ (v ++ s)) ∧ Stab lt xs (p ++ (v ++ s))) := by
  obtain ⟨d, r, rfl, h2, h3, h4, h5⟩ := h
  have hr : a + r.length = xs.length := by have := congrArg List.length h2; simp only [List.length_append, List.length_take] at this; omega
  have hrd : r = xs.drop a := by
    have h6 : xs.take a ++ xs.drop a = xs.take a ++ r := by rw [List.take_append_drop]; exact h2
    exact (List.append_cancel_left h6).symm
  refine ⟨d, r.take (b - a), r.drop (b - a), by rw [List.take_append_drop], h3, by simp; omega, ?_, ?_⟩
  · intro v hv hs hst hba
    have ht : xs.take b = xs.take a ++ r.take (b - a) := by
      rw [hrd, ← List.take_add]; congr 1; omega
    refine ⟨d ++ v, r.drop (b - a), by rw [List.append_assoc], ?_, ?_, h4.snoc ?_ hs, ?_⟩
    · rw [ht, List.append_assoc, List.take_append_drop]; exact h2
    · rw [List.length_append, hv]; simp; omega
    · rw [hv]; simp; omega
    · rw [ht]; exact h5.append hst
  · intro v hv hs hst hba hbn
    have hd : r.drop (b - a) = [] := List.drop_of_length_le (by omega)
    have htk : r.take (b - a) = r := List.take_of_length_le (by omega)
    rw [hd, List.append_nil]
    rw [htk] at hst hv
    refine ⟨h4.to (.last (by omega) hs), ?_⟩
    rw [h2]; exact h5.append hst

/-- merged as far as a, to blocks of twice the size -/
def StM (lt : α → α → Bool) (xs : List α) (k a : Nat) (ys : List α) : Prop := ∃ d r, ys = d ++ r ∧ d.length = a ∧ BkF lt (2 * k) d ∧ Bk lt k r ∧ Stab lt xs ys
theorem StM.zero {xs ys : List α} {k : Nat} (h : Bk lt k ys) (hs : Stab lt xs ys) : StM lt xs k 0 ys := ⟨[], ys, rfl, rfl, .nil, h, hs⟩
theorem StM.two {xs ys : List α} {k a : Nat} (h : StM lt xs k a ys) (hk : 0 < k) (hl : a + 2 * k ≤ ys.length) : ∃ p u v s, ys = p ++ (u ++ (v ++ s)) ∧ p.length = a ∧ u.length = k ∧ v.length = k ∧ Srt lt u ∧ Srt lt v ∧
    (∀ z, z.length = u.length + v.length → Srt lt z → Stab lt (u ++ v) z → StM lt xs k (a + 2 * k) (p ++ (z ++ s))) := by
  obtain ⟨d, r, rfl, h2, h3, h4, h5⟩ := h
  rw [List.length_append] at hl
  obtain ⟨u, v, s, rfl, g1, g2, g3, g4, g5⟩ := h4.two hk (by omega)
  refine ⟨d, u, v, s, rfl, h2, g1, g2, g3, g4, fun z z1 z2 z3 => ⟨d ++ z, s, by rw [List.append_assoc], by rw [List.length_append]; omega, h3.snoc (by omega) z2, g5, ?_⟩⟩
  refine h5.trans ?_
  have := Stab.mid z3 d s
  simpa only [List.append_assoc] using this
theorem StM.last {xs ys : List α} {k a : Nat} (h : StM lt xs k a ys) (hl : ys.length < a + 2 * k) (hl2 : a + k < ys.length) : ∃ p u v, ys = p ++ (u ++ (v ++ [])) ∧ p.length = a ∧ u.length = k ∧ Srt lt u ∧ Srt lt v ∧
    (∀ z, z.length = u.length + v.length → Srt lt z → Stab lt (u ++ v) z → Bk lt (2 * k) (p ++ (z ++ [])) ∧ Stab lt xs (p ++ (z ++ []))) := by
  obtain ⟨d, r, rfl, h2, h3, h4, h5⟩ := h
  rw [List.length_append] at hl hl2
  obtain ⟨u, v, rfl, g1, g2, g3⟩ := h4.rest (by omega) (by omega)
  refine ⟨d, u, v, by simp, h2, g1, g2, g3, fun z z1 z2 z3 => ?_⟩
  rw [List.length_append] at hl
  rw [List.append_nil]
  refine ⟨h3.to (.last (by omega) z2), h5.trans ((Stab.refl d).append z3)⟩
theorem StM.none {xs ys : List α} {k a : Nat} (h : StM lt xs k a ys) (hl : ys.length ≤ a + k) : Bk lt (2 * k) ys ∧ Stab lt xs ys := by
  obtain ⟨d, r, rfl, h2, h3, h4, h5⟩ := h
  rw [List.length_append] at hl
  exact ⟨h3.to (.last (by omega) (h4.one (by omega))), h5⟩
theorem Bk.done (W : Weak lt) {xs ys : List α} {k : Nat} (h : Bk lt k ys) (hs : Stab lt xs ys) (hl : ys.length ≤ k) : ys = ssort lt xs := ssort_eq W hs (h.one hl)
/-- lengths stay -/
theorem ins_len (x : α) : ∀ s : List α, (ins lt x s).length = s.length + 1
  | [] => rfl
  | y :: ys => by unfold ins; split <;> simp [ins_len x ys]
theorem ssort_len (xs : List α) : (ssort lt xs).length = xs.length := by
  have : ∀ (l s : List α), (l.foldl (fun s x => ins lt x s) s).length = s.length + l.length := by
    intro l
    induction l with
    | nil => intro s; rfl
    | cons x xs ih => intro s; rw [List.foldl_cons, ih, ins_len]; simp; omega
  unfold ssort; rw [this]; simp
end Go.St

/-
  What is deleted from a row, plainly.
-/
set_option linter.unusedSimpArgs false
set_option linter.unusedVariables false
namespace Go.St
variable {α : Type}
/-- the loop of DeleteFunc: what is kept, then what was there -/
def Del (p : α → Bool) (xs : List α) (m kk : Nat) (zs : List α) : Prop := zs.take kk = (xs.take m).filter (fun x => !p x) ∧ kk < m ∧ zs.length = xs.length ∧ ∀ i, kk ≤ i → zs[i]? = xs[i]?
theorem Del.start {p : α → Bool} {xs : List α} {k : Nat} {x : α} (h : ∀ y ∈ xs.take k, p y = false) (hx : xs[k]? = some x) (hp : p x = true) : Del p xs (k + 1) k xs := by
  refine ⟨?_, by omega, rfl, fun _ _ => rfl⟩
  rw [List.take_add_one, hx, List.filter_append, List.filter_eq_self.2 (fun y hy => by simp [h y hy])]
  simp [hp]
theorem Del.skip {p : α → Bool} {xs zs : List α} {m kk : Nat} {x : α} (h : Del p xs m kk zs) (hx : xs[m]? = some x) (hp : p x = true) : Del p xs (m + 1) kk zs := by
  obtain ⟨h1, h2, h3, h4⟩ := h
  refine ⟨?_, by omega, h3, h4⟩
  rw [List.take_add_one, hx, List.filter_append, ← h1]; simp [hp]
theorem Del.keep {p : α → Bool} {xs zs : List α} {m kk : Nat} {x : α} (h : Del p xs m kk zs) (hx : xs[m]? = some x) (hp : p x = false) : Del p xs (m + 1) (kk + 1) (zs.set kk x) := by
  obtain ⟨h1, h2, h3, h4⟩ := h
  have hm := (List.getElem?_eq_some_iff.1 hx).1
  refine ⟨?_, by omega, by simpa using h3, fun i hi => ?_⟩
  · rw [List.take_add_one, List.getElem?_set_self (by omega), List.take_set_of_le (Nat.le_refl _), h1, List.take_add_one, hx, List.filter_append]; simp [hp]
  · rw [List.getElem?_set_ne (by omega)]; exact h4 i (by omega)
theorem Del.done {p : α → Bool} {xs zs : List α} {m kk : Nat} (h : Del p xs m kk zs) (hm : xs.length ≤ m) (hk : kk ≤ xs.length) : zs.take kk = xs.filter (fun x => !p x) ∧ (xs.filter (fun x => !p x)).length = kk := by
  have h1 := h.1
  rw [List.take_of_length_le hm] at h1
  exact ⟨h1, by rw [← h1, List.length_take, h.2.2.1]; omega⟩
theorem none_step {p : α → Bool} {xs : List α} {k : Nat} {x : α} (h : ∀ y ∈ xs.take k, p y = false) (hx : xs[k]? = some x) (hp : p x = false) : ∀ y ∈ xs.take (k + 1), p y = false := by
  intro y hy
  rw [List.take_add_one, hx] at hy
  rcases List.mem_append.1 hy with hy | hy
  · exact h y hy
  · simp at hy; rw [hy]; exact hp
theorem none_end {p : α → Bool} {xs : List α} {k : Nat} (h : ∀ y ∈ xs.take k, p y = false) (hk : xs.length ≤ k) : xs.filter (fun x => !p x) = xs := by
  rw [List.take_of_length_le hk] at h
  exact List.filter_eq_self.2 fun y hy => by simp [h y hy]
theorem dropOf_eq (l : List Rule) (v : Int) : dropOf l v = l.filter (fun x => !(x.ver == v)) := rfl
end Go.St
