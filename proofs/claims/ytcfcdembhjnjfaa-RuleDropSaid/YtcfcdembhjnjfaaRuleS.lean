/-
  Tables of rules, plainly.
-/
import Derived.Test.YtcfcdembhjnjfaaSortM
import Derived.Test.YtcfcdembhjnjfaaData
set_option linter.unusedSimpArgs false
set_option linter.unusedVariables false
namespace Go.St

def ruleLt (a b : Rule) : Bool := decide (a.ver < b.ver ∨ (a.ver = b.ver ∧ a.flow < b.flow))
theorem ruleLt_iff {a b : Rule} : ruleLt a b = true ↔ a.ver < b.ver ∨ (a.ver = b.ver ∧ a.flow < b.flow) := by simp [ruleLt]
theorem ruleLt_not {a b : Rule} : ruleLt a b = false ↔ b.ver < a.ver ∨ (a.ver = b.ver ∧ b.flow ≤ a.flow) := by
  simp only [ruleLt, decide_eq_false_iff_not]; omega
theorem ruleLt_weak : Weak ruleLt where
  irr a := by rw [ruleLt_not]; omega
  tra h g := by rw [ruleLt_iff] at *; omega
  neg h g := by rw [ruleLt_not] at *; omega

/-- the code's comparison -/
def cmpI (x y : Int) : Int := if x < y then -1 else if y < x then 1 else 0
def orderOf (a b : Rule) : Int := if cmpI a.ver b.ver ≠ 0 then cmpI a.ver b.ver else cmpI a.flow b.flow
theorem orderOf_lt (a b : Rule) : orderOf a b < 0 ↔ ruleLt a b = true := by
  rw [ruleLt_iff]; unfold orderOf cmpI
  by_cases h1 : a.ver < b.ver
  · rw [if_pos h1, if_pos (by decide)]; omega
  by_cases h2 : b.ver < a.ver
  · rw [if_neg h1, if_pos h2, if_pos (by decide)]; omega
  rw [if_neg h1, if_neg h2, if_neg (by decide)]
  by_cases h3 : a.flow < b.flow
  · rw [if_pos h3]; omega
  by_cases h4 : b.flow < a.flow
  · rw [if_neg h3, if_pos h4]; omega
  · rw [if_neg h3, if_neg h4]; omega
theorem orderOf_in (a b : Rule) : orderOf a b = -1 ∨ orderOf a b = 0 ∨ orderOf a b = 1 := by
  unfold orderOf cmpI
  repeat' split
  all_goals first | omega | simp_all

def ruleOut (r : Rule) : Prop := r.ver < 1 ∨ 1000 < r.ver ∨ r.flow < 0 ∨ 12 ≤ r.flow ∨ r.next < 0 ∨ 8 ≤ r.next
instance (r : Rule) : Decidable (ruleOut r) := by unfold ruleOut; infer_instance
/-- what is wrong from a rule on, with the one ahead of it -/
def tabGo : Int → Option Rule → List Rule → Int × Int
  | _, _, [] => (0, 0)
  | i, p, r :: l => if ruleOut r then (3, i) else if p.any (fun q => !ruleLt q r) = true then (2, i) else tabGo (i + 1) (some r) l
def tabWrong (l : List Rule) : Int × Int := if 16 < l.length then (10, 0) else tabGo 0 none l
def prevOf (l : List Rule) : Nat → Option Rule
  | 0 => none
  | j + 1 => l[j]?
theorem tab_step {l : List Rule} {j : Nat} {R : Int × Int} {r : Rule} (h : R = tabGo j (prevOf l j) (l.drop j)) (hr : l[j]? = some r) :
    R = if ruleOut r then (3, (j : Int)) else if (prevOf l j).any (fun q => !ruleLt q r) = true then (2, (j : Int)) else tabGo ((j + 1 : Nat) : Int) (prevOf l (j + 1)) (l.drop (j + 1)) := by
  obtain ⟨hj, rfl⟩ := List.getElem?_eq_some_iff.1 hr
  rw [h, List.drop_eq_getElem_cons hj, tabGo]
  simp only [prevOf, List.getElem?_eq_getElem hj]
  rfl
theorem tab_end {l : List Rule} {j : Nat} {R : Int × Int} (h : R = tabGo j (prevOf l j) (l.drop j)) (hj : l.length ≤ j) : R = (0, 0) := by
  rw [h, List.drop_of_length_le hj]; rfl

/-- right tables -/
structure TabOk (l : List Rule) : Prop where
  len : l.length ≤ 16
  rg : ∀ r ∈ l, ¬ ruleOut r
  up : l.Pairwise fun a b => ruleLt a b = true
theorem tabGo_zero : ∀ {l : List Rule} {i : Int} {p : Option Rule}, 0 ≤ i → ((tabGo i p l).1 = 0 ↔ (∀ r ∈ l, ¬ ruleOut r) ∧ (p.toList ++ l).Pairwise (fun a b => ruleLt a b = true))
  | [], i, p, _ => by cases p <;> simp [tabGo]
  | r :: l, i, p, hi => by
    rw [tabGo]
    by_cases h1 : ruleOut r
    · rw [if_pos h1]
      constructor
      · intro h; exact absurd (show (3 : Int) = 0 from h) (by decide)
      · intro h; exact absurd h1 (h.1 r (by simp))
    rw [if_neg h1]
    by_cases h2 : p.any (fun q => !ruleLt q r) = true
    · rw [if_pos h2]
      constructor
      · intro h; exact absurd (show (2 : Int) = 0 from h) (by decide)
      · rintro ⟨_, h⟩
        cases p with
        | none => simp at h2
        | some q =>
          have := (List.pairwise_cons.1 h).1 r (by simp)
          simp [this] at h2
    rw [if_neg h2, tabGo_zero (by omega)]
    have e0 : (∀ x ∈ r :: l, ¬ ruleOut x) ↔ ∀ x ∈ l, ¬ ruleOut x := by simp [h1]
    rw [e0]
    refine and_congr Iff.rfl ?_
    cases p with
    | none => simp
    | some q =>
      have hq : ruleLt q r = true := by simpa using h2
      simp only [Option.toList_some, List.cons_append, List.nil_append]
      constructor
      · intro h
        refine List.pairwise_cons.2 ⟨fun x hx => ?_, h⟩
        rcases List.mem_cons.1 hx with rfl | hx
        · exact hq
        · exact ruleLt_weak.tra hq ((List.pairwise_cons.1 h).1 x hx)
      · intro h; exact (List.pairwise_cons.1 h).2
theorem tab_ok {l : List Rule} : (tabWrong l).1 = 0 ↔ TabOk l := by
  unfold tabWrong
  by_cases h : 16 < l.length
  · rw [if_pos h]
    exact ⟨fun h => absurd h (by decide), fun g => by have := g.len; omega⟩
  · rw [if_neg h, tabGo_zero (by omega)]
    exact ⟨fun g => ⟨by omega, g.1, by simpa using g.2⟩, fun g => ⟨g.rg, by simpa using g.up⟩⟩

def nextOf (l : List Rule) (v f : Int) : Int × Bool := match l.find? (fun r => r.ver == v && r.flow == f) with
  | some r => (r.next, true)
  | none => (0, false)
theorem next_step {l : List Rule} {v f : Int} {j : Nat} {R : Int × Bool} {r : Rule} (h : R = nextOf (l.drop j) v f) (hr : l[j]? = some r) :
    R = if r.ver = v ∧ r.flow = f then (r.next, true) else nextOf (l.drop (j + 1)) v f := by
  obtain ⟨hj, rfl⟩ := List.getElem?_eq_some_iff.1 hr
  rw [h, List.drop_eq_getElem_cons hj]
  by_cases hc : l[j].ver = v ∧ l[j].flow = f
  · rw [if_pos hc]; unfold nextOf; rw [List.find?_cons_of_pos (by simp [hc.1, hc.2])]
  · rw [if_neg hc]; unfold nextOf; rw [List.find?_cons_of_neg (by simpa using hc)]
theorem next_end {l : List Rule} {v f : Int} {j : Nat} {R : Int × Bool} (h : R = nextOf (l.drop j) v f) (hj : l.length ≤ j) : R = (0, false) := by
  rw [h, List.drop_of_length_le hj]; rfl

def dropOf (l : List Rule) (v : Int) : List Rule := l.filter fun r => r.ver != v
theorem dropOf_ok {l : List Rule} (h : TabOk l) (v : Int) : TabOk (dropOf l v) :=
  ⟨Nat.le_trans (List.length_filter_le _ _) h.len, fun r hr => h.rg r (List.mem_filter.1 hr).1, h.up.filter _⟩
theorem next_drop_same (l : List Rule) (v f : Int) : nextOf (dropOf l v) v f = (0, false) := by
  unfold nextOf
  rw [show (dropOf l v).find? (fun r => r.ver == v && r.flow == f) = none from by
    rw [List.find?_eq_none]
    intro r hr
    have := (List.mem_filter.1 hr).2
    simp at this
    simp [this]]
theorem next_drop_other {l : List Rule} {v o f : Int} (h : o ≠ v) : nextOf (dropOf l v) o f = nextOf l o f := by
  unfold nextOf
  have : (dropOf l v).find? (fun r => r.ver == o && r.flow == f) = l.find? (fun r => r.ver == o && r.flow == f) := by
    unfold dropOf
    rw [List.find?_filter]
    congr 1
    funext r
    by_cases h1 : r.ver = o
    · subst h1; simp [h]; rfl
    · simp [h1]
  rw [this]
end Go.St
