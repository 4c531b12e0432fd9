/-
  The rules of a good plan, plainly.
-/
import Derived.Test.YtagldmdeohenjaaPlanS
import Derived.Test.YtagldmdeohenjaaOfS
import Derived.Test.YtagldmdeohenjaaSorts
set_option linter.unusedSimpArgs false
set_option linter.unusedVariables false
namespace Go.St

theorem mem_pathRules {v f s : Int} {x : Rule} : ∀ {p : List Int}, x ∈ pathRules v f s p ↔ x.ver = v ∧ x.flow = f ∧ ∃ k, p[k]? = some s ∧ p[k + 1]? = some x.next
  | [] => by simp [pathRules]
  | [a] => by
    simp [pathRules]
  | a :: b :: l => by
    rw [pathRules, List.mem_append, mem_pathRules (p := b :: l)]
    constructor
    · rintro (h | ⟨h1, h2, k, h3, h4⟩)
      · by_cases e : a = s
        · rw [if_pos e] at h
          obtain rfl := List.mem_singleton.1 h
          exact ⟨rfl, rfl, 0, by simp [e], by simp⟩
        · rw [if_neg e] at h; simp at h
      · exact ⟨h1, h2, k + 1, by simpa using h3, by simpa using h4⟩
    · rintro ⟨h1, h2, k, h3, h4⟩
      cases k with
      | zero =>
        left
        have e : a = s := by simpa using h3
        have e2 : b = x.next := by simpa using h4
        rw [if_pos e, List.mem_singleton]
        obtain ⟨xv, xf, xn⟩ := x
        simp at h1 h2 e2
        rw [h1, h2, e2]
      | succ k => exact .inr ⟨h1, h2, k, by simpa using h3, by simpa using h4⟩
theorem mem_rulesFrom {v s : Int} {x : Rule} : ∀ {ps : List (List Int)} {f : Int}, x ∈ rulesFrom v s f ps ↔ ∃ (i : Nat) (p : List Int), ps[i]? = some p ∧ x ∈ pathRules v (f + i) s p
  | [], f => by simp [rulesFrom]
  | p :: ps, f => by
    rw [rulesFrom, List.mem_append, mem_rulesFrom (ps := ps)]
    constructor
    · rintro (h | ⟨i, q, h1, h2⟩)
      · exact ⟨0, p, rfl, by simpa using h⟩
      · exact ⟨i + 1, q, by simpa using h1, by rw [show f + ((i + 1 : Nat) : Int) = f + 1 + (i : Int) by omega]; exact h2⟩
    · rintro ⟨i, q, h1, h2⟩
      cases i with
      | zero => obtain rfl : p = q := by simpa using h1
                exact .inl (by simpa using h2)
      | succ i => exact .inr ⟨i, q, by simpa using h1, by rw [show f + 1 + (i : Int) = f + ((i + 1 : Nat) : Int) by omega]; exact h2⟩
/-- a rule of a plan: a step of a path -/
theorem mem_rulesAt {p : Plan} {s : Int} {x : Rule} : x ∈ rulesAt p s ↔ x.ver = p.ver ∧ ∃ (i : Nat) (q : List Int) (k : Nat), p.paths[i]? = some q ∧ x.flow = i ∧ q[k]? = some s ∧ q[k + 1]? = some x.next := by
  unfold rulesAt
  rw [mem_rulesFrom]
  constructor
  · rintro ⟨i, q, h1, h2⟩
    obtain ⟨h3, h4, k, h5, h6⟩ := mem_pathRules.1 h2
    exact ⟨h3, i, q, k, h1, by omega, h5, h6⟩
  · rintro ⟨h3, i, q, k, h1, h4, h5, h6⟩
    exact ⟨i, q, h1, mem_pathRules.2 ⟨h3, by omega, k, h5, h6⟩⟩

theorem nodup_at {p : List Int} (h : p.Nodup) {i j : Nat} {x : Int} (hi : p[i]? = some x) (hj : p[j]? = some x) : i = j := by
  obtain ⟨h1, rfl⟩ := List.getElem?_eq_some_iff.1 hi
  obtain ⟨h2, e⟩ := List.getElem?_eq_some_iff.1 hj
  rcases Nat.lt_trichotomy i j with h3 | h3 | h3
  · exact absurd e.symm (List.pairwise_iff_getElem.1 h i j h1 h2 h3)
  · exact h3
  · exact absurd e (List.pairwise_iff_getElem.1 h j i h2 h1 h3)
theorem pathRules_short {v f s : Int} : ∀ {p : List Int}, p.Nodup → (pathRules v f s p).Pairwise (fun a b => ruleLt a b = true)
  | [], _ => by simp [pathRules]
  | [a], _ => by simp [pathRules]
  | a :: b :: l, h => by
    have ih := pathRules_short (v := v) (f := f) (s := s) (List.nodup_cons.1 h).2
    rw [pathRules]
    by_cases e : a = s
    · rw [if_pos e]
      have : pathRules v f s (b :: l) = [] := by
        rw [List.eq_nil_iff_forall_not_mem]
        intro x hx
        obtain ⟨_, _, k, h1, _⟩ := mem_pathRules.1 hx
        exact (List.nodup_cons.1 h).1 (by rw [e]; exact List.mem_of_getElem? h1)
      rw [this]; simp
    · rw [if_neg e]; exact ih
theorem rulesFrom_up {v s : Int} : ∀ {ps : List (List Int)} {f : Int}, (∀ p ∈ ps, p.Nodup) → (rulesFrom v s f ps).Pairwise (fun a b => ruleLt a b = true)
  | [], _, _ => by simp [rulesFrom]
  | p :: ps, f, h => by
    rw [rulesFrom]
    refine List.pairwise_append.2 ⟨pathRules_short (h p (by simp)), rulesFrom_up fun q hq => h q (List.mem_cons_of_mem _ hq), fun x hx y hy => ?_⟩
    obtain ⟨h1, h2, _⟩ := mem_pathRules.1 hx
    obtain ⟨i, q, _, h3⟩ := mem_rulesFrom.1 hy
    obtain ⟨h4, h5, _⟩ := mem_pathRules.1 h3
    rw [ruleLt_iff]; omega

/-! how many there are -/
def sumTo (g : Nat → Nat) : Nat → Nat
  | 0 => 0
  | n + 1 => sumTo g n + g n
theorem sumTo_add (g h : Nat → Nat) : ∀ n, sumTo (fun s => g s + h s) n = sumTo g n + sumTo h n
  | 0 => rfl
  | n + 1 => by simp only [sumTo, sumTo_add g h n]; omega
theorem sumTo_one (a : Int) : ∀ n : Nat, sumTo (fun s : Nat => if a = (s : Int) then 1 else 0) n = if 0 ≤ a ∧ a < n then 1 else 0
  | 0 => by
    rw [if_neg (by omega)]; rfl
  | n + 1 => by
    rw [sumTo, sumTo_one a n]
    by_cases h : a = (n : Int)
    · rw [if_pos h, if_neg (by omega), if_pos (by omega)]
    · rw [if_neg h]
      by_cases h2 : 0 ≤ a ∧ a < n
      · rw [if_pos h2, if_pos (by omega)]
      · rw [if_neg h2, if_neg (by omega)]
theorem sumTo_zero : ∀ n, sumTo (fun _ => 0) n = 0
  | 0 => rfl
  | n + 1 => by simp [sumTo, sumTo_zero n]
theorem sum_pathRules {v f : Int} {n : Nat} : ∀ {p : List Int}, (∀ x ∈ p, 0 ≤ x ∧ x < n) → sumTo (fun s : Nat => (pathRules v f s p).length) n = p.length - 1
  | [], _ => by simp [pathRules, sumTo_zero]
  | [a], _ => by simp [pathRules, sumTo_zero]
  | a :: b :: l, h => by
    have ih := sum_pathRules (v := v) (f := f) (p := b :: l) fun x hx => h x (List.mem_cons_of_mem _ hx)
    have e : (fun s : Nat => (pathRules v f s (a :: b :: l)).length) = fun s : Nat => (if a = (s : Int) then 1 else 0) + (pathRules v f s (b :: l)).length := by
      funext s
      rw [pathRules, List.length_append]
      split <;> simp
    rw [e, sumTo_add, ih, sumTo_one, if_pos (h a (by simp))]
    simp only [List.length_cons]; omega
def lessOne (ps : List (List Int)) : Nat := (ps.map fun p => p.length - 1).sum
theorem sum_rulesFrom {v : Int} {n : Nat} : ∀ {ps : List (List Int)} {f : Int}, (∀ p ∈ ps, ∀ x ∈ p, 0 ≤ x ∧ x < n) → sumTo (fun s : Nat => (rulesFrom v s f ps).length) n = lessOne ps
  | [], _, _ => by simp [rulesFrom, sumTo_zero, lessOne]
  | p :: ps, f, h => by
    have e : (fun s : Nat => (rulesFrom v s f (p :: ps)).length) = fun s : Nat => (pathRules v f s p).length + (rulesFrom v s (f + 1) ps).length := by
      funext s; rw [rulesFrom, List.length_append]
    rw [e, sumTo_add, sum_pathRules (h p (by simp)), sum_rulesFrom fun q hq => h q (List.mem_cons_of_mem _ hq)]
    simp [lessOne]
theorem pathRules_len {v f s : Int} : ∀ (p : List Int), (pathRules v f s p).length ≤ p.length
  | [] => by simp [pathRules]
  | [a] => by simp [pathRules]
  | a :: b :: l => by
    have := pathRules_len (v := v) (f := f) (s := s) (b :: l)
    rw [pathRules, List.length_append]
    simp only [List.length_cons] at *
    split <;> simp <;> omega
theorem rulesFrom_len {v s : Int} {k : Nat} : ∀ {ps : List (List Int)} {f : Int}, (∀ p ∈ ps, p.length ≤ k) → (rulesFrom v s f ps).length ≤ ps.length * k
  | [], _, _ => by simp [rulesFrom]
  | p :: ps, f, h => by
    have h1 := rulesFrom_len (v := v) (s := s) (f := f + 1) (ps := ps) fun q hq => h q (List.mem_cons_of_mem _ hq)
    have h2 := pathRules_len (v := v) (f := f) (s := s) p
    have h3 := h p (by simp)
    rw [rulesFrom, List.length_append, List.length_cons, Nat.add_mul]; omega

/-! good plans -/
theorem planGo_good {t : Topo} {v : Int} {all : List Flow} : ∀ {r : List Flow} {i : Int} {ps : List (List Int)}, 0 ≤ i → (planGo t v all i ps r).2.1 = 0 → (planGo t v all i ps r).1 = ⟨v, all, ps ++ r.map fun f => (findOf t f).1⟩ ∧ ∀ f ∈ r, (findOf t f).2 = 0
  | [], i, ps, _, _ => by simp [planGo]
  | f :: r, i, ps, hi, h => by
    rw [planGo] at h ⊢
    by_cases h0 : (findOf t f).2 = 0
    · rw [if_pos h0] at h ⊢
      obtain ⟨h1, h2⟩ := planGo_good (by omega) h
      refine ⟨by rw [h1]; simp, fun g hg => ?_⟩
      rcases List.mem_cons.1 hg with rfl | hg
      · exact h0
      · exact h2 g hg
    · rw [if_neg h0] at h; exact absurd h h0
structure PlanOk (t : Topo) (v : Int) (l : List Flow) (p : Plan) : Prop where
  topo : (topoWrong t).1 = 0
  n1 : 1 ≤ t.n
  n8 : t.n ≤ 8
  v1 : 1 ≤ v
  v2 : v ≤ 1000
  len : l.length ≤ 12
  ver : p.ver = v
  flows : p.flows = l
  plen : p.paths.length = l.length
  good : ∀ (i : Nat) (f : Flow) (q : List Int), l[i]? = some f → p.paths[i]? = some q → (findOf t f).2 = 0 ∧ q = (findOf t f).1 ∧ Good t f q
theorem plan_ok {t : Topo} {v : Int} {l : List Flow} (h : (planOf t v l).2.1 = 0) : PlanOk t v l (planOf t v l).1 := by
  unfold planOf at *
  by_cases h1 : (topoWrong t).1 = 0
  case neg => rw [if_pos h1] at h; exact absurd h h1
  rw [if_neg (by simpa using h1)] at h ⊢
  by_cases h2 : v < 1 ∨ 1000 < v
  · rw [if_pos h2] at h; exact absurd (show (3 : Int) = 0 from h) (by decide)
  rw [if_neg h2] at h ⊢
  by_cases h3 : (flowsWrong l t.n).1 = 0
  case neg => rw [if_pos h3] at h; exact absurd h h3
  rw [if_neg (by simpa using h3)] at h ⊢
  obtain ⟨h4, h5⟩ := planGo_good (Int.le_refl 0) h
  rw [h4, List.nil_append]
  have hn : ¬ (t.n < 1 ∨ 8 < t.n ∨ 28 < t.links.length) := fun hc => by
    unfold topoWrong at h1; rw [if_pos hc] at h1; exact absurd (show (5 : Int) = 0 from h1) (by decide)
  have hl : ¬ 12 < l.length := fun hc => by
    unfold flowsWrong at h3; rw [if_pos hc] at h3; exact absurd (show (5 : Int) = 0 from h3) (by decide)
  refine ⟨h1, by omega, by omega, by omega, by omega, by omega, rfl, rfl, by simp, fun i f q hf hq => ?_⟩
  have e : q = (findOf t f).1 := by
    simp only [List.getElem?_map, hf, Option.map_some, Option.some.injEq] at hq
    exact hq.symm
  have h0 := h5 f (List.mem_of_getElem? hf)
  exact ⟨h0, e, e ▸ (find_good h0).2.2.1⟩
section
variable {t : Topo} {v : Int} {l : List Flow} {p : Plan}
theorem PlanOk.at (h : PlanOk t v l p) {i : Nat} {q : List Int} (hq : p.paths[i]? = some q) : ∃ f, l[i]? = some f ∧ Good t f q := by
  have hi := (List.getElem?_eq_some_iff.1 hq).1
  rw [h.plen] at hi
  exact ⟨_, List.getElem?_eq_getElem hi, (h.good i _ q (List.getElem?_eq_getElem hi) hq).2.2⟩
theorem PlanOk.mem (h : PlanOk t v l p) {q : List Int} (hq : q ∈ p.paths) : ∃ f, Good t f q := by
  obtain ⟨i, hi⟩ := List.getElem?_of_mem hq
  obtain ⟨f, _, hg⟩ := h.at hi
  exact ⟨f, hg⟩
theorem PlanOk.rise (h : PlanOk t v l p) (s : Int) : (rulesAt p s).Pairwise (fun a b => ruleLt a b = true) :=
  rulesFrom_up fun q hq => let ⟨_, hg⟩ := h.mem hq; hg.nodup
theorem PlanOk.plen8 (h : PlanOk t v l p) {q : List Int} (hq : q ∈ p.paths) : 1 ≤ q.length ∧ q.length ≤ 8 := by
  obtain ⟨f, hg⟩ := h.mem hq
  have h8 := h.n8
  refine ⟨?_, ?_⟩
  · have := hg.src
    cases q with
    | nil => simp at this
    | cons a b => simp
  · have h1 := nodup_len hg.nodup hg.rng
    omega
theorem PlanOk.short (h : PlanOk t v l p) (s : Int) : (rulesAt p s).length ≤ 96 := by
  have h1 := rulesFrom_len (v := p.ver) (s := s) (f := 0) (ps := p.paths) (k := 8) fun q hq => (h.plen8 hq).2
  have h2 := h.plen
  have h3 := h.len
  unfold rulesAt
  omega
theorem PlanOk.out (h : PlanOk t v l p) {s : Int} {r : Rule} (hr : r ∈ rulesAt p s) : ¬ ruleOut r := by
  obtain ⟨h1, i, q, k, h2, h3, h4, h5⟩ := mem_rulesAt.1 hr
  obtain ⟨f, hf, hg⟩ := h.at h2
  have h6 := (List.getElem?_eq_some_iff.1 hf).1
  have h7 := hg.rng _ (List.mem_of_getElem? h5)
  have := h.n8; have := h.v1; have := h.v2; have := h.ver; have := h.len
  unfold ruleOut; omega
theorem PlanOk.tab (h : PlanOk t v l p) {s : Int} (hl : (rulesAt p s).length ≤ 16) : TabOk (rulesAt p s) := ⟨hl, fun r hr => h.out hr, h.rise s⟩
theorem PlanOk.count (h : PlanOk t v l p) : sumTo (fun s : Nat => (rulesAt p s).length) t.n.toNat = lessOne p.paths := by
  have h1 := h.n1
  refine sum_rulesFrom fun q hq x hx => ?_
  obtain ⟨f, hg⟩ := h.mem hq
  have := hg.rng x hx
  omega
end
theorem lessOne_step {ps : List (List Int)} {j : Nat} {q : List Int} (h : ps[j]? = some q) : lessOne (ps.drop j) = (q.length - 1) + lessOne (ps.drop (j + 1)) := by
  obtain ⟨hj, rfl⟩ := List.getElem?_eq_some_iff.1 h
  rw [List.drop_eq_getElem_cons hj]; rfl
theorem lessOne_end {ps : List (List Int)} {j : Nat} (h : ps.length ≤ j) : lessOne (ps.drop j) = 0 := by
  rw [List.drop_of_length_le h]; rfl
end Go.St
