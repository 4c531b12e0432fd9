/-
  The document's way to the best path, plainly: all paths, and the first one of those that cost least.
-/
import Derived.Test.YtflhmpmdpdekeaaAllS
import Derived.Test.YtflhmpmdpdekeaaServeS
import Derived.Test.YtflhmpmdpdekeaaPathPS
set_option linter.unusedSimpArgs false
set_option linter.unusedVariables false
namespace Go.St

theorem lexLe_antisymm : ∀ {a b : List Int}, lexLe a b = true → lexLe b a = true → a = b
  | [], [], _, _ => rfl
  | [], _ :: _, _, h => by simp [lexLe] at h
  | _ :: _, [], h, _ => by simp [lexLe] at h
  | x :: a, y :: b, h1, h2 => by
    simp only [lexLe, Bool.or_eq_true, Bool.and_eq_true, decide_eq_true_eq] at h1 h2
    rcases h1 with h1 | ⟨rfl, h1⟩
    · rcases h2 with h2 | ⟨h3, _⟩ <;> omega
    · rcases h2 with h2 | ⟨_, h2⟩
      · omega
      · rw [lexLe_antisymm h1 h2]
theorem lexLe_fork2 {a b : Int} (h : a < b) (r s : List Int) : ∀ p : List Int, lexLe (p ++ a :: r) (p ++ b :: s) = true
  | [] => by simp [lexLe, h]
  | x :: p => by
    have := lexLe_fork2 h r s p
    simp [lexLe, this]
theorem allUp_mem {t : Topo} {rest : List Int → List (List Int)} {p q : List Int} : ∀ {k : Nat}, q ∈ allUp t rest p k ↔ ∃ j : Nat, j < k ∧ (j : Int) ∉ p ∧ 0 < costOf t (p.getLastD 0) j ∧ q ∈ rest (p ++ [(j : Int)])
  | 0 => by simp [allUp]
  | k + 1 => by
    unfold allUp
    have ih := allUp_mem (t := t) (rest := rest) (p := p) (q := q) (k := k)
    split
    · rename_i h
      rw [List.mem_append, ih]
      constructor
      · rintro (⟨j, h1, h2⟩ | h1)
        · exact ⟨j, by omega, h2⟩
        · exact ⟨k, by omega, h.1, h.2, h1⟩
      · rintro ⟨j, h1, h2, h3, h4⟩
        by_cases hj : j < k
        · exact .inl ⟨j, hj, h2, h3, h4⟩
        · obtain rfl : j = k := by omega
          exact .inr h4
    · rename_i h
      rw [ih]
      constructor
      · rintro ⟨j, h1, h2⟩; exact ⟨j, by omega, h2⟩
      · rintro ⟨j, h1, h2, h3, h4⟩
        by_cases hj : j < k
        · exact ⟨j, hj, h2, h3, h4⟩
        · obtain rfl : j = k := by omega
          exact absurd ⟨h2, h3⟩ h
theorem allP_pre {t : Topo} {to : Int} : ∀ (f : Nat) (p q : List Int), q ∈ allP t to f p → p <+: q
  | 0, _, _, h => by simp [allP] at h
  | f + 1, p, q, h => by
    unfold allP at h
    split at h
    · rw [List.mem_singleton.1 h]; exact List.prefix_refl _
    · obtain ⟨j, _, _, _, h4⟩ := allUp_mem.1 h
      exact (List.prefix_append p [(j : Int)]).trans (allP_pre f _ _ h4)
theorem allP_sorted {t : Topo} {to : Int} : ∀ (f : Nat) (p : List Int), (allP t to f p).Pairwise (fun a b => lexLe a b = true)
  | 0, _ => List.Pairwise.nil
  | f + 1, p => by
    unfold allP
    split
    · exact List.pairwise_singleton _ _
    · generalize t.n.toNat = k
      induction k with
      | zero => exact List.Pairwise.nil
      | succ k ih =>
        unfold allUp
        split
        · refine List.pairwise_append.2 ⟨ih, allP_sorted f _, fun a ha b hb => ?_⟩
          obtain ⟨j, h1, _, _, h4⟩ := allUp_mem.1 ha
          obtain ⟨r, rfl⟩ := allP_pre f _ _ h4
          obtain ⟨s, rfl⟩ := allP_pre f _ _ hb
          rw [List.append_assoc, List.append_assoc]
          exact lexLe_fork2 (by omega) r s p
        · exact ih
theorem allP_sound {t : Topo} {to : Int} : ∀ (f : Nat) (p q : List Int), q ∈ allP t to f p → p ≠ [] → p.Nodup → (∀ s ∈ p, 0 ≤ s ∧ s < t.n) → linked t p = true →
    q.getLast? = some to ∧ q.Nodup ∧ (∀ s ∈ q, 0 ≤ s ∧ s < t.n) ∧ linked t q = true
  | 0, _, _, h, _, _, _, _ => by simp [allP] at h
  | f + 1, p, q, h, hne, hnd, hrg, hl => by
    unfold allP at h
    split at h
    · rename_i hlast
      rw [List.mem_singleton.1 h]
      refine ⟨?_, hnd, hrg, hl⟩
      rw [List.getLastD_eq_getLast?, List.getLast?_eq_some_getLast hne] at hlast
      rw [List.getLast?_eq_some_getLast hne]
      exact congrArg some hlast
    · obtain ⟨j, h1, h2, h3, h4⟩ := allUp_mem.1 h
      refine allP_sound f _ q h4 (by simp) ?_ ?_ ?_
      · rw [List.nodup_append]
        exact ⟨hnd, by simp, by intro a ha b hb; simp at hb; rw [hb]; exact fun e => h2 (e ▸ ha)⟩
      · intro s hs
        rcases List.mem_append.1 hs with hs | hs
        · exact hrg s hs
        · simp at hs; omega
      · rw [linked_snoc t _ _ hne, hl, Bool.true_and, decide_eq_true_eq]
        omega
theorem allP_complete {t : Topo} {to : Int} (hc : CostsOk t) : ∀ (f : Nat) (p q : List Int), p ≠ [] → p <+: q → q.Nodup → (∀ s ∈ q, 0 ≤ s ∧ s < t.n) → linked t q = true → q.getLast? = some to → q.length < p.length + f → q ∈ allP t to f p
  | 0, p, q, _, hp, _, _, _, _, hl => absurd hp.length_le (by omega)
  | f + 1, p, q, hne, ⟨r, hr⟩, hnd, hrg, hlk, hlast, hl => by
    unfold allP
    have hpl : p.getLastD 0 = p.getLast hne := by rw [List.getLastD_eq_getLast?, List.getLast?_eq_some_getLast hne]; rfl
    cases r with
    | nil =>
      rw [List.append_nil] at hr
      subst hr
      rw [if_pos (by rw [hpl]; rw [List.getLast?_eq_some_getLast hne] at hlast; exact Option.some.inj hlast)]
      simp
    | cons s r =>
      have hto : to ∈ s :: r := by
        rw [← hr, List.getLast?_append, List.getLast?_eq_some_getLast (by simp : s :: r ≠ [])] at hlast
        have : (s :: r).getLast (by simp) = to := by simpa using hlast
        rw [← this]
        exact List.getLast_mem _
      have hnd' := hnd
      rw [← hr] at hnd'
      obtain ⟨_, _, hdis⟩ := List.nodup_append.1 hnd'
      rw [if_neg (by rw [hpl]; exact fun e => hdis _ (List.getLast_mem hne) _ hto e)]
      have hs := hrg s (by rw [← hr]; simp)
      refine allUp_mem.2 ⟨s.toNat, by omega, ?_, ?_, ?_⟩
      · rw [show ((s.toNat : Nat) : Int) = s by omega]
        exact fun hm => hdis _ hm s (by simp) rfl
      · rw [show ((s.toNat : Nat) : Int) = s by omega]
        have hlk2 : linked t (p ++ [s]) = true := by
          have : linked t ((p ++ [s]) ++ r) = true := by rw [List.append_assoc]; show linked t (p ++ s :: r) = true; rw [hr]; exact hlk
          exact linked_left t _ _ this
        rw [linked_snoc t _ _ hne] at hlk2
        simp only [Bool.and_eq_true, decide_eq_true_eq] at hlk2
        have := hc (p.getLastD 0) s
        omega
      · rw [show ((s.toNat : Nat) : Int) = s by omega]
        exact allP_complete hc f (p ++ [s]) q (by simp) ⟨r, by rw [List.append_assoc]; exact hr⟩ hnd hrg hlk hlast (by simp; omega)

theorem serves_from {f : Flow} : ∀ (r : List Int) (met : Nat), (∀ s ∈ r, s ∉ f.no) → r.filter (fun s => decide (s ∈ f.via)) = f.via.drop met → met ≤ f.via.length → servesFrom f met r = true
  | [], met, _, h, hm => by
    simp only [List.filter_nil] at h
    have := congrArg List.length h
    simp at this
    simp [servesFrom]
    omega
  | s :: r, met, hno, h, hm => by
    unfold servesFrom
    rw [if_neg (hno s (by simp))]
    by_cases hv : s ∈ f.via
    · rw [if_pos hv]
      rw [List.filter_cons, if_pos (by simpa using hv)] at h
      have hml : met < f.via.length := by
        have := congrArg List.length h
        simp at this
        omega
      rw [List.drop_eq_getElem_cons hml] at h
      obtain ⟨h1, h2⟩ := List.cons.inj h
      rw [if_pos (by rw [List.getElem?_eq_getElem hml, h1])]
      exact serves_from r (met + 1) (fun x hx => hno x (List.mem_cons_of_mem _ hx)) h2 hml
    · rw [if_neg hv]
      rw [List.filter_cons, if_neg (by simpa using hv)] at h
      exact serves_from r met (fun x hx => hno x (List.mem_cons_of_mem _ hx)) h hm
theorem good_servesB {t : Topo} {f : Flow} {p : List Int} (ht : (topoWrong t).1 = 0) (h : Good t f p) : servesB t f p = true := by
  unfold servesB
  rw [good_length ht h, serves_from p 0 h.no (by simpa using h.via) (Nat.zero_le _)]
  simp [h.src, h.dst]

/-- the better one -/
def better (t : Topo) (f : Flow) (b p : List Int) : List Int := if servesB t f p = true ∧ (b = [] ∨ (lengthOf t p).1 < (lengthOf t b).1) then p else b
structure BestR (t : Topo) (f : Flow) (L : List (List Int)) (b : List Int) : Prop where
  none : b = [] → ∀ p ∈ L, servesB t f p = false
  some : b ≠ [] → b ∈ L ∧ servesB t f b = true ∧ ∀ p ∈ L, servesB t f p = true → (lengthOf t b).1 < (lengthOf t p).1 ∨ ((lengthOf t b).1 = (lengthOf t p).1 ∧ lexLe b p = true)
theorem BestR.step {t : Topo} {f : Flow} {L : List (List Int)} {b p : List Int} (h : BestR t f L b) (hp : p ≠ []) (hs : ∀ q ∈ L, lexLe q p = true) : BestR t f (L ++ [p]) (better t f b p) := by
  unfold better
  by_cases h1 : servesB t f p = true ∧ (b = [] ∨ (lengthOf t p).1 < (lengthOf t b).1)
  · rw [if_pos h1]
    refine ⟨fun h => absurd h hp, fun _ => ⟨by simp, h1.1, fun q hq hsq => ?_⟩⟩
    rcases List.mem_append.1 hq with hq | hq
    · by_cases hb : b = []
      · rw [h.none hb q hq] at hsq; cases hsq
      · have := (h.some hb).2.2 q hq hsq
        have := h1.2.resolve_left hb
        omega
    · simp only [List.mem_singleton] at hq
      subst hq
      exact .inr ⟨rfl, lexLe_refl _⟩
  · rw [if_neg h1]
    refine ⟨fun hb q hq => ?_, fun hb => ⟨by simp [(h.some hb).1], (h.some hb).2.1, fun q hq hsq => ?_⟩⟩
    · rcases List.mem_append.1 hq with hq | hq
      · exact h.none hb q hq
      · simp only [List.mem_singleton] at hq
        subst hq
        cases hv : servesB t f q with
        | false => rfl
        | true => exact absurd ⟨hv, .inl hb⟩ h1
    · rcases List.mem_append.1 hq with hq | hq
      · exact (h.some hb).2.2 q hq hsq
      · simp only [List.mem_singleton] at hq
        subst hq
        have h2 : ¬ (lengthOf t q).1 < (lengthOf t b).1 := fun h3 => h1 ⟨hsq, .inr h3⟩
        have h3 := hs b (h.some hb).1
        by_cases h4 : (lengthOf t b).1 = (lengthOf t q).1
        · exact .inr ⟨h4, h3⟩
        · exact .inl (by omega)

theorem find_best {t : Topo} {f : Flow} {b : List Int} (ht : (topoWrong t).1 = 0) (hf : (flowsWrong [f] t.n).1 = 0) (h : BestR t f (allP t f.dst 8 [f.src]) b) : findOf t f = (b, if b = [] then 9 else 0) := by
  have hc : CostsOk t := fun a b => (cost_range ht a b).1
  have hfo := flowBad_zero (flows1 ▸ hf)
  have hn := (topo_right ht).1.2.1
  have hmem : ∀ q, Good t f q → q ∈ allP t f.dst 8 [f.src] := fun q hq => by
    refine allP_complete hc 8 [f.src] q (by simp) ?_ hq.nodup hq.rng hq.link hq.dst ?_
    · have := hq.src
      cases q with
      | nil => cases this
      | cons x q => simp at this; rw [this]; exact ⟨q, rfl⟩
    · have := nodup_len hq.nodup hq.rng
      simp
      omega
  have h9 : (findOf t f).2 = 0 ∨ findOf t f = ([], 9) := by
    unfold findOf
    rw [if_neg (by simp [ht]), if_neg (by simp [hf])]
    split
    · exact .inr rfl
    · exact .inl rfl
  rcases h9 with h9 | h9
  · obtain ⟨_, _, hg, hmin⟩ := find_good h9
    have hb : b ≠ [] := fun hb => by
      have := h.none hb _ (hmem _ hg)
      rw [good_servesB ht hg] at this
      cases this
    obtain ⟨b1, b2, b3⟩ := h.some hb
    have hgb := serves_good b2
    have e1 := hmin b hgb
    have e2 := b3 _ (hmem _ hg) (good_servesB ht hg)
    rw [good_length ht hg, good_length ht hgb] at e2
    dsimp only at e2
    have : (findOf t f).1 = b := by
      rcases e1 with e1 | ⟨e1, e1'⟩
      · rcases e2 with e2 | ⟨e2, _⟩ <;> omega
      · rcases e2 with e2 | ⟨_, e2⟩
        · omega
        · exact lexLe_antisymm e1' e2
    rw [if_neg hb, ← this, ← h9]
  · have hno : ∀ q, ¬ Good t f q := find_none (by rw [h9])
    have hb : b = [] := by
      apply Classical.byContradiction
      intro hb
      exact hno b (serves_good (h.some hb).2.1)
    rw [hb, if_pos rfl, h9]
theorem all_ne {t : Topo} {to s : Int} {p : List Int} (h : p ∈ allP t to 8 [s]) : p ≠ [] := by
  obtain ⟨r, rfl⟩ := allP_pre 8 _ _ h
  simp
theorem all_before {t : Topo} {to s : Int} {j : Nat} {p q : List Int} (hp : (allP t to 8 [s])[j]? = some p) (hq : q ∈ (allP t to 8 [s]).take j) : lexLe q p = true := by
  have h := allP_sorted (t := t) (to := to) 8 [s]
  obtain ⟨hj, rfl⟩ := List.getElem?_eq_some_iff.1 hp
  obtain ⟨i, hi, rfl⟩ := List.mem_iff_getElem.1 hq
  rw [List.getElem_take]
  exact List.pairwise_iff_getElem.1 h i j (by simp at hi; omega) hj (by simp at hi; omega)
theorem BestR.start (t : Topo) (f : Flow) (L : List (List Int)) : BestR t f (L.take 0) [] := ⟨by simp, fun h => absurd rfl h⟩
end Go.St
