/-
  The plain sense of package paths' search, and what it finds: the least of the cheapest paths that do what was asked for.
-/
import Derived.Test.YtpfapfgfchenoaaDoorTopoS
set_option linter.unusedSimpArgs false
set_option linter.unusedVariables false
namespace Go.St

def listBad (n src dst : Int) (had : List Int) : List Int → Int
  | [] => 0
  | s :: r => if s < 0 ∨ n ≤ s then 6 else if s = src ∨ s = dst then 8 else if s ∈ had then 7 else listBad n src dst (had ++ [s]) r
def flowBad (n : Int) (f : Flow) : Int :=
  if f.src < 0 ∨ n ≤ f.src ∨ f.dst < 0 ∨ n ≤ f.dst then 6 else if f.src = f.dst then 8
  else if listBad n f.src f.dst [] f.via ≠ 0 then listBad n f.src f.dst [] f.via
  else if listBad n f.src f.dst [] f.no ≠ 0 then listBad n f.src f.dst [] f.no
  else if f.via.any (fun s => decide (s ∈ f.no)) then 8 else 0
def flowsBad (n : Int) (i : Int) : List Flow → Int × Int
  | [] => (0, 0)
  | f :: r => if flowBad n f = 0 then flowsBad n (i + 1) r else (flowBad n f, i)
def flowsWrong (l : List Flow) (n : Int) : Int × Int := if 12 < l.length then (5, 0) else flowsBad n 0 l

def idxIn (x : Int) : List Int → Option Nat
  | [] => none
  | y :: r => if x = y then some 0 else (idxIn x r).map (· + 1)

abbrev Found := Option (List Int) × Int
/-- one child's step: 'rec' searches on -/
def childS (t : Topo) (f : Flow) (p : List Int) (cost : Int) (met : Nat) (rec : List Int → Int → Nat → Found → Found) (k : Nat) (st : Found) : Found :=
  let c := costOf t (p.getLastD 0) k
  if c = 0 ∨ (k : Int) ∈ p ∨ (k : Int) ∈ f.no then st
  else match idxIn (k : Int) f.via with
    | none => rec (p ++ [(k : Int)]) (cost + c) met st
    | some i => if i = met then rec (p ++ [(k : Int)]) (cost + c) (met + 1) st else st
/-- children from k on, so many -/
def childrenS (t : Topo) (f : Flow) (p : List Int) (cost : Int) (met : Nat) (rec : List Int → Int → Nat → Found → Found) : Nat → Found → Found
  | 0, st => st
  | k + 1, st => childS t f p cost met rec k (childrenS t f p cost met rec k st)
def onS (t : Topo) (f : Flow) : Nat → List Int → Int → Nat → Found → Found
  | 0, _, _, _, st => st
  | fuel + 1, p, cost, met, st =>
    if st.1.isSome ∧ st.2 < cost then st
    else if p.getLastD 0 = f.dst then (if met = f.via.length ∧ (st.1 = none ∨ cost < st.2) then (some p, cost) else st)
    else childrenS t f p cost met (onS t f fuel) t.n.toNat st
def findOf (t : Topo) (f : Flow) : List Int × Int :=
  if (topoWrong t).1 ≠ 0 then ([], (topoWrong t).1)
  else if (flowsWrong [f] t.n).1 ≠ 0 then ([], (flowsWrong [f] t.n).1)
  else match (onS t f 9 [f.src] 0 0 (none, 0)).1 with | none => ([], 9) | some p => (p, 0)

/-- over links, over no switch twice -/
def pathCost (t : Topo) : List Int → Int
  | [] => 0
  | [_] => 0
  | a :: b :: r => costOf t a b + pathCost t (b :: r)
def linked (t : Topo) : List Int → Bool
  | [] => true
  | [_] => true
  | a :: b :: r => decide (costOf t a b ≠ 0) && linked t (b :: r)
structure Good (t : Topo) (f : Flow) (q : List Int) : Prop where
  src : q.head? = some f.src
  dst : q.getLast? = some f.dst
  link : linked t q = true
  nodup : q.Nodup
  rng : ∀ s ∈ q, 0 ≤ s ∧ s < t.n
  no : ∀ s ∈ q, s ∉ f.no
  via : q.filter (fun s => decide (s ∈ f.via)) = f.via

def lexLe : List Int → List Int → Bool
  | [], _ => true
  | _ :: _, [] => false
  | a :: r, b :: s => decide (a < b) || (decide (a = b) && lexLe r s)
theorem lexLe_refl : ∀ l, lexLe l l = true
  | [] => rfl
  | a :: r => by simp [lexLe, lexLe_refl r]
theorem lexLe_fork (p : List Int) {a b : Int} (h : a < b) (r s : List Int) : lexLe (p ++ a :: r) (p ++ b :: s) = true := by
  induction p with
  | nil => simp [lexLe, h]
  | cons x p ih => simp [lexLe, ih]

/-- costs of links are not less than nought -/
def CostsOk (t : Topo) : Prop := ∀ a b, 0 ≤ costOf t a b

theorem pathCost_snoc (t : Topo) : ∀ (p : List Int) (k : Int), p ≠ [] → pathCost t (p ++ [k]) = pathCost t p + costOf t (p.getLastD 0) k
  | [], k, h => (h rfl).elim
  | [a], k, _ => by simp [pathCost]
  | a :: b :: r, k, _ => by
    have := pathCost_snoc t (b :: r) k (by simp)
    simp only [List.cons_append, pathCost] at this ⊢
    rw [this]
    have e : (a :: b :: r).getLastD 0 = (b :: r).getLastD 0 := by simp [List.getLastD_eq_getLast?]
    rw [e]; omega
theorem pathCost_nonneg {t : Topo} (h : CostsOk t) : ∀ p, 0 ≤ pathCost t p
  | [] => Int.le_refl 0
  | [_] => Int.le_refl 0
  | a :: b :: r => by have := pathCost_nonneg h (b :: r); have := h a b; simp only [pathCost]; omega
theorem pathCost_ext {t : Topo} (h : CostsOk t) : ∀ (p r : List Int), p ≠ [] → pathCost t p ≤ pathCost t (p ++ r)
  | [], _, h0 => (h0 rfl).elim
  | [a], r, _ => by simp only [pathCost]; exact pathCost_nonneg h _
  | a :: b :: p, r, _ => by
    have := pathCost_ext h (b :: p) r (by simp)
    simp only [List.cons_append, pathCost] at this ⊢
    omega
theorem linked_snoc (t : Topo) : ∀ (p : List Int) (k : Int), p ≠ [] → linked t (p ++ [k]) = (linked t p && decide (costOf t (p.getLastD 0) k ≠ 0))
  | [], k, h => (h rfl).elim
  | [a], k, _ => by simp [linked]
  | a :: b :: r, k, _ => by
    have := linked_snoc t (b :: r) k (by simp)
    simp only [List.cons_append, linked] at this ⊢
    rw [this]
    have e : (a :: b :: r).getLastD 0 = (b :: r).getLastD 0 := by simp [List.getLastD_eq_getLast?]
    rw [e, Bool.and_assoc]
theorem linked_left (t : Topo) : ∀ (p r : List Int), linked t (p ++ r) = true → linked t p = true
  | [], _, _ => rfl
  | [_], _, _ => rfl
  | a :: b :: p, r, h => by
    simp only [List.cons_append, linked, Bool.and_eq_true] at h ⊢
    exact ⟨h.1, linked_left t (b :: p) r h.2⟩

theorem idxIn_none {x : Int} : ∀ {l : List Int}, idxIn x l = none → x ∉ l
  | [], _ => by simp
  | y :: r, h => by
    unfold idxIn at h
    by_cases e : x = y
    · rw [if_pos e] at h; cases h
    · rw [if_neg e] at h
      have := idxIn_none (Option.map_eq_none_iff.1 h)
      simp [e, this]
theorem idxIn_some {x : Int} : ∀ {l : List Int} {i : Nat}, idxIn x l = some i → l[i]? = some x
  | [], _, h => by cases h
  | y :: r, i, h => by
    unfold idxIn at h
    by_cases e : x = y
    · rw [if_pos e] at h; cases h; simp [e]
    · rw [if_neg e] at h
      obtain ⟨j, h1, rfl⟩ := Option.map_eq_some_iff.1 h
      simpa using idxIn_some h1

/-- what holds of a part of a path that is searched on -/
structure Part (t : Topo) (f : Flow) (p : List Int) (cost : Int) (met : Nat) : Prop where
  src : p.head? = some f.src
  link : linked t p = true
  nodup : p.Nodup
  rng : ∀ s ∈ p, 0 ≤ s ∧ s < t.n
  no : ∀ s ∈ p, s ∉ f.no
  via : p.filter (fun s => decide (s ∈ f.via)) = f.via.take met
  le : met ≤ f.via.length
  cost : cost = pathCost t p

def Beats (t : Topo) (st : Found) (q : List Int) : Prop := ∃ b, st.1 = some b ∧ (st.2 < pathCost t q ∨ (st.2 = pathCost t q ∧ lexLe b q = true))
/-- what is found is good -/
def Sound (t : Topo) (f : Flow) (st : Found) : Prop := ∀ b, st.1 = some b → Good t f b ∧ st.2 = pathCost t b
/-- what is found stands ahead of all that goes on from p -/
def Ahead (st : Found) (p : List Int) : Prop := ∀ b, st.1 = some b → ∀ r, lexLe b (p ++ r) = true

theorem Part.ne {t : Topo} {f : Flow} {p : List Int} {cost : Int} {met : Nat} (h : Part t f p cost met) : p ≠ [] := by
  rintro rfl; have := h.src; cases this

theorem nodup_idx {l : List Int} (h : l.Nodup) {i j : Nat} (hi : i < l.length) (hj : j < l.length) (e : l[i] = l[j]) : i = j := by
  have hp := List.pairwise_iff_getElem.1 (List.nodup_iff_pairwise_ne.1 h)
  rcases Nat.lt_trichotomy i j with h1 | h1 | h1
  · exact absurd e (hp i j hi hj h1)
  · exact h1
  · exact absurd e.symm (hp j i hj hi h1)

theorem nodup_lt : ∀ (n : Nat) (p : List Nat), p.Nodup → (∀ x ∈ p, x < n) → p.length ≤ n
  | 0, p, _, h => by
    cases p with
    | nil => simp
    | cons a r => exact absurd (h a (by simp)) (by omega)
  | n + 1, p, hp, h => by
    by_cases hm : n ∈ p
    · have := nodup_lt n (p.erase n) (hp.erase n) fun x hx => by
        have h1 := (hp.mem_erase_iff).1 hx
        have := h x h1.2
        have := h1.1
        omega
      rw [List.length_erase_of_mem hm] at this
      omega
    · have := nodup_lt n p hp fun x hx => by
        have := h x hx
        have : x ≠ n := fun e => hm (e ▸ hx)
        omega
      omega

theorem nodup_len {n : Int} {p : List Int} (hp : p.Nodup) (hr : ∀ s ∈ p, 0 ≤ s ∧ s < n) : p.length ≤ n.toNat := by
  have h1 : (p.map Int.toNat).Nodup := by
    rw [List.nodup_iff_pairwise_ne, List.pairwise_map]
    refine List.Pairwise.imp_of_mem ?_ (List.nodup_iff_pairwise_ne.1 hp)
    intro a b ha hb hne he
    have := hr a ha; have := hr b hb
    exact hne (by omega)
  have := nodup_lt n.toNat (p.map Int.toNat) h1 fun x hx => by
    obtain ⟨a, ha, rfl⟩ := List.mem_map.1 hx
    have := hr a ha
    omega
  simpa using this

theorem last_of {p : List Int} (h : p ≠ []) : p.getLast? = some (p.getLastD 0) := by
  rw [List.getLastD_eq_getLast?, List.getLast?_eq_some_getLast h]; rfl

theorem Beats.of_cost {t : Topo} {st : Found} {q : List Int} {b : List Int} (h : st.1 = some b) (hc : st.2 < pathCost t q) : Beats t st q := ⟨b, h, .inl hc⟩

/-- what a search leaves -/
structure Leaves (t : Topo) (f : Flow) (p : List Int) (st st' : Found) : Prop where
  sound : Sound t f st'
  keeps : ∀ q, Beats t st q → Beats t st' q
  beats : ∀ r, Good t f (p ++ r) → Beats t st' (p ++ r)
  new : st' = st ∨ ∃ b r, st'.1 = some b ∧ b = p ++ r

theorem on_ok {t : Topo} {f : Flow} (hc : CostsOk t) (hv : f.via.Nodup) : ∀ (fuel : Nat) (p : List Int) (cost : Int) (met : Nat) (st : Found), Part t f p cost met → t.n.toNat + 1 ≤ fuel + p.length → Sound t f st → Ahead st p →
    Leaves t f p st (onS t f fuel p cost met st) := by
  intro fuel
  induction fuel with
  | zero =>
    intro p cost met st hp hl
    have := nodup_len hp.nodup hp.rng
    omega
  | succ fuel ih =>
    intro p cost met st hp hl hs ha
    unfold onS
    by_cases h1 : st.1.isSome ∧ st.2 < cost
    · rw [if_pos h1]
      obtain ⟨b, hb⟩ := Option.isSome_iff_exists.1 h1.1
      refine ⟨hs, fun q h => h, fun r hr => Beats.of_cost hb ?_, .inl rfl⟩
      have := pathCost_ext hc p r hp.ne
      have := hp.cost
      omega
    rw [if_neg h1]
    by_cases h2 : p.getLastD 0 = f.dst
    · rw [if_pos h2]
      have hend : ∀ r, Good t f (p ++ r) → r = [] := by
        intro r hr
        cases hrr : r with
        | nil => rfl
        | cons k r' =>
          subst hrr
          exfalso
          have hd := hr.dst
          rw [List.getLast?_append, List.getLast?_eq_some_getLast (by simp : k :: r' ≠ [])] at hd
          simp only [Option.some_or] at hd
          have m1 : f.dst ∈ k :: r' := by
            have := Option.some.inj hd
            rw [← this]; exact List.getLast_mem _
          have m2 : f.dst ∈ p := by
            have := last_of hp.ne
            rw [h2] at this
            exact List.mem_of_getLast? this
          exact (List.nodup_append.1 hr.nodup).2.2 _ m2 _ m1 rfl
      have hgp : met = f.via.length → Good t f p := fun hm =>
        ⟨hp.src, by rw [last_of hp.ne, h2], hp.link, hp.nodup, hp.rng, hp.no, by rw [hp.via, hm, List.take_length]⟩
      by_cases h3 : met = f.via.length ∧ (st.1 = none ∨ cost < st.2)
      · rw [if_pos h3]
        refine ⟨?_, ?_, ?_, .inr ⟨p, [], rfl, by simp⟩⟩
        · intro b hb
          cases hb
          exact ⟨hgp h3.1, hp.cost⟩
        · rintro q ⟨b, hb, hq⟩
          rcases h3.2 with h | h
          · rw [h] at hb; cases hb
          · exact ⟨p, rfl, .inl (by dsimp only; omega)⟩
        · intro r hr
          obtain rfl := hend r hr
          rw [List.append_nil]
          exact ⟨p, rfl, .inr ⟨hp.cost, lexLe_refl p⟩⟩
      · rw [if_neg h3]
        refine ⟨hs, fun q h => h, ?_, .inl rfl⟩
        intro r hr
        obtain rfl := hend r hr
        have hm : met = f.via.length := by
          have h4 := hr.via
          rw [List.append_nil, hp.via] at h4
          have := congrArg List.length h4
          rw [List.length_take] at this
          have := hp.le
          omega
        cases hb : st.1 with
        | none => exact absurd ⟨hm, .inl hb⟩ h3
        | some b =>
          have hge : st.2 ≤ cost := Int.not_lt.1 fun h => h3 ⟨hm, .inr h⟩
          have hpc := hp.cost
          have hl := ha b hb []
          refine ⟨b, hb, ?_⟩
          rw [List.append_nil] at hl ⊢
          rcases Int.lt_or_eq_of_le hge with h | h
          · exact .inl (by omega)
          · exact .inr ⟨by omega, hl⟩
    rw [if_neg h2]
    -- the children
    have main : ∀ m : Nat, m ≤ t.n.toNat → ∃ sm, sm = childrenS t f p cost met (onS t f fuel) m st ∧ Sound t f sm ∧ (∀ q, Beats t st q → Beats t sm q) ∧
        (∀ (k : Nat) (r : List Int), k < m → Good t f (p ++ (k : Int) :: r) → Beats t sm (p ++ (k : Int) :: r)) ∧ (sm = st ∨ ∃ b r, ∃ k : Nat, k < m ∧ sm.1 = some b ∧ b = p ++ (k : Int) :: r) := by
      intro m
      induction m with
      | zero => exact fun _ => ⟨st, rfl, hs, fun q h => h, fun k r hk => by omega, .inl rfl⟩
      | succ m ihm =>
        intro hm
        obtain ⟨sm, hsm, g1, g2, g3, g4⟩ := ihm (by omega)
        simp only [childrenS]
        rw [← hsm]
        -- no child: what stays
        have stay : (∀ r, ¬ Good t f (p ++ (m : Int) :: r)) → ∃ s', s' = sm ∧ Sound t f s' ∧ (∀ q, Beats t st q → Beats t s' q) ∧
            (∀ (k : Nat) (r : List Int), k < m + 1 → Good t f (p ++ (k : Int) :: r) → Beats t s' (p ++ (k : Int) :: r)) ∧ (s' = st ∨ ∃ b r, ∃ k : Nat, k < m + 1 ∧ s'.1 = some b ∧ b = p ++ (k : Int) :: r) := by
          intro hno
          refine ⟨sm, rfl, g1, g2, fun k r hk hg => ?_, g4.imp id fun ⟨b, r, k, hk, h⟩ => ⟨b, r, k, by omega, h⟩⟩
          by_cases hkm : k = m
          · subst hkm; exact absurd hg (hno r)
          · exact g3 k r (by omega) hg
        have ahead : Ahead sm (p ++ [(m : Int)]) := by
          intro b hb r
          rcases g4 with rfl | ⟨b', r', k, hk, hb', rfl⟩
          · have := ha b hb ((m : Int) :: r)
            simpa using this
          · rw [hb'] at hb
            cases hb
            have := lexLe_fork p (show (k : Int) < (m : Int) by omega) r' r
            simpa using this
        have go : ∀ met', Part t f (p ++ [(m : Int)]) (cost + costOf t (p.getLastD 0) m) met' → ∃ s', s' = onS t f fuel (p ++ [(m : Int)]) (cost + costOf t (p.getLastD 0) m) met' sm ∧ Sound t f s' ∧ (∀ q, Beats t st q → Beats t s' q) ∧
            (∀ (k : Nat) (r : List Int), k < m + 1 → Good t f (p ++ (k : Int) :: r) → Beats t s' (p ++ (k : Int) :: r)) ∧ (s' = st ∨ ∃ b r, ∃ k : Nat, k < m + 1 ∧ s'.1 = some b ∧ b = p ++ (k : Int) :: r) := by
          intro met' hpart
          have h := ih (p ++ [(m : Int)]) _ met' sm hpart (by simp; omega) g1 ahead
          refine ⟨_, rfl, h.sound, fun q hq => h.keeps q (g2 q hq), fun k r hk hg => ?_, ?_⟩
          · by_cases hkm : k = m
            · subst hkm
              have := h.beats r (by simpa using hg)
              simpa using this
            · exact h.keeps _ (g3 k r (by omega) hg)
          · rcases h.new with h0 | ⟨b, r, hb, rfl⟩
            · rw [h0]
              exact g4.imp id fun ⟨b, r, k, hk, h⟩ => ⟨b, r, k, by omega, h⟩
            · exact .inr ⟨_, r, m, by omega, hb, by simp⟩
        unfold childS
        dsimp only
        by_cases h3 : costOf t (p.getLastD 0) m = 0 ∨ (m : Int) ∈ p ∨ (m : Int) ∈ f.no
        · rw [if_pos h3]
          refine stay fun r hg => ?_
          rcases h3 with h3 | h3 | h3
          · have h5 := hg.link
            rw [show p ++ (m : Int) :: r = (p ++ [(m : Int)]) ++ r by simp] at h5
            have h6 := linked_left t _ _ h5
            rw [linked_snoc t p m hp.ne, Bool.and_eq_true, decide_eq_true_eq] at h6
            exact h6.2 h3
          · exact (List.nodup_append.1 hg.nodup).2.2 _ h3 _ (by simp) rfl
          · exact hg.no m (by simp) h3
        rw [if_neg h3]
        have c0 : costOf t (p.getLastD 0) m ≠ 0 := fun h => h3 (.inl h)
        have c1 : (m : Int) ∉ p := fun h => h3 (.inr (.inl h))
        have c2 : (m : Int) ∉ f.no := fun h => h3 (.inr (.inr h))
        have hsrc : (p ++ [(m : Int)]).head? = some f.src := by rw [List.head?_append, hp.src]; rfl
        have hlink : linked t (p ++ [(m : Int)]) = true := by rw [linked_snoc t p m hp.ne, hp.link, Bool.true_and, decide_eq_true_eq]; exact c0
        have hnd : (p ++ [(m : Int)]).Nodup := by
          rw [List.nodup_append]
          exact ⟨hp.nodup, List.nodup_cons.2 ⟨by simp, List.nodup_nil⟩, fun a ha b hb e => by
            have hb' : b = (m : Int) := by simpa using hb
            exact c1 (hb' ▸ e ▸ ha)⟩
        have hrng : ∀ s ∈ p ++ [(m : Int)], 0 ≤ s ∧ s < t.n := by
          intro s hs'
          rcases List.mem_append.1 hs' with h | h
          · exact hp.rng s h
          · simp at h; omega
        have hno : ∀ s ∈ p ++ [(m : Int)], s ∉ f.no := by
          intro s hs'
          rcases List.mem_append.1 hs' with h | h
          · exact hp.no s h
          · simp at h; subst h; exact c2
        have hcost : cost + costOf t (p.getLastD 0) m = pathCost t (p ++ [(m : Int)]) := by rw [pathCost_snoc t p m hp.ne, ← hp.cost]
        cases hi : idxIn (m : Int) f.via with
        | none =>
          have hnv := idxIn_none hi
          exact go met ⟨hsrc, hlink, hnd, hrng, hno, by rw [List.filter_append, hp.via]; simp [hnv], hp.le, hcost⟩
        | some i =>
          have hvi := idxIn_some hi
          have hmv : (m : Int) ∈ f.via := List.mem_of_getElem? hvi
          have hil := (List.getElem?_eq_some_iff.1 hvi).1
          dsimp only
          by_cases him : i = met
          · rw [if_pos him]
            subst him
            refine go (i + 1) ⟨hsrc, hlink, hnd, hrng, hno, ?_, by omega, hcost⟩
            rw [List.filter_append, hp.via, List.take_add_one, hvi]
            simp [hmv]
          · rw [if_neg him]
            refine stay fun r hg => him ?_
            have h5 := hg.via
            rw [List.filter_append, hp.via, List.filter_cons, if_pos (by simpa using hmv)] at h5
            have hl2 : (f.via.take met).length = met := by rw [List.length_take]; have := hp.le; omega
            have h6 : f.via[met]? = some (m : Int) := by
              rw [← h5, List.getElem?_append_right (by omega), hl2]; simp
            have hml := (List.getElem?_eq_some_iff.1 h6).1
            have e1 := (List.getElem?_eq_some_iff.1 hvi).2
            have e2 := (List.getElem?_eq_some_iff.1 h6).2
            exact nodup_idx hv hil hml (e1.trans e2.symm)
    obtain ⟨sm, hsm, g1, g2, g3, g4⟩ := main t.n.toNat (Nat.le_refl _)
    rw [← hsm]
    refine ⟨g1, g2, fun r hr => ?_, g4.imp id fun ⟨b, r, k, hk, hb, he⟩ => ⟨b, _, hb, he⟩⟩
    cases r with
    | nil =>
      exfalso
      rw [List.append_nil] at hr
      have := hr.dst
      rw [last_of hp.ne] at this
      exact h2 (Option.some.inj this)
    | cons k r =>
      have hk := hr.rng k (by simp)
      obtain ⟨j, rfl⟩ := Int.eq_ofNat_of_zero_le hk.1
      exact g3 j r (by omega) hr

end Go.St
