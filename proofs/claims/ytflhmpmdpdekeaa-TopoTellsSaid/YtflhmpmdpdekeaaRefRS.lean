/-
  Who is reached, as the document finds it: all links, as many times as there are switches.
-/
import Derived.Test.YtflhmpmdpdekeaaReachS
import Derived.Test.YtflhmpmdpdekeaaWayS
set_option linter.unusedSimpArgs false
set_option linter.unusedVariables false
namespace Go.St

def relax (p : Nat → Bool) (l : Link) : Nat → Bool := if p l.a.toNat || p l.b.toNat then fun i => p i || i == l.a.toNat || i == l.b.toNat else p
def roundsR (ls : List Link) : Nat → (Nat → Bool) → Nat → Bool
  | 0, p => p
  | k + 1, p => roundsR ls k (ls.foldl relax p)
theorem relax_le {p : Nat → Bool} {l : Link} {i : Nat} (h : p i = true) : relax p l i = true := by
  unfold relax; split <;> simp [h]
theorem fold_le {ls : List Link} : ∀ {p : Nat → Bool} {i : Nat}, p i = true → ls.foldl relax p i = true := by
  induction ls with
  | nil => exact fun h => h
  | cons l r ih => exact fun h => ih (relax_le h)
/-- all links have both ends or none -/
def Shut (ls : List Link) (p : Nat → Bool) : Prop := ∀ l ∈ ls, p l.a.toNat = p l.b.toNat
theorem relax_shut {p : Nat → Bool} {l : Link} (h : p l.a.toNat = p l.b.toNat) : relax p l = p := by
  funext i
  unfold relax
  split
  · rename_i h1
    rw [h, Bool.or_self] at h1
    by_cases h2 : i = l.a.toNat
    · subst h2; simp [h, h1]
    · by_cases h3 : i = l.b.toNat
      · subst h3; simp [h1]
      · show (p i || i == l.a.toNat || i == l.b.toNat) = p i
        rw [beq_false_of_ne h2, beq_false_of_ne h3, Bool.or_false, Bool.or_false]
  · rfl
theorem fold_shut {ls : List Link} {p : Nat → Bool} : Shut ls p → ls.foldl relax p = p := by
  induction ls with
  | nil => exact fun _ => rfl
  | cons l r ih =>
    intro h
    rw [List.foldl_cons, relax_shut (h l (by simp))]
    exact ih fun k hk => h k (List.mem_cons_of_mem _ hk)
theorem shut_fold {n : Nat} {ls : List Link} : ∀ {p : Nat → Bool}, (∀ l ∈ ls, l.a.toNat < n ∧ l.b.toNat < n) → (∀ i, i < n → ls.foldl relax p i = true → p i = true) → Shut ls p := by
  induction ls with
  | nil => intro p _ _ l hl; cases hl
  | cons l r ih =>
    intro p hn h
    have hl := hn l (by simp)
    have hs : p l.a.toNat = p l.b.toNat := by
      cases ha : p l.a.toNat <;> cases hb : p l.b.toNat
      · rfl
      · have := h l.a.toNat hl.1 (by rw [List.foldl_cons]; exact fold_le (by unfold relax; simp [ha, hb]))
        rw [ha] at this; exact this
      · have := h l.b.toNat hl.2 (by rw [List.foldl_cons]; exact fold_le (by unfold relax; simp [ha, hb]))
        rw [hb] at this; cases this
      · rfl
    have hr : relax p l = p := relax_shut hs
    intro k hk
    rcases List.mem_cons.1 hk with rfl | hk
    · exact hs
    · exact ih (p := p) (fun k hk => hn k (List.mem_cons_of_mem _ hk)) (fun i hi hh => h i hi (by rw [List.foldl_cons, hr]; exact hh)) k hk
theorem countP_lt {p q : Nat → Bool} : ∀ {l : List Nat}, (∀ x ∈ l, p x = true → q x = true) → (∃ x ∈ l, q x = true ∧ p x = false) → l.countP p < l.countP q
  | [], _, ⟨_, h, _⟩ => by cases h
  | a :: r, h, hx => by
    have hle : r.countP p ≤ r.countP q := List.countP_mono_left fun x hx => h x (List.mem_cons_of_mem _ hx)
    obtain ⟨x, hx1, hx2, hx3⟩ := hx
    rw [List.countP_cons, List.countP_cons]
    rcases List.mem_cons.1 hx1 with rfl | hx1
    · rw [if_pos hx2, if_neg (by simp [hx3])]; omega
    · have := countP_lt (l := r) (fun x hx => h x (List.mem_cons_of_mem _ hx)) ⟨x, hx1, hx2, hx3⟩
      have h1 := h a (by simp)
      by_cases ha : p a = true
      · rw [if_pos ha, if_pos (h1 ha)]; omega
      · rw [if_neg ha]; split <;> omega
theorem rounds_shut {n : Nat} {ls : List Link} (hn : ∀ l ∈ ls, l.a.toNat < n ∧ l.b.toNat < n) : ∀ (k : Nat) (p : Nat → Bool), n ≤ (List.range n).countP p + k → Shut ls (roundsR ls k p)
  | 0, p, h => by
    intro l hl
    have hall : ∀ i, i < n → p i = true := by
      have h1 : (List.range n).countP p = (List.range n).length := by
        have := List.countP_le_length (p := p) (l := List.range n)
        rw [List.length_range] at this ⊢
        omega
      intro i hi
      exact List.countP_eq_length.1 h1 i (List.mem_range.2 hi)
    show p _ = p _
    rw [hall _ (hn l hl).1, hall _ (hn l hl).2]
  | k + 1, p, h => by
    show Shut ls (roundsR ls k (ls.foldl relax p))
    by_cases hs : Shut ls p
    · rw [fold_shut hs]
      have hk : ∀ k, roundsR ls k p = p := by
        intro k
        induction k with
        | zero => rfl
        | succ k ih => show roundsR ls k (ls.foldl relax p) = p; rw [fold_shut hs]; exact ih
      rw [hk]; exact hs
    · refine rounds_shut hn k _ ?_
      have : ∃ i, i < n ∧ ls.foldl relax p i = true ∧ p i = false := by
        apply Classical.byContradiction
        intro hc
        exact hs (shut_fold hn fun i hi h1 => by
          cases h2 : p i with
          | true => rfl
          | false => exact absurd ⟨i, hi, h1, h2⟩ hc)
      obtain ⟨i, hi, h1, h2⟩ := this
      have := countP_lt (p := p) (q := ls.foldl relax p) (l := List.range n) (fun x _ hx => fold_le hx) ⟨i, List.mem_range.2 hi, h1, h2⟩
      omega
theorem rounds_le {ls : List Link} : ∀ {k : Nat} {p : Nat → Bool} {i : Nat}, p i = true → roundsR ls k p i = true
  | 0, _, _, h => h
  | k + 1, p, i, h => rounds_le (k := k) (fold_le h)
/-- what holds of the first ones, and goes along links, holds of all -/
theorem fold_inv {W : Nat → Prop} {ls : List Link} : ∀ {p : Nat → Bool}, (∀ l ∈ ls, (W l.a.toNat ↔ W l.b.toNat)) → (∀ i, p i = true → W i) → ∀ i, ls.foldl relax p i = true → W i := by
  induction ls with
  | nil => exact fun _ h => h
  | cons l r ih =>
    intro p hl h
    refine ih (fun k hk => hl k (List.mem_cons_of_mem _ hk)) fun i hi => ?_
    have h1 := hl l (by simp)
    unfold relax at hi
    split at hi
    · rename_i hc
      have hw : W l.a.toNat ∧ W l.b.toNat := by
        rw [Bool.or_eq_true] at hc
        rcases hc with hc | hc
        · exact ⟨h _ hc, h1.1 (h _ hc)⟩
        · exact ⟨h1.2 (h _ hc), h _ hc⟩
      simp only [Bool.or_eq_true, beq_iff_eq] at hi
      rcases hi with (hi | rfl) | rfl
      · exact h i hi
      · exact hw.1
      · exact hw.2
    · exact h i hi
theorem rounds_inv {W : Nat → Prop} {ls : List Link} (hl : ∀ l ∈ ls, (W l.a.toNat ↔ W l.b.toNat)) : ∀ {k : Nat} {p : Nat → Bool}, (∀ i, p i = true → W i) → ∀ i, roundsR ls k p i = true → W i
  | 0, _, h => h
  | k + 1, _, h => rounds_inv hl (k := k) (fold_inv hl h)

def isS (s : Int) : Nat → Bool := fun i => i == s.toNat
def pickI (p : Nat → Bool) (n : Nat) : List Int := ((List.range n).filter p).map (fun i : Nat => (i : Int))
theorem pickI_succ (p : Nat → Bool) (n : Nat) : pickI p (n + 1) = if p n = true then pickI p n ++ [(n : Int)] else pickI p n := by
  unfold pickI
  rw [List.range_succ, List.filter_append, List.filter_cons, List.filter_nil]
  split <;> simp
theorem pickI_len (p : Nat → Bool) (n : Nat) : (pickI p n).length ≤ n := by
  unfold pickI
  rw [List.length_map]
  have := List.length_filter_le p (List.range n)
  rw [List.length_range] at this
  exact this
theorem mem_pickI {p : Nat → Bool} {n : Nat} {x : Int} : x ∈ pickI p n ↔ (0 ≤ x ∧ x < n) ∧ p x.toNat = true := by
  unfold pickI
  simp only [List.mem_map, List.mem_filter, List.mem_range]
  constructor
  · rintro ⟨i, ⟨h1, h2⟩, rfl⟩
    exact ⟨⟨by omega, by omega⟩, by simpa using h2⟩
  · rintro ⟨⟨h1, h2⟩, h3⟩
    exact ⟨x.toNat, ⟨by omega, h3⟩, by omega⟩
theorem pickI_rising (p : Nat → Bool) (n : Nat) : (pickI p n).Pairwise (· < ·) := by
  unfold pickI
  refine List.Pairwise.map _ (fun a b h => ?_) (List.Pairwise.filter p List.pairwise_lt_range)
  omega

theorem ref_reaches {t : Topo} {s : Int} (ht : (topoWrong t).1 = 0) (h0 : 0 ≤ s) (h1 : s < t.n) : pickI (roundsR t.links t.n.toNat (isS s)) t.n.toNat = reaches t s := by
  obtain ⟨⟨hn1, hn2, _⟩, hls⟩ := topo_right ht
  have hcpos : ∀ l ∈ t.links, 0 < costOf t l.a l.b := by
    have hpos : ∀ k ∈ t.links, 0 < k.cost := fun k hk => by have := (hls k hk).c0; omega
    have : ∀ ls : List Link, (∀ k ∈ ls, 0 < k.cost) → ∀ l ∈ ls, 0 < costIn l.a l.b ls := by
      intro ls
      induction ls with
      | nil => intro _ l h; cases h
      | cons k r ih =>
        intro h1 l h2
        simp only [costIn]
        split
        · exact h1 k (by simp)
        · rename_i h3
          rcases List.mem_cons.1 h2 with rfl | h4
          · exact absurd (by simp [linkIs]) h3
          · exact ih (fun k hk => h1 k (List.mem_cons_of_mem _ hk)) l h4
    exact fun l hl => this t.links hpos l hl
  have hrg : ∀ l ∈ t.links, l.a.toNat < t.n.toNat ∧ l.b.toNat < t.n.toNat := fun l hl => by have := hls l hl; have := this.a0; have := (hls l hl).a1; have := (hls l hl).b0; have := (hls l hl).b1; omega
  have hcnt : t.n.toNat ≤ (List.range t.n.toNat).countP (isS s) + t.n.toNat := by omega
  have hshut := rounds_shut hrg t.n.toNat (isS s) hcnt
  generalize hc : roundsR t.links t.n.toNat (isS s) = c at hshut
  have hcs : c s.toNat = true := by rw [← hc]; exact rounds_le (by simp [isS])
  have hinv : ∀ i, c i = true → Way t s (i : Int) := by
    rw [← hc]
    refine rounds_inv (W := fun i => Way t s (i : Int)) (fun l hl => ?_) fun i hi => ?_
    · have ha := (hls l hl).a0
      have ha1 := (hls l hl).a1
      have hb := (hls l hl).b0
      have hb1 := (hls l hl).b1
      rw [show ((l.a.toNat : Nat) : Int) = l.a by omega, show ((l.b.toNat : Nat) : Int) = l.b by omega]
      exact ⟨fun h => h.step (hcpos l hl) hb hb1, fun h => h.step (by rw [cost_symm]; exact hcpos l hl) ha ha1⟩
    · simp only [isS, beq_iff_eq] at hi
      rw [hi, show ((s.toNat : Nat) : Int) = s by omega]
      exact .refl _
  have hall : ∀ x, Way t s x → (0 ≤ x ∧ x < t.n) ∧ c x.toNat = true := by
    intro x hx
    induction hx with
    | refl => exact ⟨⟨h0, h1⟩, hcs⟩
    | @step b d _ hc0 hd0 hd1 ih =>
      refine ⟨⟨hd0, hd1⟩, ?_⟩
      obtain ⟨l, hl, hi⟩ := costIn_src hc0
      have := hshut l hl
      simp only [linkIs, Bool.or_eq_true, Bool.and_eq_true, beq_iff_eq] at hi
      rcases hi with ⟨e1, e2⟩ | ⟨e1, e2⟩
      · rw [e1, e2] at this; rw [← this]; exact ih.2
      · rw [e1, e2] at this; rw [this]; exact ih.2
  refine sorted_eq (pickI_rising _ _) reaches_rising fun x => ?_
  rw [mem_pickI, mem_reaches ht h0 h1]
  constructor
  · rintro ⟨⟨hx0, hx1⟩, hx⟩
    have := hinv _ hx
    rwa [show ((x.toNat : Nat) : Int) = x by omega] at this
  · intro hx
    obtain ⟨⟨a1, a2⟩, a3⟩ := hall x hx
    exact ⟨⟨a1, by omega⟩, a3⟩
end Go.St
