/-
  The states of sorting in place, plainly.
-/
import Derived.Test.YtcfcdembhjnjfaaRuleRow
set_option linter.unusedSimpArgs false
set_option linter.unusedVariables false
namespace Go.St
variable {α : Type} {lt : α → α → Bool}

theorem set_at (p r : List α) (x y : α) {i : Nat} (hi : i = p.length) : (p ++ x :: r).set i y = p ++ y :: r := by
  subst hi; rw [List.set_append_right _ _ (Nat.le_refl _), Nat.sub_self]; rfl
theorem get_at (p r : List α) (x : α) {i : Nat} (hi : i = p.length) : (p ++ x :: r)[i]? = some x := by
  subst hi; rw [List.getElem?_append_right (Nat.le_refl _), Nat.sub_self]; rfl
/-- two exchanged -/
theorem swap_at (p q r : List α) (x y : α) {i j : Nat} (hi : i = p.length) (hj : j = p.length + 1 + q.length) :
    ((p ++ x :: (q ++ y :: r)).set i y).set j x = p ++ y :: (q ++ x :: r) := by
  rw [set_at p _ x y hi, show p ++ y :: (q ++ y :: r) = (p ++ y :: q) ++ y :: r by simp, set_at (p ++ y :: q) _ y x (by simp; omega)]
  simp
theorem swap_at' (p q r : List α) (x y : α) {i j : Nat} (hi : i = p.length) (hj : j = p.length + 1 + q.length) :
    ((p ++ x :: (q ++ y :: r)).set j x).set i y = p ++ y :: (q ++ x :: r) := by
  rw [show p ++ x :: (q ++ y :: r) = (p ++ x :: q) ++ y :: r by simp, set_at (p ++ x :: q) _ y x (by simp; omega), show (p ++ x :: q) ++ x :: r = p ++ x :: (q ++ x :: r) by simp, set_at p _ x y hi]
/-- a list parted at two places -/
theorem two_at {zs : List α} {i j : Nat} {x y : α} (hij : i < j) (hx : zs[i]? = some x) (hy : zs[j]? = some y) :
    ∃ p q r, zs = p ++ x :: (q ++ y :: r) ∧ p.length = i ∧ p.length + 1 + q.length = j := by
  obtain ⟨hi, rfl⟩ := List.getElem?_eq_some_iff.1 hx
  obtain ⟨hj, rfl⟩ := List.getElem?_eq_some_iff.1 hy
  refine ⟨zs.take i, (zs.drop (i + 1)).take (j - i - 1), zs.drop (j + 1), ?_, by simp; omega, by simp; omega⟩
  have e1 : zs = zs.take i ++ zs[i] :: zs.drop (i + 1) := by rw [← List.drop_eq_getElem_cons hi, List.take_append_drop]
  have e2 : zs.drop (i + 1) = (zs.drop (i + 1)).take (j - i - 1) ++ zs[j] :: zs.drop (j + 1) := by
    have h3 : (zs.drop (i + 1)).drop (j - i - 1) = zs[j] :: zs.drop (j + 1) := by
      rw [List.drop_drop, show i + 1 + (j - i - 1) = j by omega, List.drop_eq_getElem_cons hj]
    rw [← h3, List.take_append_drop]
  rw [← e2]; exact e1

/-! ### by insertion -/
/-- k of u are sorted -/
def InsO (lt : α → α → Bool) (p u s : List α) (k : Nat) (ys : List α) : Prop :=
  ∃ v, ys = p ++ (v ++ (u.drop k ++ s)) ∧ v.length = (u.take k).length ∧ Srt lt v ∧ Stab lt (u.take k) v
/-- number k of u goes down, and is at m -/
def InsI (lt : α → α → Bool) (p u s : List α) (k m : Nat) (zs : List α) : Prop :=
  ∃ v1 x v2, zs = p ++ (v1 ++ x :: (v2 ++ (u.drop (k + 1) ++ s))) ∧ v1.length = m ∧ v1.length + v2.length = k ∧ u[k]? = some x ∧ Srt lt (v1 ++ v2) ∧ (∀ y ∈ v2, lt x y = true) ∧ Stab lt (u.take k) (v1 ++ v2)
theorem InsO.len {p u s ys : List α} {k : Nat} (h : InsO lt p u s k ys) : ys.length = (p ++ (u ++ s)).length := by
  obtain ⟨v, rfl, h2, _⟩ := h
  simp only [List.length_append, List.length_take, List.length_drop] at *; omega
theorem InsI.len {p u s ys : List α} {k m : Nat} (h : InsI lt p u s k m ys) : ys.length = (p ++ (u ++ s)).length := by
  obtain ⟨v1, x, v2, rfl, h2, h3, h4, _⟩ := h
  have := (List.getElem?_eq_some_iff.1 h4).1
  simp only [List.length_append, List.length_cons, List.length_drop]; omega
theorem InsO.one (p u s : List α) : InsO lt p u s 1 (p ++ (u ++ s)) := by
  refine ⟨u.take 1, ?_, rfl, ?_, Stab.refl _⟩
  · rw [← List.append_assoc (u.take 1), List.take_append_drop]
  · cases u with
    | nil => exact Srt.nil
    | cons x u => exact Srt.one x
theorem InsO.go {p u s ys : List α} {k : Nat} (h : InsO lt p u s k ys) (hk : k < u.length) : InsI lt p u s k k ys := by
  obtain ⟨v, rfl, h2, h3, h4⟩ := h
  have hv : v.length = k := by rw [h2, List.length_take]; omega
  refine ⟨v, u[k], [], ?_, hv, by simp [hv], List.getElem?_eq_getElem hk, by simpa using h3, by simp, by simpa using h4⟩
  rw [List.drop_eq_getElem_cons hk]; simp only [List.append_assoc, List.cons_append, List.nil_append, List.append_nil]
theorem InsI.at {p u s zs : List α} {k m : Nat} {x y : α} (h : InsI lt p u s k (m + 1) zs) (hx : zs[p.length + (m + 1)]? = some x) (hy : zs[p.length + m]? = some y) :
    ∃ v1 v2, zs = p ++ (v1 ++ y :: x :: (v2 ++ (u.drop (k + 1) ++ s))) ∧ v1.length = m ∧ m + 1 + v2.length = k ∧ u[k]? = some x ∧ Srt lt ((v1 ++ [y]) ++ v2) ∧ (∀ y ∈ v2, lt x y = true) ∧ Stab lt (u.take k) ((v1 ++ [y]) ++ v2) := by
  obtain ⟨v1, x', v2, rfl, h1, h2, h3, h4, h5, h6⟩ := h
  rw [show p ++ (v1 ++ x' :: (v2 ++ (u.drop (k + 1) ++ s))) = (p ++ v1) ++ x' :: (v2 ++ (u.drop (k + 1) ++ s)) by simp, get_at _ _ _ (by simp; omega)] at hx
  obtain rfl : x' = x := by simpa using hx
  obtain ⟨v0, z, rfl⟩ : ∃ v0 z, v1 = v0 ++ [z] := by
    rcases List.eq_nil_or_concat v1 with e | ⟨a, b, e⟩
    · subst e; simp at h1
    · exact ⟨a, b, by rw [e]; simp⟩
  rw [show p ++ (v0 ++ [z] ++ x' :: (v2 ++ (u.drop (k + 1) ++ s))) = (p ++ v0) ++ z :: x' :: (v2 ++ (u.drop (k + 1) ++ s)) by simp, get_at _ _ _ (by simp at h1 ⊢; omega)] at hy
  obtain rfl : z = y := by simpa using hy
  exact ⟨v0, v2, by simp, by simpa using h1, by simp at h2; simp at h1; omega, h3, h4, h5, h6⟩
theorem InsI.down (W : Weak lt) {p u s zs : List α} {k m : Nat} {x y : α} (h : InsI lt p u s k (m + 1) zs) (hx : zs[p.length + (m + 1)]? = some x) (hy : zs[p.length + m]? = some y) (hl : lt x y = true) :
    InsI lt p u s k m ((zs.set (p.length + (m + 1)) y).set (p.length + m) x) := by
  obtain ⟨v1, v2, rfl, h1, h2, h3, h4, h5, h6⟩ := h.at hx hy
  refine ⟨v1, x, y :: v2, ?_, h1, by simp; omega, h3, by simpa using h4, ?_, by simpa using h6⟩
  · rw [show p ++ (v1 ++ y :: x :: (v2 ++ (u.drop (k + 1) ++ s))) = (p ++ v1) ++ y :: ([] ++ x :: (v2 ++ (u.drop (k + 1) ++ s))) by simp,
      swap_at' (p ++ v1) [] _ y x (by simp; omega) (by simp; omega)]
    simp
  · intro z hz
    rcases List.mem_cons.1 hz with rfl | hz
    · exact hl
    · exact h5 z hz
theorem InsI.stop (W : Weak lt) {p u s zs : List α} {k m : Nat} (h : InsI lt p u s k m zs) (hs : m = 0 ∨ ∃ m' x y, m = m' + 1 ∧ zs[p.length + (m' + 1)]? = some x ∧ zs[p.length + m']? = some y ∧ lt x y = false) : InsO lt p u s (k + 1) zs := by
  have key : ∀ (v1 v2 : List α) (x : α), v1.length + v2.length = k → u[k]? = some x → Srt lt (v1 ++ v2) → (∀ y ∈ v2, lt x y = true) → Stab lt (u.take k) (v1 ++ v2) → (∀ y ∈ v1, lt x y = false) →
      InsO lt p u s (k + 1) (p ++ (v1 ++ x :: (v2 ++ (u.drop (k + 1) ++ s)))) := by
    intro v1 v2 x h2 h3 h4 h5 h6 h7
    obtain ⟨g1, g2⟩ := merge_right W h4 h7 h5
    have ht : u.take (k + 1) = u.take k ++ [x] := by rw [List.take_add_one, h3]; rfl
    have hl := (List.getElem?_eq_some_iff.1 h3).1
    refine ⟨(v1 ++ [x]) ++ v2, by simp, by simp only [List.length_append, List.length_take, List.length_cons, List.length_nil]; omega, g2, ?_⟩
    rw [ht]
    exact (h6.append (Stab.refl [x])).trans g1
  rcases hs with rfl | ⟨m', x, y, rfl, hx, hy, hl⟩
  · obtain ⟨v1, x, v2, rfl, h1, h2, h3, h4, h5, h6⟩ := h
    obtain rfl : v1 = [] := List.eq_nil_of_length_eq_zero h1
    exact key [] v2 x h2 h3 h4 h5 h6 (by simp)
  · obtain ⟨v1, v2, rfl, h1, h2, h3, h4, h5, h6⟩ := h.at hx hy
    have := key (v1 ++ [y]) v2 x (by simp; omega) h3 h4 h5 h6 fun z hz => by
      rcases List.mem_append.1 hz with hz | hz
      · have h8 := (Srt.append.1 (Srt.append.1 h4).1).2.2 z hz y (by simp)
        exact W.neg hl h8
      · obtain rfl : z = y := by simpa using hz
        exact hl
    simpa using this
theorem InsO.done {p u s ys : List α} {k : Nat} (h : InsO lt p u s k ys) (hk : u.length ≤ k) : ∃ v, ys = p ++ (v ++ s) ∧ v.length = u.length ∧ Srt lt v ∧ Stab lt u v := by
  obtain ⟨v, rfl, h2, h3, h4⟩ := h
  rw [List.take_of_length_le hk] at h2 h4
  exact ⟨v, by rw [List.drop_of_length_le hk]; simp, h2, h3, h4⟩

/-! ### two ranges exchanged -/
def SwR (p u q v s : List α) (i : Nat) (zs : List α) : Prop := zs = p ++ (v.take i ++ u.drop i) ++ q ++ (u.take i ++ v.drop i) ++ s
theorem SwR.zero (p u q v s : List α) : SwR p u q v s 0 (p ++ u ++ q ++ v ++ s) := by simp [SwR]
theorem SwR.len {p u q v s zs : List α} {i : Nat} (h : SwR p u q v s i zs) (hl : u.length = v.length) (hi : i ≤ u.length) : zs.length = (p ++ u ++ q ++ v ++ s).length := by
  rw [h]; simp only [List.length_append, List.length_take, List.length_drop]; omega
theorem SwR.step {p u q v s zs : List α} {i : Nat} (h : SwR p u q v s i zs) (hl : u.length = v.length) (hi : i < u.length) {x y : α} (hx : zs[p.length + i]? = some x) (hy : zs[p.length + u.length + q.length + i]? = some y) :
    SwR p u q v s (i + 1) ((zs.set (p.length + i) y).set (p.length + u.length + q.length + i) x) := by
  have hv : i < v.length := by omega
  have e : zs = (p ++ v.take i) ++ u[i] :: ((u.drop (i + 1) ++ q ++ u.take i) ++ v[i] :: (v.drop (i + 1) ++ s)) := by
    rw [h, List.drop_eq_getElem_cons hi, List.drop_eq_getElem_cons hv]; simp only [List.append_assoc, List.cons_append, List.nil_append, List.append_nil]
  rw [e, get_at _ _ _ (by simp; omega)] at hx
  obtain rfl : u[i] = x := by simpa using hx
  rw [e, show (p ++ v.take i) ++ u[i] :: ((u.drop (i + 1) ++ q ++ u.take i) ++ v[i] :: (v.drop (i + 1) ++ s)) = ((p ++ v.take i) ++ u[i] :: (u.drop (i + 1) ++ q ++ u.take i)) ++ v[i] :: (v.drop (i + 1) ++ s) by simp,
    get_at _ _ _ (by simp; omega)] at hy
  obtain rfl : v[i] = y := by simpa using hy
  unfold SwR
  rw [e, swap_at _ _ _ _ _ (by simp; omega) (by simp; omega), List.take_add_one, List.take_add_one, List.getElem?_eq_getElem hi, List.getElem?_eq_getElem hv]
  simp only [List.append_assoc, List.cons_append, List.nil_append, List.append_nil, Option.toList_some]
theorem SwR.done {p u q v s zs : List α} {i : Nat} (h : SwR p u q v s i zs) (hl : u.length = v.length) (hi : u.length ≤ i) : zs = p ++ v ++ q ++ u ++ s := by
  rw [h, List.take_of_length_le (by omega), List.drop_of_length_le (by omega), List.take_of_length_le (by omega), List.drop_of_length_le (by omega)]; simp

/-! ### turned round: the parts U and V are still to be exchanged -/
def Rot (p u v s : List α) (m i j : Nat) (zs : List α) : Prop := ∃ P U V E, zs = P ++ (U ++ (V ++ E)) ∧ U.length = i ∧ V.length = j ∧ P.length + i = m ∧ P ++ (V ++ (U ++ E)) = p ++ (v ++ (u ++ s))
theorem Rot.zero (p u v s : List α) : Rot p u v s (p.length + u.length) u.length v.length (p ++ (u ++ (v ++ s))) := ⟨p, u, v, s, rfl, rfl, rfl, rfl, rfl⟩
theorem Rot.len {p u v s zs : List α} {m i j : Nat} (h : Rot p u v s m i j zs) : zs.length = (p ++ (u ++ (v ++ s))).length := by
  obtain ⟨P, U, V, E, rfl, _, _, _, h⟩ := h
  have := congrArg List.length h
  simp only [List.length_append] at *; omega
theorem Rot.bounds {p u v s zs : List α} {m i j : Nat} (h : Rot p u v s m i j zs) : i ≤ m ∧ m + j ≤ zs.length := by
  obtain ⟨P, U, V, E, rfl, _, _, _, h⟩ := h
  simp only [List.length_append] at *; omega
/-- the left part is longer: what is exchanged then, and what it leaves -/
theorem Rot.more {p u v s zs : List α} {m i j : Nat} (h : Rot p u v s m i j zs) (hij : j < i) :
    ∃ P U1 U2 V E, zs = P ++ U1 ++ U2 ++ V ++ E ∧ P.length = m - i ∧ U1.length = j ∧ V.length = j ∧ P.length + U1.length + U2.length = m ∧ Rot p u v s m (i - j) j (P ++ V ++ U2 ++ U1 ++ E) := by
  obtain ⟨P, U, V, E, rfl, h1, h2, h3, h4⟩ := h
  have e : U = U.take j ++ U.drop j := (List.take_append_drop j U).symm
  refine ⟨P, U.take j, U.drop j, V, E, ?_, by omega, by simp; omega, h2, by simp; omega, P ++ V, U.drop j, U.take j, E, by simp, by simp; omega, by simp; omega, by simp; omega, ?_⟩
  · rw [show P ++ U.take j ++ U.drop j ++ V ++ E = P ++ ((U.take j ++ U.drop j) ++ (V ++ E)) by simp only [List.append_assoc], ← e]
  · have h5 : P ++ (V ++ ((U.take j ++ U.drop j) ++ E)) = p ++ (v ++ (u ++ s)) := by rw [← e]; exact h4
    rw [← h5]; simp only [List.append_assoc]
theorem Rot.less {p u v s zs : List α} {m i j : Nat} (h : Rot p u v s m i j zs) (hij : i < j) :
    ∃ P U V1 V2 E, zs = P ++ U ++ V1 ++ V2 ++ E ∧ P.length = m - i ∧ U.length = i ∧ V2.length = i ∧ P.length + U.length + V1.length = m + j - i ∧ Rot p u v s m i (j - i) (P ++ V2 ++ V1 ++ U ++ E) := by
  obtain ⟨P, U, V, E, rfl, h1, h2, h3, h4⟩ := h
  have e : V = V.take (j - i) ++ V.drop (j - i) := (List.take_append_drop _ V).symm
  refine ⟨P, U, V.take (j - i), V.drop (j - i), E, ?_, by omega, h1, by simp; omega, by simp; omega, P, V.drop (j - i), V.take (j - i), U ++ E, by simp, by simp; omega, by simp; omega, h3, ?_⟩
  · rw [show P ++ U ++ V.take (j - i) ++ V.drop (j - i) ++ E = P ++ (U ++ ((V.take (j - i) ++ V.drop (j - i)) ++ E)) by simp only [List.append_assoc], ← e]
  · have h5 : P ++ ((V.take (j - i) ++ V.drop (j - i)) ++ (U ++ E)) = p ++ (v ++ (u ++ s)) := by rw [← e]; exact h4
    rw [← h5]; simp only [List.append_assoc]
theorem Rot.same {p u v s zs : List α} {m i : Nat} (h : Rot p u v s m i i zs) :
    ∃ P U V E, zs = P ++ U ++ [] ++ V ++ E ∧ P.length = m - i ∧ U.length = i ∧ V.length = i ∧ P.length + U.length + ([] : List α).length = m ∧ P ++ V ++ [] ++ U ++ E = p ++ (v ++ (u ++ s)) := by
  obtain ⟨P, U, V, E, rfl, h1, h2, h3, h4⟩ := h
  exact ⟨P, U, V, E, by simp, by omega, h1, h2, by simp; omega, by rw [← h4]; simp⟩

/-! ### one element moved up or down -/
/-- x stands behind m of v1 -/
def MvU (p : List α) (x : α) (v1 r : List α) (m : Nat) (zs : List α) : Prop := zs = p ++ (v1.take m ++ x :: (v1.drop m ++ r))
theorem MvU.zero (p : List α) (x : α) (v1 r : List α) : MvU p x v1 r 0 (p ++ x :: (v1 ++ r)) := by simp [MvU]
theorem MvU.step {p : List α} {x : α} {v1 r : List α} {m : Nat} {zs : List α} (h : MvU p x v1 r m zs) (hm : m < v1.length) {y z : α} (hy : zs[p.length + m]? = some y) (hz : zs[p.length + m + 1]? = some z) :
    MvU p x v1 r (m + 1) ((zs.set (p.length + m) z).set (p.length + m + 1) y) := by
  have e : zs = (p ++ v1.take m) ++ x :: ([] ++ v1[m] :: (v1.drop (m + 1) ++ r)) := by
    rw [h, List.drop_eq_getElem_cons hm]; simp only [List.append_assoc, List.cons_append, List.nil_append]
  rw [e, get_at _ _ _ (by simp; omega)] at hy
  obtain rfl : x = y := by simpa using hy
  rw [e, show (p ++ v1.take m) ++ x :: ([] ++ v1[m] :: (v1.drop (m + 1) ++ r)) = ((p ++ v1.take m) ++ [x]) ++ v1[m] :: (v1.drop (m + 1) ++ r) by simp only [List.append_assoc, List.cons_append, List.nil_append], get_at _ _ _ (by simp; omega)] at hz
  obtain rfl : v1[m] = z := by simpa using hz
  unfold MvU
  rw [e, swap_at _ _ _ _ _ (by simp; omega) (by simp; omega), List.take_add_one, List.getElem?_eq_getElem hm]
  simp only [List.append_assoc, List.cons_append, List.nil_append, Option.toList_some]
theorem MvU.done {p : List α} {x : α} {v1 r : List α} {m : Nat} {zs : List α} (h : MvU p x v1 r m zs) (hm : v1.length ≤ m) : zs = p ++ (v1 ++ x :: r) := by
  rw [h, List.take_of_length_le hm, List.drop_of_length_le hm]; rfl
theorem MvU.len {p : List α} {x : α} {v1 r : List α} {m : Nat} {zs : List α} (h : MvU p x v1 r m zs) : zs.length = (p ++ x :: (v1 ++ r)).length := by
  rw [h]; simp only [List.length_append, List.length_cons, List.length_take, List.length_drop]; omega
/-- y stands behind m of u2 -/
def MvD (p : List α) (y : α) (u2 r : List α) (m : Nat) (zs : List α) : Prop := zs = p ++ (u2.take m ++ y :: (u2.drop m ++ r))
theorem MvD.start (p : List α) (y : α) (u2 r : List α) : MvD p y u2 r u2.length (p ++ (u2 ++ y :: r)) := by simp [MvD]
theorem MvD.step {p : List α} {y : α} {u2 r : List α} {m : Nat} {zs : List α} (h : MvD p y u2 r (m + 1) zs) (hm : m + 1 ≤ u2.length) {x z : α} (hx : zs[p.length + (m + 1)]? = some x) (hz : zs[p.length + m]? = some z) :
    MvD p y u2 r m ((zs.set (p.length + (m + 1)) z).set (p.length + m) x) := by
  have hm' : m < u2.length := by omega
  have e : zs = (p ++ u2.take m) ++ u2[m] :: ([] ++ y :: (u2.drop (m + 1) ++ r)) := by
    rw [h, List.take_add_one, List.getElem?_eq_getElem hm']; simp only [List.append_assoc, List.cons_append, List.nil_append, Option.toList_some]
  rw [e, get_at _ _ _ (by simp; omega)] at hz
  obtain rfl : u2[m] = z := by simpa using hz
  rw [e, show (p ++ u2.take m) ++ u2[m] :: ([] ++ y :: (u2.drop (m + 1) ++ r)) = ((p ++ u2.take m) ++ [u2[m]]) ++ y :: (u2.drop (m + 1) ++ r) by simp only [List.append_assoc, List.cons_append, List.nil_append], get_at _ _ _ (by simp; omega)] at hx
  obtain rfl : y = x := by simpa using hx
  unfold MvD
  rw [e, swap_at' _ _ _ _ _ (by simp; omega) (by simp; omega), List.drop_eq_getElem_cons hm']
  simp only [List.append_assoc, List.cons_append, List.nil_append]
theorem MvD.done {p : List α} {y : α} {u2 r : List α} {zs : List α} (h : MvD p y u2 r 0 zs) : zs = p ++ y :: (u2 ++ r) := by
  rw [h]; simp
theorem MvD.len {p : List α} {y : α} {u2 r : List α} {m : Nat} {zs : List α} (h : MvD p y u2 r m zs) : zs.length = (p ++ (u2 ++ y :: r)).length := by
  rw [h]; simp only [List.length_append, List.length_cons, List.length_take, List.length_drop]; omega
end Go.St
