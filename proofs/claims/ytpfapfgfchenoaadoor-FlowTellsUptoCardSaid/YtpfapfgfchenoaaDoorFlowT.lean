/-
  A text's flows, plainly: numbers, rows of numbers, lines; what is written, and read.
-/
import Derived.Test.YtpfapfgfchenoaaDoorPathF
import Derived.Lib.ItoaMem
import Derived.Lib.ItoaLen
import Derived.Lib.Atoi
import Derived.Lib.Join
set_option linter.unusedSimpArgs false
set_option linter.unusedVariables false
namespace Go.St

def isDig (c : UInt8) : Bool := decide (48 ≤ c.toNat) && decide (c.toNat ≤ 57)
def digs : List UInt8 → Nat
  | [] => 0
  | c :: r => if isDig c then digs r + 1 else 0
def decVal (l : List UInt8) : Nat := l.foldl (fun n c => n * 10 + (c.toNat - 48)) 0
/-- a number without needless noughts, and what stands behind it -/
def numP (l : List UInt8) : Option (Int × List UInt8) :=
  if digs l = 0 ∨ 4 < digs l ∨ (1 < digs l ∧ l.head? = some 48) then none else some (((decVal (l.take (digs l)) : Nat) : Int), l.drop (digs l))
def numsGo : Nat → List UInt8 → List Int → Option (List Int × List UInt8)
  | 0, _, _ => none
  | k + 1, l, acc => if l.head? = some 44 then (match numP (l.drop 1) with | none => none | some (v, r) => numsGo k r (acc ++ [v])) else some (acc, l)
def numsP (l : List UInt8) : Option (List Int × List UInt8) :=
  match numP l with
  | none => none
  | some (v, r) => numsGo (r.length + 1) r [v]
def viaW : List UInt8 := [32, 118, 105, 97, 32]
def notW : List UInt8 := [32, 110, 111, 116, 32]
def optP (word l : List UInt8) : Option (List Int × List UInt8) := if Lib.hasPrefix l word then numsP (l.drop word.length) else some ([], l)
/-- one line -/
def lineP (l : List UInt8) : Option (Flow × List UInt8) :=
  match numP l with
  | none => none
  | some (a, l1) => if l1.head? = some 62 then (match numP (l1.drop 1) with
    | none => none
    | some (b, l3) => match optP viaW l3 with
      | none => none
      | some (v, l4) => match optP notW l4 with
        | none => none
        | some (n, l5) => if l5.head? = some 10 then some (⟨a, b, v, n⟩, l5.drop 1) else none) else none
def parseGo (n : Nat) : Nat → List UInt8 → List Flow → List Flow × (Int × Int)
  | 0, _, _ => ([], (2, 0))
  | k + 1, l, acc => if l = [] then (acc, (0, 0)) else match lineP l with
    | none => ([], (2, ((n - l.length : Nat) : Int)))
    | some (f, r) => parseGo n k r (acc ++ [f])
def parseOf (s : List UInt8) : List Flow × (Int × Int) := if 2000 < s.length then ([], (4, 0)) else parseGo s.length (s.length + 1) s []

theorem digs_le : ∀ l : List UInt8, digs l ≤ l.length
  | [] => Nat.le_refl _
  | c :: r => by unfold digs; split <;> simp [digs_le r]
theorem numP_cases (l : List UInt8) : numP l = none ∨ ∃ v, numP l = some (((v : Nat) : Int), l.drop (digs l)) ∧ 1 ≤ digs l ∧ digs l ≤ 4 ∧ v = decVal (l.take (digs l)) ∧ ¬ (1 < digs l ∧ l.head? = some 48) := by
  unfold numP
  split
  · exact .inl rfl
  · rename_i h
    have h1 : ¬ digs l = 0 := fun e => h (.inl e)
    have h2 : ¬ 4 < digs l := fun e => h (.inr (.inl e))
    exact .inr ⟨_, rfl, by omega, by omega, rfl, fun e => h (.inr (.inr e))⟩
theorem numP_some {l r : List UInt8} {v : Int} (h : numP l = some (v, r)) : r = l.drop (digs l) ∧ r.length + 1 ≤ l.length ∧ digs l ≤ 4 ∧ 1 ≤ digs l ∧ v = ((decVal (l.take (digs l)) : Nat) : Int) ∧ ¬ (1 < digs l ∧ l.head? = some 48) := by
  rcases numP_cases l with e | ⟨v', e, h1, h2, h3, h4⟩
  · rw [e] at h; cases h
  · rw [e] at h
    cases h
    have := digs_le l
    exact ⟨rfl, by rw [List.length_drop]; omega, h2, h1, by rw [h3], h4⟩
theorem digs_append {l t : List UInt8} (h : digs l < l.length) : digs (l ++ t) = digs l := by
  induction l with
  | nil => simp at h
  | cons c r ih =>
    rw [List.cons_append]
    unfold digs at h ⊢
    by_cases hc : isDig c = true
    · rw [if_pos hc] at h ⊢
      rw [if_pos hc, ih (by simpa using h)]
    · rw [if_neg hc, if_neg hc]
theorem head_append {α : Type} {l t : List α} (h : l ≠ []) : (l ++ t).head? = l.head? := by
  cases l with
  | nil => exact absurd rfl h
  | cons a r => rfl
theorem numP_append {l r t : List UInt8} {v : Int} (h : numP l = some (v, r)) (hr : r ≠ []) : numP (l ++ t) = some (v, r ++ t) := by
  obtain ⟨h1, h2, h3, h4, h5, h6⟩ := numP_some h
  have hd : digs l < l.length := by
    have : 0 < r.length := List.length_pos_iff.2 hr
    rw [h1, List.length_drop] at this
    omega
  have hl : l ≠ [] := by intro e; rw [e] at h2; simp at h2
  unfold numP
  rw [digs_append hd, head_append hl, if_neg (fun e => by rcases e with e | e | e; · omega
                                                          · omega
                                                          · exact h6 e), List.take_append_of_le_length (Nat.le_of_lt hd), List.drop_append_of_le_length (Nat.le_of_lt hd), ← h1, h5]
theorem numsGo_some : ∀ {k : Nat} {l r : List UInt8} {acc out : List Int}, numsGo k l acc = some (out, r) → r.length ≤ l.length ∧ r.head? ≠ some 44
  | 0, _, _, _, _, h => by cases h
  | k + 1, l, r, acc, out, h => by
    unfold numsGo at h
    split at h
    · cases hn : numP (l.drop 1) with
      | none => rw [hn] at h; cases h
      | some x =>
        obtain ⟨v, r1⟩ := x
        rw [hn] at h
        have h1 := numsGo_some h
        have h2 := (numP_some hn).2.1
        rw [List.length_drop] at h2
        exact ⟨by omega, h1.2⟩
    · cases h
      exact ⟨Nat.le_refl _, by assumption⟩
theorem numsGo_more : ∀ {k : Nat} {l : List UInt8} {acc : List Int} {x : List Int × List UInt8}, numsGo k l acc = some x → ∀ j, numsGo (k + j) l acc = some x
  | 0, _, _, _, h, _ => by cases h
  | k + 1, l, acc, x, h, j => by
    rw [show k + 1 + j = (k + j) + 1 by omega]
    unfold numsGo at h ⊢
    split
    · rename_i h0
      rw [if_pos h0] at h
      cases hn : numP (l.drop 1) with
      | none => rw [hn] at h; cases h
      | some y =>
        rw [hn] at h
        exact numsGo_more h j
    · rename_i h0
      rw [if_neg h0] at h
      exact h
/-- with fuel enough it is all the same -/
theorem numsGo_any : ∀ {k k' : Nat} {l : List UInt8} {acc : List Int}, l.length < k → l.length < k' → numsGo k l acc = numsGo k' l acc
  | 0, _, _, _, h, _ => by omega
  | _, 0, _, _, _, h => by omega
  | k + 1, k' + 1, l, acc, h, h' => by
    unfold numsGo
    split
    · cases hn : numP (l.drop 1) with
      | none => rfl
      | some y =>
        obtain ⟨v, r⟩ := y
        have h2 := (numP_some hn).2.1
        rw [List.length_drop] at h2
        exact numsGo_any (by omega) (by omega)
    · rfl
theorem numsGo_append {t : List UInt8} : ∀ {k : Nat} {l r : List UInt8} {acc out : List Int}, numsGo k l acc = some (out, r) → r ≠ [] → numsGo k (l ++ t) acc = some (out, r ++ t)
  | 0, _, _, _, _, h, _ => by cases h
  | k + 1, l, r, acc, out, h, hr => by
    unfold numsGo at h ⊢
    by_cases h0 : l.head? = some 44
    · have hl : l ≠ [] := by intro e; rw [e] at h0; cases h0
      rw [if_pos h0] at h
      rw [if_pos (by rw [head_append hl]; exact h0)]
      have e1 : (l ++ t).drop 1 = l.drop 1 ++ t := List.drop_append_of_le_length (List.length_pos_iff.2 hl)
      rw [e1]
      cases hn : numP (l.drop 1) with
      | none => rw [hn] at h; cases h
      | some y =>
        obtain ⟨v, r1⟩ := y
        rw [hn] at h
        have hr1 : r1 ≠ [] := by
          intro e
          have := (numsGo_some h).1
          rw [e] at this
          exact hr (List.eq_nil_of_length_eq_zero (by simpa using this))
        rw [numP_append hn hr1]
        exact numsGo_append h hr
    · rw [if_neg h0] at h
      cases h
      rw [if_neg (by rw [head_append hr]; exact h0)]
theorem numsP_some {l r : List UInt8} {out : List Int} (h : numsP l = some (out, r)) : r.length + 1 ≤ l.length := by
  unfold numsP at h
  cases hn : numP l with
  | none => rw [hn] at h; cases h
  | some y =>
    obtain ⟨v, r1⟩ := y
    rw [hn] at h
    have h1 := (numsGo_some h).1
    have h2 := (numP_some hn).2.1
    omega
theorem numsP_append {l r t : List UInt8} {out : List Int} (h : numsP l = some (out, r)) (hr : r ≠ []) : numsP (l ++ t) = some (out, r ++ t) := by
  unfold numsP at h ⊢
  cases hn : numP l with
  | none => rw [hn] at h; cases h
  | some y =>
    obtain ⟨v, r1⟩ := y
    rw [hn] at h
    have hr1 : r1 ≠ [] := by
      intro e
      have := (numsGo_some h).1
      rw [e] at this
      exact hr (List.eq_nil_of_length_eq_zero (by simpa using this))
    rw [numP_append hn hr1]
    have h2 := numsGo_append (t := t) h hr
    show numsGo ((r1 ++ t).length + 1) (r1 ++ t) [v] = _
    have := numsGo_more h2 t.length
    rw [show r1.length + 1 + t.length = (r1 ++ t).length + 1 by rw [List.length_append]; omega] at this
    exact this
theorem optP_some {w l r : List UInt8} {out : List Int} (h : optP w l = some (out, r)) : r.length ≤ l.length := by
  unfold optP at h
  split at h
  · have := numsP_some h
    rw [List.length_drop] at this
    omega
  · cases h; exact Nat.le_refl _
theorem hasPrefix_append {l w t : List UInt8} (h : Lib.hasPrefix l w = true) : Lib.hasPrefix (l ++ t) w = true := by
  unfold Lib.hasPrefix at h ⊢
  rw [List.isPrefixOf_iff_prefix] at h ⊢
  exact h.trans (List.prefix_append _ _)
theorem hasPrefix_len {l w : List UInt8} (h : Lib.hasPrefix l w = true) : w.length ≤ l.length := by
  unfold Lib.hasPrefix at h
  rw [List.isPrefixOf_iff_prefix] at h
  exact h.length_le
theorem hasPrefix_back {l w t : List UInt8} (h : Lib.hasPrefix (l ++ t) w = true) (hl : w.length ≤ l.length) : Lib.hasPrefix l w = true := by
  unfold Lib.hasPrefix at h ⊢
  rw [List.isPrefixOf_iff_prefix] at h ⊢
  exact List.prefix_of_prefix_length_le h (List.prefix_append _ _) hl
theorem optP_append {w l r t : List UInt8} {out : List Int} (h : optP w l = some (out, r)) (hr : r ≠ []) (hw : Lib.hasPrefix l w = false → Lib.hasPrefix (l ++ t) w = false) : optP w (l ++ t) = some (out, r ++ t) := by
  unfold optP at h ⊢
  by_cases h0 : Lib.hasPrefix l w = true
  · rw [if_pos h0] at h
    rw [if_pos (hasPrefix_append h0), List.drop_append_of_le_length (hasPrefix_len h0)]
    exact numsP_append h hr
  · rw [if_neg h0] at h
    cases h
    rw [if_neg (by rw [hw (by simpa using h0)]; decide)]
/-- a word of which the first letter stands there not -/
theorem hasPrefix_head {l : List UInt8} {c : UInt8} {w : List UInt8} (h : l.head? ≠ some c) : Lib.hasPrefix l (c :: w) = false := by
  unfold Lib.hasPrefix
  cases l with
  | nil => rfl
  | cons a r =>
    have : ¬ c = a := fun e => h (by rw [e]; rfl)
    simp [List.isPrefixOf, this]
theorem lineP_parts {l r : List UInt8} {f : Flow} (h : lineP l = some (f, r)) : ∃ l1 l3 l4 l5, numP l = some (f.src, l1) ∧ l1.head? = some 62 ∧ numP (l1.drop 1) = some (f.dst, l3) ∧ optP viaW l3 = some (f.via, l4) ∧ optP notW l4 = some (f.no, l5) ∧ l5.head? = some 10 ∧ r = l5.drop 1 := by
  unfold lineP at h
  cases h1 : numP l with
  | none => rw [h1] at h; cases h
  | some x =>
    obtain ⟨a, l1⟩ := x
    rw [h1] at h
    dsimp only at h
    by_cases h2 : l1.head? = some 62
    case neg => rw [if_neg h2] at h; cases h
    rw [if_pos h2] at h
    cases h3 : numP (l1.drop 1) with
    | none => rw [h3] at h; cases h
    | some x =>
      obtain ⟨b, l3⟩ := x
      rw [h3] at h
      dsimp only at h
      cases h4 : optP viaW l3 with
      | none => rw [h4] at h; cases h
      | some x =>
        obtain ⟨v, l4⟩ := x
        rw [h4] at h
        dsimp only at h
        cases h5 : optP notW l4 with
        | none => rw [h5] at h; cases h
        | some x =>
          obtain ⟨n, l5⟩ := x
          rw [h5] at h
          dsimp only at h
          by_cases h6 : l5.head? = some 10
          case neg => rw [if_neg h6] at h; cases h
          rw [if_pos h6] at h
          cases h
          exact ⟨l1, l3, l4, l5, rfl, h2, h3, h4, h5, h6, rfl⟩
theorem lineP_of {l l1 l3 l4 l5 : List UInt8} {f : Flow} (h1 : numP l = some (f.src, l1)) (h2 : l1.head? = some 62) (h3 : numP (l1.drop 1) = some (f.dst, l3)) (h4 : optP viaW l3 = some (f.via, l4)) (h5 : optP notW l4 = some (f.no, l5)) (h6 : l5.head? = some 10) : lineP l = some (f, l5.drop 1) := by
  unfold lineP
  rw [h1]
  dsimp only
  rw [if_pos h2, h3]
  dsimp only
  rw [h4]
  dsimp only
  rw [h5]
  dsimp only
  rw [if_pos h6]
theorem lineP_some {l r : List UInt8} {f : Flow} (h : lineP l = some (f, r)) : r.length + 1 ≤ l.length ∧ l ≠ [] := by
  obtain ⟨l1, l3, l4, l5, h1, h2, h3, h4, h5, h6, rfl⟩ := lineP_parts h
  have a1 := (numP_some h1).2.1
  have a3 := (numP_some h3).2.1
  have a4 := optP_some h4
  have a5 := optP_some h5
  rw [List.length_drop] at a3 ⊢
  exact ⟨by omega, by intro e; rw [e] at a1; simp at a1⟩
theorem head_ne {α : Type} {l : List α} {c : α} (h : l.head? = some c) : l ≠ [] := by intro e; rw [e] at h; cases h
theorem lineP_append {l r t : List UInt8} {f : Flow} (h : lineP l = some (f, r)) : lineP (l ++ t) = some (f, r ++ t) := by
  obtain ⟨l1, l3, l4, l5, h1, h2, h3, h4, h5, h6, rfl⟩ := lineP_parts h
  have n1 := head_ne h2
  have n5 := head_ne h6
  have n4 : l4 ≠ [] := by
    intro e; have := optP_some h5; rw [e] at this
    exact n5 (List.eq_nil_of_length_eq_zero (by simpa using this))
  have n3 : l3 ≠ [] := by
    intro e; have := optP_some h4; rw [e] at this
    exact n4 (List.eq_nil_of_length_eq_zero (by simpa using this))
  have w5 : Lib.hasPrefix l4 notW = false → Lib.hasPrefix (l4 ++ t) notW = false := fun hf => by
    have : l5 = l4 := by
      unfold optP at h5; rw [if_neg (by rw [hf]; decide)] at h5; exact (congrArg Prod.snd (Option.some.inj h5)).symm
    refine hasPrefix_head ?_
    rw [head_append n4, ← this, h6]; decide
  have w4 : Lib.hasPrefix l3 viaW = false → Lib.hasPrefix (l3 ++ t) viaW = false := fun hf => by
    have e34 : l4 = l3 := by
      unfold optP at h4; rw [if_neg (by rw [hf]; decide)] at h4; exact (congrArg Prod.snd (Option.some.inj h4)).symm
    by_cases hn : Lib.hasPrefix l4 notW = true
    · have hl := hasPrefix_len hn
      rw [e34] at hl
      apply Classical.byContradiction
      intro hc
      have := hasPrefix_back (by simpa using hc) (show viaW.length ≤ l3.length from hl)
      rw [hf] at this; cases this
    · have : l5 = l4 := by
        unfold optP at h5; rw [if_neg hn] at h5; exact (congrArg Prod.snd (Option.some.inj h5)).symm
      refine hasPrefix_head ?_
      rw [head_append n3, ← e34, ← this, h6]; decide
  have e1 : (l1 ++ t).drop 1 = l1.drop 1 ++ t := List.drop_append_of_le_length (List.length_pos_iff.2 n1)
  have e5 : l5.drop 1 ++ t = (l5 ++ t).drop 1 := (List.drop_append_of_le_length (List.length_pos_iff.2 n5)).symm
  rw [e5]
  exact lineP_of (numP_append h1 n1) (by rw [head_append n1]; exact h2) (by rw [e1]; exact numP_append h3 n3) (optP_append h4 n4 w4) (optP_append h5 n5 w5) (by rw [head_append n5]; exact h6)
/-- so many lines, up to the end -/
inductive Lines : List UInt8 → List Flow → Prop
  | nil : Lines [] []
  | cons {l r : List UInt8} {f : Flow} {m : List Flow} : lineP l = some (f, r) → Lines r m → Lines l (f :: m)
theorem Lines.append {l t : List UInt8} {a b : List Flow} (h : Lines l a) (g : Lines t b) : Lines (l ++ t) (a ++ b) := by
  induction h with
  | nil => exact g
  | cons h _ ih => exact .cons (lineP_append h) ih
theorem parseGo_ok {n : Nat} : ∀ {k : Nat} {l : List UInt8} {acc out : List Flow} {x : Int}, parseGo n k l acc = (out, (0, x)) → ∃ m, out = acc ++ m ∧ Lines l m ∧ x = 0
  | 0, _, _, _, _, h => by unfold parseGo at h; simp at h
  | k + 1, l, acc, out, x, h => by
    unfold parseGo at h
    split at h
    · rename_i e
      simp only [Prod.mk.injEq] at h
      exact ⟨[], by simp [h.1], e ▸ .nil, h.2.2.symm⟩
    · cases hl : lineP l with
      | none => rw [hl] at h; simp at h
      | some y =>
        obtain ⟨f, r⟩ := y
        rw [hl] at h
        obtain ⟨m, h1, h2, h3⟩ := parseGo_ok h
        exact ⟨f :: m, by rw [h1]; simp, .cons hl h2, h3⟩
theorem parseGo_of {n : Nat} {l : List UInt8} {m : List Flow} (h : Lines l m) : ∀ {k : Nat} {acc : List Flow}, l.length < k → parseGo n k l acc = (acc ++ m, (0, 0)) := by
  induction h with
  | nil =>
    intro k acc hk
    obtain ⟨k, rfl⟩ : ∃ j, k = j + 1 := ⟨k - 1, by omega⟩
    unfold parseGo
    rw [if_pos rfl, List.append_nil]
  | @cons l r f m hl _ ih =>
    intro k acc hk
    obtain ⟨k, rfl⟩ : ∃ j, k = j + 1 := ⟨k - 1, by omega⟩
    obtain ⟨h1, h2⟩ := lineP_some hl
    unfold parseGo
    rw [if_neg h2, hl]
    show parseGo n k r (acc ++ [f]) = _
    rw [ih (by omega)]
    simp
theorem parse_lines {s : List UInt8} {m : List Flow} {x : Int} (h : parseOf s = (m, (0, x))) : Lines s m ∧ s.length ≤ 2000 ∧ x = 0 := by
  unfold parseOf at h
  split at h
  · simp at h
  · obtain ⟨m', h1, h2, h3⟩ := parseGo_ok h
    rw [List.nil_append] at h1
    exact ⟨h1 ▸ h2, by omega, h3⟩
theorem parse_of {s : List UInt8} {m : List Flow} (h : Lines s m) (hs : s.length ≤ 2000) : parseOf s = (m, (0, 0)) := by
  unfold parseOf
  rw [if_neg (by omega), parseGo_of h (by omega)]
  rfl
/-- FlowJoined -/
theorem parse_joined {s t : List UInt8} {a b : List Flow} {x y : Int} (hs : parseOf s = (a, (0, x))) (ht : parseOf t = (b, (0, y))) (hl : s.length + t.length ≤ 2000) : parseOf (s ++ t) = (a ++ b, (0, 0)) :=
  parse_of ((parse_lines hs).1.append (parse_lines ht).1) (by rw [List.length_append]; exact hl)
theorem parseGo_bad {n : Nat} : ∀ {k : Nat} {l : List UInt8} {acc out : List Flow} {e x : Int}, parseGo n k l acc = (out, (e, x)) → e ≠ 0 → out = []
  | 0, _, _, _, _, _, h, _ => by unfold parseGo at h; simp only [Prod.mk.injEq] at h; exact h.1.symm
  | k + 1, l, acc, out, e, x, h, he => by
    unfold parseGo at h
    split at h
    · simp only [Prod.mk.injEq] at h; exact absurd h.2.1.symm he
    · cases hl : lineP l with
      | none => rw [hl] at h; simp only [Prod.mk.injEq] at h; exact h.1.symm
      | some y =>
        rw [hl] at h
        exact parseGo_bad h he
theorem parse_bad {s : List UInt8} {m : List Flow} {e x : Int} (h : parseOf s = (m, (e, x))) (he : e ≠ 0) : m = [] := by
  unfold parseOf at h
  split at h
  · simp only [Prod.mk.injEq] at h; exact h.1.symm
  · exact parseGo_bad h he

/-- what is written -/
def joinW (word : List UInt8) (l : List Int) : List UInt8 := if l = [] then [] else word ++ Lib.join (l.map Lib.itoa) [44]
def flowText (f : Flow) : List UInt8 := Lib.itoa f.src ++ [62] ++ Lib.itoa f.dst ++ joinW viaW f.via ++ joinW notW f.no ++ [10]
def textOf (l : List Flow) : List UInt8 := (l.map flowText).flatten
theorem dig_val {c : UInt8} (h : isDig c = true) : ∃ x : Nat, x < 10 ∧ c.toNat = 48 + x ∧ c = UInt8.ofNat (48 + x) := by
  unfold isDig at h
  rw [Bool.and_eq_true, decide_eq_true_eq, decide_eq_true_eq] at h
  refine ⟨c.toNat - 48, by omega, by omega, ?_⟩
  rw [show 48 + (c.toNat - 48) = c.toNat by omega, UInt8.ofNat_toNat]
theorem digs_all : ∀ l : List UInt8, ∀ c ∈ l.take (digs l), isDig c = true
  | [], c, h => by simp at h
  | d :: r, c, h => by
    unfold digs at h
    split at h
    · rename_i hd
      rw [List.take_succ_cons] at h
      rcases List.mem_cons.1 h with rfl | h
      · exact hd
      · exact digs_all r c h
    · simp at h
theorem decVal_snoc (l : List UInt8) (c : UInt8) : decVal (l ++ [c]) = decVal l * 10 + (c.toNat - 48) := by simp [decVal]
/-- a number without needless noughts is written as it was -/
theorem digits_back : ∀ (n : Nat) (l : List UInt8), l.length = n + 1 → (∀ c ∈ l, isDig c = true) → ¬ (1 < l.length ∧ l.head? = some 48) → Lib.decDigits (decVal l) = l ∧ (1 < l.length → 0 < decVal l) ∧ (l.head? ≠ some 48 → 0 < decVal l)
  | 0, l, hl, hd, _ => by
    match l, hl with
    | [c], _ =>
      obtain ⟨x, hx, h1, h2⟩ := dig_val (hd c (by simp))
      have e : decVal [c] = x := by simp [decVal, h1]
      refine ⟨?_, fun h => by simp at h, fun h => ?_⟩
      · rw [e, Lib.decDigits_one hx, ← h2]
      · rw [e]
        apply Classical.byContradiction
        intro h0
        have : x = 0 := by omega
        subst this
        exact h (by rw [h2]; rfl)
  | n + 1, l, hl, hd, hz => by
    have hne : l ≠ [] := by intro e; rw [e] at hl; simp at hl
    obtain ⟨d, c, rfl⟩ : ∃ d c, l = d ++ [c] := ⟨l.dropLast, l.getLast hne, (List.dropLast_concat_getLast hne).symm⟩
    have hdl : d.length = n + 1 := by simpa using hl
    have hdn : d ≠ [] := by intro e; rw [e] at hdl; simp at hdl
    have hh : d.head? ≠ some 48 := fun e => hz ⟨by rw [List.length_append, hdl]; simp, by rw [head_append hdn]; exact e⟩
    obtain ⟨h1, _, h3⟩ := digits_back n d hdl (fun c hc => hd c (by simp [hc])) (fun e => hh e.2)
    have hp := h3 hh
    obtain ⟨x, hx, e1, e2⟩ := dig_val (hd c (by simp))
    have e : decVal (d ++ [c]) = decVal d * 10 + x := by rw [decVal_snoc, e1]; omega
    have hpos : 0 < decVal (d ++ [c]) := by rw [e]; omega
    refine ⟨?_, fun _ => hpos, fun _ => hpos⟩
    rw [e, Lib.decDigits, dif_neg (by omega), show (decVal d * 10 + x) / 10 = decVal d by omega, show (decVal d * 10 + x) % 10 = x by omega, h1, ← e2]
theorem numP_back {l r : List UInt8} {v : Int} (h : numP l = some (v, r)) : l = Lib.itoa v ++ r := by
  obtain ⟨h1, h2, h3, h4, h5, h6⟩ := numP_some h
  have hle := digs_le l
  have ht : (l.take (digs l)).length = digs l := by rw [List.length_take]; omega
  have hb := (digits_back (digs l - 1) (l.take (digs l)) (by omega) (digs_all l) (fun e => h6 ⟨by rw [ht] at e; exact e.1, by
    have h9 := e.2
    cases l with
    | nil => simp at h9
    | cons a r =>
      obtain ⟨k, hk⟩ : ∃ k, digs (a :: r) = k + 1 := ⟨digs (a :: r) - 1, by omega⟩
      rw [hk, List.take_succ_cons] at h9
      exact h9⟩)).1
  rw [h5, Lib.itoa_nonneg, hb, h1, List.take_append_drop]
theorem numsGo_back : ∀ {k : Nat} {l r : List UInt8} {acc out : List Int}, numsGo k l acc = some (out, r) → ∃ m, out = acc ++ m ∧ l = Lib.joinTail [44] (m.map Lib.itoa) ++ r
  | 0, _, _, _, _, h => by cases h
  | k + 1, l, r, acc, out, h => by
    unfold numsGo at h
    split at h
    · rename_i h0
      cases hn : numP (l.drop 1) with
      | none => rw [hn] at h; cases h
      | some y =>
        obtain ⟨v, r1⟩ := y
        rw [hn] at h
        obtain ⟨m, h1, h2⟩ := numsGo_back h
        have hb := numP_back hn
        cases l with
        | nil => cases h0
        | cons a l =>
          obtain rfl : a = 44 := by simpa using h0
          refine ⟨v :: m, by rw [h1]; simp, ?_⟩
          rw [List.drop_succ_cons, List.drop_zero] at hb
          rw [hb, h2]
          simp [Lib.joinTail]
    · cases h
      exact ⟨[], by simp, by simp [Lib.joinTail]⟩
theorem numsP_back {l r : List UInt8} {out : List Int} (h : numsP l = some (out, r)) : out ≠ [] ∧ l = Lib.join (out.map Lib.itoa) [44] ++ r := by
  unfold numsP at h
  cases hn : numP l with
  | none => rw [hn] at h; cases h
  | some y =>
    obtain ⟨v, r1⟩ := y
    rw [hn] at h
    obtain ⟨m, h1, h2⟩ := numsGo_back h
    have hb := numP_back hn
    rw [h1]
    refine ⟨by simp, ?_⟩
    rw [List.cons_append, List.nil_append, List.map_cons, Lib.join_cons, hb, h2, List.append_assoc]
theorem optP_back {w l r : List UInt8} {out : List Int} (h : optP w l = some (out, r)) : l = joinW w out ++ r := by
  unfold optP at h
  split at h
  · rename_i h0
    obtain ⟨hne, hb⟩ := numsP_back h
    unfold joinW
    rw [if_neg hne, List.append_assoc, ← hb]
    unfold Lib.hasPrefix at h0
    rw [List.isPrefixOf_iff_prefix] at h0
    obtain ⟨t, rfl⟩ := h0
    rw [List.drop_append_of_le_length (Nat.le_refl _), List.drop_length, List.nil_append]
  · cases h
    simp [joinW]
theorem cons_of_head {l : List UInt8} {c : UInt8} (h : l.head? = some c) : l = [c] ++ l.drop 1 := by
  cases l with
  | nil => cases h
  | cons a r =>
    have e : a = c := by simpa using h
    rw [e]; rfl
theorem lineP_back {l r : List UInt8} {f : Flow} (h : lineP l = some (f, r)) : l = flowText f ++ r := by
  obtain ⟨l1, l3, l4, l5, h1, h2, h3, h4, h5, h6, rfl⟩ := lineP_parts h
  unfold flowText
  rw [numP_back h1, cons_of_head h2, numP_back h3, optP_back h4, optP_back h5, cons_of_head h6]
  simp
theorem Lines.back {l : List UInt8} {m : List Flow} (h : Lines l m) : textOf m = l := by
  induction h with
  | nil => rfl
  | @cons l r f m h _ ih =>
    rw [lineP_back h, ← ih]
    simp [textOf]
/-- FlowTurns, the second half -/
theorem text_back {s : List UInt8} {m : List Flow} {x : Int} (h : parseOf s = (m, (0, x))) : textOf m = s := (parse_lines h).1.back

/- what is written is read: numbers below ten -/
theorem digit_read {v : Int} (h0 : 0 ≤ v) (h1 : v < 10) {r : List UInt8} (hr : ∀ c ∈ r.head?, isDig c = false) : numP (Lib.itoa v ++ r) = some (v, r) ∧ (Lib.itoa v).length = 1 ∧ ∃ c, Lib.itoa v = [c] ∧ isDig c = true := by
  obtain ⟨n, rfl⟩ : ∃ n : Nat, v = (n : Int) := ⟨v.toNat, by omega⟩
  have hn : n < 10 := by omega
  rw [Lib.itoa_nonneg, Lib.decDigits_one hn]
  have hd : isDig (UInt8.ofNat (48 + n)) = true ∧ (UInt8.ofNat (48 + n)).toNat = 48 + n := by
    have : (UInt8.ofNat (48 + n)).toNat = 48 + n := by rw [UInt8.toNat_ofNat']; omega
    refine ⟨?_, this⟩
    unfold isDig
    rw [this]
    simp; omega
  have hdg : digs ([UInt8.ofNat (48 + n)] ++ r) = 1 := by
    rw [List.cons_append, List.nil_append]
    unfold digs
    rw [if_pos hd.1]
    cases r with
    | nil => rfl
    | cons c r =>
      unfold digs
      rw [if_neg (by rw [hr c (by simp)]; decide)]
  refine ⟨?_, rfl, _, rfl, hd.1⟩
  unfold numP
  rw [hdg, if_neg (by omega)]
  have hv : (48 + n) % 256 = 48 + n := by omega
  simp [decVal, hd.2, hv]
def Small (l : List Int) : Prop := ∀ x ∈ l, 0 ≤ x ∧ x < 10
theorem numsGo_read : ∀ (m : List Int) (r : List UInt8) (acc : List Int) (k : Nat), Small m → (∀ c ∈ r.head?, isDig c = false ∧ c ≠ 44) → m.length < k → numsGo k (Lib.joinTail [44] (m.map Lib.itoa) ++ r) acc = some (acc ++ m, r)
  | [], r, acc, k, _, hr, hk => by
    obtain ⟨k, rfl⟩ : ∃ j, k = j + 1 := ⟨k - 1, by omega⟩
    unfold numsGo
    have : (Lib.joinTail [44] (([] : List Int).map Lib.itoa) ++ r) = r := by simp [Lib.joinTail]
    rw [this, if_neg (fun e => (hr 44 (by rw [e]; rfl)).2 rfl), List.append_nil]
  | v :: m, r, acc, k, hs, hr, hk => by
    obtain ⟨k, rfl⟩ : ∃ j, k = j + 1 := ⟨k - 1, by omega⟩
    have hv := hs v (by simp)
    have e : Lib.joinTail [44] ((v :: m).map Lib.itoa) ++ r = 44 :: (Lib.itoa v ++ (Lib.joinTail [44] (m.map Lib.itoa) ++ r)) := by simp [Lib.joinTail]
    rw [e]
    unfold numsGo
    rw [if_pos (by rfl), List.drop_succ_cons, List.drop_zero, (digit_read hv.1 hv.2 (fun c hc => by
      cases m with
      | nil =>
        have : (Lib.joinTail [44] (([] : List Int).map Lib.itoa) ++ r) = r := by simp [Lib.joinTail]
        rw [this] at hc
        exact (hr c hc).1
      | cons u m =>
        have : (Lib.joinTail [44] ((u :: m).map Lib.itoa) ++ r).head? = some 44 := by simp [Lib.joinTail]
        rw [this] at hc
        obtain rfl : 44 = c := by simpa using hc
        rfl)).1]
    show numsGo k _ (acc ++ [v]) = _
    rw [numsGo_read m r (acc ++ [v]) k (fun x hx => hs x (by simp [hx])) hr (by simp at hk; omega)]
    simp
theorem joinTail_len : ∀ {m : List Int}, Small m → (Lib.joinTail [44] (m.map Lib.itoa)).length = 2 * m.length
  | [], _ => rfl
  | v :: m, hs => by
    have hv := hs v (by simp)
    have h1 := (digit_read hv.1 hv.2 (r := []) (fun c hc => by simp at hc)).2.1
    have ih := joinTail_len (m := m) (fun x hx => hs x (by simp [hx]))
    have : (Lib.joinTail [44] ((v :: m).map Lib.itoa)) = 44 :: (Lib.itoa v ++ Lib.joinTail [44] (m.map Lib.itoa)) := by simp [Lib.joinTail]
    rw [this, List.length_cons, List.length_append, h1, ih, List.length_cons]
    omega
theorem optP_read {w : List UInt8} {m : List Int} {r : List UInt8} (hs : Small m) (hr : ∀ c ∈ r.head?, isDig c = false ∧ c ≠ 44) (hw : m = [] → Lib.hasPrefix r w = false) : optP w (joinW w m ++ r) = some (m, r) ∧ (joinW w m).length ≤ w.length + 2 * m.length := by
  unfold optP joinW
  cases m with
  | nil =>
    rw [if_pos rfl, List.nil_append, if_neg (by rw [hw rfl]; decide)]
    exact ⟨rfl, Nat.zero_le _⟩
  | cons v m =>
    rw [if_neg (show ¬ v :: m = [] by simp), List.map_cons, Lib.join_cons, List.append_assoc]
    have hv := hs v (by simp)
    have hm : Small m := fun x hx => hs x (by simp [hx])
    have hp : Lib.hasPrefix (w ++ ((Lib.itoa v ++ Lib.joinTail [44] (m.map Lib.itoa)) ++ r)) w = true := by
      unfold Lib.hasPrefix
      rw [List.isPrefixOf_iff_prefix]
      exact List.prefix_append _ _
    rw [if_pos hp, List.drop_append_of_le_length (Nat.le_refl _), List.drop_length, List.nil_append]
    have hd := digit_read hv.1 hv.2 (r := Lib.joinTail [44] (m.map Lib.itoa) ++ r) (fun c hc => by
      cases m with
      | nil =>
        have : (Lib.joinTail [44] (([] : List Int).map Lib.itoa) ++ r) = r := by simp [Lib.joinTail]
        rw [this] at hc
        exact (hr c hc).1
      | cons u m =>
        have : (Lib.joinTail [44] ((u :: m).map Lib.itoa) ++ r).head? = some 44 := by simp [Lib.joinTail]
        rw [this] at hc
        obtain rfl : 44 = c := by simpa using hc
        rfl)
    constructor
    · unfold numsP
      rw [List.append_assoc, hd.1]
      show numsGo _ _ [v] = _
      rw [numsGo_read m r [v] _ hm hr (by rw [List.length_append, joinTail_len hm]; omega)]
      rfl
    · rw [List.length_append, List.length_append, hd.2.1, joinTail_len hm, List.length_cons]
      omega
theorem line_read {f : Flow} (h1 : 0 ≤ f.src ∧ f.src < 10) (h2 : 0 ≤ f.dst ∧ f.dst < 10) (h3 : Small f.via) (h4 : Small f.no) (r : List UInt8) : lineP (flowText f ++ r) = some (f, r) ∧ (flowText f).length ≤ 14 + 2 * f.via.length + 2 * f.no.length := by
  have b10 : ∀ c ∈ ([10] ++ r : List UInt8).head?, isDig c = false ∧ c ≠ 44 := fun c hc => by
    obtain rfl : 10 = c := by simpa using hc
    exact ⟨rfl, by decide⟩
  have a5 := optP_read (w := notW) h4 b10 (fun _ => hasPrefix_head (by simp))
  have jh : ∀ {w : List UInt8} {m : List Int} {t : List UInt8}, w = 32 :: w.drop 1 → (joinW w m ++ t).head? = some 32 ∨ (m = [] ∧ joinW w m ++ t = t) := by
    intro w m t hw
    cases m with
    | nil => right; simp [joinW]
    | cons v m => left; rw [joinW, if_neg (by simp), hw]; rfl
  have b4 : ∀ c ∈ (joinW notW f.no ++ ([10] ++ r)).head?, isDig c = false ∧ c ≠ 44 := fun c hc => by
    rcases jh (w := notW) (m := f.no) (t := [10] ++ r) rfl with e | ⟨_, e⟩
    · rw [e] at hc
      obtain rfl : 32 = c := by simpa using hc
      exact ⟨rfl, by decide⟩
    · rw [e] at hc; exact b10 c hc
  have a4 := optP_read (w := viaW) (r := joinW notW f.no ++ ([10] ++ r)) h3 b4 (fun _ => by
    cases hn : f.no with
    | nil => rw [show joinW notW [] = [] from rfl, List.nil_append]; exact hasPrefix_head (by simp)
    | cons v m => rw [joinW, if_neg (by simp)]; rfl)
  have b3 : ∀ c ∈ (joinW viaW f.via ++ (joinW notW f.no ++ ([10] ++ r))).head?, isDig c = false := fun c hc => by
    rcases jh (w := viaW) (m := f.via) (t := joinW notW f.no ++ ([10] ++ r)) rfl with e | ⟨_, e⟩
    · rw [e] at hc
      obtain rfl : 32 = c := by simpa using hc
      rfl
    · rw [e] at hc; exact (b4 c hc).1
  have a3 := digit_read h2.1 h2.2 b3
  have a1 := digit_read h1.1 h1.2 (r := [62] ++ (Lib.itoa f.dst ++ (joinW viaW f.via ++ (joinW notW f.no ++ ([10] ++ r))))) (fun c hc => by
    obtain rfl : 62 = c := by simpa using hc
    rfl)
  constructor
  · have := lineP_of (f := f) a1.1 rfl (show numP (List.drop 1 ([62] ++ _)) = _ from a3.1) a4.1 a5.1 rfl
    have e : flowText f ++ r = Lib.itoa f.src ++ ([62] ++ (Lib.itoa f.dst ++ (joinW viaW f.via ++ (joinW notW f.no ++ ([10] ++ r))))) := by simp [flowText]
    rw [e]
    exact this
  · unfold flowText
    have h4l := a4.2
    have h5l := a5.2
    simp only [List.length_append, List.length_cons, List.length_nil, a1.2.1, a3.2.1]
    have : viaW.length = 5 := rfl
    have : notW.length = 5 := rfl
    omega

theorem no_nodup {n : Int} {f : Flow} (h : flowBad n f = 0) : f.no.Nodup := by
  unfold flowBad at h
  split at h
  · exact absurd h (by decide)
  split at h
  · exact absurd h (by decide)
  split at h
  · exact absurd h (by assumption)
  split at h
  · exact absurd h (by assumption)
  · rename_i _ _ _ h4
    exact (listBad_zero (Decidable.not_not.1 h4)).1
theorem flow_small {n : Int} {f : Flow} (hn : n ≤ 8) (h : flowBad n f = 0) (r : List UInt8) : lineP (flowText f ++ r) = some (f, r) ∧ (flowText f).length ≤ 46 := by
  have hf := flowBad_zero h
  have hs0 := hf.s0; have hs1 := hf.s1; have hd0 := hf.d0; have hd1 := hf.d1
  have v8 := nodup_len hf.vnd (fun x hx => (hf.via x hx).1)
  have n8 := nodup_len (no_nodup h) (fun x hx => (hf.no x hx).1)
  have := line_read (f := f) ⟨hf.s0, by omega⟩ ⟨hf.d0, by omega⟩ (fun x hx => by have := (hf.via x hx).1; omega) (fun x hx => by have := (hf.no x hx).1; omega) r
  exact ⟨this.1, by omega⟩
theorem text_lines {n : Int} (hn : n ≤ 8) : ∀ (l : List Flow) (i : Int), (flowsBad n i l).1 = 0 → Lines (textOf l) l ∧ (textOf l).length ≤ 46 * l.length
  | [], _, _ => ⟨.nil, Nat.le_refl _⟩
  | f :: l, i, h => by
    unfold flowsBad at h
    by_cases hf : flowBad n f = 0
    case neg => rw [if_neg hf] at h; exact absurd h hf
    rw [if_pos hf] at h
    obtain ⟨h1, h2⟩ := text_lines hn l (i + 1) h
    obtain ⟨g1, g2⟩ := flow_small hn hf (textOf l)
    have e : textOf (f :: l) = flowText f ++ textOf l := by simp [textOf]
    rw [e]
    exact ⟨.cons g1 h1, by rw [List.length_append, List.length_cons]; omega⟩
/-- FlowTurns, the first half -/
theorem text_read {l : List Flow} {n : Int} (hn : n ≤ 8) (h : (flowsWrong l n).1 = 0) : parseOf (textOf l) = (l, (0, 0)) := by
  unfold flowsWrong at h
  split at h
  · exact absurd h (by decide)
  · obtain ⟨h1, h2⟩ := text_lines hn l 0 h
    exact parse_of h1 (by omega)
end Go.St
