/-
  Plain laws of orders' bytes: what is written is read, in one way alone; one byte that is another one is found.
-/
import Derived.Test.YtpbfcpnenpcobaaParseS
set_option linter.unusedSimpArgs false
set_option linter.unusedVariables false
namespace Go.St

def bareO (o : Order) : Order := ⟨o.kind, o.num, o.ver, if o.kind = 1 then o.rules else [], if o.kind = 2 then o.flows else []⟩

theorem pairs_rulesB (v : Int) : ∀ rs : List Rule, rs.all (ruleOk v) = true → pairs v (rulesB rs) = rs
  | [], _ => rfl
  | r :: rs, h => by
    obtain ⟨a, b, c⟩ := r
    simp only [List.all_cons, Bool.and_eq_true, ruleOk, beq_iff_eq] at h
    obtain ⟨⟨rfl, _⟩, h2⟩ := h
    have := pairs_rulesB a rs h2
    simp only [rulesB, List.flatMap_cons] at *
    simp [pairs, this]

theorem rulesB_pairs (v : Int) : ∀ (m : Nat) (r : List Int), r.length = 2 * m → rulesB (pairs v r) = r ∧ (pairs v r).length = m
  | 0, [], _ => ⟨rfl, rfl⟩
  | 0, _ :: _, h => by simp at h
  | m + 1, [], h => by simp at h
  | m + 1, [_], h => by simp at h; omega
  | m + 1, a :: b :: r, h => by
    obtain ⟨h1, h2⟩ := rulesB_pairs v m r (by simp at h; omega)
    simp only [rulesB] at *
    simp [pairs, h1, h2]

theorem finish_ok {o : Order} (h : wireWrong o = 0) : finish o = (o, 0) := by unfold finish; rw [if_pos h]
theorem finish_snd {o : Order} : (finish o).2 = wireWrong o := by
  unfold finish; by_cases h : wireWrong o = 0
  · rw [if_pos h, h]
  · rw [if_neg h]
theorem finish_bad {o : Order} (h : wireWrong o ≠ 0) : finish o = (zeroO, wireWrong o) := by unfold finish; rw [if_neg h]

theorem wrong_parts {o : Order} (h : wireWrong o = 0) : (1 ≤ o.num ∧ o.num ≤ 100000 ∧ 1 ≤ o.ver ∧ o.ver ≤ 1000) ∧
    ((o.kind = 1 ∧ o.rules.length ≤ 16 ∧ o.rules.all (ruleOk o.ver) = true) ∨ (o.kind = 2 ∧ o.flows.length ≤ 12 ∧ flowsOk (-1) o.flows = true) ∨ o.kind = 3) := by
  unfold wireWrong at h
  by_cases h0 : o.num < 1 ∨ 100000 < o.num ∨ o.ver < 1 ∨ 1000 < o.ver
  · rw [if_pos h0] at h; omega
  rw [if_neg h0] at h
  refine ⟨by omega, ?_⟩
  by_cases h1 : o.kind = 1
  · rw [if_pos h1] at h
    by_cases h2 : 16 < o.rules.length
    · rw [if_pos h2] at h; omega
    rw [if_neg h2] at h
    by_cases h3 : o.rules.all (ruleOk o.ver) = true
    · exact .inl ⟨h1, by omega, h3⟩
    · rw [if_neg h3] at h; omega
  rw [if_neg h1] at h
  by_cases h2 : o.kind = 2
  · rw [if_pos h2] at h
    by_cases h4 : 12 < o.flows.length
    · rw [if_pos h4] at h; omega
    rw [if_neg h4] at h
    by_cases h3 : flowsOk (-1) o.flows = true
    · exact .inr (.inl ⟨h2, by omega, h3⟩)
    · rw [if_neg h3] at h; omega
  rw [if_neg h2] at h
  by_cases h3 : o.kind = 3
  · exact .inr (.inr h3)
  · rw [if_neg h3] at h; omega

theorem getLastD_snoc (l : List Int) (c : Int) : (l ++ [c]).getLastD 0 = c := by simp [List.getLastD_eq_getLast?]

theorem parse_snoc {d : List Int} {c : Int} (h : 6 ≤ d.length) : parseAll (d ++ [c]) = parseOf d c := by
  unfold parseAll
  rw [if_neg (by simp; omega), List.dropLast_concat, getLastD_snoc]

theorem num_of {n : Int} : numOf (n / 65536) (n / 256 % 256) (n % 256) = n := by unfold numOf; omega
theorem ver_of {n : Int} : verOf (n / 256) (n % 256) = n := by unfold verOf; omega

theorem wrong_bare {o : Order} (h : wireWrong o = 0) : wireWrong (bareO o) = 0 := by
  obtain ⟨k, n, v, rs, fs⟩ := o
  obtain ⟨⟨h1, h2, h3, h4⟩, h5⟩ := wrong_parts h
  unfold wireWrong at *
  unfold bareO
  dsimp only at *
  rcases h5 with ⟨rfl, _⟩ | ⟨rfl, _⟩ | rfl
  · simpa using h
  · simpa using h
  · simpa using h

theorem parse_bytes {o : Order} (h : wireWrong o = 0) : parseAll (bytesOf o) = (bareO o, 0) := by
  have hb : bytesOf o = bodyB o ++ [sumB (bodyB o)] := by unfold bytesOf; rw [if_pos h]
  have hw := wrong_bare h
  rw [hb, parse_snoc (by unfold bodyB headB; simp)]
  obtain ⟨⟨h1, h2, h3, h4⟩, h5⟩ := wrong_parts h
  obtain ⟨k, n, v, rs, fs⟩ := o
  dsimp only at *
  rcases h5 with ⟨rfl, hl, ha⟩ | ⟨rfl, hl, ha⟩ | rfl
  · have e : bodyB ⟨1, n, v, rs, fs⟩ = 1 :: (n / 65536) :: (n / 256 % 256) :: (n % 256) :: (v / 256) :: (v % 256) :: (rs.length : Int) :: rulesB rs := by simp [bodyB, headB]
    rw [e]
    simp only [parseOf, if_true, num_of, ver_of, parseBody, rulesB_len]
    rw [if_pos (by simp), pairs_rulesB v rs ha]
    exact finish_ok (by simpa [bareO] using hw)
  · have e : bodyB ⟨2, n, v, rs, fs⟩ = 2 :: (n / 65536) :: (n / 256 % 256) :: (n % 256) :: (v / 256) :: (v % 256) :: (fs.length : Int) :: fs := by simp [bodyB, headB]
    rw [e]
    simp only [parseOf, if_true, num_of, ver_of, parseBody]
    rw [if_neg (by decide)]
    exact finish_ok (by simpa [bareO] using hw)
  · have e : bodyB ⟨3, n, v, rs, fs⟩ = 3 :: (n / 65536) :: (n / 256 % 256) :: (n % 256) :: (v / 256) :: (v % 256) :: [] := by simp [bodyB, headB]
    rw [e]
    simp only [parseOf, if_true, num_of, ver_of, parseBody]
    rw [if_neg (by decide), if_neg (by decide)]
    exact finish_ok (by simpa [bareO] using hw)

/-- bytes that are read: what they are -/
theorem parse_parts {l : List Int} (hb : ∀ x ∈ l, 0 ≤ x ∧ x ≤ 255) (h : (parseAll l).2 = 0) : wireWrong (parseAll l).1 = 0 ∧ bytesOf (parseAll l).1 = l := by
  by_cases h7 : l.length < 7
  · unfold parseAll at h; rw [if_pos h7] at h; cases h
  have hne : l ≠ [] := by rintro rfl; simp at h7
  obtain ⟨d, c, rfl⟩ : ∃ d c, l = d ++ [c] := ⟨l.dropLast, l.getLast hne, (List.dropLast_concat_getLast hne).symm⟩
  have hd : 6 ≤ d.length := by simp at h7; omega
  rw [parse_snoc hd] at h ⊢
  have hb' : ∀ x ∈ d, 0 ≤ x ∧ x ≤ 255 := fun x hx => hb x (by simp [hx])
  clear hb h7 hne
  match d, hd with
  | k0 :: k1 :: k2 :: k3 :: k4 :: k5 :: t, _ =>
    have b0 := hb' k0 (by simp)
    have b1 := hb' k1 (by simp)
    have b2 := hb' k2 (by simp)
    have b3 := hb' k3 (by simp)
    have b4 := hb' k4 (by simp)
    have b5 := hb' k5 (by simp)
    have e1 : numOf k1 k2 k3 / 65536 = k1 := by unfold numOf; omega
    have e2 : numOf k1 k2 k3 / 256 % 256 = k2 := by unfold numOf; omega
    have e3 : numOf k1 k2 k3 % 256 = k3 := by unfold numOf; omega
    have e4 : verOf k4 k5 / 256 = k4 := by unfold verOf; omega
    have e5 : verOf k4 k5 % 256 = k5 := by unfold verOf; omega
    by_cases hs : sumB (k0 :: k1 :: k2 :: k3 :: k4 :: k5 :: t) = c
    case neg => simp only [parseOf, if_neg hs] at h; cases h
    subst hs
    simp only [parseOf, if_true] at h ⊢
    unfold parseBody at h ⊢
    by_cases hk1 : k0 = 1
    · rw [if_pos hk1] at h ⊢
      subst hk1
      match t with
      | [] => cases h
      | n :: r =>
        dsimp only at h ⊢
        by_cases hn : (r.length : Int) = 2 * n
        · rw [if_pos hn] at h ⊢
          rw [finish_snd] at h
          rw [finish_ok h]
          obtain ⟨g1, g2⟩ := rulesB_pairs (verOf k4 k5) n.toNat r (by omega)
          refine ⟨h, ?_⟩
          unfold bytesOf
          rw [if_pos h]
          have e : bodyB ⟨1, numOf k1 k2 k3, verOf k4 k5, pairs (verOf k4 k5) r, []⟩ = 1 :: k1 :: k2 :: k3 :: k4 :: k5 :: n :: r := by
            have hn' : (n.toNat : Int) = n := by omega
            simp [bodyB, headB, e1, e2, e3, e4, e5, g1, g2, hn']
          rw [e]
        · rw [if_neg hn] at h; cases h
    rw [if_neg hk1] at h ⊢
    by_cases hk2 : k0 = 2
    · rw [if_pos hk2] at h ⊢
      subst hk2
      match t with
      | [] => cases h
      | n :: r =>
        dsimp only at h ⊢
        by_cases hn : (r.length : Int) = n
        · rw [if_pos hn] at h ⊢
          rw [finish_snd] at h
          rw [finish_ok h]
          refine ⟨h, ?_⟩
          unfold bytesOf
          rw [if_pos h]
          have e : bodyB ⟨2, numOf k1 k2 k3, verOf k4 k5, [], r⟩ = 2 :: k1 :: k2 :: k3 :: k4 :: k5 :: n :: r := by
            simp [bodyB, headB, e1, e2, e3, e4, e5, hn]
          rw [e]
        · rw [if_neg hn] at h; cases h
    rw [if_neg hk2] at h ⊢
    by_cases ht : t = []
    · subst ht
      rw [if_pos rfl] at h ⊢
      rw [finish_snd] at h
      rw [finish_ok h]
      refine ⟨h, ?_⟩
      unfold bytesOf
      rw [if_pos h]
      have e : bodyB ⟨k0, numOf k1 k2 k3, verOf k4 k5, [], []⟩ = k0 :: k1 :: k2 :: k3 :: k4 :: k5 :: [] := by
        simp [bodyB, headB, e1, e2, e3, e4, e5, hk1, hk2]
      rw [e]
    · rw [if_neg ht] at h; cases h

theorem parse_bad {l : List Int} (h : (parseAll l).2 ≠ 0) : (parseAll l).1 = zeroO := by
  have hf : ∀ o, (finish o).2 ≠ 0 → (finish o).1 = zeroO := by
    intro o ho
    rw [finish_snd] at ho
    rw [finish_bad ho]
  unfold parseAll at h ⊢
  by_cases h7 : l.length < 7
  · rw [if_pos h7]
  rw [if_neg h7] at h ⊢
  unfold parseOf at h ⊢
  split at h
  · rename_i k0 k1 k2 k3 k4 k5 t hd
    split at h
    · rename_i hs
      rw [if_pos hs]
      unfold parseBody at h ⊢
      by_cases hk1 : k0 = 1
      · rw [if_pos hk1] at h ⊢
        cases t with
        | nil => rfl
        | cons n r =>
          dsimp only at h ⊢
          by_cases hn : (r.length : Int) = 2 * n
          · rw [if_pos hn] at h ⊢; exact hf _ h
          · rw [if_neg hn]
      rw [if_neg hk1] at h ⊢
      by_cases hk2 : k0 = 2
      · rw [if_pos hk2] at h ⊢
        cases t with
        | nil => rfl
        | cons n r =>
          dsimp only at h ⊢
          by_cases hn : (r.length : Int) = n
          · rw [if_pos hn] at h ⊢; exact hf _ h
          · rw [if_neg hn]
      rw [if_neg hk2] at h ⊢
      by_cases ht : t = []
      · rw [if_pos ht] at h ⊢; exact hf _ h
      · rw [if_neg ht]
    · rename_i hs
      rw [if_neg hs]
  · rfl

theorem sumStep_inj {n m c : Int} (hn : 0 ≤ n ∧ n ≤ 255) (hm : 0 ≤ m ∧ m ≤ 255) (h : sumStep n c = sumStep m c) : n = m := by
  unfold sumStep at h
  have h1 : 0 ≤ 2 * n % 256 + n / 128 ∧ 2 * n % 256 + n / 128 ≤ 255 := by omega
  have h2 : 0 ≤ 2 * m % 256 + m / 128 ∧ 2 * m % 256 + m / 128 ≤ 255 := by omega
  have h3 : 2 * n % 256 + n / 128 = 2 * m % 256 + m / 128 := by
    generalize 2 * n % 256 + n / 128 = a at *
    generalize 2 * m % 256 + m / 128 = b at *
    omega
  clear h h1 h2
  have h4 : n / 128 = 0 ∨ n / 128 = 1 := by omega
  have h5 : m / 128 = 0 ∨ m / 128 = 1 := by omega
  rcases h4 with h4 | h4 <;> rcases h5 with h5 | h5 <;> omega
theorem sumStep_inj2 {n c d : Int} (hc : 0 ≤ c ∧ c ≤ 255) (hd : 0 ≤ d ∧ d ≤ 255) (h : sumStep n c = sumStep n d) : c = d := by
  unfold sumStep at h; omega
theorem sumStep_in (n c : Int) : 0 ≤ sumStep n c ∧ sumStep n c ≤ 255 := by unfold sumStep; omega
theorem fold_inj : ∀ (l : List Int) (n m : Int), (0 ≤ n ∧ n ≤ 255) → (0 ≤ m ∧ m ≤ 255) → l.foldl sumStep n = l.foldl sumStep m → n = m
  | [], _, _, _, _, h => h
  | c :: l, n, m, hn, hm, h => sumStep_inj hn hm (fold_inj l _ _ (sumStep_in n c) (sumStep_in m c) h)

theorem sum_set {l : List Int} {i : Nat} {x y : Int} (hi : l[i]? = some x) (hx : 0 ≤ x ∧ x ≤ 255) (hy : 0 ≤ y ∧ y ≤ 255) (h : x ≠ y) : sumB (l.set i y) ≠ sumB l := by
  obtain ⟨hlt, hget⟩ := List.getElem?_eq_some_iff.1 hi
  have e1 : l = l.take i ++ x :: l.drop (i + 1) := by rw [← hget, List.getElem_cons_drop, List.take_append_drop]
  have e2 : l.set i y = l.take i ++ y :: l.drop (i + 1) := by rw [List.set_eq_take_append_cons_drop, if_pos hlt]
  rw [e2]
  intro hs
  rw [show sumB l = sumB (l.take i ++ x :: l.drop (i + 1)) by rw [← e1]] at hs
  unfold sumB at hs
  rw [List.foldl_append, List.foldl_append, List.foldl_cons, List.foldl_cons] at hs
  exact h (sumStep_inj2 hy hx (fold_inj _ _ _ (sumStep_in _ _) (sumStep_in _ _) hs)).symm

theorem body_byte {o : Order} (h : wireWrong o = 0) : ∀ x ∈ bytesOf o, 0 ≤ x ∧ x ≤ 255 := by
  have hb : bytesOf o = bodyB o ++ [sumB (bodyB o)] := by unfold bytesOf; rw [if_pos h]
  rw [hb]
  intro x hx
  rcases List.mem_append.1 hx with hx | hx
  case inr =>
    simp only [List.mem_cons, List.not_mem_nil, or_false] at hx
    subst hx; exact sumB_range _
  obtain ⟨⟨h1, h2, h3, h4⟩, h5⟩ := wrong_parts h
  have hhead : ∀ x ∈ headB o, 0 ≤ x ∧ x ≤ 255 := by
    intro x hx
    simp only [headB, List.mem_cons, List.not_mem_nil, or_false] at hx
    rcases h5 with h5 | h5 | h5 <;> omega
  unfold bodyB at hx
  rcases List.mem_append.1 hx with hx | hx
  · exact hhead x hx
  rcases h5 with ⟨hk, hl, ha⟩ | ⟨hk, hl, ha⟩ | hk
  · rw [if_pos hk] at hx
    rcases List.mem_cons.1 hx with rfl | hx
    · omega
    unfold rulesB at hx
    obtain ⟨r, hr, hx⟩ := List.mem_flatMap.1 hx
    have := List.all_eq_true.1 ha r hr
    simp only [ruleOk, Bool.and_eq_true, decide_eq_true_eq] at this
    simp only [List.mem_cons, List.not_mem_nil, or_false] at hx
    rcases hx with rfl | rfl <;> omega
  · rw [if_neg (by omega), if_pos hk] at hx
    rcases List.mem_cons.1 hx with rfl | hx
    · omega
    obtain ⟨j, hj, rfl⟩ := List.getElem_of_mem hx
    have := flow_in ha hj
    omega
  · rw [if_neg (by omega), if_neg (by omega)] at hx; simp at hx

/-- one byte that is another one is found -/
theorem spoilt {o : Order} (h : wireWrong o = 0) {i : Nat} {x y : Int} (hi : (bytesOf o)[i]? = some x) (hy : 0 ≤ y ∧ y ≤ 255) (hxy : x ≠ y) : (parseAll ((bytesOf o).set i y)).2 = 2 := by
  have hxb := body_byte h x (List.mem_of_getElem? hi)
  have hb : bytesOf o = bodyB o ++ [sumB (bodyB o)] := by unfold bytesOf; rw [if_pos h]
  rw [hb] at hi ⊢
  have hl : 6 ≤ (bodyB o).length := by unfold bodyB headB; simp
  have hof : ∀ (d : List Int) (c : Int), sumB d ≠ c → (parseOf d c).2 = 2 := by
    intro d c hs
    unfold parseOf
    split
    · rw [if_neg hs]
    · rfl
  by_cases hlt : i < (bodyB o).length
  · rw [List.getElem?_append_left hlt] at hi
    rw [List.set_append_left _ _ hlt, parse_snoc (by simpa using hl)]
    exact hof _ _ (sum_set hi hxb hy hxy)
  · rw [List.getElem?_append_right (by omega)] at hi
    have hi0 : i - (bodyB o).length = 0 := by
      have := (List.getElem?_eq_some_iff.1 hi).1
      simp at this
      omega
    rw [hi0] at hi
    simp at hi
    rw [List.set_append_right _ _ (by omega), hi0]
    simp only [List.set_cons_zero]
    rw [parse_snoc hl]
    exact hof _ _ (by rw [hi]; exact hxy)

end Go.St
