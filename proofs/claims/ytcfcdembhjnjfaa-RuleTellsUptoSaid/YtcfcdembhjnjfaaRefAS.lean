/-
  More rules in a table as the document puts them, one by one, plainly.
-/
import Derived.Test.YtcfcdembhjnjfaaSorts
set_option linter.unusedSimpArgs false
set_option linter.unusedVariables false
namespace Go.St

def putR (r : Rule) (ys : List Rule) : List Rule :=
  if (ys.takeWhile (fun y => !ruleLt r y)).getLast? = some r then ys else ys.takeWhile (fun y => !ruleLt r y) ++ r :: ys.dropWhile (fun y => !ruleLt r y)
theorem ins_split (r : Rule) : ∀ zs : List Rule, ins ruleLt r zs = zs.takeWhile (fun y => !ruleLt r y) ++ r :: zs.dropWhile (fun y => !ruleLt r y)
  | [] => rfl
  | y :: ys => by
    unfold ins
    cases h : ruleLt r y
    · rw [if_neg (by simp), List.takeWhile_cons_of_pos (by simp [h]), List.dropWhile_cons_of_pos (by simp [h]), ins_split r ys]; rfl
    · rw [if_pos rfl, List.takeWhile_cons_of_neg (by simp [h]), List.dropWhile_cons_of_neg (by simp [h])]; rfl
theorem compGo_app : ∀ (u v : List Rule) (p q : Rule), (p :: u).getLast? = some q → compGo p (u ++ v) = compGo p u ++ compGo q v
  | [], v, p, q, h => by
    obtain rfl : p = q := by simpa using h
    rfl
  | x :: u, v, p, q, h => by
    have h' : (x :: u).getLast? = some q := by rw [List.getLast?_cons_cons] at h; exact h
    simp only [List.cons_append, compGo]
    rw [compGo_app u v x q h']
    split <;> rfl
theorem comp_app (u v : List Rule) (q : Rule) (h : u.getLast? = some q) : comp (u ++ v) = comp u ++ compGo q v := by
  cases u with
  | nil => simp at h
  | cons p u => show p :: compGo p (u ++ v) = _; rw [compGo_app u v p q h]; rfl
theorem compGo_last : ∀ (l : List Rule) (p : Rule), (p :: compGo p l).getLast? = (p :: l).getLast?
  | [], _ => rfl
  | x :: l, p => by
    rw [compGo, List.getLast?_cons_cons]
    by_cases e : x = p
    · subst e; rw [if_pos rfl, compGo_last l x]
    · rw [if_neg e, List.getLast?_cons_cons, compGo_last l x]
theorem comp_last (l : List Rule) : (comp l).getLast? = l.getLast? := by
  cases l with
  | nil => rfl
  | cons p l => exact compGo_last l p
theorem dropWhile_head {α : Type} {p : α → Bool} : ∀ {l : List α} {y : α} {v : List α}, l.dropWhile p = y :: v → p y = false
  | [], _, _, h => by simp at h
  | x :: l, y, v, h => by
    cases hx : p x
    · rw [List.dropWhile_cons_of_neg (by simp [hx])] at h
      obtain ⟨rfl, _⟩ := List.cons.inj h
      exact hx
    · rw [List.dropWhile_cons_of_pos hx] at h
      exact dropWhile_head h
theorem takeWhile_all {α : Type} {p : α → Bool} : ∀ {l : List α}, ∀ x ∈ l.takeWhile p, p x = true
  | [], x, h => by simp at h
  | y :: l, x, h => by
    cases hy : p y
    · rw [List.takeWhile_cons_of_neg (by simp [hy])] at h; simp at h
    · rw [List.takeWhile_cons_of_pos hy] at h
      rcases List.mem_cons.1 h with rfl | h
      · exact hy
      · exact takeWhile_all x h
theorem takeWhile_app {α : Type} {p : α → Bool} : ∀ {u v : List α}, (∀ x ∈ u, p x = true) → (∀ y v', v = y :: v' → p y = false) → (u ++ v).takeWhile p = u ∧ (u ++ v).dropWhile p = v
  | [], v, _, hv => by
    cases v with
    | nil => exact ⟨rfl, rfl⟩
    | cons y v => have := hv y v rfl; exact ⟨List.takeWhile_cons_of_neg (by simp [this]), List.dropWhile_cons_of_neg (by simp [this])⟩
  | x :: u, v, hu, hv => by
    have hx := hu x (by simp)
    obtain ⟨h1, h2⟩ := takeWhile_app (u := u) (v := v) (fun z hz => hu z (List.mem_cons_of_mem _ hz)) hv
    rw [List.cons_append, List.takeWhile_cons_of_pos hx, List.dropWhile_cons_of_pos hx, h1, h2]; exact ⟨rfl, rfl⟩
/-- put in, and compacted: the same -/
theorem comp_ins (r : Rule) (zs : List Rule) : comp (ins ruleLt r zs) = putR r (comp zs) := by
  rw [ins_split]
  have hu : ∀ x ∈ zs.takeWhile (fun y => !ruleLt r y), (fun y => !ruleLt r y) x = true := takeWhile_all
  have hv : ∀ y v', zs.dropWhile (fun y => !ruleLt r y) = y :: v' → (fun y => !ruleLt r y) y = false := fun y v' h => dropWhile_head (p := fun y => !ruleLt r y) h
  have hz : zs = zs.takeWhile (fun y => !ruleLt r y) ++ zs.dropWhile (fun y => !ruleLt r y) := (List.takeWhile_append_dropWhile).symm
  generalize zs.takeWhile (fun y => !ruleLt r y) = u at *
  generalize zs.dropWhile (fun y => !ruleLt r y) = v at *
  subst hz
  have hcv : ∀ q, ruleLt r q = false → compGo q v = comp v := by
    intro q hq
    cases v with
    | nil => rfl
    | cons y v' =>
      have h1 := hv y v' rfl
      simp only [Bool.not_eq_false'] at h1
      rw [compGo, if_neg (by rintro rfl; rw [hq] at h1; exact absurd h1 (by decide))]; rfl
  have hcv2 : ∀ y v', comp v = y :: v' → (fun y => !ruleLt r y) y = false := by
    intro y v' h
    cases v with
    | nil => simp [comp] at h
    | cons z v'' =>
      obtain ⟨rfl, _⟩ := List.cons.inj (show z :: compGo z v'' = y :: v' from h)
      exact hv z v'' rfl
  cases hl : u.getLast? with
  | none =>
    obtain rfl : u = [] := by simpa using hl
    simp only [List.nil_append]
    obtain ⟨t1, t2⟩ := takeWhile_app (p := fun y => !ruleLt r y) (u := []) (v := comp v) (by simp) hcv2
    simp only [List.nil_append] at t1 t2
    unfold putR
    rw [t1, t2, if_neg (by simp)]
    show r :: compGo r v = _
    rw [hcv r (ruleLt_weak.irr r)]; rfl
  | some q =>
    have hq : ruleLt r q = false := by
      have := hu q (List.mem_of_getLast? hl)
      simpa using this
    rw [comp_app u (r :: v) q hl, comp_app u v q hl, hcv q hq]
    obtain ⟨t1, t2⟩ := takeWhile_app (p := fun y => !ruleLt r y) (u := comp u) (v := comp v) (fun x hx => hu x ((comp_mem u x).1 hx)) hcv2
    unfold putR
    rw [t1, t2, comp_last, hl, compGo]
    by_cases e : r = q
    · subst e
      rw [if_pos rfl, if_pos rfl, hcv r hq]
    · rw [if_neg e, if_neg (fun h => e (Option.some.inj h).symm), hcv r (ruleLt_weak.irr r)]
theorem up_srt {l : List Rule} (h : l.Pairwise fun a b => ruleLt a b = true) : Srt ruleLt l := h.imp fun hab => ruleLt_weak.not_rev hab
theorem comp_up_self : ∀ {l : List Rule}, l.Pairwise (fun a b => ruleLt a b = true) → comp l = l
  | [], _ => rfl
  | [x], _ => rfl
  | x :: y :: l, h => by
    obtain ⟨h1, h2⟩ := List.pairwise_cons.1 h
    have ih := comp_up_self h2
    have hne : y ≠ x := by rintro rfl; have := h1 y (by simp); rw [ruleLt_weak.irr] at this; exact absurd this (by decide)
    show x :: compGo x (y :: l) = _
    rw [compGo, if_neg hne]
    exact congrArg _ ih
/-- one by one, or all at once -/
theorem out_put {l more : List Rule} (h : TabOk l) : outOf l more = more.foldl (fun s r => putR r s) l := by
  have hs := up_srt h.up
  have key : ∀ (ms zs : List Rule), comp (ms.foldl (fun s x => ins ruleLt x s) zs) = ms.foldl (fun s r => putR r s) (comp zs) := by
    intro ms
    induction ms with
    | nil => intro zs; rfl
    | cons m ms ih => intro zs; rw [List.foldl_cons, ih, comp_ins, List.foldl_cons]
  unfold outOf
  rw [ssort_append ruleLt_weak, ssort_sorted ruleLt_weak hs, key, comp_up_self h.up]
theorem foldl_step {α β : Type} (f : β → α → β) (xs : List α) (b : β) {j : Nat} {x : α} (h : xs[j]? = some x) : (xs.take (j + 1)).foldl f b = f ((xs.take j).foldl f b) x := by
  rw [List.take_add_one, h, List.foldl_append]; rfl
/-- where a rule is put -/
theorem put_at {r : Rule} {ys : List Rule} {k : Nat} (hk : k ≤ ys.length) (h1 : ∀ (i : Nat) (y : Rule), i < k → ys[i]? = some y → ruleLt r y = false) (h2 : ∀ y : Rule, ys[k]? = some y → ruleLt r y = true) :
    putR r ys = if 0 < k ∧ ys[k - 1]? = some r then ys else ys.take k ++ r :: ys.drop k := by
  have e : ys = ys.take k ++ ys.drop k := (List.take_append_drop k ys).symm
  obtain ⟨t1, t2⟩ := takeWhile_app (p := fun y => !ruleLt r y) (u := ys.take k) (v := ys.drop k) (fun x hx => by
    obtain ⟨i, hi⟩ := List.getElem?_of_mem hx
    rw [List.getElem?_take] at hi
    split at hi
    case isTrue hik => simp [h1 i x hik hi]
    case isFalse => cases hi) (fun y v' hv => by
    have : ys[k]? = some y := by
      have h3 : (ys.drop k)[0]? = some y := by rw [hv]; rfl
      rw [List.getElem?_drop] at h3; simpa using h3
    simp [h2 y this])
  rw [← e] at t1 t2
  unfold putR
  rw [t1, t2]
  have hlast : (ys.take k).getLast? = some r ↔ 0 < k ∧ ys[k - 1]? = some r := by
    rw [List.getLast?_eq_getElem?, List.length_take, Nat.min_eq_left hk, List.getElem?_take]
    by_cases h0 : 0 < k
    · rw [if_pos (by omega)]; simp [h0]
    · obtain rfl : k = 0 := by omega
      simp
  by_cases hc : 0 < k ∧ ys[k - 1]? = some r
  · rw [if_pos (hlast.2 hc), if_pos hc]
  · rw [if_neg (fun h => hc (hlast.1 h)), if_neg hc]
end Go.St
