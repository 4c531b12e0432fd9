/-
  From the reading of an argument to the datum that lies there, with a measure that the reading's bulk bounds.
-/
import Derived.Test.YtpfapfgfchenoaaDoorOpen
import Derived.Test.YtpfapfgfchenoaaDoorRows
set_option linter.unusedSimpArgs false
set_option linter.unusedVariables false
namespace Go.Proofs.YtpfapfgfchenoaaDoor
open Go.RowKit Go.St Go.Deep Go.ChangeShapes Go.WideShapes

theorem bulk_one {H : Type} (d : DataW H) : 1 ≤ Rows.uptoBulk d := by
  cases d with
  | lit l => cases l <;> simp [Rows.uptoBulk]
  | _ => simp [Rows.uptoBulk]
theorem bulk_mem {H : Type} {d : DataW H} : ∀ {l : List (DataW H)}, d ∈ l → Rows.uptoBulk d ≤ Rows.uptoBulkAll l
  | x :: r, h => by
    simp only [Rows.uptoBulkAll]
    rcases List.mem_cons.1 h with rfl | h
    · omega
    · have := bulk_mem h; omega
theorem bulk_sum {H : Type} {α : Type} {μ : α → Nat} {f : Nat → α} {D : Nat → DataW H} : ∀ {L : List Nat}, (∀ i ∈ L, μ (f i) ≤ Rows.uptoBulk (D i)) → ((L.map f).map μ).sum ≤ Rows.uptoBulkAll (L.map D)
  | [], _ => by simp
  | i :: L, h => by
    have h1 := h i (by simp)
    have h2 := bulk_sum (L := L) fun j hj => h j (List.mem_cons_of_mem _ hj)
    simp only [List.map_cons, List.sum_cons, Rows.uptoBulkAll]
    omega

structure OpensB {α : Type} (P : Program) (t : TypeId) (S : Shape α) (μ : α → Nat) : Prop where
  size : P.cellsOf t = S.size
  pos : 0 < S.size
  op : ∀ {H : Type} {enc : TypeId × Value → H} {w : World} {spare : Nat → Bool} {held : Bool} {fuel : Nat} {cs : List Value} {x : DataW H × List MemPlace}, DataW.trod enc P w 0 spare held fuel t cs = some x → ∃ a, S.rep (fun _ => True) w cs a ∧ μ a ≤ Rows.uptoBulk x.1
theorem _root_.Go.St.Opens.bulk {α : Type} {P : Program} {t : TypeId} {S : Shape α} (h : Opens P t S) : OpensB P t S (fun _ => 1) :=
  ⟨h.size, h.pos, fun h1 => let ⟨a, ha⟩ := h.op h1; ⟨a, ha, bulk_one _⟩⟩
theorem OpensB.slice {α : Type} {P : Program} {t e : TypeId} {S : Shape α} {μ : α → Nat} (ho : OpensB P e S μ) (ht : P.underlying t = some (.slice e)) (hc : P.cellsOf t = 1) :
    OpensB P t (sliceS S) (fun xs => (xs.map μ).sum + 1) where
  size := hc
  pos := by simp [sliceS]
  op {H enc w spare held fuel cs x} h := by
    rcases open_slice ht h with ⟨rfl, _⟩ | ⟨a, len, cap, m, n, D, Pl, rfl, hb, hl, hm, hmm, rfl, hx⟩
    · exact ⟨[], ⟨none, 0, rfl, rowRep.nil _ _ _ _⟩, by simpa using bulk_one _⟩
    have hlm : len ≤ m := by rw [hmm]; split <;> omega
    by_cases h0 : len = 0
    · subst h0
      exact ⟨[], ⟨some a, cap, rfl, Nat.zero_le _, hm, .inl rfl⟩, by simpa using bulk_one _⟩
    have each : ∀ i, i < len → ∃ x, ∃ cs', S.rep (fun _ => True) w cs' x ∧ μ x ≤ Rows.uptoBulk (D i) ∧ ∀ j c, cs'[j]? = some c → w.cell? ((a.add (i * S.size)).add j) = some c := by
      intro i hi
      obtain ⟨cs', h1, h2⟩ := hx i (by omega)
      obtain ⟨y, hy, hr⟩ := ho.op h2
      refine ⟨y, cs', hy, hr, fun j c hc => ?_⟩
      rw [ho.size] at h1
      have hj : j < S.size := by rw [← S.len hy]; exact (List.getElem?_eq_some_iff.1 hc).1
      exact ((World.cells?_some h1).2.2 j hj).trans hc
    obtain ⟨x0, _⟩ := each 0 (by omega)
    haveI : Inhabited α := ⟨x0⟩
    obtain ⟨f, hf⟩ := choose_lt each
    have ha : ∃ b off, a = ⟨b, off, none⟩ ∧ b < w.heap.size := by
      obtain ⟨cs', h1, _, h2⟩ := hf 0 (by omega)
      have hp := ho.pos
      rw [← S.len h1] at hp
      have := h2 0 cs'[0] (List.getElem?_eq_getElem hp)
      obtain ⟨b, off, sp⟩ := a
      simp only [Nat.zero_mul, Addr.add] at this
      simp only [World.cell?] at this
      refine ⟨b, off, ?_⟩
      cases hbk : w.heap[b]? with
      | none => simp [hbk] at this
      | some o =>
        refine ⟨?_, (Array.getElem?_eq_some_iff.1 hbk).1⟩
        cases sp with
        | none => rfl
        | some s => cases o <;> simp [hbk] at this
    obtain ⟨b', off, rfl, hlt⟩ := ha
    refine ⟨(List.range len).map f, ⟨some ⟨b', off, none⟩, cap, by simp, by simpa using hl, hm, .inr ⟨b', off, rfl, trivial, hlt, fun i x hi => ?_⟩⟩, ?_⟩
    · have hil : i < len := by have := (List.getElem?_eq_some_iff.1 hi).1; simpa using this
      simp [hil] at hi
      subst hi
      obtain ⟨cs', h1, _, h2⟩ := hf i hil
      refine ⟨cs', h1, fun j c hc => ?_⟩
      have := h2 j c hc
      rwa [add_add, show (Addr.add ⟨b', off, none⟩ (i * S.size + j)) = ⟨b', off + i * S.size + j, none⟩ by unfold Addr.add; by_cases h : i * S.size + j = 0 <;> simp [h, Nat.add_assoc]] at this
    · have := bulk_sum (L := List.range len) (μ := μ) (f := f) (D := D) fun i hi => by
        obtain ⟨_, _, h1, _⟩ := hf i (List.mem_range.1 hi)
        exact h1
      simp only [Rows.uptoBulk]
      omega

section
variable {H : Type} {enc : TypeId × Value → H} {P : Program} {w : World} {r : Reach} {b0 : Nat} {sp : Nat → Bool} {held : Bool} {t : TypeId} {v : Value} {d : DataW H} {ps : List MemPlace}
theorem arg_rowB {α : Type} {S : Shape α} {μ : List α → Nat} {e : TypeId} (ho : OpensB P t (sliceS S) μ) (ht : P.underlying t = some (.slice e)) (hval : Value.okWide P w r b0 t v) (hd : DataW.Trod enc P w 0 sp held t v d ps) :
    ∃ xs ao cap, v = .slice ao xs.length cap ∧ rowRep S (fun _ => True) w ao cap xs ∧ μ xs ≤ Rows.uptoBulk d := by
  obtain ⟨a, len, cap, rfl⟩ := okWide_slice ht hval
  obtain ⟨fuel, h⟩ := hd
  obtain ⟨xs, ⟨ao, cp, h1, h2⟩, h3⟩ := ho.op h
  simp [Value.cells] at h1
  obtain ⟨rfl, rfl, rfl⟩ := h1
  exact ⟨xs, a, cap, rfl, h2, h3⟩
theorem arg_aggB {α : Type} {S : Shape α} {μ : α → Nat} {fs : Array Field} (ho : OpensB P t S μ) (ht : P.underlying t = some (.struct fs)) (hval : Value.okWide P w r b0 t v) (hd : DataW.Trod enc P w 0 sp held t v d ps) :
    ∃ a cs, v = .agg cs.toArray ∧ S.rep (fun _ => True) w cs a ∧ μ a ≤ Rows.uptoBulk d := by
  obtain ⟨cs, rfl, _⟩ := okWide_struct ht hval
  obtain ⟨fuel, h⟩ := hd
  obtain ⟨a, ha, hr⟩ := ho.op h
  exact ⟨a, cs.toList, by simp, by simpa [Value.cells] using ha, hr⟩
end

end Go.Proofs.YtpfapfgfchenoaaDoor
