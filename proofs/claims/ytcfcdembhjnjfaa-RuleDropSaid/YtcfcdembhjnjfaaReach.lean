/-
  From the reading of an argument to the datum that lies there, with the bound on its bytes that every row gives.
-/
import Derived.Test.YtcfcdembhjnjfaaFrame
import Derived.SizedLaws
set_option linter.unusedSimpArgs false
set_option linter.unusedVariables false
namespace Go.St
open Go.RowKit Go.Deep Go.ChangeShapes Go.WideShapes

/-- no slice, string or map of the reading is beyond the reach -/
def Fits {H : Type} (P : Program) (t : TypeId) (d : DataW H) : Prop := ∀ n ∈ d.weights P t, n ≤ reachBytes

structure OpensR {α : Type} (P : Program) (t : TypeId) (S : Shape α) (R : α → Prop) : Prop where
  size : P.cellsOf t = S.size
  pos : 0 < S.size
  op : ∀ {H : Type} {enc : TypeId × Value → H} {w : World} {spare : Nat → Bool} {held : Bool} {fuel : Nat} {cs : List Value} {x : DataW H × List MemPlace}, DataW.trod enc P w 0 spare held fuel t cs = some x → Fits P t x.1 → ∃ a, S.rep (fun _ => True) w cs a ∧ R a

theorem Opens.reach {α : Type} {P : Program} {t : TypeId} {S : Shape α} (h : Opens P t S) : OpensR P t S (fun _ => True) :=
  ⟨h.size, h.pos, fun h1 _ => let ⟨a, ha⟩ := h.op h1; ⟨a, ha, trivial⟩⟩

theorem weightsAll_mem {H : Type} {P : Program} {e : TypeId} {d : DataW H} {n : Nat} : ∀ {l : List (DataW H)}, d ∈ l → n ∈ d.weights P e → n ∈ DataW.weightsAll P e l
  | k :: r, h, hn => by
    simp only [DataW.weightsAll, List.mem_append]
    rcases List.mem_cons.1 h with rfl | h
    · exact .inl hn
    · exact .inr (weightsAll_mem h hn)

theorem fits_part {H : Type} {P : Program} {t : TypeId} {fs : Array Field} {parts : List (DataW H)} (ht : P.underlying t = some (.struct fs)) (h : Fits P t (.agg parts)) {i : Nat} {f : Field} {d : DataW H} (hf : fs[i]? = some f) (hd : parts[i]? = some d) : Fits P f.type d := by
  intro n hn
  refine h n ?_
  simp only [DataW.weights, ht]
  exact DataW.weights_mem_each (j := i) (by simp [List.getElem?_map, hf]) hd n hn

theorem OpensR.slice {α : Type} {P : Program} {t e : TypeId} {S : Shape α} {R : α → Prop} (ho : OpensR P e S R) (ht : P.underlying t = some (.slice e)) (hc : P.cellsOf t = 1) {b : Nat} (hbytes : P.bytesOf e = b) :
    OpensR P t (sliceS S) (fun xs => xs.length * b ≤ 140737488351232 ∧ ∀ x ∈ xs, R x) where
  size := hc
  pos := by simp [sliceS]
  op {H enc w spare held fuel cs x} h hfit := by
    rcases open_slice ht h with ⟨rfl, _⟩ | ⟨a, len, cap, m, n, D, Pl, rfl, hb, hl, hm, hmm, rfl, hx⟩
    · exact ⟨[], ⟨none, 0, rfl, rowRep.nil _ _ _ _⟩, by simp, by simp⟩
    have hlm : len ≤ m := by rw [hmm]; split <;> omega
    have hw : len * b ≤ 140737488351232 := by
      have := hfit ((len + (m - len)) * b) (by simp [DataW.weights, ht, hbytes])
      have h2 : len * b ≤ (len + (m - len)) * b := Nat.mul_le_mul_right _ (by omega)
      simp only [reachBytes] at this
      omega
    by_cases h0 : len = 0
    · subst h0
      exact ⟨[], ⟨some a, cap, rfl, Nat.zero_le _, hm, .inl rfl⟩, by simp, by simp⟩
    have each : ∀ i, i < len → ∃ x, ∃ cs', S.rep (fun _ => True) w cs' x ∧ R x ∧ ∀ j c, cs'[j]? = some c → w.cell? ((a.add (i * S.size)).add j) = some c := by
      intro i hi
      obtain ⟨cs', h1, h2⟩ := hx i (by omega)
      obtain ⟨y, hy, hr⟩ := ho.op h2 (fun n hn => hfit n (by
        simp only [DataW.weights, ht, List.mem_cons, List.mem_append]
        exact .inr (.inl (weightsAll_mem (d := D i) (List.mem_map.2 ⟨i, List.mem_range.2 hi, rfl⟩) hn))))
      refine ⟨y, cs', hy, hr, fun j c hc => ?_⟩
      rw [ho.size] at h1
      have hj : j < S.size := by rw [← S.len hy]; exact (List.getElem?_eq_some_iff.1 hc).1
      exact ((World.cells?_some h1).2.2 j hj).trans hc
    obtain ⟨x0, _⟩ := each 0 (by omega)
    haveI : Inhabited α := ⟨x0⟩
    obtain ⟨f, hf⟩ := choose_lt each
    have ha : ∃ b off, a = ⟨b, off, none⟩ ∧ b < w.heap.size := by
      obtain ⟨cs', h1, _, h2⟩ := hf 0 (by omega)
      have hp := ho.pos
      rw [← S.len h1] at hp
      have := h2 0 cs'[0] (List.getElem?_eq_getElem hp)
      obtain ⟨b, off, sp⟩ := a
      simp only [Nat.zero_mul, Addr.add] at this
      simp only [World.cell?] at this
      refine ⟨b, off, ?_⟩
      cases hbk : w.heap[b]? with
      | none => simp [hbk] at this
      | some o =>
        refine ⟨?_, (Array.getElem?_eq_some_iff.1 hbk).1⟩
        cases sp with
        | none => rfl
        | some s => cases o <;> simp [hbk] at this
    obtain ⟨b', off, rfl, hlt⟩ := ha
    refine ⟨(List.range len).map f, ⟨some ⟨b', off, none⟩, cap, by simp, by simpa using hl, hm, .inr ⟨b', off, rfl, trivial, hlt, fun i x hi => ?_⟩⟩, by simpa using hw, fun x hx => ?_⟩
    · have hil : i < len := by have := (List.getElem?_eq_some_iff.1 hi).1; simpa using this
      simp [hil] at hi
      subst hi
      obtain ⟨cs', h1, _, h2⟩ := hf i hil
      refine ⟨cs', h1, fun j c hc => ?_⟩
      have := h2 j c hc
      rwa [add_add, show (Addr.add ⟨b', off, none⟩ (i * S.size + j)) = ⟨b', off + i * S.size + j, none⟩ by unfold Addr.add; by_cases h : i * S.size + j = 0 <;> simp [h, Nat.add_assoc]; omega] at this
    · obtain ⟨i, hi, rfl⟩ := List.mem_map.1 hx
      obtain ⟨_, _, h1, _⟩ := hf i (List.mem_range.1 hi)
      exact h1

theorem OpensR.row {α : Type} {P : Program} {t : TypeId} {S : Shape α} {R : List α → Prop} (ho : OpensR P t (sliceS S) R) {H : Type} {enc : TypeId × Value → H} {w : World} {spare : Nat → Bool} {held : Bool} {fuel : Nat} {cs : List Value} {x : DataW H × List MemPlace} (h : DataW.trod enc P w 0 spare held fuel t cs = some x) (hf : Fits P t x.1) :
    ∃ xs ao cap, cs = [.slice ao xs.length cap] ∧ rowRep S (fun _ => True) w ao cap xs ∧ R xs := by
  obtain ⟨xs, ⟨ao, cap, h1, h2⟩, h3⟩ := ho.op h hf
  exact ⟨xs, ao, cap, h1, h2, h3⟩

section
variable {H : Type} {enc : TypeId × Value → H} {P : Program} {w : World} {r : Reach} {b0 : Nat} {sp : Nat → Bool} {held : Bool} {t : TypeId} {v : Value} {d : DataW H} {ps : List MemPlace}

theorem arg_rowR {α : Type} {S : Shape α} {R : List α → Prop} {e : TypeId} (ho : OpensR P t (sliceS S) R) (ht : P.underlying t = some (.slice e)) (hval : Value.okWide P w r b0 t v) (hd : DataW.Trod enc P w 0 sp held t v d ps) (hf : Fits P t d) :
    ∃ xs ao cap, v = .slice ao xs.length cap ∧ rowRep S (fun _ => True) w ao cap xs ∧ R xs := by
  obtain ⟨a, len, cap, rfl⟩ := okWide_slice ht hval
  obtain ⟨fuel, h⟩ := hd
  obtain ⟨xs, ao, cp, h1, h2, h3⟩ := ho.row h hf
  simp [Value.cells] at h1
  obtain ⟨rfl, rfl, rfl⟩ := h1
  exact ⟨xs, a, cap, rfl, h2, h3⟩

theorem arg_aggR {α : Type} {S : Shape α} {R : α → Prop} {fs : Array Field} (ho : OpensR P t S R) (ht : P.underlying t = some (.struct fs)) (hval : Value.okWide P w r b0 t v) (hd : DataW.Trod enc P w 0 sp held t v d ps) (hf : Fits P t d) :
    ∃ a cs, v = .agg cs.toArray ∧ S.rep (fun _ => True) w cs a ∧ R a := by
  obtain ⟨cs, rfl, _⟩ := okWide_struct ht hval
  obtain ⟨fuel, h⟩ := hd
  obtain ⟨a, ha, hr⟩ := ho.op h hf
  exact ⟨a, cs.toList, by simp, by simpa [Value.cells] using ha, hr⟩
end

theorem fits_of {H : Type} {P : Program} {ts : List TypeId} {ds : List (DataW H)} (h : (DataW.weightsEach P ts ds).all (· ≤ reachBytes) = true) {j : Nat} {t : TypeId} {d : DataW H} (ht : ts[j]? = some t) (hd : ds[j]? = some d) : Fits P t d := fun n hn => by
  have := List.all_eq_true.1 h _ (DataW.weights_mem_each ht hd n hn)
  simpa using this

theorem opens_topoR {P : Program} {t i ls : TypeId} {f0 f1 : Field} {R : List Link → Prop} (ht : P.underlying t = some (.struct #[f0, f1])) (hc : P.cellsOf t = 2) (hi : Opens P i intS) (hl : OpensR P ls (sliceS linkS) R)
    (t0 : f0.type = i ∧ f0.offset = 0) (t1 : f1.type = ls ∧ f1.offset = 1) : OpensR P t topoS (fun t => R t.links) where
  size := by rw [hc]; rfl
  pos := by decide
  op h hfit := by
    obtain ⟨xs, n, _, rfl, hlen', hlen, hf⟩ := DataW.trod_struct ht h
    rename_i cs _
    rw [hc] at hlen'
    match cs, hlen', xs, hlen with
    | [v0, v1], _, [x0, x1], _ =>
      have h0 := hf 0 f0 rfl
      have h1 := hf 1 f1 rfl
      have g1 : Fits P f1.type x1.1 := fits_part ht hfit (i := 1) (f := f1) rfl rfl
      rw [t0.1, t0.2, hi.size] at h0
      rw [t1.1, t1.2, hl.size] at h1
      rw [t1.1] at g1
      obtain ⟨a, ha, ia⟩ := hi.op h0
      obtain ⟨rr, ra, rc, hr1, hr2, hr3⟩ := hl.row h1 g1
      simp [intS, sliceS] at ha hr1
      subst ha; subst hr1
      exact ⟨⟨a, rr⟩, ⟨ra, rc, rfl, ia, hr2⟩, hr3⟩

end Go.St
