/-
  A row of the call's own, of which one cell is turned in place.
-/
import Derived.Test.YtagldmdeohenjaaCtlR
set_option linter.unusedSimpArgs false
set_option linter.unusedVariables false
namespace Go.St
open Go.RowKit

theorem chunk_at {size : Nat} {l : List Value} {k j : Nat} (h : j < size) : (chunk size l k)[j]? = l[k * size + j]? := by
  unfold chunk
  rw [List.getElem?_take, if_pos h, List.getElem?_drop]
theorem chunk_out {size : Nat} {l : List Value} {k j : Nat} (h : ¬ j < size) : (chunk size l k)[j]? = none := by
  unfold chunk
  rw [List.getElem?_take, if_neg h]
theorem place_ne {size i k o j : Nat} (hik : i ≠ k) (ho : o < size) (hj : j < size) : i * size + o ≠ k * size + j := by
  intro e
  rcases Nat.lt_or_gt_of_ne hik with h | h
  · have := Nat.mul_le_mul_right size h
    rw [Nat.succ_mul] at this
    omega
  · have := Nat.mul_le_mul_right size h
    rw [Nat.succ_mul] at this
    omega
theorem chunk_set {size : Nat} {l : List Value} {i o : Nat} (ho : o < size) (v : Value) (k : Nat) : chunk size (l.set (i * size + o) v) k = if k = i then (chunk size l i).set o v else chunk size l k := by
  apply List.ext_getElem?
  intro j
  by_cases hj : j < size
  case neg =>
    rw [chunk_out hj]
    split
    · rw [List.getElem?_set]
      split
      · subst_vars; exact absurd ho hj
      · rw [chunk_out hj]
    · rw [chunk_out hj]
  rw [chunk_at hj, List.getElem?_set]
  split
  case isTrue h1 =>
    by_cases hk : k = i
    · subst hk
      have : o = j := by omega
      subst this
      have hlen : (k * size + o < l.length) = (o < (chunk size l k).length) := by
        apply propext
        unfold chunk
        rw [List.length_take, List.length_drop]
        omega
      simp only [if_true, List.getElem?_set]
      simp only [hlen]
    · exact absurd h1 (place_ne (Ne.symm hk) ho hj)
  case isFalse h1 =>
    by_cases hk : k = i
    · subst hk
      have : o ≠ j := fun e => h1 (by rw [e])
      rw [if_pos rfl, List.getElem?_set, if_neg this, chunk_at hj]
    · rw [if_neg hk, chunk_at hj]

section
variable {α : Type} {sh : Shape α} {e : TypeId} {ok : Nat → Prop} {base : Nat} {w : World} {ao : Option Addr} {n cap : Nat} {xs : List α}
theorem ownR.at (h : ownR sh e ok base w ao n cap xs) {i : Nat} {x : α} (hx : xs[i]? = some x) : ∃ g cs, ao = some ⟨g, 0, none⟩ ∧ base ≤ g ∧ g < w.heap.size ∧ ¬ ok g ∧ sh.rep ok w cs x ∧
    (∀ j c, cs[j]? = some c → w.cell? ⟨g, i * sh.size + j, none⟩ = some c) ∧ (∀ o, w.frozen? ⟨g, o, none⟩ = false) ∧ ∃ cur, w.heap[g]? = some (.cells cur e (0, 0)) := by
  obtain ⟨cells, h1, rfl, h3, h4, h5⟩ := h
  have h1' := h1
  obtain ⟨hc, hle, hm, ⟨rfl, h0⟩ | ⟨g, cur, rfl, hb, hg, hs, ht⟩⟩ := h1
  · have := (List.getElem?_eq_some_iff.1 hx).1
    omega
  · refine ⟨g, _, rfl, hb, (h1'.lt g rfl).2, h4 g rfl, h3 i x hx, fun j c hj => h1'.cell rfl _ _ (chunk_get hj), fun o => ?_, cur, hg⟩
    simp [World.frozen?, hg]

/-- one cell of an element is turned -/
theorem ownR.put1 {g : Nat} (h : ownR sh e ok base w (some ⟨g, 0, none⟩) n cap xs) {i o : Nat} {x y : α} (hx : xs[i]? = some x) (ho : o < sh.size) (v : Value)
    (hy : ∀ cs, sh.rep ok w cs x → sh.rep ok w (cs.set o v) y) : ownR sh e ok base (w.setCell ⟨g, i * sh.size + o, none⟩ v) (some ⟨g, 0, none⟩) n cap (xs.set i y) := by
  have hg0 := (h.lt g rfl).2
  obtain ⟨cells, ⟨hc, hle, hm, h6⟩, rfl, h3, h4, h5⟩ := h
  have hng := h4 g rfl
  rcases h6 with ⟨h6, _⟩ | ⟨g', cur, hg', hb, hg, hs, ht⟩
  · cases h6
  obtain rfl : g = g' := by simpa using hg'
  have hi := (List.getElem?_eq_some_iff.1 hx).1
  have hp : i * sh.size + o < xs.length * sh.size := by
    have := Nat.mul_le_mul_right sh.size hi
    rw [Nat.succ_mul] at this
    omega
  have hmono : ∀ {cs : List Value} {a : α}, sh.rep ok w cs a → sh.rep ok (w.setCell ⟨g, i * sh.size + o, none⟩ v) cs a := fun h => sh.mono h fun b _ hb => ⟨hb, Below.heap_setCell _ _ _ _ (fun e => hng (by have e1 : b = g := e; rw [← e1]; exact hb))⟩
  refine ⟨cells.set (i * sh.size + o) v, ⟨by rw [List.length_set]; exact hc, hle, hm, .inr ⟨g, cur.setIfInBounds (i * sh.size + o) v, rfl, hb, ?_, by simpa using hs, ?_⟩⟩, by simp, ?_, h4, fun b hb => by simpa using h5 b hb⟩
  · have : w.heap[g]? = some (.cells cur e (0, 0)) := hg
    simp [World.setCell, Array.getElem?_modify, this]
  · rw [Array.toList_setIfInBounds, List.take_set, ht]
  · intro k z hz
    rw [chunk_set ho]
    rw [List.getElem?_set] at hz
    by_cases hk : k = i
    · subst hk
      rw [if_pos rfl]
      rw [if_pos rfl, if_pos hi] at hz
      obtain rfl : y = z := by simpa using hz
      exact hmono (hy _ (h3 k x hx))
    · rw [if_neg hk]
      rw [if_neg (Ne.symm hk)] at hz
      exact hmono (h3 k z hz)
theorem ownR.frm {W : Nat → Prop} {B : Nat} {w' : World} (h : ownR sh e ok base w ao n cap xs) (hF : Frm W B w w') (hk : ∀ b, ok b → W b) (hb : ∀ k, blk ao = some k → W k) : ownR sh e ok base w' ao n cap xs := by
  have h5 : ∀ b, ok b → b < w.heap.size := by obtain ⟨_, _, _, _, _, h5⟩ := h; exact h5
  refine h.keep hF.size fun k hk' => ?_
  rcases hk' with hk' | hk'
  · exact hF.keep k (h.lt k hk').2 (hb k hk')
  · exact hF.keep k (h5 k hk') (hk k hk')
theorem ownR.not (h : ownR sh e ok base w ao n cap xs) : ∀ k, blk ao = some k → ¬ ok k := by obtain ⟨_, _, _, _, h4, _⟩ := h; exact h4
theorem ownR.okLt (h : ownR sh e ok base w ao n cap xs) : ∀ b, ok b → b < w.heap.size := by obtain ⟨_, _, _, _, _, h5⟩ := h; exact h5
theorem ownR.setAt (h : ownR sh e ok base w ao n cap xs) {a : Addr} (hne : blk ao ≠ some a.block) (hok : ¬ ok a.block) (v : Value) : ownR sh e ok base (w.setCell a v) ao n cap xs :=
  h.keep (by simp) fun k hk => Below.heap_setCell _ _ _ _ (by
    rintro rfl
    rcases hk with hk | hk
    · exact hne hk
    · exact hok hk)
theorem ownR.noType (h : ownR sh e ok base w ao n cap xs) {g : Nat} {cur : Array Value} {e' : TypeId} {fr : Nat × Nat} (hg : w.heap[g]? = some (.cells cur e' fr)) (hne : e ≠ e') : blk ao ≠ some g := by
  obtain ⟨cells, ⟨_, _, _, ⟨rfl, _⟩ | ⟨g', cur', rfl, _, hg', _⟩⟩, _⟩ := h
  · simp [blk]
  · intro hk
    obtain rfl : g' = g := by simpa [blk] using hk
    rw [hg'] at hg
    simp at hg
    exact hne hg.2.1
theorem ownR.oldGrown (h : ownR sh e ok base w ao n cap xs) {w' : World} {row : Option Nat} (hg : w.grownBy w' row) (h1 : ∀ k, row = some k → blk ao ≠ some k ∧ ¬ ok k) : ownR sh e ok base w' ao n cap xs :=
  h.keep hg.size fun k hk => hg.block k (by
    rcases hk with hk | hk
    · exact (h.lt k hk).2
    · exact h.okLt k hk) (fun e => by
      have h2 := h1 k e.symm
      rcases hk with hk | hk
      · exact h2.1 hk
      · exact h2.2 hk)
end

theorem ownR.apart {α β : Type} {sh : Shape α} {sh' : Shape β} {e e' : TypeId} {ok ok' : Nat → Prop} {base base' : Nat} {w : World} {ao bo : Option Addr} {n cap m cap' : Nat} {xs : List α} {ys : List β} (h : ownR sh e ok base w ao n cap xs) (k : ownR sh' e' ok' base' w bo m cap' ys) (hne : e ≠ e') : ∀ g, blk ao = some g → blk bo ≠ some g := by
  intro g hg
  obtain ⟨cells, ⟨_, _, _, ⟨rfl, _⟩ | ⟨g', cur', rfl, _, hg', _⟩⟩, _⟩ := h
  · simp [blk] at hg
  · obtain rfl : g' = g := by simpa [blk] using hg
    exact k.noType hg' (Ne.symm hne)

/-- an order's number -/
def toNum (x : To) (n : Int) : To := ⟨x.sw, ⟨x.order.kind, n, x.order.ver, x.order.rules, x.order.flows⟩⟩
theorem toS.num {ok : Nat → Prop} {w : World} {cs : List Value} {x : To} (h : toS.rep ok w cs x) {n : Int} (hn : I64 n) : toS.rep ok w (cs.set 2 (.int .i64 n)) (toNum x n) := by
  obtain ⟨ds, rfl, h1, oa, oc, fa, fc, rfl, h2, h3, h4, h5, h6⟩ := h
  exact ⟨_, rfl, h1, oa, oc, fa, fc, rfl, h2, hn, h4, h5, h6⟩
end Go.St
