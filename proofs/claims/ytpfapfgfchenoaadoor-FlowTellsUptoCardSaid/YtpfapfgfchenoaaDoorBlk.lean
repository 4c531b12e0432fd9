/-
  A block that is known whole: its cells, what a store and other blocks' turns leave of it.
-/
import Derived.Test.YtpfapfgfchenoaaDoorMap
set_option linter.unusedSimpArgs false
set_option linter.unusedVariables false
namespace Go.St
open Go.RowKit

/-- block b is a row of just these cells, none frozen -/
def blockIs (w : World) (b : Nat) (t : TypeId) (cs : Array Value) : Prop := w.heap[b]? = some (.cells cs t (0, 0))

theorem blockIs.cells {w : World} {b : Nat} {t : TypeId} {cs : Array Value} (h : blockIs w b t cs) : (∀ o, w.cell? ⟨b, o, none⟩ = cs[o]?) ∧ (∀ o, w.frozen? ⟨b, o, none⟩ = false) := by
  unfold blockIs at h
  refine ⟨fun o => by simp [World.cell?, h], fun o => by simp [World.frozen?, h]⟩

theorem blockIs.lt {w : World} {b : Nat} {t : TypeId} {cs : Array Value} (h : blockIs w b t cs) : b < w.heap.size := (Array.getElem?_eq_some_iff.1 h).1

theorem blockIs.keep {w w' : World} {b : Nat} {t : TypeId} {cs : Array Value} (h : blockIs w b t cs) (e : w'.heap[b]? = w.heap[b]?) : blockIs w' b t cs := e.trans h

theorem blockIs.below {B : Nat} {w w' : World} {b : Nat} {t : TypeId} {cs : Array Value} (h : blockIs w b t cs) (hb : Below B w w') (hl : b < B) : blockIs w' b t cs := h.keep (hb.block b hl)

theorem blockIs.under {w w' : World} {b : Nat} {t : TypeId} {cs : Array Value} (h : blockIs w b t cs) (hb : Below w.heap.size w w') : blockIs w' b t cs := h.below hb h.lt

theorem blockIs.grown {w w' : World} {row : Option Nat} {b : Nat} {t : TypeId} {cs : Array Value} (h : blockIs w b t cs) (hg : w.grownBy w' row) (hn : some b ≠ row) : blockIs w' b t cs := h.keep (hg.block b h.lt hn)

theorem blockIs.alloc {w : World} {b : Nat} {t : TypeId} {cs : Array Value} (h : blockIs w b t cs) (o : Obj) : blockIs (w.alloc o) b t cs := h.keep (heap_alloc_old w o b h.lt)

theorem blockIs.new {w : World} {b : Nat} {t : TypeId} {cs : Array Value} (h : w.heap.size = b) : blockIs (w.alloc (.cells cs t)) b t cs := h ▸ heap_alloc_new w _

theorem blockIs.drewN {w : World} {b : Nat} {t : TypeId} {cs : Array Value} (h : blockIs w b t cs) (n : Nat) : blockIs (w.drewN n) b t cs := h
theorem blockIs.drew {w : World} {b : Nat} {t : TypeId} {cs : Array Value} (h : blockIs w b t cs) : blockIs w.drew b t cs := h

theorem blockIs.setOther {w : World} {b : Nat} {t : TypeId} {cs : Array Value} (h : blockIs w b t cs) {a : Addr} (ha : b ≠ a.block) (v : Value) : blockIs (w.setCell a v) b t cs := h.keep (Below.heap_setCell w a v b ha)

theorem blockIs.set {w : World} {b : Nat} {t : TypeId} {cs : Array Value} (h : blockIs w b t cs) (o : Nat) (v : Value) : blockIs (w.setCell ⟨b, o, none⟩ v) b t (cs.setIfInBounds o v) := by
  unfold blockIs at *
  simp [World.setCell, Array.getElem?_modify, h]

theorem srcRep.same {α : Type} {sh : Shape α} {ok : Nat → Prop} {w w' : World} {ax : Option Addr} {ys : List α} (h : srcRep sh ok w ax ys) (e : w'.heap = w.heap) : srcRep sh ok w' ax ys := by
  rcases h with h | ⟨b, off, rfl, he⟩
  · exact .inl h
  · exact .inr ⟨b, off, rfl, he.mono (by rw [e]) fun b _ hk => ⟨hk, by rw [e]⟩⟩

theorem srcRep.drew {α : Type} {sh : Shape α} {ok : Nat → Prop} {w : World} {ax : Option Addr} {ys : List α} (h : srcRep sh ok w ax ys) : srcRep sh ok w.drew ax ys := h.same rfl
theorem srcRep.drewN {α : Type} {sh : Shape α} {ok : Nat → Prop} {w : World} {ax : Option Addr} {ys : List α} (h : srcRep sh ok w ax ys) (n : Nat) : srcRep sh ok (w.drewN n) ax ys := h.same rfl

theorem ownR.setCell {α : Type} {sh : Shape α} {e : TypeId} {base : Nat} {w : World} {ao : Option Addr} {n cap : Nat} {xs : List α} (h : ownR sh e (fun _ => False) base w ao n cap xs) {a : Addr} (ha : a.block < base) (v : Value) :
    ownR sh e (fun _ => False) base (w.setCell a v) ao n cap xs :=
  h.keep (by simp [World.setCell]) fun k hk => Below.heap_setCell w a v k (by
    rcases hk with hk | hk
    · have := (h.lt k hk).1; omega
    · exact hk.elim)

end Go.St
