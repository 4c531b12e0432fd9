/-
  How the plain data of this program lie in memory: a shape says which cells hold a datum, and stays true where the blocks that it speaks of stay as they were.
-/
import Derived.Below
import Derived.OwnWalk
import Derived.Laws.AppendOwn
namespace Go.St
open Go.RowKit

/-- how a datum lies in cells: 'ok' names the blocks that may be used -/
structure Shape (α : Type) where
  size : Nat
  rep : (Nat → Prop) → World → List Value → α → Prop
  len : ∀ {ok w cs a}, rep ok w cs a → cs.length = size
  one : ∀ {ok w cs a}, rep ok w cs a → ∀ c ∈ cs, c.oneCell' = true
  mono : ∀ {ok ok' : Nat → Prop} {w w' : World} {cs a}, rep ok w cs a → (∀ b, b < w.heap.size → ok b → ok' b ∧ w'.heap[b]? = w.heap[b]?) → rep ok' w' cs a

/-- a whole number in the range of Go's int -/
def I64 (n : Int) : Prop := -9223372036854775808 ≤ n ∧ n ≤ 9223372036854775807

theorem I64.lo {n : Int} (h : I64 n) : -9223372036854775808 ≤ n := h.1
theorem I64.hi {n : Int} (h : I64 n) : n ≤ 9223372036854775807 := h.2
theorem I64.mk' {n : Int} (h1 : -9223372036854775808 ≤ n) (h2 : n ≤ 9223372036854775807) : I64 n := ⟨h1, h2⟩
theorem I64.small {n : Int} (h1 : -1000000000000 ≤ n) (h2 : n ≤ 1000000000000) : I64 n := ⟨by omega, by omega⟩

def intS : Shape Int where
  size := 1
  rep _ _ cs n := cs = [.int .i64 n] ∧ I64 n
  len h := by rw [h.1]; rfl
  one h := by rw [h.1]; simp [Value.oneCell']
  mono h _ := h

def byteS : Shape Int where
  size := 1
  rep _ _ cs n := cs = [.int .u8 n] ∧ 0 ≤ n ∧ n ≤ 255
  len h := by rw [h.1]; rfl
  one h := by rw [h.1]; simp [Value.oneCell']
  mono h _ := h

def boolS : Shape Bool where
  size := 1
  rep _ _ cs b := cs = [.bool b]
  len h := by rw [h]; rfl
  one h := by rw [h]; simp [Value.oneCell']
  mono h _ := h

/-- the elements of a row behind an address -/
def elemsAt {α : Type} (s : Shape α) (ok : Nat → Prop) (w : World) (b off : Nat) (xs : List α) : Prop :=
  ∀ i x, xs[i]? = some x → ∃ cs, s.rep ok w cs x ∧ ∀ j c, cs[j]? = some c → w.cell? ⟨b, off + i * s.size + j, none⟩ = some c

/-- a slice's address and capacity fit its elements -/
def rowRep {α : Type} (s : Shape α) (ok : Nat → Prop) (w : World) (ao : Option Addr) (cap : Nat) (xs : List α) : Prop :=
  xs.length ≤ cap ∧ cap ≤ maxLen ∧ (xs = [] ∨ ∃ b off, ao = some ⟨b, off, none⟩ ∧ ok b ∧ b < w.heap.size ∧ elemsAt s ok w b off xs)

theorem lt_of_block {w w' : World} {b : Nat} (hb : b < w.heap.size) (h : w'.heap[b]? = w.heap[b]?) : b < w'.heap.size := by
  rw [Array.getElem?_eq_getElem hb] at h
  exact (Array.getElem?_eq_some_iff.1 h).1

theorem elemsAt.mono {α : Type} {s : Shape α} {ok ok' : Nat → Prop} {w w' : World} {b off : Nat} {xs : List α} (h : elemsAt s ok w b off xs)
    (hb : w'.heap[b]? = w.heap[b]?) (hk : ∀ b, b < w.heap.size → ok b → ok' b ∧ w'.heap[b]? = w.heap[b]?) : elemsAt s ok' w' b off xs := by
  intro i x hx
  obtain ⟨cs, h1, h2⟩ := h i x hx
  exact ⟨cs, s.mono h1 hk, fun j c hc => by rw [World.cell?_of_block (w := w) hb]; exact h2 j c hc⟩

theorem rowRep.mono {α : Type} {s : Shape α} {ok ok' : Nat → Prop} {w w' : World} {ao : Option Addr} {cap : Nat} {xs : List α} (h : rowRep s ok w ao cap xs)
    (hk : ∀ b, b < w.heap.size → ok b → ok' b ∧ w'.heap[b]? = w.heap[b]?) : rowRep s ok' w' ao cap xs := by
  obtain ⟨h1, h2, h3⟩ := h
  refine ⟨h1, h2, h3.imp id ?_⟩
  rintro ⟨b, off, rfl, hb, hlt, he⟩
  exact ⟨b, off, rfl, (hk b hlt hb).1, lt_of_block hlt (hk b hlt hb).2, he.mono (hk b hlt hb).2 hk⟩

theorem rowRep.nil {α : Type} (s : Shape α) (ok : Nat → Prop) (w : World) (ao : Option Addr) : rowRep s ok w ao 0 [] :=
  ⟨Nat.le_refl _, Nat.zero_le _, .inl rfl⟩

theorem rowRep.len_le {α : Type} {s : Shape α} {ok : Nat → Prop} {w : World} {ao : Option Addr} {cap : Nat} {xs : List α} (h : rowRep s ok w ao cap xs) : xs.length ≤ 9223372036854775807 := by
  have h1 := h.1
  have h2 := h.2.1
  unfold maxLen at h2
  omega

/-- behind a call that has turned nothing that was there -/
theorem rowRep.below {α : Type} {s : Shape α} {ok : Nat → Prop} {w w' : World} {ao : Option Addr} {cap : Nat} {xs : List α} (h : rowRep s ok w ao cap xs)
    (hb : Below w.heap.size w w') : rowRep s ok w' ao cap xs :=
  h.mono fun b hlt hk => ⟨hk, hb.block b hlt⟩

theorem Shape.below {α : Type} (s : Shape α) {ok : Nat → Prop} {w w' : World} {cs : List Value} {a : α} (h : s.rep ok w cs a)
    (hb : Below w.heap.size w w') : s.rep ok w' cs a :=
  s.mono h fun b hlt hk => ⟨hk, hb.block b hlt⟩

/-- a slice as one cell -/
def sliceS {α : Type} (s : Shape α) : Shape (List α) where
  size := 1
  rep ok w cs xs := ∃ ao cap, cs = [.slice ao xs.length cap] ∧ rowRep s ok w ao cap xs
  len h := by obtain ⟨ao, cap, rfl, _⟩ := h; rfl
  one h := by obtain ⟨ao, cap, rfl, _⟩ := h; simp [Value.oneCell']
  mono h hk := by
    obtain ⟨ao, cap, rfl, h⟩ := h
    exact ⟨ao, cap, rfl, h.mono hk⟩

/-- one element of a row: where it lies -/
theorem rowRep.get {α : Type} {s : Shape α} {ok : Nat → Prop} {w : World} {ao : Option Addr} {cap : Nat} {xs : List α} (h : rowRep s ok w ao cap xs)
    {i : Nat} {x : α} (hx : xs[i]? = some x) : ∃ b off, ao = some ⟨b, off, none⟩ ∧ ok b ∧ b < w.heap.size ∧ ∃ cs, s.rep ok w cs x ∧ ∀ j c, cs[j]? = some c → w.cell? ⟨b, off + i * s.size + j, none⟩ = some c := by
  obtain ⟨h1, h2, rfl | ⟨b, off, rfl, hb, hlt, he⟩⟩ := h
  · simp at hx
  · exact ⟨b, off, rfl, hb, hlt, he i x hx⟩

theorem rowRep.take {α : Type} {s : Shape α} {ok : Nat → Prop} {w : World} {ao : Option Addr} {cap : Nat} {xs : List α} (h : rowRep s ok w ao cap xs) (m : Nat) : rowRep s ok w ao cap (xs.take m) := by
  obtain ⟨h1, h2, h3⟩ := h
  refine ⟨by rw [List.length_take]; omega, h2, ?_⟩
  rcases h3 with rfl | ⟨b, off, rfl, hb, hlt, he⟩
  · left; simp
  · right
    refine ⟨b, off, rfl, hb, hlt, fun i x hx => he i x ?_⟩
    rw [List.getElem?_take] at hx
    split at hx
    · exact hx
    · cases hx

/-- from an element on: the address moves -/
theorem rowRep.drop {α : Type} {s : Shape α} {ok : Nat → Prop} {w : World} {b off cap : Nat} {xs : List α} (h : rowRep s ok w (some ⟨b, off, none⟩) cap xs) (m : Nat) (hm : m ≤ xs.length) : rowRep s ok w (some ⟨b, off + m * s.size, none⟩) (cap - m) (xs.drop m) := by
  obtain ⟨h1, h2, h3⟩ := h
  refine ⟨by rw [List.length_drop]; omega, by omega, ?_⟩
  rcases h3 with rfl | ⟨b', off', hb', hb, hlt, he⟩
  · left; simp
  · obtain ⟨rfl, rfl⟩ : b = b' ∧ off = off' := by simpa using hb'
    right
    refine ⟨b, _, rfl, hb, hlt, fun i x hx => ?_⟩
    rw [List.getElem?_drop] at hx
    obtain ⟨cs, h1, h2⟩ := he (m + i) x hx
    refine ⟨cs, h1, fun j c hc => ?_⟩
    have := h2 j c hc
    rwa [show off + (m + i) * s.size + j = off + m * s.size + i * s.size + j by rw [Nat.add_mul]; omega] at this

end Go.St
