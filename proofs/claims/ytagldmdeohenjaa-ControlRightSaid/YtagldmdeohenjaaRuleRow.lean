/-
  A row of rules in a block of its own, that is turned in place.
-/
import Derived.Test.YtagldmdeohenjaaSorts
import Derived.Test.YtagldmdeohenjaaBlk
set_option linter.unusedSimpArgs false
set_option linter.unusedVariables false
namespace Go.St
open Go.RowKit

def encR (r : Rule) : List Value := [.int .i64 r.ver, .int .i64 r.flow, .int .i64 r.next]
def cellsR (xs : List Rule) : List Value := xs.flatMap encR
def RI (r : Rule) : Prop := I64 r.ver ∧ I64 r.flow ∧ I64 r.next
theorem cellsR_len (xs : List Rule) : (cellsR xs).length = xs.length * 3 := by
  unfold cellsR
  induction xs with
  | nil => rfl
  | cons x xs ih => simp only [List.flatMap_cons, List.length_append, ih, List.length_cons, encR, List.length_nil]; omega
theorem cellsR_get {junk : List Value} : ∀ {xs : List Rule} {i : Nat} {r : Rule}, xs[i]? = some r → ∀ k, k < 3 → (cellsR xs ++ junk)[i * 3 + k]? = (encR r)[k]?
  | [], i, r, h, _, _ => by simp at h
  | x :: xs, 0, r, h, k, hk => by
    obtain rfl : x = r := by simpa using h
    simp only [cellsR, List.flatMap_cons, Nat.zero_mul, Nat.zero_add]
    rw [List.append_assoc, List.getElem?_append_left (by simp [encR]; omega)]
  | x :: xs, i + 1, r, h, k, hk => by
    have h' : xs[i]? = some r := by simpa using h
    have := cellsR_get (junk := junk) h' k hk
    simp only [cellsR, List.flatMap_cons]
    rw [List.append_assoc, List.getElem?_append_right (by simp [encR]; omega)]
    rw [← this]
    congr 1
    simp [encR]; omega
theorem cellsR_set {junk : List Value} {r : Rule} : ∀ {xs : List Rule} {i : Nat}, i < xs.length →
    (((cellsR xs ++ junk).set (i * 3) (.int .i64 r.ver)).set (i * 3 + 1) (.int .i64 r.flow)).set (i * 3 + 2) (.int .i64 r.next) = cellsR (xs.set i r) ++ junk
  | [], i, h => by simp at h
  | x :: xs, 0, h => by simp [cellsR, encR]
  | x :: xs, i + 1, h => by
    have := cellsR_set (junk := junk) (r := r) (xs := xs) (i := i) (by simpa using h)
    have e : cellsR (x :: xs) ++ junk = .int .i64 x.ver :: .int .i64 x.flow :: .int .i64 x.next :: (cellsR xs ++ junk) := by simp [cellsR, encR]
    have e' : cellsR ((x :: xs).set (i + 1) r) ++ junk = .int .i64 x.ver :: .int .i64 x.flow :: .int .i64 x.next :: (cellsR (xs.set i r) ++ junk) := by simp [cellsR, encR]
    rw [e, e', ← this]
    rw [show (i + 1) * 3 = i * 3 + 1 + 1 + 1 by omega, show i * 3 + 1 + 1 + 1 + 1 = (i * 3 + 1) + 1 + 1 + 1 by omega, show i * 3 + 1 + 1 + 1 + 2 = (i * 3 + 2) + 1 + 1 + 1 by omega]
    simp only [List.set_cons_succ]

/-- the row: a block of its own, with cells behind it that nobody reads -/
structure RR (w : World) (g : Nat) (t : TypeId) (xs : List Rule) (junk : List Value) : Prop where
  blk : blockIs w g t (cellsR xs ++ junk).toArray
  rng : ∀ r ∈ xs, RI r

section
variable {w w' : World} {g : Nat} {t : TypeId} {xs : List Rule} {junk : List Value}
theorem RR.lt (h : RR w g t xs junk) : g < w.heap.size := h.blk.lt
theorem RR.frz (h : RR w g t xs junk) (o : Nat) : w.frozen? ⟨g, o, none⟩ = false := h.blk.cells.2 o
theorem RR.get (h : RR w g t xs junk) {i : Nat} {r : Rule} (hr : xs[i]? = some r) : w.cell? ⟨g, i * 3, none⟩ = some (.int .i64 r.ver) ∧ w.cell? ⟨g, i * 3 + 1, none⟩ = some (.int .i64 r.flow) ∧ w.cell? ⟨g, i * 3 + 2, none⟩ = some (.int .i64 r.next) := by
  have e := cellsR_get (junk := junk) hr
  have e0 := e 0 (by decide)
  have e1 := e 1 (by decide)
  have e2 := e 2 (by decide)
  refine ⟨?_, ?_, ?_⟩
  · rw [h.blk.cells.1]; simpa [encR] using e0
  · rw [h.blk.cells.1]; simpa [encR] using e1
  · rw [h.blk.cells.1]; simpa [encR] using e2
theorem RR.keep (h : RR w g t xs junk) (e : w'.heap[g]? = w.heap[g]?) : RR w' g t xs junk := ⟨h.blk.keep e, h.rng⟩
theorem RR.under (h : RR w g t xs junk) (hb : Below w.heap.size w w') : RR w' g t xs junk := ⟨h.blk.under hb, h.rng⟩
theorem RR.alloc (h : RR w g t xs junk) (o : Obj) : RR (w.alloc o) g t xs junk := ⟨h.blk.alloc o, h.rng⟩
theorem RR.put (h : RR w g t xs junk) {i : Nat} (hi : i < xs.length) {r : Rule} (hr : RI r) :
    RR (((w.setCell ⟨g, i * 3, none⟩ (.int .i64 r.ver)).setCell ⟨g, i * 3 + 1, none⟩ (.int .i64 r.flow)).setCell ⟨g, i * 3 + 2, none⟩ (.int .i64 r.next)) g t (xs.set i r) junk := by
  refine ⟨?_, fun x hx => ?_⟩
  · have := ((h.blk.set (i * 3) (.int .i64 r.ver)).set (i * 3 + 1) (.int .i64 r.flow)).set (i * 3 + 2) (.int .i64 r.next)
    rw [← cellsR_set hi]
    simpa using this
  · rcases List.mem_or_eq_of_mem_set hx with hx | rfl
    · exact h.rng x hx
    · exact hr
theorem RR.drew (h : RR w g t xs junk) : RR w.drew g t xs junk := ⟨h.blk.drew, h.rng⟩
/-- six cells written, one rule behind the other -/
def put2 (w : World) (g i j : Nat) (y x : Rule) : World :=
  (((((w.setCell ⟨g, i * 3, none⟩ (.int .i64 y.ver)).setCell ⟨g, i * 3 + 1, none⟩ (.int .i64 y.flow)).setCell ⟨g, i * 3 + 2, none⟩ (.int .i64 y.next)).setCell ⟨g, j * 3, none⟩ (.int .i64 x.ver)).setCell ⟨g, j * 3 + 1, none⟩ (.int .i64 x.flow)).setCell ⟨g, j * 3 + 2, none⟩ (.int .i64 x.next)
theorem RR.swap (h : RR w g t xs junk) {i j : Nat} (hi : i < xs.length) (hj : j < xs.length) {x y : Rule} (hx : RI x) (hy : RI y) : RR (put2 w g i j y x).drew g t ((xs.set i y).set j x) junk :=
  ((h.put hi hy).put (by simpa using hj) hx).drew
theorem RR.elem (h : RR w g t xs junk) {i : Nat} {r : Rule} (hr : xs[i]? = some r) : RI r := h.rng r (List.mem_of_getElem? hr)
end

/-- nothing but block g is turned -/
def Near (g : Nat) (w w' : World) : Prop := w.grownBy w' (some g)
theorem Near.refl (g : Nat) (w : World) : Near g w w := World.grownBy.refl _ _
theorem Near.trans {g : Nat} {a b c : World} (h : Near g a b) (k : Near g b c) : Near g a c :=
  ⟨k.os.trans h.os, k.tape.trans h.tape, k.output.trans h.output, Nat.le_trans h.size k.size, fun i hi hn => (k.block i (Nat.lt_of_lt_of_le hi h.size) hn).trans (h.block i hi hn)⟩
theorem Near.below {g : Nat} {a b : World} (h : Below a.heap.size a b) : Near g a b := ⟨h.os, h.tape, h.output, h.size, fun k hk _ => h.block k hk⟩
theorem Near.then {g : Nat} {a b c : World} (h : Near g a b) (k : Below b.heap.size b c) : Near g a c := h.trans (Near.below k)
theorem Near.set {g : Nat} {a b : World} (h : Near g a b) (o : Nat) (v : Value) : Near g a (b.setCell ⟨g, o, none⟩ v) :=
  h.trans ⟨rfl, rfl, rfl, by simp, fun k _ hn => Below.heap_setCell b ⟨g, o, none⟩ v k (fun e => hn (by rw [show k = g from e]))⟩
theorem Near.drew {g : Nat} {a b : World} (h : Near g a b) : Near g a b.drew := ⟨h.os, h.tape, h.output, h.size, h.block⟩
theorem Near.swap {g : Nat} {a b : World} (h : Near g a b) (i j : Nat) (y x : Rule) : Near g a (put2 b g i j y x).drew := (((((((h.set _ _).set _ _).set _ _).set _ _).set _ _).set _ _)).drew
theorem Near.to {g B : Nat} {w0 a b : World} (h : Near g a b) (hb : Below B w0 a) (hB : B ≤ a.heap.size) (hg : B ≤ g) : Below B w0 b := hb.grown h hB (fun k hk => by simp at hk; omega)

/-- exchanged -/
def swp (xs : List Rule) (i j : Nat) (x y : Rule) : List Rule := (xs.set i y).set j x
end Go.St
