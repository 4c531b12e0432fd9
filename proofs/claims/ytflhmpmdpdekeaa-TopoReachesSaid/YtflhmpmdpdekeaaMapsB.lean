/-
  A row of maps from numbers to truth, as TopoReaches builds it.
-/
import Derived.Test.YtflhmpmdpdekeaaTopoW
import Derived.Test.YtflhmpmdpdekeaaReachS
import Derived.Laws.OwnMore
set_option linter.unusedSimpArgs false
set_option linter.unusedVariables false
namespace Go.St
open Go.RowKit

def trueI (ents : List (Int × Value)) (had : List Int) : Prop := ∀ p, (getE p ents).getD (.bool false) = .bool (decide (p ∈ had))
theorem trueI.nil : trueI [] [] := fun p => by simp [getE_nil]
theorem trueI.set {ents : List (Int × Value)} {had : List Int} (h : trueI ents had) (k : Int) : trueI (setE k (.bool true) ents) (had ++ [k]) := by
  intro p
  rw [getE_setE]
  by_cases hp : p = k
  · simp [hp]
  · rw [if_neg hp, h p]; simp [hp]

def cellsM (n : Nat) (rs : List Nat) : Array Value := (rs.map (fun r => Value.map (some r)) ++ List.replicate (n - rs.length) (Value.map none)).toArray
theorem cellsM.start (n : Nat) : madeCells #[.map none] n = cellsM n [] := by
  apply Array.toList_inj.1
  rw [toList_madeCells_one]
  simp [cellsM]
theorem cellsM.get {n i r : Nat} {rs : List Nat} (h : rs[i]? = some r) : (cellsM n rs)[i]? = some (.map (some r)) := by
  have hi := (List.getElem?_eq_some_iff.1 h).1
  simp only [cellsM, List.getElem?_toArray]
  rw [List.getElem?_append_left (by simpa using hi)]
  simp [h]
theorem cellsM.set {n B : Nat} {rs : List Nat} (h : rs.length < n) : (cellsM n rs).setIfInBounds rs.length (.map (some B)) = cellsM n (rs ++ [B]) := by
  have e : n - rs.length = (n - (rs ++ [B]).length) + 1 := by simp; omega
  simp only [cellsM, List.setIfInBounds_toArray]
  rw [e, List.replicate_succ, List.set_append_right _ _ (by simp)]
  simp

/-- each map tells who is reached -/
structure Tab (t : Topo) (w : World) (rb : Nat) (e : TypeId) (rs : List Nat) : Prop where
  blk : blockIs w rb e (cellsM t.n.toNat rs)
  map : ∀ (i r : Nat), rs[i]? = some r → rb < r ∧ r < w.heap.size ∧ ∃ ents, mapIs (Value.int .i64) w r ents ∧ trueI ents (reaches t (i : Int))
theorem Tab.under {t : Topo} {w w' : World} {rb : Nat} {e : TypeId} {rs : List Nat} (h : Tab t w rb e rs) (hb : Below w.heap.size w w') : Tab t w' rb e rs :=
  ⟨h.blk.under hb, fun i r hr => by
    obtain ⟨h1, h2, ents, h3, h4⟩ := h.map i r hr
    exact ⟨h1, Nat.lt_of_lt_of_le h2 hb.size, ents, h3.below hb h2, h4⟩⟩

/-- the last one is being filled -/
structure Fill (t : Topo) (w : World) (rb : Nat) (e : TypeId) (rs : List Nat) (B : Nat) (ents : List (Int × Value)) (had : List Int) : Prop where
  blk : blockIs w rb e (cellsM t.n.toNat (rs ++ [B]))
  map : ∀ (i r : Nat), rs[i]? = some r → rb < r ∧ r < B ∧ ∃ ents, mapIs (Value.int .i64) w r ents ∧ trueI ents (reaches t (i : Int))
  lt : rb < B
  own : mapIs (Value.int .i64) w B ents
  has : trueI ents had
theorem Fill.start {t : Topo} {w : World} {rb : Nat} {e : TypeId} {rs : List Nat} {B : Nat} (h : Tab t w rb e rs) (hl : rs.length < t.n.toNat) (hB : w.heap.size = B) :
    Fill t ((w.setCell ⟨rb, rs.length, none⟩ (.map (some B))).alloc (.map #[] 0)) rb e rs B [] [] := by
  have hk : ∀ r, r ≠ rb → (w.setCell ⟨rb, rs.length, none⟩ (.map (some B))).heap[r]? = w.heap[r]? := fun r hr => Below.heap_setCell _ _ _ _ hr
  have hlt := h.blk.lt
  have hs : (w.setCell ⟨rb, rs.length, none⟩ (.map (some B))).heap.size = w.heap.size := by simp
  refine ⟨?_, fun i r hr => ?_, by omega, ?_, trueI.nil⟩
  · have := h.blk.set rs.length (.map (some B))
    rw [cellsM.set hl] at this
    exact this.alloc _
  · obtain ⟨h1, h2, ents, h3, h4⟩ := h.map i r hr
    exact ⟨h1, by omega, ents, (h3.keep (hk r (by omega))).keep (heap_alloc_old _ _ (by rw [hs]; exact h2)), h4⟩
  · exact mapIs.made' _ _ B (hs.trans hB)
theorem Fill.under {t : Topo} {w w' : World} {rb : Nat} {e : TypeId} {rs : List Nat} {B : Nat} {ents : List (Int × Value)} {had : List Int} (h : Fill t w rb e rs B ents had) (hb : Below w.heap.size w w') : Fill t w' rb e rs B ents had :=
  ⟨h.blk.under hb, fun i r hr => by
    obtain ⟨h1, h2, ents, h3, h4⟩ := h.map i r hr
    exact ⟨h1, h2, ents, h3.below hb (Nat.lt_trans h2 h.own.lt), h4⟩, h.lt, h.own.below hb h.own.lt, h.has⟩
theorem Fill.insert {t : Topo} {w w' : World} {rb : Nat} {e : TypeId} {rs : List Nat} {B : Nat} {ents : List (Int × Value)} {had : List Int} (h : Fill t w rb e rs B ents had) {x : Int}
    (hm : mapIs (Value.int .i64) w' B (setE x (.bool true) ents)) (hg : w.grownBy w' (some B)) : Fill t w' rb e rs B (setE x (.bool true) ents) (had ++ [x]) :=
  ⟨h.blk.grown hg (by have := h.lt; simp; omega), fun i r hr => by
    obtain ⟨h1, h2, ents, h3, h4⟩ := h.map i r hr
    exact ⟨h1, h2, ents, h3.keep (hg.block r (Nat.lt_trans h2 h.own.lt) (by simp; omega)), h4⟩, h.lt, hm, h.has.set x⟩
theorem Fill.full {t : Topo} {w : World} {rb : Nat} {e : TypeId} {rs : List Nat} {B : Nat} {ents : List (Int × Value)} (h : Fill t w rb e rs B ents (reaches t (rs.length : Int))) : Tab t w rb e (rs ++ [B]) :=
  ⟨h.blk, fun i r hr => by
    rcases Nat.lt_trichotomy i rs.length with hi | rfl | hi
    · rw [List.getElem?_append_left hi] at hr
      obtain ⟨h1, h2, rest⟩ := h.map i r hr
      exact ⟨h1, Nat.lt_trans h2 h.own.lt, rest⟩
    · have : B = r := by simpa using hr
      subst this
      exact ⟨h.lt, h.own.lt, ents, h.own, h.has⟩
    · rw [List.getElem?_eq_none (by simp; omega)] at hr
      cases hr⟩

/-! reading -/
theorem exec_lookupV {P : Program} {κ : Type} [DecidableEq κ] {enc : κ → Value} {o : Oper} {a : Act} {w : World} (m x : Operand) (mt : TypeId) (ho : o.op = .lookup mt m x false)
    (kt et : TypeId) (hm : P.underlying mt = some (.map kt et)) (law : KeyLaw P kt enc) {r : Nat} {ents : List (κ × Value)} (h : mapIs enc w r ents) (k : κ) (z : Value) (hz : ∀ w, (zeroValue et).run P w = .ok z w)
    {v : Value} (hv : (getE k ents).getD z = v) (he : a.eval m = .map (some r)) (hk : a.eval x = enc k) : (execOp a.eval o).run P w = .ok (.value v) w := by
  have hr := run_lookupM (P := P) mt kt et hm law h k z hz
  rw [hv] at hr
  unfold execOp
  simp only [ho, he, hk, Sem.run_bind, hr, Result.andThen_ok, Sem.run_pure]
theorem wpList_lookupW {P : Program} {κ : Type} [DecidableEq κ] {enc : κ → Value} {ops : Array Oper} {rest : List Oper} {o : Oper} {a : Act} {w : World} {Q : Exit → Act → World → Prop} (hgd : Region.wanted o (yielded ops a.tmps) = true) (m x : Operand) (mt : TypeId) (ho : o.op = .lookup mt m x false)
    (kt et : TypeId) (hm : P.underlying mt = some (.map kt et)) (law : KeyLaw P kt enc) {r : Nat} {ents : List (κ × Value)} (h : mapIs enc w r ents) (k : κ) (z : Value) (hz : ∀ w, (zeroValue et).run P w = .ok z w)
    {v : Value} (hv : (getE k ents).getD z = v) (he : a.eval m = .map (some r)) (hk : a.eval x = enc k) (hn : wpList P ops Q rest (a.put o.dst v) w) : wpList P ops Q (o :: rest) a w :=
  BigFrame.wpList_want hgd fun K hK => by
    have hr := run_lookupM (P := P) mt kt et hm law h k z hz
    rw [hv] at hr
    unfold Oper.wp execOp
    simp only [ho, he, hk, Sem.run_bind, hr, Result.andThen_ok, Sem.run_pure]
    exact hK _ _ hn

/-- the cells that the test of two reads -/
def SQ (tb rb : Nat) (n : Int) (la : Option Addr) (ll lc : Nat) (a b ra rc : Nat) (ea eb : List (Int × Value)) (w : World) : Prop :=
  w.cell? ⟨tb, 0, none⟩ = some (.int .i64 n) ∧ w.cell? ⟨tb, 1, none⟩ = some (.slice la ll lc) ∧ w.cell? ⟨rb, a, none⟩ = some (.map (some ra)) ∧ w.cell? ⟨rb, b, none⟩ = some (.map (some rc)) ∧ mapIs (Value.int .i64) w ra ea ∧ mapIs (Value.int .i64) w rc eb
end Go.St
