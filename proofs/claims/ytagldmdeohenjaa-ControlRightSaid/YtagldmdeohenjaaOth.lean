/-
  Rows of rows under append.
-/
import Derived.Test.YtagldmdeohenjaaOwn
import Derived.Test.YtagldmdeohenjaaBlk
set_option linter.unusedSimpArgs false
set_option linter.unusedVariables false
namespace Go.St
open Go.RowKit

/-- blocks from lo on, but the row's own -/
def oth (lo : Nat) (w : World) (ao : Option Addr) : Nat → Prop := fun b => lo ≤ b ∧ b < w.heap.size ∧ blk ao ≠ some b
theorem oth.nil {α : Type} (sh : Shape α) (e : TypeId) (lo base : Nat) (w : World) : ownR sh e (oth lo w none) base w none 0 0 [] := ownR.nil _ _ _ _ _ fun _ h => h.2.1
theorem oth.below {α : Type} {sh : Shape α} {e : TypeId} {lo base : Nat} {w w' : World} {ao : Option Addr} {n cap : Nat} {xs : List α} (h : ownR sh e (oth lo w ao) base w ao n cap xs) (hb : Below w.heap.size w w') : ownR sh e (oth lo w' ao) base w' ao n cap xs :=
  (h.below hb).weaken (fun b ⟨h1, h2, h3⟩ => ⟨h1, Nat.lt_of_lt_of_le h2 hb.size, h3⟩) (fun k hk h => h.2.2 hk) (fun b h => h.2.1)
theorem oth.grown {α : Type} {sh : Shape α} {e : TypeId} {lo base : Nat} {w w' : World} {ao ao' : Option Addr} {n cap : Nat} {xs : List α} (h : ownR sh e (oth lo w ao) base w' ao' n cap xs) (hs : w.heap.size ≤ w'.heap.size) (hd : blk ao' = blk ao ∨ blk ao' = some w.heap.size) : ownR sh e (oth lo w' ao') base w' ao' n cap xs :=
  h.weaken (fun b ⟨h1, h2, h3⟩ => ⟨h1, Nat.lt_of_lt_of_le h2 hs, fun e => by
    rcases hd with hd | hd
    · exact h3 (hd ▸ e)
    · rw [hd] at e; have : w.heap.size = b := by simpa using e
      omega⟩) (fun k hk h => h.2.2 hk) (fun b h => h.2.1)
theorem oth.src {α : Type} {sh : Shape α} {lo : Nat} {w : World} {ao ax : Option Addr} {B cap : Nat} {xs : List α} (h : rowRep sh (fun b => B ≤ b) w ax cap xs) (hB : lo ≤ B) (hk : ∀ k, blk ao = some k → k < B) : srcRep sh (oth lo w ao) w ax xs :=
  (h.mono (fun b hb hh => ⟨⟨Nat.le_trans hB hh, hb, fun e => by have := hk b e; omega⟩, rfl⟩) : rowRep sh (oth lo w ao) w ax cap xs).src
theorem oth.setOther {α : Type} {sh : Shape α} {e : TypeId} {lo base ob o : Nat} {w : World} {v : Value} {ao : Option Addr} {n cap : Nat} {xs : List α} (h : ownR sh e (oth lo w ao) base w ao n cap xs) (hb : ob < lo) (hb2 : ob < base) : ownR sh e (oth lo (w.setCell ⟨ob, o, none⟩ v) ao) base (w.setCell ⟨ob, o, none⟩ v) ao n cap xs := by
  have hs : (w.setCell ⟨ob, o, none⟩ v).heap.size = w.heap.size := by simp
  refine (h.keep (by rw [hs]; exact Nat.le_refl _) fun k hk => Below.heap_setCell _ _ _ _ ?_).weaken (fun b ⟨h1, h2, h3⟩ => ⟨h1, by rw [hs]; exact h2, h3⟩) (fun k hk h => h.2.2 hk) (fun b h => h.2.1)
  rcases hk with hk | hk
  · have := (h.lt k hk).1; simp; omega
  · have := hk.1; simp; omega
theorem oth.plan {α : Type} {sh : Shape α} {e : TypeId} {lo base pb fb : Nat} {w : World} {ao : Option Addr} {n cap : Nat} {xs : List α} (h : ownR sh e (oth lo w ao) base w ao n cap xs) (h1 : pb < lo) (h2 : pb < base) (h3 : fb < lo) (h4 : fb < base) (a0 a1 a2 b0 b1 : Value) :
    ownR sh e (oth lo (((((w.setCell ⟨pb, 0, none⟩ a0).setCell ⟨pb, 1, none⟩ a1).setCell ⟨pb, 2, none⟩ a2).setCell ⟨fb, 0, none⟩ b0).setCell ⟨fb, 1, none⟩ b1) ao) base (((((w.setCell ⟨pb, 0, none⟩ a0).setCell ⟨pb, 1, none⟩ a1).setCell ⟨pb, 2, none⟩ a2).setCell ⟨fb, 0, none⟩ b0).setCell ⟨fb, 1, none⟩ b1) ao n cap xs :=
  oth.setOther (oth.setOther (oth.setOther (oth.setOther (oth.setOther h h1 h2) h1 h2) h1 h2) h3 h4) h3 h4
/-- a plan and a fault in their cells -/
theorem plan_ret {w : World} {pb fb : Nat} {tp tf : TypeId} {x0 x1 x2 y0 y1 : Value} (hP : blockIs w pb tp #[x0, x1, x2]) (hF : blockIs w fb tf #[y0, y1]) (hne : pb ≠ fb) (a0 a1 a2 b0 b1 : Value) :
    blockIs (((((w.setCell ⟨pb, 0, none⟩ a0).setCell ⟨pb, 1, none⟩ a1).setCell ⟨pb, 2, none⟩ a2).setCell ⟨fb, 0, none⟩ b0).setCell ⟨fb, 1, none⟩ b1) pb tp #[a0, a1, a2] ∧
      blockIs (((((w.setCell ⟨pb, 0, none⟩ a0).setCell ⟨pb, 1, none⟩ a1).setCell ⟨pb, 2, none⟩ a2).setCell ⟨fb, 0, none⟩ b0).setCell ⟨fb, 1, none⟩ b1) fb tf #[b0, b1] :=
  ⟨((((hP.set 0 a0).set 1 a1).set 2 a2).setOther (a := ⟨fb, 0, none⟩) hne b0).setOther (a := ⟨fb, 1, none⟩) hne b1,
   ((((hF.setOther (a := ⟨pb, 0, none⟩) (Ne.symm hne) a0).setOther (a := ⟨pb, 1, none⟩) (Ne.symm hne) a1).setOther (a := ⟨pb, 2, none⟩) (Ne.symm hne) a2).set 0 b0).set 1 b1⟩
/-- a block of one row as a source -/
theorem row_one_src {w : World} {b : Nat} {e : TypeId} {ao : Option Addr} {cap : Nat} {xs : List Int} {ok : Nat → Prop} (h : blockIs w b e #[.slice ao xs.length cap]) (hx : rowRep intS ok w ao cap xs) : srcRep (sliceS intS) ok w (some ⟨b, 0, none⟩) [xs] := by
  refine .inr ⟨b, 0, rfl, fun i y hy => ?_⟩
  match i, hy with
  | 0, hy =>
    obtain rfl : xs = y := by simpa using hy
    refine ⟨_, ⟨ao, cap, rfl, hx⟩, fun j c hc => ?_⟩
    simp only [Nat.zero_mul, Nat.zero_add]
    rw [h.cells.1 j]
    simpa using hc
  | i + 1, hy => simp at hy
/-- a block of one number as a source -/
theorem one_src {w : World} {b : Nat} {e : TypeId} {x : Int} {ok : Nat → Prop} (h : blockIs w b e #[.int .i64 x]) (hx : I64 x) : srcRep intS ok w (some ⟨b, 0, none⟩) [x] := by
  refine .inr ⟨b, 0, rfl, fun i y hy => ?_⟩
  match i, hy with
  | 0, hy =>
    obtain rfl : x = y := by simpa using hy
    refine ⟨_, ⟨rfl, hx⟩, fun j c hc => ?_⟩
    simp only [Nat.zero_mul, Nat.zero_add]
    rw [h.cells.1 j]
    simpa using hc
  | i + 1, hy => simp at hy
end Go.St
