/-
  A call's own area: what is kept of it.
-/
import Derived.Test.YtpfapfgfchenoaaDoorBlk
set_option linter.unusedSimpArgs false
set_option linter.unusedVariables false
namespace Go.St
open Go.RowKit

/-- what lies below B, and what lies in W, is as it was -/
structure Frm (W : Nat → Prop) (B : Nat) (w w' : World) : Prop where
  below : Below B w w'
  keep : ∀ b, b < w.heap.size → W b → w'.heap[b]? = w.heap[b]?
section
variable {W : Nat → Prop} {B : Nat} {w w' w'' : World}
theorem Frm.refl (W : Nat → Prop) (B : Nat) (w : World) : Frm W B w w := ⟨Below.refl _ _, fun _ _ _ => rfl⟩
theorem Frm.size (h : Frm W B w w') : w.heap.size ≤ w'.heap.size := h.below.size
theorem Frm.trans (h : Frm W B w w') (k : Frm W B w' w'') : Frm W B w w'' :=
  ⟨h.below.trans k.below, fun b hb hW => (k.keep b (Nat.lt_of_lt_of_le hb h.size) hW).trans (h.keep b hb hW)⟩
theorem Frm.of (h : Below w.heap.size w w') (hB : B ≤ w.heap.size) : Frm W B w w' := ⟨h.mono hB, fun b hb _ => h.block b hb⟩
theorem Frm.set {a : Addr} (ha : ¬ W a.block) (hB : B ≤ a.block) (v : Value) : Frm W B w (w.setCell a v) :=
  ⟨(Below.refl _ _).setCell hB v, fun b _ hW => Below.heap_setCell w a v b (fun e => ha (e ▸ hW))⟩
theorem Frm.grown {row : Option Nat} (hg : w.grownBy w' row) (hW : ∀ k, row = some k → ¬ W k ∧ B ≤ k) (hB : B ≤ w.heap.size) : Frm W B w w' :=
  ⟨(Below.refl _ _).grown hg hB (fun k hk => (hW k hk).2), fun b hb h => hg.block b hb (fun e => (hW b e.symm).1 h)⟩
theorem Frm.weak {V : Nat → Prop} {C : Nat} (h : Frm W B w w') (hV : ∀ b, b < w.heap.size → V b → W b ∨ b < B) (hC : C ≤ B) : Frm V C w w' :=
  ⟨h.below.mono hC, fun b hb hv => by
    rcases hV b hb hv with h1 | h1
    · exact h.keep b hb h1
    · exact h.below.block b h1⟩
theorem Frm.rep {α : Type} {S : Shape α} {cs : List Value} {a : α} (h : Frm W B w w') (hr : S.rep W w cs a) : S.rep W w' cs a := S.mono hr fun b hb hW => ⟨hW, h.keep b hb hW⟩
theorem Frm.row {α : Type} {S : Shape α} {ao : Option Addr} {c : Nat} {xs : List α} (h : Frm W B w w') (hr : rowRep S W w ao c xs) : rowRep S W w' ao c xs := hr.mono fun b hb hW => ⟨hW, h.keep b hb hW⟩
theorem Frm.blk {b : Nat} {t : TypeId} {cs : Array Value} (h : Frm W B w w') (hk : blockIs w b t cs) (hW : W b ∨ b < B) : blockIs w' b t cs :=
  hk.keep (by
    rcases hW with h1 | h1
    · exact h.keep b hk.lt h1
    · exact h.below.block b h1)
end

theorem rowRep.anyOk {α : Type} {S : Shape α} {ok ok' : Nat → Prop} {w : World} {ao : Option Addr} {c : Nat} {xs : List α} (h : rowRep S ok w ao c xs) (hk : ∀ b, b < w.heap.size → ok b → ok' b) : rowRep S ok' w ao c xs := h.mono fun b hb h1 => ⟨hk b hb h1, rfl⟩
theorem Shape.anyOk {α : Type} (S : Shape α) {ok ok' : Nat → Prop} {w : World} {cs : List Value} {a : α} (h : S.rep ok w cs a) (hk : ∀ b, b < w.heap.size → ok b → ok' b) : S.rep ok' w cs a := S.mono h fun b hb h1 => ⟨hk b hb h1, rfl⟩

/-- what is kept of a datum that lies in what is kept -/
theorem Frm.rep' {α : Type} {S : Shape α} {W ok : Nat → Prop} {B : Nat} {w w' : World} {cs : List Value} {a : α} (h : Frm W B w w') (hr : S.rep ok w cs a) (hk : ∀ b, ok b → W b ∨ b < B) : S.rep ok w' cs a := S.mono hr fun b hb ho => ⟨ho, by
  rcases hk b ho with h1 | h1
  · exact h.keep b hb h1
  · exact h.below.block b h1⟩
theorem Frm.row' {α : Type} {S : Shape α} {W ok : Nat → Prop} {B : Nat} {w w' : World} {ao : Option Addr} {c : Nat} {xs : List α} (h : Frm W B w w') (hr : rowRep S ok w ao c xs) (hk : ∀ b, ok b → W b ∨ b < B) : rowRep S ok w' ao c xs := hr.mono fun b hb ho => ⟨ho, by
  rcases hk b ho with h1 | h1
  · exact h.keep b hb h1
  · exact h.below.block b h1⟩
theorem ownR.frm {α : Type} {sh : Shape α} {e : TypeId} {ok : Nat → Prop} {base : Nat} {w : World} {ao : Option Addr} {n cap : Nat} {xs : List α} {W : Nat → Prop} {B : Nat} {w' : World} (h : ownR sh e ok base w ao n cap xs) (hF : Frm W B w w') (hk : ∀ b, ok b → W b) (hb : ∀ k, blk ao = some k → W k) : ownR sh e ok base w' ao n cap xs := by
  have h5 : ∀ b, ok b → b < w.heap.size := by obtain ⟨_, _, _, _, _, h5⟩ := h; exact h5
  refine h.keep hF.size fun k hk' => ?_
  rcases hk' with hk' | hk'
  · exact hF.keep k (h.lt k hk').2 (hb k hk')
  · exact hF.keep k (h5 k hk') (hk k hk')
end Go.St
