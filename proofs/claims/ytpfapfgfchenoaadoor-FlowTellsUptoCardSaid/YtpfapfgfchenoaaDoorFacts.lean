/-
  Facts about cells, as one list.
-/
import Derived.Test.YtpfapfgfchenoaaDoorRep
import Derived.Below
import Derived.WalkSpells
set_option linter.unusedVariables false
namespace Go.St
open Go.RowKit
/-- what cells hold -/
def SC : List (Addr × Value) → World → Prop
  | [], _ => True
  | (a, v) :: l, w => w.cell? a = some v ∧ SC l w
theorem SC.later {w w' : World} (hb : Below w.heap.size w w') : ∀ {l : List (Addr × Value)}, SC l w → SC l w'
  | [], _ => trivial
  | (a, v) :: l, h => ⟨cell_later hb h.1, SC.later hb h.2⟩
theorem SC.low {B : Nat} {w w' : World} (hb : Below B w w') : ∀ {l : List (Addr × Value)}, (∀ x ∈ l, x.1.block < B) → SC l w → SC l w'
  | [], _, _ => trivial
  | (a, v) :: l, hl, h => ⟨(hb.cell (hl (a, v) (by simp))).trans h.1, SC.low hb (fun x hx => hl x (List.mem_cons_of_mem _ hx)) h.2⟩
theorem bel_new (w : World) (o : Obj) : Below w.heap.size w (w.alloc o) := (Below.refl _ _).alloc (Nat.le_refl _) o
end Go.St
