/-
  Ways that part, and meet again.
-/
import Derived.Test.YtagldmdeohenjaaTo
namespace Go.St
open Go.RowKit
/-- ways that part at a piece of code, and meet behind it -/
theorem wp_join {P : Program} {c : Code} {Q : Exit → Act → World → Prop} (R : Act → Act → World → Prop) {a : Act} {w : World} (h : c.wp P (fun e a' w' => e = .normal ∧ R a a' w') a w) (hK : ∀ a' w', R a a' w' → Q .normal a' w') : c.wp P Q a w :=
  Code.wp_mono (fun e a' w' h => by obtain ⟨rfl, h⟩ := h; exact hK a' w' h) h
end Go.St
