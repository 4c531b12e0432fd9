/-
  A drawn region with one way behind it, whatever order was drawn.
-/
import Derived.Test.YtpfapfgfchenoaaDoorFork
set_option linter.unusedSimpArgs false
set_option linter.unusedVariables false
namespace Go.St
open Go.RowKit

/-- slots that were written -/
def puts (a : Act) : List (Nat × Value) → Act
  | [] => a
  | (i, v) :: r => puts (a.put (some i) v) r

/-- what holds behind a drawn region, whatever order was drawn: R, of the frame ahead of it, the one behind it and the world -/
theorem wp_region_to {P : Program} {ops : Array Oper} {Q : Exit → Act → World → Prop} (S : World → Prop) (L : Nat) (R : Act → Act → World → Prop) {id : Nat} {a : Act} {w : World} (hm : P.follows .mixedOrders = true)
    (h : ∀ Q' : Exit → Act → World → Prop, (∀ a' w', R a a' w' → Q' .normal a' w') → (∀ c a1 a2 w', Q' (.panic c) a1 w' → Q' (.panic c) a2 w') → wpAnyK P .any ops Q' S L ops.size (Array.replicate ops.size false) a w.drew)
    (hK : ∀ a' w', R a a' w' → Q .normal a' w') : (Code.region id ops true).wp P Q a w :=
  Code.wp_mono (Q := fun e a' w' => e = .normal ∧ R a a' w') (fun e a' w' h => by obtain ⟨rfl, h⟩ := h; exact hK a' w' h)
    (wp_region_K S L hm (h _ (fun a' w' h => ⟨rfl, h⟩) (fun c a1 a2 w' h => nomatch h.1)))
end Go.St
