/-
  A drawn region at a place where two operations may come up.
-/
import Derived.Test.YtpfapfgfchenoaaDoorStr
import Derived.Test.YtpfapfgfchenoaaDoorOwn
set_option linter.unusedSimpArgs false
set_option linter.unusedVariables false
namespace Go.St
open Go.RowKit

section
variable {P : Program} {ops : Array Oper} {Q : Exit → Act → World → Prop} {md : Region.Mode} {S : World → Prop} {L : Nat}

theorem wpAnyK_two {i j : Nat} {oi oj : Oper} {fuel : Nat} {listed : Array Bool} {a : Act} {w : World} (hi : ops[i]? = some oi) (hj : ops[j]? = some oj)
    (gi : Region.wanted oi (yielded ops a.tmps) = true) (gj : Region.wanted oj (yielded ops a.tmps) = true) (hs : (Region.ready md ops listed == [i, j]) = true)
    (h1 : ∀ K : Act → World → Prop, (∀ a' w', (i ≠ L → S w') → wpAnyK P md ops Q S L fuel (listed.setIfInBounds i true) a' w' → K a' w') → oi.wp P a w K Q)
    (h2 : ∀ K : Act → World → Prop, (∀ a' w', (j ≠ L → S w') → wpAnyK P md ops Q S L fuel (listed.setIfInBounds j true) a' w' → K a' w') → oj.wp P a w K Q) :
    wpAnyK P md ops Q S L (fuel + 1) listed a w := by
  have hr : Region.ready md ops listed = [i, j] := by simpa using hs
  refine ⟨fun h0 => (by rw [h0] at hr; cases hr), fun k hk => ?_⟩
  rw [hr] at hk
  have hk' : k = i ∨ k = j := by simpa using hk
  rcases hk' with rfl | rfl
  · unfold wpOp
    simp only [hi]
    rw [if_pos gi]
    exact .inl (h1 _ fun _ _ h1 h2 => ⟨h1, h2⟩)
  · unfold wpOp
    simp only [hj]
    rw [if_pos gj]
    exact .inl (h2 _ fun _ _ h1 h2 => ⟨h1, h2⟩)
end

/-- a shape that reaches into no block of its datum -/
theorem srcRep.flat {α : Type} {sh : Shape α} {ok ok' : Nat → Prop} {w : World} {ao : Option Addr} {ys : List α} (h : srcRep sh ok w ao ys) (hf : ∀ {cs x}, sh.rep ok w cs x → sh.rep ok' w cs x) : srcRep sh ok' w ao ys := by
  rcases h with h | ⟨b, off, e, he⟩
  · exact .inl h
  · refine .inr ⟨b, off, e, fun i x hx => ?_⟩
    obtain ⟨cs, h1, h2⟩ := he i x hx
    exact ⟨cs, hf h1, h2⟩

end Go.St
