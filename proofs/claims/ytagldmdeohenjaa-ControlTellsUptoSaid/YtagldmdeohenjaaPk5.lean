/- Texts of this proof, one behind the other. -/
import Derived.Test.YtagldmdeohenjaaProg
/-
  Nothing: this seat lacks what this text is about.
-/
