/- Texts of this proof, one behind the other. -/
import Derived.Test.YtagldmdeohenjaaPk5
import Derived.Test.YtagldmdeohenjaaPk1
import Derived.Test.YtagldmdeohenjaaPk6
/-
  Nothing: this seat lacks what this text is about.
-/
