/-
  The walk of package topo's Cost.
-/
import Derived.Test.YtpfapfgfchenoaaDoorTopoS
import Derived.Test.YtpfapfgfchenoaaDoorRows
import Derived.Test.YtpfapfgfchenoaaDoorLib
import Derived.WalkKit
import Derived.WalkSpells
import Derived.WalkLawsBesides
import Derived.Lib.Hide
import Derived.Deep.LoopGhost
import Derived.Deep.QuietTactic
import Derived.BigQuiet
import Derived.Deep.RegionWith
import Derived.Handy
set_option linter.unusedSimpArgs false
set_option linter.unusedVariables false
namespace Go.St
theorem cost_go {ls : List Link} {a b c : Int} {j : Nat} (hj : j < ls.length) (h : c = costIn a b (ls.drop j)) (hl : linkIs a b ls[j] = false) : c = costIn a b (ls.drop (j + 1)) := by
  rw [h, List.drop_eq_getElem_cons hj]; simp [costIn, hl]
theorem cost_hit {ls : List Link} {a b c : Int} {j : Nat} (hj : j < ls.length) (h : c = costIn a b (ls.drop j)) (hl : linkIs a b ls[j] = true) : c = ls[j].cost := by
  rw [h, List.drop_eq_getElem_cons hj]; simp [costIn, hl]
theorem cost_end {ls : List Link} {a b c : Int} {j : Nat} (hj : ¬ j < ls.length) (h : c = costIn a b (ls.drop j)) : c = 0 := by
  rw [h, List.drop_of_length_le (by omega)]; rfl
end Go.St
namespace Go.Proofs.YtpfapfgfchenoaaDoor
open Go.RowKit Go.St
end Go.Proofs.YtpfapfgfchenoaaDoor
