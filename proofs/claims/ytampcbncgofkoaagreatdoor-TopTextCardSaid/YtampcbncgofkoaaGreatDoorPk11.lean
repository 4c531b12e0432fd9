/- Texts of this proof, one behind the other. -/
import Derived.WalkSpells
import Derived.Test.YtampcbncgofkoaaGreatDoorPk1
set_option linter.unusedSimpArgs false
set_option linter.unusedVariables false
set_option maxRecDepth 100000
set_option maxHeartbeats 16000000
namespace Go.St
open Go.RowKit
def SC:List (Addr × Value)→World→Prop
 |[],_=>True
 |(a,v)::l,w=>w.cell? a=some v∧SC l w
theorem SC.later {w w':World} (hb:Below w.heap.size w w'):∀ {l:List (Addr × Value)},SC l w→SC l w'
 |[],_=>trivial
 |(a,v)::l,h=>⟨cell_later hb h.1,SC.later hb h.2⟩
theorem B8j (w:World) (o:Obj):Below w.heap.size w (w.alloc o):=(Below.refl _ _).alloc (Nat.le_refl _) o
end Go.St
