/- Texts of this proof, one behind the other. -/
import Derived.Test.YtpfmolaebloipaaQ2
import Derived.Test.YtpfmolaebloipaaPk4
set_option linter.unusedSimpArgs false
set_option linter.unusedVariables false
set_option maxRecDepth 100000
set_option maxHeartbeats 16000000
namespace Go.St
open Go.RowKit
theorem A1b.made (e:TypeId) (size base:Nat) (w:World) (cur:Array Value) (cap:Nat) (hb:base≤w.heap.size) (hm:cap≤maxLen) (hs:cur.size=cap * size):
  A1b e size base (w.alloc (.cells cur e)) (some ⟨w.heap.size,0,none⟩) cap cap cur.toList:=
 ⟨by simpa using hs,Nat.le_refl _,hm,.inr ⟨w.heap.size,cur,rfl,hb,heap_alloc_new w _,hs,List.take_of_length_le (by rw [Array.length_toList,hs];exact Nat.le_refl _)⟩⟩
end Go.St
