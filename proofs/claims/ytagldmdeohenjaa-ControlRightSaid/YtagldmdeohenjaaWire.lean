/-
  The plain sense of package wire: what is wrong with an order, its bytes, and the order of bytes.
-/
import Derived.Test.YtagldmdeohenjaaData
namespace Go.St

def ruleOk (v : Int) (r : Rule) : Bool := r.ver == v && (decide (0 ≤ r.flow) && (decide (r.flow < 12) && (decide (0 ≤ r.next) && decide (r.next < 8))))

def flowsOk : Int → List Int → Bool
  | _, [] => true
  | last, f :: l => decide (last < f) && (decide (0 ≤ f) && (decide (f < 12) && flowsOk f l))

def wireWrong (o : Order) : Int :=
  if o.num < 1 ∨ 100000 < o.num ∨ o.ver < 1 ∨ 1000 < o.ver then 3
  else if o.kind = 1 then (if 16 < o.rules.length then 5 else if o.rules.all (ruleOk o.ver) then 0 else 3)
  else if o.kind = 2 then (if 12 < o.flows.length then 5 else if flowsOk (-1) o.flows then 0 else 3)
  else if o.kind = 3 then 0 else 1

end Go.St
