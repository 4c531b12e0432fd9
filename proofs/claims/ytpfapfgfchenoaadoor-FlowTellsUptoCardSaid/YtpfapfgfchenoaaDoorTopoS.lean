/-
  The plain sense of package topo: what is wrong with a net, what links cost, who reaches whom, what paths cost.
-/
import Derived.Test.YtpfapfgfchenoaaDoorData
set_option linter.unusedSimpArgs false
set_option linter.unusedVariables false
namespace Go.St

def linkPair (l : Link) : Int × Int := (min l.a l.b, max l.a l.b)
/-- one link, behind those that had been: what is wrong -/
def linkBad (n : Int) (had : List (Int × Int)) (l : Link) : Int :=
  if min l.a l.b < 0 ∨ n ≤ max l.a l.b then 6 else if l.a = l.b then 8 else if l.cost < 1 ∨ 1000 < l.cost then 3 else if linkPair l ∈ had then 7 else 0
def linksBad (n : Int) (had : List (Int × Int)) (i : Int) : List Link → Int × Int
  | [] => (0, 0)
  | l :: r => if linkBad n had l = 0 then linksBad n (had ++ [linkPair l]) (i + 1) r else (linkBad n had l, i)
def topoWrong (t : Topo) : Int × Int := if t.n < 1 ∨ 8 < t.n ∨ 28 < t.links.length then (5, 0) else linksBad t.n [] 0 t.links

def linkIs (a b : Int) (l : Link) : Bool := (l.a == a && l.b == b) || (l.a == b && l.b == a)
def costIn (a b : Int) : List Link → Int
  | [] => 0
  | l :: r => if linkIs a b l then l.cost else costIn a b r
def costOf (t : Topo) (a b : Int) : Int := costIn a b t.links

/-- what a switch reaches by one link, of those up to k, behind what was reached before -/
def visit (t : Topo) (x : Int) (out : List Int) : Nat → List Int
  | 0 => out
  | k + 1 => let o := visit t x out k; if 0 < costOf t x k ∧ (k : Int) ∉ o then o ++ [(k : Int)] else o
/-- from the i-th on, so many rounds at most -/
def reachFrom (t : Topo) : Nat → Nat → List Int → List Int
  | 0, _, out => out
  | f + 1, i, out => match out[i]? with
    | none => out
    | some x => reachFrom t f (i + 1) (visit t x out t.n.toNat)
/-- rising -/
def insertI (x : Int) : List Int → List Int
  | [] => [x]
  | y :: r => if x ≤ y then x :: y :: r else y :: insertI x r
def sortI (l : List Int) : List Int := l.foldr insertI []
def reaches (t : Topo) (s : Int) : List Int := if (topoWrong t).1 ≠ 0 ∨ s < 0 ∨ t.n ≤ s then [] else sortI (reachFrom t 9 0 [s])

/-- what a path costs: behind those switches, at that cost -/
def lengthFrom (t : Topo) (had : List Int) (n : Int) : List Int → Int × Bool
  | [] => (n, !had.isEmpty)
  | s :: r => if s < 0 ∨ t.n ≤ s ∨ s ∈ had then (0, false) else match had.getLast? with
    | none => lengthFrom t [s] n r
    | some q => if costOf t q s = 0 then (0, false) else lengthFrom t (had ++ [s]) (IntKind.i64.wrap (n + costOf t q s)) r
def lengthOf (t : Topo) (p : List Int) : Int × Bool := lengthFrom t [] 0 p

end Go.St
