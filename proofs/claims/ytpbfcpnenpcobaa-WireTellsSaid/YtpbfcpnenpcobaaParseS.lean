/-
  The order of bytes, plainly.
-/
import Derived.Test.YtpbfcpnenpcobaaBytesW
set_option linter.unusedSimpArgs false
set_option linter.unusedVariables false
namespace Go.St

def zeroO : Order := ⟨0, 0, 0, [], []⟩
def pairs (v : Int) : List Int → List Rule
  | a :: b :: r => ⟨v, a, b⟩ :: pairs v r
  | _ => []
def finish (o : Order) : Order × Int := if wireWrong o = 0 then (o, 0) else (zeroO, wireWrong o)
def numOf (k1 k2 k3 : Int) : Int := k1 * 65536 + k2 * 256 + k3
def verOf (k4 k5 : Int) : Int := k4 * 256 + k5
def parseBody (k num ver : Int) (t : List Int) : Order × Int :=
  if k = 1 then (match t with | [] => (zeroO, 2) | n :: r => if (r.length : Int) = 2 * n then finish ⟨1, num, ver, pairs ver r, []⟩ else (zeroO, 2))
  else if k = 2 then (match t with | [] => (zeroO, 2) | n :: r => if (r.length : Int) = n then finish ⟨2, num, ver, [], r⟩ else (zeroO, 2))
  else if t = [] then finish ⟨k, num, ver, [], []⟩ else (zeroO, 2)
/-- of all bytes but the last, and the last -/
def parseOf : List Int → Int → Order × Int
  | k0 :: k1 :: k2 :: k3 :: k4 :: k5 :: t, c => if sumB (k0 :: k1 :: k2 :: k3 :: k4 :: k5 :: t) = c then parseBody k0 (numOf k1 k2 k3) (verOf k4 k5) t else (zeroO, 2)
  | _, _ => (zeroO, 2)
def parseAll (l : List Int) : Order × Int := if l.length < 7 then (zeroO, 2) else parseOf l.dropLast (l.getLastD 0)

end Go.St
