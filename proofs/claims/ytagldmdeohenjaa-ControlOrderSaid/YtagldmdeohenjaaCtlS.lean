/-
  The control of a net, plainly.
-/
import Derived.Test.YtagldmdeohenjaaPlanS
import Derived.Test.YtagldmdeohenjaaOfS
import Derived.Test.YtagldmdeohenjaaSlices
set_option linter.unusedSimpArgs false
set_option linter.unusedVariables false
namespace Go.St
open Go.RowKit

def noCtl : Ctl := ⟨0, noPlan, noPlan, 0, []⟩
def up (n : Int) : Int := IntKind.i64.wrap (n + 1)
/-- one order more, with the next number -/
def tell (s : Ctl × List To) (x : To) : Ctl × List To :=
  (⟨s.1.stage, s.1.now, s.1.next, up s.1.num, s.1.waits ++ [up s.1.num]⟩, s.2 ++ [⟨x.sw, ⟨x.order.kind, up s.1.num, x.order.ver, x.order.rules, x.order.flows⟩⟩])
def tells (s : Ctl × List To) (l : List To) : Ctl × List To := l.foldl tell s
def send (c : Ctl) (l : List To) : Ctl × List To := tells (c, []) l
theorem tells_nil (s : Ctl × List To) : tells s [] = s := rfl
theorem tells_cons (s : Ctl × List To) (x : To) (l : List To) : tells s (x :: l) = tells (tell s x) l := rfl
theorem tells_snoc (s : Ctl × List To) (l : List To) (x : To) : tells s (l ++ [x]) = tell (tells s l) x := by simp [tells]
theorem tells_append (s : Ctl × List To) (l m : List To) : tells s (l ++ m) = tells (tells s l) m := by simp [tells]
theorem tells_acc (l : List To) : ∀ (c : Ctl) (out : List To), tells (c, out) l = ((send c l).1, out ++ (send c l).2) := by
  induction l with
  | nil => intro c out; simp [send, tells]
  | cons x l ih =>
    intro c out
    unfold send
    rw [tells_cons, tells_cons, tell, tell, ih, ih]
    simp
theorem send_take {c : Ctl} {l : List To} {i : Nat} {x : To} (h : l[i]? = some x) : send c (l.take (i + 1)) = tell (send c (l.take i)) x := by
  rw [List.take_add_one, h]; exact tells_snoc _ _ _
theorem send_len (c : Ctl) (l : List To) : (send c l).2.length = l.length ∧ (send c l).1.waits.length = c.waits.length + l.length := by
  induction l generalizing c with
  | nil => simp [send, tells]
  | cons x l ih =>
    unfold send
    rw [tells_cons, tell, tells_acc]
    have h := ih (tell (c, []) x).1
    simp only [tell] at h
    simp [h]; omega
theorem send_keeps (c : Ctl) (l : List To) : (send c l).1.stage = c.stage ∧ (send c l).1.now = c.now ∧ (send c l).1.next = c.next := by
  induction l generalizing c with
  | nil => simp [send, tells]
  | cons x l ih =>
    unfold send
    rw [tells_cons, tell, tells_acc]
    exact ih (tell (c, []) x).1
theorem up_i64 (n : Int) : I64 (up n) := by
  unfold up I64
  rw [IntKind.wrap_i64]; omega

theorem send_i64 (c : Ctl) (l : List To) (h : I64 c.num) : I64 (send c l).1.num := by
  induction l generalizing c with
  | nil => exact h
  | cons x l ih =>
    unfold send
    rw [tells_cons, tell, tells_acc]
    exact ih (tell (c, []) x).1 (up_i64 _)

/-- the flows that begin at a switch, by their numbers -/
def idxFrom (s : Int) : Int → List Flow → List Int
  | _, [] => []
  | i, f :: r => (if f.src = s then [i] else []) ++ idxFrom s (i + 1) r
def began (s : Int) (l : List Flow) : Bool := l.any fun f => f.src == s
def stampAt (c : Ctl) (s : Int) : List To := if idxFrom s 0 c.next.flows = [] ∧ began s c.now.flows = false then [] else [⟨s, ⟨2, 0, c.next.ver, [], idxFrom s 0 c.next.flows⟩⟩]
def addAt (p : Plan) (s : Int) : List To := if rulesAt p s = [] then [] else [⟨s, ⟨1, 0, p.ver, rulesAt p s, []⟩⟩]
def goneAt (p : Plan) (s : Int) : List To := if rulesAt p s = [] then [] else [⟨s, ⟨3, 0, p.ver, [], []⟩⟩]
/-- over the switches from the first on -/
def over (f : Int → List To) (n : Nat) : List To := (List.range n).flatMap fun s : Nat => f (s : Int)
theorem over_zero (f : Int → List To) : over f 0 = [] := rfl
theorem over_succ (f : Int → List To) (n : Nat) : over f (n + 1) = over f n ++ f n := by simp [over, List.range_succ]
theorem over_len {f : Int → List To} (h : ∀ s, (f s).length ≤ 1) (n : Nat) : (over f n).length ≤ n := by
  induction n with
  | zero => simp [over_zero]
  | succ n ih => rw [over_succ, List.length_append]; have := h n; omega
theorem stampAt_len (c : Ctl) (s : Int) : (stampAt c s).length ≤ 1 := by unfold stampAt; split <;> simp
theorem addAt_len (p : Plan) (s : Int) : (addAt p s).length ≤ 1 := by unfold addAt; split <;> simp
theorem goneAt_len (p : Plan) (s : Int) : (goneAt p s).length ≤ 1 := by unfold goneAt; split <;> simp
def stampsOf (c : Ctl) (t : Topo) : List To := over (stampAt c) t.n.toNat
def addsOf (p : Plan) (t : Topo) : List To := over (addAt p) t.n.toNat
def gonesOf (p : Plan) (t : Topo) : List To := over (goneAt p) t.n.toNat
def fullAt (now p : Plan) (s : Int) : Bool := decide (16 < (rulesAt now s).length + (rulesAt p s).length)
def fullTo (now p : Plan) (n : Nat) : Bool := (List.range n).any fun s : Nat => fullAt now p (s : Int)
theorem fullTo_succ (now p : Plan) (n : Nat) : fullTo now p (n + 1) = (fullTo now p n || fullAt now p n) := by simp [fullTo, List.range_succ]

/-- as far as nothing is waited for -/
def stepsOf (c : Ctl) (t : Topo) : Ctl × List To :=
  if c.waits ≠ [] then (c, [])
  else if c.stage = 1 then
    (if (send ⟨2, c.now, c.next, c.num, c.waits⟩ (stampsOf c t)).1.waits = [] then
      (⟨3, c.now, c.next, c.num, []⟩, []) else send ⟨2, c.now, c.next, c.num, c.waits⟩ (stampsOf c t))
  else if c.stage = 2 then (⟨3, c.now, c.next, c.num, c.waits⟩, [])
  else if c.stage = 4 then (⟨0, c.next, noPlan, c.num, c.waits⟩, [])
  else (c, [])
def ctlAsk (c : Ctl) (t : Topo) (l : List Flow) : Ctl × List To × Int :=
  if c.stage ≠ 0 then (noCtl, [], 11)
  else if (planOf t (up c.now.ver) l).2.1 ≠ 0 then (noCtl, [], (planOf t (up c.now.ver) l).2.1)
  else if fullTo c.now (planOf t (up c.now.ver) l).1 t.n.toNat = true then (noCtl, [], 10)
  else
    ((stepsOf (send ⟨1, c.now, (planOf t (up c.now.ver) l).1, c.num, c.waits⟩ (addsOf (planOf t (up c.now.ver) l).1 t)).1 t).1,
     (send ⟨1, c.now, (planOf t (up c.now.ver) l).1, c.num, c.waits⟩ (addsOf (planOf t (up c.now.ver) l).1 t)).2 ++
       (stepsOf (send ⟨1, c.now, (planOf t (up c.now.ver) l).1, c.num, c.waits⟩ (addsOf (planOf t (up c.now.ver) l).1 t)).1 t).2, 0)
def ctlBack (c : Ctl) (t : Topo) (n : Int) : Ctl × List To × Int :=
  if (topoWrong t).1 ≠ 0 then (noCtl, [], (topoWrong t).1)
  else match idxIn n c.waits with
    | none => (noCtl, [], 6)
    | some i => ((stepsOf ⟨c.stage, c.now, c.next, c.num, c.waits.eraseIdx i⟩ t).1, (stepsOf ⟨c.stage, c.now, c.next, c.num, c.waits.eraseIdx i⟩ t).2, 0)
def ctlDrop (c : Ctl) (t : Topo) : Ctl × List To × Int :=
  if (topoWrong t).1 ≠ 0 then (noCtl, [], (topoWrong t).1)
  else if c.stage ≠ 3 then (noCtl, [], 11)
  else
    ((stepsOf (send ⟨4, c.now, c.next, c.num, c.waits⟩ (gonesOf c.now t)).1 t).1,
     (send ⟨4, c.now, c.next, c.num, c.waits⟩ (gonesOf c.now t)).2 ++ (stepsOf (send ⟨4, c.now, c.next, c.num, c.waits⟩ (gonesOf c.now t)).1 t).2, 0)
end Go.St
