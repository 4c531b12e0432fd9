/-
  The control of a net, plainly.
-/
import Derived.Test.YtagldmdeohenjaaPlanS
import Derived.Test.YtagldmdeohenjaaOfS
import Derived.Test.YtagldmdeohenjaaSlices
import Derived.Test.YtagldmdeohenjaaBlk
import Derived.Test.YtagldmdeohenjaaOth
set_option linter.unusedSimpArgs false
set_option linter.unusedVariables false
namespace Go.St
open Go.RowKit

def noCtl : Ctl := ⟨0, noPlan, noPlan, 0, []⟩
def up (n : Int) : Int := IntKind.i64.wrap (n + 1)
/-- one order more, with the next number -/
def tell (s : Ctl × List To) (x : To) : Ctl × List To :=
  (⟨s.1.stage, s.1.now, s.1.next, up s.1.num, s.1.waits ++ [up s.1.num]⟩, s.2 ++ [⟨x.sw, ⟨x.order.kind, up s.1.num, x.order.ver, x.order.rules, x.order.flows⟩⟩])
def tells (s : Ctl × List To) (l : List To) : Ctl × List To := l.foldl tell s
def send (c : Ctl) (l : List To) : Ctl × List To := tells (c, []) l
theorem tells_nil (s : Ctl × List To) : tells s [] = s := rfl
theorem tells_cons (s : Ctl × List To) (x : To) (l : List To) : tells s (x :: l) = tells (tell s x) l := rfl
theorem tells_snoc (s : Ctl × List To) (l : List To) (x : To) : tells s (l ++ [x]) = tell (tells s l) x := by simp [tells]
theorem tells_append (s : Ctl × List To) (l m : List To) : tells s (l ++ m) = tells (tells s l) m := by simp [tells]
theorem tells_acc (l : List To) : ∀ (c : Ctl) (out : List To), tells (c, out) l = ((send c l).1, out ++ (send c l).2) := by
  induction l with
  | nil => intro c out; simp [send, tells]
  | cons x l ih =>
    intro c out
    unfold send
    rw [tells_cons, tells_cons, tell, tell, ih, ih]
    simp
theorem send_take {c : Ctl} {l : List To} {i : Nat} {x : To} (h : l[i]? = some x) : send c (l.take (i + 1)) = tell (send c (l.take i)) x := by
  rw [List.take_add_one, h]; exact tells_snoc _ _ _
theorem send_len (c : Ctl) (l : List To) : (send c l).2.length = l.length ∧ (send c l).1.waits.length = c.waits.length + l.length := by
  induction l generalizing c with
  | nil => simp [send, tells]
  | cons x l ih =>
    unfold send
    rw [tells_cons, tell, tells_acc]
    have h := ih (tell (c, []) x).1
    simp only [tell] at h
    simp [h]; omega
theorem send_keeps (c : Ctl) (l : List To) : (send c l).1.stage = c.stage ∧ (send c l).1.now = c.now ∧ (send c l).1.next = c.next := by
  induction l generalizing c with
  | nil => simp [send, tells]
  | cons x l ih =>
    unfold send
    rw [tells_cons, tell, tells_acc]
    exact ih (tell (c, []) x).1
theorem up_i64 (n : Int) : I64 (up n) := by
  unfold up I64
  rw [IntKind.wrap_i64]; omega

theorem send_i64 (c : Ctl) (l : List To) (h : I64 c.num) : I64 (send c l).1.num := by
  induction l generalizing c with
  | nil => exact h
  | cons x l ih =>
    unfold send
    rw [tells_cons, tell, tells_acc]
    exact ih (tell (c, []) x).1 (up_i64 _)

/-- the flows that begin at a switch, by their numbers -/
def idxFrom (s : Int) : Int → List Flow → List Int
  | _, [] => []
  | i, f :: r => (if f.src = s then [i] else []) ++ idxFrom s (i + 1) r
def began (s : Int) (l : List Flow) : Bool := l.any fun f => f.src == s
def stampAt (c : Ctl) (s : Int) : List To := if idxFrom s 0 c.next.flows = [] ∧ began s c.now.flows = false then [] else [⟨s, ⟨2, 0, c.next.ver, [], idxFrom s 0 c.next.flows⟩⟩]
def addAt (p : Plan) (s : Int) : List To := if rulesAt p s = [] then [] else [⟨s, ⟨1, 0, p.ver, rulesAt p s, []⟩⟩]
def goneAt (p : Plan) (s : Int) : List To := if rulesAt p s = [] then [] else [⟨s, ⟨3, 0, p.ver, [], []⟩⟩]
/-- over the switches from the first on -/
def over (f : Int → List To) (n : Nat) : List To := (List.range n).flatMap fun s : Nat => f (s : Int)
theorem over_zero (f : Int → List To) : over f 0 = [] := rfl
theorem over_succ (f : Int → List To) (n : Nat) : over f (n + 1) = over f n ++ f n := by simp [over, List.range_succ]
theorem over_len {f : Int → List To} (h : ∀ s, (f s).length ≤ 1) (n : Nat) : (over f n).length ≤ n := by
  induction n with
  | zero => simp [over_zero]
  | succ n ih => rw [over_succ, List.length_append]; have := h n; omega
theorem stampAt_len (c : Ctl) (s : Int) : (stampAt c s).length ≤ 1 := by unfold stampAt; split <;> simp
theorem addAt_len (p : Plan) (s : Int) : (addAt p s).length ≤ 1 := by unfold addAt; split <;> simp
theorem goneAt_len (p : Plan) (s : Int) : (goneAt p s).length ≤ 1 := by unfold goneAt; split <;> simp
def stampsOf (c : Ctl) (t : Topo) : List To := over (stampAt c) t.n.toNat
def addsOf (p : Plan) (t : Topo) : List To := over (addAt p) t.n.toNat
def gonesOf (p : Plan) (t : Topo) : List To := over (goneAt p) t.n.toNat
def fullAt (now p : Plan) (s : Int) : Bool := decide (16 < (rulesAt now s).length + (rulesAt p s).length)
def fullTo (now p : Plan) (n : Nat) : Bool := (List.range n).any fun s : Nat => fullAt now p (s : Int)
theorem fullTo_succ (now p : Plan) (n : Nat) : fullTo now p (n + 1) = (fullTo now p n || fullAt now p n) := by simp [fullTo, List.range_succ]

/-- as far as nothing is waited for -/
def stepsOf (c : Ctl) (t : Topo) : Ctl × List To :=
  if c.waits ≠ [] then (c, [])
  else if c.stage = 1 then
    (if (send ⟨2, c.now, c.next, c.num, c.waits⟩ (stampsOf c t)).1.waits = [] then
      (⟨3, c.now, c.next, c.num, []⟩, []) else send ⟨2, c.now, c.next, c.num, c.waits⟩ (stampsOf c t))
  else if c.stage = 2 then (⟨3, c.now, c.next, c.num, c.waits⟩, [])
  else if c.stage = 4 then (⟨0, c.next, noPlan, c.num, c.waits⟩, [])
  else (c, [])
def ctlAsk (c : Ctl) (t : Topo) (l : List Flow) : Ctl × List To × Int :=
  if c.stage ≠ 0 then (noCtl, [], 11)
  else if (planOf t (up c.now.ver) l).2.1 ≠ 0 then (noCtl, [], (planOf t (up c.now.ver) l).2.1)
  else if fullTo c.now (planOf t (up c.now.ver) l).1 t.n.toNat = true then (noCtl, [], 10)
  else
    ((stepsOf (send ⟨1, c.now, (planOf t (up c.now.ver) l).1, c.num, c.waits⟩ (addsOf (planOf t (up c.now.ver) l).1 t)).1 t).1,
     (send ⟨1, c.now, (planOf t (up c.now.ver) l).1, c.num, c.waits⟩ (addsOf (planOf t (up c.now.ver) l).1 t)).2 ++
       (stepsOf (send ⟨1, c.now, (planOf t (up c.now.ver) l).1, c.num, c.waits⟩ (addsOf (planOf t (up c.now.ver) l).1 t)).1 t).2, 0)
def ctlBack (c : Ctl) (t : Topo) (n : Int) : Ctl × List To × Int :=
  if (topoWrong t).1 ≠ 0 then (noCtl, [], (topoWrong t).1)
  else match idxIn n c.waits with
    | none => (noCtl, [], 6)
    | some i => ((stepsOf ⟨c.stage, c.now, c.next, c.num, c.waits.eraseIdx i⟩ t).1, (stepsOf ⟨c.stage, c.now, c.next, c.num, c.waits.eraseIdx i⟩ t).2, 0)
def ctlDrop (c : Ctl) (t : Topo) : Ctl × List To × Int :=
  if (topoWrong t).1 ≠ 0 then (noCtl, [], (topoWrong t).1)
  else if c.stage ≠ 3 then (noCtl, [], 11)
  else
    ((stepsOf (send ⟨4, c.now, c.next, c.num, c.waits⟩ (gonesOf c.now t)).1 t).1,
     (send ⟨4, c.now, c.next, c.num, c.waits⟩ (gonesOf c.now t)).2 ++ (stepsOf (send ⟨4, c.now, c.next, c.num, c.waits⟩ (gonesOf c.now t)).1 t).2, 0)
end Go.St

/-
  A call's own area: what is kept of it; a control in its box.
-/
set_option linter.unusedSimpArgs false
set_option linter.unusedVariables false
namespace Go.St
open Go.RowKit

/-- what lies below B, and what lies in W, is as it was -/
structure Frm (W : Nat → Prop) (B : Nat) (w w' : World) : Prop where
  below : Below B w w'
  keep : ∀ b, b < w.heap.size → W b → w'.heap[b]? = w.heap[b]?
section
variable {W : Nat → Prop} {B : Nat} {w w' w'' : World}
theorem Frm.refl (W : Nat → Prop) (B : Nat) (w : World) : Frm W B w w := ⟨Below.refl _ _, fun _ _ _ => rfl⟩
theorem Frm.size (h : Frm W B w w') : w.heap.size ≤ w'.heap.size := h.below.size
theorem Frm.trans (h : Frm W B w w') (k : Frm W B w' w'') : Frm W B w w'' :=
  ⟨h.below.trans k.below, fun b hb hW => (k.keep b (Nat.lt_of_lt_of_le hb h.size) hW).trans (h.keep b hb hW)⟩
theorem Frm.of (h : Below w.heap.size w w') (hB : B ≤ w.heap.size) : Frm W B w w' := ⟨h.mono hB, fun b hb _ => h.block b hb⟩
theorem Frm.set {a : Addr} (ha : ¬ W a.block) (hB : B ≤ a.block) (v : Value) : Frm W B w (w.setCell a v) :=
  ⟨(Below.refl _ _).setCell hB v, fun b _ hW => Below.heap_setCell w a v b (fun e => ha (e ▸ hW))⟩
theorem Frm.grown {row : Option Nat} (hg : w.grownBy w' row) (hW : ∀ k, row = some k → ¬ W k ∧ B ≤ k) (hB : B ≤ w.heap.size) : Frm W B w w' :=
  ⟨(Below.refl _ _).grown hg hB (fun k hk => (hW k hk).2), fun b hb h => hg.block b hb (fun e => (hW b e.symm).1 h)⟩
theorem Frm.weak {V : Nat → Prop} {C : Nat} (h : Frm W B w w') (hV : ∀ b, b < w.heap.size → V b → W b ∨ b < B) (hC : C ≤ B) : Frm V C w w' :=
  ⟨h.below.mono hC, fun b hb hv => by
    rcases hV b hb hv with h1 | h1
    · exact h.keep b hb h1
    · exact h.below.block b h1⟩
theorem Frm.rep {α : Type} {S : Shape α} {cs : List Value} {a : α} (h : Frm W B w w') (hr : S.rep W w cs a) : S.rep W w' cs a := S.mono hr fun b hb hW => ⟨hW, h.keep b hb hW⟩
theorem Frm.row {α : Type} {S : Shape α} {ao : Option Addr} {c : Nat} {xs : List α} (h : Frm W B w w') (hr : rowRep S W w ao c xs) : rowRep S W w' ao c xs := hr.mono fun b hb hW => ⟨hW, h.keep b hb hW⟩
theorem Frm.blk {b : Nat} {t : TypeId} {cs : Array Value} (h : Frm W B w w') (hk : blockIs w b t cs) (hW : W b ∨ b < B) : blockIs w' b t cs :=
  hk.keep (by
    rcases hW with h1 | h1
    · exact h.keep b hk.lt h1
    · exact h.below.block b h1)
end

theorem rowRep.anyOk {α : Type} {S : Shape α} {ok ok' : Nat → Prop} {w : World} {ao : Option Addr} {c : Nat} {xs : List α} (h : rowRep S ok w ao c xs) (hk : ∀ b, b < w.heap.size → ok b → ok' b) : rowRep S ok' w ao c xs := h.mono fun b hb h1 => ⟨hk b hb h1, rfl⟩
theorem Shape.anyOk {α : Type} (S : Shape α) {ok ok' : Nat → Prop} {w : World} {cs : List Value} {a : α} (h : S.rep ok w cs a) (hk : ∀ b, b < w.heap.size → ok b → ok' b) : S.rep ok' w cs a := S.mono h fun b hb h1 => ⟨hk b hb h1, rfl⟩

/-- a plan's three cells -/
def planC (w : World) (ok : Nat → Prop) (n0 n1 n2 : Value) (p : Plan) : Prop := planS.rep ok w [n0, n1, n2] p
theorem planC.of {ok : Nat → Prop} {w : World} {cs : List Value} {p : Plan} (h : planS.rep ok w cs p) : ∃ n0 n1 n2, cs = [n0, n1, n2] ∧ planC w ok n0 n1 n2 p := by
  obtain ⟨fa, fc, pa, pc, rfl, h1, h2, h3⟩ := h
  exact ⟨_, _, _, rfl, fa, fc, pa, pc, rfl, h1, h2, h3⟩
theorem planC.one {ok : Nat → Prop} {w : World} {n0 n1 n2 : Value} {p : Plan} (h : planC w ok n0 n1 n2 p) : n0.oneCell' = true ∧ n1.oneCell' = true ∧ n2.oneCell' = true := by
  have := planS.one h
  exact ⟨this _ (by simp), this _ (by simp), this _ (by simp)⟩
theorem noPlanC (ok : Nat → Prop) (w : World) : planC w ok (.int .i64 0) (.slice none 0 0) (.slice none 0 0) noPlan := ⟨none, 0, none, 0, rfl, I64.small (by decide) (by decide), rowRep.nil _ _ _ _, rowRep.nil _ _ _ _⟩
theorem ctlS.open_ {ok : Nat → Prop} {w : World} {cs : List Value} {c : Ctl} (h : ctlS.rep ok w cs c) : ∃ n0 n1 n2 x0 x1 x2 wa wc, cs = [.int .i64 c.stage, n0, n1, n2, x0, x1, x2, .int .i64 c.num, .slice wa c.waits.length wc] ∧
    I64 c.stage ∧ I64 c.num ∧ planC w ok n0 n1 n2 c.now ∧ planC w ok x0 x1 x2 c.next ∧ rowRep intS ok w wa wc c.waits := by
  obtain ⟨ns, xs, wa, wc, rfl, h1, h2, h3, h4, h5⟩ := h
  obtain ⟨n0, n1, n2, rfl, h3⟩ := planC.of h3
  obtain ⟨x0, x1, x2, rfl, h4⟩ := planC.of h4
  exact ⟨n0, n1, n2, x0, x1, x2, wa, wc, rfl, h1, h2, h3, h4, h5⟩
theorem ctlS.mk_ {ok : Nat → Prop} {w : World} {n0 n1 n2 x0 x1 x2 : Value} {wa : Option Addr} {wc : Nat} {c : Ctl} (h1 : I64 c.stage) (h2 : I64 c.num) (h3 : planC w ok n0 n1 n2 c.now) (h4 : planC w ok x0 x1 x2 c.next) (h5 : rowRep intS ok w wa wc c.waits) :
    ctlS.rep ok w [.int .i64 c.stage, n0, n1, n2, x0, x1, x2, .int .i64 c.num, .slice wa c.waits.length wc] c := ⟨_, _, wa, wc, rfl, h1, h2, h3, h4, h5⟩

/-- an opaque value is stored like any other -/
theorem run_one {P : Program} {v : Value} (h : v.oneCell' = true) : ∀ (w : World) (a : Addr) (m : Mode), (store a v m).run P w = stored P w a v m := fun w a m => run_store P w a v m h
theorem planC.st {P : Program} {ok : Nat → Prop} {w : World} {n0 n1 n2 : Value} {p : Plan} (h : planC w ok n0 n1 n2 p) :
    (∀ (w : World) (a : Addr) (m : Mode), (store a n0 m).run P w = stored P w a n0 m) ∧ (∀ (w : World) (a : Addr) (m : Mode), (store a n1 m).run P w = stored P w a n1 m) ∧ (∀ (w : World) (a : Addr) (m : Mode), (store a n2 m).run P w = stored P w a n2 m) :=
  ⟨run_one h.one.1, run_one h.one.2.1, run_one h.one.2.2⟩
/-- what is kept of a datum that lies in what is kept -/
theorem Frm.rep' {α : Type} {S : Shape α} {W ok : Nat → Prop} {B : Nat} {w w' : World} {cs : List Value} {a : α} (h : Frm W B w w') (hr : S.rep ok w cs a) (hk : ∀ b, ok b → W b ∨ b < B) : S.rep ok w' cs a := S.mono hr fun b hb ho => ⟨ho, by
  rcases hk b ho with h1 | h1
  · exact h.keep b hb h1
  · exact h.below.block b h1⟩
theorem Frm.row' {α : Type} {S : Shape α} {W ok : Nat → Prop} {B : Nat} {w w' : World} {ao : Option Addr} {c : Nat} {xs : List α} (h : Frm W B w w') (hr : rowRep S ok w ao c xs) (hk : ∀ b, ok b → W b ∨ b < B) : rowRep S ok w' ao c xs := hr.mono fun b hb ho => ⟨ho, by
  rcases hk b ho with h1 | h1
  · exact h.keep b hb h1
  · exact h.below.block b h1⟩
def setsAt (w : World) (b : Nat) : Nat → List Value → World
  | _, [] => w
  | i, v :: r => setsAt (w.setCell ⟨b, i, none⟩ v) b (i + 1) r
def putsAt (cs : List Value) : Nat → List Value → List Value
  | _, [] => cs
  | i, v :: r => putsAt (cs.set i v) (i + 1) r
theorem sets_ok {b : Nat} {t : TypeId} {W : Nat → Prop} {B : Nat} (hW : ¬ W b) (hB : B ≤ b) : ∀ (l : List Value) (i : Nat) (w : World) (cs : List Value), blockIs w b t cs.toArray → blockIs (setsAt w b i l) b t (putsAt cs i l).toArray ∧ Frm W B w (setsAt w b i l)
  | [], i, w, cs, h => ⟨h, Frm.refl _ _ _⟩
  | v :: r, i, w, cs, h => by
    have h1 := h.set i v
    rw [List.setIfInBounds_toArray] at h1
    have h2 := sets_ok hW hB r (i + 1) _ _ h1
    exact ⟨h2.1, (Frm.set (a := ⟨b, i, none⟩) hW hB v).trans h2.2⟩
/-- a control's nine cells are turned -/
theorem set9 {w : World} {b : Nat} {t : TypeId} {z0 z1 z2 z3 z4 z5 z6 z7 z8 : Value} (h : blockIs w b t #[z0, z1, z2, z3, z4, z5, z6, z7, z8]) (W : Nat → Prop) (B : Nat) (hW : ¬ W b) (hB : B ≤ b) (a0 a1 a2 a3 a4 a5 a6 a7 a8 : Value) :
    blockIs (((((((((w.setCell ⟨b, 0, none⟩ a0).setCell ⟨b, 1, none⟩ a1).setCell ⟨b, 2, none⟩ a2).setCell ⟨b, 3, none⟩ a3).setCell ⟨b, 4, none⟩ a4).setCell ⟨b, 5, none⟩ a5).setCell ⟨b, 6, none⟩ a6).setCell ⟨b, 7, none⟩ a7).setCell ⟨b, 8, none⟩ a8) b t #[a0, a1, a2, a3, a4, a5, a6, a7, a8] ∧ Frm W B w (((((((((w.setCell ⟨b, 0, none⟩ a0).setCell ⟨b, 1, none⟩ a1).setCell ⟨b, 2, none⟩ a2).setCell ⟨b, 3, none⟩ a3).setCell ⟨b, 4, none⟩ a4).setCell ⟨b, 5, none⟩ a5).setCell ⟨b, 6, none⟩ a6).setCell ⟨b, 7, none⟩ a7).setCell ⟨b, 8, none⟩ a8) :=
  sets_ok hW hB [a0, a1, a2, a3, a4, a5, a6, a7, a8] 0 w [z0, z1, z2, z3, z4, z5, z6, z7, z8] h
/-- the first seven of them -/
theorem set7 {w : World} {b : Nat} {t : TypeId} {z0 z1 z2 z3 z4 z5 z6 z7 z8 : Value} (h : blockIs w b t #[z0, z1, z2, z3, z4, z5, z6, z7, z8]) (W : Nat → Prop) (B : Nat) (hW : ¬ W b) (hB : B ≤ b) (a0 a1 a2 a3 a4 a5 a6 : Value) :
    blockIs (((((((w.setCell ⟨b, 0, none⟩ a0).setCell ⟨b, 1, none⟩ a1).setCell ⟨b, 2, none⟩ a2).setCell ⟨b, 3, none⟩ a3).setCell ⟨b, 4, none⟩ a4).setCell ⟨b, 5, none⟩ a5).setCell ⟨b, 6, none⟩ a6) b t #[a0, a1, a2, a3, a4, a5, a6, z7, z8] ∧ Frm W B w (((((((w.setCell ⟨b, 0, none⟩ a0).setCell ⟨b, 1, none⟩ a1).setCell ⟨b, 2, none⟩ a2).setCell ⟨b, 3, none⟩ a3).setCell ⟨b, 4, none⟩ a4).setCell ⟨b, 5, none⟩ a5).setCell ⟨b, 6, none⟩ a6) :=
  sets_ok hW hB [a0, a1, a2, a3, a4, a5, a6] 0 w [z0, z1, z2, z3, z4, z5, z6, z7, z8] h
/-- a plan's three cells, from a place on, are turned -/
theorem set3 {w : World} {b : Nat} {t : TypeId} {cs : List Value} (h : blockIs w b t cs.toArray) (o : Nat) (W : Nat → Prop) (B : Nat) (hW : ¬ W b) (hB : B ≤ b) (a0 a1 a2 : Value) :
    blockIs (((w.setCell ⟨b, o, none⟩ a0).setCell ⟨b, o + 1, none⟩ a1).setCell ⟨b, o + 2, none⟩ a2) b t (((cs.set o a0).set (o + 1) a1).set (o + 2) a2).toArray ∧ Frm W B w (((w.setCell ⟨b, o, none⟩ a0).setCell ⟨b, o + 1, none⟩ a1).setCell ⟨b, o + 2, none⟩ a2) :=
  sets_ok hW hB [a0, a1, a2] o w cs h
end Go.St

/-
  A row of the call's own, of which one cell is turned in place.
-/
set_option linter.unusedSimpArgs false
set_option linter.unusedVariables false
namespace Go.St
open Go.RowKit

theorem chunk_at {size : Nat} {l : List Value} {k j : Nat} (h : j < size) : (chunk size l k)[j]? = l[k * size + j]? := by
  unfold chunk
  rw [List.getElem?_take, if_pos h, List.getElem?_drop]
theorem chunk_out {size : Nat} {l : List Value} {k j : Nat} (h : ¬ j < size) : (chunk size l k)[j]? = none := by
  unfold chunk
  rw [List.getElem?_take, if_neg h]
theorem place_ne {size i k o j : Nat} (hik : i ≠ k) (ho : o < size) (hj : j < size) : i * size + o ≠ k * size + j := by
  intro e
  rcases Nat.lt_or_gt_of_ne hik with h | h
  · have := Nat.mul_le_mul_right size h
    rw [Nat.succ_mul] at this
    omega
  · have := Nat.mul_le_mul_right size h
    rw [Nat.succ_mul] at this
    omega
theorem chunk_set {size : Nat} {l : List Value} {i o : Nat} (ho : o < size) (v : Value) (k : Nat) : chunk size (l.set (i * size + o) v) k = if k = i then (chunk size l i).set o v else chunk size l k := by
  apply List.ext_getElem?
  intro j
  by_cases hj : j < size
  case neg =>
    rw [chunk_out hj]
    split
    · rw [List.getElem?_set]
      split
      · subst_vars; exact absurd ho hj
      · rw [chunk_out hj]
    · rw [chunk_out hj]
  rw [chunk_at hj, List.getElem?_set]
  split
  case isTrue h1 =>
    by_cases hk : k = i
    · subst hk
      have : o = j := by omega
      subst this
      have hlen : (k * size + o < l.length) = (o < (chunk size l k).length) := by
        apply propext
        unfold chunk
        rw [List.length_take, List.length_drop]
        omega
      simp only [if_true, List.getElem?_set]
      simp only [hlen]
    · exact absurd h1 (place_ne (Ne.symm hk) ho hj)
  case isFalse h1 =>
    by_cases hk : k = i
    · subst hk
      have : o ≠ j := fun e => h1 (by rw [e])
      rw [if_pos rfl, List.getElem?_set, if_neg this, chunk_at hj]
    · rw [if_neg hk, chunk_at hj]

section
variable {α : Type} {sh : Shape α} {e : TypeId} {ok : Nat → Prop} {base : Nat} {w : World} {ao : Option Addr} {n cap : Nat} {xs : List α}
theorem ownR.at (h : ownR sh e ok base w ao n cap xs) {i : Nat} {x : α} (hx : xs[i]? = some x) : ∃ g cs, ao = some ⟨g, 0, none⟩ ∧ base ≤ g ∧ g < w.heap.size ∧ ¬ ok g ∧ sh.rep ok w cs x ∧
    (∀ j c, cs[j]? = some c → w.cell? ⟨g, i * sh.size + j, none⟩ = some c) ∧ (∀ o, w.frozen? ⟨g, o, none⟩ = false) ∧ ∃ cur, w.heap[g]? = some (.cells cur e (0, 0)) := by
  obtain ⟨cells, h1, rfl, h3, h4, h5⟩ := h
  have h1' := h1
  obtain ⟨hc, hle, hm, ⟨rfl, h0⟩ | ⟨g, cur, rfl, hb, hg, hs, ht⟩⟩ := h1
  · have := (List.getElem?_eq_some_iff.1 hx).1
    omega
  · refine ⟨g, _, rfl, hb, (h1'.lt g rfl).2, h4 g rfl, h3 i x hx, fun j c hj => h1'.cell rfl _ _ (chunk_get hj), fun o => ?_, cur, hg⟩
    simp [World.frozen?, hg]

/-- one cell of an element is turned -/
theorem ownR.put1 {g : Nat} (h : ownR sh e ok base w (some ⟨g, 0, none⟩) n cap xs) {i o : Nat} {x y : α} (hx : xs[i]? = some x) (ho : o < sh.size) (v : Value)
    (hy : ∀ cs, sh.rep ok w cs x → sh.rep ok w (cs.set o v) y) : ownR sh e ok base (w.setCell ⟨g, i * sh.size + o, none⟩ v) (some ⟨g, 0, none⟩) n cap (xs.set i y) := by
  have hg0 := (h.lt g rfl).2
  obtain ⟨cells, ⟨hc, hle, hm, h6⟩, rfl, h3, h4, h5⟩ := h
  have hng := h4 g rfl
  rcases h6 with ⟨h6, _⟩ | ⟨g', cur, hg', hb, hg, hs, ht⟩
  · cases h6
  obtain rfl : g = g' := by simpa using hg'
  have hi := (List.getElem?_eq_some_iff.1 hx).1
  have hp : i * sh.size + o < xs.length * sh.size := by
    have := Nat.mul_le_mul_right sh.size hi
    rw [Nat.succ_mul] at this
    omega
  have hmono : ∀ {cs : List Value} {a : α}, sh.rep ok w cs a → sh.rep ok (w.setCell ⟨g, i * sh.size + o, none⟩ v) cs a := fun h => sh.mono h fun b _ hb => ⟨hb, Below.heap_setCell _ _ _ _ (fun e => hng (by have e1 : b = g := e; rw [← e1]; exact hb))⟩
  refine ⟨cells.set (i * sh.size + o) v, ⟨by rw [List.length_set]; exact hc, hle, hm, .inr ⟨g, cur.setIfInBounds (i * sh.size + o) v, rfl, hb, ?_, by simpa using hs, ?_⟩⟩, by simp, ?_, h4, fun b hb => by simpa using h5 b hb⟩
  · have : w.heap[g]? = some (.cells cur e (0, 0)) := hg
    simp [World.setCell, Array.getElem?_modify, this]
  · rw [Array.toList_setIfInBounds, List.take_set, ht]
  · intro k z hz
    rw [chunk_set ho]
    rw [List.getElem?_set] at hz
    by_cases hk : k = i
    · subst hk
      rw [if_pos rfl]
      rw [if_pos rfl, if_pos hi] at hz
      obtain rfl : y = z := by simpa using hz
      exact hmono (hy _ (h3 k x hx))
    · rw [if_neg hk]
      rw [if_neg (Ne.symm hk)] at hz
      exact hmono (h3 k z hz)
theorem ownR.frm {W : Nat → Prop} {B : Nat} {w' : World} (h : ownR sh e ok base w ao n cap xs) (hF : Frm W B w w') (hk : ∀ b, ok b → W b) (hb : ∀ k, blk ao = some k → W k) : ownR sh e ok base w' ao n cap xs := by
  have h5 : ∀ b, ok b → b < w.heap.size := by obtain ⟨_, _, _, _, _, h5⟩ := h; exact h5
  refine h.keep hF.size fun k hk' => ?_
  rcases hk' with hk' | hk'
  · exact hF.keep k (h.lt k hk').2 (hb k hk')
  · exact hF.keep k (h5 k hk') (hk k hk')
theorem ownR.not (h : ownR sh e ok base w ao n cap xs) : ∀ k, blk ao = some k → ¬ ok k := by obtain ⟨_, _, _, _, h4, _⟩ := h; exact h4
theorem ownR.okLt (h : ownR sh e ok base w ao n cap xs) : ∀ b, ok b → b < w.heap.size := by obtain ⟨_, _, _, _, _, h5⟩ := h; exact h5
theorem ownR.setAt (h : ownR sh e ok base w ao n cap xs) {a : Addr} (hne : blk ao ≠ some a.block) (hok : ¬ ok a.block) (v : Value) : ownR sh e ok base (w.setCell a v) ao n cap xs :=
  h.keep (by simp) fun k hk => Below.heap_setCell _ _ _ _ (by
    rintro rfl
    rcases hk with hk | hk
    · exact hne hk
    · exact hok hk)
theorem ownR.noType (h : ownR sh e ok base w ao n cap xs) {g : Nat} {cur : Array Value} {e' : TypeId} {fr : Nat × Nat} (hg : w.heap[g]? = some (.cells cur e' fr)) (hne : e ≠ e') : blk ao ≠ some g := by
  obtain ⟨cells, ⟨_, _, _, ⟨rfl, _⟩ | ⟨g', cur', rfl, _, hg', _⟩⟩, _⟩ := h
  · simp [blk]
  · intro hk
    obtain rfl : g' = g := by simpa [blk] using hk
    rw [hg'] at hg
    simp at hg
    exact hne hg.2.1
theorem ownR.oldGrown (h : ownR sh e ok base w ao n cap xs) {w' : World} {row : Option Nat} (hg : w.grownBy w' row) (h1 : ∀ k, row = some k → blk ao ≠ some k ∧ ¬ ok k) : ownR sh e ok base w' ao n cap xs :=
  h.keep hg.size fun k hk => hg.block k (by
    rcases hk with hk | hk
    · exact (h.lt k hk).2
    · exact h.okLt k hk) (fun e => by
      have h2 := h1 k e.symm
      rcases hk with hk | hk
      · exact h2.1 hk
      · exact h2.2 hk)
end

theorem ownR.apart {α β : Type} {sh : Shape α} {sh' : Shape β} {e e' : TypeId} {ok ok' : Nat → Prop} {base base' : Nat} {w : World} {ao bo : Option Addr} {n cap m cap' : Nat} {xs : List α} {ys : List β} (h : ownR sh e ok base w ao n cap xs) (k : ownR sh' e' ok' base' w bo m cap' ys) (hne : e ≠ e') : ∀ g, blk ao = some g → blk bo ≠ some g := by
  intro g hg
  obtain ⟨cells, ⟨_, _, _, ⟨rfl, _⟩ | ⟨g', cur', rfl, _, hg', _⟩⟩, _⟩ := h
  · simp [blk] at hg
  · obtain rfl : g' = g := by simpa [blk] using hg
    exact k.noType hg' (Ne.symm hne)

/-- an order's number -/
def toNum (x : To) (n : Int) : To := ⟨x.sw, ⟨x.order.kind, n, x.order.ver, x.order.rules, x.order.flows⟩⟩
theorem toS.num {ok : Nat → Prop} {w : World} {cs : List Value} {x : To} (h : toS.rep ok w cs x) {n : Int} (hn : I64 n) : toS.rep ok w (cs.set 2 (.int .i64 n)) (toNum x n) := by
  obtain ⟨ds, rfl, h1, oa, oc, fa, fc, rfl, h2, h3, h4, h5, h6⟩ := h
  exact ⟨_, rfl, h1, oa, oc, fa, fc, rfl, h2, hn, h4, h5, h6⟩
end Go.St
