/-
  A call's own area: what is kept of it; a control in its box.
-/
import Derived.Test.YtagldmdeohenjaaCtlS
import Derived.Test.YtagldmdeohenjaaBlk
import Derived.Test.YtagldmdeohenjaaOth
set_option linter.unusedSimpArgs false
set_option linter.unusedVariables false
namespace Go.St
open Go.RowKit

/-- what lies below B, and what lies in W, is as it was -/
structure Frm (W : Nat → Prop) (B : Nat) (w w' : World) : Prop where
  below : Below B w w'
  keep : ∀ b, b < w.heap.size → W b → w'.heap[b]? = w.heap[b]?
section
variable {W : Nat → Prop} {B : Nat} {w w' w'' : World}
theorem Frm.refl (W : Nat → Prop) (B : Nat) (w : World) : Frm W B w w := ⟨Below.refl _ _, fun _ _ _ => rfl⟩
theorem Frm.size (h : Frm W B w w') : w.heap.size ≤ w'.heap.size := h.below.size
theorem Frm.trans (h : Frm W B w w') (k : Frm W B w' w'') : Frm W B w w'' :=
  ⟨h.below.trans k.below, fun b hb hW => (k.keep b (Nat.lt_of_lt_of_le hb h.size) hW).trans (h.keep b hb hW)⟩
theorem Frm.of (h : Below w.heap.size w w') (hB : B ≤ w.heap.size) : Frm W B w w' := ⟨h.mono hB, fun b hb _ => h.block b hb⟩
theorem Frm.set {a : Addr} (ha : ¬ W a.block) (hB : B ≤ a.block) (v : Value) : Frm W B w (w.setCell a v) :=
  ⟨(Below.refl _ _).setCell hB v, fun b _ hW => Below.heap_setCell w a v b (fun e => ha (e ▸ hW))⟩
theorem Frm.grown {row : Option Nat} (hg : w.grownBy w' row) (hW : ∀ k, row = some k → ¬ W k ∧ B ≤ k) (hB : B ≤ w.heap.size) : Frm W B w w' :=
  ⟨(Below.refl _ _).grown hg hB (fun k hk => (hW k hk).2), fun b hb h => hg.block b hb (fun e => (hW b e.symm).1 h)⟩
theorem Frm.weak {V : Nat → Prop} {C : Nat} (h : Frm W B w w') (hV : ∀ b, b < w.heap.size → V b → W b ∨ b < B) (hC : C ≤ B) : Frm V C w w' :=
  ⟨h.below.mono hC, fun b hb hv => by
    rcases hV b hb hv with h1 | h1
    · exact h.keep b hb h1
    · exact h.below.block b h1⟩
theorem Frm.rep {α : Type} {S : Shape α} {cs : List Value} {a : α} (h : Frm W B w w') (hr : S.rep W w cs a) : S.rep W w' cs a := S.mono hr fun b hb hW => ⟨hW, h.keep b hb hW⟩
theorem Frm.row {α : Type} {S : Shape α} {ao : Option Addr} {c : Nat} {xs : List α} (h : Frm W B w w') (hr : rowRep S W w ao c xs) : rowRep S W w' ao c xs := hr.mono fun b hb hW => ⟨hW, h.keep b hb hW⟩
theorem Frm.blk {b : Nat} {t : TypeId} {cs : Array Value} (h : Frm W B w w') (hk : blockIs w b t cs) (hW : W b ∨ b < B) : blockIs w' b t cs :=
  hk.keep (by
    rcases hW with h1 | h1
    · exact h.keep b hk.lt h1
    · exact h.below.block b h1)
end

theorem rowRep.anyOk {α : Type} {S : Shape α} {ok ok' : Nat → Prop} {w : World} {ao : Option Addr} {c : Nat} {xs : List α} (h : rowRep S ok w ao c xs) (hk : ∀ b, b < w.heap.size → ok b → ok' b) : rowRep S ok' w ao c xs := h.mono fun b hb h1 => ⟨hk b hb h1, rfl⟩
theorem Shape.anyOk {α : Type} (S : Shape α) {ok ok' : Nat → Prop} {w : World} {cs : List Value} {a : α} (h : S.rep ok w cs a) (hk : ∀ b, b < w.heap.size → ok b → ok' b) : S.rep ok' w cs a := S.mono h fun b hb h1 => ⟨hk b hb h1, rfl⟩

/-- a plan's three cells -/
def planC (w : World) (ok : Nat → Prop) (n0 n1 n2 : Value) (p : Plan) : Prop := planS.rep ok w [n0, n1, n2] p
theorem planC.of {ok : Nat → Prop} {w : World} {cs : List Value} {p : Plan} (h : planS.rep ok w cs p) : ∃ n0 n1 n2, cs = [n0, n1, n2] ∧ planC w ok n0 n1 n2 p := by
  obtain ⟨fa, fc, pa, pc, rfl, h1, h2, h3⟩ := h
  exact ⟨_, _, _, rfl, fa, fc, pa, pc, rfl, h1, h2, h3⟩
theorem planC.one {ok : Nat → Prop} {w : World} {n0 n1 n2 : Value} {p : Plan} (h : planC w ok n0 n1 n2 p) : n0.oneCell' = true ∧ n1.oneCell' = true ∧ n2.oneCell' = true := by
  have := planS.one h
  exact ⟨this _ (by simp), this _ (by simp), this _ (by simp)⟩
theorem noPlanC (ok : Nat → Prop) (w : World) : planC w ok (.int .i64 0) (.slice none 0 0) (.slice none 0 0) noPlan := ⟨none, 0, none, 0, rfl, I64.small (by decide) (by decide), rowRep.nil _ _ _ _, rowRep.nil _ _ _ _⟩
theorem ctlS.open_ {ok : Nat → Prop} {w : World} {cs : List Value} {c : Ctl} (h : ctlS.rep ok w cs c) : ∃ n0 n1 n2 x0 x1 x2 wa wc, cs = [.int .i64 c.stage, n0, n1, n2, x0, x1, x2, .int .i64 c.num, .slice wa c.waits.length wc] ∧
    I64 c.stage ∧ I64 c.num ∧ planC w ok n0 n1 n2 c.now ∧ planC w ok x0 x1 x2 c.next ∧ rowRep intS ok w wa wc c.waits := by
  obtain ⟨ns, xs, wa, wc, rfl, h1, h2, h3, h4, h5⟩ := h
  obtain ⟨n0, n1, n2, rfl, h3⟩ := planC.of h3
  obtain ⟨x0, x1, x2, rfl, h4⟩ := planC.of h4
  exact ⟨n0, n1, n2, x0, x1, x2, wa, wc, rfl, h1, h2, h3, h4, h5⟩
theorem ctlS.mk_ {ok : Nat → Prop} {w : World} {n0 n1 n2 x0 x1 x2 : Value} {wa : Option Addr} {wc : Nat} {c : Ctl} (h1 : I64 c.stage) (h2 : I64 c.num) (h3 : planC w ok n0 n1 n2 c.now) (h4 : planC w ok x0 x1 x2 c.next) (h5 : rowRep intS ok w wa wc c.waits) :
    ctlS.rep ok w [.int .i64 c.stage, n0, n1, n2, x0, x1, x2, .int .i64 c.num, .slice wa c.waits.length wc] c := ⟨_, _, wa, wc, rfl, h1, h2, h3, h4, h5⟩

/-- an opaque value is stored like any other -/
theorem run_one {P : Program} {v : Value} (h : v.oneCell' = true) : ∀ (w : World) (a : Addr) (m : Mode), (store a v m).run P w = stored P w a v m := fun w a m => run_store P w a v m h
theorem planC.st {P : Program} {ok : Nat → Prop} {w : World} {n0 n1 n2 : Value} {p : Plan} (h : planC w ok n0 n1 n2 p) :
    (∀ (w : World) (a : Addr) (m : Mode), (store a n0 m).run P w = stored P w a n0 m) ∧ (∀ (w : World) (a : Addr) (m : Mode), (store a n1 m).run P w = stored P w a n1 m) ∧ (∀ (w : World) (a : Addr) (m : Mode), (store a n2 m).run P w = stored P w a n2 m) :=
  ⟨run_one h.one.1, run_one h.one.2.1, run_one h.one.2.2⟩
/-- what is kept of a datum that lies in what is kept -/
theorem Frm.rep' {α : Type} {S : Shape α} {W ok : Nat → Prop} {B : Nat} {w w' : World} {cs : List Value} {a : α} (h : Frm W B w w') (hr : S.rep ok w cs a) (hk : ∀ b, ok b → W b ∨ b < B) : S.rep ok w' cs a := S.mono hr fun b hb ho => ⟨ho, by
  rcases hk b ho with h1 | h1
  · exact h.keep b hb h1
  · exact h.below.block b h1⟩
theorem Frm.row' {α : Type} {S : Shape α} {W ok : Nat → Prop} {B : Nat} {w w' : World} {ao : Option Addr} {c : Nat} {xs : List α} (h : Frm W B w w') (hr : rowRep S ok w ao c xs) (hk : ∀ b, ok b → W b ∨ b < B) : rowRep S ok w' ao c xs := hr.mono fun b hb ho => ⟨ho, by
  rcases hk b ho with h1 | h1
  · exact h.keep b hb h1
  · exact h.below.block b h1⟩
def setsAt (w : World) (b : Nat) : Nat → List Value → World
  | _, [] => w
  | i, v :: r => setsAt (w.setCell ⟨b, i, none⟩ v) b (i + 1) r
def putsAt (cs : List Value) : Nat → List Value → List Value
  | _, [] => cs
  | i, v :: r => putsAt (cs.set i v) (i + 1) r
theorem sets_ok {b : Nat} {t : TypeId} {W : Nat → Prop} {B : Nat} (hW : ¬ W b) (hB : B ≤ b) : ∀ (l : List Value) (i : Nat) (w : World) (cs : List Value), blockIs w b t cs.toArray → blockIs (setsAt w b i l) b t (putsAt cs i l).toArray ∧ Frm W B w (setsAt w b i l)
  | [], i, w, cs, h => ⟨h, Frm.refl _ _ _⟩
  | v :: r, i, w, cs, h => by
    have h1 := h.set i v
    rw [List.setIfInBounds_toArray] at h1
    have h2 := sets_ok hW hB r (i + 1) _ _ h1
    exact ⟨h2.1, (Frm.set (a := ⟨b, i, none⟩) hW hB v).trans h2.2⟩
/-- a control's nine cells are turned -/
theorem set9 {w : World} {b : Nat} {t : TypeId} {z0 z1 z2 z3 z4 z5 z6 z7 z8 : Value} (h : blockIs w b t #[z0, z1, z2, z3, z4, z5, z6, z7, z8]) (W : Nat → Prop) (B : Nat) (hW : ¬ W b) (hB : B ≤ b) (a0 a1 a2 a3 a4 a5 a6 a7 a8 : Value) :
    blockIs (((((((((w.setCell ⟨b, 0, none⟩ a0).setCell ⟨b, 1, none⟩ a1).setCell ⟨b, 2, none⟩ a2).setCell ⟨b, 3, none⟩ a3).setCell ⟨b, 4, none⟩ a4).setCell ⟨b, 5, none⟩ a5).setCell ⟨b, 6, none⟩ a6).setCell ⟨b, 7, none⟩ a7).setCell ⟨b, 8, none⟩ a8) b t #[a0, a1, a2, a3, a4, a5, a6, a7, a8] ∧ Frm W B w (((((((((w.setCell ⟨b, 0, none⟩ a0).setCell ⟨b, 1, none⟩ a1).setCell ⟨b, 2, none⟩ a2).setCell ⟨b, 3, none⟩ a3).setCell ⟨b, 4, none⟩ a4).setCell ⟨b, 5, none⟩ a5).setCell ⟨b, 6, none⟩ a6).setCell ⟨b, 7, none⟩ a7).setCell ⟨b, 8, none⟩ a8) :=
  sets_ok hW hB [a0, a1, a2, a3, a4, a5, a6, a7, a8] 0 w [z0, z1, z2, z3, z4, z5, z6, z7, z8] h
/-- the first seven of them -/
theorem set7 {w : World} {b : Nat} {t : TypeId} {z0 z1 z2 z3 z4 z5 z6 z7 z8 : Value} (h : blockIs w b t #[z0, z1, z2, z3, z4, z5, z6, z7, z8]) (W : Nat → Prop) (B : Nat) (hW : ¬ W b) (hB : B ≤ b) (a0 a1 a2 a3 a4 a5 a6 : Value) :
    blockIs (((((((w.setCell ⟨b, 0, none⟩ a0).setCell ⟨b, 1, none⟩ a1).setCell ⟨b, 2, none⟩ a2).setCell ⟨b, 3, none⟩ a3).setCell ⟨b, 4, none⟩ a4).setCell ⟨b, 5, none⟩ a5).setCell ⟨b, 6, none⟩ a6) b t #[a0, a1, a2, a3, a4, a5, a6, z7, z8] ∧ Frm W B w (((((((w.setCell ⟨b, 0, none⟩ a0).setCell ⟨b, 1, none⟩ a1).setCell ⟨b, 2, none⟩ a2).setCell ⟨b, 3, none⟩ a3).setCell ⟨b, 4, none⟩ a4).setCell ⟨b, 5, none⟩ a5).setCell ⟨b, 6, none⟩ a6) :=
  sets_ok hW hB [a0, a1, a2, a3, a4, a5, a6] 0 w [z0, z1, z2, z3, z4, z5, z6, z7, z8] h
/-- a plan's three cells, from a place on, are turned -/
theorem set3 {w : World} {b : Nat} {t : TypeId} {cs : List Value} (h : blockIs w b t cs.toArray) (o : Nat) (W : Nat → Prop) (B : Nat) (hW : ¬ W b) (hB : B ≤ b) (a0 a1 a2 : Value) :
    blockIs (((w.setCell ⟨b, o, none⟩ a0).setCell ⟨b, o + 1, none⟩ a1).setCell ⟨b, o + 2, none⟩ a2) b t (((cs.set o a0).set (o + 1) a1).set (o + 2) a2).toArray ∧ Frm W B w (((w.setCell ⟨b, o, none⟩ a0).setCell ⟨b, o + 1, none⟩ a1).setCell ⟨b, o + 2, none⟩ a2) :=
  sets_ok hW hB [a0, a1, a2] o w cs h
end Go.St
