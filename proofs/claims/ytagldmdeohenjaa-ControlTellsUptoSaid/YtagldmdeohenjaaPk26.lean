/-
  The contract of paths.Find.
-/
import Derived.WalkKit
import Derived.WalkSpells
import Derived.WalkLawsBesides
import Derived.Lib.Hide
import Derived.Deep.LoopGhost
import Derived.Deep.QuietTactic
import Derived.BigQuiet
import Derived.Deep.RegionWith
import Derived.Handy
import Derived.Test.YtagldmdeohenjaaPk19
import Derived.Test.YtagldmdeohenjaaPk1
import Derived.Test.YtagldmdeohenjaaPk20
import Derived.Test.YtagldmdeohenjaaPk18
import Derived.Test.YtagldmdeohenjaaPk17
import Derived.Test.YtagldmdeohenjaaPk10
import Derived.Test.YtagldmdeohenjaaPk7
import Derived.Test.YtagldmdeohenjaaPk9
import Derived.Test.YtagldmdeohenjaaPk8
import Derived.Test.YtagldmdeohenjaaPk16
import Derived.Test.YtagldmdeohenjaaPk21
import Derived.Test.YtagldmdeohenjaaPk25
set_option linter.unusedSimpArgs false
set_option linter.unusedVariables false
namespace Go.St
open Go.RowKit
theorem row_one {ok : Nat → Prop} {w : World} {f : Flow} {va na : Option Addr} {vc nc : Nat} {e : TypeId} {cap : Nat} (h1 : I64 f.src) (h2 : I64 f.dst) (hv : rowRep intS ok w va vc f.via) (hn : rowRep intS ok w na nc f.no) :
    rowRep flowS (fun b => ok b ∨ b = w.heap.size) (w.alloc (.cells #[.int .i64 f.src, .int .i64 f.dst, .slice va f.via.length vc, .slice na f.no.length nc] e)) (some ⟨w.heap.size, 0, none⟩) 1 [f] := by
  refine ⟨by simp, by decide, .inr ⟨w.heap.size, 0, rfl, .inr rfl, by simp, ?_⟩⟩
  intro i x hx
  cases i with
  | zero =>
    simp at hx
    subst hx
    have hk : ∀ b, b < w.heap.size → ok b → (ok b ∨ b = w.heap.size) ∧ (w.alloc (.cells #[.int .i64 f.src, .int .i64 f.dst, .slice va f.via.length vc, .slice na f.no.length nc] e)).heap[b]? = w.heap[b]? := fun b hb ho => ⟨.inl ho, ((Below.refl w.heap.size w).alloc (Nat.le_refl _) _).block b hb⟩
    refine ⟨_, ⟨va, vc, na, nc, rfl, h1, h2, hv.mono hk, hn.mono hk⟩, fun j c hc => ?_⟩
    simp only [Nat.zero_mul, Nat.zero_add]
    rw [World.cell?_alloc_new]
    simpa using hc
  | succ i => simp at hx
theorem row_src {w : World} {x : Int} {e : TypeId} (h : I64 x) (s : Nat) (hs : s ≠ w.heap.size) : rowRep intS (fun b => b ≠ s) (w.alloc (.cells #[.int .i64 x] e)) (some ⟨w.heap.size, 0, none⟩) 1 [x] := by
  refine ⟨by simp, by decide, .inr ⟨w.heap.size, 0, rfl, fun e => hs e.symm, by simp, ?_⟩⟩
  intro i y hy
  cases i with
  | zero =>
    simp at hy
    subst hy
    refine ⟨_, ⟨rfl, h⟩, fun j c hc => ?_⟩
    simp only [Nat.zero_mul, Nat.zero_add]
    rw [World.cell?_alloc_new]
    simpa using hc
  | succ i => simp at hy
end Go.St
namespace Go.Proofs.Ytagldmdeohenjaa
open Go.RowKit Go.St

set_option maxRecDepth 100000 in
set_option maxHeartbeats 8000000 in
theorem find_s (t : Topo) (f : Flow) (cs ds : List Value) (ok ok' : Nat → Prop) (w : World) (h : topoS.rep ok w cs t) (hf : flowS.rep ok' w ds f) :
    Calls Try.prog 38 #[.agg cs.toArray, .agg ds.toArray] w fun e w' => ∃ ao cap, e = .returned (.tuple #[.slice ao (findOf t f).1.length cap, .int .i64 (findOf t f).2]) ∧ rowRep intS (fun b => w.heap.size ≤ b) w' ao cap (findOf t f).1 ∧ Below w.heap.size w w' := by
  have hT := h
  obtain ⟨la, lc, rfl, hn, hr⟩ := h
  obtain ⟨va, vc, na, nc, rfl, hs, hd, hv, hno⟩ := id hf
  have hnil := run_eql_nil (P := Try.prog) 92 3 Try.underlying92
  go_enter Try.func38, Try.ntmps38
  go_wp2_with fail
  refine (topoWrong_c t _ ok _ (topoS.below hT (by (repeat' (first | with_reducible exact Below.refl _ _ | with_reducible assumption | with_reducible refine Below.drew ?_ | with_reducible refine Below_drewN ?_ _ | with_reducible refine Below.alloc ?_ ?_ _ | with_reducible refine Below.setCell ?_ ?_ _ | omega | (simp; done) | (simp; omega)))))).mono ?_
  rintro e w1 ⟨rfl, hb1⟩
  have hB1 : Below w.heap.size w w1 := Below.trans (by (repeat' (first | with_reducible exact Below.refl _ _ | with_reducible assumption | with_reducible refine Below.drew ?_ | with_reducible refine Below_drewN ?_ _ | with_reducible refine Below.alloc ?_ ?_ _ | with_reducible refine Below.setCell ?_ ?_ _ | omega | (simp; done) | (simp; omega)))) (hb1.mono (by simp; omega))
  have hT1 : blockIs w1 w.heap.size 24 #[.int .i64 t.n, .slice la t.links.length lc] := ((blockIs.new rfl).alloc _).under hb1
  have hF1 : blockIs w1 (w.heap.size + 1) 64 #[.int .i64 f.src, .int .i64 f.dst, .slice va f.via.length vc, .slice na f.no.length nc] := (blockIs.new (by simp)).under hb1
  obtain ⟨t1, t2⟩ := hT1.cells
  obtain ⟨f1, f2⟩ := hF1.cells
  have hz1 := hF1.lt
  have hz0 := hT1.lt
  clear hb1
  by_cases h1 : (topoWrong t).1 = 0
  case neg =>
    have hfo : Hid (findOf t f = ([], (topoWrong t).1)) := by show _ = _; unfold findOf; rw [if_pos h1]
    have h1' : ((topoWrong t).1 != 0) = true := by rw [bne_iff_ne]; exact h1
    clear h1
    go_wp2
    go_quiet (fail)
    go_wp2
    go_ret2
    rw [hfo.out]
    exact ⟨none, 0, rfl, rowRep.nil _ _ _ _, by (repeat' (first | with_reducible exact Below.refl _ _ | with_reducible assumption | with_reducible refine Below.drew ?_ | with_reducible refine Below_drewN ?_ _ | with_reducible refine Below.alloc ?_ ?_ _ | with_reducible refine Below.setCell ?_ ?_ _ | omega | (simp; done) | (simp; omega)))⟩
  have h1' : ((topoWrong t).1 != 0) = false := by rw [bne_eq_false_iff_eq]; exact h1
  have hrow1 : rowRep flowS (fun _ => True) ((w1.alloc (.cells #[.int .i64 0, .int .i64 (topoWrong t).2] 66)).alloc (.cells #[.int .i64 f.src, .int .i64 f.dst, .slice va f.via.length vc, .slice na f.no.length nc] 64)) (some ⟨w1.heap.size + 1, 0, none⟩) 1 [f] := by
    have := row_one (w := w1.alloc (.cells #[.int .i64 0, .int .i64 (topoWrong t).2] 66)) (e := 64) (cap := 1) hs hd (hv.below (by (repeat' (first | with_reducible exact Below.refl _ _ | with_reducible assumption | with_reducible refine Below.drew ?_ | with_reducible refine Below_drewN ?_ _ | with_reducible refine Below.alloc ?_ ?_ _ | with_reducible refine Below.setCell ?_ ?_ _ | omega | (simp; done) | (simp; omega))))) (hno.below (by (repeat' (first | with_reducible exact Below.refl _ _ | with_reducible assumption | with_reducible refine Below.drew ?_ | with_reducible refine Below_drewN ?_ _ | with_reducible refine Below.alloc ?_ ?_ _ | with_reducible refine Below.setCell ?_ ?_ _ | omega | (simp; done) | (simp; omega)))))
    rw [show (w1.alloc (.cells #[.int .i64 0, .int .i64 (topoWrong t).2] 66)).heap.size = w1.heap.size + 1 by simp] at this
    exact this.mono fun b hb _ => ⟨trivial, rfl⟩
  have hW := flowsWrong_c [f] t.n (fun _ => True) _ 1 _ hrow1
  simp only [List.length_cons, List.length_nil, Nat.zero_add] at hW
  rw [← h1] at hrow1
  have HW := Lib.hid hW
  clear hW hrow1
  go_wp2_with fail
  refine HW.out.mono ?_
  rintro e w2 ⟨rfl, hb2⟩
  clear HW
  have hB2 : Below w.heap.size w w2 := Below.trans (by (repeat' (first | with_reducible exact Below.refl _ _ | with_reducible assumption | with_reducible refine Below.drew ?_ | with_reducible refine Below_drewN ?_ _ | with_reducible refine Below.alloc ?_ ?_ _ | with_reducible refine Below.setCell ?_ ?_ _ | omega | (simp; done) | (simp; omega)))) (hb2.mono (by simp; omega))
  have hT2 : blockIs w2 w.heap.size 24 #[.int .i64 t.n, .slice la t.links.length lc] := ((hT1.alloc _).alloc _).under hb2
  have hF2 : blockIs w2 (w.heap.size + 1) 64 #[.int .i64 f.src, .int .i64 f.dst, .slice va f.via.length vc, .slice na f.no.length nc] := ((hF1.alloc _).alloc _).under hb2
  clear t1 t2 f1 f2 hb2 hT1 hF1
  obtain ⟨t1, t2⟩ := hT2.cells
  obtain ⟨f1, f2⟩ := hF2.cells
  have hy1 := hF2.lt
  have hy0 := hT2.lt
  by_cases h2 : (flowsWrong [f] t.n).1 = 0
  case neg =>
    have hfo : Hid (findOf t f = ([], (flowsWrong [f] t.n).1)) := by show _ = _; unfold findOf; rw [if_neg (by simp [h1]), if_pos h2]
    have h2' : ((flowsWrong [f] t.n).1 != 0) = true := by rw [bne_iff_ne]; exact h2
    clear h2
    go_wp2
    go_quiet (fail)
    go_wp2
    go_ret2
    rw [hfo.out]
    exact ⟨none, 0, rfl, rowRep.nil _ _ _ _, by (repeat' (first | with_reducible exact Below.refl _ _ | with_reducible assumption | with_reducible refine Below.drew ?_ | with_reducible refine Below_drewN ?_ _ | with_reducible refine Below.alloc ?_ ?_ _ | with_reducible refine Below.setCell ?_ ?_ _ | omega | (simp; done) | (simp; omega)))⟩
  have h2' : ((flowsWrong [f] t.n).1 != 0) = false := by rw [bne_eq_false_iff_eq]; exact h2
  have hfo : Hid (findOf t f = (match (onS t f 9 [f.src] 0 0 (none, 0)).1 with | none => ([], 9) | some p => (p, 0))) := by show _ = _; unfold findOf; rw [if_neg (by simp [h1]), if_neg (by simp [h2])]; rfl
  have hfl := flowBad_zero (flows1 ▸ h2)
  obtain ⟨⟨n1, n8, _⟩, _⟩ := topo_right h1
  have hcr := cost_range h1
  have hvl := flow_via_len hfl
  have hW3 : Below w.heap.size w (((w2.alloc (.cells #[.int .i64 0, .int .i64 (flowsWrong [f] t.n).2] 66)).alloc (.cells #[.int .i64 t.n, .slice la t.links.length lc, .pointer (some ⟨w.heap.size + 1, 0, none⟩), .slice none 0 0, .int .i64 0] 110)).alloc (.cells #[.int .i64 f.src] 3)) := by (repeat' (first | with_reducible exact Below.refl _ _ | with_reducible assumption | with_reducible refine Below.drew ?_ | with_reducible refine Below_drewN ?_ _ | with_reducible refine Below.alloc ?_ ?_ _ | with_reducible refine Below.setCell ?_ ?_ _ | omega | (simp; done) | (simp; omega)))
  have hF3 : blockIs (((w2.alloc (.cells #[.int .i64 0, .int .i64 (flowsWrong [f] t.n).2] 66)).alloc (.cells #[.int .i64 t.n, .slice la t.links.length lc, .pointer (some ⟨w.heap.size + 1, 0, none⟩), .slice none 0 0, .int .i64 0] 110)).alloc (.cells #[.int .i64 f.src] 3)) (w.heap.size + 1) 64 #[.int .i64 f.src, .int .i64 f.dst, .slice va f.via.length vc, .slice na f.no.length nc] := ((hF2.alloc _).alloc _).alloc _
  have hsz3 : (((w2.alloc (.cells #[.int .i64 0, .int .i64 (flowsWrong [f] t.n).2] 66)).alloc (.cells #[.int .i64 t.n, .slice la t.links.length lc, .pointer (some ⟨w.heap.size + 1, 0, none⟩), .slice none 0 0, .int .i64 0] 110)).alloc (.cells #[.int .i64 f.src] 3)).heap.size = w2.heap.size + 3 := by simp
  have hin : SrchIn (((w2.alloc (.cells #[.int .i64 0, .int .i64 (flowsWrong [f] t.n).2] 66)).alloc (.cells #[.int .i64 t.n, .slice la t.links.length lc, .pointer (some ⟨w.heap.size + 1, 0, none⟩), .slice none 0 0, .int .i64 0] 110)).alloc (.cells #[.int .i64 f.src] 3)) (w2.heap.size + 1) (w.heap.size + 1) 0 t f la va na lc vc nc :=
    ⟨hr.mono fun b hb _ => ⟨by omega, hW3.block b hb⟩, (hF3.cells).1 0, (hF3.cells).1 1, (hF3.cells).1 2, (hF3.cells).1 3, hv.mono fun b hb _ => ⟨by omega, hW3.block b hb⟩, hno.mono fun b hb _ => ⟨by omega, hW3.block b hb⟩, by omega, by omega, by omega⟩
  have hbest : Best 110 (((w2.alloc (.cells #[.int .i64 0, .int .i64 (flowsWrong [f] t.n).2] 66)).alloc (.cells #[.int .i64 t.n, .slice la t.links.length lc, .pointer (some ⟨w.heap.size + 1, 0, none⟩), .slice none 0 0, .int .i64 0] 110)).alloc (.cells #[.int .i64 f.src] 3)) (w2.heap.size + 1) (w.heap.size + 1) 0 t.n la t.links.length lc (none, 0) := ⟨none, 0, 0, (blockIs.new (by simp)).alloc _, rfl, rfl, rfl⟩
  have hps : rowRep intS (fun b => b ≠ w2.heap.size + 1) (((w2.alloc (.cells #[.int .i64 0, .int .i64 (flowsWrong [f] t.n).2] 66)).alloc (.cells #[.int .i64 t.n, .slice la t.links.length lc, .pointer (some ⟨w.heap.size + 1, 0, none⟩), .slice none 0 0, .int .i64 0] 110)).alloc (.cells #[.int .i64 f.src] 3)) (some ⟨w2.heap.size + 2, 0, none⟩) 1 [f.src] := by
    have := row_src (w := (w2.alloc (.cells #[.int .i64 0, .int .i64 (flowsWrong [f] t.n).2] 66)).alloc (.cells #[.int .i64 t.n, .slice la t.links.length lc, .pointer (some ⟨w.heap.size + 1, 0, none⟩), .slice none 0 0, .int .i64 0] 110)) (e := 3) hs (w2.heap.size + 1) (by simp)
    rwa [show ((w2.alloc (.cells #[.int .i64 0, .int .i64 (flowsWrong [f] t.n).2] 66)).alloc (.cells #[.int .i64 t.n, .slice la t.links.length lc, .pointer (some ⟨w.heap.size + 1, 0, none⟩), .slice none 0 0, .int .i64 0] 110)).heap.size = w2.heap.size + 2 by simp] at this
  have hO := on_c t f (w2.heap.size + 1) (w.heap.size + 1) 0 la va na lc vc nc n8 hcr (by omega) 9 [f.src] 0 0 (none, 0) _ _ 1 hin hbest hps (by simp) (by simp) (by intro s hs'; simp at hs'; subst hs'; exact ⟨hfl.s0, hfl.s1⟩) (by simp; omega) (by decide) (by simp) (by simp)
  simp only [List.length_cons, List.length_nil, Nat.zero_add] at hO
  have HO := Lib.hid hO
  clear hO hps hin hcr hvl hfl n1 n8 hv hno hr
  go_wp2_with fail
  refine HO.out.mono ?_
  rintro e w4 ⟨rfl, ho4, ba, bl, bc, hB4, hbi⟩
  have hB : Below w.heap.size w w4 := hW3.trans (ho4.below (by omega) (by omega))
  obtain ⟨z1, z2⟩ := hB4.cells
  clear HO hbest ho4 hW3 hF3 t1 t2 f1 f2
  generalize onS t f 9 [f.src] 0 0 (none, 0) = st at *
  obtain ⟨so, sc⟩ := st
  cases so with
  | none =>
    obtain ⟨rfl, rfl, rfl⟩ := hbi
    dsimp only at *
    go_wp2
    go_ret2
    rw [hfo.out]
    exact ⟨none, 0, rfl, rowRep.nil _ _ _ _, by (repeat' (first | with_reducible exact Below.refl _ _ | with_reducible assumption | with_reducible refine Below.drew ?_ | with_reducible refine Below_drewN ?_ _ | with_reducible refine Below.alloc ?_ ?_ _ | with_reducible refine Below.setCell ?_ ?_ _ | omega | (simp; done) | (simp; omega)))⟩
  | some p =>
    obtain ⟨hba, rfl, hbr⟩ := hbi
    obtain ⟨ba, rfl⟩ := Option.isSome_iff_exists.1 hba
    dsimp only at *
    go_wp2
    go_ret2
    rw [hfo.out]
    exact ⟨some ba, bc, rfl, hbr.mono (fun b hb hk => ⟨by have hk' : w2.heap.size + 1 < b := hk; omega, rfl⟩), by (repeat' (first | with_reducible exact Below.refl _ _ | with_reducible assumption | with_reducible refine Below.drew ?_ | with_reducible refine Below_drewN ?_ _ | with_reducible refine Below.alloc ?_ ?_ _ | with_reducible refine Below.setCell ?_ ?_ _ | omega | (simp; done) | (simp; omega)))⟩

theorem find_c (t : Topo) (f : Flow) (cs ds : List Value) (ok ok' : Nat → Prop) (w : World) (h : topoS.rep ok w cs t) (hf : flowS.rep ok' w ds f) :
    Calls Try.prog 38 #[.agg cs.toArray, .agg ds.toArray] w fun e w' => ∃ ao cap, e = .returned (.tuple #[.slice ao (findOf t f).1.length cap, .int .i64 (findOf t f).2]) ∧ rowRep intS (fun _ => True) w' ao cap (findOf t f).1 ∧ Below w.heap.size w w' :=
  (find_s t f cs ds ok ok' w h hf).mono fun e w' ⟨ao, cap, h1, h2, h3⟩ => ⟨ao, cap, h1, h2.mono (fun b _ _ => ⟨trivial, rfl⟩), h3⟩

end Go.Proofs.Ytagldmdeohenjaa

/-
  The closed fact that the laws of paths ask first: alive.
-/
set_option linter.unusedSimpArgs false
set_option linter.unusedVariables false
namespace Go.St
open Go.RowKit
def ringT : Topo := ⟨4, [⟨0, 1, 1⟩, ⟨1, 2, 1⟩, ⟨2, 3, 1⟩, ⟨3, 0, 5⟩]⟩
def ringF : Flow := ⟨0, 3, [], []⟩
def ringG : Flow := ⟨0, 3, [], [2]⟩
theorem ring_1 : findOf ringT ringF = ([0, 1, 2, 3], 0) := by decide +kernel
theorem ring_2 : findOf ringT ringG = ([0, 3], 0) := by decide +kernel
theorem flow_rep {ok : Nat → Prop} {w : World} {s d : Int} (hs : I64 s) (hd : I64 d) : flowS.rep ok w [.int .i64 s, .int .i64 d, .slice none 0 0, .slice none 0 0] ⟨s, d, [], []⟩ :=
  ⟨none, 0, none, 0, rfl, hs, hd, rowRep.nil _ _ _ _, rowRep.nil _ _ _ _⟩
theorem ring_rows {w : World} {b : Nat} (hb : b < w.heap.size) {ok : Nat → Prop} (hok : ok b) (hc : ∀ o, w.cell? ⟨b, o, none⟩ = (#[Value.int .i64 0, .int .i64 1, .int .i64 1, .int .i64 1, .int .i64 2, .int .i64 1, .int .i64 2, .int .i64 3, .int .i64 1, .int .i64 3, .int .i64 0, .int .i64 5] : Array Value)[o]?) :
    rowRep linkS ok w (some ⟨b, 0, none⟩) 4 ringT.links := by
  refine ⟨by decide, by decide, .inr ⟨b, 0, rfl, hok, hb, ?_⟩⟩
  have hI : ∀ n : Int, -10 ≤ n → n ≤ 10 → I64 n := fun n h1 h2 => I64.small (by omega) (by omega)
  intro i x hx
  match i, hx with
  | 0, hx => cases hx; exact ⟨_, ⟨rfl, hI _ (by decide) (by decide), hI _ (by decide) (by decide), hI _ (by decide) (by decide)⟩, fun j c hj => match j, hj with
    | 0, hj => (hc 0).trans hj
    | 1, hj => (hc 1).trans hj
    | 2, hj => (hc 2).trans hj
    | j + 3, hj => by simp at hj⟩
  | 1, hx => cases hx; exact ⟨_, ⟨rfl, hI _ (by decide) (by decide), hI _ (by decide) (by decide), hI _ (by decide) (by decide)⟩, fun j c hj => match j, hj with
    | 0, hj => (hc 3).trans hj
    | 1, hj => (hc 4).trans hj
    | 2, hj => (hc 5).trans hj
    | j + 3, hj => by simp at hj⟩
  | 2, hx => cases hx; exact ⟨_, ⟨rfl, hI _ (by decide) (by decide), hI _ (by decide) (by decide), hI _ (by decide) (by decide)⟩, fun j c hj => match j, hj with
    | 0, hj => (hc 6).trans hj
    | 1, hj => (hc 7).trans hj
    | 2, hj => (hc 8).trans hj
    | j + 3, hj => by simp at hj⟩
  | 3, hx => cases hx; exact ⟨_, ⟨rfl, hI _ (by decide) (by decide), hI _ (by decide) (by decide), hI _ (by decide) (by decide)⟩, fun j c hj => match j, hj with
    | 0, hj => (hc 9).trans hj
    | 1, hj => (hc 10).trans hj
    | 2, hj => (hc 11).trans hj
    | j + 3, hj => by simp at hj⟩
  | i + 4, hx => simp [ringT] at hx

end Go.St
namespace Go.Proofs.Ytagldmdeohenjaa
open Go.RowKit Go.St
end Go.Proofs.Ytagldmdeohenjaa

/-
  The plan of flows, plainly.
-/
set_option linter.unusedSimpArgs false
set_option linter.unusedVariables false
namespace Go.St

def noPlan : Plan := ⟨0, [], []⟩
def planGo (t : Topo) (v : Int) (all : List Flow) : Int → List (List Int) → List Flow → Plan × (Int × Int)
  | _, ps, [] => (⟨v, all, ps⟩, (0, 0))
  | i, ps, f :: r => if (findOf t f).2 = 0 then planGo t v all (i + 1) (ps ++ [(findOf t f).1]) r else (noPlan, ((findOf t f).2, i))
def planOf (t : Topo) (v : Int) (l : List Flow) : Plan × (Int × Int) :=
  if (topoWrong t).1 ≠ 0 then (noPlan, topoWrong t) else if v < 1 ∨ 1000 < v then (noPlan, (3, 0)) else if (flowsWrong l t.n).1 ≠ 0 then (noPlan, flowsWrong l t.n) else planGo t v l 0 [] l
theorem plan_go {t : Topo} {v : Int} {l : List Flow} {j : Nat} {ps : List (List Int)} {c : Plan × (Int × Int)} {f : Flow} (h : c = planGo t v l j ps (l.drop j)) (hf : l[j]? = some f) (h0 : (findOf t f).2 = 0) :
    c = planGo t v l ((j + 1 : Nat) : Int) (ps ++ [(findOf t f).1]) (l.drop (j + 1)) := by
  obtain ⟨hj, rfl⟩ := List.getElem?_eq_some_iff.1 hf
  rw [h, List.drop_eq_getElem_cons hj, planGo, if_pos h0]
  rfl
theorem plan_hit {t : Topo} {v : Int} {l : List Flow} {j : Nat} {ps : List (List Int)} {c : Plan × (Int × Int)} {f : Flow} (h : c = planGo t v l j ps (l.drop j)) (hf : l[j]? = some f) (h0 : (findOf t f).2 ≠ 0) : c = (noPlan, ((findOf t f).2, (j : Int))) := by
  obtain ⟨hj, rfl⟩ := List.getElem?_eq_some_iff.1 hf
  rw [h, List.drop_eq_getElem_cons hj, planGo, if_neg h0]
theorem plan_end {t : Topo} {v : Int} {l : List Flow} {j : Nat} {ps : List (List Int)} {c : Plan × (Int × Int)} (h : c = planGo t v l j ps (l.drop j)) (hj : l.length ≤ j) : c = (⟨v, l, ps⟩, (0, 0)) := by
  rw [h, List.drop_of_length_le hj]; rfl
end Go.St

/-
  The control of a net, plainly.
-/
set_option linter.unusedSimpArgs false
set_option linter.unusedVariables false
namespace Go.St
open Go.RowKit

def noCtl : Ctl := ⟨0, noPlan, noPlan, 0, []⟩
def up (n : Int) : Int := IntKind.i64.wrap (n + 1)
/-- one order more, with the next number -/
def tell (s : Ctl × List To) (x : To) : Ctl × List To :=
  (⟨s.1.stage, s.1.now, s.1.next, up s.1.num, s.1.waits ++ [up s.1.num]⟩, s.2 ++ [⟨x.sw, ⟨x.order.kind, up s.1.num, x.order.ver, x.order.rules, x.order.flows⟩⟩])
def tells (s : Ctl × List To) (l : List To) : Ctl × List To := l.foldl tell s
def send (c : Ctl) (l : List To) : Ctl × List To := tells (c, []) l
theorem tells_nil (s : Ctl × List To) : tells s [] = s := rfl
theorem tells_cons (s : Ctl × List To) (x : To) (l : List To) : tells s (x :: l) = tells (tell s x) l := rfl
theorem tells_snoc (s : Ctl × List To) (l : List To) (x : To) : tells s (l ++ [x]) = tell (tells s l) x := by simp [tells]
theorem tells_append (s : Ctl × List To) (l m : List To) : tells s (l ++ m) = tells (tells s l) m := by simp [tells]
theorem tells_acc (l : List To) : ∀ (c : Ctl) (out : List To), tells (c, out) l = ((send c l).1, out ++ (send c l).2) := by
  induction l with
  | nil => intro c out; simp [send, tells]
  | cons x l ih =>
    intro c out
    unfold send
    rw [tells_cons, tells_cons, tell, tell, ih, ih]
    simp
theorem send_take {c : Ctl} {l : List To} {i : Nat} {x : To} (h : l[i]? = some x) : send c (l.take (i + 1)) = tell (send c (l.take i)) x := by
  rw [List.take_add_one, h]; exact tells_snoc _ _ _
theorem send_len (c : Ctl) (l : List To) : (send c l).2.length = l.length ∧ (send c l).1.waits.length = c.waits.length + l.length := by
  induction l generalizing c with
  | nil => simp [send, tells]
  | cons x l ih =>
    unfold send
    rw [tells_cons, tell, tells_acc]
    have h := ih (tell (c, []) x).1
    simp only [tell] at h
    simp [h]; omega
theorem send_keeps (c : Ctl) (l : List To) : (send c l).1.stage = c.stage ∧ (send c l).1.now = c.now ∧ (send c l).1.next = c.next := by
  induction l generalizing c with
  | nil => simp [send, tells]
  | cons x l ih =>
    unfold send
    rw [tells_cons, tell, tells_acc]
    exact ih (tell (c, []) x).1
theorem up_i64 (n : Int) : I64 (up n) := by
  unfold up I64
  rw [IntKind.wrap_i64]; omega

theorem send_i64 (c : Ctl) (l : List To) (h : I64 c.num) : I64 (send c l).1.num := by
  induction l generalizing c with
  | nil => exact h
  | cons x l ih =>
    unfold send
    rw [tells_cons, tell, tells_acc]
    exact ih (tell (c, []) x).1 (up_i64 _)

/-- the flows that begin at a switch, by their numbers -/
def idxFrom (s : Int) : Int → List Flow → List Int
  | _, [] => []
  | i, f :: r => (if f.src = s then [i] else []) ++ idxFrom s (i + 1) r
def began (s : Int) (l : List Flow) : Bool := l.any fun f => f.src == s
def stampAt (c : Ctl) (s : Int) : List To := if idxFrom s 0 c.next.flows = [] ∧ began s c.now.flows = false then [] else [⟨s, ⟨2, 0, c.next.ver, [], idxFrom s 0 c.next.flows⟩⟩]
def addAt (p : Plan) (s : Int) : List To := if rulesAt p s = [] then [] else [⟨s, ⟨1, 0, p.ver, rulesAt p s, []⟩⟩]
def goneAt (p : Plan) (s : Int) : List To := if rulesAt p s = [] then [] else [⟨s, ⟨3, 0, p.ver, [], []⟩⟩]
/-- over the switches from the first on -/
def over (f : Int → List To) (n : Nat) : List To := (List.range n).flatMap fun s : Nat => f (s : Int)
theorem over_zero (f : Int → List To) : over f 0 = [] := rfl
theorem over_succ (f : Int → List To) (n : Nat) : over f (n + 1) = over f n ++ f n := by simp [over, List.range_succ]
theorem over_len {f : Int → List To} (h : ∀ s, (f s).length ≤ 1) (n : Nat) : (over f n).length ≤ n := by
  induction n with
  | zero => simp [over_zero]
  | succ n ih => rw [over_succ, List.length_append]; have := h n; omega
theorem stampAt_len (c : Ctl) (s : Int) : (stampAt c s).length ≤ 1 := by unfold stampAt; split <;> simp
theorem addAt_len (p : Plan) (s : Int) : (addAt p s).length ≤ 1 := by unfold addAt; split <;> simp
theorem goneAt_len (p : Plan) (s : Int) : (goneAt p s).length ≤ 1 := by unfold goneAt; split <;> simp
def stampsOf (c : Ctl) (t : Topo) : List To := over (stampAt c) t.n.toNat
def addsOf (p : Plan) (t : Topo) : List To := over (addAt p) t.n.toNat
def gonesOf (p : Plan) (t : Topo) : List To := over (goneAt p) t.n.toNat
def fullAt (now p : Plan) (s : Int) : Bool := decide (16 < (rulesAt now s).length + (rulesAt p s).length)
def fullTo (now p : Plan) (n : Nat) : Bool := (List.range n).any fun s : Nat => fullAt now p (s : Int)
theorem fullTo_succ (now p : Plan) (n : Nat) : fullTo now p (n + 1) = (fullTo now p n || fullAt now p n) := by simp [fullTo, List.range_succ]

/-- as far as nothing is waited for -/
def stepsOf (c : Ctl) (t : Topo) : Ctl × List To :=
  if c.waits ≠ [] then (c, [])
  else if c.stage = 1 then
    (if (send ⟨2, c.now, c.next, c.num, c.waits⟩ (stampsOf c t)).1.waits = [] then
      (⟨3, c.now, c.next, c.num, []⟩, []) else send ⟨2, c.now, c.next, c.num, c.waits⟩ (stampsOf c t))
  else if c.stage = 2 then (⟨3, c.now, c.next, c.num, c.waits⟩, [])
  else if c.stage = 4 then (⟨0, c.next, noPlan, c.num, c.waits⟩, [])
  else (c, [])
def ctlAsk (c : Ctl) (t : Topo) (l : List Flow) : Ctl × List To × Int :=
  if c.stage ≠ 0 then (noCtl, [], 11)
  else if (planOf t (up c.now.ver) l).2.1 ≠ 0 then (noCtl, [], (planOf t (up c.now.ver) l).2.1)
  else if fullTo c.now (planOf t (up c.now.ver) l).1 t.n.toNat = true then (noCtl, [], 10)
  else
    ((stepsOf (send ⟨1, c.now, (planOf t (up c.now.ver) l).1, c.num, c.waits⟩ (addsOf (planOf t (up c.now.ver) l).1 t)).1 t).1,
     (send ⟨1, c.now, (planOf t (up c.now.ver) l).1, c.num, c.waits⟩ (addsOf (planOf t (up c.now.ver) l).1 t)).2 ++
       (stepsOf (send ⟨1, c.now, (planOf t (up c.now.ver) l).1, c.num, c.waits⟩ (addsOf (planOf t (up c.now.ver) l).1 t)).1 t).2, 0)
def ctlBack (c : Ctl) (t : Topo) (n : Int) : Ctl × List To × Int :=
  if (topoWrong t).1 ≠ 0 then (noCtl, [], (topoWrong t).1)
  else match idxIn n c.waits with
    | none => (noCtl, [], 6)
    | some i => ((stepsOf ⟨c.stage, c.now, c.next, c.num, c.waits.eraseIdx i⟩ t).1, (stepsOf ⟨c.stage, c.now, c.next, c.num, c.waits.eraseIdx i⟩ t).2, 0)
def ctlDrop (c : Ctl) (t : Topo) : Ctl × List To × Int :=
  if (topoWrong t).1 ≠ 0 then (noCtl, [], (topoWrong t).1)
  else if c.stage ≠ 3 then (noCtl, [], 11)
  else
    ((stepsOf (send ⟨4, c.now, c.next, c.num, c.waits⟩ (gonesOf c.now t)).1 t).1,
     (send ⟨4, c.now, c.next, c.num, c.waits⟩ (gonesOf c.now t)).2 ++ (stepsOf (send ⟨4, c.now, c.next, c.num, c.waits⟩ (gonesOf c.now t)).1 t).2, 0)
end Go.St

/-
  A call's own area: what is kept of it; a control in its box.
-/
set_option linter.unusedSimpArgs false
set_option linter.unusedVariables false
namespace Go.St
open Go.RowKit

/-- what lies below B, and what lies in W, is as it was -/
structure Frm (W : Nat → Prop) (B : Nat) (w w' : World) : Prop where
  below : Below B w w'
  keep : ∀ b, b < w.heap.size → W b → w'.heap[b]? = w.heap[b]?
section
variable {W : Nat → Prop} {B : Nat} {w w' w'' : World}
theorem Frm.refl (W : Nat → Prop) (B : Nat) (w : World) : Frm W B w w := ⟨Below.refl _ _, fun _ _ _ => rfl⟩
theorem Frm.size (h : Frm W B w w') : w.heap.size ≤ w'.heap.size := h.below.size
theorem Frm.trans (h : Frm W B w w') (k : Frm W B w' w'') : Frm W B w w'' :=
  ⟨h.below.trans k.below, fun b hb hW => (k.keep b (Nat.lt_of_lt_of_le hb h.size) hW).trans (h.keep b hb hW)⟩
theorem Frm.of (h : Below w.heap.size w w') (hB : B ≤ w.heap.size) : Frm W B w w' := ⟨h.mono hB, fun b hb _ => h.block b hb⟩
theorem Frm.set {a : Addr} (ha : ¬ W a.block) (hB : B ≤ a.block) (v : Value) : Frm W B w (w.setCell a v) :=
  ⟨(Below.refl _ _).setCell hB v, fun b _ hW => Below.heap_setCell w a v b (fun e => ha (e ▸ hW))⟩
theorem Frm.grown {row : Option Nat} (hg : w.grownBy w' row) (hW : ∀ k, row = some k → ¬ W k ∧ B ≤ k) (hB : B ≤ w.heap.size) : Frm W B w w' :=
  ⟨(Below.refl _ _).grown hg hB (fun k hk => (hW k hk).2), fun b hb h => hg.block b hb (fun e => (hW b e.symm).1 h)⟩
theorem Frm.weak {V : Nat → Prop} {C : Nat} (h : Frm W B w w') (hV : ∀ b, b < w.heap.size → V b → W b ∨ b < B) (hC : C ≤ B) : Frm V C w w' :=
  ⟨h.below.mono hC, fun b hb hv => by
    rcases hV b hb hv with h1 | h1
    · exact h.keep b hb h1
    · exact h.below.block b h1⟩
theorem Frm.rep {α : Type} {S : Shape α} {cs : List Value} {a : α} (h : Frm W B w w') (hr : S.rep W w cs a) : S.rep W w' cs a := S.mono hr fun b hb hW => ⟨hW, h.keep b hb hW⟩
theorem Frm.row {α : Type} {S : Shape α} {ao : Option Addr} {c : Nat} {xs : List α} (h : Frm W B w w') (hr : rowRep S W w ao c xs) : rowRep S W w' ao c xs := hr.mono fun b hb hW => ⟨hW, h.keep b hb hW⟩
theorem Frm.blk {b : Nat} {t : TypeId} {cs : Array Value} (h : Frm W B w w') (hk : blockIs w b t cs) (hW : W b ∨ b < B) : blockIs w' b t cs :=
  hk.keep (by
    rcases hW with h1 | h1
    · exact h.keep b hk.lt h1
    · exact h.below.block b h1)
end

theorem rowRep.anyOk {α : Type} {S : Shape α} {ok ok' : Nat → Prop} {w : World} {ao : Option Addr} {c : Nat} {xs : List α} (h : rowRep S ok w ao c xs) (hk : ∀ b, b < w.heap.size → ok b → ok' b) : rowRep S ok' w ao c xs := h.mono fun b hb h1 => ⟨hk b hb h1, rfl⟩
theorem Shape.anyOk {α : Type} (S : Shape α) {ok ok' : Nat → Prop} {w : World} {cs : List Value} {a : α} (h : S.rep ok w cs a) (hk : ∀ b, b < w.heap.size → ok b → ok' b) : S.rep ok' w cs a := S.mono h fun b hb h1 => ⟨hk b hb h1, rfl⟩

/-- a plan's three cells -/
def planC (w : World) (ok : Nat → Prop) (n0 n1 n2 : Value) (p : Plan) : Prop := planS.rep ok w [n0, n1, n2] p
theorem planC.of {ok : Nat → Prop} {w : World} {cs : List Value} {p : Plan} (h : planS.rep ok w cs p) : ∃ n0 n1 n2, cs = [n0, n1, n2] ∧ planC w ok n0 n1 n2 p := by
  obtain ⟨fa, fc, pa, pc, rfl, h1, h2, h3⟩ := h
  exact ⟨_, _, _, rfl, fa, fc, pa, pc, rfl, h1, h2, h3⟩
theorem planC.one {ok : Nat → Prop} {w : World} {n0 n1 n2 : Value} {p : Plan} (h : planC w ok n0 n1 n2 p) : n0.oneCell' = true ∧ n1.oneCell' = true ∧ n2.oneCell' = true := by
  have := planS.one h
  exact ⟨this _ (by simp), this _ (by simp), this _ (by simp)⟩
theorem noPlanC (ok : Nat → Prop) (w : World) : planC w ok (.int .i64 0) (.slice none 0 0) (.slice none 0 0) noPlan := ⟨none, 0, none, 0, rfl, I64.small (by decide) (by decide), rowRep.nil _ _ _ _, rowRep.nil _ _ _ _⟩
theorem ctlS.open_ {ok : Nat → Prop} {w : World} {cs : List Value} {c : Ctl} (h : ctlS.rep ok w cs c) : ∃ n0 n1 n2 x0 x1 x2 wa wc, cs = [.int .i64 c.stage, n0, n1, n2, x0, x1, x2, .int .i64 c.num, .slice wa c.waits.length wc] ∧
    I64 c.stage ∧ I64 c.num ∧ planC w ok n0 n1 n2 c.now ∧ planC w ok x0 x1 x2 c.next ∧ rowRep intS ok w wa wc c.waits := by
  obtain ⟨ns, xs, wa, wc, rfl, h1, h2, h3, h4, h5⟩ := h
  obtain ⟨n0, n1, n2, rfl, h3⟩ := planC.of h3
  obtain ⟨x0, x1, x2, rfl, h4⟩ := planC.of h4
  exact ⟨n0, n1, n2, x0, x1, x2, wa, wc, rfl, h1, h2, h3, h4, h5⟩
theorem ctlS.mk_ {ok : Nat → Prop} {w : World} {n0 n1 n2 x0 x1 x2 : Value} {wa : Option Addr} {wc : Nat} {c : Ctl} (h1 : I64 c.stage) (h2 : I64 c.num) (h3 : planC w ok n0 n1 n2 c.now) (h4 : planC w ok x0 x1 x2 c.next) (h5 : rowRep intS ok w wa wc c.waits) :
    ctlS.rep ok w [.int .i64 c.stage, n0, n1, n2, x0, x1, x2, .int .i64 c.num, .slice wa c.waits.length wc] c := ⟨_, _, wa, wc, rfl, h1, h2, h3, h4, h5⟩

/-- an opaque value is stored like any other -/
theorem run_one {P : Program} {v : Value} (h : v.oneCell' = true) : ∀ (w : World) (a : Addr) (m : Mode), (store a v m).run P w = stored P w a v m := fun w a m => run_store P w a v m h
theorem planC.st {P : Program} {ok : Nat → Prop} {w : World} {n0 n1 n2 : Value} {p : Plan} (h : planC w ok n0 n1 n2 p) :
    (∀ (w : World) (a : Addr) (m : Mode), (store a n0 m).run P w = stored P w a n0 m) ∧ (∀ (w : World) (a : Addr) (m : Mode), (store a n1 m).run P w = stored P w a n1 m) ∧ (∀ (w : World) (a : Addr) (m : Mode), (store a n2 m).run P w = stored P w a n2 m) :=
  ⟨run_one h.one.1, run_one h.one.2.1, run_one h.one.2.2⟩
/-- what is kept of a datum that lies in what is kept -/
theorem Frm.rep' {α : Type} {S : Shape α} {W ok : Nat → Prop} {B : Nat} {w w' : World} {cs : List Value} {a : α} (h : Frm W B w w') (hr : S.rep ok w cs a) (hk : ∀ b, ok b → W b ∨ b < B) : S.rep ok w' cs a := S.mono hr fun b hb ho => ⟨ho, by
  rcases hk b ho with h1 | h1
  · exact h.keep b hb h1
  · exact h.below.block b h1⟩
theorem Frm.row' {α : Type} {S : Shape α} {W ok : Nat → Prop} {B : Nat} {w w' : World} {ao : Option Addr} {c : Nat} {xs : List α} (h : Frm W B w w') (hr : rowRep S ok w ao c xs) (hk : ∀ b, ok b → W b ∨ b < B) : rowRep S ok w' ao c xs := hr.mono fun b hb ho => ⟨ho, by
  rcases hk b ho with h1 | h1
  · exact h.keep b hb h1
  · exact h.below.block b h1⟩
def setsAt (w : World) (b : Nat) : Nat → List Value → World
  | _, [] => w
  | i, v :: r => setsAt (w.setCell ⟨b, i, none⟩ v) b (i + 1) r
def putsAt (cs : List Value) : Nat → List Value → List Value
  | _, [] => cs
  | i, v :: r => putsAt (cs.set i v) (i + 1) r
theorem sets_ok {b : Nat} {t : TypeId} {W : Nat → Prop} {B : Nat} (hW : ¬ W b) (hB : B ≤ b) : ∀ (l : List Value) (i : Nat) (w : World) (cs : List Value), blockIs w b t cs.toArray → blockIs (setsAt w b i l) b t (putsAt cs i l).toArray ∧ Frm W B w (setsAt w b i l)
  | [], i, w, cs, h => ⟨h, Frm.refl _ _ _⟩
  | v :: r, i, w, cs, h => by
    have h1 := h.set i v
    rw [List.setIfInBounds_toArray] at h1
    have h2 := sets_ok hW hB r (i + 1) _ _ h1
    exact ⟨h2.1, (Frm.set (a := ⟨b, i, none⟩) hW hB v).trans h2.2⟩
/-- a control's nine cells are turned -/
theorem set9 {w : World} {b : Nat} {t : TypeId} {z0 z1 z2 z3 z4 z5 z6 z7 z8 : Value} (h : blockIs w b t #[z0, z1, z2, z3, z4, z5, z6, z7, z8]) (W : Nat → Prop) (B : Nat) (hW : ¬ W b) (hB : B ≤ b) (a0 a1 a2 a3 a4 a5 a6 a7 a8 : Value) :
    blockIs (((((((((w.setCell ⟨b, 0, none⟩ a0).setCell ⟨b, 1, none⟩ a1).setCell ⟨b, 2, none⟩ a2).setCell ⟨b, 3, none⟩ a3).setCell ⟨b, 4, none⟩ a4).setCell ⟨b, 5, none⟩ a5).setCell ⟨b, 6, none⟩ a6).setCell ⟨b, 7, none⟩ a7).setCell ⟨b, 8, none⟩ a8) b t #[a0, a1, a2, a3, a4, a5, a6, a7, a8] ∧ Frm W B w (((((((((w.setCell ⟨b, 0, none⟩ a0).setCell ⟨b, 1, none⟩ a1).setCell ⟨b, 2, none⟩ a2).setCell ⟨b, 3, none⟩ a3).setCell ⟨b, 4, none⟩ a4).setCell ⟨b, 5, none⟩ a5).setCell ⟨b, 6, none⟩ a6).setCell ⟨b, 7, none⟩ a7).setCell ⟨b, 8, none⟩ a8) :=
  sets_ok hW hB [a0, a1, a2, a3, a4, a5, a6, a7, a8] 0 w [z0, z1, z2, z3, z4, z5, z6, z7, z8] h
/-- the first seven of them -/
theorem set7 {w : World} {b : Nat} {t : TypeId} {z0 z1 z2 z3 z4 z5 z6 z7 z8 : Value} (h : blockIs w b t #[z0, z1, z2, z3, z4, z5, z6, z7, z8]) (W : Nat → Prop) (B : Nat) (hW : ¬ W b) (hB : B ≤ b) (a0 a1 a2 a3 a4 a5 a6 : Value) :
    blockIs (((((((w.setCell ⟨b, 0, none⟩ a0).setCell ⟨b, 1, none⟩ a1).setCell ⟨b, 2, none⟩ a2).setCell ⟨b, 3, none⟩ a3).setCell ⟨b, 4, none⟩ a4).setCell ⟨b, 5, none⟩ a5).setCell ⟨b, 6, none⟩ a6) b t #[a0, a1, a2, a3, a4, a5, a6, z7, z8] ∧ Frm W B w (((((((w.setCell ⟨b, 0, none⟩ a0).setCell ⟨b, 1, none⟩ a1).setCell ⟨b, 2, none⟩ a2).setCell ⟨b, 3, none⟩ a3).setCell ⟨b, 4, none⟩ a4).setCell ⟨b, 5, none⟩ a5).setCell ⟨b, 6, none⟩ a6) :=
  sets_ok hW hB [a0, a1, a2, a3, a4, a5, a6] 0 w [z0, z1, z2, z3, z4, z5, z6, z7, z8] h
/-- a plan's three cells, from a place on, are turned -/
theorem set3 {w : World} {b : Nat} {t : TypeId} {cs : List Value} (h : blockIs w b t cs.toArray) (o : Nat) (W : Nat → Prop) (B : Nat) (hW : ¬ W b) (hB : B ≤ b) (a0 a1 a2 : Value) :
    blockIs (((w.setCell ⟨b, o, none⟩ a0).setCell ⟨b, o + 1, none⟩ a1).setCell ⟨b, o + 2, none⟩ a2) b t (((cs.set o a0).set (o + 1) a1).set (o + 2) a2).toArray ∧ Frm W B w (((w.setCell ⟨b, o, none⟩ a0).setCell ⟨b, o + 1, none⟩ a1).setCell ⟨b, o + 2, none⟩ a2) :=
  sets_ok hW hB [a0, a1, a2] o w cs h
end Go.St

/-
  A row of the call's own, of which one cell is turned in place.
-/
set_option linter.unusedSimpArgs false
set_option linter.unusedVariables false
namespace Go.St
open Go.RowKit

theorem chunk_at {size : Nat} {l : List Value} {k j : Nat} (h : j < size) : (chunk size l k)[j]? = l[k * size + j]? := by
  unfold chunk
  rw [List.getElem?_take, if_pos h, List.getElem?_drop]
theorem chunk_out {size : Nat} {l : List Value} {k j : Nat} (h : ¬ j < size) : (chunk size l k)[j]? = none := by
  unfold chunk
  rw [List.getElem?_take, if_neg h]
theorem place_ne {size i k o j : Nat} (hik : i ≠ k) (ho : o < size) (hj : j < size) : i * size + o ≠ k * size + j := by
  intro e
  rcases Nat.lt_or_gt_of_ne hik with h | h
  · have := Nat.mul_le_mul_right size h
    rw [Nat.succ_mul] at this
    omega
  · have := Nat.mul_le_mul_right size h
    rw [Nat.succ_mul] at this
    omega
theorem chunk_set {size : Nat} {l : List Value} {i o : Nat} (ho : o < size) (v : Value) (k : Nat) : chunk size (l.set (i * size + o) v) k = if k = i then (chunk size l i).set o v else chunk size l k := by
  apply List.ext_getElem?
  intro j
  by_cases hj : j < size
  case neg =>
    rw [chunk_out hj]
    split
    · rw [List.getElem?_set]
      split
      · subst_vars; exact absurd ho hj
      · rw [chunk_out hj]
    · rw [chunk_out hj]
  rw [chunk_at hj, List.getElem?_set]
  split
  case isTrue h1 =>
    by_cases hk : k = i
    · subst hk
      have : o = j := by omega
      subst this
      have hlen : (k * size + o < l.length) = (o < (chunk size l k).length) := by
        apply propext
        unfold chunk
        rw [List.length_take, List.length_drop]
        omega
      simp only [if_true, List.getElem?_set]
      simp only [hlen]
    · exact absurd h1 (place_ne (Ne.symm hk) ho hj)
  case isFalse h1 =>
    by_cases hk : k = i
    · subst hk
      have : o ≠ j := fun e => h1 (by rw [e])
      rw [if_pos rfl, List.getElem?_set, if_neg this, chunk_at hj]
    · rw [if_neg hk, chunk_at hj]

section
variable {α : Type} {sh : Shape α} {e : TypeId} {ok : Nat → Prop} {base : Nat} {w : World} {ao : Option Addr} {n cap : Nat} {xs : List α}
theorem ownR.at (h : ownR sh e ok base w ao n cap xs) {i : Nat} {x : α} (hx : xs[i]? = some x) : ∃ g cs, ao = some ⟨g, 0, none⟩ ∧ base ≤ g ∧ g < w.heap.size ∧ ¬ ok g ∧ sh.rep ok w cs x ∧
    (∀ j c, cs[j]? = some c → w.cell? ⟨g, i * sh.size + j, none⟩ = some c) ∧ (∀ o, w.frozen? ⟨g, o, none⟩ = false) ∧ ∃ cur, w.heap[g]? = some (.cells cur e (0, 0)) := by
  obtain ⟨cells, h1, rfl, h3, h4, h5⟩ := h
  have h1' := h1
  obtain ⟨hc, hle, hm, ⟨rfl, h0⟩ | ⟨g, cur, rfl, hb, hg, hs, ht⟩⟩ := h1
  · have := (List.getElem?_eq_some_iff.1 hx).1
    omega
  · refine ⟨g, _, rfl, hb, (h1'.lt g rfl).2, h4 g rfl, h3 i x hx, fun j c hj => h1'.cell rfl _ _ (chunk_get hj), fun o => ?_, cur, hg⟩
    simp [World.frozen?, hg]

/-- one cell of an element is turned -/
theorem ownR.put1 {g : Nat} (h : ownR sh e ok base w (some ⟨g, 0, none⟩) n cap xs) {i o : Nat} {x y : α} (hx : xs[i]? = some x) (ho : o < sh.size) (v : Value)
    (hy : ∀ cs, sh.rep ok w cs x → sh.rep ok w (cs.set o v) y) : ownR sh e ok base (w.setCell ⟨g, i * sh.size + o, none⟩ v) (some ⟨g, 0, none⟩) n cap (xs.set i y) := by
  have hg0 := (h.lt g rfl).2
  obtain ⟨cells, ⟨hc, hle, hm, h6⟩, rfl, h3, h4, h5⟩ := h
  have hng := h4 g rfl
  rcases h6 with ⟨h6, _⟩ | ⟨g', cur, hg', hb, hg, hs, ht⟩
  · cases h6
  obtain rfl : g = g' := by simpa using hg'
  have hi := (List.getElem?_eq_some_iff.1 hx).1
  have hp : i * sh.size + o < xs.length * sh.size := by
    have := Nat.mul_le_mul_right sh.size hi
    rw [Nat.succ_mul] at this
    omega
  have hmono : ∀ {cs : List Value} {a : α}, sh.rep ok w cs a → sh.rep ok (w.setCell ⟨g, i * sh.size + o, none⟩ v) cs a := fun h => sh.mono h fun b _ hb => ⟨hb, Below.heap_setCell _ _ _ _ (fun e => hng (by have e1 : b = g := e; rw [← e1]; exact hb))⟩
  refine ⟨cells.set (i * sh.size + o) v, ⟨by rw [List.length_set]; exact hc, hle, hm, .inr ⟨g, cur.setIfInBounds (i * sh.size + o) v, rfl, hb, ?_, by simpa using hs, ?_⟩⟩, by simp, ?_, h4, fun b hb => by simpa using h5 b hb⟩
  · have : w.heap[g]? = some (.cells cur e (0, 0)) := hg
    simp [World.setCell, Array.getElem?_modify, this]
  · rw [Array.toList_setIfInBounds, List.take_set, ht]
  · intro k z hz
    rw [chunk_set ho]
    rw [List.getElem?_set] at hz
    by_cases hk : k = i
    · subst hk
      rw [if_pos rfl]
      rw [if_pos rfl, if_pos hi] at hz
      obtain rfl : y = z := by simpa using hz
      exact hmono (hy _ (h3 k x hx))
    · rw [if_neg hk]
      rw [if_neg (Ne.symm hk)] at hz
      exact hmono (h3 k z hz)
theorem ownR.frm {W : Nat → Prop} {B : Nat} {w' : World} (h : ownR sh e ok base w ao n cap xs) (hF : Frm W B w w') (hk : ∀ b, ok b → W b) (hb : ∀ k, blk ao = some k → W k) : ownR sh e ok base w' ao n cap xs := by
  have h5 : ∀ b, ok b → b < w.heap.size := by obtain ⟨_, _, _, _, _, h5⟩ := h; exact h5
  refine h.keep hF.size fun k hk' => ?_
  rcases hk' with hk' | hk'
  · exact hF.keep k (h.lt k hk').2 (hb k hk')
  · exact hF.keep k (h5 k hk') (hk k hk')
theorem ownR.not (h : ownR sh e ok base w ao n cap xs) : ∀ k, blk ao = some k → ¬ ok k := by obtain ⟨_, _, _, _, h4, _⟩ := h; exact h4
theorem ownR.okLt (h : ownR sh e ok base w ao n cap xs) : ∀ b, ok b → b < w.heap.size := by obtain ⟨_, _, _, _, _, h5⟩ := h; exact h5
theorem ownR.setAt (h : ownR sh e ok base w ao n cap xs) {a : Addr} (hne : blk ao ≠ some a.block) (hok : ¬ ok a.block) (v : Value) : ownR sh e ok base (w.setCell a v) ao n cap xs :=
  h.keep (by simp) fun k hk => Below.heap_setCell _ _ _ _ (by
    rintro rfl
    rcases hk with hk | hk
    · exact hne hk
    · exact hok hk)
theorem ownR.noType (h : ownR sh e ok base w ao n cap xs) {g : Nat} {cur : Array Value} {e' : TypeId} {fr : Nat × Nat} (hg : w.heap[g]? = some (.cells cur e' fr)) (hne : e ≠ e') : blk ao ≠ some g := by
  obtain ⟨cells, ⟨_, _, _, ⟨rfl, _⟩ | ⟨g', cur', rfl, _, hg', _⟩⟩, _⟩ := h
  · simp [blk]
  · intro hk
    obtain rfl : g' = g := by simpa [blk] using hk
    rw [hg'] at hg
    simp at hg
    exact hne hg.2.1
theorem ownR.oldGrown (h : ownR sh e ok base w ao n cap xs) {w' : World} {row : Option Nat} (hg : w.grownBy w' row) (h1 : ∀ k, row = some k → blk ao ≠ some k ∧ ¬ ok k) : ownR sh e ok base w' ao n cap xs :=
  h.keep hg.size fun k hk => hg.block k (by
    rcases hk with hk | hk
    · exact (h.lt k hk).2
    · exact h.okLt k hk) (fun e => by
      have h2 := h1 k e.symm
      rcases hk with hk | hk
      · exact h2.1 hk
      · exact h2.2 hk)
end

theorem ownR.apart {α β : Type} {sh : Shape α} {sh' : Shape β} {e e' : TypeId} {ok ok' : Nat → Prop} {base base' : Nat} {w : World} {ao bo : Option Addr} {n cap m cap' : Nat} {xs : List α} {ys : List β} (h : ownR sh e ok base w ao n cap xs) (k : ownR sh' e' ok' base' w bo m cap' ys) (hne : e ≠ e') : ∀ g, blk ao = some g → blk bo ≠ some g := by
  intro g hg
  obtain ⟨cells, ⟨_, _, _, ⟨rfl, _⟩ | ⟨g', cur', rfl, _, hg', _⟩⟩, _⟩ := h
  · simp [blk] at hg
  · obtain rfl : g' = g := by simpa [blk] using hg
    exact k.noType hg' (Ne.symm hne)

/-- an order's number -/
def toNum (x : To) (n : Int) : To := ⟨x.sw, ⟨x.order.kind, n, x.order.ver, x.order.rules, x.order.flows⟩⟩
theorem toS.num {ok : Nat → Prop} {w : World} {cs : List Value} {x : To} (h : toS.rep ok w cs x) {n : Int} (hn : I64 n) : toS.rep ok w (cs.set 2 (.int .i64 n)) (toNum x n) := by
  obtain ⟨ds, rfl, h1, oa, oc, fa, fc, rfl, h2, h3, h4, h5, h6⟩ := h
  exact ⟨_, rfl, h1, oa, oc, fa, fc, rfl, h2, hn, h4, h5, h6⟩
end Go.St

/-
  The walk of slices.Delete of one number, at a row of the call's own.
-/
set_option linter.unusedSimpArgs false
set_option linter.unusedVariables false
namespace Go.St
open Go.RowKit
section
variable {α : Type} {sh : Shape α} {e : TypeId} {ok : Nat → Prop} {base : Nat} {w : World} {ao : Option Addr} {n cap : Nat} {xs : List α}
theorem ownR.first (h : ownR sh e ok base w ao n cap xs) {i : Nat} (hi : i ≤ n) : ownR sh e ok base w ao i cap (xs.take i) := by
  obtain ⟨cells, ⟨hc, hle, hm, h6⟩, rfl, h3, h4, h5⟩ := h
  have hm2 : i * sh.size ≤ xs.length * sh.size := Nat.mul_le_mul_right _ hi
  refine ⟨cells.take (i * sh.size), ⟨by rw [List.length_take]; omega, by omega, hm, h6.imp id ?_⟩, by rw [List.length_take]; omega, ?_, h4, h5⟩
  · rintro ⟨g, cur, e1, e2, e3, e4, e5⟩
    refine ⟨g, cur, e1, e2, e3, e4, ?_⟩
    rw [← e5, List.take_take, Nat.min_eq_left hm2]
  · intro k x hx
    rw [List.getElem?_take] at hx
    split at hx
    case isFalse => cases hx
    case isTrue hk =>
      have hq : chunk sh.size (cells.take (i * sh.size)) k = chunk sh.size cells k := by
        have := Nat.mul_le_mul_right sh.size hk
        rw [Nat.succ_mul] at this
        unfold chunk
        rw [List.drop_take, List.take_take, Nat.min_eq_left (by omega)]
      rw [hq]
      exact h3 k x hx
/-- a cell behind the elements is turned -/
theorem ownR.beyond {g : Nat} (h : ownR sh e ok base w (some ⟨g, 0, none⟩) n cap xs) {j : Nat} (hj : n * sh.size ≤ j) (v : Value) : ownR sh e ok base (w.setCell ⟨g, j, none⟩ v) (some ⟨g, 0, none⟩) n cap xs := by
  have hng := h.not g rfl
  obtain ⟨cells, ⟨hc, hle, hm, h6⟩, rfl, h3, h4, h5⟩ := h
  rcases h6 with ⟨h6, _⟩ | ⟨g', cur, hg', hb, hg, hs, ht⟩
  · cases h6
  obtain rfl : g = g' := by simpa using hg'
  refine ⟨cells, ⟨hc, hle, hm, .inr ⟨g, cur.setIfInBounds j v, rfl, hb, ?_, by simpa using hs, ?_⟩⟩, rfl, fun k x hx => sh.mono (h3 k x hx) fun b _ hb => ⟨hb, Below.heap_setCell _ _ _ _ (fun e1 => hng (by have e2 : b = g := e1; rw [← e2]; exact hb))⟩, h4, fun b hb => by simpa using h5 b hb⟩
  · have : w.heap[g]? = some (.cells cur e (0, 0)) := hg
    simp [World.setCell, Array.getElem?_modify, this]
  · rw [Array.toList_setIfInBounds, List.take_set_of_le hj, ht]
theorem ownR.cellAny {g : Nat} (h : ownR sh e ok base w (some ⟨g, 0, none⟩) n cap xs) {j : Nat} (hj : j < cap * sh.size) : (∃ v, w.cell? ⟨g, j, none⟩ = some v) ∧ w.frozen? ⟨g, j, none⟩ = false := by
  obtain ⟨cells, ⟨hc, hle, hm, h6⟩, rfl, h3, h4, h5⟩ := h
  rcases h6 with ⟨h6, _⟩ | ⟨g', cur, hg', hb, hg, hs, ht⟩
  · cases h6
  obtain rfl : g = g' := by simpa using hg'
  have hlt : j < cur.size := by rw [hs]; exact hj
  refine ⟨⟨cur[j], ?_⟩, ?_⟩
  · simp [World.cell?, hg, hlt]
  · simp [World.frozen?, hg]
theorem ownR.behind {g : Nat} (h : ownR sh e ok base w (some ⟨g, 0, none⟩) n cap xs) (k : Nat) (hk : k ≤ n) : srcRep sh ok w (some ⟨g, k * sh.size, none⟩) (xs.drop k) := by
  obtain ⟨cells, h1, rfl, h3, h4, h5⟩ := h
  refine .inr ⟨g, k * sh.size, rfl, fun i x hx => ?_⟩
  rw [List.getElem?_drop] at hx
  refine ⟨_, h3 _ x hx, fun j c hj => ?_⟩
  have := h1.cell rfl _ _ (chunk_get hj)
  rwa [show k * sh.size + i * sh.size + j = (k + i) * sh.size + j by rw [Nat.add_mul]]
end
section
variable {P : Program} {w : World}
/-- appended where there is room, as an operation of the walk -/
theorem wp_appRoom {α : Type} {sh : Shape α} {o : Oper} {a : Act} {K : Act → World → Prop} {Q : Exit → Act → World → Prop} (s x : Operand) (t : TypeId)
    (ho : o.op = .call { callee := .builtin .append, args := #[s, x], argTypes := #[t, t] })
    (e : TypeId) (i : TypeInfo) (ht : P.underlying t = some (.slice e)) (hi : P.info? e = some i)
    (hsize : i.size = sh.size) (hsz : 0 < sh.size) {ok : Nat → Prop} {base : Nat}
    {ao : Option Addr} {n cap : Nat} {xs : List α} (hs : a.eval s = .slice ao n cap) (hown : ownR sh e ok base w ao n cap xs)
    {ax : Option Addr} {m c : Nat} {ys : List α} (hx : a.eval x = .slice ax m c) (hm : ys.length = m) (hsrc : srcRep sh ok w ax ys) (hroom : n + m ≤ cap)
    (h : ∀ w', ownR sh e ok base w' ao (n + m) cap (xs ++ ys) → w.grownBy w' (blk ao) → K (a.put o.dst (.slice ao (n + m) cap)) w') : o.wp P a w K Q := by
  obtain ⟨w', hr, h2, h3⟩ := run_appRoomR (P := P) t o.type e i ht hi hsize hsz hown (c := c) hm hsrc hroom
  unfold Oper.wp execOp
  simp only [ho, resolve, invoke, builtin, Sem.run_bind, Sem.run_pure, Result.andThen_ok, List.map_toArray, List.map_cons, List.map_nil, hs, hx, hr]
  exact h w' h2 h3
theorem run_clear_one {t e ty : TypeId} {i : TypeInfo} {g k c : Nat} {v : Value} (ht : P.underlying t = some (.slice e)) (hi : P.info? e = some i) (hz : i.zero = some (.int .i64 0)) (hc : w.cell? ⟨g, k, none⟩ = some v) (hf : w.frozen? ⟨g, k, none⟩ = false) :
    (Builtin.clear_ #[t] ty #[.slice (some ⟨g, k, none⟩) 1 c]).run P w = .ok (.tuple #[]) (w.setCell ⟨g, k, none⟩ (.int .i64 0)) := by
  simp [Builtin.clear_, run_underlying ht, zeroValue, typeInfo, hi, hz, Builtin.zeroCells, storeCells, go_sem, hc, hf, Value.cells]
end
/-- a row is no string's -/
def SG (g : Nat) (w : World) : Prop := w.frozen? ⟨g, 0, none⟩ = false
end Go.St
namespace Go.Proofs.Ytagldmdeohenjaa
open Go.RowKit Go.St

set_option maxRecDepth 100000 in
set_option maxHeartbeats 16000000 in
theorem delete1_c (W : Nat → Prop) (B : Nat) (ws : List Int) (i : Nat) (wa : Option Addr) (wc n : Nat) (w : World) (h : ownR intS 3 W B w wa n wc ws) (hB : B ≤ w.heap.size) (hi : i < n) (hn : n ≤ 10000000000) :
    Calls Try.prog 28 #[.slice wa n wc, .int .i64 i, .int .i64 ((i : Int) + 1)] w fun e w' => e = .returned (.slice wa (n - 1) wc) ∧ ownR intS 3 W B w' wa (n - 1) wc (ws.eraseIdx i) ∧ Frm (fun b => blk wa ≠ some b) B w w' := by
  obtain ⟨x, hx⟩ : ∃ x, ws[i]? = some x := ⟨_, List.getElem?_eq_getElem (by have := h.len_eq; omega)⟩
  obtain ⟨g, cs, rfl, hgB, hgl, hgW, hdr, hdc, hdf, cur, hdh⟩ := h.at hx
  have hlen := h.len_eq
  have hcap : n ≤ wc ∧ wc ≤ maxLen := by obtain ⟨_, ⟨_, h1, h2, _⟩, _⟩ := h; exact ⟨h1, h2⟩
  simp only [maxLen] at hcap
  obtain ⟨i0, hi0, hz0, hz1, hz2⟩ := info_parts info_int
  have hxd : ws.eraseIdx i = ws.take i ++ ws.drop (i + 1) := List.eraseIdx_eq_take_drop_succ ws i
  have hfirst := h.first (Nat.le_of_lt hi)
  have hbeh := h.behind (i + 1) hi
  have hdl : (ws.drop (i + 1)).length = n - (i + 1) := by rw [List.length_drop]; omega
  have HDL := Lib.hid hdl
  have HXD := Lib.hid hxd
  have hmx : Hid (i + (n - (i + 1)) = n - 1) := by show _ = _; omega
  clear hx hdr hdc hxd hdl hlen
  have b0 : (0 : Int) ≤ (i : Int) := by omega
  have b1 : (i : Int) ≤ (i : Int) + 1 := by omega
  have b2 : (i : Int) + 1 ≤ (n : Int) := by omega
  have b3 : (n : Int) ≤ (wc : Int) := by omega
  have b4 : ((i : Int) == (i : Int) + 1) = false := by rw [beq_eq_false_iff_ne]; omega
  have b5 : (i : Int) ≤ (wc : Int) := by omega
  have b6 : ((i : Int) + 1).toNat = i + 1 := by omega
  have b7 : (0 : Int) ≤ (i : Int) + 1 := by omega
  by_cases hcw : wc = i + 1
  case' pos =>
    obtain rfl : n = i + 1 := by omega
    subst hcw
    have hd0 : ws.drop (i + 1) = [] := List.eq_nil_of_length_eq_zero (by rw [HDL.out]; omega)
    have b8 : ((i : Int) + 1 - ((i : Int) + 1)).toNat = 0 := by omega
    have HXE : Hid (ws.eraseIdx i = ws.take i ++ []) := by show _ = _; rw [HXD.out, hd0]
    have hsrc : srcRep intS W w (some ⟨g, (i + 1) * intS.size, none⟩) [] := .inl rfl
    have hml : ([] : List Int).length = 0 := rfl
    clear hd0 hbeh
  case' neg =>
    have b8 : ¬ wc = i + 1 := hcw
    have HXE := HXD
    have hsrc := hbeh
    have hml := HDL.out
    clear hbeh hcw
  · have HML := Lib.hid hml
    clear hml
    go_enter Try.func28, Try.ntmps28
    go_wp2
    have hS0 : SG g w.drew := hdf 0
    refine wp_region_to (SG g) 99 (fun a0 a' w' => ∃ v20 v21 v22 v23 v24 v25, a' = puts a0 [(20, v20), (21, v21), (22, v22), (23, v23), (24, v24), (25, v25), (0, .slice (some ⟨g, 0, none⟩) (i + (n - (i + 1))) wc), (26, .slice (some ⟨g, 0, none⟩) (i + (n - (i + 1))) wc)] ∧ ownR intS 3 W B w' (some ⟨g, 0, none⟩) (i + (n - (i + 1))) wc (ws.take i ++ (ws.drop (i + 1))) ∧ Frm (fun b => blk (some ⟨g, 0, none⟩) ≠ some b) B w w') (by kernel_rfl) ?_ ?_
    · intro Q' hR hQp
      have hb0 : Below w.heap.size w w.drew := by (repeat' (first | with_reducible exact Below.refl _ _ | with_reducible assumption | with_reducible refine Below.drew ?_ | with_reducible refine Below_drewN ?_ _ | with_reducible refine Below.alloc ?_ ?_ _ | with_reducible refine Below.setCell ?_ ?_ _ | omega | (simp; done) | (simp; omega)))
      have hS : SG g w.drew := hS0
      generalize w.drew = wa at *
      have hFa := hfirst.below hb0
      have hSr : srcRep intS W wa (some ⟨g, i + 1, none⟩) (ws.drop (i + 1)) := (by have h9 := (h.below hb0).behind (i + 1) hi; rw [show (i + 1) * intS.size = i + 1 from Nat.mul_one _] at h9; exact h9)
      refine wpAnyK_take' (i := 0) _ rfl (by kernel_rfl) (fun _ _ _ h => hQp _ _ _ _ h) hS (yields_value (by kernel_rfl) (by intro w0 hw0; have hw1 := hw0; simp only [SG] at hw1; first | (go_simp; done) | (go_simp; rfl))) ?_; simp only [Act.put, List.getElem_toArray, List.getElem_cons_succ, List.getElem_cons_zero, List.setIfInBounds_toArray, List.set_cons_succ, List.set_cons_zero]
      refine wpAnyK_take' (i := 1) _ rfl (by kernel_rfl) (fun _ _ _ h => hQp _ _ _ _ h) hS (yields_value (by kernel_rfl) (by intro w0 hw0; have hw1 := hw0; simp only [SG] at hw1; first | (go_simp; done) | (go_simp; rfl))) ?_; simp only [Act.put, List.getElem_toArray, List.getElem_cons_succ, List.getElem_cons_zero, List.setIfInBounds_toArray, List.set_cons_succ, List.set_cons_zero]
      refine wpAnyK_take' (i := 3) _ rfl (by kernel_rfl) (fun _ _ _ h => hQp _ _ _ _ h) hS (yields_value (by kernel_rfl) (by intro w0 hw0; have hw1 := hw0; simp only [SG] at hw1; first | (go_simp; done) | (go_simp; rfl))) ?_; simp only [Act.put, List.getElem_toArray, List.getElem_cons_succ, List.getElem_cons_zero, List.setIfInBounds_toArray, List.set_cons_succ, List.set_cons_zero]
      refine wpAnyK_take' (i := 4) _ rfl (by kernel_rfl) (fun _ _ _ h => hQp _ _ _ _ h) hS (yields_value (by kernel_rfl) (by intro w0 hw0; have hw1 := hw0; simp only [SG] at hw1; first | (go_simp; done) | (go_simp; rfl))) ?_; simp only [Act.put, List.getElem_toArray, List.getElem_cons_succ, List.getElem_cons_zero, List.setIfInBounds_toArray, List.set_cons_succ, List.set_cons_zero]
      refine wpAnyK_take' (i := 2) _ rfl (by kernel_rfl) (fun _ _ _ h => hQp _ _ _ _ h) hS (yields_value (by kernel_rfl) (by intro w0 hw0; have hw1 := hw0; simp only [SG] at hw1; first | (go_simp; done) | (go_simp; rfl))) ?_; simp only [Act.put, List.getElem_toArray, List.getElem_cons_succ, List.getElem_cons_zero, List.setIfInBounds_toArray, List.set_cons_succ, List.set_cons_zero]
      refine wpAnyK_take' (i := 5) _ rfl (by kernel_rfl) (fun _ _ _ h => hQp _ _ _ _ h) hS (yields_value (by kernel_rfl) (by intro w0 hw0; have hw1 := hw0; simp only [SG] at hw1; first | (go_simp; done) | (go_simp; rfl))) ?_; simp only [Act.put, List.getElem_toArray, List.getElem_cons_succ, List.getElem_cons_zero, List.setIfInBounds_toArray, List.set_cons_succ, List.set_cons_zero]
      clear hS
      refine wpAnyK_call (i := 6) rfl (by kernel_rfl) (by kernel_rfl) fun K6 hK6 => ?_
      refine wp_appRoom (sh := intS) (n := i) (m := (n - (i + 1))) (ys := (ws.drop (i + 1))) (.tmp 22) (.tmp 25) 26 (by rfl) 3 i0 Try.underlying26 hi0 hz1 (by decide) (ok := W) (base := B) (by rfl) hFa (by rfl) HML.out hSr (by omega) ?_
      intro wb hob hgb
      simp only [Act.put, List.getElem_toArray, List.getElem_cons_succ, List.getElem_cons_zero, List.setIfInBounds_toArray, List.set_cons_succ, List.set_cons_zero]
      have hS : _ := (hob.cellAny (j := 0) (by show 0 < wc * 1; omega)).2
      refine hK6 _ _ (fun _ => hS) ?_
      clear hK6
      refine wpAnyK_take' (i := 7) _ rfl (by kernel_rfl) (fun _ _ _ h => hQp _ _ _ _ h) hS (yields_value (by kernel_rfl) (by intro w0 hw0; have hw1 := hw0; simp only [SG] at hw1; first | (go_simp; done) | (go_simp; rfl))) ?_; simp only [Act.put, List.getElem_toArray, List.getElem_cons_succ, List.getElem_cons_zero, List.setIfInBounds_toArray, List.set_cons_succ, List.set_cons_zero]
      refine wpAnyK_done (by kernel_rfl) ?_ _
      refine hR _ _ ?_
      iterate 6 apply Exists.intro
      refine ⟨?_, ⟨hob, (Frm.of hb0 hB).trans (Frm.grown hgb (fun k hk => ⟨fun e => e hk, (hFa.lt k hk).1⟩) (Nat.le_trans hB hb0.size))⟩⟩
      simp only [puts, Act.put, List.setIfInBounds_toArray, List.set_cons_succ, List.set_cons_zero]
      rfl
    rintro a' w8 ⟨v20, v21, v22, v23, v24, v25, rfl, hb8⟩
    simp only [puts, Act.put, List.setIfInBounds_toArray, List.set_cons_succ, List.set_cons_zero]
    obtain ⟨hob, hF⟩ := hb8
    have hm8 : i + (n - (i + 1)) = (n - 1) := by omega
    have h8b : (n - 1) < wc := by omega
    rw [hm8] at hob
    have HO := Lib.hid (hob.cellAny (j := (n - 1)) (by show (n - 1) < wc * 1; omega))
    obtain ⟨⟨v, hv⟩, hf⟩ := HO.out
    have c1 : ((((n - 1) : Nat) : Int)) ≤ (((n : Nat)) : Int) := by omega
    have c2 : (((n : Nat)) : Int) ≤ (((wc : Nat)) : Int) := by omega
    have c3 : ((((n - 1) : Nat) : Int)).toNat = (n - 1) := by omega
    have c4 : n - ((n - 1)) = 1 := by omega
    have c5 : (0 : Int) ≤ (((n - 1) : Nat) : Int) := by omega
    have hcl := fun (ty : TypeId) (c : Nat) => run_clear_one (P := Try.prog) (w := w8) (t := 26) (ty := ty) (c := c) (g := g) (k := (n - 1)) Try.underlying26 hi0 hz0 hv hf
    rw [hm8]
    clear hm8
    go_wp2
    go_ret; refine ⟨by first | rfl | simp, by rw [HXE.out]; exact hob.beyond (by show ((n - 1)) * 1 ≤ (n - 1); omega) _, hF.trans (Frm.set (a := ⟨g, (n - 1), none⟩) (fun e => e rfl) hgB _)⟩
  · have HML := Lib.hid hml
    clear hml
    go_enter Try.func28, Try.ntmps28
    go_wp2
    have hS0 : SG g w.drew := hdf 0
    refine wp_region_to (SG g) 99 (fun a0 a' w' => ∃ v20 v21 v22 v23 v24 v25, a' = puts a0 [(20, v20), (21, v21), (22, v22), (23, v23), (24, v24), (25, v25), (0, .slice (some ⟨g, 0, none⟩) (i + 0) (i + 1)), (26, .slice (some ⟨g, 0, none⟩) (i + 0) (i + 1))] ∧ ownR intS 3 W B w' (some ⟨g, 0, none⟩) (i + 0) (i + 1) (ws.take i ++ []) ∧ Frm (fun b => blk (some ⟨g, 0, none⟩) ≠ some b) B w w') (by kernel_rfl) ?_ ?_
    · intro Q' hR hQp
      have hb0 : Below w.heap.size w w.drew := by (repeat' (first | with_reducible exact Below.refl _ _ | with_reducible assumption | with_reducible refine Below.drew ?_ | with_reducible refine Below_drewN ?_ _ | with_reducible refine Below.alloc ?_ ?_ _ | with_reducible refine Below.setCell ?_ ?_ _ | omega | (simp; done) | (simp; omega)))
      have hS : SG g w.drew := hS0
      generalize w.drew = wa at *
      have hFa := hfirst.below hb0
      have hSr : srcRep intS W wa (some ⟨g, 0, none⟩) [] := (.inl rfl)
      refine wpAnyK_take' (i := 0) _ rfl (by kernel_rfl) (fun _ _ _ h => hQp _ _ _ _ h) hS (yields_value (by kernel_rfl) (by intro w0 hw0; have hw1 := hw0; simp only [SG] at hw1; first | (go_simp; done) | (go_simp; rfl))) ?_; simp only [Act.put, List.getElem_toArray, List.getElem_cons_succ, List.getElem_cons_zero, List.setIfInBounds_toArray, List.set_cons_succ, List.set_cons_zero]
      refine wpAnyK_take' (i := 1) _ rfl (by kernel_rfl) (fun _ _ _ h => hQp _ _ _ _ h) hS (yields_value (by kernel_rfl) (by intro w0 hw0; have hw1 := hw0; simp only [SG] at hw1; first | (go_simp; done) | (go_simp; rfl))) ?_; simp only [Act.put, List.getElem_toArray, List.getElem_cons_succ, List.getElem_cons_zero, List.setIfInBounds_toArray, List.set_cons_succ, List.set_cons_zero]
      refine wpAnyK_take' (i := 3) _ rfl (by kernel_rfl) (fun _ _ _ h => hQp _ _ _ _ h) hS (yields_value (by kernel_rfl) (by intro w0 hw0; have hw1 := hw0; simp only [SG] at hw1; first | (go_simp; done) | (go_simp; rfl))) ?_; simp only [Act.put, List.getElem_toArray, List.getElem_cons_succ, List.getElem_cons_zero, List.setIfInBounds_toArray, List.set_cons_succ, List.set_cons_zero]
      refine wpAnyK_take' (i := 4) _ rfl (by kernel_rfl) (fun _ _ _ h => hQp _ _ _ _ h) hS (yields_value (by kernel_rfl) (by intro w0 hw0; have hw1 := hw0; simp only [SG] at hw1; first | (go_simp; done) | (go_simp; rfl))) ?_; simp only [Act.put, List.getElem_toArray, List.getElem_cons_succ, List.getElem_cons_zero, List.setIfInBounds_toArray, List.set_cons_succ, List.set_cons_zero]
      refine wpAnyK_take' (i := 2) _ rfl (by kernel_rfl) (fun _ _ _ h => hQp _ _ _ _ h) hS (yields_value (by kernel_rfl) (by intro w0 hw0; have hw1 := hw0; simp only [SG] at hw1; first | (go_simp; done) | (go_simp; rfl))) ?_; simp only [Act.put, List.getElem_toArray, List.getElem_cons_succ, List.getElem_cons_zero, List.setIfInBounds_toArray, List.set_cons_succ, List.set_cons_zero]
      refine wpAnyK_take' (i := 5) _ rfl (by kernel_rfl) (fun _ _ _ h => hQp _ _ _ _ h) hS (yields_value (by kernel_rfl) (by intro w0 hw0; have hw1 := hw0; simp only [SG] at hw1; first | (go_simp; done) | (go_simp; rfl))) ?_; simp only [Act.put, List.getElem_toArray, List.getElem_cons_succ, List.getElem_cons_zero, List.setIfInBounds_toArray, List.set_cons_succ, List.set_cons_zero]
      clear hS
      refine wpAnyK_call (i := 6) rfl (by kernel_rfl) (by kernel_rfl) fun K6 hK6 => ?_
      refine wp_appRoom (sh := intS) (n := i) (m := 0) (ys := []) (.tmp 22) (.tmp 25) 26 (by rfl) 3 i0 Try.underlying26 hi0 hz1 (by decide) (ok := W) (base := B) (by rfl) hFa (by rfl) HML.out hSr (by omega) ?_
      intro wb hob hgb
      simp only [Act.put, List.getElem_toArray, List.getElem_cons_succ, List.getElem_cons_zero, List.setIfInBounds_toArray, List.set_cons_succ, List.set_cons_zero]
      have hS : _ := (hob.cellAny (j := 0) (by show 0 < (i + 1) * 1; omega)).2
      refine hK6 _ _ (fun _ => hS) ?_
      clear hK6
      refine wpAnyK_take' (i := 7) _ rfl (by kernel_rfl) (fun _ _ _ h => hQp _ _ _ _ h) hS (yields_value (by kernel_rfl) (by intro w0 hw0; have hw1 := hw0; simp only [SG] at hw1; first | (go_simp; done) | (go_simp; rfl))) ?_; simp only [Act.put, List.getElem_toArray, List.getElem_cons_succ, List.getElem_cons_zero, List.setIfInBounds_toArray, List.set_cons_succ, List.set_cons_zero]
      refine wpAnyK_done (by kernel_rfl) ?_ _
      refine hR _ _ ?_
      iterate 6 apply Exists.intro
      refine ⟨?_, ⟨hob, (Frm.of hb0 hB).trans (Frm.grown hgb (fun k hk => ⟨fun e => e hk, (hFa.lt k hk).1⟩) (Nat.le_trans hB hb0.size))⟩⟩
      simp only [puts, Act.put, List.setIfInBounds_toArray, List.set_cons_succ, List.set_cons_zero]
      rfl
    rintro a' w8 ⟨v20, v21, v22, v23, v24, v25, rfl, hb8⟩
    simp only [puts, Act.put, List.setIfInBounds_toArray, List.set_cons_succ, List.set_cons_zero]
    obtain ⟨hob, hF⟩ := hb8
    have hm8 : i + 0 = i := by omega
    have h8b : i < (i + 1) := by omega
    rw [hm8] at hob
    have HO := Lib.hid (hob.cellAny (j := i) (by show i < (i + 1) * 1; omega))
    obtain ⟨⟨v, hv⟩, hf⟩ := HO.out
    have c1 : (((i : Nat) : Int)) ≤ ((((i + 1) : Nat)) : Int) := by omega
    have c2 : ((((i + 1) : Nat)) : Int) ≤ ((((i + 1) : Nat)) : Int) := by omega
    have c3 : (((i : Nat) : Int)).toNat = i := by omega
    have c4 : (i + 1) - (i) = 1 := by omega
    have c5 : (0 : Int) ≤ ((i : Nat) : Int) := by omega
    have hcl := fun (ty : TypeId) (c : Nat) => run_clear_one (P := Try.prog) (w := w8) (t := 26) (ty := ty) (c := c) (g := g) (k := i) Try.underlying26 hi0 hz0 hv hf
    rw [hm8]
    clear hm8
    go_wp2
    go_ret; refine ⟨by first | rfl | simp, by rw [HXE.out]; exact hob.beyond (by show (i) * 1 ≤ i; omega) _, hF.trans (Frm.set (a := ⟨g, i, none⟩) (fun e => e rfl) hgB _)⟩

end Go.Proofs.Ytagldmdeohenjaa

/-
  The walk of topo.Reaches.
-/
set_option linter.unusedSimpArgs false
set_option linter.unusedVariables false
namespace Go.Proofs.Ytagldmdeohenjaa
open Go.RowKit Go.St

set_option maxRecDepth 100000 in
theorem fault_err0 (a b : Value) (w : World) : (Instr.field 66 (.agg #[a, b]) 0).run Try.prog w = .ok a w := by first | rfl | kernel_rfl | (simp [Instr.field]; done)
theorem int_info : (Try.prog.info? 3).map (fun i => (i.zero, i.size, i.bytes)) = some (some (.int .i64 0), 1, 8) := by kernel_rfl

end Go.Proofs.Ytagldmdeohenjaa

/-
  alive of stamplaw1.
-/
set_option linter.unusedSimpArgs false
set_option linter.unusedVariables false
namespace Go.St
open Go.RowKit
def lineT : Topo := ⟨3, [⟨0, 2, 5⟩]⟩
theorem line_1 : lengthOf lineT [2, 0] = (5, true) := by decide +kernel
theorem line_2 : topoWrong lineT = (0, 0) := by decide +kernel
theorem line_3 : costOf lineT 2 0 = 5 := by decide +kernel
theorem line_4 : reaches lineT 0 = [0, 2] := by decide +kernel

/-- a block of numbers as a row -/
theorem int_row {w : World} {b : Nat} {e : TypeId} {xs : List Int} {ok : Nat → Prop} (h : blockIs w b e (xs.map (Value.int .i64)).toArray) (hI : ∀ x ∈ xs, I64 x) (hok : ok b) (hm : xs.length ≤ maxLen) : rowRep intS ok w (some ⟨b, 0, none⟩) xs.length xs := by
  refine ⟨Nat.le_refl _, hm, .inr ⟨b, 0, rfl, hok, h.lt, fun i x hx => ⟨_, ⟨rfl, hI x (List.mem_of_getElem? hx)⟩, fun j c hj => ?_⟩⟩⟩
  match j, hj with
  | 0, hj =>
    obtain rfl : Value.int .i64 x = c := by simpa using hj
    simp only [intS, Nat.mul_one, Nat.add_zero, Nat.zero_add]
    rw [h.cells.1 i]
    simp [hx]
  | j + 1, hj => simp at hj
/-- a block of one link as a row -/
theorem link_row {w : World} {b : Nat} {e : TypeId} {l : Link} {ok : Nat → Prop} (h : blockIs w b e #[.int .i64 l.a, .int .i64 l.b, .int .i64 l.cost]) (h1 : I64 l.a) (h2 : I64 l.b) (h3 : I64 l.cost) (hok : ok b) : rowRep linkS ok w (some ⟨b, 0, none⟩) 1 [l] := by
  refine ⟨Nat.le_refl _, by decide, .inr ⟨b, 0, rfl, hok, h.lt, fun i x hx => ?_⟩⟩
  match i, hx with
  | 0, hx =>
    obtain rfl : l = x := by simpa using hx
    refine ⟨_, ⟨rfl, h1, h2, h3⟩, fun j c hc => ?_⟩
    simp only [Nat.zero_mul, Nat.zero_add]
    rw [h.cells.1 j]
    simpa using hc
  | i + 1, hx => simp at hx
end Go.St
namespace Go.Proofs.Ytagldmdeohenjaa
open Go.RowKit Go.St
end Go.Proofs.Ytagldmdeohenjaa

/-
  The rules of a good plan, plainly.
-/
set_option linter.unusedSimpArgs false
set_option linter.unusedVariables false
namespace Go.St

theorem mem_pathRules {v f s : Int} {x : Rule} : ∀ {p : List Int}, x ∈ pathRules v f s p ↔ x.ver = v ∧ x.flow = f ∧ ∃ k, p[k]? = some s ∧ p[k + 1]? = some x.next
  | [] => by simp [pathRules]
  | [a] => by
    simp [pathRules]
  | a :: b :: l => by
    rw [pathRules, List.mem_append, mem_pathRules (p := b :: l)]
    constructor
    · rintro (h | ⟨h1, h2, k, h3, h4⟩)
      · by_cases e : a = s
        · rw [if_pos e] at h
          obtain rfl := List.mem_singleton.1 h
          exact ⟨rfl, rfl, 0, by simp [e], by simp⟩
        · rw [if_neg e] at h; simp at h
      · exact ⟨h1, h2, k + 1, by simpa using h3, by simpa using h4⟩
    · rintro ⟨h1, h2, k, h3, h4⟩
      cases k with
      | zero =>
        left
        have e : a = s := by simpa using h3
        have e2 : b = x.next := by simpa using h4
        rw [if_pos e, List.mem_singleton]
        obtain ⟨xv, xf, xn⟩ := x
        simp at h1 h2 e2
        rw [h1, h2, e2]
      | succ k => exact .inr ⟨h1, h2, k, by simpa using h3, by simpa using h4⟩
theorem mem_rulesFrom {v s : Int} {x : Rule} : ∀ {ps : List (List Int)} {f : Int}, x ∈ rulesFrom v s f ps ↔ ∃ (i : Nat) (p : List Int), ps[i]? = some p ∧ x ∈ pathRules v (f + i) s p
  | [], f => by simp [rulesFrom]
  | p :: ps, f => by
    rw [rulesFrom, List.mem_append, mem_rulesFrom (ps := ps)]
    constructor
    · rintro (h | ⟨i, q, h1, h2⟩)
      · exact ⟨0, p, rfl, by simpa using h⟩
      · exact ⟨i + 1, q, by simpa using h1, by rw [show f + ((i + 1 : Nat) : Int) = f + 1 + (i : Int) by omega]; exact h2⟩
    · rintro ⟨i, q, h1, h2⟩
      cases i with
      | zero => obtain rfl : p = q := by simpa using h1
                exact .inl (by simpa using h2)
      | succ i => exact .inr ⟨i, q, by simpa using h1, by rw [show f + 1 + (i : Int) = f + ((i + 1 : Nat) : Int) by omega]; exact h2⟩
/-- a rule of a plan: a step of a path -/
theorem mem_rulesAt {p : Plan} {s : Int} {x : Rule} : x ∈ rulesAt p s ↔ x.ver = p.ver ∧ ∃ (i : Nat) (q : List Int) (k : Nat), p.paths[i]? = some q ∧ x.flow = i ∧ q[k]? = some s ∧ q[k + 1]? = some x.next := by
  unfold rulesAt
  rw [mem_rulesFrom]
  constructor
  · rintro ⟨i, q, h1, h2⟩
    obtain ⟨h3, h4, k, h5, h6⟩ := mem_pathRules.1 h2
    exact ⟨h3, i, q, k, h1, by omega, h5, h6⟩
  · rintro ⟨h3, i, q, k, h1, h4, h5, h6⟩
    exact ⟨i, q, h1, mem_pathRules.2 ⟨h3, by omega, k, h5, h6⟩⟩

theorem nodup_at {p : List Int} (h : p.Nodup) {i j : Nat} {x : Int} (hi : p[i]? = some x) (hj : p[j]? = some x) : i = j := by
  obtain ⟨h1, rfl⟩ := List.getElem?_eq_some_iff.1 hi
  obtain ⟨h2, e⟩ := List.getElem?_eq_some_iff.1 hj
  rcases Nat.lt_trichotomy i j with h3 | h3 | h3
  · exact absurd e.symm (List.pairwise_iff_getElem.1 h i j h1 h2 h3)
  · exact h3
  · exact absurd e (List.pairwise_iff_getElem.1 h j i h2 h1 h3)
theorem pathRules_short {v f s : Int} : ∀ {p : List Int}, p.Nodup → (pathRules v f s p).Pairwise (fun a b => ruleLt a b = true)
  | [], _ => by simp [pathRules]
  | [a], _ => by simp [pathRules]
  | a :: b :: l, h => by
    have ih := pathRules_short (v := v) (f := f) (s := s) (List.nodup_cons.1 h).2
    rw [pathRules]
    by_cases e : a = s
    · rw [if_pos e]
      have : pathRules v f s (b :: l) = [] := by
        rw [List.eq_nil_iff_forall_not_mem]
        intro x hx
        obtain ⟨_, _, k, h1, _⟩ := mem_pathRules.1 hx
        exact (List.nodup_cons.1 h).1 (by rw [e]; exact List.mem_of_getElem? h1)
      rw [this]; simp
    · rw [if_neg e]; exact ih
theorem rulesFrom_up {v s : Int} : ∀ {ps : List (List Int)} {f : Int}, (∀ p ∈ ps, p.Nodup) → (rulesFrom v s f ps).Pairwise (fun a b => ruleLt a b = true)
  | [], _, _ => by simp [rulesFrom]
  | p :: ps, f, h => by
    rw [rulesFrom]
    refine List.pairwise_append.2 ⟨pathRules_short (h p (by simp)), rulesFrom_up fun q hq => h q (List.mem_cons_of_mem _ hq), fun x hx y hy => ?_⟩
    obtain ⟨h1, h2, _⟩ := mem_pathRules.1 hx
    obtain ⟨i, q, _, h3⟩ := mem_rulesFrom.1 hy
    obtain ⟨h4, h5, _⟩ := mem_pathRules.1 h3
    rw [ruleLt_iff]; omega

/-! how many there are -/
def sumTo (g : Nat → Nat) : Nat → Nat
  | 0 => 0
  | n + 1 => sumTo g n + g n
theorem sumTo_add (g h : Nat → Nat) : ∀ n, sumTo (fun s => g s + h s) n = sumTo g n + sumTo h n
  | 0 => rfl
  | n + 1 => by simp only [sumTo, sumTo_add g h n]; omega
theorem sumTo_one (a : Int) : ∀ n : Nat, sumTo (fun s : Nat => if a = (s : Int) then 1 else 0) n = if 0 ≤ a ∧ a < n then 1 else 0
  | 0 => by
    rw [if_neg (by omega)]; rfl
  | n + 1 => by
    rw [sumTo, sumTo_one a n]
    by_cases h : a = (n : Int)
    · rw [if_pos h, if_neg (by omega), if_pos (by omega)]
    · rw [if_neg h]
      by_cases h2 : 0 ≤ a ∧ a < n
      · rw [if_pos h2, if_pos (by omega)]
      · rw [if_neg h2, if_neg (by omega)]
theorem sumTo_zero : ∀ n, sumTo (fun _ => 0) n = 0
  | 0 => rfl
  | n + 1 => by simp [sumTo, sumTo_zero n]
theorem sum_pathRules {v f : Int} {n : Nat} : ∀ {p : List Int}, (∀ x ∈ p, 0 ≤ x ∧ x < n) → sumTo (fun s : Nat => (pathRules v f s p).length) n = p.length - 1
  | [], _ => by simp [pathRules, sumTo_zero]
  | [a], _ => by simp [pathRules, sumTo_zero]
  | a :: b :: l, h => by
    have ih := sum_pathRules (v := v) (f := f) (p := b :: l) fun x hx => h x (List.mem_cons_of_mem _ hx)
    have e : (fun s : Nat => (pathRules v f s (a :: b :: l)).length) = fun s : Nat => (if a = (s : Int) then 1 else 0) + (pathRules v f s (b :: l)).length := by
      funext s
      rw [pathRules, List.length_append]
      split <;> simp
    rw [e, sumTo_add, ih, sumTo_one, if_pos (h a (by simp))]
    simp only [List.length_cons]; omega
def lessOne (ps : List (List Int)) : Nat := (ps.map fun p => p.length - 1).sum
theorem sum_rulesFrom {v : Int} {n : Nat} : ∀ {ps : List (List Int)} {f : Int}, (∀ p ∈ ps, ∀ x ∈ p, 0 ≤ x ∧ x < n) → sumTo (fun s : Nat => (rulesFrom v s f ps).length) n = lessOne ps
  | [], _, _ => by simp [rulesFrom, sumTo_zero, lessOne]
  | p :: ps, f, h => by
    have e : (fun s : Nat => (rulesFrom v s f (p :: ps)).length) = fun s : Nat => (pathRules v f s p).length + (rulesFrom v s (f + 1) ps).length := by
      funext s; rw [rulesFrom, List.length_append]
    rw [e, sumTo_add, sum_pathRules (h p (by simp)), sum_rulesFrom fun q hq => h q (List.mem_cons_of_mem _ hq)]
    simp [lessOne]
theorem pathRules_len {v f s : Int} : ∀ (p : List Int), (pathRules v f s p).length ≤ p.length
  | [] => by simp [pathRules]
  | [a] => by simp [pathRules]
  | a :: b :: l => by
    have := pathRules_len (v := v) (f := f) (s := s) (b :: l)
    rw [pathRules, List.length_append]
    simp only [List.length_cons] at *
    split <;> simp <;> omega
theorem rulesFrom_len {v s : Int} {k : Nat} : ∀ {ps : List (List Int)} {f : Int}, (∀ p ∈ ps, p.length ≤ k) → (rulesFrom v s f ps).length ≤ ps.length * k
  | [], _, _ => by simp [rulesFrom]
  | p :: ps, f, h => by
    have h1 := rulesFrom_len (v := v) (s := s) (f := f + 1) (ps := ps) fun q hq => h q (List.mem_cons_of_mem _ hq)
    have h2 := pathRules_len (v := v) (f := f) (s := s) p
    have h3 := h p (by simp)
    rw [rulesFrom, List.length_append, List.length_cons, Nat.add_mul]; omega

/-! good plans -/
theorem planGo_good {t : Topo} {v : Int} {all : List Flow} : ∀ {r : List Flow} {i : Int} {ps : List (List Int)}, 0 ≤ i → (planGo t v all i ps r).2.1 = 0 → (planGo t v all i ps r).1 = ⟨v, all, ps ++ r.map fun f => (findOf t f).1⟩ ∧ ∀ f ∈ r, (findOf t f).2 = 0
  | [], i, ps, _, _ => by simp [planGo]
  | f :: r, i, ps, hi, h => by
    rw [planGo] at h ⊢
    by_cases h0 : (findOf t f).2 = 0
    · rw [if_pos h0] at h ⊢
      obtain ⟨h1, h2⟩ := planGo_good (by omega) h
      refine ⟨by rw [h1]; simp, fun g hg => ?_⟩
      rcases List.mem_cons.1 hg with rfl | hg
      · exact h0
      · exact h2 g hg
    · rw [if_neg h0] at h; exact absurd h h0
structure PlanOk (t : Topo) (v : Int) (l : List Flow) (p : Plan) : Prop where
  topo : (topoWrong t).1 = 0
  n1 : 1 ≤ t.n
  n8 : t.n ≤ 8
  v1 : 1 ≤ v
  v2 : v ≤ 1000
  len : l.length ≤ 12
  ver : p.ver = v
  flows : p.flows = l
  plen : p.paths.length = l.length
  good : ∀ (i : Nat) (f : Flow) (q : List Int), l[i]? = some f → p.paths[i]? = some q → (findOf t f).2 = 0 ∧ q = (findOf t f).1 ∧ Good t f q
theorem plan_ok {t : Topo} {v : Int} {l : List Flow} (h : (planOf t v l).2.1 = 0) : PlanOk t v l (planOf t v l).1 := by
  unfold planOf at *
  by_cases h1 : (topoWrong t).1 = 0
  case neg => rw [if_pos h1] at h; exact absurd h h1
  rw [if_neg (by simpa using h1)] at h ⊢
  by_cases h2 : v < 1 ∨ 1000 < v
  · rw [if_pos h2] at h; exact absurd (show (3 : Int) = 0 from h) (by decide)
  rw [if_neg h2] at h ⊢
  by_cases h3 : (flowsWrong l t.n).1 = 0
  case neg => rw [if_pos h3] at h; exact absurd h h3
  rw [if_neg (by simpa using h3)] at h ⊢
  obtain ⟨h4, h5⟩ := planGo_good (Int.le_refl 0) h
  rw [h4, List.nil_append]
  have hn : ¬ (t.n < 1 ∨ 8 < t.n ∨ 28 < t.links.length) := fun hc => by
    unfold topoWrong at h1; rw [if_pos hc] at h1; exact absurd (show (5 : Int) = 0 from h1) (by decide)
  have hl : ¬ 12 < l.length := fun hc => by
    unfold flowsWrong at h3; rw [if_pos hc] at h3; exact absurd (show (5 : Int) = 0 from h3) (by decide)
  refine ⟨h1, by omega, by omega, by omega, by omega, by omega, rfl, rfl, by simp, fun i f q hf hq => ?_⟩
  have e : q = (findOf t f).1 := by
    simp only [List.getElem?_map, hf, Option.map_some, Option.some.injEq] at hq
    exact hq.symm
  have h0 := h5 f (List.mem_of_getElem? hf)
  exact ⟨h0, e, e ▸ (find_good h0).2.2.1⟩
section
variable {t : Topo} {v : Int} {l : List Flow} {p : Plan}
theorem PlanOk.at (h : PlanOk t v l p) {i : Nat} {q : List Int} (hq : p.paths[i]? = some q) : ∃ f, l[i]? = some f ∧ Good t f q := by
  have hi := (List.getElem?_eq_some_iff.1 hq).1
  rw [h.plen] at hi
  exact ⟨_, List.getElem?_eq_getElem hi, (h.good i _ q (List.getElem?_eq_getElem hi) hq).2.2⟩
theorem PlanOk.mem (h : PlanOk t v l p) {q : List Int} (hq : q ∈ p.paths) : ∃ f, Good t f q := by
  obtain ⟨i, hi⟩ := List.getElem?_of_mem hq
  obtain ⟨f, _, hg⟩ := h.at hi
  exact ⟨f, hg⟩
theorem PlanOk.rise (h : PlanOk t v l p) (s : Int) : (rulesAt p s).Pairwise (fun a b => ruleLt a b = true) :=
  rulesFrom_up fun q hq => let ⟨_, hg⟩ := h.mem hq; hg.nodup
theorem PlanOk.plen8 (h : PlanOk t v l p) {q : List Int} (hq : q ∈ p.paths) : 1 ≤ q.length ∧ q.length ≤ 8 := by
  obtain ⟨f, hg⟩ := h.mem hq
  have h8 := h.n8
  refine ⟨?_, ?_⟩
  · have := hg.src
    cases q with
    | nil => simp at this
    | cons a b => simp
  · have h1 := nodup_len hg.nodup hg.rng
    omega
theorem PlanOk.short (h : PlanOk t v l p) (s : Int) : (rulesAt p s).length ≤ 96 := by
  have h1 := rulesFrom_len (v := p.ver) (s := s) (f := 0) (ps := p.paths) (k := 8) fun q hq => (h.plen8 hq).2
  have h2 := h.plen
  have h3 := h.len
  unfold rulesAt
  omega
theorem PlanOk.out (h : PlanOk t v l p) {s : Int} {r : Rule} (hr : r ∈ rulesAt p s) : ¬ ruleOut r := by
  obtain ⟨h1, i, q, k, h2, h3, h4, h5⟩ := mem_rulesAt.1 hr
  obtain ⟨f, hf, hg⟩ := h.at h2
  have h6 := (List.getElem?_eq_some_iff.1 hf).1
  have h7 := hg.rng _ (List.mem_of_getElem? h5)
  have := h.n8; have := h.v1; have := h.v2; have := h.ver; have := h.len
  unfold ruleOut; omega
theorem PlanOk.tab (h : PlanOk t v l p) {s : Int} (hl : (rulesAt p s).length ≤ 16) : TabOk (rulesAt p s) := ⟨hl, fun r hr => h.out hr, h.rise s⟩
theorem PlanOk.count (h : PlanOk t v l p) : sumTo (fun s : Nat => (rulesAt p s).length) t.n.toNat = lessOne p.paths := by
  have h1 := h.n1
  refine sum_rulesFrom fun q hq x hx => ?_
  obtain ⟨f, hg⟩ := h.mem hq
  have := hg.rng x hx
  omega
end
theorem lessOne_step {ps : List (List Int)} {j : Nat} {q : List Int} (h : ps[j]? = some q) : lessOne (ps.drop j) = (q.length - 1) + lessOne (ps.drop (j + 1)) := by
  obtain ⟨hj, rfl⟩ := List.getElem?_eq_some_iff.1 h
  rw [List.drop_eq_getElem_cons hj]; rfl
theorem lessOne_end {ps : List (List Int)} {j : Nat} (h : ps.length ≤ j) : lessOne (ps.drop j) = 0 := by
  rw [List.drop_of_length_le h]; rfl
end Go.St

/-
  The walk of the document's SamePlan, at equal plans.
-/
set_option linter.unusedSimpArgs false
set_option linter.unusedVariables false
namespace Go.St
open Go.RowKit
/-- the paths of two plans, and one path of each -/
def SP (b b' g o g' o' : Nat) (pa pa' qa qa' : Option Addr) (pl pc pc' ql qc qc' : Nat) (w : World) : Prop :=
  w.cell? ⟨b, 2, none⟩ = some (.slice pa pl pc) ∧ w.cell? ⟨b', 2, none⟩ = some (.slice pa' pl pc') ∧ w.cell? ⟨g, o, none⟩ = some (.slice qa ql qc) ∧ w.cell? ⟨g', o', none⟩ = some (.slice qa' ql qc')
end Go.St
namespace Go.Proofs.Ytagldmdeohenjaa
open Go.RowKit Go.St

set_option maxRecDepth 100000 in
set_option maxHeartbeats 8000000 in
theorem samePlan_c (p : Plan) (cs ds : List Value) (ok ok' : Nat → Prop) (w : World) (hx : planS.rep ok w cs p) (hy : planS.rep ok' w ds p) :
    Calls Try.prog 33 #[.agg cs.toArray, .agg ds.toArray] w fun e w' => e = .returned (.bool true) ∧ Below w.heap.size w w' := by
  obtain ⟨fa, fc, pa, pc, rfl, hv, hfl, hpa⟩ := hx
  obtain ⟨fa', fc', pa', pc', rfl, _, hfl', hpa'⟩ := hy
  have hlp := hpa.len_le
  have hlf := hfl.len_le
  go_enter Try.func33, Try.ntmps33
  have hX0 : blockIs ((w.alloc (.cells #[.int .i64 p.ver, .slice fa p.flows.length fc, .slice pa p.paths.length pc] 30)).alloc (.cells #[.int .i64 p.ver, .slice fa' p.flows.length fc', .slice pa' p.paths.length pc'] 30)) w.heap.size 30 #[.int .i64 p.ver, .slice fa p.flows.length fc, .slice pa p.paths.length pc] := (blockIs.new rfl).alloc _
  have hY0 : blockIs ((w.alloc (.cells #[.int .i64 p.ver, .slice fa p.flows.length fc, .slice pa p.paths.length pc] 30)).alloc (.cells #[.int .i64 p.ver, .slice fa' p.flows.length fc', .slice pa' p.paths.length pc'] 30)) (w.heap.size + 1) 30 #[.int .i64 p.ver, .slice fa' p.flows.length fc', .slice pa' p.paths.length pc'] := blockIs.new (by simp)
  have hB0 : Below w.heap.size w ((w.alloc (.cells #[.int .i64 p.ver, .slice fa p.flows.length fc, .slice pa p.paths.length pc] 30)).alloc (.cells #[.int .i64 p.ver, .slice fa' p.flows.length fc', .slice pa' p.paths.length pc'] 30)) := by (repeat' (first | with_reducible exact Below.refl _ _ | with_reducible assumption | with_reducible refine Below.drew ?_ | with_reducible refine Below_drewN ?_ _ | with_reducible refine Below.alloc ?_ ?_ _ | with_reducible refine Below.setCell ?_ ?_ _ | omega | (simp; done) | (simp; omega)))
  go_wp2_with fail
  generalize (w.alloc (.cells #[.int .i64 p.ver, .slice fa p.flows.length fc, .slice pa p.paths.length pc] 30)).alloc (.cells #[.int .i64 p.ver, .slice fa' p.flows.length fc', .slice pa' p.paths.length pc'] 30) = w0 at *
  refine (sameFlows_c p.flows ok ok' fa fa' fc fc' _ (hfl.below (hB0.trans (by (repeat' (first | with_reducible exact Below.refl _ _ | with_reducible assumption | with_reducible refine Below.drew ?_ | with_reducible refine Below_drewN ?_ _ | with_reducible refine Below.alloc ?_ ?_ _ | with_reducible refine Below.setCell ?_ ?_ _ | omega | (simp; done) | (simp; omega)))))) (hfl'.below (hB0.trans (by (repeat' (first | with_reducible exact Below.refl _ _ | with_reducible assumption | with_reducible refine Below.drew ?_ | with_reducible refine Below_drewN ?_ _ | with_reducible refine Below.alloc ?_ ?_ _ | with_reducible refine Below.setCell ?_ ?_ _ | omega | (simp; done) | (simp; omega))))))).mono ?_
  rintro e w1 ⟨rfl, hb1⟩
  have hb01 : Below w0.heap.size w0 w1 := Below.trans (by (repeat' (first | with_reducible exact Below.refl _ _ | with_reducible assumption | with_reducible refine Below.drew ?_ | with_reducible refine Below_drewN ?_ _ | with_reducible refine Below.alloc ?_ ?_ _ | with_reducible refine Below.setCell ?_ ?_ _ | omega | (simp; done) | (simp; omega)))) (hb1.mono (by first | omega | (simp; done) | (simp; omega)))
  have hB1 : Below w.heap.size w w1 := hB0.trans (hb01.mono hB0.size)
  have hX1 := hX0.under hb01
  have hY1 := hY0.under hb01
  clear hb1 hb01 hX0 hY0 hB0 hfl hfl'
  obtain ⟨x1, x2⟩ := hX1.cells
  obtain ⟨y1, y2⟩ := hY1.cells
  go_wp2
  go_loopw [5, 31] (fun _ i wr => ∃ j : Nat, j ≤ p.paths.length ∧ i = .int .i64 j ∧ Below w1.heap.size w1 wr) (fun _ i _ => p.paths.length - (intOf i).toNat)
  case atStart => exact ⟨0, Nat.zero_le _, rfl, by (repeat' (first | with_reducible exact Below.refl _ _ | with_reducible assumption | with_reducible refine Below.drew ?_ | with_reducible refine Below_drewN ?_ _ | with_reducible refine Below.alloc ?_ ?_ _ | with_reducible refine Below.setCell ?_ ?_ _ | omega | (simp; done) | (simp; omega)))⟩
  case round =>
    obtain ⟨j, hj, rfl, hb⟩ := hrel
    clear x1 x2 y1 y2
    have hB2 : Below w.heap.size w wr := hB1.trans (hb.mono hB1.size)
    have hsz := hB2.size
    have hX2 := hX1.under hb
    have hY2 := hY1.under hb
    by_cases hlt : j < p.paths.length
    case neg =>
      have b1 : ¬ (j : Int) < (p.paths.length : Int) := by omega
      go_wp2
      go_ret; exact ⟨rfl, by (repeat' (first | with_reducible exact Below.refl _ _ | with_reducible assumption | with_reducible refine Below.drew ?_ | with_reducible refine Below_drewN ?_ _ | with_reducible refine Below.alloc ?_ ?_ _ | with_reducible refine Below.setCell ?_ ?_ _ | omega | (simp; done) | (simp; omega)))⟩
    have b1 : (j : Int) < (p.paths.length : Int) := by omega
    obtain ⟨q, hq⟩ : ∃ q, p.paths[j]? = some q := ⟨_, List.getElem?_eq_getElem hlt⟩
    obtain ⟨g, o, rfl, _, hg, cs1, hcs, hce⟩ := hpa.get hq
    obtain ⟨qa, qc, rfl, hqr⟩ := hcs
    obtain ⟨g', o', rfl, _, hg', cs2, hcs', hce'⟩ := hpa'.get hq
    obtain ⟨qa', qc', rfl, hqr'⟩ := hcs'
    have e0 := cell_at hB2 hg (hce 0 _ rfl)
    have f0 := cell_at hB2 hg' (hce' 0 _ rfl)
    simp only [sliceS, Nat.add_zero, Nat.mul_one] at e0 f0
    clear hce hce' hq
    have hI := fun w' (hw' : Below w.heap.size w w') => ints_c q q ok ok' qa qa' qc qc' w' (hqr.below hw') (hqr'.below hw')
    rw [beq_self_eq_true] at hI
    have HI := Lib.hid hI
    clear hI hqr hqr'
    go_wp2
    have hS0 : SP w.heap.size (w.heap.size + 1) g (o + j) g' (o' + j) (some ⟨g, o, none⟩) (some ⟨g', o', none⟩) qa qa' p.paths.length pc pc' q.length qc qc' wr.drew := ⟨hX2.cells.1 2, hY2.cells.1 2, e0, f0⟩
    have hbd : Below w.heap.size w wr.drew := hB2.trans (by (repeat' (first | with_reducible exact Below.refl _ _ | with_reducible assumption | with_reducible refine Below.drew ?_ | with_reducible refine Below_drewN ?_ _ | with_reducible refine Below.alloc ?_ ?_ _ | with_reducible refine Below.setCell ?_ ?_ _ | omega | (simp; done) | (simp; omega))))
    have hbd1 : Below w1.heap.size w1 wr.drew := hb.trans (by (repeat' (first | with_reducible exact Below.refl _ _ | with_reducible assumption | with_reducible refine Below.drew ?_ | with_reducible refine Below_drewN ?_ _ | with_reducible refine Below.alloc ?_ ?_ _ | with_reducible refine Below.setCell ?_ ?_ _ | omega | (simp; done) | (simp; omega))))
    have hzd : w.heap.size ≤ wr.drew.heap.size := by simpa using hsz
    have hzy : w.heap.size + 1 < wr.drew.heap.size := by have := hY2.lt; simpa using this
    clear e0 f0
    refine wp_region_K (SP w.heap.size (w.heap.size + 1) g (o + j) g' (o' + j) (some ⟨g, o, none⟩) (some ⟨g', o', none⟩) qa qa' p.paths.length pc pc' q.length qc qc') 99 (by kernel_rfl) ?_
    generalize wr.drew = w2 at *
    have hS := hS0
    refine wpAnyK_take' (i := 0) (.pointer (some ⟨w.heap.size, 2, none⟩)) rfl (by kernel_rfl) (fun _ _ _ h => h) hS (yields_value (by kernel_rfl) (by intro w0 hw0; have hw1 := hw0; simp only [SP] at hw1; go_simp)) ?_; simp only [Act.put, List.getElem_toArray, List.getElem_cons_succ, List.getElem_cons_zero, List.setIfInBounds_toArray, List.set_cons_succ, List.set_cons_zero]
    refine wpAnyK_take' (i := 1) (.slice (some ⟨g, o, none⟩) p.paths.length pc) rfl (by kernel_rfl) (fun _ _ _ h => h) hS (yields_value (by kernel_rfl) (by intro w0 hw0; have hw1 := hw0; simp only [SP] at hw1; go_simp)) ?_; simp only [Act.put, List.getElem_toArray, List.getElem_cons_succ, List.getElem_cons_zero, List.setIfInBounds_toArray, List.set_cons_succ, List.set_cons_zero]
    refine wpAnyK_take' (i := 2) (.int .i64 j) rfl (by kernel_rfl) (fun _ _ _ h => h) hS (yields_value (by kernel_rfl) (by intro w0 hw0; have hw1 := hw0; simp only [SP] at hw1; go_simp)) ?_; simp only [Act.put, List.getElem_toArray, List.getElem_cons_succ, List.getElem_cons_zero, List.setIfInBounds_toArray, List.set_cons_succ, List.set_cons_zero]
    refine wpAnyK_take' (i := 3) (.pointer (some ⟨g, o + j, none⟩)) rfl (by kernel_rfl) (fun _ _ _ h => h) hS (yields_value (by kernel_rfl) (by intro w0 hw0; have hw1 := hw0; simp only [SP] at hw1; go_simp)) ?_; simp only [Act.put, List.getElem_toArray, List.getElem_cons_succ, List.getElem_cons_zero, List.setIfInBounds_toArray, List.set_cons_succ, List.set_cons_zero]
    refine wpAnyK_take' (i := 4) (.slice qa q.length qc) rfl (by kernel_rfl) (fun _ _ _ h => h) hS (yields_value (by kernel_rfl) (by intro w0 hw0; have hw1 := hw0; simp only [SP] at hw1; go_simp)) ?_; simp only [Act.put, List.getElem_toArray, List.getElem_cons_succ, List.getElem_cons_zero, List.setIfInBounds_toArray, List.set_cons_succ, List.set_cons_zero]
    refine wpAnyK_take' (i := 5) (.pointer (some ⟨w.heap.size + 1, 2, none⟩)) rfl (by kernel_rfl) (fun _ _ _ h => h) hS (yields_value (by kernel_rfl) (by intro w0 hw0; have hw1 := hw0; simp only [SP] at hw1; go_simp)) ?_; simp only [Act.put, List.getElem_toArray, List.getElem_cons_succ, List.getElem_cons_zero, List.setIfInBounds_toArray, List.set_cons_succ, List.set_cons_zero]
    refine wpAnyK_take' (i := 6) (.slice (some ⟨g', o', none⟩) p.paths.length pc') rfl (by kernel_rfl) (fun _ _ _ h => h) hS (yields_value (by kernel_rfl) (by intro w0 hw0; have hw1 := hw0; simp only [SP] at hw1; go_simp)) ?_; simp only [Act.put, List.getElem_toArray, List.getElem_cons_succ, List.getElem_cons_zero, List.setIfInBounds_toArray, List.set_cons_succ, List.set_cons_zero]
    refine wpAnyK_take' (i := 7) (.int .i64 j) rfl (by kernel_rfl) (fun _ _ _ h => h) hS (yields_value (by kernel_rfl) (by intro w0 hw0; have hw1 := hw0; simp only [SP] at hw1; go_simp)) ?_; simp only [Act.put, List.getElem_toArray, List.getElem_cons_succ, List.getElem_cons_zero, List.setIfInBounds_toArray, List.set_cons_succ, List.set_cons_zero]
    refine wpAnyK_take' (i := 8) (.pointer (some ⟨g', o' + j, none⟩)) rfl (by kernel_rfl) (fun _ _ _ h => h) hS (yields_value (by kernel_rfl) (by intro w0 hw0; have hw1 := hw0; simp only [SP] at hw1; go_simp)) ?_; simp only [Act.put, List.getElem_toArray, List.getElem_cons_succ, List.getElem_cons_zero, List.setIfInBounds_toArray, List.set_cons_succ, List.set_cons_zero]
    refine wpAnyK_take' (i := 9) (.slice qa' q.length qc') rfl (by kernel_rfl) (fun _ _ _ h => h) hS (yields_value (by kernel_rfl) (by intro w0 hw0; have hw1 := hw0; simp only [SP] at hw1; go_simp)) ?_; simp only [Act.put, List.getElem_toArray, List.getElem_cons_succ, List.getElem_cons_zero, List.setIfInBounds_toArray, List.set_cons_succ, List.set_cons_zero]
    refine wpAnyK_call (i := 10) rfl (by kernel_rfl) (by kernel_rfl) fun K10 hK10 => ?_
    go_simp
    go_wp2_with fail
    refine (HI.out _ hbd).mono ?_
    rintro e w3 ⟨rfl, hb3⟩
    have hB3 : Below w.heap.size w w3 := hbd.trans (hb3.mono hzd)
    have hb13 : Below w1.heap.size w1 w3 := hbd1.trans (hb3.mono hbd1.size)
    have hS3 : SP w.heap.size (w.heap.size + 1) g (o + j) g' (o' + j) (some ⟨g, o, none⟩) (some ⟨g', o', none⟩) qa qa' p.paths.length pc pc' q.length qc qc' w3 := ⟨cell_at hb3 (by omega) hS.1, cell_at hb3 (by omega) hS.2.1, cell_at hb3 (by omega) hS.2.2.1, cell_at hb3 (by omega) hS.2.2.2⟩
    clear hS
    have hS := hS3
    go_wp2_with fail
    refine hK10 _ _ (fun _ => hS) ?_
    clear hK10
    refine wpAnyK_take' (i := 11) (.bool false) rfl (by kernel_rfl) (fun _ _ _ h => h) hS (yields_value (by kernel_rfl) (by intro w0 hw0; have hw1 := hw0; simp only [SP] at hw1; go_simp)) ?_; simp only [Act.put, List.getElem_toArray, List.getElem_cons_succ, List.getElem_cons_zero, List.setIfInBounds_toArray, List.set_cons_succ, List.set_cons_zero]
    refine wpAnyK_done (by kernel_rfl) ?_ _
    clear hS
    go_wp2
    case roundEnd =>
      go_roundw
      case rel => exact ⟨j + 1, by omega, by go_num, hb13.trans (by (repeat' (first | with_reducible exact Below.refl _ _ | with_reducible assumption | with_reducible refine Below.drew ?_ | with_reducible refine Below_drewN ?_ _ | with_reducible refine Below.alloc ?_ ?_ _ | with_reducible refine Below.setCell ?_ ?_ _ | omega | (simp; done) | (simp; omega))))⟩
      case measure => simp [intOf] <;> omega

end Go.Proofs.Ytagldmdeohenjaa

/-
  The document's Serves, at a good path.
-/
set_option linter.unusedSimpArgs false
set_option linter.unusedVariables false
namespace Go.St
open Go.RowKit
theorem length_ok {t : Topo} : ∀ (r had : List Int) (n : Int), (had ++ r).Nodup → (∀ s ∈ had ++ r, 0 ≤ s ∧ s < t.n) → linked t (had ++ r) = true → had ++ r ≠ [] → (lengthFrom t had n r).2 = true
  | [], had, n, _, _, _, h => by
    cases had with
    | nil => simp at h
    | cons a q => rfl
  | s :: r, had, n, hn, hr, hl, h => by
    have hs := hr s (by simp)
    have hnm : s ∉ had := fun hm => (List.nodup_append.1 hn).2.2 _ hm _ (by simp) rfl
    unfold lengthFrom
    rw [if_neg (by simp only [not_or]; exact ⟨by omega, by omega, hnm⟩)]
    cases hh : had.getLast? with
    | none =>
      have : had = [] := List.getLast?_eq_none_iff.1 hh
      subst this
      exact length_ok r [s] n (by simpa using hn) (by simpa using hr) (by simpa using hl) (by simp)
    | some q =>
      have hne : had ≠ [] := by rintro rfl; cases hh
      have e1 : had ++ s :: r = (had ++ [s]) ++ r := by simp
      have h6 := linked_left t _ _ (e1 ▸ hl)
      rw [linked_snoc t had s hne, Bool.and_eq_true, decide_eq_true_eq] at h6
      have hq : had.getLastD 0 = q := by rw [List.getLastD_eq_getLast?, hh]; rfl
      rw [hq] at h6
      dsimp only
      rw [if_neg h6.2]
      exact length_ok r (had ++ [s]) _ (e1 ▸ hn) (by rw [← e1]; exact hr) (e1 ▸ hl) (by simp)
theorem Good.ne {t : Topo} {f : Flow} {p : List Int} (h : Good t f p) : p ≠ [] := by rintro rfl; have := h.src; cases this
theorem Good.len {t : Topo} {f : Flow} {p : List Int} (h : Good t f p) : (lengthOf t p).2 = true := length_ok p [] 0 h.nodup h.rng h.link h.ne
/-- so many of the ways are met ahead of a place -/
def metAt (f : Flow) (p : List Int) (j met : Nat) : Prop := (p.take j).filter (fun s => decide (s ∈ f.via)) = f.via.take met ∧ met ≤ f.via.length
theorem met_in {t : Topo} {f : Flow} {p : List Int} (h : Good t f p) {j met : Nat} (hj : j < p.length) (hm : metAt f p j met) (hv : p[j] ∈ f.via) : f.via[met]? = some p[j] ∧ metAt f p (j + 1) (met + 1) := by
  have h5 := h.via
  have e : p = p.take j ++ p[j] :: p.drop (j + 1) := by rw [List.getElem_cons_drop, List.take_append_drop]
  rw [e, List.filter_append, hm.1, List.filter_cons, if_pos (by simpa using hv)] at h5
  have hl2 : (f.via.take met).length = met := by rw [List.length_take]; have := hm.2; omega
  have h6 : f.via[met]? = some p[j] := by
    conv => lhs; rw [← h5]
    rw [List.getElem?_append_right (by omega), hl2]; simp
  have hlt := (List.getElem?_eq_some_iff.1 h6).1
  refine ⟨h6, ?_, by omega⟩
  rw [List.take_succ_eq_append_getElem hj, List.filter_append, hm.1, List.take_add_one, h6]
  simp [hv]
theorem met_out {f : Flow} {p : List Int} {j met : Nat} (hj : j < p.length) (hm : metAt f p j met) (hv : p[j] ∉ f.via) : metAt f p (j + 1) met := by
  refine ⟨?_, hm.2⟩
  rw [List.take_succ_eq_append_getElem hj, List.filter_append, hm.1]
  simp [hv]
theorem met_end {t : Topo} {f : Flow} {p : List Int} (h : Good t f p) {j met : Nat} (hj : ¬ j < p.length) (hm : metAt f p j met) : met = f.via.length := by
  have := hm.1
  rw [List.take_of_length_le (by omega), h.via] at this
  have := congrArg List.length this
  rw [List.length_take] at this
  have := hm.2
  omega
theorem find_bad {t : Topo} {f : Flow} (h : (findOf t f).2 ≠ 0) : (findOf t f).1 = [] := by
  unfold findOf at h ⊢
  by_cases h1 : (topoWrong t).1 = 0
  case neg => rw [if_pos h1]
  rw [if_neg (by simp [h1])] at h ⊢
  by_cases h2 : (flowsWrong [f] t.n).1 = 0
  case neg => rw [if_pos h2]
  rw [if_neg (by simp [h2])] at h ⊢
  cases hb : (onS t f 9 [f.src] 0 0 (none, 0)).1 with
  | none => rfl
  | some p => rw [hb] at h; simp at h
end Go.St
namespace Go.Proofs.Ytagldmdeohenjaa
open Go.RowKit Go.St

set_option maxRecDepth 100000 in
set_option maxHeartbeats 8000000 in
theorem servesGood_c (t : Topo) (f : Flow) (p : List Int) (cs ds : List Value) (ok ok' ok'' : Nat → Prop) (pa : Option Addr) (pc : Nat) (w : World) (h : topoS.rep ok w cs t) (hf : flowS.rep ok' w ds f) (hp : rowRep intS ok'' w pa pc p) (hg : St.Good t f p) :
    Calls Try.prog 58 #[.agg cs.toArray, .agg ds.toArray, .slice pa p.length pc] w fun e w' => e = .returned (.bool true) ∧ Below w.heap.size w w' := by
  have hT := h
  obtain ⟨la, lc, rfl, hn, hr⟩ := h
  obtain ⟨va, vc, na, nc, rfl, hs, hd, hv, hno⟩ := id hf
  have hlx := hp.len_le
  have hp0 : 0 < p.length := List.length_pos_iff.2 hg.ne
  obtain ⟨pb, po, rfl, _, hpb, _⟩ := hp.get (List.getElem?_eq_getElem hp0)
  have hcell : ∀ (w' : World) (hw : Below w.heap.size w w') (m : Nat) (hm : m < p.length), w'.cell? ⟨pb, po + m, none⟩ = some (.int .i64 p[m]) := by
    intro w' hw m hm
    obtain ⟨pb', po', hbo, _, _, cs', ⟨rfl, _⟩, hce⟩ := hp.get (List.getElem?_eq_getElem hm)
    obtain ⟨rfl, rfl⟩ : pb = pb' ∧ po = po' := by simpa using hbo
    have := cell_at hw hpb (hce 0 _ rfl)
    simpa only [intS, Nat.add_zero, Nat.mul_one] using this
  have HCE := Lib.hid hcell
  clear hcell
  have hlen := hg.len
  have q0 : p[0] = f.src := by
    have := hg.src
    rw [List.head?_eq_getElem?, List.getElem?_eq_getElem hp0] at this
    exact Option.some.inj this
  have q1 : p[p.length - 1]'(by omega) = f.dst := by
    have := hg.dst
    rw [List.getLast?_eq_getElem?, List.getElem?_eq_getElem (by omega)] at this
    exact Option.some.inj this
  go_enter Try.func58, Try.ntmps58
  go_wp2_with fail
  refine (refLength_c t p _ ok ok'' _ pc _ (topoS.below hT (by (repeat' (first | with_reducible exact Below.refl _ _ | with_reducible assumption | with_reducible refine Below.drew ?_ | with_reducible refine Below_drewN ?_ _ | with_reducible refine Below.alloc ?_ ?_ _ | with_reducible refine Below.setCell ?_ ?_ _ | omega | (simp; done) | (simp; omega))))) (hp.below (by (repeat' (first | with_reducible exact Below.refl _ _ | with_reducible assumption | with_reducible refine Below.drew ?_ | with_reducible refine Below_drewN ?_ _ | with_reducible refine Below.alloc ?_ ?_ _ | with_reducible refine Below.setCell ?_ ?_ _ | omega | (simp; done) | (simp; omega)))))).mono ?_
  rintro e w1 ⟨rfl, hb1⟩
  have hB1 : Below w.heap.size w w1 := Below.trans (by (repeat' (first | with_reducible exact Below.refl _ _ | with_reducible assumption | with_reducible refine Below.drew ?_ | with_reducible refine Below_drewN ?_ _ | with_reducible refine Below.alloc ?_ ?_ _ | with_reducible refine Below.setCell ?_ ?_ _ | omega | (simp; done) | (simp; omega)))) (hb1.mono (by simp; omega))
  have hF1 : blockIs w1 (w.heap.size + 1) 64 #[.int .i64 f.src, .int .i64 f.dst, .slice va f.via.length vc, .slice na f.no.length nc] := (blockIs.new (by simp)).under hb1
  obtain ⟨f1, f2⟩ := hF1.cells
  have hz1 := hF1.lt
  rw [hlen]
  clear hb1 hlen
  have e0 := HCE.out w1 hB1 0 hp0
  have e1 := HCE.out w1 hB1 (p.length - 1) (by omega)
  rw [q0, Nat.add_zero] at e0
  rw [q1] at e1
  clear q0 q1
  have k1 : IntKind.i64.wrap ((p.length : Int) - 1) = ((p.length - 1 : Nat) : Int) := by rw [IntWalk.i64_in _ (by omega)]; omega
  have k2 : (0 : Int) ≤ ((p.length - 1 : Nat) : Int) := by omega
  have k3 : ((p.length - 1 : Nat) : Int) < (p.length : Int) := by omega
  have k4 : (((p.length - 1 : Nat) : Int)).toNat = p.length - 1 := by omega
  have k5 : (0 : Int) < (p.length : Int) := by omega
  go_wp2
  go_quiet (fail)
  go_wp2
  go_loop [9, 11, 41] (fun m _ i => ∃ j met : Nat, j ≤ p.length ∧ m = .int .i64 met ∧ i = .int .i64 j ∧ Hid (metAt f p j met)) (fun _ _ i => p.length - (intOf i).toNat)
  case atStart => exact ⟨0, 0, Nat.zero_le _, rfl, rfl, by show metAt _ _ _ _; exact ⟨by simp, Nat.zero_le _⟩⟩
  case round =>
    obtain ⟨j, met, hj, rfl, rfl, hmet⟩ := hrel
    by_cases hlt : j < p.length
    case neg =>
      have HE := Lib.hid (met_end hg hlt hmet.out)
      have b1 : ¬ (j : Int) < (p.length : Int) := by omega
      have hm : ((met : Int) == (f.via.length : Int)) = true := by rw [beq_iff_eq]; have := HE.out; omega
      clear hmet
      go_wp2
      go_ret; exact ⟨rfl, by (repeat' (first | with_reducible exact Below.refl _ _ | with_reducible assumption | with_reducible refine Below.drew ?_ | with_reducible refine Below_drewN ?_ _ | with_reducible refine Below.alloc ?_ ?_ _ | with_reducible refine Below.setCell ?_ ?_ _ | omega | (simp; done) | (simp; omega)))⟩
    have e2 := HCE.out w1 hB1 j hlt
    have hsn : decide (p[j] ∈ f.no) = false := decide_eq_false (hg.no _ (List.getElem_mem hlt))
    have hcn := fun w' (hw : Below w.heap.size w w') => in_c f.no p[j] ok' na nc w' (hno.below hw)
    have hcv := fun w' (hw : Below w.heap.size w w') => in_c f.via p[j] ok' va vc w' (hv.below hw)
    rw [hsn] at hcn
    have b0 : (0 : Int) ≤ (j : Int) := by omega
    have b1 : (j : Int) < (p.length : Int) := by omega
    by_cases hvia : p[j] ∈ f.via
    · obtain ⟨m1, m2⟩ := met_in hg hlt hmet.out hvia
      obtain ⟨vb, vo, rfl, _, hvb, cs', ⟨rfl, _⟩, hce⟩ := hv.get m1
      have e3 := cell_at hB1 hvb (hce 0 _ rfl)
      simp only [intS, Nat.add_zero, Nat.mul_one] at e3
      have hml := (List.getElem?_eq_some_iff.1 m1).1
      have d0 : (0 : Int) ≤ (met : Int) := by omega
      have d1 : (met : Int) < (f.via.length : Int) := by omega
      have d2 : IntKind.i64.wrap ((met : Int) + 1) = (met : Int) + 1 := IntWalk.i64_in _ (by have := hv.len_le; omega)
      rw [decide_eq_true hvia] at hcv
      have HM := Lib.hid m2
      have HCN := Lib.hid hcn
      have HCV := Lib.hid hcv
      clear hce m1 m2 hmet hvia hsn hcn hcv
      generalize p[j] = s at *
      go_wp2_with fail
      refine (HCN.out _ (by (repeat' (first | with_reducible exact Below.refl _ _ | with_reducible assumption | with_reducible refine Below.drew ?_ | with_reducible refine Below_drewN ?_ _ | with_reducible refine Below.alloc ?_ ?_ _ | with_reducible refine Below.setCell ?_ ?_ _ | omega | (simp; done) | (simp; omega))))).mono ?_
      rintro e w2 ⟨rfl, rfl⟩
      go_wp2_with fail
      refine (HCV.out _ (by (repeat' (first | with_reducible exact Below.refl _ _ | with_reducible assumption | with_reducible refine Below.drew ?_ | with_reducible refine Below_drewN ?_ _ | with_reducible refine Below.alloc ?_ ?_ _ | with_reducible refine Below.setCell ?_ ?_ _ | omega | (simp; done) | (simp; omega))))).mono ?_
      rintro e w2 ⟨rfl, rfl⟩
      go_wp2
      go_round
      case rel => exact ⟨j + 1, met + 1, by omega, by go_num, by go_num, HM⟩
      case measure => simp [intOf]; omega
    · have HM := Lib.hid (met_out hlt hmet.out hvia)
      rw [decide_eq_false hvia] at hcv
      have HCN := Lib.hid hcn
      have HCV := Lib.hid hcv
      clear hmet hvia hsn hcn hcv
      generalize p[j] = s at *
      go_wp2_with fail
      refine (HCN.out _ (by (repeat' (first | with_reducible exact Below.refl _ _ | with_reducible assumption | with_reducible refine Below.drew ?_ | with_reducible refine Below_drewN ?_ _ | with_reducible refine Below.alloc ?_ ?_ _ | with_reducible refine Below.setCell ?_ ?_ _ | omega | (simp; done) | (simp; omega))))).mono ?_
      rintro e w2 ⟨rfl, rfl⟩
      go_wp2_with fail
      refine (HCV.out _ (by (repeat' (first | with_reducible exact Below.refl _ _ | with_reducible assumption | with_reducible refine Below.drew ?_ | with_reducible refine Below_drewN ?_ _ | with_reducible refine Below.alloc ?_ ?_ _ | with_reducible refine Below.setCell ?_ ?_ _ | omega | (simp; done) | (simp; omega))))).mono ?_
      rintro e w2 ⟨rfl, rfl⟩
      go_wp2
      go_round
      case rel => exact ⟨j + 1, met, by omega, rfl, by go_num, HM⟩
      case measure => simp [intOf]; omega

end Go.Proofs.Ytagldmdeohenjaa

/-
  What the document's Serves tells, plainly; what good paths cost.
-/
set_option linter.unusedSimpArgs false
set_option linter.unusedVariables false
namespace Go.St
open Go.RowKit
def servesFrom (f : Flow) : Nat → List Int → Bool
  | met, [] => decide (met = f.via.length)
  | met, s :: r => if s ∈ f.no then false else if s ∈ f.via then (if f.via[met]? = some s then servesFrom f (met + 1) r else false) else servesFrom f met r
def servesB (t : Topo) (f : Flow) (p : List Int) : Bool := (lengthOf t p).2 && (decide (p.head? = some f.src) && (decide (p.getLast? = some f.dst) && servesFrom f 0 p))

theorem serves_all {f : Flow} : ∀ (r : List Int) (met : Nat), servesFrom f met r = true → (∀ s ∈ r, s ∉ f.no) ∧ r.filter (fun s => decide (s ∈ f.via)) = f.via.drop met
  | [], met, h => by
    simp [servesFrom] at h
    refine ⟨by simp, ?_⟩
    rw [h, List.drop_length]; rfl
  | s :: r, met, h => by
    unfold servesFrom at h
    by_cases h1 : s ∈ f.no
    · rw [if_pos h1] at h; cases h
    rw [if_neg h1] at h
    by_cases h2 : s ∈ f.via
    · rw [if_pos h2] at h
      by_cases h3 : f.via[met]? = some s
      · rw [if_pos h3] at h
        obtain ⟨g1, g2⟩ := serves_all r (met + 1) h
        obtain ⟨hl, he⟩ := List.getElem?_eq_some_iff.1 h3
        refine ⟨fun x hx => by rcases List.mem_cons.1 hx with rfl | hx; exact h1; exact g1 x hx, ?_⟩
        rw [List.filter_cons, if_pos (by simpa using h2), g2, List.drop_eq_getElem_cons hl, he]
      · rw [if_neg h3] at h; cases h
    · rw [if_neg h2] at h
      obtain ⟨g1, g2⟩ := serves_all r met h
      refine ⟨fun x hx => by rcases List.mem_cons.1 hx with rfl | hx; exact h1; exact g1 x hx, ?_⟩
      rw [List.filter_cons, if_neg (by simpa using h2), g2]

theorem length_inv {t : Topo} : ∀ (r had : List Int) (n : Int), had.Nodup → (∀ s ∈ had, 0 ≤ s ∧ s < t.n) → linked t had = true → (lengthFrom t had n r).2 = true → (had ++ r).Nodup ∧ (∀ s ∈ had ++ r, 0 ≤ s ∧ s < t.n) ∧ linked t (had ++ r) = true
  | [], had, n, h1, h2, h3, _ => by rw [List.append_nil]; exact ⟨h1, h2, h3⟩
  | s :: r, had, n, h1, h2, h3, h => by
    unfold lengthFrom at h
    by_cases h0 : s < 0 ∨ t.n ≤ s ∨ s ∈ had
    · rw [if_pos h0] at h; cases h
    rw [if_neg h0] at h
    have e1 : had ++ s :: r = (had ++ [s]) ++ r := by simp
    have hnd : (had ++ [s]).Nodup := by
      rw [List.nodup_append]
      exact ⟨h1, List.nodup_cons.2 ⟨by simp, List.nodup_nil⟩, fun a ha b hb e => by
        have hb' : b = s := by simpa using hb
        exact h0 (.inr (.inr (hb' ▸ e ▸ ha)))⟩
    have hrg : ∀ x ∈ had ++ [s], 0 ≤ x ∧ x < t.n := by
      intro x hx
      rcases List.mem_append.1 hx with hx | hx
      · exact h2 x hx
      · have : x = s := by simpa using hx
        subst this
        exact ⟨Int.not_lt.1 fun h => h0 (.inl h), Int.not_le.1 fun h => h0 (.inr (.inl h))⟩
    rw [e1]
    cases hh : had.getLast? with
    | none =>
      have : had = [] := List.getLast?_eq_none_iff.1 hh
      subst this
      rw [hh] at h
      exact length_inv r [s] n hnd hrg rfl h
    | some q =>
      have hne : had ≠ [] := by rintro rfl; cases hh
      have hq : had.getLastD 0 = q := by rw [List.getLastD_eq_getLast?, hh]; rfl
      rw [hh] at h
      dsimp only at h
      by_cases hc : costOf t q s = 0
      · rw [if_pos hc] at h; cases h
      rw [if_neg hc] at h
      exact length_inv r (had ++ [s]) _ hnd hrg (by rw [linked_snoc t had s hne, h3, Bool.true_and, decide_eq_true_eq, hq]; exact hc) h

theorem length_nd {t : Topo} {p : List Int} (h : (lengthOf t p).2 = true) : p.Nodup ∧ (∀ s ∈ p, 0 ≤ s ∧ s < t.n) ∧ linked t p = true := length_inv p [] 0 List.nodup_nil (by simp) rfl h

theorem serves_good {t : Topo} {f : Flow} {p : List Int} (h : servesB t f p = true) : Good t f p := by
  unfold servesB at h
  simp only [Bool.and_eq_true, decide_eq_true_eq] at h
  obtain ⟨h1, h2, h3, h4⟩ := h
  obtain ⟨g1, g2, g3⟩ := length_nd h1
  obtain ⟨k1, k2⟩ := serves_all p 0 h4
  exact ⟨h2, h3, g3, g1, g2, k1, by simpa using k2⟩

theorem length_cost {t : Topo} (hc : ∀ a b, 0 ≤ costOf t a b ∧ costOf t a b ≤ 1000) : ∀ (r had : List Int) (n : Int), (had ++ r).Nodup → (∀ s ∈ had ++ r, 0 ≤ s ∧ s < t.n) → linked t (had ++ r) = true → had ++ r ≠ [] → n = pathCost t had → 0 ≤ n → n ≤ 1000 * had.length → (had ++ r).length ≤ 1000000 →
    lengthFrom t had n r = (pathCost t (had ++ r), true)
  | [], had, n, _, _, _, h, hn, _, _, _ => by
    cases had with
    | nil => simp at h
    | cons a q => simp [lengthFrom, hn]
  | s :: r, had, n, hn, hr, hl, h, hp, h0, h1, hlen => by
    have hs := hr s (by simp)
    have hnm : s ∉ had := fun hm => (List.nodup_append.1 hn).2.2 _ hm _ (by simp) rfl
    have e1 : had ++ s :: r = (had ++ [s]) ++ r := by simp
    unfold lengthFrom
    rw [if_neg (by simp only [not_or]; exact ⟨by omega, by omega, hnm⟩)]
    cases hh : had.getLast? with
    | none =>
      have : had = [] := List.getLast?_eq_none_iff.1 hh
      subst this
      exact length_cost hc r [s] n (by simpa using hn) (by simpa using hr) (by simpa using hl) (by simp) (by simpa [pathCost] using hp) h0 (by simp at h1; simp; omega) (by simpa using hlen)
    | some q =>
      have hne : had ≠ [] := by rintro rfl; cases hh
      have h6 := linked_left t _ _ (e1 ▸ hl)
      rw [linked_snoc t had s hne, Bool.and_eq_true, decide_eq_true_eq] at h6
      have hq : had.getLastD 0 = q := by rw [List.getLastD_eq_getLast?, hh]; rfl
      rw [hq] at h6
      obtain ⟨c0, c1⟩ := hc q s
      have hll : had.length ≤ 1000000 := by simp at hlen; omega
      have hw : IntKind.i64.wrap (n + costOf t q s) = n + costOf t q s := IntWalk.i64_in _ (by omega)
      dsimp only
      rw [if_neg h6.2, hw, e1]
      exact length_cost hc r (had ++ [s]) _ (e1 ▸ hn) (by rw [← e1]; exact hr) (e1 ▸ hl) (by simp) (by rw [pathCost_snoc t had s hne, hq, hp]) (by omega) (by simp; omega) (by rw [← e1]; exact hlen)
theorem good_length {t : Topo} {f : Flow} {p : List Int} (ht : (topoWrong t).1 = 0) (h : Good t f p) : lengthOf t p = (pathCost t p, true) := by
  have hl := nodup_len h.nodup h.rng
  have := (topo_right ht).1
  exact length_cost (cost_range ht) p [] 0 h.nodup h.rng h.link h.ne rfl (Int.le_refl 0) (by simp) (by simp; omega)

theorem lexLe_get : ∀ {p q : List Int}, lexLe p q = true → ∀ (j : Nat), (∀ i, i < j → p[i]? = q[i]?) → j < p.length → (∃ a b, p[j]? = some a ∧ q[j]? = some b ∧ a ≤ b)
  | [], _, _, j, _, hj => by simp at hj
  | a :: r, [], h, _, _, _ => by simp [lexLe] at h
  | a :: r, b :: s, h, j, he, hj => by
    simp only [lexLe, Bool.or_eq_true, Bool.and_eq_true, decide_eq_true_eq] at h
    cases j with
    | zero => exact ⟨a, b, rfl, rfl, by omega⟩
    | succ j =>
      have h0 := he 0 (by omega)
      simp at h0
      subst h0
      have hr : lexLe r s = true := by rcases h with h | h; omega; exact h.2
      have := lexLe_get hr j (fun i hi => by have := he (i + 1) (by omega); simpa using this) (by simpa using hj)
      simpa using this
end Go.St

/-
  A part of a cheapest path is a cheapest path.
-/
set_option linter.unusedSimpArgs false
set_option linter.unusedVariables false
namespace Go.St

theorem linked_right (t : Topo) : ∀ (a b : List Int), linked t (a ++ b) = true → linked t b = true
  | [], _, h => h
  | [x], [], _ => rfl
  | [x], y :: r, h => by simp only [List.cons_append, List.nil_append, linked, Bool.and_eq_true] at h; exact h.2
  | x :: y :: a, b, h => by
    simp only [List.cons_append, linked, Bool.and_eq_true] at h
    exact linked_right t (y :: a) b h.2
theorem pathCost_right {t : Topo} (hc : CostsOk t) : ∀ (a b : List Int), pathCost t b ≤ pathCost t (a ++ b)
  | [], _ => Int.le_refl _
  | [x], [] => Int.le_refl _
  | [x], y :: r => by have := hc x y; simp only [List.cons_append, List.nil_append, pathCost]; omega
  | x :: y :: a, b => by
    have h1 := pathCost_right hc (y :: a) b
    have := hc x y
    simp only [List.cons_append, pathCost] at h1 ⊢
    omega
theorem pathCost_split (t : Topo) (x : Int) : ∀ (a b : List Int), pathCost t (a ++ x :: b) = pathCost t (a ++ [x]) + pathCost t (x :: b)
  | [], b => by simp [pathCost]
  | [y], b => by simp [pathCost]
  | y :: z :: a, b => by
    have h1 := pathCost_split t x (z :: a) b
    simp only [List.cons_append, pathCost] at h1 ⊢
    omega
theorem linked_join (t : Topo) (x : Int) : ∀ (a b : List Int), linked t (a ++ [x]) = true → linked t (x :: b) = true → linked t (a ++ x :: b) = true
  | [], b, _, h => h
  | [y], b, h1, h2 => by
    simp only [List.cons_append, List.nil_append, linked, Bool.and_eq_true] at h1 ⊢
    exact ⟨h1.1, h2⟩
  | y :: z :: a, b, h1, h2 => by
    simp only [List.cons_append, linked, Bool.and_eq_true] at h1 ⊢
    exact ⟨h1.1, linked_join t x (z :: a) b h1.2 h2⟩

/-- a walk has a path that costs no more -/
theorem simple {t : Topo} (hc : CostsOk t) : ∀ (W : List Int), W ≠ [] → linked t W = true →
    ∃ P, P.head? = W.head? ∧ P.getLast? = W.getLast? ∧ linked t P = true ∧ P.Nodup ∧ (∀ s ∈ P, s ∈ W) ∧ pathCost t P ≤ pathCost t W
  | [], h, _ => (h rfl).elim
  | [x], _, _ => ⟨[x], rfl, rfl, rfl, by simp, by simp, Int.le_refl _⟩
  | x :: y :: r, _, hl => by
    simp only [linked, Bool.and_eq_true] at hl
    obtain ⟨P, h1, h2, h3, h4, h5, h6⟩ := simple hc (y :: r) (by simp) hl.2
    have hxy := hc x y
    by_cases hx : x ∈ P
    · obtain ⟨a, b, rfl⟩ := List.append_of_mem hx
      refine ⟨x :: b, rfl, ?_, linked_right t a _ h3, (List.nodup_append.1 h4).2.1, fun s hs => List.mem_cons_of_mem _ (h5 s (List.mem_append_right _ hs)), ?_⟩
      · rw [List.getLast?_cons_cons, ← h2, List.getLast?_append, List.getLast?_eq_some_getLast (by simp : x :: b ≠ [])]
        rfl
      · have := pathCost_right hc a (x :: b)
        simp only [pathCost] at h6 ⊢
        omega
    · obtain ⟨s, P', rfl⟩ : ∃ s P', P = s :: P' := by cases P with | nil => cases h1 | cons s P' => exact ⟨s, P', rfl⟩
      obtain rfl : s = y := by simpa using h1
      refine ⟨x :: s :: P', rfl, ?_, by simp only [linked, Bool.and_eq_true]; exact ⟨hl.1, h3⟩, List.nodup_cons.2 ⟨hx, h4⟩, fun z hz => ?_, ?_⟩
      · rw [List.getLast?_cons_cons, List.getLast?_cons_cons]; exact h2
      · rcases List.mem_cons.1 hz with rfl | hz
        · simp
        · exact List.mem_cons_of_mem _ (h5 z hz)
      · simp only [pathCost] at h6 ⊢
        omega

/-- a part of a cheapest path -/
theorem part_cost {t : Topo} {s d : Int} {j : Nat} (h : (findOf t ⟨s, d, [], []⟩).2 = 0) (hj : j + 1 < (findOf t ⟨s, d, [], []⟩).1.length) {x : Int} (hx : (findOf t ⟨s, d, [], []⟩).1[j]? = some x) :
    (findOf t ⟨x, d, [], []⟩).2 = 0 ∧ Good t ⟨x, d, [], []⟩ ((findOf t ⟨s, d, [], []⟩).1.drop j) ∧ Good t ⟨x, d, [], []⟩ (findOf t ⟨x, d, [], []⟩).1 ∧
      pathCost t ((findOf t ⟨s, d, [], []⟩).1.drop j) = pathCost t (findOf t ⟨x, d, [], []⟩).1 := by
  obtain ⟨ht, hf, hg, hmin⟩ := find_good h
  generalize (findOf t ⟨s, d, [], []⟩).1 = p at *
  have hc : CostsOk t := fun a b => (cost_range ht a b).1
  obtain ⟨hjl, hxe⟩ := List.getElem?_eq_some_iff.1 hx
  have hdrop : p.drop j = x :: p.drop (j + 1) := by rw [List.drop_eq_getElem_cons hjl, hxe]
  have hsplit : p = p.take j ++ x :: p.drop (j + 1) := by rw [← hdrop, List.take_append_drop]
  have hxr := hg.rng x (List.mem_of_getElem? hx)
  have hlast : (p.drop j).getLast? = some d := by
    have := hg.dst
    rw [hsplit, List.getLast?_append, List.getLast?_eq_some_getLast (by simp : x :: p.drop (j + 1) ≠ [])] at this
    rw [hdrop, List.getLast?_eq_some_getLast (by simp : x :: p.drop (j + 1) ≠ [])]
    exact this
  have hnd := hg.nodup
  have hxd : x ≠ d := by
    intro e
    rw [hsplit] at hnd
    have h2 := (List.nodup_append.1 hnd).2.1
    have hne : p.drop (j + 1) ≠ [] := by rw [Ne, List.drop_eq_nil_iff]; omega
    rw [hdrop, List.getLast?_cons, List.getLast?_eq_some_getLast hne] at hlast
    have hm : d ∈ p.drop (j + 1) := by
      have h3 : (p.drop (j + 1)).getLast hne = d := Option.some.inj hlast
      exact h3 ▸ List.getLast_mem hne
    exact (List.nodup_cons.1 h2).1 (e ▸ hm)
  have hgd : Good t ⟨x, d, [], []⟩ (p.drop j) := by
    refine ⟨by rw [hdrop]; rfl, hlast, ?_, ?_, fun z hz => hg.rng z (List.mem_of_mem_drop hz), fun z _ => by simp, by simp⟩
    · have := hg.link; rw [hsplit] at this; rw [hdrop]; exact linked_right t _ _ this
    · rw [hsplit] at hnd; rw [hdrop]; exact (List.nodup_append.1 hnd).2.1
  have hf' : FlowOk t.n ⟨x, d, [], []⟩ := ⟨hxr.1, hxr.2, hf.d0, hf.d1, hxd, List.nodup_nil, by simp, by simp, by simp⟩
  have hfb : flowBad t.n ⟨x, d, [], []⟩ = 0 := by
    have h1 := hf.d0
    have h2 := hf.d1
    dsimp only at h1 h2
    unfold flowBad
    dsimp only
    rw [if_neg (by omega), if_neg hxd]
    simp [listBad]
  have h0 : (findOf t ⟨x, d, [], []⟩).2 = 0 := by
    have L := search_leaves ht hf'
    obtain ⟨b, hb, _⟩ := L.beats (p.drop (j + 1)) (by have := hgd; rw [hdrop] at this; exact this)
    unfold findOf
    rw [if_neg (by simp [ht]), if_neg (by rw [flows1, hfb]; simp), hb]
  obtain ⟨_, _, hg', hmin'⟩ := find_good h0
  refine ⟨h0, hgd, hg', ?_⟩
  generalize (findOf t ⟨x, d, [], []⟩).1 = q at *
  have hle : pathCost t q ≤ pathCost t (p.drop j) := by rcases hmin' _ hgd with h | h <;> omega
  obtain ⟨B, rfl⟩ : ∃ B, q = x :: B := by
    have := hg'.src
    cases q with
    | nil => cases this
    | cons a B => exact ⟨B, by simp at this; rw [this]⟩
  -- the walk
  have hlk : linked t (p.take j ++ [x]) = true := by
    have := hg.link
    rw [hsplit, show p.take j ++ x :: p.drop (j + 1) = (p.take j ++ [x]) ++ p.drop (j + 1) by simp] at this
    exact linked_left t _ _ this
  obtain ⟨P, k1, k2, k3, k4, k5, k6⟩ := simple hc (p.take j ++ x :: B) (by simp) (linked_join t x _ _ hlk hg'.link)
  have hP : Good t ⟨s, d, [], []⟩ P := by
    refine ⟨?_, ?_, k3, k4, fun z hz => ?_, fun z _ => by simp, by simp⟩
    · rw [k1]
      have := hg.src
      rw [hsplit] at this
      rw [List.head?_append] at this ⊢
      simpa using this
    · rw [k2, List.getLast?_append, hg'.dst]; rfl
    · rcases List.mem_append.1 (k5 z hz) with h | h
      · exact hg.rng z (List.mem_of_mem_take h)
      · exact hg'.rng z h
  have hpP : pathCost t p ≤ pathCost t P := by rcases hmin P hP with h | h <;> omega
  have e1 := pathCost_split t x (p.take j) (p.drop (j + 1))
  have e2 := pathCost_split t x (p.take j) B
  rw [← hsplit] at e1
  rw [hdrop] at hle ⊢
  omega
end Go.St

/-
  A path that is gone back costs the same; its parts as much together; plainly.
-/
set_option linter.unusedSimpArgs false
set_option linter.unusedVariables false
namespace Go.St

theorem pathCost_le {t : Topo} (hc : ∀ a b, costOf t a b ≤ 1000) : ∀ p : List Int, pathCost t p ≤ 1000 * p.length
  | [] => by simp [pathCost]
  | [_] => by simp [pathCost]
  | a :: b :: r => by
    have h1 := pathCost_le hc (b :: r)
    have h2 := hc a b
    simp only [pathCost, List.length_cons] at *
    omega

theorem nice {t : Topo} {p : List Int} (ht : (topoWrong t).1 = 0) (hne : p ≠ []) (hnd : p.Nodup) (hrg : ∀ s ∈ p, 0 ≤ s ∧ s < t.n) (hl : linked t p = true) : lengthOf t p = (pathCost t p, true) ∧ 0 ≤ pathCost t p ∧ p.length ≤ 8 := by
  have h8 := nodup_len hnd hrg
  have hn := (topo_right ht).1.2.1
  refine ⟨?_, pathCost_nonneg (fun a b => (cost_range ht a b).1) p, by omega⟩
  have := length_cost (t := t) (cost_range ht) p [] 0 (by simpa using hnd) (by simpa using hrg) (by simpa using hl) (by simpa using hne) rfl (by omega) (by simp) (by simp; omega)
  simpa [lengthOf] using this

theorem last_rev (b : Int) (r : List Int) : (b :: r).reverse.getLastD 0 = b := by simp [List.getLastD_eq_getLast?]
theorem rev_cost (t : Topo) : ∀ p : List Int, pathCost t p.reverse = pathCost t p ∧ linked t p.reverse = linked t p
  | [] => ⟨rfl, rfl⟩
  | [_] => ⟨rfl, rfl⟩
  | a :: b :: r => by
    obtain ⟨h1, h2⟩ := rev_cost t (b :: r)
    have hne : (b :: r).reverse ≠ [] := by simp
    rw [show (a :: b :: r).reverse = (b :: r).reverse ++ [a] by simp]
    rw [pathCost_snoc t _ _ hne, linked_snoc t _ _ hne, last_rev, h1, h2, cost_symm t b a]
    refine ⟨?_, ?_⟩
    · simp only [pathCost]; omega
    · simp only [linked]; rw [Bool.and_comm]

theorem back_cost {t : Topo} {p : List Int} (ht : (topoWrong t).1 = 0) (h : (lengthOf t p).2 = true) :
    lengthOf t p = (pathCost t p, true) ∧ lengthOf t p.reverse = (pathCost t p, true) ∧ p.length ≤ 8 ∧
      ∀ j, j < p.length → ∃ a b, lengthOf t (p.take (j + 1)) = (a, true) ∧ lengthOf t (p.drop j) = (b, true) ∧ a + b = pathCost t p ∧ I64 (a + b) := by
  have hne : p ≠ [] := by
    rintro rfl
    simp [lengthOf, lengthFrom] at h
  obtain ⟨hnd, hrg, hl⟩ := length_nd h
  obtain ⟨n1, n2, n3⟩ := nice ht hne hnd hrg hl
  obtain ⟨r1, r2⟩ := rev_cost t p
  refine ⟨n1, ?_, n3, fun j hj => ?_⟩
  · have := (nice ht (p := p.reverse) (by simpa using hne) ((List.reverse_perm p).nodup_iff.2 hnd) (by simpa using hrg) (by rw [r2]; exact hl)).1
    rw [r1] at this
    exact this
  · have hd : p.drop j = p[j] :: p.drop (j + 1) := List.drop_eq_getElem_cons hj
    have htk : p.take (j + 1) = p.take j ++ [p[j]] := List.take_succ_eq_append_getElem hj
    have hsplit : p = p.take j ++ p[j] :: p.drop (j + 1) := by rw [← hd, List.take_append_drop]
    have hc := pathCost_split t p[j] (p.take j) (p.drop (j + 1))
    rw [← hsplit, ← hd, ← htk] at hc
    have hl1 : linked t (p.take (j + 1)) = true := linked_left t _ (p.drop (j + 1)) (by rw [List.take_append_drop]; exact hl)
    have hl2 : linked t (p.drop j) = true := linked_right t (p.take j) _ (by rw [List.take_append_drop]; exact hl)
    have h1 := nice ht (p := p.take (j + 1)) (by rw [htk]; exact List.append_ne_nil_of_right_ne_nil _ (by simp)) (hnd.sublist (List.take_sublist _ _)) (fun s hs => hrg s (List.mem_of_mem_take hs)) hl1
    have h2 := nice ht (p := p.drop j) (by rw [hd]; exact List.cons_ne_nil _ _) (hnd.sublist (List.drop_sublist _ _)) (fun s hs => hrg s (List.mem_of_mem_drop hs)) hl2
    refine ⟨_, _, h1.1, h2.1, hc.symm, ?_⟩
    rw [← hc]
    have hI : I64 (lengthOf t p).1 → I64 (pathCost t p) := by rw [n1]; exact id
    have hle : pathCost t p ≤ 1000 * p.length := pathCost_le (fun a b => (cost_range ht a b).2) p
    simp only [I64]
    omega
end Go.St

/-
  The contract of the document's Serves.
-/
set_option linter.unusedSimpArgs false
set_option linter.unusedVariables false
namespace Go.St
open Go.RowKit
/-- the ways that are met lie behind -/
def metIn (f : Flow) (p : List Int) (j met : Nat) : Prop := ∀ i, i < met → ∃ x, f.via[i]? = some x ∧ x ∈ p.take j
theorem metIn.step {f : Flow} {p : List Int} {j met : Nat} (hj : j < p.length) (h : metIn f p j met) : metIn f p (j + 1) met := fun i hi => by
  obtain ⟨x, h1, h2⟩ := h i hi
  exact ⟨x, h1, by rw [List.take_succ_eq_append_getElem hj]; exact List.mem_append_left _ h2⟩
theorem metIn.more {f : Flow} {p : List Int} {j met : Nat} (hj : j < p.length) (h : metIn f p j met) (hv : f.via[met]? = some p[j]) : metIn f p (j + 1) (met + 1) := fun i hi => by
  by_cases e : i = met
  · subst e
    exact ⟨_, hv, by rw [List.take_succ_eq_append_getElem hj]; exact List.mem_append_right _ (List.mem_singleton.2 rfl)⟩
  · exact h.step hj i (by omega)
theorem metIn.lt {f : Flow} {p : List Int} {j met : Nat} (hn : p.Nodup) (hj : j < p.length) (h : metIn f p j met) (hv : p[j] ∈ f.via) : met < f.via.length := by
  obtain ⟨i, hi, he⟩ := List.getElem_of_mem hv
  by_cases hlt : i < met
  · exfalso
    obtain ⟨x, h1, h2⟩ := h i hlt
    rw [List.getElem?_eq_getElem hi, he] at h1
    have hx := Option.some.inj h1
    rw [← hx] at h2
    obtain ⟨k, hk, hke⟩ := List.mem_take_iff_getElem.1 h2
    have := nodup_idx hn (by omega) hj hke
    omega
  · omega
theorem sv_no {f : Flow} {p : List Int} {j met : Nat} {b : Bool} (hj : j < p.length) (h : b = servesFrom f met (p.drop j)) (h1 : p[j] ∈ f.no) : b = false := by
  rw [h, List.drop_eq_getElem_cons hj, servesFrom, if_pos h1]
theorem sv_bad {f : Flow} {p : List Int} {j met : Nat} {b : Bool} (hj : j < p.length) (h : b = servesFrom f met (p.drop j)) (h1 : p[j] ∉ f.no) (h2 : p[j] ∈ f.via) (h3 : f.via[met]? ≠ some p[j]) : b = false := by
  rw [h, List.drop_eq_getElem_cons hj, servesFrom, if_neg h1, if_pos h2, if_neg h3]
theorem sv_in {f : Flow} {p : List Int} {j met : Nat} {b : Bool} (hj : j < p.length) (h : b = servesFrom f met (p.drop j)) (h1 : p[j] ∉ f.no) (h2 : p[j] ∈ f.via) (h3 : f.via[met]? = some p[j]) : b = servesFrom f (met + 1) (p.drop (j + 1)) := by
  rw [h, List.drop_eq_getElem_cons hj, servesFrom, if_neg h1, if_pos h2, if_pos h3]
theorem sv_out {f : Flow} {p : List Int} {j met : Nat} {b : Bool} (hj : j < p.length) (h : b = servesFrom f met (p.drop j)) (h1 : p[j] ∉ f.no) (h2 : p[j] ∉ f.via) : b = servesFrom f met (p.drop (j + 1)) := by
  rw [h, List.drop_eq_getElem_cons hj, servesFrom, if_neg h1, if_neg h2]
theorem sv_end {f : Flow} {p : List Int} {j met : Nat} {b : Bool} (hj : ¬ j < p.length) (h : b = servesFrom f met (p.drop j)) : b = decide (met = f.via.length) := by
  rw [h, List.drop_of_length_le (by omega)]; rfl
theorem length_nil (t : Topo) : (lengthOf t []).2 = false := rfl
end Go.St
namespace Go.Proofs.Ytagldmdeohenjaa
open Go.RowKit Go.St

set_option maxRecDepth 100000 in
set_option maxHeartbeats 8000000 in
theorem serves_c (t : Topo) (f : Flow) (p : List Int) (cs ds : List Value) (ok ok' ok'' : Nat → Prop) (pa : Option Addr) (pc : Nat) (w : World) (h : topoS.rep ok w cs t) (hf : flowS.rep ok' w ds f) (hp : rowRep intS ok'' w pa pc p) :
    Calls Try.prog 58 #[.agg cs.toArray, .agg ds.toArray, .slice pa p.length pc] w fun e w' => e = .returned (.bool (servesB t f p)) ∧ Below w.heap.size w w' := by
  have hT := h
  obtain ⟨la, lc, rfl, hn, hr⟩ := h
  obtain ⟨va, vc, na, nc, rfl, hs, hd, hv, hno⟩ := id hf
  have hlx := hp.len_le
  cases hlen : (lengthOf t p).2
  case false =>
    have hS : Hid (servesB t f p = false) := by show _ = _; unfold servesB; rw [hlen]; rfl
    go_enter Try.func58, Try.ntmps58
    go_wp2_with fail
    refine (refLength_c t p _ ok ok'' _ pc _ (topoS.below hT (by (repeat' (first | with_reducible exact Below.refl _ _ | with_reducible assumption | with_reducible refine Below.drew ?_ | with_reducible refine Below_drewN ?_ _ | with_reducible refine Below.alloc ?_ ?_ _ | with_reducible refine Below.setCell ?_ ?_ _ | omega | (simp; done) | (simp; omega))))) (hp.below (by (repeat' (first | with_reducible exact Below.refl _ _ | with_reducible assumption | with_reducible refine Below.drew ?_ | with_reducible refine Below_drewN ?_ _ | with_reducible refine Below.alloc ?_ ?_ _ | with_reducible refine Below.setCell ?_ ?_ _ | omega | (simp; done) | (simp; omega)))))).mono ?_
    rintro e w1 ⟨rfl, hb1⟩
    have hB1 : Below w.heap.size w w1 := Below.trans (by (repeat' (first | with_reducible exact Below.refl _ _ | with_reducible assumption | with_reducible refine Below.drew ?_ | with_reducible refine Below_drewN ?_ _ | with_reducible refine Below.alloc ?_ ?_ _ | with_reducible refine Below.setCell ?_ ?_ _ | omega | (simp; done) | (simp; omega)))) (hb1.mono (by simp; omega))
    have hF1 : blockIs w1 (w.heap.size + 1) 64 #[.int .i64 f.src, .int .i64 f.dst, .slice va f.via.length vc, .slice na f.no.length nc] := (blockIs.new (by simp)).under hb1
    obtain ⟨f1, f2⟩ := hF1.cells
    have hz1 := hF1.lt
    rw [hlen]
    clear hb1
    go_wp2
    go_quiet (fail)
    go_wp2
    go_ret; exact ⟨ret_bool hS.out.symm, by (repeat' (first | with_reducible exact Below.refl _ _ | with_reducible assumption | with_reducible refine Below.drew ?_ | with_reducible refine Below_drewN ?_ _ | with_reducible refine Below.alloc ?_ ?_ _ | with_reducible refine Below.setCell ?_ ?_ _ | omega | (simp; done) | (simp; omega)))⟩
  have hpne : p ≠ [] := by rintro rfl; rw [length_nil] at hlen; cases hlen
  have hp0 : 0 < p.length := List.length_pos_iff.2 hpne
  obtain ⟨hnd, _, _⟩ := length_nd hlen
  obtain ⟨pb, po, rfl, _, hpb, _⟩ := hp.get (List.getElem?_eq_getElem hp0)
  have hcell : ∀ (w' : World) (hw : Below w.heap.size w w') (m : Nat) (hm : m < p.length), w'.cell? ⟨pb, po + m, none⟩ = some (.int .i64 p[m]) := by
    intro w' hw m hm
    obtain ⟨pb', po', hbo, _, _, cs', ⟨rfl, _⟩, hce⟩ := hp.get (List.getElem?_eq_getElem hm)
    obtain ⟨rfl, rfl⟩ : pb = pb' ∧ po = po' := by simpa using hbo
    have := cell_at hw hpb (hce 0 _ rfl)
    simpa only [intS, Nat.add_zero, Nat.mul_one] using this
  have HCE := Lib.hid hcell
  clear hcell
  have hS : Hid (servesB t f p = (decide (p.head? = some f.src) && (decide (p.getLast? = some f.dst) && servesFrom f 0 p))) := by show _ = _; unfold servesB; rw [hlen]; rfl
  have q0 : p.head? = some p[0] := by rw [List.head?_eq_getElem?, List.getElem?_eq_getElem hp0]
  have q1 : p.getLast? = some (p[p.length - 1]'(by omega)) := by rw [List.getLast?_eq_getElem?, List.getElem?_eq_getElem (by omega)]
  have hS1 : Hid (p[0] ≠ f.src → servesB t f p = false) := fun h => by rw [hS.out, q0]; simp [h]
  have hS2 : Hid (p[0] = f.src → p[p.length - 1]'(by omega) ≠ f.dst → servesB t f p = false) := fun h1 h2 => by rw [hS.out, q1]; simp [h2]
  have hS3 : Hid (p[0] = f.src → p[p.length - 1]'(by omega) = f.dst → servesB t f p = servesFrom f 0 (p.drop 0)) := fun h1 h2 => by rw [hS.out, q0, q1, h1, h2]; simp
  clear hS q0 q1
  generalize servesB t f p = bb at *
  go_enter Try.func58, Try.ntmps58
  go_wp2_with fail
  refine (refLength_c t p _ ok ok'' _ pc _ (topoS.below hT (by (repeat' (first | with_reducible exact Below.refl _ _ | with_reducible assumption | with_reducible refine Below.drew ?_ | with_reducible refine Below_drewN ?_ _ | with_reducible refine Below.alloc ?_ ?_ _ | with_reducible refine Below.setCell ?_ ?_ _ | omega | (simp; done) | (simp; omega))))) (hp.below (by (repeat' (first | with_reducible exact Below.refl _ _ | with_reducible assumption | with_reducible refine Below.drew ?_ | with_reducible refine Below_drewN ?_ _ | with_reducible refine Below.alloc ?_ ?_ _ | with_reducible refine Below.setCell ?_ ?_ _ | omega | (simp; done) | (simp; omega)))))).mono ?_
  rintro e w1 ⟨rfl, hb1⟩
  have hB1 : Below w.heap.size w w1 := Below.trans (by (repeat' (first | with_reducible exact Below.refl _ _ | with_reducible assumption | with_reducible refine Below.drew ?_ | with_reducible refine Below_drewN ?_ _ | with_reducible refine Below.alloc ?_ ?_ _ | with_reducible refine Below.setCell ?_ ?_ _ | omega | (simp; done) | (simp; omega)))) (hb1.mono (by simp; omega))
  have hF1 : blockIs w1 (w.heap.size + 1) 64 #[.int .i64 f.src, .int .i64 f.dst, .slice va f.via.length vc, .slice na f.no.length nc] := (blockIs.new (by simp)).under hb1
  obtain ⟨f1, f2⟩ := hF1.cells
  have hz1 := hF1.lt
  rw [hlen]
  clear hb1 hlen
  have e0 := HCE.out w1 hB1 0 hp0
  have e1 := HCE.out w1 hB1 (p.length - 1) (by omega)
  rw [Nat.add_zero] at e0
  have k1 : IntKind.i64.wrap ((p.length : Int) - 1) = ((p.length - 1 : Nat) : Int) := by rw [IntWalk.i64_in _ (by omega)]; omega
  have k2 : (0 : Int) ≤ ((p.length - 1 : Nat) : Int) := by omega
  have k3 : ((p.length - 1 : Nat) : Int) < (p.length : Int) := by omega
  have k4 : (((p.length - 1 : Nat) : Int)).toNat = p.length - 1 := by omega
  have k5 : (0 : Int) < (p.length : Int) := by omega
  by_cases c0 : p[0] = f.src
  case neg =>
    have HH := Lib.hid (hS1.out c0)
    have c0' : (p[0] != f.src) = true := by rw [bne_iff_ne]; exact c0
    clear hS1 hS2 hS3 c0 HCE
    generalize p[0] = x0 at *
    go_wp2
    go_quiet (fail)
    go_wp2
    go_ret; exact ⟨ret_bool HH.out.symm, by (repeat' (first | with_reducible exact Below.refl _ _ | with_reducible assumption | with_reducible refine Below.drew ?_ | with_reducible refine Below_drewN ?_ _ | with_reducible refine Below.alloc ?_ ?_ _ | with_reducible refine Below.setCell ?_ ?_ _ | omega | (simp; done) | (simp; omega)))⟩
  by_cases c1 : p[p.length - 1]'(by omega) = f.dst
  case neg =>
    have HH := Lib.hid (hS2.out c0 c1)
    have c1' : (p[p.length - 1]'(by omega) != f.dst) = true := by rw [bne_iff_ne]; exact c1
    rw [c0] at e0
    clear hS1 hS2 hS3 c1 HCE c0
    generalize p[p.length - 1]'(by omega) = x1 at *
    go_wp2
    go_quiet (fail)
    go_wp2
    go_ret; exact ⟨ret_bool HH.out.symm, by (repeat' (first | with_reducible exact Below.refl _ _ | with_reducible assumption | with_reducible refine Below.drew ?_ | with_reducible refine Below_drewN ?_ _ | with_reducible refine Below.alloc ?_ ?_ _ | with_reducible refine Below.setCell ?_ ?_ _ | omega | (simp; done) | (simp; omega)))⟩
  have hst := Lib.hid (hS3.out c0 c1)
  rw [c0] at e0
  rw [c1] at e1
  clear hS1 hS2 hS3 c0 c1
  go_wp2
  go_quiet (fail)
  go_wp2
  go_loop [9, 11, 41] (fun m _ i => ∃ j met : Nat, j ≤ p.length ∧ met ≤ j ∧ m = .int .i64 met ∧ i = .int .i64 j ∧ Hid (bb = servesFrom f met (p.drop j)) ∧ Hid (metIn f p j met)) (fun _ _ i => p.length - (intOf i).toNat)
  case atStart => exact ⟨0, 0, Nat.zero_le _, Nat.le_refl _, rfl, rfl, hst, by show metIn _ _ _ _; intro i hi; omega⟩
  case round =>
    obtain ⟨j, met, hj, hmj, rfl, rfl, hall, hmet⟩ := hrel
    by_cases hlt : j < p.length
    case neg =>
      have HE := Lib.hid (sv_end hlt hall.out)
      have b1 : ¬ (j : Int) < (p.length : Int) := by omega
      clear hmet hall
      by_cases hm : met = f.via.length
      · have hm' : ((met : Int) == (f.via.length : Int)) = true := by rw [beq_iff_eq]; omega
        have HM : Hid (bb = true) := by show _ = _; rw [HE.out]; exact decide_eq_true hm
        clear hm HE
        go_wp2
        go_ret; exact ⟨ret_bool HM.out.symm, by (repeat' (first | with_reducible exact Below.refl _ _ | with_reducible assumption | with_reducible refine Below.drew ?_ | with_reducible refine Below_drewN ?_ _ | with_reducible refine Below.alloc ?_ ?_ _ | with_reducible refine Below.setCell ?_ ?_ _ | omega | (simp; done) | (simp; omega)))⟩
      · have hm' : ((met : Int) == (f.via.length : Int)) = false := by rw [beq_eq_false_iff_ne]; omega
        have HM : Hid (bb = false) := by show _ = _; rw [HE.out]; exact decide_eq_false hm
        clear hm HE
        go_wp2
        go_ret; exact ⟨ret_bool HM.out.symm, by (repeat' (first | with_reducible exact Below.refl _ _ | with_reducible assumption | with_reducible refine Below.drew ?_ | with_reducible refine Below_drewN ?_ _ | with_reducible refine Below.alloc ?_ ?_ _ | with_reducible refine Below.setCell ?_ ?_ _ | omega | (simp; done) | (simp; omega)))⟩
    have e2 := HCE.out w1 hB1 j hlt
    have hcn := fun w' (hw : Below w.heap.size w w') => in_c f.no p[j] ok' na nc w' (hno.below hw)
    have hcv := fun w' (hw : Below w.heap.size w w') => in_c f.via p[j] ok' va vc w' (hv.below hw)
    have b0 : (0 : Int) ≤ (j : Int) := by omega
    have b1 : (j : Int) < (p.length : Int) := by omega
    by_cases hno' : p[j] ∈ f.no
    · have HH := Lib.hid (sv_no hlt hall.out hno')
      rw [decide_eq_true hno'] at hcn
      have HCN := Lib.hid hcn
      clear hall hmet hno' hcn hcv
      generalize p[j] = s at *
      go_wp2_with fail
      refine (HCN.out _ (by (repeat' (first | with_reducible exact Below.refl _ _ | with_reducible assumption | with_reducible refine Below.drew ?_ | with_reducible refine Below_drewN ?_ _ | with_reducible refine Below.alloc ?_ ?_ _ | with_reducible refine Below.setCell ?_ ?_ _ | omega | (simp; done) | (simp; omega))))).mono ?_
      rintro e w2 ⟨rfl, rfl⟩
      go_wp2
      go_ret; exact ⟨ret_bool HH.out.symm, by (repeat' (first | with_reducible exact Below.refl _ _ | with_reducible assumption | with_reducible refine Below.drew ?_ | with_reducible refine Below_drewN ?_ _ | with_reducible refine Below.alloc ?_ ?_ _ | with_reducible refine Below.setCell ?_ ?_ _ | omega | (simp; done) | (simp; omega)))⟩
    rw [decide_eq_false hno'] at hcn
    have HCN := Lib.hid hcn
    clear hcn
    by_cases hvia : p[j] ∈ f.via
    · have hml := hmet.out.lt hnd hlt hvia
      obtain ⟨vb, vo, rfl, _, hvb, cs', ⟨rfl, _⟩, hce⟩ := hv.get (List.getElem?_eq_getElem hml)
      have e3 := cell_at hB1 hvb (hce 0 _ rfl)
      simp only [intS, Nat.add_zero, Nat.mul_one] at e3
      have d0 : (0 : Int) ≤ (met : Int) := by omega
      have d1 : (met : Int) < (f.via.length : Int) := by omega
      have d2 : IntKind.i64.wrap ((met : Int) + 1) = (met : Int) + 1 := IntWalk.i64_in _ (by omega)
      rw [decide_eq_true hvia] at hcv
      have HCV := Lib.hid hcv
      clear hce hcv
      by_cases hvs : f.via[met] = p[j]
      · have hsome : f.via[met]? = some p[j] := by rw [List.getElem?_eq_getElem hml, hvs]
        have HM := Lib.hid (hmet.out.more hlt hsome)
        have HA := Lib.hid (sv_in hlt hall.out hno' hvia hsome)
        rw [hvs] at e3
        clear hvs hsome hmet hall hno' hvia
        generalize p[j] = s at *
        go_wp2_with fail
        refine (HCN.out _ (by (repeat' (first | with_reducible exact Below.refl _ _ | with_reducible assumption | with_reducible refine Below.drew ?_ | with_reducible refine Below_drewN ?_ _ | with_reducible refine Below.alloc ?_ ?_ _ | with_reducible refine Below.setCell ?_ ?_ _ | omega | (simp; done) | (simp; omega))))).mono ?_
        rintro e w2 ⟨rfl, rfl⟩
        go_wp2_with fail
        refine (HCV.out _ (by (repeat' (first | with_reducible exact Below.refl _ _ | with_reducible assumption | with_reducible refine Below.drew ?_ | with_reducible refine Below_drewN ?_ _ | with_reducible refine Below.alloc ?_ ?_ _ | with_reducible refine Below.setCell ?_ ?_ _ | omega | (simp; done) | (simp; omega))))).mono ?_
        rintro e w2 ⟨rfl, rfl⟩
        go_wp2
        go_round
        case rel => exact ⟨j + 1, met + 1, by omega, by omega, by go_num, by go_num, HA, HM⟩
        case measure => simp [intOf]; omega
      · have hsome : f.via[met]? ≠ some p[j] := by rw [List.getElem?_eq_getElem hml]; intro h; exact hvs (Option.some.inj h)
        have HH := Lib.hid (sv_bad hlt hall.out hno' hvia hsome)
        have hvs' : (f.via[met] != p[j]) = true := by rw [bne_iff_ne]; exact hvs
        clear hvs hsome hmet hall hno' hvia
        generalize p[j] = s at *
        generalize f.via[met] = v at *
        go_wp2_with fail
        refine (HCN.out _ (by (repeat' (first | with_reducible exact Below.refl _ _ | with_reducible assumption | with_reducible refine Below.drew ?_ | with_reducible refine Below_drewN ?_ _ | with_reducible refine Below.alloc ?_ ?_ _ | with_reducible refine Below.setCell ?_ ?_ _ | omega | (simp; done) | (simp; omega))))).mono ?_
        rintro e w2 ⟨rfl, rfl⟩
        go_wp2_with fail
        refine (HCV.out _ (by (repeat' (first | with_reducible exact Below.refl _ _ | with_reducible assumption | with_reducible refine Below.drew ?_ | with_reducible refine Below_drewN ?_ _ | with_reducible refine Below.alloc ?_ ?_ _ | with_reducible refine Below.setCell ?_ ?_ _ | omega | (simp; done) | (simp; omega))))).mono ?_
        rintro e w2 ⟨rfl, rfl⟩
        go_wp2
        go_ret; exact ⟨ret_bool HH.out.symm, by (repeat' (first | with_reducible exact Below.refl _ _ | with_reducible assumption | with_reducible refine Below.drew ?_ | with_reducible refine Below_drewN ?_ _ | with_reducible refine Below.alloc ?_ ?_ _ | with_reducible refine Below.setCell ?_ ?_ _ | omega | (simp; done) | (simp; omega)))⟩
    · have HM := Lib.hid (hmet.out.step hlt)
      have HA := Lib.hid (sv_out hlt hall.out hno' hvia)
      rw [decide_eq_false hvia] at hcv
      have HCV := Lib.hid hcv
      clear hmet hall hvia hno' hcv
      generalize p[j] = s at *
      go_wp2_with fail
      refine (HCN.out _ (by (repeat' (first | with_reducible exact Below.refl _ _ | with_reducible assumption | with_reducible refine Below.drew ?_ | with_reducible refine Below_drewN ?_ _ | with_reducible refine Below.alloc ?_ ?_ _ | with_reducible refine Below.setCell ?_ ?_ _ | omega | (simp; done) | (simp; omega))))).mono ?_
      rintro e w2 ⟨rfl, rfl⟩
      go_wp2_with fail
      refine (HCV.out _ (by (repeat' (first | with_reducible exact Below.refl _ _ | with_reducible assumption | with_reducible refine Below.drew ?_ | with_reducible refine Below_drewN ?_ _ | with_reducible refine Below.alloc ?_ ?_ _ | with_reducible refine Below.setCell ?_ ?_ _ | omega | (simp; done) | (simp; omega))))).mono ?_
      rintro e w2 ⟨rfl, rfl⟩
      go_wp2
      go_round
      case rel => exact ⟨j + 1, met, by omega, by omega, rfl, by go_num, HA, HM⟩
      case measure => simp [intOf]; omega

end Go.Proofs.Ytagldmdeohenjaa

/-
  The walk of PathLeast.
-/
set_option linter.unusedSimpArgs false
set_option linter.unusedVariables false
namespace Go.St
open Go.RowKit
theorem linkBad_ne {n : Int} {had : List (Int × Int)} {l : Link} : linkBad n had l ≠ 9 := by
  unfold linkBad
  repeat' split
  all_goals decide
theorem linksBad_ne {n : Int} : ∀ {ls : List Link} {had : List (Int × Int)} {i : Int}, (linksBad n had i ls).1 ≠ 9
  | [], _, _ => by simp [linksBad]
  | l :: r, had, i => by
    unfold linksBad
    split
    · exact linksBad_ne
    · exact linkBad_ne
theorem topoWrong_ne {t : Topo} : (topoWrong t).1 ≠ 9 := by
  unfold topoWrong
  split
  · decide
  · exact linksBad_ne
theorem listBad_ne {n s d : Int} : ∀ {l had : List Int}, listBad n s d had l ≠ 9
  | [], _ => by simp [listBad]
  | x :: r, had => by
    unfold listBad
    split
    · decide
    split
    · decide
    split
    · decide
    exact listBad_ne
theorem flowBad_ne {n : Int} {f : Flow} : flowBad n f ≠ 9 := by
  unfold flowBad
  split
  · decide
  split
  · decide
  split
  · exact listBad_ne
  split
  · exact listBad_ne
  split <;> decide
theorem find_none {t : Topo} {f : Flow} (h : (findOf t f).2 = 9) : ∀ q, ¬ Good t f q := by
  unfold findOf at h
  by_cases h1 : (topoWrong t).1 = 0
  case neg => rw [if_pos h1] at h; exact absurd h topoWrong_ne
  rw [if_neg (by simp [h1])] at h
  by_cases h2 : (flowsWrong [f] t.n).1 = 0
  case neg => rw [if_pos h2] at h; exact absurd (flows1 ▸ h) flowBad_ne
  have hf := flowBad_zero (flows1 ▸ h2)
  have L := search_leaves h1 hf
  intro q hq
  obtain ⟨s, r, rfl⟩ : ∃ s r, q = s :: r := by cases q with | nil => have := hq.src; cases this | cons s r => exact ⟨s, r, rfl⟩
  obtain rfl : s = f.src := by have := hq.src; simpa using this
  obtain ⟨b, hb', _⟩ := L.beats r hq
  rw [if_neg (by simp [h2]), hb'] at h
  cases h
theorem good_prefix {t : Topo} {f : Flow} {p q : List Int} (hp : Good t f p) (hq : Good t f q) (h : ∀ i, i < p.length → p[i]? = q[i]?) : p.length = q.length := by
  have hle : p.length ≤ q.length := by
    by_cases hl : p.length ≤ q.length
    · exact hl
    · exfalso
      have := h q.length (by omega)
      rw [List.getElem?_eq_getElem (by omega), List.getElem?_eq_none (Nat.le_refl _)] at this
      cases this
  have ht : q.take p.length = p := List.ext_getElem? fun i => by
    rw [List.getElem?_take]
    by_cases hi : i < p.length
    · rw [if_pos hi, h i hi]
    · rw [if_neg hi, List.getElem?_eq_none (by omega)]
  have e : q = p ++ q.drop p.length := by
    have := List.take_append_drop p.length q
    rw [ht] at this
    exact this.symm
  by_cases hr : q.drop p.length = []
  · have := List.drop_eq_nil_iff.1 hr
    omega
  · exfalso
    have hd := hq.dst
    rw [e, List.getLast?_append, List.getLast?_eq_some_getLast hr] at hd
    simp only [Option.some_or] at hd
    have m1 : f.dst ∈ q.drop p.length := by
      have := Option.some.inj hd
      rw [← this]; exact List.getLast_mem _
    have m2 : f.dst ∈ p := List.mem_of_getLast? hp.dst
    have hn := hq.nodup
    rw [e] at hn
    exact (List.nodup_append.1 hn).2.2 _ m2 _ m1 rfl
end Go.St
namespace Go.Proofs.Ytagldmdeohenjaa
open Go.RowKit Go.St
end Go.Proofs.Ytagldmdeohenjaa

/-
  All paths to a switch, as the document goes through them, plainly; rows of rows under append.
-/
set_option linter.unusedSimpArgs false
set_option linter.unusedVariables false
namespace Go.St
open Go.RowKit

def allUp (t : Topo) (rest : List Int → List (List Int)) (p : List Int) : Nat → List (List Int)
  | 0 => []
  | k + 1 => if (k : Int) ∉ p ∧ 0 < costOf t (p.getLastD 0) k then allUp t rest p k ++ rest (p ++ [(k : Int)]) else allUp t rest p k
def allP (t : Topo) (to : Int) : Nat → List Int → List (List Int)
  | 0, _ => []
  | f + 1, p => if p.getLastD 0 = to then [p] else allUp t (allP t to f) p t.n.toNat

theorem allUp_len {t : Topo} {rest : List Int → List (List Int)} {p : List Int} {B : Nat} (h : ∀ q, (rest q).length ≤ B) : ∀ k, (allUp t rest p k).length ≤ k * B
  | 0 => by simp [allUp]
  | k + 1 => by
    have h1 := allUp_len h (t := t) (p := p) k
    have h2 := h (p ++ [(k : Int)])
    unfold allUp
    rw [Nat.add_mul, Nat.one_mul]
    split
    · rw [List.length_append]; omega
    · omega
theorem allP_len {t : Topo} {to : Int} (hn : t.n ≤ 8) : ∀ (f : Nat) (p : List Int), (allP t to f p).length ≤ 8 ^ f
  | 0, _ => by simp [allP]
  | f + 1, p => by
    have h1 : 1 ≤ 8 ^ f := Nat.one_le_pow _ _ (by decide)
    unfold allP
    split
    · rw [List.length_singleton, Nat.pow_succ]; omega
    · have := allUp_len (t := t) (rest := allP t to f) (p := p) (B := 8 ^ f) (fun q => allP_len hn f q) t.n.toNat
      rw [Nat.pow_succ, Nat.mul_comm]
      exact Nat.le_trans this (Nat.mul_le_mul_right _ (by omega))

end Go.St

/-
  The document's way to the best path, plainly: all paths, and the first one of those that cost least.
-/
set_option linter.unusedSimpArgs false
set_option linter.unusedVariables false
namespace Go.St

theorem lexLe_antisymm : ∀ {a b : List Int}, lexLe a b = true → lexLe b a = true → a = b
  | [], [], _, _ => rfl
  | [], _ :: _, _, h => by simp [lexLe] at h
  | _ :: _, [], h, _ => by simp [lexLe] at h
  | x :: a, y :: b, h1, h2 => by
    simp only [lexLe, Bool.or_eq_true, Bool.and_eq_true, decide_eq_true_eq] at h1 h2
    rcases h1 with h1 | ⟨rfl, h1⟩
    · rcases h2 with h2 | ⟨h3, _⟩ <;> omega
    · rcases h2 with h2 | ⟨_, h2⟩
      · omega
      · rw [lexLe_antisymm h1 h2]
theorem lexLe_fork2 {a b : Int} (h : a < b) (r s : List Int) : ∀ p : List Int, lexLe (p ++ a :: r) (p ++ b :: s) = true
  | [] => by simp [lexLe, h]
  | x :: p => by
    have := lexLe_fork2 h r s p
    simp [lexLe, this]
theorem allUp_mem {t : Topo} {rest : List Int → List (List Int)} {p q : List Int} : ∀ {k : Nat}, q ∈ allUp t rest p k ↔ ∃ j : Nat, j < k ∧ (j : Int) ∉ p ∧ 0 < costOf t (p.getLastD 0) j ∧ q ∈ rest (p ++ [(j : Int)])
  | 0 => by simp [allUp]
  | k + 1 => by
    unfold allUp
    have ih := allUp_mem (t := t) (rest := rest) (p := p) (q := q) (k := k)
    split
    · rename_i h
      rw [List.mem_append, ih]
      constructor
      · rintro (⟨j, h1, h2⟩ | h1)
        · exact ⟨j, by omega, h2⟩
        · exact ⟨k, by omega, h.1, h.2, h1⟩
      · rintro ⟨j, h1, h2, h3, h4⟩
        by_cases hj : j < k
        · exact .inl ⟨j, hj, h2, h3, h4⟩
        · obtain rfl : j = k := by omega
          exact .inr h4
    · rename_i h
      rw [ih]
      constructor
      · rintro ⟨j, h1, h2⟩; exact ⟨j, by omega, h2⟩
      · rintro ⟨j, h1, h2, h3, h4⟩
        by_cases hj : j < k
        · exact ⟨j, hj, h2, h3, h4⟩
        · obtain rfl : j = k := by omega
          exact absurd ⟨h2, h3⟩ h
theorem allP_pre {t : Topo} {to : Int} : ∀ (f : Nat) (p q : List Int), q ∈ allP t to f p → p <+: q
  | 0, _, _, h => by simp [allP] at h
  | f + 1, p, q, h => by
    unfold allP at h
    split at h
    · rw [List.mem_singleton.1 h]; exact List.prefix_refl _
    · obtain ⟨j, _, _, _, h4⟩ := allUp_mem.1 h
      exact (List.prefix_append p [(j : Int)]).trans (allP_pre f _ _ h4)
theorem allP_sorted {t : Topo} {to : Int} : ∀ (f : Nat) (p : List Int), (allP t to f p).Pairwise (fun a b => lexLe a b = true)
  | 0, _ => List.Pairwise.nil
  | f + 1, p => by
    unfold allP
    split
    · exact List.pairwise_singleton _ _
    · generalize t.n.toNat = k
      induction k with
      | zero => exact List.Pairwise.nil
      | succ k ih =>
        unfold allUp
        split
        · refine List.pairwise_append.2 ⟨ih, allP_sorted f _, fun a ha b hb => ?_⟩
          obtain ⟨j, h1, _, _, h4⟩ := allUp_mem.1 ha
          obtain ⟨r, rfl⟩ := allP_pre f _ _ h4
          obtain ⟨s, rfl⟩ := allP_pre f _ _ hb
          rw [List.append_assoc, List.append_assoc]
          exact lexLe_fork2 (by omega) r s p
        · exact ih
theorem allP_sound {t : Topo} {to : Int} : ∀ (f : Nat) (p q : List Int), q ∈ allP t to f p → p ≠ [] → p.Nodup → (∀ s ∈ p, 0 ≤ s ∧ s < t.n) → linked t p = true →
    q.getLast? = some to ∧ q.Nodup ∧ (∀ s ∈ q, 0 ≤ s ∧ s < t.n) ∧ linked t q = true
  | 0, _, _, h, _, _, _, _ => by simp [allP] at h
  | f + 1, p, q, h, hne, hnd, hrg, hl => by
    unfold allP at h
    split at h
    · rename_i hlast
      rw [List.mem_singleton.1 h]
      refine ⟨?_, hnd, hrg, hl⟩
      rw [List.getLastD_eq_getLast?, List.getLast?_eq_some_getLast hne] at hlast
      rw [List.getLast?_eq_some_getLast hne]
      exact congrArg some hlast
    · obtain ⟨j, h1, h2, h3, h4⟩ := allUp_mem.1 h
      refine allP_sound f _ q h4 (by simp) ?_ ?_ ?_
      · rw [List.nodup_append]
        exact ⟨hnd, by simp, by intro a ha b hb; simp at hb; rw [hb]; exact fun e => h2 (e ▸ ha)⟩
      · intro s hs
        rcases List.mem_append.1 hs with hs | hs
        · exact hrg s hs
        · simp at hs; omega
      · rw [linked_snoc t _ _ hne, hl, Bool.true_and, decide_eq_true_eq]
        omega
theorem allP_complete {t : Topo} {to : Int} (hc : CostsOk t) : ∀ (f : Nat) (p q : List Int), p ≠ [] → p <+: q → q.Nodup → (∀ s ∈ q, 0 ≤ s ∧ s < t.n) → linked t q = true → q.getLast? = some to → q.length < p.length + f → q ∈ allP t to f p
  | 0, p, q, _, hp, _, _, _, _, hl => absurd hp.length_le (by omega)
  | f + 1, p, q, hne, ⟨r, hr⟩, hnd, hrg, hlk, hlast, hl => by
    unfold allP
    have hpl : p.getLastD 0 = p.getLast hne := by rw [List.getLastD_eq_getLast?, List.getLast?_eq_some_getLast hne]; rfl
    cases r with
    | nil =>
      rw [List.append_nil] at hr
      subst hr
      rw [if_pos (by rw [hpl]; rw [List.getLast?_eq_some_getLast hne] at hlast; exact Option.some.inj hlast)]
      simp
    | cons s r =>
      have hto : to ∈ s :: r := by
        rw [← hr, List.getLast?_append, List.getLast?_eq_some_getLast (by simp : s :: r ≠ [])] at hlast
        have : (s :: r).getLast (by simp) = to := by simpa using hlast
        rw [← this]
        exact List.getLast_mem _
      have hnd' := hnd
      rw [← hr] at hnd'
      obtain ⟨_, _, hdis⟩ := List.nodup_append.1 hnd'
      rw [if_neg (by rw [hpl]; exact fun e => hdis _ (List.getLast_mem hne) _ hto e)]
      have hs := hrg s (by rw [← hr]; simp)
      refine allUp_mem.2 ⟨s.toNat, by omega, ?_, ?_, ?_⟩
      · rw [show ((s.toNat : Nat) : Int) = s by omega]
        exact fun hm => hdis _ hm s (by simp) rfl
      · rw [show ((s.toNat : Nat) : Int) = s by omega]
        have hlk2 : linked t (p ++ [s]) = true := by
          have : linked t ((p ++ [s]) ++ r) = true := by rw [List.append_assoc]; show linked t (p ++ s :: r) = true; rw [hr]; exact hlk
          exact linked_left t _ _ this
        rw [linked_snoc t _ _ hne] at hlk2
        simp only [Bool.and_eq_true, decide_eq_true_eq] at hlk2
        have := hc (p.getLastD 0) s
        omega
      · rw [show ((s.toNat : Nat) : Int) = s by omega]
        exact allP_complete hc f (p ++ [s]) q (by simp) ⟨r, by rw [List.append_assoc]; exact hr⟩ hnd hrg hlk hlast (by simp; omega)

theorem serves_from {f : Flow} : ∀ (r : List Int) (met : Nat), (∀ s ∈ r, s ∉ f.no) → r.filter (fun s => decide (s ∈ f.via)) = f.via.drop met → met ≤ f.via.length → servesFrom f met r = true
  | [], met, _, h, hm => by
    simp only [List.filter_nil] at h
    have := congrArg List.length h
    simp at this
    simp [servesFrom]
    omega
  | s :: r, met, hno, h, hm => by
    unfold servesFrom
    rw [if_neg (hno s (by simp))]
    by_cases hv : s ∈ f.via
    · rw [if_pos hv]
      rw [List.filter_cons, if_pos (by simpa using hv)] at h
      have hml : met < f.via.length := by
        have := congrArg List.length h
        simp at this
        omega
      rw [List.drop_eq_getElem_cons hml] at h
      obtain ⟨h1, h2⟩ := List.cons.inj h
      rw [if_pos (by rw [List.getElem?_eq_getElem hml, h1])]
      exact serves_from r (met + 1) (fun x hx => hno x (List.mem_cons_of_mem _ hx)) h2 hml
    · rw [if_neg hv]
      rw [List.filter_cons, if_neg (by simpa using hv)] at h
      exact serves_from r met (fun x hx => hno x (List.mem_cons_of_mem _ hx)) h hm
theorem good_servesB {t : Topo} {f : Flow} {p : List Int} (ht : (topoWrong t).1 = 0) (h : Good t f p) : servesB t f p = true := by
  unfold servesB
  rw [good_length ht h, serves_from p 0 h.no (by simpa using h.via) (Nat.zero_le _)]
  simp [h.src, h.dst]

/-- the better one -/
def better (t : Topo) (f : Flow) (b p : List Int) : List Int := if servesB t f p = true ∧ (b = [] ∨ (lengthOf t p).1 < (lengthOf t b).1) then p else b
structure BestR (t : Topo) (f : Flow) (L : List (List Int)) (b : List Int) : Prop where
  none : b = [] → ∀ p ∈ L, servesB t f p = false
  some : b ≠ [] → b ∈ L ∧ servesB t f b = true ∧ ∀ p ∈ L, servesB t f p = true → (lengthOf t b).1 < (lengthOf t p).1 ∨ ((lengthOf t b).1 = (lengthOf t p).1 ∧ lexLe b p = true)
theorem BestR.step {t : Topo} {f : Flow} {L : List (List Int)} {b p : List Int} (h : BestR t f L b) (hp : p ≠ []) (hs : ∀ q ∈ L, lexLe q p = true) : BestR t f (L ++ [p]) (better t f b p) := by
  unfold better
  by_cases h1 : servesB t f p = true ∧ (b = [] ∨ (lengthOf t p).1 < (lengthOf t b).1)
  · rw [if_pos h1]
    refine ⟨fun h => absurd h hp, fun _ => ⟨by simp, h1.1, fun q hq hsq => ?_⟩⟩
    rcases List.mem_append.1 hq with hq | hq
    · by_cases hb : b = []
      · rw [h.none hb q hq] at hsq; cases hsq
      · have := (h.some hb).2.2 q hq hsq
        have := h1.2.resolve_left hb
        omega
    · simp only [List.mem_singleton] at hq
      subst hq
      exact .inr ⟨rfl, lexLe_refl _⟩
  · rw [if_neg h1]
    refine ⟨fun hb q hq => ?_, fun hb => ⟨by simp [(h.some hb).1], (h.some hb).2.1, fun q hq hsq => ?_⟩⟩
    · rcases List.mem_append.1 hq with hq | hq
      · exact h.none hb q hq
      · simp only [List.mem_singleton] at hq
        subst hq
        cases hv : servesB t f q with
        | false => rfl
        | true => exact absurd ⟨hv, .inl hb⟩ h1
    · rcases List.mem_append.1 hq with hq | hq
      · exact (h.some hb).2.2 q hq hsq
      · simp only [List.mem_singleton] at hq
        subst hq
        have h2 : ¬ (lengthOf t q).1 < (lengthOf t b).1 := fun h3 => h1 ⟨hsq, .inr h3⟩
        have h3 := hs b (h.some hb).1
        by_cases h4 : (lengthOf t b).1 = (lengthOf t q).1
        · exact .inr ⟨h4, h3⟩
        · exact .inl (by omega)

theorem find_best {t : Topo} {f : Flow} {b : List Int} (ht : (topoWrong t).1 = 0) (hf : (flowsWrong [f] t.n).1 = 0) (h : BestR t f (allP t f.dst 8 [f.src]) b) : findOf t f = (b, if b = [] then 9 else 0) := by
  have hc : CostsOk t := fun a b => (cost_range ht a b).1
  have hfo := flowBad_zero (flows1 ▸ hf)
  have hn := (topo_right ht).1.2.1
  have hmem : ∀ q, Good t f q → q ∈ allP t f.dst 8 [f.src] := fun q hq => by
    refine allP_complete hc 8 [f.src] q (by simp) ?_ hq.nodup hq.rng hq.link hq.dst ?_
    · have := hq.src
      cases q with
      | nil => cases this
      | cons x q => simp at this; rw [this]; exact ⟨q, rfl⟩
    · have := nodup_len hq.nodup hq.rng
      simp
      omega
  have h9 : (findOf t f).2 = 0 ∨ findOf t f = ([], 9) := by
    unfold findOf
    rw [if_neg (by simp [ht]), if_neg (by simp [hf])]
    split
    · exact .inr rfl
    · exact .inl rfl
  rcases h9 with h9 | h9
  · obtain ⟨_, _, hg, hmin⟩ := find_good h9
    have hb : b ≠ [] := fun hb => by
      have := h.none hb _ (hmem _ hg)
      rw [good_servesB ht hg] at this
      cases this
    obtain ⟨b1, b2, b3⟩ := h.some hb
    have hgb := serves_good b2
    have e1 := hmin b hgb
    have e2 := b3 _ (hmem _ hg) (good_servesB ht hg)
    rw [good_length ht hg, good_length ht hgb] at e2
    dsimp only at e2
    have : (findOf t f).1 = b := by
      rcases e1 with e1 | ⟨e1, e1'⟩
      · rcases e2 with e2 | ⟨e2, _⟩ <;> omega
      · rcases e2 with e2 | ⟨_, e2⟩
        · omega
        · exact lexLe_antisymm e1' e2
    rw [if_neg hb, ← this, ← h9]
  · have hno : ∀ q, ¬ Good t f q := find_none (by rw [h9])
    have hb : b = [] := by
      apply Classical.byContradiction
      intro hb
      exact hno b (serves_good (h.some hb).2.1)
    rw [hb, if_pos rfl, h9]
theorem all_ne {t : Topo} {to s : Int} {p : List Int} (h : p ∈ allP t to 8 [s]) : p ≠ [] := by
  obtain ⟨r, rfl⟩ := allP_pre 8 _ _ h
  simp
theorem all_before {t : Topo} {to s : Int} {j : Nat} {p q : List Int} (hp : (allP t to 8 [s])[j]? = some p) (hq : q ∈ (allP t to 8 [s]).take j) : lexLe q p = true := by
  have h := allP_sorted (t := t) (to := to) 8 [s]
  obtain ⟨hj, rfl⟩ := List.getElem?_eq_some_iff.1 hp
  obtain ⟨i, hi, rfl⟩ := List.mem_iff_getElem.1 hq
  rw [List.getElem_take]
  exact List.pairwise_iff_getElem.1 h i j (by simp at hi; omega) hj (by simp at hi; omega)
theorem BestR.start (t : Topo) (f : Flow) (L : List (List Int)) : BestR t f (L.take 0) [] := ⟨by simp, fun h => absurd rfl h⟩
end Go.St

/-
  The walk of TopoBack.
-/
set_option linter.unusedSimpArgs false
set_option linter.unusedVariables false
namespace Go.St
open Go.RowKit
theorem back_next {p : List Int} {j : Nat} (h : j < p.length) : (p.drop j).reverse = (p.drop (j + 1)).reverse ++ [p[j]] := by
  rw [List.drop_eq_getElem_cons h, List.reverse_cons]
/-- a box that holds a net -/
def SB (tb : Nat) (n : Int) (la : Option Addr) (ll lc : Nat) (w : World) : Prop :=
  w.cell? ⟨tb, 0, none⟩ = some (.int .i64 n) ∧ w.cell? ⟨tb, 1, none⟩ = some (.slice la ll lc)
theorem SB.keep {B tb : Nat} {n : Int} {la : Option Addr} {ll lc : Nat} {w w' : World} (h : SB tb n la ll lc w) (hb : Below B w w') (h1 : tb < B) : SB tb n la ll lc w' :=
  ⟨cell_at hb h1 h.1, cell_at hb h1 h.2⟩
end Go.St
namespace Go.Proofs.Ytagldmdeohenjaa
open Go.RowKit Go.St
end Go.Proofs.Ytagldmdeohenjaa

/-
  Two rows of the call's own, of data that hold rows, that grow side by side.
-/
set_option linter.unusedSimpArgs false
set_option linter.unusedVariables false
namespace Go.St
open Go.RowKit

/-- blocks from lo on, but the two rows' own -/
def twn (lo : Nat) (w : World) (ao bo : Option Addr) : Nat → Prop := fun b => lo ≤ b ∧ b < w.heap.size ∧ blk ao ≠ some b ∧ blk bo ≠ some b
/-- two rows of the call's own -/
def two {α β : Type} (sa : Shape α) (ea : TypeId) (sb : Shape β) (eb : TypeId) (lo : Nat) (w : World) (ao : Option Addr) (n ca : Nat) (xs : List α) (bo : Option Addr) (m cb : Nat) (ys : List β) : Prop :=
  ownR sa ea (twn lo w ao bo) lo w ao n ca xs ∧ ownR sb eb (twn lo w ao bo) lo w bo m cb ys ∧ ∀ k, blk ao = some k → blk bo ≠ some k

section
variable {α β : Type} {sa : Shape α} {ea : TypeId} {sb : Shape β} {eb : TypeId} {lo : Nat} {w w' : World} {ao bo ao' bo' : Option Addr} {n ca m cb n' ca' m' cb' : Nat} {xs xs' : List α} {ys ys' : List β}

theorem two.nil (sa : Shape α) (ea : TypeId) (sb : Shape β) (eb : TypeId) (lo : Nat) (w : World) : two sa ea sb eb lo w none 0 0 [] none 0 0 [] :=
  ⟨ownR.nil _ _ _ _ _ fun _ h => h.2.1, ownR.nil _ _ _ _ _ fun _ h => h.2.1, by simp [blk]⟩

theorem two.below (h : two sa ea sb eb lo w ao n ca xs bo m cb ys) (hb : Below w.heap.size w w') : two sa ea sb eb lo w' ao n ca xs bo m cb ys :=
  ⟨(h.1.below hb).weaken (fun b ⟨h1, h2, h3⟩ => ⟨h1, Nat.lt_of_lt_of_le h2 hb.size, h3⟩) (fun k hk h => h.2.2.1 hk) (fun b h => h.2.1),
   (h.2.1.below hb).weaken (fun b ⟨h1, h2, h3⟩ => ⟨h1, Nat.lt_of_lt_of_le h2 hb.size, h3⟩) (fun k hk h => h.2.2.2 hk) (fun b h => h.2.1), h.2.2⟩

theorem two.setOther {ob o : Nat} {v : Value} (h : two sa ea sb eb lo w ao n ca xs bo m cb ys) (hb : ob < lo) : two sa ea sb eb lo (w.setCell ⟨ob, o, none⟩ v) ao n ca xs bo m cb ys := by
  have hs : (w.setCell ⟨ob, o, none⟩ v).heap.size = w.heap.size := by simp
  have hk : ∀ k, lo ≤ k → (w.setCell ⟨ob, o, none⟩ v).heap[k]? = w.heap[k]? := fun k hk => Below.heap_setCell _ _ _ _ (by simp; omega)
  refine ⟨(h.1.keep (by rw [hs]; exact Nat.le_refl _) fun k hh => hk k ?_).weaken (fun b ⟨h1, h2, h3⟩ => ⟨h1, by rw [hs]; exact h2, h3⟩) (fun k hk h => h.2.2.1 hk) (fun b h => h.2.1),
    (h.2.1.keep (by rw [hs]; exact Nat.le_refl _) fun k hh => hk k ?_).weaken (fun b ⟨h1, h2, h3⟩ => ⟨h1, by rw [hs]; exact h2, h3⟩) (fun k hk h => h.2.2.2 hk) (fun b h => h.2.1), h.2.2⟩
  · rcases hh with hh | hh
    · exact (h.1.lt k hh).1
    · exact hh.1
  · rcases hh with hh | hh
    · exact (h.2.1.lt k hh).1
    · exact hh.1

/-- the first of them has grown -/
theorem two.grownA (h : two sa ea sb eb lo w ao n ca xs bo m cb ys) (ho : ownR sa ea (twn lo w ao bo) lo w' ao' n' ca' xs') (hg : w.grownBy w' (blk ao)) (hd : blk ao' = blk ao ∨ blk ao' = some w.heap.size) :
    two sa ea sb eb lo w' ao' n' ca' xs' bo m cb ys := by
  have hs : w.heap.size ≤ w'.heap.size := hg.size
  have hne : ∀ b, twn lo w ao bo b → twn lo w' ao' bo b := fun b ⟨h1, h2, h3, h4⟩ => ⟨h1, Nat.lt_of_lt_of_le h2 hs, fun e => by
    rcases hd with hd | hd
    · exact h3 (hd ▸ e)
    · rw [hd] at e; have : w.heap.size = b := by simpa using e
      omega, h4⟩
  refine ⟨ho.weaken hne (fun k hk h => h.2.2.1 hk) (fun b h => h.2.1), (h.2.1.keep hs fun k hk => ?_).weaken hne (fun k hk h => h.2.2.2 hk) (fun b h => h.2.1), fun k hk hb => ?_⟩
  · refine hg.block k ?_ ?_
    · rcases hk with hk | hk
      · exact (h.2.1.lt k hk).2
      · exact hk.2.1
    · intro e
      rcases hk with hk | hk
      · exact h.2.2 k e.symm hk
      · exact hk.2.2.1 e.symm
  · rcases hd with hd | hd
    · exact h.2.2 k (hd ▸ hk) hb
    · rw [hd] at hk; have : w.heap.size = k := by simpa using hk
      have := (h.2.1.lt k hb).2; omega

/-- the second of them has grown -/
theorem two.grownB (h : two sa ea sb eb lo w ao n ca xs bo m cb ys) (ho : ownR sb eb (twn lo w ao bo) lo w' bo' m' cb' ys') (hg : w.grownBy w' (blk bo)) (hd : blk bo' = blk bo ∨ blk bo' = some w.heap.size) :
    two sa ea sb eb lo w' ao n ca xs bo' m' cb' ys' := by
  have hs : w.heap.size ≤ w'.heap.size := hg.size
  have hne : ∀ b, twn lo w ao bo b → twn lo w' ao bo' b := fun b ⟨h1, h2, h3, h4⟩ => ⟨h1, Nat.lt_of_lt_of_le h2 hs, h3, fun e => by
    rcases hd with hd | hd
    · exact h4 (hd ▸ e)
    · rw [hd] at e; have : w.heap.size = b := by simpa using e
      omega⟩
  refine ⟨(h.1.keep hs fun k hk => ?_).weaken hne (fun k hk h => h.2.2.1 hk) (fun b h => h.2.1), ho.weaken hne (fun k hk h => h.2.2.2 hk) (fun b h => h.2.1), fun k hk hb => ?_⟩
  · refine hg.block k ?_ ?_
    · rcases hk with hk | hk
      · exact (h.1.lt k hk).2
      · exact hk.2.1
    · intro e
      rcases hk with hk | hk
      · exact h.2.2 k hk e.symm
      · exact hk.2.2.2 e.symm
  · rcases hd with hd | hd
    · exact h.2.2 k hk (hd ▸ hb)
    · rw [hd] at hb; have : w.heap.size = k := by simpa using hb
      have := (h.1.lt k hk).2; omega

/-- a row that lies besides both, as part of what they may hold -/
theorem two.okof {γ : Type} {sh : Shape γ} {ax : Option Addr} {B cap : Nat} {zs : List γ} (h : rowRep sh (fun b => B ≤ b) w ax cap zs) (hB : lo ≤ B) (ha : ∀ k, blk ao = some k → k < B) (hb : ∀ k, blk bo = some k → k < B) : rowRep sh (twn lo w ao bo) w ax cap zs :=
  h.mono (fun b hbb hh => ⟨⟨Nat.le_trans hB hh, hbb, fun e => by have hh' : B ≤ b := hh; have := ha b e; omega, fun e => by have hh' : B ≤ b := hh; have := hb b e; omega⟩, rfl⟩)
end

/-- a block of one flow as a source -/
theorem flow_one_src {w : World} {b : Nat} {e : TypeId} {f : Flow} {va na : Option Addr} {vc nc : Nat} {ok : Nat → Prop} (h : blockIs w b e #[.int .i64 f.src, .int .i64 f.dst, .slice va f.via.length vc, .slice na f.no.length nc])
    (h1 : I64 f.src) (h2 : I64 f.dst) (hv : rowRep intS ok w va vc f.via) (hn : rowRep intS ok w na nc f.no) : srcRep flowS ok w (some ⟨b, 0, none⟩) [f] := by
  refine .inr ⟨b, 0, rfl, fun i y hy => ?_⟩
  match i, hy with
  | 0, hy =>
    obtain rfl : f = y := by simpa using hy
    refine ⟨_, ⟨va, vc, na, nc, rfl, h1, h2, hv, hn⟩, fun j c hc => ?_⟩
    simp only [Nat.zero_mul, Nat.zero_add]
    rw [h.cells.1 j]
    simpa using hc
  | i + 1, hy => simp at hy
/-- the names of a flow that has a path are few -/
theorem find_lens {t : Topo} {f : Flow} (h : (findOf t f).2 = 0) : f.via.length ≤ 8 ∧ f.no.length ≤ 8 := by
  unfold findOf at h
  by_cases h1 : (topoWrong t).1 = 0
  case neg => rw [if_pos h1] at h; exact absurd h h1
  rw [if_neg (by simp [h1])] at h
  by_cases h2 : (flowsWrong [f] t.n).1 = 0
  case neg => rw [if_pos h2] at h; exact absurd h h2
  have hn := (topo_right h1).1
  have hb : flowBad t.n f = 0 := flows1 ▸ h2
  have hf := flowBad_zero hb
  have h3 := flow_via_len hf
  have h4 : f.no.Nodup := by
    unfold flowBad at hb
    rw [if_neg (by have := hf.s0; have := hf.s1; have := hf.d0; have := hf.d1; omega), if_neg hf.ne] at hb
    by_cases h3 : listBad t.n f.src f.dst [] f.via = 0
    · rw [if_neg (by simp [h3])] at hb
      by_cases h4 : listBad t.n f.src f.dst [] f.no = 0
      · exact (listBad_zero h4).1
      · rw [if_pos h4] at hb; exact absurd hb h4
    · rw [if_pos h3] at hb; exact absurd hb h3
  have h5 := nodup_len h4 fun x hx => (hf.no x hx).1
  omega
theorem noPlan_rep {ok : Nat → Prop} {w : World} : planS.rep ok w [.int .i64 0, .slice none 0 0, .slice none 0 0] noPlan := ⟨none, 0, none, 0, rfl, I64.small (by decide) (by decide), rowRep.nil _ _ _ _, rowRep.nil _ _ _ _⟩
end Go.St
