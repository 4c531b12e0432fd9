/-
  The contract of paths.Find.
-/
import Derived.Test.YtagldmdeohenjaaPathOn
import Derived.Test.YtagldmdeohenjaaPathF
import Derived.Test.YtagldmdeohenjaaTopoW
import Derived.Test.YtagldmdeohenjaaFlowW
import Derived.WalkKit
import Derived.WalkSpells
import Derived.WalkLawsBesides
import Derived.Lib.Hide
import Derived.Deep.LoopGhost
import Derived.Deep.QuietTactic
import Derived.BigQuiet
import Derived.Deep.RegionWith
import Derived.Handy
set_option linter.unusedSimpArgs false
set_option linter.unusedVariables false
namespace Go.St
open Go.RowKit
theorem row_one {ok : Nat → Prop} {w : World} {f : Flow} {va na : Option Addr} {vc nc : Nat} {e : TypeId} {cap : Nat} (h1 : I64 f.src) (h2 : I64 f.dst) (hv : rowRep intS ok w va vc f.via) (hn : rowRep intS ok w na nc f.no) :
    rowRep flowS (fun b => ok b ∨ b = w.heap.size) (w.alloc (.cells #[.int .i64 f.src, .int .i64 f.dst, .slice va f.via.length vc, .slice na f.no.length nc] e)) (some ⟨w.heap.size, 0, none⟩) 1 [f] := by
  refine ⟨by simp, by decide, .inr ⟨w.heap.size, 0, rfl, .inr rfl, by simp, ?_⟩⟩
  intro i x hx
  cases i with
  | zero =>
    simp at hx
    subst hx
    have hk : ∀ b, b < w.heap.size → ok b → (ok b ∨ b = w.heap.size) ∧ (w.alloc (.cells #[.int .i64 f.src, .int .i64 f.dst, .slice va f.via.length vc, .slice na f.no.length nc] e)).heap[b]? = w.heap[b]? := fun b hb ho => ⟨.inl ho, ((Below.refl w.heap.size w).alloc (Nat.le_refl _) _).block b hb⟩
    refine ⟨_, ⟨va, vc, na, nc, rfl, h1, h2, hv.mono hk, hn.mono hk⟩, fun j c hc => ?_⟩
    simp only [Nat.zero_mul, Nat.zero_add]
    rw [World.cell?_alloc_new]
    simpa using hc
  | succ i => simp at hx
theorem row_src {w : World} {x : Int} {e : TypeId} (h : I64 x) (s : Nat) (hs : s ≠ w.heap.size) : rowRep intS (fun b => b ≠ s) (w.alloc (.cells #[.int .i64 x] e)) (some ⟨w.heap.size, 0, none⟩) 1 [x] := by
  refine ⟨by simp, by decide, .inr ⟨w.heap.size, 0, rfl, fun e => hs e.symm, by simp, ?_⟩⟩
  intro i y hy
  cases i with
  | zero =>
    simp at hy
    subst hy
    refine ⟨_, ⟨rfl, h⟩, fun j c hc => ?_⟩
    simp only [Nat.zero_mul, Nat.zero_add]
    rw [World.cell?_alloc_new]
    simpa using hc
  | succ i => simp at hy
end Go.St
namespace Go.Proofs.Ytagldmdeohenjaa
open Go.RowKit Go.St

set_option maxRecDepth 100000 in
set_option maxHeartbeats 8000000 in
theorem find_s (t : Topo) (f : Flow) (cs ds : List Value) (ok ok' : Nat → Prop) (w : World) (h : topoS.rep ok w cs t) (hf : flowS.rep ok' w ds f) :
    Calls Try.prog 38 #[.agg cs.toArray, .agg ds.toArray] w fun e w' => ∃ ao cap, e = .returned (.tuple #[.slice ao (findOf t f).1.length cap, .int .i64 (findOf t f).2]) ∧ rowRep intS (fun b => w.heap.size ≤ b) w' ao cap (findOf t f).1 ∧ Below w.heap.size w w' := by
  have hT := h
  obtain ⟨la, lc, rfl, hn, hr⟩ := h
  obtain ⟨va, vc, na, nc, rfl, hs, hd, hv, hno⟩ := id hf
  have hnil := run_eql_nil (P := Try.prog) 92 3 Try.underlying92
  go_enter Try.func38, Try.ntmps38
  go_wp2_with fail
  refine (topoWrong_c t _ ok _ (topoS.below hT (by (repeat' (first | with_reducible exact Below.refl _ _ | with_reducible assumption | with_reducible refine Below.drew ?_ | with_reducible refine Below_drewN ?_ _ | with_reducible refine Below.alloc ?_ ?_ _ | with_reducible refine Below.setCell ?_ ?_ _ | omega | (simp; done) | (simp; omega)))))).mono ?_
  rintro e w1 ⟨rfl, hb1⟩
  have hB1 : Below w.heap.size w w1 := Below.trans (by (repeat' (first | with_reducible exact Below.refl _ _ | with_reducible assumption | with_reducible refine Below.drew ?_ | with_reducible refine Below_drewN ?_ _ | with_reducible refine Below.alloc ?_ ?_ _ | with_reducible refine Below.setCell ?_ ?_ _ | omega | (simp; done) | (simp; omega)))) (hb1.mono (by simp; omega))
  have hT1 : blockIs w1 w.heap.size 24 #[.int .i64 t.n, .slice la t.links.length lc] := ((blockIs.new rfl).alloc _).under hb1
  have hF1 : blockIs w1 (w.heap.size + 1) 64 #[.int .i64 f.src, .int .i64 f.dst, .slice va f.via.length vc, .slice na f.no.length nc] := (blockIs.new (by simp)).under hb1
  obtain ⟨t1, t2⟩ := hT1.cells
  obtain ⟨f1, f2⟩ := hF1.cells
  have hz1 := hF1.lt
  have hz0 := hT1.lt
  clear hb1
  by_cases h1 : (topoWrong t).1 = 0
  case neg =>
    have hfo : Hid (findOf t f = ([], (topoWrong t).1)) := by show _ = _; unfold findOf; rw [if_pos h1]
    have h1' : ((topoWrong t).1 != 0) = true := by rw [bne_iff_ne]; exact h1
    clear h1
    go_wp2
    go_quiet (fail)
    go_wp2
    go_ret2
    rw [hfo.out]
    exact ⟨none, 0, rfl, rowRep.nil _ _ _ _, by (repeat' (first | with_reducible exact Below.refl _ _ | with_reducible assumption | with_reducible refine Below.drew ?_ | with_reducible refine Below_drewN ?_ _ | with_reducible refine Below.alloc ?_ ?_ _ | with_reducible refine Below.setCell ?_ ?_ _ | omega | (simp; done) | (simp; omega)))⟩
  have h1' : ((topoWrong t).1 != 0) = false := by rw [bne_eq_false_iff_eq]; exact h1
  have hrow1 : rowRep flowS (fun _ => True) ((w1.alloc (.cells #[.int .i64 0, .int .i64 (topoWrong t).2] 66)).alloc (.cells #[.int .i64 f.src, .int .i64 f.dst, .slice va f.via.length vc, .slice na f.no.length nc] 64)) (some ⟨w1.heap.size + 1, 0, none⟩) 1 [f] := by
    have := row_one (w := w1.alloc (.cells #[.int .i64 0, .int .i64 (topoWrong t).2] 66)) (e := 64) (cap := 1) hs hd (hv.below (by (repeat' (first | with_reducible exact Below.refl _ _ | with_reducible assumption | with_reducible refine Below.drew ?_ | with_reducible refine Below_drewN ?_ _ | with_reducible refine Below.alloc ?_ ?_ _ | with_reducible refine Below.setCell ?_ ?_ _ | omega | (simp; done) | (simp; omega))))) (hno.below (by (repeat' (first | with_reducible exact Below.refl _ _ | with_reducible assumption | with_reducible refine Below.drew ?_ | with_reducible refine Below_drewN ?_ _ | with_reducible refine Below.alloc ?_ ?_ _ | with_reducible refine Below.setCell ?_ ?_ _ | omega | (simp; done) | (simp; omega)))))
    rw [show (w1.alloc (.cells #[.int .i64 0, .int .i64 (topoWrong t).2] 66)).heap.size = w1.heap.size + 1 by simp] at this
    exact this.mono fun b hb _ => ⟨trivial, rfl⟩
  have hW := flowsWrong_c [f] t.n (fun _ => True) _ 1 _ hrow1
  simp only [List.length_cons, List.length_nil, Nat.zero_add] at hW
  rw [← h1] at hrow1
  have HW := Lib.hid hW
  clear hW hrow1
  go_wp2_with fail
  refine HW.out.mono ?_
  rintro e w2 ⟨rfl, hb2⟩
  clear HW
  have hB2 : Below w.heap.size w w2 := Below.trans (by (repeat' (first | with_reducible exact Below.refl _ _ | with_reducible assumption | with_reducible refine Below.drew ?_ | with_reducible refine Below_drewN ?_ _ | with_reducible refine Below.alloc ?_ ?_ _ | with_reducible refine Below.setCell ?_ ?_ _ | omega | (simp; done) | (simp; omega)))) (hb2.mono (by simp; omega))
  have hT2 : blockIs w2 w.heap.size 24 #[.int .i64 t.n, .slice la t.links.length lc] := ((hT1.alloc _).alloc _).under hb2
  have hF2 : blockIs w2 (w.heap.size + 1) 64 #[.int .i64 f.src, .int .i64 f.dst, .slice va f.via.length vc, .slice na f.no.length nc] := ((hF1.alloc _).alloc _).under hb2
  clear t1 t2 f1 f2 hb2 hT1 hF1
  obtain ⟨t1, t2⟩ := hT2.cells
  obtain ⟨f1, f2⟩ := hF2.cells
  have hy1 := hF2.lt
  have hy0 := hT2.lt
  by_cases h2 : (flowsWrong [f] t.n).1 = 0
  case neg =>
    have hfo : Hid (findOf t f = ([], (flowsWrong [f] t.n).1)) := by show _ = _; unfold findOf; rw [if_neg (by simp [h1]), if_pos h2]
    have h2' : ((flowsWrong [f] t.n).1 != 0) = true := by rw [bne_iff_ne]; exact h2
    clear h2
    go_wp2
    go_quiet (fail)
    go_wp2
    go_ret2
    rw [hfo.out]
    exact ⟨none, 0, rfl, rowRep.nil _ _ _ _, by (repeat' (first | with_reducible exact Below.refl _ _ | with_reducible assumption | with_reducible refine Below.drew ?_ | with_reducible refine Below_drewN ?_ _ | with_reducible refine Below.alloc ?_ ?_ _ | with_reducible refine Below.setCell ?_ ?_ _ | omega | (simp; done) | (simp; omega)))⟩
  have h2' : ((flowsWrong [f] t.n).1 != 0) = false := by rw [bne_eq_false_iff_eq]; exact h2
  have hfo : Hid (findOf t f = (match (onS t f 9 [f.src] 0 0 (none, 0)).1 with | none => ([], 9) | some p => (p, 0))) := by show _ = _; unfold findOf; rw [if_neg (by simp [h1]), if_neg (by simp [h2])]; rfl
  have hfl := flowBad_zero (flows1 ▸ h2)
  obtain ⟨⟨n1, n8, _⟩, _⟩ := topo_right h1
  have hcr := cost_range h1
  have hvl := flow_via_len hfl
  have hW3 : Below w.heap.size w (((w2.alloc (.cells #[.int .i64 0, .int .i64 (flowsWrong [f] t.n).2] 66)).alloc (.cells #[.int .i64 t.n, .slice la t.links.length lc, .pointer (some ⟨w.heap.size + 1, 0, none⟩), .slice none 0 0, .int .i64 0] 110)).alloc (.cells #[.int .i64 f.src] 3)) := by (repeat' (first | with_reducible exact Below.refl _ _ | with_reducible assumption | with_reducible refine Below.drew ?_ | with_reducible refine Below_drewN ?_ _ | with_reducible refine Below.alloc ?_ ?_ _ | with_reducible refine Below.setCell ?_ ?_ _ | omega | (simp; done) | (simp; omega)))
  have hF3 : blockIs (((w2.alloc (.cells #[.int .i64 0, .int .i64 (flowsWrong [f] t.n).2] 66)).alloc (.cells #[.int .i64 t.n, .slice la t.links.length lc, .pointer (some ⟨w.heap.size + 1, 0, none⟩), .slice none 0 0, .int .i64 0] 110)).alloc (.cells #[.int .i64 f.src] 3)) (w.heap.size + 1) 64 #[.int .i64 f.src, .int .i64 f.dst, .slice va f.via.length vc, .slice na f.no.length nc] := ((hF2.alloc _).alloc _).alloc _
  have hsz3 : (((w2.alloc (.cells #[.int .i64 0, .int .i64 (flowsWrong [f] t.n).2] 66)).alloc (.cells #[.int .i64 t.n, .slice la t.links.length lc, .pointer (some ⟨w.heap.size + 1, 0, none⟩), .slice none 0 0, .int .i64 0] 110)).alloc (.cells #[.int .i64 f.src] 3)).heap.size = w2.heap.size + 3 := by simp
  have hin : SrchIn (((w2.alloc (.cells #[.int .i64 0, .int .i64 (flowsWrong [f] t.n).2] 66)).alloc (.cells #[.int .i64 t.n, .slice la t.links.length lc, .pointer (some ⟨w.heap.size + 1, 0, none⟩), .slice none 0 0, .int .i64 0] 110)).alloc (.cells #[.int .i64 f.src] 3)) (w2.heap.size + 1) (w.heap.size + 1) 0 t f la va na lc vc nc :=
    ⟨hr.mono fun b hb _ => ⟨by omega, hW3.block b hb⟩, (hF3.cells).1 0, (hF3.cells).1 1, (hF3.cells).1 2, (hF3.cells).1 3, hv.mono fun b hb _ => ⟨by omega, hW3.block b hb⟩, hno.mono fun b hb _ => ⟨by omega, hW3.block b hb⟩, by omega, by omega, by omega⟩
  have hbest : Best 110 (((w2.alloc (.cells #[.int .i64 0, .int .i64 (flowsWrong [f] t.n).2] 66)).alloc (.cells #[.int .i64 t.n, .slice la t.links.length lc, .pointer (some ⟨w.heap.size + 1, 0, none⟩), .slice none 0 0, .int .i64 0] 110)).alloc (.cells #[.int .i64 f.src] 3)) (w2.heap.size + 1) (w.heap.size + 1) 0 t.n la t.links.length lc (none, 0) := ⟨none, 0, 0, (blockIs.new (by simp)).alloc _, rfl, rfl, rfl⟩
  have hps : rowRep intS (fun b => b ≠ w2.heap.size + 1) (((w2.alloc (.cells #[.int .i64 0, .int .i64 (flowsWrong [f] t.n).2] 66)).alloc (.cells #[.int .i64 t.n, .slice la t.links.length lc, .pointer (some ⟨w.heap.size + 1, 0, none⟩), .slice none 0 0, .int .i64 0] 110)).alloc (.cells #[.int .i64 f.src] 3)) (some ⟨w2.heap.size + 2, 0, none⟩) 1 [f.src] := by
    have := row_src (w := (w2.alloc (.cells #[.int .i64 0, .int .i64 (flowsWrong [f] t.n).2] 66)).alloc (.cells #[.int .i64 t.n, .slice la t.links.length lc, .pointer (some ⟨w.heap.size + 1, 0, none⟩), .slice none 0 0, .int .i64 0] 110)) (e := 3) hs (w2.heap.size + 1) (by simp)
    rwa [show ((w2.alloc (.cells #[.int .i64 0, .int .i64 (flowsWrong [f] t.n).2] 66)).alloc (.cells #[.int .i64 t.n, .slice la t.links.length lc, .pointer (some ⟨w.heap.size + 1, 0, none⟩), .slice none 0 0, .int .i64 0] 110)).heap.size = w2.heap.size + 2 by simp] at this
  have hO := on_c t f (w2.heap.size + 1) (w.heap.size + 1) 0 la va na lc vc nc n8 hcr (by omega) 9 [f.src] 0 0 (none, 0) _ _ 1 hin hbest hps (by simp) (by simp) (by intro s hs'; simp at hs'; subst hs'; exact ⟨hfl.s0, hfl.s1⟩) (by simp; omega) (by decide) (by simp) (by simp)
  simp only [List.length_cons, List.length_nil, Nat.zero_add] at hO
  have HO := Lib.hid hO
  clear hO hps hin hcr hvl hfl n1 n8 hv hno hr
  go_wp2_with fail
  refine HO.out.mono ?_
  rintro e w4 ⟨rfl, ho4, ba, bl, bc, hB4, hbi⟩
  have hB : Below w.heap.size w w4 := hW3.trans (ho4.below (by omega) (by omega))
  obtain ⟨z1, z2⟩ := hB4.cells
  clear HO hbest ho4 hW3 hF3 t1 t2 f1 f2
  generalize onS t f 9 [f.src] 0 0 (none, 0) = st at *
  obtain ⟨so, sc⟩ := st
  cases so with
  | none =>
    obtain ⟨rfl, rfl, rfl⟩ := hbi
    dsimp only at *
    go_wp2
    go_ret2
    rw [hfo.out]
    exact ⟨none, 0, rfl, rowRep.nil _ _ _ _, by (repeat' (first | with_reducible exact Below.refl _ _ | with_reducible assumption | with_reducible refine Below.drew ?_ | with_reducible refine Below_drewN ?_ _ | with_reducible refine Below.alloc ?_ ?_ _ | with_reducible refine Below.setCell ?_ ?_ _ | omega | (simp; done) | (simp; omega)))⟩
  | some p =>
    obtain ⟨hba, rfl, hbr⟩ := hbi
    obtain ⟨ba, rfl⟩ := Option.isSome_iff_exists.1 hba
    dsimp only at *
    go_wp2
    go_ret2
    rw [hfo.out]
    exact ⟨some ba, bc, rfl, hbr.mono (fun b hb hk => ⟨by have hk' : w2.heap.size + 1 < b := hk; omega, rfl⟩), by (repeat' (first | with_reducible exact Below.refl _ _ | with_reducible assumption | with_reducible refine Below.drew ?_ | with_reducible refine Below_drewN ?_ _ | with_reducible refine Below.alloc ?_ ?_ _ | with_reducible refine Below.setCell ?_ ?_ _ | omega | (simp; done) | (simp; omega)))⟩

theorem find_c (t : Topo) (f : Flow) (cs ds : List Value) (ok ok' : Nat → Prop) (w : World) (h : topoS.rep ok w cs t) (hf : flowS.rep ok' w ds f) :
    Calls Try.prog 38 #[.agg cs.toArray, .agg ds.toArray] w fun e w' => ∃ ao cap, e = .returned (.tuple #[.slice ao (findOf t f).1.length cap, .int .i64 (findOf t f).2]) ∧ rowRep intS (fun _ => True) w' ao cap (findOf t f).1 ∧ Below w.heap.size w w' :=
  (find_s t f cs ds ok ok' w h hf).mono fun e w' ⟨ao, cap, h1, h2, h3⟩ => ⟨ao, cap, h1, h2.mono (fun b _ _ => ⟨trivial, rfl⟩), h3⟩

end Go.Proofs.Ytagldmdeohenjaa
