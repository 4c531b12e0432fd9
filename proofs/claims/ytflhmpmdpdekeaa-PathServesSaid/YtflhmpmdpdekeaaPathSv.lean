/-
  The walk of PathServes.
-/
import Derived.Test.YtflhmpmdpdekeaaPathA
import Derived.Test.YtflhmpmdpdekeaaServes
import Derived.WalkKit
import Derived.WalkSpells
import Derived.WalkLawsBesides
import Derived.Lib.Hide
import Derived.Deep.LoopGhost
import Derived.Deep.QuietTactic
import Derived.BigQuiet
import Derived.Deep.RegionWith
import Derived.Handy
set_option linter.unusedSimpArgs false
set_option linter.unusedVariables false
namespace Go.Proofs.Ytflhmpmdpdekeaa
open Go.RowKit Go.St

set_option maxRecDepth 100000 in
set_option maxHeartbeats 8000000 in
theorem pathServes_c (w : World) (t : Topo) (cs : List Value) (ok : Nat → Prop) (h : topoS.rep ok w cs t) (f : Flow) (ds : List Value) (ok' : Nat → Prop) (hf : flowS.rep ok' w ds f) :
    Calls Try.prog 3 #[.agg cs.toArray, .agg ds.toArray] w fun e w' => e = .returned (.bool true) ∧ Below w.heap.size w w' := by
  have hT := h
  obtain ⟨la, lc, rfl, hn, hr⟩ := h
  obtain ⟨va, vc, na, nc, rfl, hs, hd, hv, hno⟩ := id hf
  go_enter Try.func3, Try.ntmps3
  go_wp2_with fail
  refine (alive_c _).mono ?_
  rintro e w1 ⟨rfl, hb1⟩
  have hB1 : Below w.heap.size w w1 := Below.trans (by (repeat' (first | with_reducible exact Below.refl _ _ | with_reducible assumption | with_reducible refine Below.drew ?_ | with_reducible refine Below_drewN ?_ _ | with_reducible refine Below.alloc ?_ ?_ _ | with_reducible refine Below.setCell ?_ ?_ _ | omega | (simp; done) | (simp; omega)))) (hb1.mono (by simp; omega))
  have hT1 : blockIs w1 w.heap.size 24 #[.int .i64 t.n, .slice la t.links.length lc] := ((blockIs.new rfl).alloc _).under hb1
  have hF1 : blockIs w1 (w.heap.size + 1) 27 #[.int .i64 f.src, .int .i64 f.dst, .slice va f.via.length vc, .slice na f.no.length nc] := (blockIs.new (by simp)).under hb1
  obtain ⟨t1, t2⟩ := hT1.cells
  obtain ⟨f1, f2⟩ := hF1.cells
  clear hb1
  go_wp2_with fail
  refine (find_c t f _ _ ok ok' _ (topoS.below hT hB1) (flowS.below hf hB1)).mono ?_
  rintro e w2 ⟨ao, cap, rfl, hp, hb2⟩
  have hB2 : Below w.heap.size w w2 := hB1.trans (hb2.mono (by have := hB1.size; omega))
  have hT2 := hT1.under hb2
  have hF2 := hF1.under hb2
  clear t1 t2 f1 f2 hb2 hT1 hF1
  obtain ⟨t1, t2⟩ := hT2.cells
  obtain ⟨f1, f2⟩ := hF2.cells
  by_cases h2 : (findOf t f).2 = 0
  case neg =>
    have h2' : ((findOf t f).2 != 0) = true := by rw [bne_iff_ne]; exact h2
    rw [find_bad h2]
    clear h2 hp
    go_wp2
    go_ret; exact ⟨rfl, by (repeat' (first | with_reducible exact Below.refl _ _ | with_reducible assumption | with_reducible refine Below.drew ?_ | with_reducible refine Below_drewN ?_ _ | with_reducible refine Below.alloc ?_ ?_ _ | with_reducible refine Below.setCell ?_ ?_ _ | omega | (simp; done) | (simp; omega)))⟩
  obtain ⟨_, _, hg, _⟩ := find_good h2
  rw [h2]
  clear h2
  generalize (findOf t f).1 = p at *
  go_wp2_with fail
  refine (servesGood_c t f p _ _ ok ok' _ ao cap _ (topoS.below hT hB2) (flowS.below hf hB2) hp hg).mono ?_
  rintro e w3 ⟨rfl, hb3⟩
  have hB3 : Below w.heap.size w w3 := hB2.trans (hb3.mono (by have := hB2.size; omega))
  clear hb3 t1 t2 f1 f2
  go_wp2
  go_ret; exact ⟨rfl, by (repeat' (first | with_reducible exact Below.refl _ _ | with_reducible assumption | with_reducible refine Below.drew ?_ | with_reducible refine Below_drewN ?_ _ | with_reducible refine Below.alloc ?_ ?_ _ | with_reducible refine Below.setCell ?_ ?_ _ | omega | (simp; done) | (simp; omega)))⟩

end Go.Proofs.Ytflhmpmdpdekeaa
