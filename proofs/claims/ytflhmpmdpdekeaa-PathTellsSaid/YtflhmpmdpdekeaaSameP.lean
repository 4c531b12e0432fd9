/-
  The walk of the document's SamePlan, at equal plans.
-/
import Derived.Test.YtflhmpmdpdekeaaSameF
import Derived.WalkKit
import Derived.WalkSpells
import Derived.WalkLawsBesides
import Derived.Lib.Hide
import Derived.Deep.LoopGhost
import Derived.Deep.QuietTactic
import Derived.BigQuiet
import Derived.Deep.RegionWith
import Derived.Handy
set_option linter.unusedSimpArgs false
set_option linter.unusedVariables false
namespace Go.St
open Go.RowKit
/-- the paths of two plans, and one path of each -/
def SP (b b' g o g' o' : Nat) (pa pa' qa qa' : Option Addr) (pl pc pc' ql qc qc' : Nat) (w : World) : Prop :=
  w.cell? ⟨b, 2, none⟩ = some (.slice pa pl pc) ∧ w.cell? ⟨b', 2, none⟩ = some (.slice pa' pl pc') ∧ w.cell? ⟨g, o, none⟩ = some (.slice qa ql qc) ∧ w.cell? ⟨g', o', none⟩ = some (.slice qa' ql qc')
end Go.St
namespace Go.Proofs.Ytflhmpmdpdekeaa
open Go.RowKit Go.St

set_option maxRecDepth 100000 in
set_option maxHeartbeats 8000000 in
theorem samePlan_c (p : Plan) (cs ds : List Value) (ok ok' : Nat → Prop) (w : World) (hx : planS.rep ok w cs p) (hy : planS.rep ok' w ds p) :
    Calls Try.prog 22 #[.agg cs.toArray, .agg ds.toArray] w fun e w' => e = .returned (.bool true) ∧ Below w.heap.size w w' := by
  obtain ⟨fa, fc, pa, pc, rfl, hv, hfl, hpa⟩ := hx
  obtain ⟨fa', fc', pa', pc', rfl, _, hfl', hpa'⟩ := hy
  have hlp := hpa.len_le
  have hlf := hfl.len_le
  go_enter Try.func22, Try.ntmps22
  have hX0 : blockIs ((w.alloc (.cells #[.int .i64 p.ver, .slice fa p.flows.length fc, .slice pa p.paths.length pc] 48)).alloc (.cells #[.int .i64 p.ver, .slice fa' p.flows.length fc', .slice pa' p.paths.length pc'] 48)) w.heap.size 48 #[.int .i64 p.ver, .slice fa p.flows.length fc, .slice pa p.paths.length pc] := (blockIs.new rfl).alloc _
  have hY0 : blockIs ((w.alloc (.cells #[.int .i64 p.ver, .slice fa p.flows.length fc, .slice pa p.paths.length pc] 48)).alloc (.cells #[.int .i64 p.ver, .slice fa' p.flows.length fc', .slice pa' p.paths.length pc'] 48)) (w.heap.size + 1) 48 #[.int .i64 p.ver, .slice fa' p.flows.length fc', .slice pa' p.paths.length pc'] := blockIs.new (by simp)
  have hB0 : Below w.heap.size w ((w.alloc (.cells #[.int .i64 p.ver, .slice fa p.flows.length fc, .slice pa p.paths.length pc] 48)).alloc (.cells #[.int .i64 p.ver, .slice fa' p.flows.length fc', .slice pa' p.paths.length pc'] 48)) := by (repeat' (first | with_reducible exact Below.refl _ _ | with_reducible assumption | with_reducible refine Below.drew ?_ | with_reducible refine Below_drewN ?_ _ | with_reducible refine Below.alloc ?_ ?_ _ | with_reducible refine Below.setCell ?_ ?_ _ | omega | (simp; done) | (simp; omega)))
  go_wp2_with fail
  generalize (w.alloc (.cells #[.int .i64 p.ver, .slice fa p.flows.length fc, .slice pa p.paths.length pc] 48)).alloc (.cells #[.int .i64 p.ver, .slice fa' p.flows.length fc', .slice pa' p.paths.length pc'] 48) = w0 at *
  refine (sameFlows_c p.flows ok ok' fa fa' fc fc' _ (hfl.below (hB0.trans (by (repeat' (first | with_reducible exact Below.refl _ _ | with_reducible assumption | with_reducible refine Below.drew ?_ | with_reducible refine Below_drewN ?_ _ | with_reducible refine Below.alloc ?_ ?_ _ | with_reducible refine Below.setCell ?_ ?_ _ | omega | (simp; done) | (simp; omega)))))) (hfl'.below (hB0.trans (by (repeat' (first | with_reducible exact Below.refl _ _ | with_reducible assumption | with_reducible refine Below.drew ?_ | with_reducible refine Below_drewN ?_ _ | with_reducible refine Below.alloc ?_ ?_ _ | with_reducible refine Below.setCell ?_ ?_ _ | omega | (simp; done) | (simp; omega))))))).mono ?_
  rintro e w1 ⟨rfl, hb1⟩
  have hb01 : Below w0.heap.size w0 w1 := Below.trans (by (repeat' (first | with_reducible exact Below.refl _ _ | with_reducible assumption | with_reducible refine Below.drew ?_ | with_reducible refine Below_drewN ?_ _ | with_reducible refine Below.alloc ?_ ?_ _ | with_reducible refine Below.setCell ?_ ?_ _ | omega | (simp; done) | (simp; omega)))) (hb1.mono (by first | omega | (simp; done) | (simp; omega)))
  have hB1 : Below w.heap.size w w1 := hB0.trans (hb01.mono hB0.size)
  have hX1 := hX0.under hb01
  have hY1 := hY0.under hb01
  clear hb1 hb01 hX0 hY0 hB0 hfl hfl'
  obtain ⟨x1, x2⟩ := hX1.cells
  obtain ⟨y1, y2⟩ := hY1.cells
  go_wp2
  go_loopw [5, 31] (fun _ i wr => ∃ j : Nat, j ≤ p.paths.length ∧ i = .int .i64 j ∧ Below w1.heap.size w1 wr) (fun _ i _ => p.paths.length - (intOf i).toNat)
  case atStart => exact ⟨0, Nat.zero_le _, rfl, by (repeat' (first | with_reducible exact Below.refl _ _ | with_reducible assumption | with_reducible refine Below.drew ?_ | with_reducible refine Below_drewN ?_ _ | with_reducible refine Below.alloc ?_ ?_ _ | with_reducible refine Below.setCell ?_ ?_ _ | omega | (simp; done) | (simp; omega)))⟩
  case round =>
    obtain ⟨j, hj, rfl, hb⟩ := hrel
    clear x1 x2 y1 y2
    have hB2 : Below w.heap.size w wr := hB1.trans (hb.mono hB1.size)
    have hsz := hB2.size
    have hX2 := hX1.under hb
    have hY2 := hY1.under hb
    by_cases hlt : j < p.paths.length
    case neg =>
      have b1 : ¬ (j : Int) < (p.paths.length : Int) := by omega
      go_wp2
      go_ret; exact ⟨rfl, by (repeat' (first | with_reducible exact Below.refl _ _ | with_reducible assumption | with_reducible refine Below.drew ?_ | with_reducible refine Below_drewN ?_ _ | with_reducible refine Below.alloc ?_ ?_ _ | with_reducible refine Below.setCell ?_ ?_ _ | omega | (simp; done) | (simp; omega)))⟩
    have b1 : (j : Int) < (p.paths.length : Int) := by omega
    obtain ⟨q, hq⟩ : ∃ q, p.paths[j]? = some q := ⟨_, List.getElem?_eq_getElem hlt⟩
    obtain ⟨g, o, rfl, _, hg, cs1, hcs, hce⟩ := hpa.get hq
    obtain ⟨qa, qc, rfl, hqr⟩ := hcs
    obtain ⟨g', o', rfl, _, hg', cs2, hcs', hce'⟩ := hpa'.get hq
    obtain ⟨qa', qc', rfl, hqr'⟩ := hcs'
    have e0 := cell_at hB2 hg (hce 0 _ rfl)
    have f0 := cell_at hB2 hg' (hce' 0 _ rfl)
    simp only [sliceS, Nat.add_zero, Nat.mul_one] at e0 f0
    clear hce hce' hq
    have hI := fun w' (hw' : Below w.heap.size w w') => ints_c q q ok ok' qa qa' qc qc' w' (hqr.below hw') (hqr'.below hw')
    rw [beq_self_eq_true] at hI
    have HI := Lib.hid hI
    clear hI hqr hqr'
    go_wp2
    have hS0 : SP w.heap.size (w.heap.size + 1) g (o + j) g' (o' + j) (some ⟨g, o, none⟩) (some ⟨g', o', none⟩) qa qa' p.paths.length pc pc' q.length qc qc' wr.drew := ⟨hX2.cells.1 2, hY2.cells.1 2, e0, f0⟩
    have hbd : Below w.heap.size w wr.drew := hB2.trans (by (repeat' (first | with_reducible exact Below.refl _ _ | with_reducible assumption | with_reducible refine Below.drew ?_ | with_reducible refine Below_drewN ?_ _ | with_reducible refine Below.alloc ?_ ?_ _ | with_reducible refine Below.setCell ?_ ?_ _ | omega | (simp; done) | (simp; omega))))
    have hbd1 : Below w1.heap.size w1 wr.drew := hb.trans (by (repeat' (first | with_reducible exact Below.refl _ _ | with_reducible assumption | with_reducible refine Below.drew ?_ | with_reducible refine Below_drewN ?_ _ | with_reducible refine Below.alloc ?_ ?_ _ | with_reducible refine Below.setCell ?_ ?_ _ | omega | (simp; done) | (simp; omega))))
    have hzd : w.heap.size ≤ wr.drew.heap.size := by simpa using hsz
    have hzy : w.heap.size + 1 < wr.drew.heap.size := by have := hY2.lt; simpa using this
    clear e0 f0
    refine wp_region_K (SP w.heap.size (w.heap.size + 1) g (o + j) g' (o' + j) (some ⟨g, o, none⟩) (some ⟨g', o', none⟩) qa qa' p.paths.length pc pc' q.length qc qc') 99 (by kernel_rfl) ?_
    generalize wr.drew = w2 at *
    have hS := hS0
    refine wpAnyK_take' (i := 0) (.pointer (some ⟨w.heap.size, 2, none⟩)) rfl (by kernel_rfl) (fun _ _ _ h => h) hS (yields_value (by kernel_rfl) (by intro w0 hw0; have hw1 := hw0; simp only [SP] at hw1; go_simp)) ?_; simp only [Act.put, List.getElem_toArray, List.getElem_cons_succ, List.getElem_cons_zero, List.setIfInBounds_toArray, List.set_cons_succ, List.set_cons_zero]
    refine wpAnyK_take' (i := 1) (.slice (some ⟨g, o, none⟩) p.paths.length pc) rfl (by kernel_rfl) (fun _ _ _ h => h) hS (yields_value (by kernel_rfl) (by intro w0 hw0; have hw1 := hw0; simp only [SP] at hw1; go_simp)) ?_; simp only [Act.put, List.getElem_toArray, List.getElem_cons_succ, List.getElem_cons_zero, List.setIfInBounds_toArray, List.set_cons_succ, List.set_cons_zero]
    refine wpAnyK_take' (i := 2) (.int .i64 j) rfl (by kernel_rfl) (fun _ _ _ h => h) hS (yields_value (by kernel_rfl) (by intro w0 hw0; have hw1 := hw0; simp only [SP] at hw1; go_simp)) ?_; simp only [Act.put, List.getElem_toArray, List.getElem_cons_succ, List.getElem_cons_zero, List.setIfInBounds_toArray, List.set_cons_succ, List.set_cons_zero]
    refine wpAnyK_take' (i := 3) (.pointer (some ⟨g, o + j, none⟩)) rfl (by kernel_rfl) (fun _ _ _ h => h) hS (yields_value (by kernel_rfl) (by intro w0 hw0; have hw1 := hw0; simp only [SP] at hw1; go_simp)) ?_; simp only [Act.put, List.getElem_toArray, List.getElem_cons_succ, List.getElem_cons_zero, List.setIfInBounds_toArray, List.set_cons_succ, List.set_cons_zero]
    refine wpAnyK_take' (i := 4) (.slice qa q.length qc) rfl (by kernel_rfl) (fun _ _ _ h => h) hS (yields_value (by kernel_rfl) (by intro w0 hw0; have hw1 := hw0; simp only [SP] at hw1; go_simp)) ?_; simp only [Act.put, List.getElem_toArray, List.getElem_cons_succ, List.getElem_cons_zero, List.setIfInBounds_toArray, List.set_cons_succ, List.set_cons_zero]
    refine wpAnyK_take' (i := 5) (.pointer (some ⟨w.heap.size + 1, 2, none⟩)) rfl (by kernel_rfl) (fun _ _ _ h => h) hS (yields_value (by kernel_rfl) (by intro w0 hw0; have hw1 := hw0; simp only [SP] at hw1; go_simp)) ?_; simp only [Act.put, List.getElem_toArray, List.getElem_cons_succ, List.getElem_cons_zero, List.setIfInBounds_toArray, List.set_cons_succ, List.set_cons_zero]
    refine wpAnyK_take' (i := 6) (.slice (some ⟨g', o', none⟩) p.paths.length pc') rfl (by kernel_rfl) (fun _ _ _ h => h) hS (yields_value (by kernel_rfl) (by intro w0 hw0; have hw1 := hw0; simp only [SP] at hw1; go_simp)) ?_; simp only [Act.put, List.getElem_toArray, List.getElem_cons_succ, List.getElem_cons_zero, List.setIfInBounds_toArray, List.set_cons_succ, List.set_cons_zero]
    refine wpAnyK_take' (i := 7) (.int .i64 j) rfl (by kernel_rfl) (fun _ _ _ h => h) hS (yields_value (by kernel_rfl) (by intro w0 hw0; have hw1 := hw0; simp only [SP] at hw1; go_simp)) ?_; simp only [Act.put, List.getElem_toArray, List.getElem_cons_succ, List.getElem_cons_zero, List.setIfInBounds_toArray, List.set_cons_succ, List.set_cons_zero]
    refine wpAnyK_take' (i := 8) (.pointer (some ⟨g', o' + j, none⟩)) rfl (by kernel_rfl) (fun _ _ _ h => h) hS (yields_value (by kernel_rfl) (by intro w0 hw0; have hw1 := hw0; simp only [SP] at hw1; go_simp)) ?_; simp only [Act.put, List.getElem_toArray, List.getElem_cons_succ, List.getElem_cons_zero, List.setIfInBounds_toArray, List.set_cons_succ, List.set_cons_zero]
    refine wpAnyK_take' (i := 9) (.slice qa' q.length qc') rfl (by kernel_rfl) (fun _ _ _ h => h) hS (yields_value (by kernel_rfl) (by intro w0 hw0; have hw1 := hw0; simp only [SP] at hw1; go_simp)) ?_; simp only [Act.put, List.getElem_toArray, List.getElem_cons_succ, List.getElem_cons_zero, List.setIfInBounds_toArray, List.set_cons_succ, List.set_cons_zero]
    refine wpAnyK_call (i := 10) rfl (by kernel_rfl) (by kernel_rfl) fun K10 hK10 => ?_
    go_simp
    go_wp2_with fail
    refine (HI.out _ hbd).mono ?_
    rintro e w3 ⟨rfl, hb3⟩
    have hB3 : Below w.heap.size w w3 := hbd.trans (hb3.mono hzd)
    have hb13 : Below w1.heap.size w1 w3 := hbd1.trans (hb3.mono hbd1.size)
    have hS3 : SP w.heap.size (w.heap.size + 1) g (o + j) g' (o' + j) (some ⟨g, o, none⟩) (some ⟨g', o', none⟩) qa qa' p.paths.length pc pc' q.length qc qc' w3 := ⟨cell_at hb3 (by omega) hS.1, cell_at hb3 (by omega) hS.2.1, cell_at hb3 (by omega) hS.2.2.1, cell_at hb3 (by omega) hS.2.2.2⟩
    clear hS
    have hS := hS3
    go_wp2_with fail
    refine hK10 _ _ (fun _ => hS) ?_
    clear hK10
    refine wpAnyK_take' (i := 11) (.bool false) rfl (by kernel_rfl) (fun _ _ _ h => h) hS (yields_value (by kernel_rfl) (by intro w0 hw0; have hw1 := hw0; simp only [SP] at hw1; go_simp)) ?_; simp only [Act.put, List.getElem_toArray, List.getElem_cons_succ, List.getElem_cons_zero, List.setIfInBounds_toArray, List.set_cons_succ, List.set_cons_zero]
    refine wpAnyK_done (by kernel_rfl) ?_ _
    clear hS
    go_wp2
    case roundEnd =>
      go_roundw
      case rel => exact ⟨j + 1, by omega, by go_num, hb13.trans (by (repeat' (first | with_reducible exact Below.refl _ _ | with_reducible assumption | with_reducible refine Below.drew ?_ | with_reducible refine Below_drewN ?_ _ | with_reducible refine Below.alloc ?_ ?_ _ | with_reducible refine Below.setCell ?_ ?_ _ | omega | (simp; done) | (simp; omega))))⟩
      case measure => simp [intOf] <;> omega

end Go.Proofs.Ytflhmpmdpdekeaa
