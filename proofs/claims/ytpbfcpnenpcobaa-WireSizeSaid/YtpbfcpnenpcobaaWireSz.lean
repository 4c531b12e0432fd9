/-
  The walk of WireSize.
-/
import Derived.Test.YtpbfcpnenpcobaaWireA
import Derived.WalkKit
import Derived.WalkSpells
import Derived.WalkLawsBesides
import Derived.Lib.Hide
import Derived.Deep.LoopGhost
import Derived.Deep.QuietTactic
import Derived.BigQuiet
import Derived.Deep.RegionWith
import Derived.Handy
set_option linter.unusedSimpArgs false
set_option linter.unusedVariables false
namespace Go.Proofs.Ytpbfcpnenpcobaa
open Go.RowKit Go.St

theorem head_len (o : Order) : (headB o).length = 6 := rfl

theorem size_add {n v : Int} {rs : List Rule} {fs : List Int} (h : wireWrong ⟨1, n, v, rs, fs⟩ = 0) : (bytesOf ⟨1, n, v, rs, fs⟩).length = 8 + 2 * rs.length := by
  rw [bytesOf_good h]; simp [bodyB, head_len, rulesB_len]; omega
theorem size_stamp {n v : Int} {rs : List Rule} {fs : List Int} (h : wireWrong ⟨2, n, v, rs, fs⟩ = 0) : (bytesOf ⟨2, n, v, rs, fs⟩).length = 8 + fs.length := by
  rw [bytesOf_good h]; simp [bodyB, head_len]; omega
theorem size_drop {n v : Int} {rs : List Rule} {fs : List Int} (h : wireWrong ⟨3, n, v, rs, fs⟩ = 0) : (bytesOf ⟨3, n, v, rs, fs⟩).length = 7 := by
  rw [bytesOf_good h]; simp [bodyB, head_len]

set_option maxHeartbeats 4000000 in
theorem wireSize_c (w : World) (o : Order) (cs : List Value) (ok : Nat → Prop) (h : orderS.rep ok w cs o) :
    Calls Try.prog 6 #[.agg cs.toArray] w fun e w' => e = .returned (.bool true) ∧ Below w.heap.size w w' := by
  obtain ⟨ra, rc, fa, fc, rfl, hi⟩ := id h
  go_enter Try.func6, Try.ntmps6
  go_wp2_with fail
  refine (alive_c _).mono ?_
  rintro e w1 ⟨rfl, hb1⟩
  have hB1 : Below w.heap.size w w1 := Below.trans (by (repeat' (first | with_reducible exact Below.refl _ _ | with_reducible assumption | with_reducible refine Below.drew ?_ | with_reducible refine Below_drewN ?_ _ | with_reducible refine Below.alloc ?_ ?_ _ | with_reducible refine Below.setCell ?_ ?_ _ | omega | (simp; done) | (simp; omega)))) (hb1.mono (by first | omega | (simp; done) | (simp; omega)))
  have hsz1 : w.heap.size < w1.heap.size := by have := hb1.size; simp at this; omega
  have b0 : w1.cell? ⟨w.heap.size, 0, none⟩ = some (.int .i64 o.kind) := by rw [World.cell?_of_block (hb1.block w.heap.size (by simp))]; simp [go_sem]
  have b1 : w1.cell? ⟨w.heap.size, 1, none⟩ = some (.int .i64 o.num) := by rw [World.cell?_of_block (hb1.block w.heap.size (by simp))]; simp [go_sem]
  have b2 : w1.cell? ⟨w.heap.size, 2, none⟩ = some (.int .i64 o.ver) := by rw [World.cell?_of_block (hb1.block w.heap.size (by simp))]; simp [go_sem]
  have b3 : w1.cell? ⟨w.heap.size, 3, none⟩ = some (.slice ra o.rules.length rc) := by rw [World.cell?_of_block (hb1.block w.heap.size (by simp))]; simp [go_sem]
  have b4 : w1.cell? ⟨w.heap.size, 4, none⟩ = some (.slice fa o.flows.length fc) := by rw [World.cell?_of_block (hb1.block w.heap.size (by simp))]; simp [go_sem]
  clear hb1
  have h1 := orderS.below h hB1
  go_wp2_with fail
  refine (bytes_c o _ _ _ h1).mono ?_
  rintro e w2 ⟨ao, cap, rfl, _, hb2⟩
  have hB2 : Below w.heap.size w w2 := Below.trans hB1 (hb2.mono (by omega))
  have c0 : w2.cell? ⟨w.heap.size, 0, none⟩ = some (.int .i64 o.kind) := by rw [World.cell?_of_block (hb2.block w.heap.size hsz1)]; exact b0
  have c3 : w2.cell? ⟨w.heap.size, 3, none⟩ = some (.slice ra o.rules.length rc) := by rw [World.cell?_of_block (hb2.block w.heap.size hsz1)]; exact b3
  have c4 : w2.cell? ⟨w.heap.size, 4, none⟩ = some (.slice fa o.flows.length fc) := by rw [World.cell?_of_block (hb2.block w.heap.size hsz1)]; exact b4
  clear b0 b1 b2 b3 b4 h h1 hb2
  by_cases hw : wireWrong o = 0
  case neg =>
    rw [bytesOf_bad hw]
    have hw' : (wireWrong o == 0) = false := by rw [beq_eq_false_iff_ne]; exact hw
    clear hw
    go_wp2
    go_ret; exact ⟨rfl, by (repeat' (first | with_reducible exact Below.refl _ _ | with_reducible assumption | with_reducible refine Below.drew ?_ | with_reducible refine Below_drewN ?_ _ | with_reducible refine Below.alloc ?_ ?_ _ | with_reducible refine Below.setCell ?_ ?_ _ | omega | (simp; done) | (simp; omega)))⟩
  obtain ⟨_, _, _, _, hk⟩ := good_parts hw
  obtain ⟨k, n, v, rs, fs⟩ := o
  dsimp only at *
  rcases hk with ⟨rfl, hl, ha⟩ | ⟨rfl, hl, ha⟩ | rfl
  · rw [hw, size_add hw]
    clear hw ha
    go_wp2
    go_ret; exact ⟨ret_bool (by first | (simp; done) | (simp; omega)), by (repeat' (first | with_reducible exact Below.refl _ _ | with_reducible assumption | with_reducible refine Below.drew ?_ | with_reducible refine Below_drewN ?_ _ | with_reducible refine Below.alloc ?_ ?_ _ | with_reducible refine Below.setCell ?_ ?_ _ | omega | (simp; done) | (simp; omega)))⟩
  · rw [hw, size_stamp hw]
    clear hw ha
    go_wp2
    go_ret; exact ⟨ret_bool (by first | (simp; done) | (simp; omega)), by (repeat' (first | with_reducible exact Below.refl _ _ | with_reducible assumption | with_reducible refine Below.drew ?_ | with_reducible refine Below_drewN ?_ _ | with_reducible refine Below.alloc ?_ ?_ _ | with_reducible refine Below.setCell ?_ ?_ _ | omega | (simp; done) | (simp; omega)))⟩
  · rw [hw, size_drop hw]
    clear hw
    go_wp2
    go_ret; exact ⟨rfl, by (repeat' (first | with_reducible exact Below.refl _ _ | with_reducible assumption | with_reducible refine Below.drew ?_ | with_reducible refine Below_drewN ?_ _ | with_reducible refine Below.alloc ?_ ?_ _ | with_reducible refine Below.setCell ?_ ?_ _ | omega | (simp; done) | (simp; omega)))⟩

end Go.Proofs.Ytpbfcpnenpcobaa
