/-
  The walk of WireTells.
-/
import Derived.Test.YtpbfcpnenpcobaaRefC
import Derived.Test.YtpbfcpnenpcobaaBytesR
import Derived.Test.YtpbfcpnenpcobaaSame
import Derived.Test.YtpbfcpnenpcobaaStr
import Derived.Test.YtpbfcpnenpcobaaWireTu
import Derived.WalkKit
import Derived.WalkSpells
import Derived.WalkLawsBesides
import Derived.Lib.Hide
import Derived.Deep.LoopGhost
import Derived.Deep.QuietTactic
import Derived.BigQuiet
import Derived.Deep.RegionWith
import Derived.Handy
set_option linter.unusedSimpArgs false
set_option linter.unusedVariables false
namespace Go.Proofs.Ytpbfcpnenpcobaa
open Go.RowKit Go.St

set_option maxRecDepth 100000 in
set_option maxHeartbeats 8000000 in
theorem wireTells_c (w : World) (o : Order) (cs : List Value) (ok : Nat → Prop) (h : orderS.rep ok w cs o) (l : List Int) (al : Option Addr) (cl : Nat) (ok' : Nat → Prop) (hl : rowRep byteS ok' w al cl l) :
    Calls Try.prog 3 #[.agg cs.toArray, .slice al l.length cl] w fun e w' => e = .returned (.bool true) ∧ Below w.heap.size w w' := by
  obtain ⟨ra, rc, fa, fc, rfl, hio⟩ := id h
  have hrep : ∀ w', Below w.heap.size w w' → orderS.rep ok w' _ o := fun w' hb => orderS.below h hb
  go_enter Try.func3, Try.ntmps3
  go_wp2_with fail
  have hT : five (w.alloc (.cells #[.int .i64 o.kind, .int .i64 o.num, .int .i64 o.ver, .slice ra o.rules.length rc, .slice fa o.flows.length fc] 25)).drew w.heap.size o.kind o.num o.ver ra o.rules.length rc fa o.flows.length fc := by
    unfold five
    simp [go_sem]
  refine wp_region_K (fun w' => five w' w.heap.size o.kind o.num o.ver ra o.rules.length rc fa o.flows.length fc) 99 (by kernel_rfl) ?_
  have hS := hT
  refine wpAnyK_take' (i := 0) (.agg #[.int .i64 o.kind, .int .i64 o.num, .int .i64 o.ver, .slice ra o.rules.length rc, .slice fa o.flows.length fc]) rfl (by kernel_rfl) (fun _ _ _ h => h) hS (yields_value (by rfl) (by intro w0 hw0; have hw1 := hw0; simp only [five] at hw1; go_simp)) ?_; simp only [Act.put, List.setIfInBounds_toArray, List.set_cons_succ, List.set_cons_zero]
  refine wpAnyK_take' (i := 2) (.agg #[.int .i64 o.kind, .int .i64 o.num, .int .i64 o.ver, .slice ra o.rules.length rc, .slice fa o.flows.length fc]) rfl (by kernel_rfl) (fun _ _ _ h => h) hS (yields_value (by rfl) (by intro w0 hw0; have hw1 := hw0; simp only [five] at hw1; go_simp)) ?_; simp only [Act.put, List.setIfInBounds_toArray, List.set_cons_succ, List.set_cons_zero]
  refine wpAnyK_call (i := 1) rfl (by rfl) (by kernel_rfl) fun K1 hK1 => ?_
  go_simp
  go_wp2_with fail
  refine (wireWrong_c o _ ok _ (hrep _ (by (repeat' (first | with_reducible exact Below.refl _ _ | with_reducible assumption | with_reducible refine Below.drew ?_ | with_reducible refine Below_drewN ?_ _ | with_reducible refine Below.alloc ?_ ?_ _ | with_reducible refine Below.setCell ?_ ?_ _ | omega | (simp; done) | (simp; omega)))))).mono ?_
  rintro e w1 ⟨rfl, hb1⟩
  have hS1 : five w1 w.heap.size o.kind o.num o.ver ra o.rules.length rc fa o.flows.length fc := hT.keep hb1 (by simp)
  have hB1 : Below w.heap.size w w1 := Below.trans (by (repeat' (first | with_reducible exact Below.refl _ _ | with_reducible assumption | with_reducible refine Below.drew ?_ | with_reducible refine Below_drewN ?_ _ | with_reducible refine Below.alloc ?_ ?_ _ | with_reducible refine Below.setCell ?_ ?_ _ | omega | (simp; done) | (simp; omega)))) (hb1.mono (by first | omega | (simp; done) | (simp; omega)))
  have hz1 : w.heap.size < w1.heap.size := hS1.lt
  clear hb1 hS hT
  have hS := hS1
  go_wp2_with fail
  refine hK1 _ _ (fun _ => hS) ?_
  clear hK1
  refine wpAnyK_call (i := 3) rfl (by rfl) (by kernel_rfl) fun K3 hK3 => ?_
  go_simp
  go_wp2_with fail
  refine (refWrong_c o _ ok _ (hrep _ hB1)).mono ?_
  rintro e w2 ⟨rfl, hb2⟩
  have hS2 : five w2 w.heap.size o.kind o.num o.ver ra o.rules.length rc fa o.flows.length fc := hS1.keep hb2 hz1
  have hB2 : Below w.heap.size w w2 := Below.trans hB1 (hb2.mono (by omega))
  have hz2 : w.heap.size < w2.heap.size := hS2.lt
  clear hb2 hS hS1
  have hS := hS2
  go_wp2_with fail
  refine hK3 _ _ (fun _ => hS) ?_
  clear hK3
  refine wpAnyK_take' (i := 4) (.bool false) rfl (by kernel_rfl) (fun _ _ _ h => h) hS (yields_value (by rfl) (by intro w0 hw0; have hw1 := hw0; simp only [five] at hw1; go_simp)) ?_; simp only [Act.put, List.setIfInBounds_toArray, List.set_cons_succ, List.set_cons_zero]
  refine wpAnyK_done (by kernel_rfl) ?_ _
  obtain ⟨b0, b1, b2, b3, b4⟩ := id hS2
  go_wp2_with fail
  refine (bytes_c o _ _ _ (hrep _ hB2)).mono ?_
  rintro e w3 ⟨ao3, cap3, rfl, hr3, hb3⟩
  have hS3 := hS2.keep hb3 hz2
  have hB3 : Below w.heap.size w w3 := Below.trans hB2 (hb3.mono (by omega))
  have hz3 : w.heap.size < w3.heap.size := hS3.lt
  clear hS hS2 b0 b1 b2 b3 b4 hb3
  obtain ⟨b0, b1, b2, b3, b4⟩ := id hS3
  go_wp2_with fail
  refine (refBytes_c o _ _ _ (hrep _ hB3)).mono ?_
  rintro e w4 ⟨ao4, cap4, rfl, hr4, hb4⟩
  have hB4 : Below w.heap.size w w4 := Below.trans hB3 (hb4.mono (by omega))
  have kc1 := row_string (P := Try.prog) Try.underlying26 Try.underlying5 Try.underlying9 (hr3.below hb4) (Below.refl _ _)
  have kc2 := row_string (P := Try.prog) Try.underlying26 Try.underlying5 Try.underlying9 hr4 (Below.refl _ _)
  clear hS3 b0 b1 b2 b3 b4 hb4 hr3 hr4 h hrep hio
  go_wp2_with fail
  refine (parse_c l ok' al cl _ (hl.below hB4)).mono ?_
  rintro e w5 ⟨cs5, rfl, h5, hb5⟩
  have hB5 : Below w.heap.size w w5 := Below.trans hB4 (hb5.mono (by have := hB4.size; omega))
  have hz5 := hB5.size
  obtain ⟨ra5, rc5, fa5, fc5, rfl, _⟩ := id h5
  clear hb5 kc1 kc2
  go_wp2_with fail
  refine (refParse_c l ok' al cl _ (hl.below (by (repeat' (first | with_reducible exact Below.refl _ _ | with_reducible assumption | with_reducible refine Below.drew ?_ | with_reducible refine Below_drewN ?_ _ | with_reducible refine Below.alloc ?_ ?_ _ | with_reducible refine Below.setCell ?_ ?_ _ | omega | (simp; done) | (simp; omega)))))).mono ?_
  rintro e w6 ⟨cs6, rfl, h6, hb6⟩
  have hB56 : Below w5.heap.size w5 w6 := Below.trans (by (repeat' (first | with_reducible exact Below.refl _ _ | with_reducible assumption | with_reducible refine Below.drew ?_ | with_reducible refine Below_drewN ?_ _ | with_reducible refine Below.alloc ?_ ?_ _ | with_reducible refine Below.setCell ?_ ?_ _ | omega | (simp; done) | (simp; omega)))) (hb6.mono (by first | omega | (simp; done) | (simp; omega)))
  have hB6 : Below w.heap.size w w6 := Below.trans hB5 (hB56.mono (by omega))
  have h5' := orderS.below h5 hB56
  have hz6 : w5.heap.size < w6.heap.size := by have := hb6.size; simp at this; omega
  have c0 : w6.cell? ⟨w5.heap.size, 0, none⟩ = some (.int .i64 (parseAll l).1.kind) := by rw [World.cell?_of_block (hb6.block w5.heap.size (by simp))]; simp [go_sem]
  have c1 : w6.cell? ⟨w5.heap.size, 1, none⟩ = some (.int .i64 (parseAll l).1.num) := by rw [World.cell?_of_block (hb6.block w5.heap.size (by simp))]; simp [go_sem]
  have c2 : w6.cell? ⟨w5.heap.size, 2, none⟩ = some (.int .i64 (parseAll l).1.ver) := by rw [World.cell?_of_block (hb6.block w5.heap.size (by simp))]; simp [go_sem]
  have c3 : w6.cell? ⟨w5.heap.size, 3, none⟩ = some (.slice ra5 (parseAll l).1.rules.length rc5) := by rw [World.cell?_of_block (hb6.block w5.heap.size (by simp))]; simp [go_sem]
  have c4 : w6.cell? ⟨w5.heap.size, 4, none⟩ = some (.slice fa5 (parseAll l).1.flows.length fc5) := by rw [World.cell?_of_block (hb6.block w5.heap.size (by simp))]; simp [go_sem]
  obtain ⟨ra6, rc6, fa6, fc6, rfl, _⟩ := id h6
  clear hb6 h5
  go_wp2_with fail
  refine (sameOrder_c (parseAll l).1 (parseAll l).1 _ _ _ _ _ (orderS.below h5' (by (repeat' (first | with_reducible exact Below.refl _ _ | with_reducible assumption | with_reducible refine Below.drew ?_ | with_reducible refine Below_drewN ?_ _ | with_reducible refine Below.alloc ?_ ?_ _ | with_reducible refine Below.setCell ?_ ?_ _ | omega | (simp; done) | (simp; omega))))) (orderS.below h6 (by (repeat' (first | with_reducible exact Below.refl _ _ | with_reducible assumption | with_reducible refine Below.drew ?_ | with_reducible refine Below_drewN ?_ _ | with_reducible refine Below.alloc ?_ ?_ _ | with_reducible refine Below.setCell ?_ ?_ _ | omega | (simp; done) | (simp; omega)))))).mono ?_
  rintro e w7 ⟨rfl, hb7⟩
  rw [show decide ((parseAll l).1 = (parseAll l).1) = true from decide_eq_true rfl]
  have hz8 := hB6.size
  have hB7 : Below w.heap.size w w7 := Below.trans (by (repeat' (first | with_reducible exact Below.refl _ _ | with_reducible assumption | with_reducible refine Below.drew ?_ | with_reducible refine Below_drewN ?_ _ | with_reducible refine Below.alloc ?_ ?_ _ | with_reducible refine Below.setCell ?_ ?_ _ | omega | (simp; done) | (simp; omega)))) (hb7.mono (by first | omega | (simp; done) | (simp; omega)))
  clear hb7 h5' h6 c0 c1 c2 c3 c4
  go_wp2
  go_ret; exact ⟨rfl, by (repeat' (first | with_reducible exact Below.refl _ _ | with_reducible assumption | with_reducible refine Below.drew ?_ | with_reducible refine Below_drewN ?_ _ | with_reducible refine Below.alloc ?_ ?_ _ | with_reducible refine Below.setCell ?_ ?_ _ | omega | (simp; done) | (simp; omega)))⟩

end Go.Proofs.Ytpbfcpnenpcobaa
