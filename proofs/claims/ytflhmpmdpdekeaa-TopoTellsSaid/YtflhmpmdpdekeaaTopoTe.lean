/-
  The walk of TopoTells.
-/
import Derived.Test.YtflhmpmdpdekeaaRefR
import Derived.Test.YtflhmpmdpdekeaaRefL
import Derived.Test.YtflhmpmdpdekeaaTopoBk
import Derived.Test.YtflhmpmdpdekeaaInts
import Derived.WalkKit
import Derived.WalkSpells
import Derived.WalkLawsBesides
import Derived.Lib.Hide
import Derived.Deep.LoopGhost
import Derived.Deep.QuietTactic
import Derived.BigQuiet
import Derived.Deep.RegionWith
import Derived.Handy
set_option linter.unusedSimpArgs false
set_option linter.unusedVariables false
namespace Go.Proofs.Ytflhmpmdpdekeaa
open Go.RowKit Go.St

set_option maxRecDepth 100000 in
theorem neq_fault (a b : Int) (w : World) : (binOp .neq 40 (.agg #[.int .i64 a, .int .i64 b]) (.agg #[.int .i64 a, .int .i64 b])).run Try.prog w = .ok (.bool false) w := by
  go_simp

set_option maxRecDepth 100000 in
set_option maxHeartbeats 8000000 in
theorem topoTells_c (w : World) (t : Topo) (cs : List Value) (ok : Nat → Prop) (h : topoS.rep ok w cs t) (a : Int) (ha : I64 a) (b : Int) (hb : I64 b) (p : List Int) (ap : Option Addr) (cp : Nat) (ok' : Nat → Prop) (hp : rowRep intS ok' w ap cp p) :
    Calls Try.prog 8 #[.agg cs.toArray, .int .i64 a, .int .i64 b, .slice ap p.length cp] w fun e w' => e = .returned (.bool true) ∧ Below w.heap.size w w' := by
  have hT := h
  obtain ⟨la, lc, rfl, hn, hr⟩ := h
  have hfd := fault_err0
  have hfn := neq_fault
  have hpl := hp.len_le
  have hW1 := fun w' (hw' : Below w.heap.size w w') => topoWrong_c t [.int .i64 t.n, .slice la t.links.length lc] ok w' (topoS.below hT hw')
  have hW2 := fun w' (hw' : Below w.heap.size w w') => refWrong_c t [.int .i64 t.n, .slice la t.links.length lc] ok w' (topoS.below hT hw')
  have hR1 := fun w' (hw' : Below w.heap.size w w') => reaches_c t [.int .i64 t.n, .slice la t.links.length lc] ok a ha w' (topoS.below hT hw')
  have hR2 := fun w' (hw' : Below w.heap.size w w') => refReaches_c t [.int .i64 t.n, .slice la t.links.length lc] ok a ha w' (topoS.below hT hw')
  have hC1 := fun w' (hw' : Below w.heap.size w w') => cost_c t [.int .i64 t.n, .slice la t.links.length lc] ok a b w' (topoS.below hT hw')
  have hC2 := fun w' (hw' : Below w.heap.size w w') => refCost_c t [.int .i64 t.n, .slice la t.links.length lc] ok a b w' (topoS.below hT hw')
  have hL1 := fun w' (hw' : Below w.heap.size w w') => length_c t p [.int .i64 t.n, .slice la t.links.length lc] ok ok' ap cp w' (topoS.below hT hw') (hp.below hw')
  have hL2 := fun w' (hw' : Below w.heap.size w w') => refLength_c t p [.int .i64 t.n, .slice la t.links.length lc] ok ok' ap cp w' (topoS.below hT hw') (hp.below hw')
  clear hr hp hT
  generalize costOf t a b = cv at *
  generalize lengthOf t p = lf at *
  generalize topoWrong t = wf at *
  generalize reaches t a = R at *
  obtain ⟨we, wa⟩ := wf
  obtain ⟨lv, lb⟩ := lf
  dsimp only at *
  go_enter Try.func8, Try.ntmps8
  go_wp2
  have hS0 : SB w.heap.size t.n la t.links.length lc (w.alloc (.cells #[.int .i64 t.n, .slice la t.links.length lc] 24)).drew := by
    obtain ⟨x1, x2⟩ := (blockIs.new (w := w) (t := 24) (cs := #[.int .i64 t.n, .slice la t.links.length lc]) rfl).cells
    exact ⟨x1 0, x1 1⟩
  have hB0 : Below w.heap.size w (w.alloc (.cells #[.int .i64 t.n, .slice la t.links.length lc] 24)).drew := by (repeat' (first | with_reducible exact Below.refl _ _ | with_reducible assumption | with_reducible refine Below.drew ?_ | with_reducible refine Below_drewN ?_ _ | with_reducible refine Below.alloc ?_ ?_ _ | with_reducible refine Below.setCell ?_ ?_ _ | omega | (simp; done) | (simp; omega)))
  have hz0 : w.heap.size < (w.alloc (.cells #[.int .i64 t.n, .slice la t.links.length lc] 24)).drew.heap.size := by simp
  refine wp_region_K (SB w.heap.size t.n la t.links.length lc) 99 (by kernel_rfl) ?_
  generalize (w.alloc (.cells #[.int .i64 t.n, .slice la t.links.length lc] 24)).drew = w0 at *
  have hS := hS0
  refine wpAnyK_take' (i := 0) (.agg #[.int .i64 t.n, .slice la t.links.length lc]) rfl (by kernel_rfl) (fun _ _ _ h => h) hS (yields_value (by kernel_rfl) (by intro w0 hw0; have hw1 := hw0; simp only [SB] at hw1; go_simp)) ?_; simp only [Act.put, List.getElem_toArray, List.getElem_cons_succ, List.getElem_cons_zero, List.setIfInBounds_toArray, List.set_cons_succ, List.set_cons_zero]
  refine wpAnyK_take' (i := 2) (.agg #[.int .i64 t.n, .slice la t.links.length lc]) rfl (by kernel_rfl) (fun _ _ _ h => h) hS (yields_value (by kernel_rfl) (by intro w0 hw0; have hw1 := hw0; simp only [SB] at hw1; go_simp)) ?_; simp only [Act.put, List.getElem_toArray, List.getElem_cons_succ, List.getElem_cons_zero, List.setIfInBounds_toArray, List.set_cons_succ, List.set_cons_zero]
  refine wpAnyK_call (i := 1) rfl (by kernel_rfl) (by kernel_rfl) fun K1 hK1 => ?_
  go_simp
  go_wp2_with fail
  refine (hW1 _ hB0).mono ?_
  rintro e w1 ⟨rfl, hb1⟩
  have hB1 : Below w.heap.size w w1 := hB0.trans (hb1.mono (Nat.le_of_lt hz0))
  have hS1 : SB w.heap.size t.n la t.links.length lc w1 := hS0.keep hb1 hz0
  have hz1 : w.heap.size < w1.heap.size := Nat.lt_of_lt_of_le hz0 hb1.size
  clear hS hS0
  have hS := hS1
  go_wp2_with fail
  refine hK1 _ _ (fun _ => hS) ?_
  clear hK1
  refine wpAnyK_call (i := 3) rfl (by kernel_rfl) (by kernel_rfl) fun K3 hK3 => ?_
  go_simp
  go_wp2_with fail
  refine (hW2 _ hB1).mono ?_
  rintro e w2 ⟨rfl, hb2⟩
  have hB2 : Below w.heap.size w w2 := hB1.trans (hb2.mono (Nat.le_of_lt hz1))
  have hS2 : SB w.heap.size t.n la t.links.length lc w2 := hS1.keep hb2 hz1
  have hz2 : w.heap.size < w2.heap.size := Nat.lt_of_lt_of_le hz1 hb2.size
  clear hS hS1
  have hS := hS2
  go_wp2_with fail
  refine hK3 _ _ (fun _ => hS) ?_
  clear hK3
  refine wpAnyK_take' (i := 4) (.bool false) rfl (by kernel_rfl) (fun _ _ _ h => h) hS (yields_value (by kernel_rfl) (by intro w0 hw0; have hw1 := hw0; simp only [SB] at hw1; go_simp)) ?_; simp only [Act.put, List.getElem_toArray, List.getElem_cons_succ, List.getElem_cons_zero, List.setIfInBounds_toArray, List.set_cons_succ, List.set_cons_zero]
  refine wpAnyK_take' (i := 5) (.bool false) rfl (by kernel_rfl) (fun _ _ _ h => h) hS (yields_value (by kernel_rfl) (by intro w0 hw0; have hw1 := hw0; simp only [SB] at hw1; go_simp)) ?_; simp only [Act.put, List.getElem_toArray, List.getElem_cons_succ, List.getElem_cons_zero, List.setIfInBounds_toArray, List.set_cons_succ, List.set_cons_zero]
  refine wpAnyK_take' (i := 6) (.agg #[.int .i64 t.n, .slice la t.links.length lc]) rfl (by kernel_rfl) (fun _ _ _ h => h) hS (yields_value (by kernel_rfl) (by intro w0 hw0; have hw1 := hw0; simp only [SB] at hw1; go_simp)) ?_; simp only [Act.put, List.getElem_toArray, List.getElem_cons_succ, List.getElem_cons_zero, List.setIfInBounds_toArray, List.set_cons_succ, List.set_cons_zero]
  refine wpAnyK_take' (i := 7) (.int .i64 a) rfl (by kernel_rfl) (fun _ _ _ h => h) hS (yields_value (by kernel_rfl) (by intro w0 hw0; have hw1 := hw0; simp only [SB] at hw1; go_simp)) ?_; simp only [Act.put, List.getElem_toArray, List.getElem_cons_succ, List.getElem_cons_zero, List.setIfInBounds_toArray, List.set_cons_succ, List.set_cons_zero]
  refine wpAnyK_take' (i := 9) (.agg #[.int .i64 t.n, .slice la t.links.length lc]) rfl (by kernel_rfl) (fun _ _ _ h => h) hS (yields_value (by kernel_rfl) (by intro w0 hw0; have hw1 := hw0; simp only [SB] at hw1; go_simp)) ?_; simp only [Act.put, List.getElem_toArray, List.getElem_cons_succ, List.getElem_cons_zero, List.setIfInBounds_toArray, List.set_cons_succ, List.set_cons_zero]
  refine wpAnyK_take' (i := 10) (.int .i64 a) rfl (by kernel_rfl) (fun _ _ _ h => h) hS (yields_value (by kernel_rfl) (by intro w0 hw0; have hw1 := hw0; simp only [SB] at hw1; go_simp)) ?_; simp only [Act.put, List.getElem_toArray, List.getElem_cons_succ, List.getElem_cons_zero, List.setIfInBounds_toArray, List.set_cons_succ, List.set_cons_zero]
  refine wpAnyK_call (i := 8) rfl (by kernel_rfl) (by kernel_rfl) fun K8 hK8 => ?_
  go_simp
  go_wp2_with fail
  refine (hR1 _ hB2).mono ?_
  rintro e w3 ⟨ao1, c1, rfl, hr1, hb3⟩
  have hB3 : Below w.heap.size w w3 := hB2.trans (hb3.mono (Nat.le_of_lt hz2))
  have hS3 : SB w.heap.size t.n la t.links.length lc w3 := hS2.keep hb3 hz2
  have hz3 : w.heap.size < w3.heap.size := Nat.lt_of_lt_of_le hz2 hb3.size
  clear hS hS2
  have hS := hS3
  go_wp2_with fail
  refine hK8 _ _ (fun _ => hS) ?_
  clear hK8
  refine wpAnyK_call (i := 11) rfl (by kernel_rfl) (by kernel_rfl) fun K11 hK11 => ?_
  go_simp
  go_wp2_with fail
  refine (hR2 _ hB3).mono ?_
  rintro e w4 ⟨ao2, c2, rfl, hr2, hb4⟩
  have hB4 : Below w.heap.size w w4 := hB3.trans (hb4.mono (Nat.le_of_lt hz3))
  have hS4 : SB w.heap.size t.n la t.links.length lc w4 := hS3.keep hb4 hz3
  have hz4 : w.heap.size < w4.heap.size := Nat.lt_of_lt_of_le hz3 hb4.size
  clear hS hS3
  have hS := hS4
  go_wp2_with fail
  refine hK11 _ _ (fun _ => hS) ?_
  clear hK11
  refine wpAnyK_call (i := 12) rfl (by kernel_rfl) (by kernel_rfl) fun K12 hK12 => ?_
  go_simp
  go_wp2_with fail
  have hI := ints_c R R _ _ ao1 ao2 c1 c2 _ (hr1.below hb4) hr2
  rw [beq_self_eq_true] at hI
  refine (hI).mono ?_
  rintro e w5 ⟨rfl, hb5⟩
  have hB5 : Below w.heap.size w w5 := hB4.trans (hb5.mono (Nat.le_of_lt hz4))
  have hS5 : SB w.heap.size t.n la t.links.length lc w5 := hS4.keep hb5 hz4
  have hz5 : w.heap.size < w5.heap.size := Nat.lt_of_lt_of_le hz4 hb5.size
  clear hS hS4
  have hS := hS5
  go_wp2_with fail
  refine hK12 _ _ (fun _ => hS) ?_
  clear hK12
  refine wpAnyK_take' (i := 13) (.bool false) rfl (by kernel_rfl) (fun _ _ _ h => h) hS (yields_value (by kernel_rfl) (by intro w0 hw0; have hw1 := hw0; simp only [SB] at hw1; go_simp)) ?_; simp only [Act.put, List.getElem_toArray, List.getElem_cons_succ, List.getElem_cons_zero, List.setIfInBounds_toArray, List.set_cons_succ, List.set_cons_zero]
  refine wpAnyK_take' (i := 14) (.bool false) rfl (by kernel_rfl) (fun _ _ _ h => h) hS (yields_value (by kernel_rfl) (by intro w0 hw0; have hw1 := hw0; simp only [SB] at hw1; go_simp)) ?_; simp only [Act.put, List.getElem_toArray, List.getElem_cons_succ, List.getElem_cons_zero, List.setIfInBounds_toArray, List.set_cons_succ, List.set_cons_zero]
  refine wpAnyK_done (by kernel_rfl) ?_ _
  obtain ⟨t1, t2⟩ := hS5
  clear hS hr1 hr2 hb1 hb2 hb3 hb4 hb5 hR1 hR2 hW1
  go_wp2_with fail
  refine (hW2 _ (hB5.trans (by (repeat' (first | with_reducible exact Below.refl _ _ | with_reducible assumption | with_reducible refine Below.drew ?_ | with_reducible refine Below_drewN ?_ _ | with_reducible refine Below.alloc ?_ ?_ _ | with_reducible refine Below.setCell ?_ ?_ _ | omega | (simp; done) | (simp; omega)))))).mono ?_
  rintro e w6 ⟨rfl, hb6⟩
  have hb56 : Below w5.heap.size w5 w6 := Below.trans (by (repeat' (first | with_reducible exact Below.refl _ _ | with_reducible assumption | with_reducible refine Below.drew ?_ | with_reducible refine Below_drewN ?_ _ | with_reducible refine Below.alloc ?_ ?_ _ | with_reducible refine Below.setCell ?_ ?_ _ | omega | (simp; done) | (simp; omega)))) (hb6.mono (by first | omega | (simp; done) | (simp; omega)))
  have hS6 : SB w.heap.size t.n la t.links.length lc w6 := SB.keep ⟨t1, t2⟩ hb56 hz5
  have hB6 : Below w.heap.size w w6 := hB5.trans (hb56.mono (Nat.le_of_lt hz5))
  have hz6 : w.heap.size < w6.heap.size := Nat.lt_of_lt_of_le hz5 hb56.size
  clear t1 t2 hb6 hW2 hB0 hB1 hB2 hB3 hB4 hb56
  obtain ⟨t1, t2⟩ := hS6
  by_cases h1 : we = 0
  case neg =>
    have h1' : (we != 0) = true := by rw [bne_iff_ne]; exact h1
    clear h1
    go_wp2
    go_ret; exact ⟨rfl, by (repeat' (first | with_reducible exact Below.refl _ _ | with_reducible assumption | with_reducible refine Below.drew ?_ | with_reducible refine Below_drewN ?_ _ | with_reducible refine Below.alloc ?_ ?_ _ | with_reducible refine Below.setCell ?_ ?_ _ | omega | (simp; done) | (simp; omega)))⟩
  subst h1
  go_wp2_with fail
  refine (hL1 _ (hB6.trans (by (repeat' (first | with_reducible exact Below.refl _ _ | with_reducible assumption | with_reducible refine Below.drew ?_ | with_reducible refine Below_drewN ?_ _ | with_reducible refine Below.alloc ?_ ?_ _ | with_reducible refine Below.setCell ?_ ?_ _ | omega | (simp; done) | (simp; omega)))))).mono ?_
  rintro e w7 ⟨rfl, hb7⟩
  have hb67 : Below w6.heap.size w6 w7 := Below.trans (by (repeat' (first | with_reducible exact Below.refl _ _ | with_reducible assumption | with_reducible refine Below.drew ?_ | with_reducible refine Below_drewN ?_ _ | with_reducible refine Below.alloc ?_ ?_ _ | with_reducible refine Below.setCell ?_ ?_ _ | omega | (simp; done) | (simp; omega)))) (hb7.mono (by first | omega | (simp; done) | (simp; omega)))
  have hS7 : SB w.heap.size t.n la t.links.length lc w7 := SB.keep ⟨t1, t2⟩ hb67 hz6
  have hB7 : Below w.heap.size w w7 := hB6.trans (hb67.mono (Nat.le_of_lt hz6))
  have hz7 : w.heap.size < w7.heap.size := Nat.lt_of_lt_of_le hz6 hb67.size
  clear t1 t2 hb7 hb67 hL1
  obtain ⟨t1, t2⟩ := hS7
  go_wp2_with fail
  refine (hL2 _ (hB7.trans (by (repeat' (first | with_reducible exact Below.refl _ _ | with_reducible assumption | with_reducible refine Below.drew ?_ | with_reducible refine Below_drewN ?_ _ | with_reducible refine Below.alloc ?_ ?_ _ | with_reducible refine Below.setCell ?_ ?_ _ | omega | (simp; done) | (simp; omega)))))).mono ?_
  rintro e w8 ⟨rfl, hb8⟩
  have hb78 : Below w7.heap.size w7 w8 := Below.trans (by (repeat' (first | with_reducible exact Below.refl _ _ | with_reducible assumption | with_reducible refine Below.drew ?_ | with_reducible refine Below_drewN ?_ _ | with_reducible refine Below.alloc ?_ ?_ _ | with_reducible refine Below.setCell ?_ ?_ _ | omega | (simp; done) | (simp; omega)))) (hb8.mono (by first | omega | (simp; done) | (simp; omega)))
  have hS8 : SB w.heap.size t.n la t.links.length lc w8 := SB.keep ⟨t1, t2⟩ hb78 hz7
  have hB8 : Below w.heap.size w w8 := hB7.trans (hb78.mono (Nat.le_of_lt hz7))
  have hz8 : w.heap.size < w8.heap.size := Nat.lt_of_lt_of_le hz7 hb78.size
  clear t1 t2 hb8 hb78 hL2
  go_wp2
  refine wp_region_K (SB w.heap.size t.n la t.links.length lc) 99 (by kernel_rfl) ?_
  have hS9 : SB w.heap.size t.n la t.links.length lc w8.drew := hS8
  have hB9 : Below w.heap.size w w8.drew := hB8.trans (by (repeat' (first | with_reducible exact Below.refl _ _ | with_reducible assumption | with_reducible refine Below.drew ?_ | with_reducible refine Below_drewN ?_ _ | with_reducible refine Below.alloc ?_ ?_ _ | with_reducible refine Below.setCell ?_ ?_ _ | omega | (simp; done) | (simp; omega))))
  have hz9 : w.heap.size < w8.drew.heap.size := by simpa using hz8
  generalize w8.drew = w9 at *
  have hS := hS9
  refine wpAnyK_take' (i := 0) (.agg #[.int .i64 t.n, .slice la t.links.length lc]) rfl (by kernel_rfl) (fun _ _ _ h => h) hS (yields_value (by kernel_rfl) (by intro w0 hw0; have hw1 := hw0; simp only [SB] at hw1; go_simp)) ?_; simp only [Act.put, List.getElem_toArray, List.getElem_cons_succ, List.getElem_cons_zero, List.setIfInBounds_toArray, List.set_cons_succ, List.set_cons_zero]
  refine wpAnyK_take' (i := 1) (.int .i64 a) rfl (by kernel_rfl) (fun _ _ _ h => h) hS (yields_value (by kernel_rfl) (by intro w0 hw0; have hw1 := hw0; simp only [SB] at hw1; go_simp)) ?_; simp only [Act.put, List.getElem_toArray, List.getElem_cons_succ, List.getElem_cons_zero, List.setIfInBounds_toArray, List.set_cons_succ, List.set_cons_zero]
  refine wpAnyK_take' (i := 2) (.int .i64 b) rfl (by kernel_rfl) (fun _ _ _ h => h) hS (yields_value (by kernel_rfl) (by intro w0 hw0; have hw1 := hw0; simp only [SB] at hw1; go_simp)) ?_; simp only [Act.put, List.getElem_toArray, List.getElem_cons_succ, List.getElem_cons_zero, List.setIfInBounds_toArray, List.set_cons_succ, List.set_cons_zero]
  refine wpAnyK_take' (i := 4) (.agg #[.int .i64 t.n, .slice la t.links.length lc]) rfl (by kernel_rfl) (fun _ _ _ h => h) hS (yields_value (by kernel_rfl) (by intro w0 hw0; have hw1 := hw0; simp only [SB] at hw1; go_simp)) ?_; simp only [Act.put, List.getElem_toArray, List.getElem_cons_succ, List.getElem_cons_zero, List.setIfInBounds_toArray, List.set_cons_succ, List.set_cons_zero]
  refine wpAnyK_take' (i := 5) (.int .i64 a) rfl (by kernel_rfl) (fun _ _ _ h => h) hS (yields_value (by kernel_rfl) (by intro w0 hw0; have hw1 := hw0; simp only [SB] at hw1; go_simp)) ?_; simp only [Act.put, List.getElem_toArray, List.getElem_cons_succ, List.getElem_cons_zero, List.setIfInBounds_toArray, List.set_cons_succ, List.set_cons_zero]
  refine wpAnyK_take' (i := 6) (.int .i64 b) rfl (by kernel_rfl) (fun _ _ _ h => h) hS (yields_value (by kernel_rfl) (by intro w0 hw0; have hw1 := hw0; simp only [SB] at hw1; go_simp)) ?_; simp only [Act.put, List.getElem_toArray, List.getElem_cons_succ, List.getElem_cons_zero, List.setIfInBounds_toArray, List.set_cons_succ, List.set_cons_zero]
  refine wpAnyK_call (i := 3) rfl (by kernel_rfl) (by kernel_rfl) fun K3 hK3 => ?_
  go_simp
  go_wp2_with fail
  refine (hC1 _ hB9).mono ?_
  rintro e w10 ⟨rfl, hb10⟩
  have hB10 : Below w.heap.size w w10 := hB9.trans (hb10.mono (Nat.le_of_lt hz9))
  have hS10 : SB w.heap.size t.n la t.links.length lc w10 := hS9.keep hb10 hz9
  have hz10 : w.heap.size < w10.heap.size := Nat.lt_of_lt_of_le hz9 hb10.size
  clear hS hS9
  have hS := hS10
  go_wp2_with fail
  refine hK3 _ _ (fun _ => hS) ?_
  clear hK3
  refine wpAnyK_call (i := 7) rfl (by kernel_rfl) (by kernel_rfl) fun K7 hK7 => ?_
  go_simp
  go_wp2_with fail
  refine (hC2 _ hB10).mono ?_
  rintro e w11 ⟨rfl, hb11⟩
  have hB11 : Below w.heap.size w w11 := hB10.trans (hb11.mono (Nat.le_of_lt hz10))
  have hS11 : SB w.heap.size t.n la t.links.length lc w11 := hS10.keep hb11 hz10
  have hz11 : w.heap.size < w11.heap.size := Nat.lt_of_lt_of_le hz10 hb11.size
  clear hS hS10
  have hS := hS11
  go_wp2_with fail
  refine hK7 _ _ (fun _ => hS) ?_
  clear hK7
  refine wpAnyK_take' (i := 8) (.bool true) rfl (by kernel_rfl) (fun _ _ _ h => h) hS (yields_value (by kernel_rfl) (by intro w0 hw0; have hw1 := hw0; simp only [SB] at hw1; go_simp)) ?_; simp only [Act.put, List.getElem_toArray, List.getElem_cons_succ, List.getElem_cons_zero, List.setIfInBounds_toArray, List.set_cons_succ, List.set_cons_zero]
  refine wpAnyK_take' (i := 9) (.bool true) rfl (by kernel_rfl) (fun _ _ _ h => h) hS (yields_value (by kernel_rfl) (by intro w0 hw0; have hw1 := hw0; simp only [SB] at hw1; go_simp)) ?_; simp only [Act.put, List.getElem_toArray, List.getElem_cons_succ, List.getElem_cons_zero, List.setIfInBounds_toArray, List.set_cons_succ, List.set_cons_zero]
  refine wpAnyK_take' (i := 10) (.int .i64 lv) rfl (by kernel_rfl) (fun _ _ _ h => h) hS (yields_value (by kernel_rfl) (by intro w0 hw0; have hw1 := hw0; simp only [SB] at hw1; go_simp)) ?_; simp only [Act.put, List.getElem_toArray, List.getElem_cons_succ, List.getElem_cons_zero, List.setIfInBounds_toArray, List.set_cons_succ, List.set_cons_zero]
  refine wpAnyK_take' (i := 11) (.int .i64 lv) rfl (by kernel_rfl) (fun _ _ _ h => h) hS (yields_value (by kernel_rfl) (by intro w0 hw0; have hw1 := hw0; simp only [SB] at hw1; go_simp)) ?_; simp only [Act.put, List.getElem_toArray, List.getElem_cons_succ, List.getElem_cons_zero, List.setIfInBounds_toArray, List.set_cons_succ, List.set_cons_zero]
  refine wpAnyK_take' (i := 12) (.bool true) rfl (by kernel_rfl) (fun _ _ _ h => h) hS (yields_value (by kernel_rfl) (by intro w0 hw0; have hw1 := hw0; simp only [SB] at hw1; go_simp)) ?_; simp only [Act.put, List.getElem_toArray, List.getElem_cons_succ, List.getElem_cons_zero, List.setIfInBounds_toArray, List.set_cons_succ, List.set_cons_zero]
  refine wpAnyK_take' (i := 13) (.bool true) rfl (by kernel_rfl) (fun _ _ _ h => h) hS (yields_value (by kernel_rfl) (by intro w0 hw0; have hw1 := hw0; simp only [SB] at hw1; go_simp)) ?_; simp only [Act.put, List.getElem_toArray, List.getElem_cons_succ, List.getElem_cons_zero, List.setIfInBounds_toArray, List.set_cons_succ, List.set_cons_zero]
  refine wpAnyK_take' (i := 14) (.bool true) rfl (by kernel_rfl) (fun _ _ _ h => h) hS (yields_value (by kernel_rfl) (by intro w0 hw0; have hw1 := hw0; simp only [SB] at hw1; go_simp)) ?_; simp only [Act.put, List.getElem_toArray, List.getElem_cons_succ, List.getElem_cons_zero, List.setIfInBounds_toArray, List.set_cons_succ, List.set_cons_zero]
  refine wpAnyK_take' (i := 15) (.bool lb) rfl (by kernel_rfl) (fun _ _ _ h => h) hS (yields_value (by kernel_rfl) (by intro w0 hw0; have hw1 := hw0; simp only [SB] at hw1; go_simp)) ?_; simp only [Act.put, List.getElem_toArray, List.getElem_cons_succ, List.getElem_cons_zero, List.setIfInBounds_toArray, List.set_cons_succ, List.set_cons_zero]
  refine wpAnyK_take' (i := 16) (.bool lb) rfl (by kernel_rfl) (fun _ _ _ h => h) hS (yields_value (by kernel_rfl) (by intro w0 hw0; have hw1 := hw0; simp only [SB] at hw1; go_simp)) ?_; simp only [Act.put, List.getElem_toArray, List.getElem_cons_succ, List.getElem_cons_zero, List.setIfInBounds_toArray, List.set_cons_succ, List.set_cons_zero]
  refine wpAnyK_take' (i := 17) (.bool true) rfl (by kernel_rfl) (fun _ _ _ h => h) hS (yields_value (by kernel_rfl) (by intro w0 hw0; have hw1 := hw0; simp only [SB] at hw1; go_simp)) ?_; simp only [Act.put, List.getElem_toArray, List.getElem_cons_succ, List.getElem_cons_zero, List.setIfInBounds_toArray, List.set_cons_succ, List.set_cons_zero]
  refine wpAnyK_take' (i := 18) (.bool true) rfl (by kernel_rfl) (fun _ _ _ h => h) hS (yields_value (by kernel_rfl) (by intro w0 hw0; have hw1 := hw0; simp only [SB] at hw1; go_simp)) ?_; simp only [Act.put, List.getElem_toArray, List.getElem_cons_succ, List.getElem_cons_zero, List.setIfInBounds_toArray, List.set_cons_succ, List.set_cons_zero]
  refine wpAnyK_take' (i := 19) (.bool true) rfl (by kernel_rfl) (fun _ _ _ h => h) hS (yields_value (by kernel_rfl) (by intro w0 hw0; have hw1 := hw0; simp only [SB] at hw1; go_simp)) ?_; simp only [Act.put, List.getElem_toArray, List.getElem_cons_succ, List.getElem_cons_zero, List.setIfInBounds_toArray, List.set_cons_succ, List.set_cons_zero]
  refine wpAnyK_done (by kernel_rfl) ?_ _
  clear hS hS11 hb10 hb11
  go_wp2
  go_ret; exact ⟨rfl, by (repeat' (first | with_reducible exact Below.refl _ _ | with_reducible assumption | with_reducible refine Below.drew ?_ | with_reducible refine Below_drewN ?_ _ | with_reducible refine Below.alloc ?_ ?_ _ | with_reducible refine Below.setCell ?_ ?_ _ | omega | (simp; done) | (simp; omega)))⟩

end Go.Proofs.Ytflhmpmdpdekeaa
