/-
  The walk of PathPart.
-/
import Derived.Test.YtflhmpmdpdekeaaPathA
import Derived.Test.YtflhmpmdpdekeaaPathPS
import Derived.Test.YtflhmpmdpdekeaaTopoL
import Derived.WalkKit
import Derived.WalkSpells
import Derived.WalkLawsBesides
import Derived.Lib.Hide
import Derived.Deep.LoopGhost
import Derived.Deep.QuietTactic
import Derived.BigQuiet
import Derived.Deep.RegionWith
import Derived.Handy
set_option linter.unusedSimpArgs false
set_option linter.unusedVariables false
namespace Go.Proofs.Ytflhmpmdpdekeaa
open Go.RowKit Go.St

set_option maxRecDepth 100000 in
set_option maxHeartbeats 8000000 in
theorem pathPart_c (w : World) (t : Topo) (cs : List Value) (ok : Nat → Prop) (h : topoS.rep ok w cs t) (s : Int) (hs : I64 s) (d : Int) (hd : I64 d) (i : Int) (hi : I64 i) :
    Calls Try.prog 6 #[.agg cs.toArray, .int .i64 s, .int .i64 d, .int .i64 i] w fun e w' => e = .returned (.bool true) ∧ Below w.heap.size w w' := by
  have hT := h
  obtain ⟨la, lc, rfl, hn, hr⟩ := h
  go_enter Try.func6, Try.ntmps6
  go_wp2_with fail
  refine (alive_c _).mono ?_
  rintro e w1 ⟨rfl, hb1⟩
  have hB1 : Below w.heap.size w w1 := Below.trans (by (repeat' (first | with_reducible exact Below.refl _ _ | with_reducible assumption | with_reducible refine Below.drew ?_ | with_reducible refine Below_drewN ?_ _ | with_reducible refine Below.alloc ?_ ?_ _ | with_reducible refine Below.setCell ?_ ?_ _ | omega | (simp; done) | (simp; omega)))) (hb1.mono (by simp))
  have hT1 : blockIs w1 w.heap.size 24 #[.int .i64 t.n, .slice la t.links.length lc] := (blockIs.new rfl).under hb1
  obtain ⟨t1, t2⟩ := hT1.cells
  clear hb1
  go_wp2_with fail
  refine (find_c t ⟨s, d, [], []⟩ _ _ ok (fun _ => True) _ (topoS.below hT hB1) (flow_rep hs hd)).mono ?_
  rintro e w2 ⟨ao, cap, rfl, hp, hb2⟩
  have hB2 : Below w.heap.size w w2 := hB1.trans (hb2.mono (by have := hB1.size; omega))
  have hT2 := hT1.under hb2
  clear t1 t2 hb2 hT1
  obtain ⟨t1, t2⟩ := hT2.cells
  have hz2 := hT2.lt
  have hpl := hp.len_le
  have hpc := hp.1
  have k1 : IntKind.i64.wrap (((findOf t ⟨s, d, [], []⟩).1.length : Int) - 1) = ((findOf t ⟨s, d, [], []⟩).1.length : Int) - 1 := IntWalk.i64_in _ (by omega)
  by_cases h2 : (findOf t ⟨s, d, [], []⟩).2 = 0
  case neg =>
    have h2' : ((findOf t ⟨s, d, [], []⟩).2 != 0) = true := by rw [bne_iff_ne]; exact h2
    clear h2 hp
    generalize findOf t ⟨s, d, [], []⟩ = pe at *
    go_wp2
    go_ret; exact ⟨rfl, by (repeat' (first | with_reducible exact Below.refl _ _ | with_reducible assumption | with_reducible refine Below.drew ?_ | with_reducible refine Below_drewN ?_ _ | with_reducible refine Below.alloc ?_ ?_ _ | with_reducible refine Below.setCell ?_ ?_ _ | omega | (simp; done) | (simp; omega)))⟩
  by_cases i0 : i < 0
  · rw [h2]
    clear h2 hp
    generalize findOf t ⟨s, d, [], []⟩ = pe at *
    go_wp2
    go_ret; exact ⟨rfl, by (repeat' (first | with_reducible exact Below.refl _ _ | with_reducible assumption | with_reducible refine Below.drew ?_ | with_reducible refine Below_drewN ?_ _ | with_reducible refine Below.alloc ?_ ?_ _ | with_reducible refine Below.setCell ?_ ?_ _ | omega | (simp; done) | (simp; omega)))⟩
  by_cases i1 : ((findOf t ⟨s, d, [], []⟩).1.length : Int) - 1 ≤ i
  · rw [h2]
    clear h2 hp
    generalize findOf t ⟨s, d, [], []⟩ = pe at *
    go_wp2
    go_ret; exact ⟨rfl, by (repeat' (first | with_reducible exact Below.refl _ _ | with_reducible assumption | with_reducible refine Below.drew ?_ | with_reducible refine Below_drewN ?_ _ | with_reducible refine Below.alloc ?_ ?_ _ | with_reducible refine Below.setCell ?_ ?_ _ | omega | (simp; done) | (simp; omega)))⟩
  obtain ⟨j, rfl⟩ := Int.eq_ofNat_of_zero_le (Int.not_lt.1 i0)
  obtain ⟨ht0, hfo, _, _⟩ := find_good h2
  have hjl : j < (findOf t ⟨s, d, [], []⟩).1.length := by omega
  obtain ⟨x, hx⟩ : ∃ x, (findOf t ⟨s, d, [], []⟩).1[j]? = some x := ⟨_, List.getElem?_eq_getElem hjl⟩
  obtain ⟨p1, p2, p3, p4⟩ := part_cost h2 (by omega) hx
  rw [h2]
  generalize (findOf t ⟨s, d, [], []⟩).1 = p at *
  have hL1 := good_length ht0 p2
  have hL2 := good_length ht0 p3
  rw [p4] at hL1
  obtain ⟨pb, po, rfl, _, hpb, cs1, ⟨rfl, hxI⟩, hce⟩ := hp.get hx
  have e0 := hce 0 _ rfl
  simp only [intS, Nat.add_zero, Nat.mul_one] at e0
  have hpd := hp.drop j (by omega)
  simp only [intS, Nat.mul_one] at hpd
  have d0 : (0 : Int) ≤ (j : Int) := by omega
  have d1 : (j : Int) < (p.length : Int) := by omega
  have d2 : (j : Int) ≤ (p.length : Int) := by omega
  have d3 : (p.length : Int) ≤ (cap : Int) := by omega
  have d4 : ((p.length : Int)).toNat = p.length := by omega
  have d5 : ((j : Int)).toNat = j := by omega
  have d6 : ¬ cap = j := by omega
  have hF := find_c t ⟨x, d, [], []⟩ [.int .i64 t.n, .slice la t.links.length lc] [.int .i64 x, .int .i64 d, .slice none 0 0, .slice none 0 0] ok (fun _ => True)
  rw [p1] at hF
  generalize (findOf t ⟨x, d, [], []⟩).1 = q at *
  have hFF := Lib.hid hF
  have hP1 := Lib.hid hL1
  have hP2 := Lib.hid hL2
  clear hF hL1 hL2 p1 p2 p3 p4 h2 hce hx hp hjl ht0 hfo
  generalize pathCost t q = a at *
  go_wp2
  have hT0 : SL w.heap.size pb (po + j) t.n la t.links.length lc x w2.drew := ⟨t1 0, t1 1, e0⟩
  refine wp_region_K (SL w.heap.size pb (po + j) t.n la t.links.length lc x) 99 (by kernel_rfl) ?_
  have hS := hT0
  refine wpAnyK_take' (i := 0) (.agg #[.int .i64 t.n, .slice la t.links.length lc]) rfl (by kernel_rfl) (fun _ _ _ h => h) hS (yields_value (by kernel_rfl) (by intro w0 hw0; have hw1 := hw0; simp only [SL] at hw1; go_simp)) ?_; simp only [Act.put, List.getElem_toArray, List.getElem_cons_succ, List.getElem_cons_zero, List.setIfInBounds_toArray, List.set_cons_succ, List.set_cons_zero]
  refine wpAnyK_take' (i := 1) (.slice (some ⟨pb, po, none⟩) p.length cap) rfl (by kernel_rfl) (fun _ _ _ h => h) hS (yields_value (by kernel_rfl) (by intro w0 hw0; have hw1 := hw0; simp only [SL] at hw1; go_simp)) ?_; simp only [Act.put, List.getElem_toArray, List.getElem_cons_succ, List.getElem_cons_zero, List.setIfInBounds_toArray, List.set_cons_succ, List.set_cons_zero]
  refine wpAnyK_take' (i := 2) (.int .i64 j) rfl (by kernel_rfl) (fun _ _ _ h => h) hS (yields_value (by kernel_rfl) (by intro w0 hw0; have hw1 := hw0; simp only [SL] at hw1; go_simp)) ?_; simp only [Act.put, List.getElem_toArray, List.getElem_cons_succ, List.getElem_cons_zero, List.setIfInBounds_toArray, List.set_cons_succ, List.set_cons_zero]
  refine wpAnyK_take' (i := 3) (.pointer (some ⟨pb, po + j, none⟩)) rfl (by kernel_rfl) (fun _ _ _ h => h) hS (yields_value (by kernel_rfl) (by intro w0 hw0; have hw1 := hw0; simp only [SL] at hw1; go_simp)) ?_; simp only [Act.put, List.getElem_toArray, List.getElem_cons_succ, List.getElem_cons_zero, List.setIfInBounds_toArray, List.set_cons_succ, List.set_cons_zero]
  refine wpAnyK_take' (i := 4) (.int .i64 x) rfl (by kernel_rfl) (fun _ _ _ h => h) hS (yields_value (by kernel_rfl) (by intro w0 hw0; have hw1 := hw0; simp only [SL] at hw1; go_simp)) ?_; simp only [Act.put, List.getElem_toArray, List.getElem_cons_succ, List.getElem_cons_zero, List.setIfInBounds_toArray, List.set_cons_succ, List.set_cons_zero]
  refine wpAnyK_take' (i := 5) (.int .i64 d) rfl (by kernel_rfl) (fun _ _ _ h => h) hS (yields_value (by kernel_rfl) (by intro w0 hw0; have hw1 := hw0; simp only [SL] at hw1; go_simp)) ?_; simp only [Act.put, List.getElem_toArray, List.getElem_cons_succ, List.getElem_cons_zero, List.setIfInBounds_toArray, List.set_cons_succ, List.set_cons_zero]
  refine wpAnyK_take' (i := 6) (.agg #[.int .i64 x, .int .i64 d, .slice none 0 0, .slice none 0 0]) rfl (by kernel_rfl) (fun _ _ _ h => h) hS (yields_value (by kernel_rfl) (by intro w0 hw0; have hw1 := hw0; simp only [SL] at hw1; go_simp)) ?_; simp only [Act.put, List.getElem_toArray, List.getElem_cons_succ, List.getElem_cons_zero, List.setIfInBounds_toArray, List.set_cons_succ, List.set_cons_zero]
  refine wpAnyK_call (i := 7) rfl (by kernel_rfl) (by kernel_rfl) fun K7 hK7 => ?_
  go_simp
  go_wp2_with fail
  refine (hFF.out _ (topoS.below hT (hB2.trans (by (repeat' (first | with_reducible exact Below.refl _ _ | with_reducible assumption | with_reducible refine Below.drew ?_ | with_reducible refine Below_drewN ?_ _ | with_reducible refine Below.alloc ?_ ?_ _ | with_reducible refine Below.setCell ?_ ?_ _ | omega | (simp; done) | (simp; omega)))))) (flow_rep hxI hd)).mono ?_
  rintro e w3 ⟨ao3, cap3, rfl, hq3, hb3⟩
  have hb23 : Below w2.heap.size w2 w3 := Below.trans (by (repeat' (first | with_reducible exact Below.refl _ _ | with_reducible assumption | with_reducible refine Below.drew ?_ | with_reducible refine Below_drewN ?_ _ | with_reducible refine Below.alloc ?_ ?_ _ | with_reducible refine Below.setCell ?_ ?_ _ | omega | (simp; done) | (simp; omega)))) (hb3.mono (by simp))
  have hS3 : SL w.heap.size pb (po + j) t.n la t.links.length lc x w3 := hT0.keep hb3 (by simpa using hz2) (by simpa using hpb)
  have hB3 : Below w.heap.size w w3 := hB2.trans (hb23.mono (by omega))
  have hT3 := hT2.under hb23
  have hpd3 := hpd.below hb23
  clear hb3 hS hT0 t1 t2 hFF e0
  have hS := hS3
  go_wp2_with fail
  refine hK7 _ _ (fun _ => hS) ?_
  clear hK7
  refine wpAnyK_take' (i := 8) (.tuple #[.slice ao3 q.length cap3, .int .i64 0]) rfl (by kernel_rfl) (fun _ _ _ h => h) hS (yields_value (by kernel_rfl) (by intro w0 hw0; have hw1 := hw0; simp only [SL] at hw1; go_simp)) ?_; simp only [Act.put, List.getElem_toArray, List.getElem_cons_succ, List.getElem_cons_zero, List.setIfInBounds_toArray, List.set_cons_succ, List.set_cons_zero]
  refine wpAnyK_take' (i := 9) (.slice ao3 q.length cap3) rfl (by kernel_rfl) (fun _ _ _ h => h) hS (yields_value (by kernel_rfl) (by intro w0 hw0; have hw1 := hw0; simp only [SL] at hw1; go_simp)) ?_; simp only [Act.put, List.getElem_toArray, List.getElem_cons_succ, List.getElem_cons_zero, List.setIfInBounds_toArray, List.set_cons_succ, List.set_cons_zero]
  refine wpAnyK_take' (i := 10) (.int .i64 0) rfl (by kernel_rfl) (fun _ _ _ h => h) hS (yields_value (by kernel_rfl) (by intro w0 hw0; have hw1 := hw0; simp only [SL] at hw1; go_simp)) ?_; simp only [Act.put, List.getElem_toArray, List.getElem_cons_succ, List.getElem_cons_zero, List.setIfInBounds_toArray, List.set_cons_succ, List.set_cons_zero]
  refine wpAnyK_take' (i := 11) (.slice ao3 q.length cap3) rfl (by kernel_rfl) (fun _ _ _ h => h) hS (yields_value (by kernel_rfl) (by intro w0 hw0; have hw1 := hw0; simp only [SL] at hw1; go_simp)) ?_; simp only [Act.put, List.getElem_toArray, List.getElem_cons_succ, List.getElem_cons_zero, List.setIfInBounds_toArray, List.set_cons_succ, List.set_cons_zero]
  refine wpAnyK_take' (i := 12) (.int .i64 0) rfl (by kernel_rfl) (fun _ _ _ h => h) hS (yields_value (by kernel_rfl) (by intro w0 hw0; have hw1 := hw0; simp only [SL] at hw1; go_simp)) ?_; simp only [Act.put, List.getElem_toArray, List.getElem_cons_succ, List.getElem_cons_zero, List.setIfInBounds_toArray, List.set_cons_succ, List.set_cons_zero]
  refine wpAnyK_done (by kernel_rfl) ?_ _
  go_wp2
  have hT4 : SL w.heap.size pb (po + j) t.n la t.links.length lc x w3.drew := hS3
  refine wp_region_K (SL w.heap.size pb (po + j) t.n la t.links.length lc x) 99 (by kernel_rfl) ?_
  clear hS hS3
  have hS := hT4
  refine wpAnyK_take' (i := 0) (.agg #[.int .i64 t.n, .slice la t.links.length lc]) rfl (by kernel_rfl) (fun _ _ _ h => h) hS (yields_value (by kernel_rfl) (by intro w0 hw0; have hw1 := hw0; simp only [SL] at hw1; go_simp)) ?_; simp only [Act.put, List.getElem_toArray, List.getElem_cons_succ, List.getElem_cons_zero, List.setIfInBounds_toArray, List.set_cons_succ, List.set_cons_zero]
  refine wpAnyK_take' (i := 1) (.slice (some ⟨pb, po, none⟩) p.length cap) rfl (by kernel_rfl) (fun _ _ _ h => h) hS (yields_value (by kernel_rfl) (by intro w0 hw0; have hw1 := hw0; simp only [SL] at hw1; go_simp)) ?_; simp only [Act.put, List.getElem_toArray, List.getElem_cons_succ, List.getElem_cons_zero, List.setIfInBounds_toArray, List.set_cons_succ, List.set_cons_zero]
  refine wpAnyK_take' (i := 2) (.int .i64 j) rfl (by kernel_rfl) (fun _ _ _ h => h) hS (yields_value (by kernel_rfl) (by intro w0 hw0; have hw1 := hw0; simp only [SL] at hw1; go_simp)) ?_; simp only [Act.put, List.getElem_toArray, List.getElem_cons_succ, List.getElem_cons_zero, List.setIfInBounds_toArray, List.set_cons_succ, List.set_cons_zero]
  refine wpAnyK_take' (i := 3) (.slice (some ⟨pb, po + j, none⟩) (p.length - j) (cap - j)) rfl (by kernel_rfl) (fun _ _ _ h => h) hS (yields_value (by kernel_rfl) (by intro w0 hw0; have hw1 := hw0; simp only [SL] at hw1; go_simp)) ?_; simp only [Act.put, List.getElem_toArray, List.getElem_cons_succ, List.getElem_cons_zero, List.setIfInBounds_toArray, List.set_cons_succ, List.set_cons_zero]
  refine wpAnyK_call (i := 4) rfl (by kernel_rfl) (by kernel_rfl) fun K4 hK4 => ?_
  go_simp
  go_wp2_with fail
  have hLc := length_c t (p.drop j) [.int .i64 t.n, .slice la t.links.length lc] ok (fun _ => True) (some ⟨pb, po + j, none⟩) (cap - j) w3.drew (topoS.below hT (hB3.trans (by (repeat' (first | with_reducible exact Below.refl _ _ | with_reducible assumption | with_reducible refine Below.drew ?_ | with_reducible refine Below_drewN ?_ _ | with_reducible refine Below.alloc ?_ ?_ _ | with_reducible refine Below.setCell ?_ ?_ _ | omega | (simp; done) | (simp; omega)))))) (hpd3.below (by (repeat' (first | with_reducible exact Below.refl _ _ | with_reducible assumption | with_reducible refine Below.drew ?_ | with_reducible refine Below_drewN ?_ _ | with_reducible refine Below.alloc ?_ ?_ _ | with_reducible refine Below.setCell ?_ ?_ _ | omega | (simp; done) | (simp; omega)))))
  rw [hP1.out, List.length_drop] at hLc
  refine hLc.mono ?_
  rintro e w4 ⟨rfl, hb4⟩
  have hb34 : Below w3.heap.size w3 w4 := Below.trans (by (repeat' (first | with_reducible exact Below.refl _ _ | with_reducible assumption | with_reducible refine Below.drew ?_ | with_reducible refine Below_drewN ?_ _ | with_reducible refine Below.alloc ?_ ?_ _ | with_reducible refine Below.setCell ?_ ?_ _ | omega | (simp; done) | (simp; omega)))) (hb4.mono (by simp))
  have hz3 := hB3.size
  have hS4 : SL w.heap.size pb (po + j) t.n la t.links.length lc x w4 := hT4.keep hb4 (by simpa using hT3.lt) (by have := hb23.size; simp; omega)
  have hB4 : Below w.heap.size w w4 := hB3.trans (hb34.mono (by omega))
  have hT4' := hT3.under hb34
  have hq4 := hq3.below hb34
  clear hb4 hS hT4 hLc hq3 hpd hpd3
  have hS := hS4
  go_wp2_with fail
  refine hK4 _ _ (fun _ => hS) ?_
  clear hK4
  refine wpAnyK_take' (i := 5) (.tuple #[.int .i64 a, .bool true]) rfl (by kernel_rfl) (fun _ _ _ h => h) hS (yields_value (by kernel_rfl) (by intro w0 hw0; have hw1 := hw0; simp only [SL] at hw1; go_simp)) ?_; simp only [Act.put, List.getElem_toArray, List.getElem_cons_succ, List.getElem_cons_zero, List.setIfInBounds_toArray, List.set_cons_succ, List.set_cons_zero]
  refine wpAnyK_take' (i := 6) (.int .i64 a) rfl (by kernel_rfl) (fun _ _ _ h => h) hS (yields_value (by kernel_rfl) (by intro w0 hw0; have hw1 := hw0; simp only [SL] at hw1; go_simp)) ?_; simp only [Act.put, List.getElem_toArray, List.getElem_cons_succ, List.getElem_cons_zero, List.setIfInBounds_toArray, List.set_cons_succ, List.set_cons_zero]
  refine wpAnyK_take' (i := 7) (.bool true) rfl (by kernel_rfl) (fun _ _ _ h => h) hS (yields_value (by kernel_rfl) (by intro w0 hw0; have hw1 := hw0; simp only [SL] at hw1; go_simp)) ?_; simp only [Act.put, List.getElem_toArray, List.getElem_cons_succ, List.getElem_cons_zero, List.setIfInBounds_toArray, List.set_cons_succ, List.set_cons_zero]
  refine wpAnyK_take' (i := 8) (.int .i64 a) rfl (by kernel_rfl) (fun _ _ _ h => h) hS (yields_value (by kernel_rfl) (by intro w0 hw0; have hw1 := hw0; simp only [SL] at hw1; go_simp)) ?_; simp only [Act.put, List.getElem_toArray, List.getElem_cons_succ, List.getElem_cons_zero, List.setIfInBounds_toArray, List.set_cons_succ, List.set_cons_zero]
  refine wpAnyK_take' (i := 9) (.bool true) rfl (by kernel_rfl) (fun _ _ _ h => h) hS (yields_value (by kernel_rfl) (by intro w0 hw0; have hw1 := hw0; simp only [SL] at hw1; go_simp)) ?_; simp only [Act.put, List.getElem_toArray, List.getElem_cons_succ, List.getElem_cons_zero, List.setIfInBounds_toArray, List.set_cons_succ, List.set_cons_zero]
  refine wpAnyK_done (by kernel_rfl) ?_ _
  clear hS hS4
  obtain ⟨t1, t2⟩ := hT4'.cells
  go_wp2_with fail
  refine (length_c t q _ ok (fun _ => True) ao3 cap3 _ (topoS.below hT hB4) hq4).mono ?_
  rw [hP2.out]
  rintro e w5 ⟨rfl, hb5⟩
  have hB5 : Below w.heap.size w w5 := hB4.trans (hb5.mono (by have := hB4.size; omega))
  clear hb5 t1 t2 hT4' hq4
  go_wp2
  go_ret; exact ⟨by first | rfl | exact ret_bool (by simp), by (repeat' (first | with_reducible exact Below.refl _ _ | with_reducible assumption | with_reducible refine Below.drew ?_ | with_reducible refine Below_drewN ?_ _ | with_reducible refine Below.alloc ?_ ?_ _ | with_reducible refine Below.setCell ?_ ?_ _ | omega | (simp; done) | (simp; omega)))⟩

end Go.Proofs.Ytflhmpmdpdekeaa
