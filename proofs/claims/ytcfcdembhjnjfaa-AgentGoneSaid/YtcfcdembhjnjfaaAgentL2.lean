/-
  The walks of laws of switches.
-/
import Derived.Test.YtcfcdembhjnjfaaSameSw
import Derived.WalkKit
import Derived.WalkSpells
import Derived.WalkLawsBesides
import Derived.Lib.Hide
import Derived.Deep.LoopGhost
import Derived.Deep.QuietTactic
import Derived.BigQuiet
import Derived.Deep.RegionWith
import Derived.Handy
set_option linter.unusedSimpArgs false
set_option linter.unusedVariables false
namespace Go.St
/-- what is read ahead of the law's end -/
def SG (ub sb ob : Nat) (x y : Value) (v : Int) (w : World) : Prop := w.cell? ⟨ub, 0, none⟩ = some x ∧ w.cell? ⟨sb, 0, none⟩ = some y ∧ w.cell? ⟨ob, 2, none⟩ = some (.int .i64 v)
theorem SG.under {ub sb ob : Nat} {x y : Value} {v : Int} {w w' : World} (h : SG ub sb ob x y v w) (h1 : ub < w.heap.size) (h2 : sb < w.heap.size) (h3 : ob < w.heap.size) (hb : Go.RowKit.Below w.heap.size w w') : SG ub sb ob x y v w' :=
  ⟨cell_at hb h1 h.1, cell_at hb h2 h.2.1, cell_at hb h3 h.2.2⟩
end Go.St
namespace Go.Proofs.Ytcfcdembhjnjfaa
open Go.RowKit Go.St

set_option maxRecDepth 100000 in
set_option maxHeartbeats 8000000 in
theorem agentGone_c (w : World) (s : Switch) (cs : List Value) (ok : Nat → Prop) (h : switchS.rep ok w cs s) (o : Order) (dso : List Value) (oko : Nat → Prop) (ho : orderS.rep oko w dso o) (k : Int) (hk : I64 k) :
    Calls Try.prog 11 #[.agg cs.toArray, .agg dso.toArray, .int .i64 k] w fun e w' => e = .returned (.bool true) ∧ Below w.heap.size w w' := by
  have hSW := h
  obtain ⟨ra, rc, sa, sc, rfl, hr, hs⟩ := h
  have hWo := ho
  obtain ⟨oa, oc, fa, fc, rfl, hko, hno, hvo, hro, hfo⟩ := ho
  go_enter Try.func11, Try.ntmps11
  go_wp2_with fail
  have hb0 : Below w.heap.size w ((w.alloc (.cells #[.slice ra s.rules.length rc, .slice sa s.stamps.length sc] 58)).alloc (.cells #[.int .i64 o.kind, .int .i64 o.num, .int .i64 o.ver, .slice oa o.rules.length oc, .slice fa o.flows.length fc] 60)) := by (repeat' (first | with_reducible exact Below.refl _ _ | with_reducible assumption | with_reducible refine Below.drew ?_ | with_reducible refine Below_drewN ?_ _ | with_reducible refine Below.alloc ?_ ?_ _ | with_reducible refine Below.setCell ?_ ?_ _ | omega | (simp; done) | (simp; omega)))
  have hS0 : blockIs ((w.alloc (.cells #[.slice ra s.rules.length rc, .slice sa s.stamps.length sc] 58)).alloc (.cells #[.int .i64 o.kind, .int .i64 o.num, .int .i64 o.ver, .slice oa o.rules.length oc, .slice fa o.flows.length fc] 60)) (w.heap.size) 58 #[.slice ra s.rules.length rc, .slice sa s.stamps.length sc] := ((blockIs.new rfl).alloc _)
  have hBo0 : blockIs ((w.alloc (.cells #[.slice ra s.rules.length rc, .slice sa s.stamps.length sc] 58)).alloc (.cells #[.int .i64 o.kind, .int .i64 o.num, .int .i64 o.ver, .slice oa o.rules.length oc, .slice fa o.flows.length fc] 60)) (w.heap.size + 1) 60 #[.int .i64 o.kind, .int .i64 o.num, .int .i64 o.ver, .slice oa o.rules.length oc, .slice fa o.flows.length fc] := (blockIs.new (by simp))
  generalize ((w.alloc (.cells #[.slice ra s.rules.length rc, .slice sa s.stamps.length sc] 58)).alloc (.cells #[.int .i64 o.kind, .int .i64 o.num, .int .i64 o.ver, .slice oa o.rules.length oc, .slice fa o.flows.length fc] 60)) = w0 at *
  refine (alive6_c w0).mono ?_
  rintro e w1 ⟨rfl, hb1⟩
  have hB1 : Below w.heap.size w w1 := hb0.trans (hb1.mono hb0.size)
  have hS1 := hS0.under hb1
  have hBo1 := hBo0.under hb1
  clear hb1 hb0 hS0 hBo0
  obtain ⟨hSx1, hSy1⟩ := hS1.cells
  have hSl1 := hS1.lt
  obtain ⟨hBox1, hBoy1⟩ := hBo1.cells
  have hBol1 := hBo1.lt
  have hz1 := hB1.size
  by_cases k1 : o.kind = 1
  case neg =>
    have b1 : (o.kind != 1) = true := by rw [bne_iff_ne]; exact k1
    clear k1
    go_wp2
    go_ret; exact ⟨rfl, by (repeat' (first | with_reducible exact Below.refl _ _ | with_reducible assumption | with_reducible refine Below.drew ?_ | with_reducible refine Below_drewN ?_ _ | with_reducible refine Below.alloc ?_ ?_ _ | with_reducible refine Below.setCell ?_ ?_ _ | omega | (simp; done) | (simp; omega)))⟩
  have b1 : (o.kind != 1) = false := by rw [bne_eq_false_iff_eq]; exact k1
  have K1 := Lib.hid k1
  clear k1
  have hX2 : Below w1.heap.size w1 (w1.alloc (.cells #[.int .i64 3, .int .i64 k, .int .i64 o.ver, .slice none 0 0, .slice none 0 0] 60)) := by (repeat' (first | with_reducible exact Below.refl _ _ | with_reducible assumption | with_reducible refine Below.drew ?_ | with_reducible refine Below_drewN ?_ _ | with_reducible refine Below.alloc ?_ ?_ _ | with_reducible refine Below.setCell ?_ ?_ _ | omega | (simp; done) | (simp; omega)))
  have hD2 : blockIs (w1.alloc (.cells #[.int .i64 3, .int .i64 k, .int .i64 o.ver, .slice none 0 0, .slice none 0 0] 60)) w1.heap.size 60 #[.int .i64 3, .int .i64 k, .int .i64 o.ver, .slice none 0 0, .slice none 0 0] := blockIs.new rfl
  have hS2 := hS1.alloc (.cells #[.int .i64 3, .int .i64 k, .int .i64 o.ver, .slice none 0 0, .slice none 0 0] 60)
  have hBo2 := hBo1.alloc (.cells #[.int .i64 3, .int .i64 k, .int .i64 o.ver, .slice none 0 0, .slice none 0 0] 60)
  have hB2 : Below w.heap.size w (w1.alloc (.cells #[.int .i64 3, .int .i64 k, .int .i64 o.ver, .slice none 0 0, .slice none 0 0] 60)) := by (repeat' (first | with_reducible exact Below.refl _ _ | with_reducible assumption | with_reducible refine Below.drew ?_ | with_reducible refine Below_drewN ?_ _ | with_reducible refine Below.alloc ?_ ?_ _ | with_reducible refine Below.setCell ?_ ?_ _ | omega | (simp; done) | (simp; omega)))
  have hdr : ∀ w', orderS.rep (fun _ => True) w' [.int .i64 3, .int .i64 k, .int .i64 o.ver, .slice none 0 0, .slice none 0 0] ⟨3, k, o.ver, [], []⟩ := fun w' => ⟨none, 0, none, 0, rfl, (show I64 (3 : Int) from I64.small (by omega) (by omega)), hk, hvo, rowRep.nil _ _ _ _, rowRep.nil _ _ _ _⟩
  have hWd := wireWrong_c ⟨3, k, o.ver, [], []⟩ _ _ (w1.alloc (.cells #[.int .i64 3, .int .i64 k, .int .i64 o.ver, .slice none 0 0, .slice none 0 0] 60)) (hdr _)
  generalize hwd : wireWrong ⟨3, k, o.ver, [], []⟩ = wd at *
  have HWD := Lib.hid hwd
  have HW := Lib.hid hWd
  have hz2 : (w1.alloc (.cells #[.int .i64 3, .int .i64 k, .int .i64 o.ver, .slice none 0 0, .slice none 0 0] 60)).heap.size = w1.heap.size + 1 := by simp
  clear hwd hWd
  go_wp2_with fail
  generalize (w1.alloc (.cells #[.int .i64 3, .int .i64 k, .int .i64 o.ver, .slice none 0 0, .slice none 0 0] 60)) = w2 at *
  refine HW.out.mono ?_
  rintro e w3 ⟨rfl, hb3⟩
  have hB3 : Below w.heap.size w w3 := hB2.trans (hb3.mono hB2.size)
  have hS3 := hS2.under hb3
  have hBo3 := hBo2.under hb3
  have hD3 := hD2.under hb3
  clear hSx1 hSy1 hSl1 hBox1 hBoy1 hBol1 HW
  have hz3 := hB3.size
  have hzd3 : w1.heap.size + 1 ≤ w3.heap.size := by have := hb3.size; omega
  obtain ⟨hSx3, hSy3⟩ := hS3.cells
  have hSl3 := hS3.lt
  obtain ⟨hBox3, hBoy3⟩ := hBo3.cells
  have hBol3 := hBo3.lt
  obtain ⟨hDx3, hDy3⟩ := hD3.cells
  have hDl3 := hD3.lt
  by_cases h0 : wd = 0
  case neg =>
    have h0' : (wd != 0) = true := by rw [bne_iff_ne]; exact h0
    clear h0
    go_wp2
    go_ret; exact ⟨rfl, by (repeat' (first | with_reducible exact Below.refl _ _ | with_reducible assumption | with_reducible refine Below.drew ?_ | with_reducible refine Below_drewN ?_ _ | with_reducible refine Below.alloc ?_ ?_ _ | with_reducible refine Below.setCell ?_ ?_ _ | omega | (simp; done) | (simp; omega)))⟩
  subst h0
  have hD := do_c s o _ _ _ _ w3 (switchS.below hSW hB3) (orderS.below hWo hB3)
  generalize hct : doOf s o = ct at *
  have HCt := Lib.hid hct
  have HD := Lib.hid hD
  clear hD hct
  go_wp2_with fail
  refine HD.out.mono ?_
  rintro e w4 ⟨tst, rfl, htt, hb4⟩
  have hB4 : Below w.heap.size w w4 := hB3.trans (hb4.mono hB3.size)
  have hTt := htt
  obtain ⟨rat, rct, sat, sct, rfl, hrt, hst⟩ := htt
  obtain ⟨t, e1⟩ := ct
  dsimp only at *
  have hS4 := hS3.under hb4
  have hBo4 := hBo3.under hb4
  have hD4 := hD3.under hb4
  clear HD hSx3 hSy3 hSl3 hBox3 hBoy3 hBol3 hDx3 hDy3 hDl3
  obtain ⟨hSx4, hSy4⟩ := hS4.cells
  have hSl4 := hS4.lt
  obtain ⟨hBox4, hBoy4⟩ := hBo4.cells
  have hBol4 := hBo4.lt
  obtain ⟨hDx4, hDy4⟩ := hD4.cells
  have hDl4 := hD4.lt
  have hz4 := hB4.size
  by_cases h1 : e1 = 0
  case neg =>
    have h1' : (e1 != 0) = true := by rw [bne_iff_ne]; exact h1
    clear h1
    go_wp2
    go_ret; exact ⟨rfl, by (repeat' (first | with_reducible exact Below.refl _ _ | with_reducible assumption | with_reducible refine Below.drew ?_ | with_reducible refine Below_drewN ?_ _ | with_reducible refine Below.alloc ?_ ?_ _ | with_reducible refine Below.setCell ?_ ?_ _ | omega | (simp; done) | (simp; omega)))⟩
  subst h1
  have hgn := do_gone (s := s) (o := o) (d := ⟨3, k, o.ver, [], []⟩) (by rw [HCt.out]) K1.out HWD.out rfl rfl
  rw [HCt.out] at hgn
  have hX5 : Below w4.heap.size w4 (w4.alloc (.cells #[.slice rat t.rules.length rct, .slice sat t.stamps.length sct] 58)) := by (repeat' (first | with_reducible exact Below.refl _ _ | with_reducible assumption | with_reducible refine Below.drew ?_ | with_reducible refine Below_drewN ?_ _ | with_reducible refine Below.alloc ?_ ?_ _ | with_reducible refine Below.setCell ?_ ?_ _ | omega | (simp; done) | (simp; omega)))
  have hT5 : blockIs (w4.alloc (.cells #[.slice rat t.rules.length rct, .slice sat t.stamps.length sct] 58)) w4.heap.size 58 #[.slice rat t.rules.length rct, .slice sat t.stamps.length sct] := blockIs.new rfl
  have hS5 := hS4.alloc (.cells #[.slice rat t.rules.length rct, .slice sat t.stamps.length sct] 58)
  have hBo5 := hBo4.alloc (.cells #[.slice rat t.rules.length rct, .slice sat t.stamps.length sct] 58)
  have hD5 := hD4.alloc (.cells #[.slice rat t.rules.length rct, .slice sat t.stamps.length sct] 58)
  have hB5 : Below w.heap.size w (w4.alloc (.cells #[.slice rat t.rules.length rct, .slice sat t.stamps.length sct] 58)) := by (repeat' (first | with_reducible exact Below.refl _ _ | with_reducible assumption | with_reducible refine Below.drew ?_ | with_reducible refine Below_drewN ?_ _ | with_reducible refine Below.alloc ?_ ?_ _ | with_reducible refine Below.setCell ?_ ?_ _ | omega | (simp; done) | (simp; omega)))
  have hR5 := switchS.below hTt hX5
  have hDo := do_c t ⟨3, k, o.ver, [], []⟩ _ _ _ _ (w4.alloc (.cells #[.slice rat t.rules.length rct, .slice sat t.stamps.length sct] 58)) hR5 (hdr _)
  dsimp only at hgn
  generalize hcu : doOf t ⟨3, k, o.ver, [], []⟩ = cu at *
  have HCu := Lib.hid hcu
  obtain ⟨u, e2⟩ := cu
  dsimp only at *
  obtain ⟨rfl, hgr⟩ := hgn
  have HGR := Lib.hid hgr
  have HD := Lib.hid hDo
  clear hDo hcu hgr
  go_wp2_with fail
  generalize (w4.alloc (.cells #[.slice rat t.rules.length rct, .slice sat t.stamps.length sct] 58)) = w5 at *
  refine HD.out.mono ?_
  rintro e w6 ⟨tsu, rfl, hu, hb6⟩
  have hB6 : Below w.heap.size w w6 := hB5.trans (hb6.mono hB5.size)
  have hU := hu
  obtain ⟨rau, rcu, sau, scu, rfl, hru, hsu⟩ := hu
  have hS6 := hS5.under hb6
  have hBo6 := hBo5.under hb6
  have hz6 := hB6.size
  clear HD hSx4 hSy4 hSl4 hBox4 hBoy4 hBol4 hDx4 hDy4 hDl4 hT5 hD5 hR5 hX5
  obtain ⟨hSx6, hSy6⟩ := hS6.cells
  have hSl6 := hS6.lt
  obtain ⟨hBox6, hBoy6⟩ := hBo6.cells
  have hBol6 := hBo6.lt
  have hS7 : SG w6.heap.size w.heap.size (w.heap.size + 1) (.slice rau u.rules.length rcu) (.slice ra s.rules.length rc) o.ver (w6.alloc (.cells #[.slice rau u.rules.length rcu, .slice sau u.stamps.length scu] 58)) := by
    have x1 := (blockIs.new (w := w6) (t := 58) (cs := #[.slice rau u.rules.length rcu, .slice sau u.stamps.length scu]) rfl).cells.1
    exact ⟨x1 0, (hS6.alloc _).cells.1 0, (hBo6.alloc _).cells.1 2⟩
  have hB7 : Below w.heap.size w (w6.alloc (.cells #[.slice rau u.rules.length rcu, .slice sau u.stamps.length scu] 58)) := by (repeat' (first | with_reducible exact Below.refl _ _ | with_reducible assumption | with_reducible refine Below.drew ?_ | with_reducible refine Below_drewN ?_ _ | with_reducible refine Below.alloc ?_ ?_ _ | with_reducible refine Below.setCell ?_ ?_ _ | omega | (simp; done) | (simp; omega)))
  have hX7 : Below w6.heap.size w6 (w6.alloc (.cells #[.slice rau u.rules.length rcu, .slice sau u.stamps.length scu] 58)) := by (repeat' (first | with_reducible exact Below.refl _ _ | with_reducible assumption | with_reducible refine Below.drew ?_ | with_reducible refine Below_drewN ?_ _ | with_reducible refine Below.alloc ?_ ?_ _ | with_reducible refine Below.setCell ?_ ?_ _ | omega | (simp; done) | (simp; omega)))
  have hz7 : (w6.alloc (.cells #[.slice rau u.rules.length rcu, .slice sau u.stamps.length scu] 58)).heap.size = w6.heap.size + 1 := by simp
  have hsl16 : s.rules.length ≤ 16 := (do_ok (s := s) (o := o) (by rw [HCt.out])).sw.tab.len
  go_wp2
  generalize (w6.alloc (.cells #[.slice rau u.rules.length rcu, .slice sau u.stamps.length scu] 58)) = w7 at *
  have hS0 : SG w6.heap.size w.heap.size (w.heap.size + 1) (.slice rau u.rules.length rcu) (.slice ra s.rules.length rc) o.ver w7.drew := hS7
  refine wp_region_to (SG w6.heap.size w.heap.size (w.heap.size + 1) (.slice rau u.rules.length rcu) (.slice ra s.rules.length rc) o.ver) 99 (fun a0 a' w' => ∃ v39 v40 v41 v42 v43 v44 v45 v46 v47 v48 v49 v50, a' = puts a0 [(39, v39), (40, v40), (41, v41), (42, v42), (43, v43), (44, v44), (45, v45), (46, v46), (47, v47), (48, v48), (49, v49), (50, v50), (6, .bool true)] ∧ Below w7.heap.size w7 w') (by kernel_rfl) ?_ ?_
  · intro Q' hR hQp
    have hb0 : Below w7.heap.size w7 w7.drew := by (repeat' (first | with_reducible exact Below.refl _ _ | with_reducible assumption | with_reducible refine Below.drew ?_ | with_reducible refine Below_drewN ?_ _ | with_reducible refine Below.alloc ?_ ?_ _ | with_reducible refine Below.setCell ?_ ?_ _ | omega | (simp; done) | (simp; omega)))
    have hS : SG w6.heap.size w.heap.size (w.heap.size + 1) (.slice rau u.rules.length rcu) (.slice ra s.rules.length rc) o.ver w7.drew := hS0
    generalize w7.drew = wa at *
    refine wpAnyK_take' (i := 0) _ rfl (by kernel_rfl) (fun _ _ _ h => hQp _ _ _ _ h) hS (yields_value (by kernel_rfl) (by intro w0 hw0; have hw1 := hw0; simp only [SG] at hw1; first | (go_simp; done) | (go_simp; rfl))) ?_; simp only [Act.put, List.getElem_toArray, List.getElem_cons_succ, List.getElem_cons_zero, List.setIfInBounds_toArray, List.set_cons_succ, List.set_cons_zero]
    refine wpAnyK_take' (i := 1) _ rfl (by kernel_rfl) (fun _ _ _ h => hQp _ _ _ _ h) hS (yields_value (by kernel_rfl) (by intro w0 hw0; have hw1 := hw0; simp only [SG] at hw1; first | (go_simp; done) | (go_simp; rfl))) ?_; simp only [Act.put, List.getElem_toArray, List.getElem_cons_succ, List.getElem_cons_zero, List.setIfInBounds_toArray, List.set_cons_succ, List.set_cons_zero]
    refine wpAnyK_take' (i := 2) _ rfl (by kernel_rfl) (fun _ _ _ h => hQp _ _ _ _ h) hS (yields_value (by kernel_rfl) (by intro w0 hw0; have hw1 := hw0; simp only [SG] at hw1; first | (go_simp; done) | (go_simp; rfl))) ?_; simp only [Act.put, List.getElem_toArray, List.getElem_cons_succ, List.getElem_cons_zero, List.setIfInBounds_toArray, List.set_cons_succ, List.set_cons_zero]
    refine wpAnyK_take' (i := 3) _ rfl (by kernel_rfl) (fun _ _ _ h => hQp _ _ _ _ h) hS (yields_value (by kernel_rfl) (by intro w0 hw0; have hw1 := hw0; simp only [SG] at hw1; first | (go_simp; done) | (go_simp; rfl))) ?_; simp only [Act.put, List.getElem_toArray, List.getElem_cons_succ, List.getElem_cons_zero, List.setIfInBounds_toArray, List.set_cons_succ, List.set_cons_zero]
    refine wpAnyK_take' (i := 4) _ rfl (by kernel_rfl) (fun _ _ _ h => hQp _ _ _ _ h) hS (yields_value (by kernel_rfl) (by intro w0 hw0; have hw1 := hw0; simp only [SG] at hw1; first | (go_simp; done) | (go_simp; rfl))) ?_; simp only [Act.put, List.getElem_toArray, List.getElem_cons_succ, List.getElem_cons_zero, List.setIfInBounds_toArray, List.set_cons_succ, List.set_cons_zero]
    refine wpAnyK_take' (i := 5) _ rfl (by kernel_rfl) (fun _ _ _ h => hQp _ _ _ _ h) hS (yields_value (by kernel_rfl) (by intro w0 hw0; have hw1 := hw0; simp only [SG] at hw1; first | (go_simp; done) | (go_simp; rfl))) ?_; simp only [Act.put, List.getElem_toArray, List.getElem_cons_succ, List.getElem_cons_zero, List.setIfInBounds_toArray, List.set_cons_succ, List.set_cons_zero]
    refine wpAnyK_take' (i := 6) _ rfl (by kernel_rfl) (fun _ _ _ h => hQp _ _ _ _ h) hS (yields_value (by kernel_rfl) (by intro w0 hw0; have hw1 := hw0; simp only [SG] at hw1; first | (go_simp; done) | (go_simp; rfl))) ?_; simp only [Act.put, List.getElem_toArray, List.getElem_cons_succ, List.getElem_cons_zero, List.setIfInBounds_toArray, List.set_cons_succ, List.set_cons_zero]
    refine wpAnyK_take' (i := 7) _ rfl (by kernel_rfl) (fun _ _ _ h => hQp _ _ _ _ h) hS (yields_value (by kernel_rfl) (by intro w0 hw0; have hw1 := hw0; simp only [SG] at hw1; first | (go_simp; done) | (go_simp; rfl))) ?_; simp only [Act.put, List.getElem_toArray, List.getElem_cons_succ, List.getElem_cons_zero, List.setIfInBounds_toArray, List.set_cons_succ, List.set_cons_zero]
    refine wpAnyK_take' (i := 8) _ rfl (by kernel_rfl) (fun _ _ _ h => hQp _ _ _ _ h) hS (yields_value (by kernel_rfl) (by intro w0 hw0; have hw1 := hw0; simp only [SG] at hw1; first | (go_simp; done) | (go_simp; rfl))) ?_; simp only [Act.put, List.getElem_toArray, List.getElem_cons_succ, List.getElem_cons_zero, List.setIfInBounds_toArray, List.set_cons_succ, List.set_cons_zero]
    clear hS
    refine wpAnyK_call (i := 9) rfl (by kernel_rfl) (by kernel_rfl) fun K9 hK9 => ?_
    go_simp
    go_wp2_with fail
    have hwz : w7.heap.size ≤ wa.heap.size := hb0.size
    refine (drop_c s.rules o.ver ok ra rc wa (hr.below (hB7.trans (hb0.mono (by omega)))) (by omega)).mono ?_
    rintro e wb ⟨ad, cd, rfl, hd, hb1⟩
    go_wp2_with fail
    have hb2 : Below w7.heap.size w7 wb := hb0.trans (hb1.mono hwz)
    have hbz := hb2.size
    have hS : _ := hS0.under (by omega) (by omega) (by omega) hb1
    refine hK9 _ _ (fun _ => hS) ?_
    clear hK9
    clear hS
    refine wpAnyK_call (i := 10) rfl (by kernel_rfl) (by kernel_rfl) fun K10 hK10 => ?_
    go_simp
    go_wp2_with fail
    have hSR := sameRules_c u.rules (dropOf s.rules o.ver) _ _ rau ad rcu cd wb (hru.below (hX7.trans (hb2.mono (by omega)))) hd.row
    rw [show (u.rules == dropOf s.rules o.ver) = true by rw [HGR.out]; simp] at hSR
    refine hSR.mono ?_
    rintro e wc ⟨rfl, hb3⟩
    go_wp2_with fail
    have hb4 : Below w7.heap.size w7 wc := hb2.trans (hb3.mono hbz)
    have hS : _ := (hS0.under (by omega) (by omega) (by omega) hb1).under (by omega) (by omega) (by omega) hb3
    refine hK10 _ _ (fun _ => hS) ?_
    clear hK10
    refine wpAnyK_take' (i := 11) _ rfl (by kernel_rfl) (fun _ _ _ h => hQp _ _ _ _ h) hS (yields_value (by kernel_rfl) (by intro w0 hw0; have hw1 := hw0; simp only [SG] at hw1; first | (go_simp; done) | (go_simp; rfl))) ?_; simp only [Act.put, List.getElem_toArray, List.getElem_cons_succ, List.getElem_cons_zero, List.setIfInBounds_toArray, List.set_cons_succ, List.set_cons_zero]
    refine wpAnyK_take' (i := 12) _ rfl (by kernel_rfl) (fun _ _ _ h => hQp _ _ _ _ h) hS (yields_value (by kernel_rfl) (by intro w0 hw0; have hw1 := hw0; simp only [SG] at hw1; first | (go_simp; done) | (go_simp; rfl))) ?_; simp only [Act.put, List.getElem_toArray, List.getElem_cons_succ, List.getElem_cons_zero, List.setIfInBounds_toArray, List.set_cons_succ, List.set_cons_zero]
    refine wpAnyK_done (by kernel_rfl) ?_ _
    refine hR _ _ ?_
    iterate 12 apply Exists.intro
    refine ⟨?_, hb4⟩
    simp only [puts, Act.put, List.setIfInBounds_toArray, List.set_cons_succ, List.set_cons_zero]
    rfl
  rintro a' w8 ⟨v39, v40, v41, v42, v43, v44, v45, v46, v47, v48, v49, v50, rfl, hb8⟩
  simp only [puts, Act.put, List.setIfInBounds_toArray, List.set_cons_succ, List.set_cons_zero]
  have hB8 : Below w.heap.size w w8 := hB7.trans (hb8.mono (by omega))
  go_wp2
  go_ret; exact ⟨rfl, hB8⟩

end Go.Proofs.Ytcfcdembhjnjfaa
