/-
  The walk of the law AgentTells.
-/
import Derived.Test.YtcfcdembhjnjfaaRefD
import Derived.Test.YtcfcdembhjnjfaaSameSw
import Derived.WalkKit
import Derived.WalkSpells
import Derived.WalkLawsBesides
import Derived.Lib.Hide
import Derived.Deep.LoopGhost
import Derived.Deep.QuietTactic
import Derived.BigQuiet
import Derived.Deep.RegionWith
import Derived.Handy
set_option linter.unusedSimpArgs false
set_option linter.unusedVariables false
namespace Go.Proofs.Ytcfcdembhjnjfaa
open Go.RowKit Go.St

set_option maxRecDepth 100000 in
set_option maxHeartbeats 8000000 in
theorem agentTells_c (w : World) (s : Switch) (cs : List Value) (ok : Nat → Prop) (h : switchS.rep ok w cs s) (o : Order) (ds : List Value) (ok' : Nat → Prop) (ho : orderS.rep ok' w ds o) (f : Int) (hf : I64 f) :
    Calls Try.prog 8 #[.agg cs.toArray, .agg ds.toArray, .int .i64 f] w fun e w' => e = .returned (.bool true) ∧ Below w.heap.size w w' := by
  have hSW := h
  have hOW := ho
  obtain ⟨ra, rc, sa, sc, rfl, hr, hs⟩ := h
  obtain ⟨oa, oc, fa, fc, rfl, hok, hon, hov, hor, hof⟩ := ho
  have hA := fun (w' : World) (hb : Below w.heap.size w w') => agentWrong_c s _ ok w' (switchS.below hSW hb)
  have hRA := fun (w' : World) (hb : Below w.heap.size w w') => refSw_c s _ ok w' (switchS.below hSW hb)
  have hV := fun (w' : World) (hb : Below w.heap.size w w') => version_c s f _ ok w' (switchS.below hSW hb)
  have hRV := fun (w' : World) (hb : Below w.heap.size w w') => stamped_c s f _ ok w' (switchS.below hSW hb)
  have hD := fun (w' : World) (hb : Below w.heap.size w w') => do_c s o _ _ ok ok' w' (switchS.below hSW hb) (orderS.below hOW hb)
  have hRD := fun (w' : World) (hb : Below w.heap.size w w') => does_c s o _ _ ok ok' w' (switchS.below hSW hb) (orderS.below hOW hb)
  generalize swWrong s = sw at *
  generalize verOf s f = vv at *
  generalize doOf s o = c at *
  obtain ⟨t, ee⟩ := c
  dsimp only at *
  have HA := Lib.hid hA
  have HRA := Lib.hid hRA
  have HV := Lib.hid hV
  have HRV := Lib.hid hRV
  have HD := Lib.hid hD
  have HRD := Lib.hid hRD
  clear hA hRA hV hRV hD hRD
  go_enter Try.func8, Try.ntmps8
  have hb0' : Below w.heap.size w ((w.alloc (.cells #[.slice ra s.rules.length rc, .slice sa s.stamps.length sc] 58)).alloc (.cells #[.int .i64 o.kind, .int .i64 o.num, .int .i64 o.ver, .slice oa o.rules.length oc, .slice fa o.flows.length fc] 60)) := by (repeat' (first | with_reducible exact Below.refl _ _ | with_reducible assumption | with_reducible refine Below.drew ?_ | with_reducible refine Below_drewN ?_ _ | with_reducible refine Below.alloc ?_ ?_ _ | with_reducible refine Below.setCell ?_ ?_ _ | omega | (simp; done) | (simp; omega)))
  have hS0' : blockIs ((w.alloc (.cells #[.slice ra s.rules.length rc, .slice sa s.stamps.length sc] 58)).alloc (.cells #[.int .i64 o.kind, .int .i64 o.num, .int .i64 o.ver, .slice oa o.rules.length oc, .slice fa o.flows.length fc] 60)) w.heap.size 58 #[.slice ra s.rules.length rc, .slice sa s.stamps.length sc] := (blockIs.new rfl).alloc _
  have hO0' : blockIs ((w.alloc (.cells #[.slice ra s.rules.length rc, .slice sa s.stamps.length sc] 58)).alloc (.cells #[.int .i64 o.kind, .int .i64 o.num, .int .i64 o.ver, .slice oa o.rules.length oc, .slice fa o.flows.length fc] 60)) (w.heap.size + 1) 60 #[.int .i64 o.kind, .int .i64 o.num, .int .i64 o.ver, .slice oa o.rules.length oc, .slice fa o.flows.length fc] := blockIs.new (by simp)
  go_wp2
  generalize ((w.alloc (.cells #[.slice ra s.rules.length rc, .slice sa s.stamps.length sc] 58)).alloc (.cells #[.int .i64 o.kind, .int .i64 o.num, .int .i64 o.ver, .slice oa o.rules.length oc, .slice fa o.flows.length fc] 60)) = w0 at *
  have hl0 := hO0'.lt
  have hSS : SD w.heap.size (.slice ra s.rules.length rc) (.slice sa s.stamps.length sc) w0 := ⟨hS0'.cells.1 0, hS0'.cells.1 1⟩
  have hS0 : SD w.heap.size (.slice ra s.rules.length rc) (.slice sa s.stamps.length sc) w0.drew := hSS
  refine wp_region_to (SD w.heap.size (.slice ra s.rules.length rc) (.slice sa s.stamps.length sc)) 99 (fun a0 a' w' => ∃ v11 v12 v13 v14 v15 v16 v17 v18 v19 v20 v21 v22 v23, a' = puts a0 [(11, v11), (12, v12), (13, v13), (14, v14), (15, v15), (16, v16), (17, v17), (18, v18), (19, v19), (20, v20), (21, v21), (22, v22), (23, v23), (24, .bool false)] ∧ Below w0.heap.size w0 w') (by kernel_rfl) ?_ ?_
  · intro Q' hR hQp
    have hb0 : Below w0.heap.size w0 w0.drew := by (repeat' (first | with_reducible exact Below.refl _ _ | with_reducible assumption | with_reducible refine Below.drew ?_ | with_reducible refine Below_drewN ?_ _ | with_reducible refine Below.alloc ?_ ?_ _ | with_reducible refine Below.setCell ?_ ?_ _ | omega | (simp; done) | (simp; omega)))
    have hS : SD w.heap.size (.slice ra s.rules.length rc) (.slice sa s.stamps.length sc) w0.drew := hS0
    generalize w0.drew = wa at *
    have hbw : Below w.heap.size w wa := hb0'.trans (hb0.mono (by omega))
    refine wpAnyK_take' (i := 0) _ rfl (by kernel_rfl) (fun _ _ _ h => hQp _ _ _ _ h) hS (yields_value (by kernel_rfl) (by intro w0 hw0; have hw1 := hw0; simp only [SD] at hw1; first | (go_simp; done) | (go_simp; rfl))) ?_; simp only [Act.put, List.getElem_toArray, List.getElem_cons_succ, List.getElem_cons_zero, List.setIfInBounds_toArray, List.set_cons_succ, List.set_cons_zero]
    refine wpAnyK_take' (i := 2) _ rfl (by kernel_rfl) (fun _ _ _ h => hQp _ _ _ _ h) hS (yields_value (by kernel_rfl) (by intro w0 hw0; have hw1 := hw0; simp only [SD] at hw1; first | (go_simp; done) | (go_simp; rfl))) ?_; simp only [Act.put, List.getElem_toArray, List.getElem_cons_succ, List.getElem_cons_zero, List.setIfInBounds_toArray, List.set_cons_succ, List.set_cons_zero]
    clear hS
    refine wpAnyK_call (i := 1) rfl (by kernel_rfl) (by kernel_rfl) fun K1 hK1 => ?_
    go_simp
    go_wp2_with fail
    refine (HA.out wa hbw).mono ?_
    rintro e wb ⟨rfl, hb1⟩
    go_wp2_with fail
    have hbw1 : Below w.heap.size w wb := hbw.trans (hb1.mono hbw.size)
    have hb2 : Below w0.heap.size w0 wb := hb0.trans (hb1.mono hb0.size)
    have hS : _ := hSS.under (by omega) hb2
    refine hK1 _ _ (fun _ => hS) ?_
    clear hK1
    clear hS
    refine wpAnyK_call (i := 3) rfl (by kernel_rfl) (by kernel_rfl) fun K3 hK3 => ?_
    go_simp
    go_wp2_with fail
    refine (HRA.out wb hbw1).mono ?_
    rintro e wc ⟨rfl, hb3⟩
    go_wp2_with fail
    have hbw2 : Below w.heap.size w wc := hbw1.trans (hb3.mono hbw1.size)
    have hb4 : Below w0.heap.size w0 wc := hb2.trans (hb3.mono hb2.size)
    have hS : _ := hSS.under (by omega) hb4
    refine hK3 _ _ (fun _ => hS) ?_
    clear hK3
    refine wpAnyK_take' (i := 4) _ rfl (by kernel_rfl) (fun _ _ _ h => hQp _ _ _ _ h) hS (yields_value (by kernel_rfl) (by intro w0 hw0; have hw1 := hw0; simp only [SD] at hw1; first | (go_simp; done) | (go_simp; rfl))) ?_; simp only [Act.put, List.getElem_toArray, List.getElem_cons_succ, List.getElem_cons_zero, List.setIfInBounds_toArray, List.set_cons_succ, List.set_cons_zero]
    refine wpAnyK_take' (i := 5) _ rfl (by kernel_rfl) (fun _ _ _ h => hQp _ _ _ _ h) hS (yields_value (by kernel_rfl) (by intro w0 hw0; have hw1 := hw0; simp only [SD] at hw1; first | (go_simp; done) | (go_simp; rfl))) ?_; simp only [Act.put, List.getElem_toArray, List.getElem_cons_succ, List.getElem_cons_zero, List.setIfInBounds_toArray, List.set_cons_succ, List.set_cons_zero]
    refine wpAnyK_take' (i := 6) _ rfl (by kernel_rfl) (fun _ _ _ h => hQp _ _ _ _ h) hS (yields_value (by kernel_rfl) (by intro w0 hw0; have hw1 := hw0; simp only [SD] at hw1; first | (go_simp; done) | (go_simp; rfl))) ?_; simp only [Act.put, List.getElem_toArray, List.getElem_cons_succ, List.getElem_cons_zero, List.setIfInBounds_toArray, List.set_cons_succ, List.set_cons_zero]
    refine wpAnyK_take' (i := 7) _ rfl (by kernel_rfl) (fun _ _ _ h => hQp _ _ _ _ h) hS (yields_value (by kernel_rfl) (by intro w0 hw0; have hw1 := hw0; simp only [SD] at hw1; first | (go_simp; done) | (go_simp; rfl))) ?_; simp only [Act.put, List.getElem_toArray, List.getElem_cons_succ, List.getElem_cons_zero, List.setIfInBounds_toArray, List.set_cons_succ, List.set_cons_zero]
    refine wpAnyK_take' (i := 9) _ rfl (by kernel_rfl) (fun _ _ _ h => hQp _ _ _ _ h) hS (yields_value (by kernel_rfl) (by intro w0 hw0; have hw1 := hw0; simp only [SD] at hw1; first | (go_simp; done) | (go_simp; rfl))) ?_; simp only [Act.put, List.getElem_toArray, List.getElem_cons_succ, List.getElem_cons_zero, List.setIfInBounds_toArray, List.set_cons_succ, List.set_cons_zero]
    refine wpAnyK_take' (i := 10) _ rfl (by kernel_rfl) (fun _ _ _ h => hQp _ _ _ _ h) hS (yields_value (by kernel_rfl) (by intro w0 hw0; have hw1 := hw0; simp only [SD] at hw1; first | (go_simp; done) | (go_simp; rfl))) ?_; simp only [Act.put, List.getElem_toArray, List.getElem_cons_succ, List.getElem_cons_zero, List.setIfInBounds_toArray, List.set_cons_succ, List.set_cons_zero]
    clear hS
    refine wpAnyK_call (i := 8) rfl (by kernel_rfl) (by kernel_rfl) fun K8 hK8 => ?_
    go_simp
    go_wp2_with fail
    refine (HV.out wc hbw2).mono ?_
    rintro e wd ⟨rfl, hb5⟩
    go_wp2_with fail
    have hbw3 : Below w.heap.size w wd := hbw2.trans (hb5.mono hbw2.size)
    have hb6 : Below w0.heap.size w0 wd := hb4.trans (hb5.mono hb4.size)
    have hS : _ := hSS.under (by omega) hb6
    refine hK8 _ _ (fun _ => hS) ?_
    clear hK8
    clear hS
    refine wpAnyK_call (i := 11) rfl (by kernel_rfl) (by kernel_rfl) fun K11 hK11 => ?_
    go_simp
    go_wp2_with fail
    refine (HRV.out wd hbw3).mono ?_
    rintro e we ⟨rfl, hb7⟩
    go_wp2_with fail
    have hb8 : Below w0.heap.size w0 we := hb6.trans (hb7.mono hb6.size)
    have hS : _ := hSS.under (by omega) hb8
    refine hK11 _ _ (fun _ => hS) ?_
    clear hK11
    refine wpAnyK_take' (i := 12) _ rfl (by kernel_rfl) (fun _ _ _ h => hQp _ _ _ _ h) hS (yields_value (by kernel_rfl) (by intro w0 hw0; have hw1 := hw0; simp only [SD] at hw1; first | (go_simp; done) | (go_simp; rfl))) ?_; simp only [Act.put, List.getElem_toArray, List.getElem_cons_succ, List.getElem_cons_zero, List.setIfInBounds_toArray, List.set_cons_succ, List.set_cons_zero]
    refine wpAnyK_take' (i := 13) _ rfl (by kernel_rfl) (fun _ _ _ h => hQp _ _ _ _ h) hS (yields_value (by kernel_rfl) (by intro w0 hw0; have hw1 := hw0; simp only [SD] at hw1; first | (go_simp; done) | (go_simp; rfl))) ?_; simp only [Act.put, List.getElem_toArray, List.getElem_cons_succ, List.getElem_cons_zero, List.setIfInBounds_toArray, List.set_cons_succ, List.set_cons_zero]
    refine wpAnyK_done (by kernel_rfl) ?_ _
    refine hR _ _ ?_
    iterate 13 apply Exists.intro
    refine ⟨?_, hb8⟩
    simp only [puts, Act.put, List.setIfInBounds_toArray, List.set_cons_succ, List.set_cons_zero]
    rfl
  rintro a' w8 ⟨v11, v12, v13, v14, v15, v16, v17, v18, v19, v20, v21, v22, v23, rfl, hb8⟩
  simp only [puts, Act.put, List.setIfInBounds_toArray, List.set_cons_succ, List.set_cons_zero]
  have hB8 : Below w.heap.size w w8 := hb0'.trans (hb8.mono (by omega))
  have hS8 := hS0'.under hb8
  have hO8 := hO0'.under hb8
  clear hS0 hSS hS0' hO0' hb8 hb0'
  obtain ⟨s1, s2⟩ := hS8.cells
  obtain ⟨o1, o2⟩ := hO8.cells
  have hl8 := hO8.lt
  go_wp2_with fail
  refine (HD.out w8 hB8).mono ?_
  rintro e w9 ⟨ts1, rfl, ht1, hb9⟩
  have hB9 : Below w.heap.size w w9 := hB8.trans (hb9.mono hB8.size)
  have hT1 := ht1
  obtain ⟨ra1, rc1, sa1, sc1, rfl, hr1, hs1⟩ := ht1
  have hA9 : Below w9.heap.size w9 (w9.alloc (.cells #[.slice ra1 t.rules.length rc1, .slice sa1 t.stamps.length sc1] 58)) := by (repeat' (first | with_reducible exact Below.refl _ _ | with_reducible assumption | with_reducible refine Below.drew ?_ | with_reducible refine Below_drewN ?_ _ | with_reducible refine Below.alloc ?_ ?_ _ | with_reducible refine Below.setCell ?_ ?_ _ | omega | (simp; done) | (simp; omega)))
  have hB10 : Below w.heap.size w (w9.alloc (.cells #[.slice ra1 t.rules.length rc1, .slice sa1 t.stamps.length sc1] 58)) := hB9.trans (hA9.mono hB9.size)
  have hX10 : blockIs (w9.alloc (.cells #[.slice ra1 t.rules.length rc1, .slice sa1 t.stamps.length sc1] 58)) w9.heap.size 58 #[.slice ra1 t.rules.length rc1, .slice sa1 t.stamps.length sc1] := blockIs.new rfl
  have hS10 := (hS8.under hb9).alloc (.cells #[.slice ra1 t.rules.length rc1, .slice sa1 t.stamps.length sc1] 58)
  have hO10 := (hO8.under hb9).alloc (.cells #[.slice ra1 t.rules.length rc1, .slice sa1 t.stamps.length sc1] 58)
  have hT10 := switchS.below hT1 hA9
  clear s1 s2 o1 o2 hl8 hS8 hO8 hT1 hr1 hs1 HA HRA HV HRV HD
  obtain ⟨s1, s2⟩ := (hS10.cells)
  obtain ⟨o1, o2⟩ := (hO10.cells)
  have hl9 : w.heap.size + 1 < w9.heap.size + 1 := by have := hO10.lt; simpa using this
  have hsz10 : (w9.alloc (.cells #[.slice ra1 t.rules.length rc1, .slice sa1 t.stamps.length sc1] 58)).heap.size = w9.heap.size + 1 := by simp
  go_wp2_with fail
  generalize w9.alloc (.cells #[.slice ra1 t.rules.length rc1, .slice sa1 t.stamps.length sc1] 58) = w10 at *
  refine (HRD.out w10 hB10).mono ?_
  rintro e w11 ⟨ts2, rfl, ht2, hb11⟩
  have hB11 : Below w.heap.size w w11 := hB10.trans (hb11.mono hB10.size)
  have hT2 := ht2
  obtain ⟨ra2, rc2, sa2, sc2, rfl, hr2, hs2⟩ := ht2
  have hX11 := hX10.under hb11
  have hl11 := hX11.lt
  obtain ⟨x1, x2⟩ := hX11.cells
  have hA11 : Below w11.heap.size w11 (w11.alloc (.cells #[.slice ra2 t.rules.length rc2, .slice sa2 t.stamps.length sc2] 58)) := by (repeat' (first | with_reducible exact Below.refl _ _ | with_reducible assumption | with_reducible refine Below.drew ?_ | with_reducible refine Below_drewN ?_ _ | with_reducible refine Below.alloc ?_ ?_ _ | with_reducible refine Below.setCell ?_ ?_ _ | omega | (simp; done) | (simp; omega)))
  have hB12 : Below w.heap.size w (w11.alloc (.cells #[.slice ra2 t.rules.length rc2, .slice sa2 t.stamps.length sc2] 58)) := hB11.trans (hA11.mono hB11.size)
  have hQ := sameSwitch_c t t _ _ _ _ (w11.alloc (.cells #[.slice ra2 t.rules.length rc2, .slice sa2 t.stamps.length sc2] 58)) (switchS.below (switchS.below hT10 hb11) hA11) (switchS.below hT2 hA11)
  rw [show decide (t = t) = true from decide_eq_true rfl] at hQ
  have HQ := Lib.hid hQ
  clear hQ HRD hT10 hT2 hr2 hs2 hS10 hO10 s1 s2 o1 o2 hX10 hb11
  go_wp2_with fail
  refine HQ.out.mono ?_
  rintro e w13 ⟨rfl, hb13⟩
  have hB13 : Below w.heap.size w w13 := hB12.trans (hb13.mono hB12.size)
  go_wp2
  go_ret; exact ⟨rfl, hB13⟩

end Go.Proofs.Ytcfcdembhjnjfaa
