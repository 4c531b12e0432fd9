/-
  The walks of laws of switches.
-/
import Derived.Test.YtcfcdembhjnjfaaSameSw
import Derived.WalkKit
import Derived.WalkSpells
import Derived.WalkLawsBesides
import Derived.Lib.Hide
import Derived.Deep.LoopGhost
import Derived.Deep.QuietTactic
import Derived.BigQuiet
import Derived.Deep.RegionWith
import Derived.Handy
set_option linter.unusedSimpArgs false
set_option linter.unusedVariables false
namespace Go.Proofs.Ytcfcdembhjnjfaa
open Go.RowKit Go.St

set_option maxRecDepth 100000 in
set_option maxHeartbeats 8000000 in
theorem agentTwice_c (w : World) (s : Switch) (cs : List Value) (ok : Nat → Prop) (h : switchS.rep ok w cs s) (o : Order) (dso : List Value) (oko : Nat → Prop) (ho : orderS.rep oko w dso o) :
    Calls Try.prog 10 #[.agg cs.toArray, .agg dso.toArray] w fun e w' => e = .returned (.bool true) ∧ Below w.heap.size w w' := by
  have hSW := h
  obtain ⟨ra, rc, sa, sc, rfl, hr, hs⟩ := h
  have hWo := ho
  obtain ⟨oa, oc, fa, fc, rfl, hko, hno, hvo, hro, hfo⟩ := ho
  go_enter Try.func10, Try.ntmps10
  go_wp2_with fail
  have hb0 : Below w.heap.size w ((w.alloc (.cells #[.slice ra s.rules.length rc, .slice sa s.stamps.length sc] 58)).alloc (.cells #[.int .i64 o.kind, .int .i64 o.num, .int .i64 o.ver, .slice oa o.rules.length oc, .slice fa o.flows.length fc] 60)) := by (repeat' (first | with_reducible exact Below.refl _ _ | with_reducible assumption | with_reducible refine Below.drew ?_ | with_reducible refine Below_drewN ?_ _ | with_reducible refine Below.alloc ?_ ?_ _ | with_reducible refine Below.setCell ?_ ?_ _ | omega | (simp; done) | (simp; omega)))
  have hS0 : blockIs ((w.alloc (.cells #[.slice ra s.rules.length rc, .slice sa s.stamps.length sc] 58)).alloc (.cells #[.int .i64 o.kind, .int .i64 o.num, .int .i64 o.ver, .slice oa o.rules.length oc, .slice fa o.flows.length fc] 60)) (w.heap.size) 58 #[.slice ra s.rules.length rc, .slice sa s.stamps.length sc] := (blockIs.new rfl).alloc _
  have hBo0 : blockIs ((w.alloc (.cells #[.slice ra s.rules.length rc, .slice sa s.stamps.length sc] 58)).alloc (.cells #[.int .i64 o.kind, .int .i64 o.num, .int .i64 o.ver, .slice oa o.rules.length oc, .slice fa o.flows.length fc] 60)) (w.heap.size + 1) 60 #[.int .i64 o.kind, .int .i64 o.num, .int .i64 o.ver, .slice oa o.rules.length oc, .slice fa o.flows.length fc] := (blockIs.new (by simp))
  generalize ((w.alloc (.cells #[.slice ra s.rules.length rc, .slice sa s.stamps.length sc] 58)).alloc (.cells #[.int .i64 o.kind, .int .i64 o.num, .int .i64 o.ver, .slice oa o.rules.length oc, .slice fa o.flows.length fc] 60)) = w0 at *
  refine (alive6_c w0).mono ?_
  rintro e w1 ⟨rfl, hb1⟩
  have hB1 : Below w.heap.size w w1 := hb0.trans (hb1.mono hb0.size)
  have hS1 := hS0.under hb1
  have hBo1 := hBo0.under hb1
  clear hb1 hb0 hS0 hBo0
  obtain ⟨hSx1, hSy1⟩ := hS1.cells
  have hSl1 := hS1.lt
  obtain ⟨hBox1, hBoy1⟩ := hBo1.cells
  have hBol1 := hBo1.lt
  have hD := do_c s o _ _ _ _ w1 (switchS.below hSW hB1) (orderS.below hWo hB1)
  generalize hct : doOf s o = ct at *
  have HCt := Lib.hid hct
  have HD := Lib.hid hD
  clear hD hct
  go_wp2_with fail
  refine HD.out.mono ?_
  rintro e w2 ⟨tst, rfl, htt, hb2⟩
  have hB2 : Below w.heap.size w w2 := hB1.trans (hb2.mono hB1.size)
  have hTt := htt
  obtain ⟨rat, rct, sat, sct, rfl, hrt, hst⟩ := htt
  obtain ⟨t, e1⟩ := ct
  dsimp only at *
  have hS2 := hS1.under hb2
  have hBo2 := hBo1.under hb2
  clear HD hSx1 hSy1 hSl1 hBox1 hBoy1 hBol1
  obtain ⟨hSx2, hSy2⟩ := hS2.cells
  have hSl2 := hS2.lt
  obtain ⟨hBox2, hBoy2⟩ := hBo2.cells
  have hBol2 := hBo2.lt
  have hz2 := hB2.size
  by_cases h1 : e1 = 0
  case neg =>
    have h1' : (e1 != 0) = true := by rw [bne_iff_ne]; exact h1
    clear h1
    go_wp2
    go_ret; exact ⟨rfl, by (repeat' (first | with_reducible exact Below.refl _ _ | with_reducible assumption | with_reducible refine Below.drew ?_ | with_reducible refine Below_drewN ?_ _ | with_reducible refine Below.alloc ?_ ?_ _ | with_reducible refine Below.setCell ?_ ?_ _ | omega | (simp; done) | (simp; omega)))⟩
  subst h1
  have HT : Hid (doOf t o = (t, 0)) := by
    have h1 := do_twice (s := s) (o := o) (by rw [HCt.out])
    rw [HCt.out] at h1; exact h1
  have hX3 : Below w2.heap.size w2 (w2.alloc (.cells #[.slice rat t.rules.length rct, .slice sat t.stamps.length sct] 58)) := by (repeat' (first | with_reducible exact Below.refl _ _ | with_reducible assumption | with_reducible refine Below.drew ?_ | with_reducible refine Below_drewN ?_ _ | with_reducible refine Below.alloc ?_ ?_ _ | with_reducible refine Below.setCell ?_ ?_ _ | omega | (simp; done) | (simp; omega)))
  have hT3 : blockIs (w2.alloc (.cells #[.slice rat t.rules.length rct, .slice sat t.stamps.length sct] 58)) w2.heap.size 58 #[.slice rat t.rules.length rct, .slice sat t.stamps.length sct] := blockIs.new rfl
  have hS3 := hS2.alloc (.cells #[.slice rat t.rules.length rct, .slice sat t.stamps.length sct] 58)
  have hBo3 := hBo2.alloc (.cells #[.slice rat t.rules.length rct, .slice sat t.stamps.length sct] 58)
  have hB3 : Below w.heap.size w (w2.alloc (.cells #[.slice rat t.rules.length rct, .slice sat t.stamps.length sct] 58)) := by (repeat' (first | with_reducible exact Below.refl _ _ | with_reducible assumption | with_reducible refine Below.drew ?_ | with_reducible refine Below_drewN ?_ _ | with_reducible refine Below.alloc ?_ ?_ _ | with_reducible refine Below.setCell ?_ ?_ _ | omega | (simp; done) | (simp; omega)))
  have hR3 := switchS.below hTt hX3
  go_wp2_with fail
  generalize w2.alloc (.cells #[.slice rat t.rules.length rct, .slice sat t.stamps.length sct] 58) = w3 at *
  have hD := do_c t o _ _ _ _ w3 hR3 (orderS.below hWo hB3)
  rw [HT.out] at hD
  have HD := Lib.hid hD
  clear hD
  refine HD.out.mono ?_
  rintro e w4 ⟨ts, rfl, hu, hb4⟩
  have hB4 : Below w.heap.size w w4 := hB3.trans (hb4.mono hB3.size)
  have hU := hu
  obtain ⟨rau, rcu, sau, scu, rfl, hru, hsu⟩ := hu
  have hT4 := hT3.under hb4
  have hz4 := hB4.size
  have hl4 := hT4.lt
  obtain ⟨x4, y4⟩ := hT4.cells
  have hb5 : Below w4.heap.size w4 (w4.alloc (.cells #[.slice rau t.rules.length rcu, .slice sau t.stamps.length scu] 58)) := by (repeat' (first | with_reducible exact Below.refl _ _ | with_reducible assumption | with_reducible refine Below.drew ?_ | with_reducible refine Below_drewN ?_ _ | with_reducible refine Below.alloc ?_ ?_ _ | with_reducible refine Below.setCell ?_ ?_ _ | omega | (simp; done) | (simp; omega)))
  have hSS := sameSwitch_c t t _ _ _ _ (w4.alloc (.cells #[.slice rau t.rules.length rcu, .slice sau t.stamps.length scu] 58)) (switchS.below (switchS.below hR3 hb4) hb5) (switchS.below hU hb5)
  rw [show decide (t = t) = true from decide_eq_true rfl] at hSS
  have HSS := Lib.hid hSS
  clear hSS HD hb4 hT3 hS3 hBo3 hR3
  go_wp2_with fail
  refine HSS.out.mono ?_
  rintro e w6 ⟨rfl, hb6⟩
  have hB6 : Below w.heap.size w w6 := Below.trans (show Below w.heap.size w (w4.alloc _) by (repeat' (first | with_reducible exact Below.refl _ _ | with_reducible assumption | with_reducible refine Below.drew ?_ | with_reducible refine Below_drewN ?_ _ | with_reducible refine Below.alloc ?_ ?_ _ | with_reducible refine Below.setCell ?_ ?_ _ | omega | (simp; done) | (simp; omega)))) (hb6.mono (by simp; omega))
  go_wp2
  go_ret; exact ⟨rfl, hB6⟩

set_option maxRecDepth 100000 in
set_option maxHeartbeats 8000000 in
theorem agentApart_c (w : World) (s : Switch) (cs : List Value) (ok : Nat → Prop) (h : switchS.rep ok w cs s) (o : Order) (dso : List Value) (oko : Nat → Prop) (ho : orderS.rep oko w dso o) :
    Calls Try.prog 9 #[.agg cs.toArray, .agg dso.toArray] w fun e w' => e = .returned (.bool true) ∧ Below w.heap.size w w' := by
  have hSW := h
  obtain ⟨ra, rc, sa, sc, rfl, hr, hs⟩ := h
  have hWo := ho
  obtain ⟨oa, oc, fa, fc, rfl, hko, hno, hvo, hro, hfo⟩ := ho
  go_enter Try.func9, Try.ntmps9
  go_wp2_with fail
  have hb0 : Below w.heap.size w ((w.alloc (.cells #[.slice ra s.rules.length rc, .slice sa s.stamps.length sc] 58)).alloc (.cells #[.int .i64 o.kind, .int .i64 o.num, .int .i64 o.ver, .slice oa o.rules.length oc, .slice fa o.flows.length fc] 60)) := by (repeat' (first | with_reducible exact Below.refl _ _ | with_reducible assumption | with_reducible refine Below.drew ?_ | with_reducible refine Below_drewN ?_ _ | with_reducible refine Below.alloc ?_ ?_ _ | with_reducible refine Below.setCell ?_ ?_ _ | omega | (simp; done) | (simp; omega)))
  have hS0 : blockIs ((w.alloc (.cells #[.slice ra s.rules.length rc, .slice sa s.stamps.length sc] 58)).alloc (.cells #[.int .i64 o.kind, .int .i64 o.num, .int .i64 o.ver, .slice oa o.rules.length oc, .slice fa o.flows.length fc] 60)) (w.heap.size) 58 #[.slice ra s.rules.length rc, .slice sa s.stamps.length sc] := (blockIs.new rfl).alloc _
  have hBo0 : blockIs ((w.alloc (.cells #[.slice ra s.rules.length rc, .slice sa s.stamps.length sc] 58)).alloc (.cells #[.int .i64 o.kind, .int .i64 o.num, .int .i64 o.ver, .slice oa o.rules.length oc, .slice fa o.flows.length fc] 60)) (w.heap.size + 1) 60 #[.int .i64 o.kind, .int .i64 o.num, .int .i64 o.ver, .slice oa o.rules.length oc, .slice fa o.flows.length fc] := (blockIs.new (by simp))
  generalize ((w.alloc (.cells #[.slice ra s.rules.length rc, .slice sa s.stamps.length sc] 58)).alloc (.cells #[.int .i64 o.kind, .int .i64 o.num, .int .i64 o.ver, .slice oa o.rules.length oc, .slice fa o.flows.length fc] 60)) = w0 at *
  refine (alive6_c w0).mono ?_
  rintro e w1 ⟨rfl, hb1⟩
  have hB1 : Below w.heap.size w w1 := hb0.trans (hb1.mono hb0.size)
  have hS1 := hS0.under hb1
  have hBo1 := hBo0.under hb1
  clear hb1 hb0 hS0 hBo0
  obtain ⟨hSx1, hSy1⟩ := hS1.cells
  have hSl1 := hS1.lt
  obtain ⟨hBox1, hBoy1⟩ := hBo1.cells
  have hBol1 := hBo1.lt
  have hD := do_c s o _ _ _ _ w1 (switchS.below hSW hB1) (orderS.below hWo hB1)
  generalize hct : doOf s o = ct at *
  have HCt := Lib.hid hct
  have HD := Lib.hid hD
  clear hD hct
  go_wp2_with fail
  refine HD.out.mono ?_
  rintro e w2 ⟨tst, rfl, htt, hb2⟩
  have hB2 : Below w.heap.size w w2 := hB1.trans (hb2.mono hB1.size)
  have hTt := htt
  obtain ⟨rat, rct, sat, sct, rfl, hrt, hst⟩ := htt
  obtain ⟨t, e1⟩ := ct
  dsimp only at *
  have hS2 := hS1.under hb2
  have hBo2 := hBo1.under hb2
  clear HD hSx1 hSy1 hSl1 hBox1 hBoy1 hBol1
  obtain ⟨hSx2, hSy2⟩ := hS2.cells
  have hSl2 := hS2.lt
  obtain ⟨hBox2, hBoy2⟩ := hBo2.cells
  have hBol2 := hBo2.lt
  have hz2 := hB2.size
  have hX3 : Below w2.heap.size w2 (w2.alloc (.cells #[.slice rat t.rules.length rct, .slice sat t.stamps.length sct] 58)) := by (repeat' (first | with_reducible exact Below.refl _ _ | with_reducible assumption | with_reducible refine Below.drew ?_ | with_reducible refine Below_drewN ?_ _ | with_reducible refine Below.alloc ?_ ?_ _ | with_reducible refine Below.setCell ?_ ?_ _ | omega | (simp; done) | (simp; omega)))
  have hT3 : blockIs (w2.alloc (.cells #[.slice rat t.rules.length rct, .slice sat t.stamps.length sct] 58)) w2.heap.size 58 #[.slice rat t.rules.length rct, .slice sat t.stamps.length sct] := blockIs.new rfl
  have hS3 := hS2.alloc (.cells #[.slice rat t.rules.length rct, .slice sat t.stamps.length sct] 58)
  have hBo3 := hBo2.alloc (.cells #[.slice rat t.rules.length rct, .slice sat t.stamps.length sct] 58)
  have hB3 : Below w.heap.size w (w2.alloc (.cells #[.slice rat t.rules.length rct, .slice sat t.stamps.length sct] 58)) := by (repeat' (first | with_reducible exact Below.refl _ _ | with_reducible assumption | with_reducible refine Below.drew ?_ | with_reducible refine Below_drewN ?_ _ | with_reducible refine Below.alloc ?_ ?_ _ | with_reducible refine Below.setCell ?_ ?_ _ | omega | (simp; done) | (simp; omega)))
  have hR3 := switchS.below hTt hX3
  have hz3 : (w2.alloc (.cells #[.slice rat t.rules.length rct, .slice sat t.stamps.length sct] 58)).heap.size = w2.heap.size + 1 := by simp
  by_cases h1 : e1 = 0
  case neg =>
    have h1' : (e1 != 0) = true := by rw [bne_iff_ne]; exact h1
    have ht : t = noSw := by have h2 := do_bad (s := s) (o := o) (by rw [HCt.out]; exact h1); rw [HCt.out] at h2; exact h2
    clear h1
    have hSS := sameSwitch_c t noSw _ [.slice none 0 0, .slice none 0 0] _ (fun _ => True) (w2.alloc (.cells #[.slice rat t.rules.length rct, .slice sat t.stamps.length sct] 58)) hR3 ⟨none, 0, none, 0, rfl, rowRep.nil _ _ _ _, rowRep.nil _ _ _ _⟩
    rw [decide_eq_true ht] at hSS
    have HSS := Lib.hid hSS
    clear hSS ht
    go_wp2_with fail
    refine HSS.out.mono ?_
    rintro e w6 ⟨rfl, hb6⟩
    have hB6 : Below w.heap.size w w6 := hB3.trans (hb6.mono (by omega))
    go_wp2
    go_ret; exact ⟨rfl, hB6⟩
  subst h1
  have hap := do_apart (s := s) (o := o) (by rw [HCt.out])
  rw [HCt.out] at hap
  obtain ⟨hok, hk2, hkn⟩ := hap
  have HK2 := Lib.hid hk2
  have HKN := Lib.hid hkn
  have hA := agentWrong_c t _ _ (w2.alloc (.cells #[.slice rat t.rules.length rct, .slice sat t.stamps.length sct] 58)) hR3
  rw [sw_ok.2 hok] at hA
  have HA := Lib.hid hA
  clear hA hk2 hkn hok
  go_wp2_with fail
  generalize (w2.alloc (.cells #[.slice rat t.rules.length rct, .slice sat t.stamps.length sct] 58)) = w3 at *
  refine HA.out.mono ?_
  rintro e w4 ⟨rfl, hb4⟩
  have hB4 : Below w.heap.size w w4 := hB3.trans (hb4.mono (by omega))
  have hS4 := hS3.under hb4
  have hBo4 := hBo3.under hb4
  have hT4 := hT3.under hb4
  have hz4 := hB4.size
  have hlt4 := hT4.lt
  obtain ⟨s1, s2⟩ := hS4.cells
  obtain ⟨o1, o2⟩ := hBo4.cells
  obtain ⟨t1, t2⟩ := hT4.cells
  have hU4 := switchS.below hR3 hb4
  clear HA hSx2 hSy2 hSl2 hBox2 hBoy2 hBol2
  by_cases k2 : o.kind = 2
  · have b1 : (o.kind == 2) = true := by simpa using k2
    have hRE := HK2.out k2
    have hSR := sameRules_c s.rules t.rules ok _ ra rat rc rct w4 (hr.below hB4) (hrt.below (hX3.trans (hb4.mono (by omega))))
    rw [show (s.rules == t.rules) = true by rw [hRE]; simp] at hSR
    have HSR := Lib.hid hSR
    clear hSR hRE k2 HK2 HKN
    go_wp2_with fail
    refine HSR.out.mono ?_
    rintro e w6 ⟨rfl, hb6⟩
    have hB6 : Below w.heap.size w w6 := hB4.trans (hb6.mono hz4)
    go_wp2
    go_ret; exact ⟨rfl, hB6⟩
  have b1 : (o.kind == 2) = false := by simpa using k2
  have hSE := HKN.out k2
  have hne : w2.heap.size ≠ w.heap.size := by have := hS2.lt; omega
  have hT5 := hT4.set 0 (.slice ra s.rules.length rc)
  have hT5' : blockIs (w4.setCell ⟨w2.heap.size, 0, none⟩ (.slice ra s.rules.length rc)) w2.heap.size 58 #[.slice ra s.rules.length rc, .slice sat t.stamps.length sct] := by simpa using hT5
  have hS5 := hS4.setOther (a := ⟨w2.heap.size, 0, none⟩) (fun e => hne e.symm) (.slice ra s.rules.length rc)
  have hB5 : Below w.heap.size w (w4.setCell ⟨w2.heap.size, 0, none⟩ (.slice ra s.rules.length rc)) := hB4.setCell (p := ⟨w2.heap.size, 0, none⟩) hz2 _
  have hst5 : rowRep stampS (fun b => w1.heap.size ≤ b ∧ b < w2.heap.size) (w4.setCell ⟨w2.heap.size, 0, none⟩ (.slice ra s.rules.length rc)) sat sct t.stamps := hst.mono fun b hb hh => ⟨⟨hh, hb⟩, (Below.heap_setCell _ _ _ b (by show b ≠ w2.heap.size; omega)).trans ((hX3.trans (hb4.mono (by omega))).block b hb)⟩
  have hSS := sameSwitch_c s ⟨s.rules, t.stamps⟩ _ [.slice ra s.rules.length rc, .slice sat t.stamps.length sct] ok (fun _ => True) (w4.setCell ⟨w2.heap.size, 0, none⟩ (.slice ra s.rules.length rc)) (switchS.below hSW hB5) ⟨ra, rc, sat, sct, rfl, (hr.below hB5).mono fun b _ _ => ⟨trivial, rfl⟩, hst5.mono fun b _ _ => ⟨trivial, rfl⟩⟩
  rw [decide_eq_true (show s = ⟨s.rules, t.stamps⟩ by rw [← hSE])] at hSS
  have HSS := Lib.hid hSS
  obtain ⟨v1, v2⟩ := hT5'.cells
  obtain ⟨u1, u2⟩ := hS5.cells
  clear hSS hSE k2 HK2 HKN hT5
  go_wp2_with fail
  refine HSS.out.mono ?_
  rintro e w6 ⟨rfl, hb6⟩
  have hB6 : Below w.heap.size w w6 := hB5.trans (hb6.mono hB5.size)
  go_wp2
  go_ret; exact ⟨rfl, hB6⟩

end Go.Proofs.Ytcfcdembhjnjfaa
