/-
  The walks of laws of switches.
-/
import Derived.Test.YtcfcdembhjnjfaaSameSw
import Derived.WalkKit
import Derived.WalkSpells
import Derived.WalkLawsBesides
import Derived.Lib.Hide
import Derived.Deep.LoopGhost
import Derived.Deep.QuietTactic
import Derived.BigQuiet
import Derived.Deep.RegionWith
import Derived.Handy
set_option linter.unusedSimpArgs false
set_option linter.unusedVariables false
namespace Go.Proofs.Ytcfcdembhjnjfaa
open Go.RowKit Go.St

set_option maxRecDepth 100000 in
set_option maxHeartbeats 8000000 in
theorem agentOrder_c (w : World) (s : Switch) (cs : List Value) (ok : Nat → Prop) (h : switchS.rep ok w cs s) (a : Order) (dsa : List Value) (oka : Nat → Prop) (ha : orderS.rep oka w dsa a) (b : Order) (dsb : List Value) (okb : Nat → Prop) (hb : orderS.rep okb w dsb b) :
    Calls Try.prog 12 #[.agg cs.toArray, .agg dsa.toArray, .agg dsb.toArray] w fun e w' => e = .returned (.bool true) ∧ Below w.heap.size w w' := by
  have hSW := h
  obtain ⟨ra, rc, sa, sc, rfl, hr, hs⟩ := h
  have hWa := ha
  obtain ⟨oa, oc, fa, fc, rfl, hka, hna, hva, hra, hfa⟩ := ha
  have hWb := hb
  obtain ⟨oa', oc', fa', fc', rfl, hkb, hnb, hvb, hrb, hfb⟩ := hb
  go_enter Try.func12, Try.ntmps12
  go_wp2_with fail
  have hb0 : Below w.heap.size w (((w.alloc (.cells #[.slice ra s.rules.length rc, .slice sa s.stamps.length sc] 58)).alloc (.cells #[.int .i64 a.kind, .int .i64 a.num, .int .i64 a.ver, .slice oa a.rules.length oc, .slice fa a.flows.length fc] 60)).alloc (.cells #[.int .i64 b.kind, .int .i64 b.num, .int .i64 b.ver, .slice oa' b.rules.length oc', .slice fa' b.flows.length fc'] 60)) := by (repeat' (first | with_reducible exact Below.refl _ _ | with_reducible assumption | with_reducible refine Below.drew ?_ | with_reducible refine Below_drewN ?_ _ | with_reducible refine Below.alloc ?_ ?_ _ | with_reducible refine Below.setCell ?_ ?_ _ | omega | (simp; done) | (simp; omega)))
  have hS0 : blockIs (((w.alloc (.cells #[.slice ra s.rules.length rc, .slice sa s.stamps.length sc] 58)).alloc (.cells #[.int .i64 a.kind, .int .i64 a.num, .int .i64 a.ver, .slice oa a.rules.length oc, .slice fa a.flows.length fc] 60)).alloc (.cells #[.int .i64 b.kind, .int .i64 b.num, .int .i64 b.ver, .slice oa' b.rules.length oc', .slice fa' b.flows.length fc'] 60)) (w.heap.size) 58 #[.slice ra s.rules.length rc, .slice sa s.stamps.length sc] := (((blockIs.new rfl).alloc _).alloc _)
  have hBa0 : blockIs (((w.alloc (.cells #[.slice ra s.rules.length rc, .slice sa s.stamps.length sc] 58)).alloc (.cells #[.int .i64 a.kind, .int .i64 a.num, .int .i64 a.ver, .slice oa a.rules.length oc, .slice fa a.flows.length fc] 60)).alloc (.cells #[.int .i64 b.kind, .int .i64 b.num, .int .i64 b.ver, .slice oa' b.rules.length oc', .slice fa' b.flows.length fc'] 60)) (w.heap.size + 1) 60 #[.int .i64 a.kind, .int .i64 a.num, .int .i64 a.ver, .slice oa a.rules.length oc, .slice fa a.flows.length fc] := ((blockIs.new (by simp)).alloc _)
  have hBb0 : blockIs (((w.alloc (.cells #[.slice ra s.rules.length rc, .slice sa s.stamps.length sc] 58)).alloc (.cells #[.int .i64 a.kind, .int .i64 a.num, .int .i64 a.ver, .slice oa a.rules.length oc, .slice fa a.flows.length fc] 60)).alloc (.cells #[.int .i64 b.kind, .int .i64 b.num, .int .i64 b.ver, .slice oa' b.rules.length oc', .slice fa' b.flows.length fc'] 60)) (w.heap.size + 2) 60 #[.int .i64 b.kind, .int .i64 b.num, .int .i64 b.ver, .slice oa' b.rules.length oc', .slice fa' b.flows.length fc'] := (blockIs.new (by simp))
  generalize (((w.alloc (.cells #[.slice ra s.rules.length rc, .slice sa s.stamps.length sc] 58)).alloc (.cells #[.int .i64 a.kind, .int .i64 a.num, .int .i64 a.ver, .slice oa a.rules.length oc, .slice fa a.flows.length fc] 60)).alloc (.cells #[.int .i64 b.kind, .int .i64 b.num, .int .i64 b.ver, .slice oa' b.rules.length oc', .slice fa' b.flows.length fc'] 60)) = w0 at *
  refine (alive6_c w0).mono ?_
  rintro e w1 ⟨rfl, hb1⟩
  have hB1 : Below w.heap.size w w1 := hb0.trans (hb1.mono hb0.size)
  have hS1 := hS0.under hb1
  have hBa1 := hBa0.under hb1
  have hBb1 := hBb0.under hb1
  clear hb1 hb0 hS0 hBa0 hBb0
  obtain ⟨hSx1, hSy1⟩ := hS1.cells
  have hSl1 := hS1.lt
  obtain ⟨hBax1, hBay1⟩ := hBa1.cells
  have hBal1 := hBa1.lt
  obtain ⟨hBbx1, hBby1⟩ := hBb1.cells
  have hBbl1 := hBb1.lt
  by_cases k1 : a.kind = 2
  · have bk1 : (a.kind == 2) = true := by rw [beq_iff_eq]; exact k1
    have k1h := Lib.hid k1
    clear k1
    go_wp2
    go_ret; exact ⟨rfl, by (repeat' (first | with_reducible exact Below.refl _ _ | with_reducible assumption | with_reducible refine Below.drew ?_ | with_reducible refine Below_drewN ?_ _ | with_reducible refine Below.alloc ?_ ?_ _ | with_reducible refine Below.setCell ?_ ?_ _ | omega | (simp; done) | (simp; omega)))⟩
  have bk1 : (a.kind == 2) = false := by rw [beq_eq_false_iff_ne]; exact k1
  by_cases k2 : b.kind = 2
  · have bk2 : (b.kind == 2) = true := by rw [beq_iff_eq]; exact k2
    have k2h := Lib.hid k2
    clear k2
    go_wp2
    go_ret; exact ⟨rfl, by (repeat' (first | with_reducible exact Below.refl _ _ | with_reducible assumption | with_reducible refine Below.drew ?_ | with_reducible refine Below_drewN ?_ _ | with_reducible refine Below.alloc ?_ ?_ _ | with_reducible refine Below.setCell ?_ ?_ _ | omega | (simp; done) | (simp; omega)))⟩
  have bk2 : (b.kind == 2) = false := by rw [beq_eq_false_iff_ne]; exact k2
  by_cases k3 : a.ver = b.ver
  · have bk3 : (a.ver == b.ver) = true := by rw [beq_iff_eq]; exact k3
    have k3h := Lib.hid k3
    clear k3
    go_wp2
    go_ret; exact ⟨rfl, by (repeat' (first | with_reducible exact Below.refl _ _ | with_reducible assumption | with_reducible refine Below.drew ?_ | with_reducible refine Below_drewN ?_ _ | with_reducible refine Below.alloc ?_ ?_ _ | with_reducible refine Below.setCell ?_ ?_ _ | omega | (simp; done) | (simp; omega)))⟩
  have bk3 : (a.ver == b.ver) = false := by rw [beq_eq_false_iff_ne]; exact k3
  have K1 : Hid (a.kind ≠ 2) := k1
  have K2 : Hid (b.kind ≠ 2) := k2
  have K3 : Hid (a.ver ≠ b.ver) := k3
  clear k1 k2 k3
  have hD := do_c s a _ _ _ _ w1 (switchS.below hSW hB1) (orderS.below hWa hB1)
  generalize hcx : doOf s a = cx at *
  have HCx := Lib.hid hcx
  have HD := Lib.hid hD
  clear hD hcx
  go_wp2_with fail
  refine HD.out.mono ?_
  rintro e w2 ⟨tsx, rfl, htx, hb2⟩
  have hB2 : Below w.heap.size w w2 := hB1.trans (hb2.mono hB1.size)
  have hTx := htx
  obtain ⟨rax, rcx, sax, scx, rfl, hrx, hsx⟩ := htx
  obtain ⟨x, e1⟩ := cx
  dsimp only at *
  have hS2 := hS1.under hb2
  have hBa2 := hBa1.under hb2
  have hBb2 := hBb1.under hb2
  clear HD hSx1 hSy1 hSl1 hBax1 hBay1 hBal1 hBbx1 hBby1 hBbl1
  obtain ⟨hSx2, hSy2⟩ := hS2.cells
  have hSl2 := hS2.lt
  obtain ⟨hBax2, hBay2⟩ := hBa2.cells
  have hBal2 := hBa2.lt
  obtain ⟨hBbx2, hBby2⟩ := hBb2.cells
  have hBbl2 := hBb2.lt
  have hz2 := hB2.size
  have hX3 : Below w2.heap.size w2 (w2.alloc (.cells #[.slice rax x.rules.length rcx, .slice sax x.stamps.length scx] 58)) := by (repeat' (first | with_reducible exact Below.refl _ _ | with_reducible assumption | with_reducible refine Below.drew ?_ | with_reducible refine Below_drewN ?_ _ | with_reducible refine Below.alloc ?_ ?_ _ | with_reducible refine Below.setCell ?_ ?_ _ | omega | (simp; done) | (simp; omega)))
  have hXb3 : blockIs (w2.alloc (.cells #[.slice rax x.rules.length rcx, .slice sax x.stamps.length scx] 58)) w2.heap.size 58 #[.slice rax x.rules.length rcx, .slice sax x.stamps.length scx] := blockIs.new rfl
  have hS3 := hS2.alloc (.cells #[.slice rax x.rules.length rcx, .slice sax x.stamps.length scx] 58)
  have hBa3 := hBa2.alloc (.cells #[.slice rax x.rules.length rcx, .slice sax x.stamps.length scx] 58)
  have hBb3 := hBb2.alloc (.cells #[.slice rax x.rules.length rcx, .slice sax x.stamps.length scx] 58)
  have hB3 : Below w.heap.size w (w2.alloc (.cells #[.slice rax x.rules.length rcx, .slice sax x.stamps.length scx] 58)) := by (repeat' (first | with_reducible exact Below.refl _ _ | with_reducible assumption | with_reducible refine Below.drew ?_ | with_reducible refine Below_drewN ?_ _ | with_reducible refine Below.alloc ?_ ?_ _ | with_reducible refine Below.setCell ?_ ?_ _ | omega | (simp; done) | (simp; omega)))
  have hRx3 := switchS.below hTx hX3
  have hz3 : (w2.alloc (.cells #[.slice rax x.rules.length rcx, .slice sax x.stamps.length scx] 58)).heap.size = w2.heap.size + 1 := by simp
  have hDo := do_c s b _ _ _ _ (w2.alloc (.cells #[.slice rax x.rules.length rcx, .slice sax x.stamps.length scx] 58)) (switchS.below hSW hB3) (orderS.below hWb hB3)
  generalize hcy : doOf s b = cy at *
  have HCy := Lib.hid hcy
  have HDo := Lib.hid hDo
  clear hcy hDo
  go_wp2_with fail
  generalize (w2.alloc (.cells #[.slice rax x.rules.length rcx, .slice sax x.stamps.length scx] 58)) = w3 at *
  refine HDo.out.mono ?_
  rintro e w4 ⟨tsy, rfl, hty, hb4⟩
  have hB4 : Below w.heap.size w w4 := hB3.trans (hb4.mono hB3.size)
  have hTy := hty
  obtain ⟨ray, rcy, say, scy, rfl, hry, hsy⟩ := hty
  obtain ⟨y, e2⟩ := cy
  dsimp only at *
  have hS4 := hS3.under hb4
  have hBa4 := hBa3.under hb4
  have hBb4 := hBb3.under hb4
  have hXb4 := hXb3.under hb4
  have hRx4 := switchS.below hRx3 hb4
  have hz4 := hB4.size
  have hz34 := hb4.size
  clear HDo hSx2 hSy2 hSl2 hBax2 hBay2 hBal2 hBbx2 hBby2 hBbl2
  obtain ⟨hSx4, hSy4⟩ := hS4.cells
  have hSl4 := hS4.lt
  obtain ⟨hBax4, hBay4⟩ := hBa4.cells
  have hBal4 := hBa4.lt
  obtain ⟨hBbx4, hBby4⟩ := hBb4.cells
  have hBbl4 := hBb4.lt
  obtain ⟨hXbx4, hXby4⟩ := hXb4.cells
  have hXbl4 := hXb4.lt
  by_cases h1 : e1 = 0
  case neg =>
    have h1' : (e1 != 0) = true := by rw [bne_iff_ne]; exact h1
    clear h1
    go_wp2
    go_ret; exact ⟨rfl, by (repeat' (first | with_reducible exact Below.refl _ _ | with_reducible assumption | with_reducible refine Below.drew ?_ | with_reducible refine Below_drewN ?_ _ | with_reducible refine Below.alloc ?_ ?_ _ | with_reducible refine Below.setCell ?_ ?_ _ | omega | (simp; done) | (simp; omega)))⟩
  by_cases h2 : e2 = 0
  case neg =>
    have h2' : (e2 != 0) = true := by rw [bne_iff_ne]; exact h2
    subst h1
    clear h2
    go_wp2
    go_ret; exact ⟨rfl, by (repeat' (first | with_reducible exact Below.refl _ _ | with_reducible assumption | with_reducible refine Below.drew ?_ | with_reducible refine Below_drewN ?_ _ | with_reducible refine Below.alloc ?_ ?_ _ | with_reducible refine Below.setCell ?_ ?_ _ | omega | (simp; done) | (simp; omega)))⟩
  subst h1
  subst h2
  have hX5 : Below w4.heap.size w4 (w4.alloc (.cells #[.slice ray y.rules.length rcy, .slice say y.stamps.length scy] 58)) := by (repeat' (first | with_reducible exact Below.refl _ _ | with_reducible assumption | with_reducible refine Below.drew ?_ | with_reducible refine Below_drewN ?_ _ | with_reducible refine Below.alloc ?_ ?_ _ | with_reducible refine Below.setCell ?_ ?_ _ | omega | (simp; done) | (simp; omega)))
  have hYb5 : blockIs (w4.alloc (.cells #[.slice ray y.rules.length rcy, .slice say y.stamps.length scy] 58)) w4.heap.size 58 #[.slice ray y.rules.length rcy, .slice say y.stamps.length scy] := blockIs.new rfl
  have hXb5 := hXb4.alloc (.cells #[.slice ray y.rules.length rcy, .slice say y.stamps.length scy] 58)
  have hBa5 := hBa4.alloc (.cells #[.slice ray y.rules.length rcy, .slice say y.stamps.length scy] 58)
  have hBb5 := hBb4.alloc (.cells #[.slice ray y.rules.length rcy, .slice say y.stamps.length scy] 58)
  have hB5 : Below w.heap.size w (w4.alloc (.cells #[.slice ray y.rules.length rcy, .slice say y.stamps.length scy] 58)) := by (repeat' (first | with_reducible exact Below.refl _ _ | with_reducible assumption | with_reducible refine Below.drew ?_ | with_reducible refine Below_drewN ?_ _ | with_reducible refine Below.alloc ?_ ?_ _ | with_reducible refine Below.setCell ?_ ?_ _ | omega | (simp; done) | (simp; omega)))
  have hz5 : (w4.alloc (.cells #[.slice ray y.rules.length rcy, .slice say y.stamps.length scy] 58)).heap.size = w4.heap.size + 1 := by simp
  have hDo := do_c x b _ _ _ _ (w4.alloc (.cells #[.slice ray y.rules.length rcy, .slice say y.stamps.length scy] 58)) (switchS.below hRx4 hX5) (orderS.below hWb hB5)
  have hRy5 : switchS.rep (fun b => w3.heap.size ≤ b ∧ b < w4.heap.size) (w4.alloc (.cells #[.slice ray y.rules.length rcy, .slice say y.stamps.length scy] 58)) [.slice ray y.rules.length rcy, .slice say y.stamps.length scy] y := switchS.mono hTy fun b hb hh => ⟨⟨hh, hb⟩, hX5.block b hb⟩
  generalize hcu : doOf x b = cu at *
  have HCu := Lib.hid hcu
  have HDo := Lib.hid hDo
  clear hcu hDo
  go_wp2_with fail
  generalize (w4.alloc (.cells #[.slice ray y.rules.length rcy, .slice say y.stamps.length scy] 58)) = w5 at *
  refine HDo.out.mono ?_
  rintro e w6 ⟨tsu, rfl, htu, hb6⟩
  have hB6 : Below w.heap.size w w6 := hB5.trans (hb6.mono hB5.size)
  have hTu := htu
  obtain ⟨rau, rcu, sau, scu, rfl, hru, hsu⟩ := htu
  obtain ⟨u, e3⟩ := cu
  dsimp only at *
  have hBa6 := hBa5.under hb6
  have hXb6 := hXb5.under hb6
  have hYb6 := hYb5.under hb6
  have hRy6 : switchS.rep (fun b => w3.heap.size ≤ b ∧ b < w4.heap.size) w6 [.slice ray y.rules.length rcy, .slice say y.stamps.length scy] y := switchS.mono hRy5 fun b hb hh => ⟨hh, hb6.block b hb⟩
  have hz6 := hB6.size
  have hz56 := hb6.size
  have hneX : w2.heap.size ≠ w.heap.size + 1 := by have := hBa2.lt; omega
  have hneY : w4.heap.size ≠ w2.heap.size := by omega
  have hXl6 := hXb6.lt
  clear HDo hSx4 hSy4 hSl4 hBax4 hBay4 hBal4 hBbx4 hBby4 hBbl4 hXbx4 hXby4 hXbl4
  obtain ⟨xx6, xy6⟩ := hXb6.cells
  have hXb7a := (hXb6.set 0 (.slice rau u.rules.length rcu)).set 1 (.slice sau u.stamps.length scu)
  have hXb7 : blockIs ((w6.setCell ⟨w2.heap.size, 0, none⟩ (.slice rau u.rules.length rcu)).setCell ⟨w2.heap.size, 1, none⟩ (.slice sau u.stamps.length scu)) w2.heap.size 58 #[.slice rau u.rules.length rcu, .slice sau u.stamps.length scu] := by simpa using hXb7a
  have hYb7 := (hYb6.setOther (a := ⟨w2.heap.size, 0, none⟩) hneY (.slice rau u.rules.length rcu)).setOther (a := ⟨w2.heap.size, 1, none⟩) hneY (.slice sau u.stamps.length scu)
  have hBa7 := (hBa6.setOther (a := ⟨w2.heap.size, 0, none⟩) hneX.symm (.slice rau u.rules.length rcu)).setOther (a := ⟨w2.heap.size, 1, none⟩) hneX.symm (.slice sau u.stamps.length scu)
  have hB7 : Below w.heap.size w ((w6.setCell ⟨w2.heap.size, 0, none⟩ (.slice rau u.rules.length rcu)).setCell ⟨w2.heap.size, 1, none⟩ (.slice sau u.stamps.length scu)) := (hB6.setCell (p := ⟨w2.heap.size, 0, none⟩) hz2 _).setCell (p := ⟨w2.heap.size, 1, none⟩) hz2 _
  have hk7 : ∀ b, b ≠ w2.heap.size → ((w6.setCell ⟨w2.heap.size, 0, none⟩ (.slice rau u.rules.length rcu)).setCell ⟨w2.heap.size, 1, none⟩ (.slice sau u.stamps.length scu)).heap[b]? = w6.heap[b]? := fun b hb => (Below.heap_setCell _ _ _ b hb).trans (Below.heap_setCell _ _ _ b hb)
  have hRy7 : switchS.rep (fun _ => True) ((w6.setCell ⟨w2.heap.size, 0, none⟩ (.slice rau u.rules.length rcu)).setCell ⟨w2.heap.size, 1, none⟩ (.slice sau u.stamps.length scu)) [.slice ray y.rules.length rcy, .slice say y.stamps.length scy] y := switchS.mono hRy6 fun b hb hh => ⟨trivial, hk7 b (by omega)⟩
  have hRu7 : switchS.rep (fun b => w5.heap.size ≤ b ∧ b < w6.heap.size) ((w6.setCell ⟨w2.heap.size, 0, none⟩ (.slice rau u.rules.length rcu)).setCell ⟨w2.heap.size, 1, none⟩ (.slice sau u.stamps.length scu)) [.slice rau u.rules.length rcu, .slice sau u.stamps.length scu] u := switchS.mono hTu fun b hb hh => ⟨⟨hh, hb⟩, hk7 b (by omega)⟩
  have hz7 : ((w6.setCell ⟨w2.heap.size, 0, none⟩ (.slice rau u.rules.length rcu)).setCell ⟨w2.heap.size, 1, none⟩ (.slice sau u.stamps.length scu)).heap.size = w6.heap.size := by simp
  have hDo := do_c y a _ _ _ _ ((w6.setCell ⟨w2.heap.size, 0, none⟩ (.slice rau u.rules.length rcu)).setCell ⟨w2.heap.size, 1, none⟩ (.slice sau u.stamps.length scu)) hRy7 (orderS.below hWa hB7)
  generalize hcz : doOf y a = cz at *
  have HCz := Lib.hid hcz
  have HDo := Lib.hid hDo
  obtain ⟨yx7, yy7⟩ := hYb7.cells
  obtain ⟨ax7, ay7⟩ := hBa7.cells
  have hYl7 := hYb7.lt
  have hAl7 := hBa7.lt
  clear hcz hDo hXb7a hk7
  go_wp2_with fail
  generalize ((w6.setCell ⟨w2.heap.size, 0, none⟩ (.slice rau u.rules.length rcu)).setCell ⟨w2.heap.size, 1, none⟩ (.slice sau u.stamps.length scu)) = w7 at *
  refine HDo.out.mono ?_
  rintro e w8 ⟨tsz, rfl, htz, hb8⟩
  have hB8 : Below w.heap.size w w8 := hB7.trans (hb8.mono hB7.size)
  have hTz := htz
  obtain ⟨raz, rcz, saz, scz, rfl, hrz, hsz⟩ := htz
  obtain ⟨z, e4⟩ := cz
  dsimp only at *
  have hXb8 := hXb7.under hb8
  have hYb8 := hYb7.under hb8
  have hz78 := hb8.size
  have hRu8 : switchS.rep (fun b => w5.heap.size ≤ b ∧ b < w6.heap.size) w8 [.slice rau u.rules.length rcu, .slice sau u.stamps.length scu] u := switchS.mono hRu7 fun b hb hh => ⟨hh, hb8.block b hb⟩
  clear HDo ax7 ay7 yx7 yy7 hYl7 xx6 xy6 hXl6
  obtain ⟨yx8, yy8⟩ := hYb8.cells
  have hYl8 := hYb8.lt
  have hYb9a := (hYb8.set 0 (.slice raz z.rules.length rcz)).set 1 (.slice saz z.stamps.length scz)
  have hYb9 : blockIs ((w8.setCell ⟨w4.heap.size, 0, none⟩ (.slice raz z.rules.length rcz)).setCell ⟨w4.heap.size, 1, none⟩ (.slice saz z.stamps.length scz)) w4.heap.size 58 #[.slice raz z.rules.length rcz, .slice saz z.stamps.length scz] := by simpa using hYb9a
  have hXb9 := (hXb8.setOther (a := ⟨w4.heap.size, 0, none⟩) hneY.symm (.slice raz z.rules.length rcz)).setOther (a := ⟨w4.heap.size, 1, none⟩) hneY.symm (.slice saz z.stamps.length scz)
  have hB9 : Below w.heap.size w ((w8.setCell ⟨w4.heap.size, 0, none⟩ (.slice raz z.rules.length rcz)).setCell ⟨w4.heap.size, 1, none⟩ (.slice saz z.stamps.length scz)) := (hB8.setCell (p := ⟨w4.heap.size, 0, none⟩) hz4 _).setCell (p := ⟨w4.heap.size, 1, none⟩) hz4 _
  have hk9 : ∀ b, b ≠ w4.heap.size → ((w8.setCell ⟨w4.heap.size, 0, none⟩ (.slice raz z.rules.length rcz)).setCell ⟨w4.heap.size, 1, none⟩ (.slice saz z.stamps.length scz)).heap[b]? = w8.heap[b]? := fun b hb => (Below.heap_setCell _ _ _ b hb).trans (Below.heap_setCell _ _ _ b hb)
  have hRu9 : switchS.rep (fun _ => True) ((w8.setCell ⟨w4.heap.size, 0, none⟩ (.slice raz z.rules.length rcz)).setCell ⟨w4.heap.size, 1, none⟩ (.slice saz z.stamps.length scz)) [.slice rau u.rules.length rcu, .slice sau u.stamps.length scu] u := switchS.mono hRu8 fun b hb hh => ⟨trivial, hk9 b (by omega)⟩
  have hRz9 : switchS.rep (fun _ => True) ((w8.setCell ⟨w4.heap.size, 0, none⟩ (.slice raz z.rules.length rcz)).setCell ⟨w4.heap.size, 1, none⟩ (.slice saz z.stamps.length scz)) [.slice raz z.rules.length rcz, .slice saz z.stamps.length scz] z := switchS.mono hTz fun b hb hh => ⟨trivial, hk9 b (by omega)⟩
  have hSS := sameSwitch_c u z _ _ _ _ ((w8.setCell ⟨w4.heap.size, 0, none⟩ (.slice raz z.rules.length rcz)).setCell ⟨w4.heap.size, 1, none⟩ (.slice saz z.stamps.length scz)) hRu9 hRz9
  have HSS := Lib.hid hSS
  have HUZ : Hid (e3 = 0 → e4 = 0 → u = z) := fun h3 h4 => by
    have h := do_order (s := s) (a := a) (b := b) K1.out K2.out K3.out (by rw [HCx.out]) (by rw [HCy.out]) (by rw [HCx.out]; show (doOf x b).2 = 0; rw [HCu.out]; exact h3) (by rw [HCy.out]; show (doOf y a).2 = 0; rw [HCz.out]; exact h4)
    rw [HCx.out, HCy.out] at h
    have h5 : (doOf x b).1 = (doOf y a).1 := h
    rw [HCu.out, HCz.out] at h5; exact h5
  obtain ⟨yx9, yy9⟩ := hYb9.cells
  obtain ⟨xx9, xy9⟩ := hXb9.cells
  have hYl9 := hYb9.lt
  have hXl9 := hXb9.lt
  clear hSS hYb9a hk9
  by_cases h3 : e3 = 0
  case neg =>
    have h3' : (e3 != 0) = true := by rw [bne_iff_ne]; exact h3
    clear h3 HSS HUZ
    go_wp2
    go_ret; exact ⟨rfl, hB9⟩
  by_cases h4 : e4 = 0
  case neg =>
    have h4' : (e4 != 0) = true := by rw [bne_iff_ne]; exact h4
    subst h3
    clear h4 HSS HUZ
    go_wp2
    go_ret; exact ⟨rfl, hB9⟩
  have hSS := HSS.out
  rw [decide_eq_true (HUZ.out h3 h4)] at hSS
  subst h3
  subst h4
  have HS2 := Lib.hid hSS
  clear HSS HUZ hSS
  go_wp2_with fail
  refine HS2.out.mono ?_
  rintro e wA ⟨rfl, hbA⟩
  have hBA : Below w.heap.size w wA := hB9.trans (hbA.mono hB9.size)
  go_wp2
  go_ret; exact ⟨rfl, hBA⟩

end Go.Proofs.Ytcfcdembhjnjfaa
