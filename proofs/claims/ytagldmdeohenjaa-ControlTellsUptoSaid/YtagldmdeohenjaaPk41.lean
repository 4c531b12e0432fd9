/-
  Two controls, and two rows of orders to switches, held against each other: the walks of SameControl and SameTo, where both are the same; the law's tos.
-/
import Derived.WalkKit
import Derived.WalkSpells
import Derived.WalkLawsBesides
import Derived.Lib.Hide
import Derived.Deep.LoopGhost
import Derived.Deep.QuietTactic
import Derived.BigQuiet
import Derived.Deep.RegionWith
import Derived.Handy
import Derived.Test.YtagldmdeohenjaaPk26
import Derived.Test.YtagldmdeohenjaaPk17
import Derived.Test.YtagldmdeohenjaaPk40
set_option linter.unusedSimpArgs false
set_option linter.unusedVariables false
namespace Go.St
open Go.RowKit
def ST6 (g o : Nat) (x0 x1 x2 x3 x4 x5 : Value) (w : World) : Prop := w.cell? ⟨g, o, none⟩ = some x0 ∧ w.cell? ⟨g, o + 1, none⟩ = some x1 ∧ w.cell? ⟨g, o + 2, none⟩ = some x2 ∧ w.cell? ⟨g, o + 3, none⟩ = some x3 ∧ w.cell? ⟨g, o + 4, none⟩ = some x4 ∧ w.cell? ⟨g, o + 5, none⟩ = some x5
theorem to_src1 {w : World} {b : Nat} {e : TypeId} {x : To} {ra fb : Option Addr} {rc fd : Nat} {ok : Nat → Prop} (h : blockIs w b e #[.int .i64 x.sw, .int .i64 x.order.kind, .int .i64 x.order.num, .int .i64 x.order.ver, .slice ra x.order.rules.length rc, .slice fb x.order.flows.length fd]) (hs : I64 x.sw)
    (ho : orderS.rep ok w [.int .i64 x.order.kind, .int .i64 x.order.num, .int .i64 x.order.ver, .slice ra x.order.rules.length rc, .slice fb x.order.flows.length fd] x.order) : srcRep toS ok w (some ⟨b, 0, none⟩) [x] := by
  refine .inr ⟨b, 0, rfl, fun i y hy => ?_⟩
  match i, hy with
  | 0, hy =>
    obtain rfl : x = y := by simpa using hy
    refine ⟨_, ⟨_, rfl, hs, ho⟩, fun j c hc => ?_⟩
    simp only [Nat.zero_mul, Nat.zero_add]
    rw [h.cells.1 j]
    simpa using hc
  | i + 1, hy => simp at hy
/-- the cells of two orders to switches -/
def ST7 (g o : Nat) (x0 x1 x2 x3 x4 x5 : Value) (g' o' : Nat) (y0 y1 y2 y3 y4 y5 : Value) (w : World) : Prop := (w.cell? ⟨g, o, none⟩ = some x0 ∧ w.cell? ⟨g, o + 1, none⟩ = some x1 ∧ w.cell? ⟨g, o + 2, none⟩ = some x2 ∧ w.cell? ⟨g, o + 3, none⟩ = some x3 ∧ w.cell? ⟨g, o + 4, none⟩ = some x4 ∧ w.cell? ⟨g, o + 5, none⟩ = some x5) ∧
  (w.cell? ⟨g', o', none⟩ = some y0 ∧ w.cell? ⟨g', o' + 1, none⟩ = some y1 ∧ w.cell? ⟨g', o' + 2, none⟩ = some y2 ∧ w.cell? ⟨g', o' + 3, none⟩ = some y3 ∧ w.cell? ⟨g', o' + 4, none⟩ = some y4 ∧ w.cell? ⟨g', o' + 5, none⟩ = some y5)
theorem ST7.under {g o g' o' : Nat} {x0 x1 x2 x3 x4 x5 y0 y1 y2 y3 y4 y5 : Value} {w w' : World} (h : ST7 g o x0 x1 x2 x3 x4 x5 g' o' y0 y1 y2 y3 y4 y5 w) (h1 : g < w.heap.size) (h2 : g' < w.heap.size) (hb : Below w.heap.size w w') : ST7 g o x0 x1 x2 x3 x4 x5 g' o' y0 y1 y2 y3 y4 y5 w' := by
  obtain ⟨⟨a0, a1, a2, a3, a4, a5⟩, b0, b1, b2, b3, b4, b5⟩ := h
  exact ⟨⟨cell_at hb h1 a0, cell_at hb h1 a1, cell_at hb h1 a2, cell_at hb h1 a3, cell_at hb h1 a4, cell_at hb h1 a5⟩, cell_at hb h2 b0, cell_at hb h2 b1, cell_at hb h2 b2, cell_at hb h2 b3, cell_at hb h2 b4, cell_at hb h2 b5⟩
end Go.St
namespace Go.Proofs.Ytagldmdeohenjaa
open Go.RowKit Go.St

set_option maxRecDepth 100000 in
set_option maxHeartbeats 8000000 in
theorem sameCtl_c (c : Ctl) (cs ds : List Value) (ok ok' : Nat → Prop) (w : World) (hx : ctlS.rep ok w cs c) (hy : ctlS.rep ok' w ds c) :
    Calls Try.prog 11 #[.agg cs.toArray, .agg ds.toArray] w fun e w' => e = .returned (.bool true) ∧ Below w.heap.size w w' := by
  obtain ⟨n0, n1, n2, x0, x1, x2, wa, wc, rfl, hst, hnu, hn, hx, hw⟩ := ctlS.open_ hx
  obtain ⟨m0, m1, m2, y0, y1, y2, va, vc, rfl, _, _, hm, hy, hv⟩ := ctlS.open_ hy
  obtain ⟨cst, cnow, cnext, cnum, cws⟩ := c
  dsimp only at *
  have hb0 : Below w.heap.size w ((w.alloc (.cells #[.int .i64 cst, n0, n1, n2, x0, x1, x2, .int .i64 cnum, .slice wa cws.length wc] 32)).alloc (.cells #[.int .i64 cst, m0, m1, m2, y0, y1, y2, .int .i64 cnum, .slice va cws.length vc] 32)) := by (repeat' (first | with_reducible exact Below.refl _ _ | with_reducible assumption | with_reducible refine Below.drew ?_ | with_reducible refine Below_drewN ?_ _ | with_reducible refine Below.alloc ?_ ?_ _ | with_reducible refine Below.setCell ?_ ?_ _ | omega | (simp; done) | (simp; omega)))
  have hA0 : blockIs ((w.alloc (.cells #[.int .i64 cst, n0, n1, n2, x0, x1, x2, .int .i64 cnum, .slice wa cws.length wc] 32)).alloc (.cells #[.int .i64 cst, m0, m1, m2, y0, y1, y2, .int .i64 cnum, .slice va cws.length vc] 32)) w.heap.size 32 #[.int .i64 cst, n0, n1, n2, x0, x1, x2, .int .i64 cnum, .slice wa cws.length wc] := (blockIs.new rfl).alloc _
  have hB0 : blockIs ((w.alloc (.cells #[.int .i64 cst, n0, n1, n2, x0, x1, x2, .int .i64 cnum, .slice wa cws.length wc] 32)).alloc (.cells #[.int .i64 cst, m0, m1, m2, y0, y1, y2, .int .i64 cnum, .slice va cws.length vc] 32)) (w.heap.size + 1) 32 #[.int .i64 cst, m0, m1, m2, y0, y1, y2, .int .i64 cnum, .slice va cws.length vc] := blockIs.new (by simp)
  obtain ⟨lx0, lx1, lx2⟩ := hx.one
  obtain ⟨ln0, ln1, ln2⟩ := hn.one
  obtain ⟨ly0, ly1, ly2⟩ := hy.one
  obtain ⟨lm0, lm1, lm2⟩ := hm.one
  have hnN := fun (w' : World) (hb : Below w.heap.size w w') => samePlan_c cnow _ _ _ _ w' (planS.below hn hb) (planS.below hm hb)
  have hnX := fun (w' : World) (hb : Below w.heap.size w w') => samePlan_c cnext _ _ _ _ w' (planS.below hx hb) (planS.below hy hb)
  have hnW := fun (w' : World) (hb : Below w.heap.size w w') => ints_c cws cws _ _ wa va wc vc w' (hw.below hb) (hv.below hb)
  rw [show (cws == cws) = true by simp] at hnW
  have HN := Lib.hid hnN
  have HX := Lib.hid hnX
  have HW := Lib.hid hnW
  clear hnN hnX hnW hn hx hm hy hw hv
  go_enter Try.func11, Try.ntmps11
  go_wp2_with fail
  generalize ((w.alloc (.cells #[.int .i64 cst, n0, n1, n2, x0, x1, x2, .int .i64 cnum, .slice wa cws.length wc] 32)).alloc (.cells #[.int .i64 cst, m0, m1, m2, y0, y1, y2, .int .i64 cnum, .slice va cws.length vc] 32)) = w0 at *
  refine (HN.out w0 hb0).mono ?_
  rintro e w1 ⟨rfl, hb1⟩
  have hB1 := hb0.trans (hb1.mono hb0.size)
  have hA1 := hA0.under hb1
  have hC1 := hB0.under hb1
  obtain ⟨a1, a2⟩ := hA1.cells
  obtain ⟨c1, c2⟩ := hC1.cells
  clear hA0 hB0 hb0 hb1 HN
  go_wp2_with fail
  refine (HX.out w1 hB1).mono ?_
  rintro e w2 ⟨rfl, hb2⟩
  have hB2 := hB1.trans (hb2.mono hB1.size)
  have hA2 := hA1.under hb2
  have hC2 := hC1.under hb2
  clear a1 a2 c1 c2 hA1 hC1 hB1 hb2 HX
  obtain ⟨a1, a2⟩ := hA2.cells
  obtain ⟨c1, c2⟩ := hC2.cells
  go_wp2_with fail
  refine (HW.out w2 hB2).mono ?_
  rintro e w3 ⟨rfl, hb3⟩
  have hB3 := hB2.trans (hb3.mono hB2.size)
  go_wp2
  go_ret; exact ⟨rfl, hB3⟩

set_option maxRecDepth 100000 in
set_option maxHeartbeats 8000000 in
theorem sameTo_c (l : List To) (aa ba : Option Addr) (ac bc : Nat) (ok ok' : Nat → Prop) (w : World) (hx : rowRep toS ok w aa ac l) (hy : rowRep toS ok' w ba bc l) :
    Calls Try.prog 12 #[.slice aa l.length ac, .slice ba l.length bc] w fun e w' => e = .returned (.bool true) ∧ Below w.heap.size w w' := by
  have hlx := hx.len_le
  go_enter Try.func12, Try.ntmps12
  go_wp2
  go_loopw [5, 13] (fun _ idx wr => ∃ j : Nat, idx = .int .i64 j ∧ j ≤ l.length ∧ Below w.heap.size w wr) (fun _ idx _ => l.length - (intOf idx).toNat)
  case atStart => exact ⟨0, rfl, Nat.zero_le _, Below.refl _ _⟩
  case round =>
    obtain ⟨j, rfl, hj, hb⟩ := hrel
    rename World => wo
    by_cases hlt : j < l.length
    case neg =>
      have b1 : ¬ (j : Int) < (l.length : Int) := by omega
      go_wp2
      go_ret; exact ⟨rfl, hb⟩
    have b1 : (j : Int) < (l.length : Int) := by omega
    have b0 : (0 : Int) ≤ (j : Int) := by omega
    obtain ⟨x, hxj⟩ : ∃ x, l[j]? = some x := ⟨_, List.getElem?_eq_getElem hlt⟩
    obtain ⟨ga, oa, ra, rc, fb, fd, rfl, hgl, hsw, hor, hce⟩ := toRow_get hx hxj
    obtain ⟨gb, ob, ra', rc', fb', fd', rfl, hgl', _, hor', hce'⟩ := toRow_get hy hxj
    obtain ⟨e0, e1, e2, e3, e4, e5⟩ := hce wo hb
    obtain ⟨i0, i1, i2, i3, i4, i5⟩ := hce' wo hb
    have hQ := fun (w' : World) (hb : Below w.heap.size w w') => sameOrder_c x.order x.order _ _ _ _ w' (orderS.below hor hb) (orderS.below hor' hb)
    rw [show decide (x.order = x.order) = true by simp] at hQ
    have HQ := Lib.hid hQ
    obtain ⟨xs, ⟨xk, xn, xv, xr, xf⟩⟩ := x
    dsimp only at *
    clear hce hce' hxj hQ hor hor'
    have hS4 : ST7 ga (oa + j * 6) (.int .i64 xs) (.int .i64 xk) (.int .i64 xn) (.int .i64 xv) (.slice ra xr.length rc) (.slice fb xf.length fd) gb (ob + j * 6) (.int .i64 xs) (.int .i64 xk) (.int .i64 xn) (.int .i64 xv) (.slice ra' xr.length rc') (.slice fb' xf.length fd') wo := ⟨⟨e0, e1, e2, e3, e4, e5⟩, ⟨i0, i1, i2, i3, i4, i5⟩⟩
    have hS0 : ST7 ga (oa + j * 6) (.int .i64 xs) (.int .i64 xk) (.int .i64 xn) (.int .i64 xv) (.slice ra xr.length rc) (.slice fb xf.length fd) gb (ob + j * 6) (.int .i64 xs) (.int .i64 xk) (.int .i64 xn) (.int .i64 xv) (.slice ra' xr.length rc') (.slice fb' xf.length fd') wo.drew := hS4
    have hsz := hb.size
    clear e0 e1 e2 e3 e4 e5 i0 i1 i2 i3 i4 i5
    go_wp2
    refine wp_region_to (ST7 ga (oa + j * 6) (.int .i64 xs) (.int .i64 xk) (.int .i64 xn) (.int .i64 xv) (.slice ra xr.length rc) (.slice fb xf.length fd) gb (ob + j * 6) (.int .i64 xs) (.int .i64 xk) (.int .i64 xn) (.int .i64 xv) (.slice ra' xr.length rc') (.slice fb' xf.length fd')) 99 (fun a0 a' w' => ∃ v16 v17 v18 v19 v20 v21 v22 v23 v24 v25 v26 v27 v28 v29 v30 v31 v32 v33 v34 v35 v36 v37 v38 v39, a' = puts a0 [(16, v16), (17, v17), (18, v18), (19, v19), (20, v20), (21, v21), (22, v22), (23, v23), (24, v24), (25, v25), (26, v26), (27, v27), (28, v28), (29, v29), (30, v30), (31, v31), (32, v32), (33, v33), (34, v34), (35, v35), (36, v36), (37, v37), (38, v38), (39, v39), (40, .bool false)] ∧ Below wo.heap.size wo w') (by kernel_rfl) ?_ ?_
    · intro Q' hR hQp
      have hb0 : Below wo.heap.size wo wo.drew := by (repeat' (first | with_reducible exact Below.refl _ _ | with_reducible assumption | with_reducible refine Below.drew ?_ | with_reducible refine Below_drewN ?_ _ | with_reducible refine Below.alloc ?_ ?_ _ | with_reducible refine Below.setCell ?_ ?_ _ | omega | (simp; done) | (simp; omega)))
      have hS : ST7 ga (oa + j * 6) (.int .i64 xs) (.int .i64 xk) (.int .i64 xn) (.int .i64 xv) (.slice ra xr.length rc) (.slice fb xf.length fd) gb (ob + j * 6) (.int .i64 xs) (.int .i64 xk) (.int .i64 xn) (.int .i64 xv) (.slice ra' xr.length rc') (.slice fb' xf.length fd') wo.drew := hS0
      generalize wo.drew = wa at *
      refine wpAnyK_take' (i := 0) _ rfl (by kernel_rfl) (fun _ _ _ h => hQp _ _ _ _ h) hS (yields_value (by kernel_rfl) (by intro w0 hw0; have hw1 := hw0; simp only [ST7] at hw1; first | (go_simp; done) | (go_simp; rfl))) ?_; simp only [Act.put, List.getElem_toArray, List.getElem_cons_succ, List.getElem_cons_zero, List.setIfInBounds_toArray, List.set_cons_succ, List.set_cons_zero]
      refine wpAnyK_take' (i := 1) _ rfl (by kernel_rfl) (fun _ _ _ h => hQp _ _ _ _ h) hS (yields_value (by kernel_rfl) (by intro w0 hw0; have hw1 := hw0; simp only [ST7] at hw1; first | (go_simp; done) | (go_simp; rfl))) ?_; simp only [Act.put, List.getElem_toArray, List.getElem_cons_succ, List.getElem_cons_zero, List.setIfInBounds_toArray, List.set_cons_succ, List.set_cons_zero]
      refine wpAnyK_take' (i := 5) _ rfl (by kernel_rfl) (fun _ _ _ h => hQp _ _ _ _ h) hS (yields_value (by kernel_rfl) (by intro w0 hw0; have hw1 := hw0; simp only [ST7] at hw1; first | (go_simp; done) | (go_simp; rfl))) ?_; simp only [Act.put, List.getElem_toArray, List.getElem_cons_succ, List.getElem_cons_zero, List.setIfInBounds_toArray, List.set_cons_succ, List.set_cons_zero]
      refine wpAnyK_take' (i := 6) _ rfl (by kernel_rfl) (fun _ _ _ h => hQp _ _ _ _ h) hS (yields_value (by kernel_rfl) (by intro w0 hw0; have hw1 := hw0; simp only [ST7] at hw1; first | (go_simp; done) | (go_simp; rfl))) ?_; simp only [Act.put, List.getElem_toArray, List.getElem_cons_succ, List.getElem_cons_zero, List.setIfInBounds_toArray, List.set_cons_succ, List.set_cons_zero]
      refine wpAnyK_take' (i := 2) _ rfl (by kernel_rfl) (fun _ _ _ h => hQp _ _ _ _ h) hS (yields_value (by kernel_rfl) (by intro w0 hw0; have hw1 := hw0; simp only [ST7] at hw1; first | (go_simp; done) | (go_simp; rfl))) ?_; simp only [Act.put, List.getElem_toArray, List.getElem_cons_succ, List.getElem_cons_zero, List.setIfInBounds_toArray, List.set_cons_succ, List.set_cons_zero]
      refine wpAnyK_take' (i := 7) _ rfl (by kernel_rfl) (fun _ _ _ h => hQp _ _ _ _ h) hS (yields_value (by kernel_rfl) (by intro w0 hw0; have hw1 := hw0; simp only [ST7] at hw1; first | (go_simp; done) | (go_simp; rfl))) ?_; simp only [Act.put, List.getElem_toArray, List.getElem_cons_succ, List.getElem_cons_zero, List.setIfInBounds_toArray, List.set_cons_succ, List.set_cons_zero]
      refine wpAnyK_take' (i := 3) _ rfl (by kernel_rfl) (fun _ _ _ h => hQp _ _ _ _ h) hS (yields_value (by kernel_rfl) (by intro w0 hw0; have hw1 := hw0; simp only [ST7] at hw1; first | (go_simp; done) | (go_simp; rfl))) ?_; simp only [Act.put, List.getElem_toArray, List.getElem_cons_succ, List.getElem_cons_zero, List.setIfInBounds_toArray, List.set_cons_succ, List.set_cons_zero]
      refine wpAnyK_take' (i := 8) _ rfl (by kernel_rfl) (fun _ _ _ h => hQp _ _ _ _ h) hS (yields_value (by kernel_rfl) (by intro w0 hw0; have hw1 := hw0; simp only [ST7] at hw1; first | (go_simp; done) | (go_simp; rfl))) ?_; simp only [Act.put, List.getElem_toArray, List.getElem_cons_succ, List.getElem_cons_zero, List.setIfInBounds_toArray, List.set_cons_succ, List.set_cons_zero]
      refine wpAnyK_take' (i := 4) _ rfl (by kernel_rfl) (fun _ _ _ h => hQp _ _ _ _ h) hS (yields_value (by kernel_rfl) (by intro w0 hw0; have hw1 := hw0; simp only [ST7] at hw1; first | (go_simp; done) | (go_simp; rfl))) ?_; simp only [Act.put, List.getElem_toArray, List.getElem_cons_succ, List.getElem_cons_zero, List.setIfInBounds_toArray, List.set_cons_succ, List.set_cons_zero]
      refine wpAnyK_take' (i := 9) _ rfl (by kernel_rfl) (fun _ _ _ h => hQp _ _ _ _ h) hS (yields_value (by kernel_rfl) (by intro w0 hw0; have hw1 := hw0; simp only [ST7] at hw1; first | (go_simp; done) | (go_simp; rfl))) ?_; simp only [Act.put, List.getElem_toArray, List.getElem_cons_succ, List.getElem_cons_zero, List.setIfInBounds_toArray, List.set_cons_succ, List.set_cons_zero]
      refine wpAnyK_take' (i := 10) _ rfl (by kernel_rfl) (fun _ _ _ h => hQp _ _ _ _ h) hS (yields_value (by kernel_rfl) (by intro w0 hw0; have hw1 := hw0; simp only [ST7] at hw1; first | (go_simp; done) | (go_simp; rfl))) ?_; simp only [Act.put, List.getElem_toArray, List.getElem_cons_succ, List.getElem_cons_zero, List.setIfInBounds_toArray, List.set_cons_succ, List.set_cons_zero]
      refine wpAnyK_take' (i := 11) _ rfl (by kernel_rfl) (fun _ _ _ h => hQp _ _ _ _ h) hS (yields_value (by kernel_rfl) (by intro w0 hw0; have hw1 := hw0; simp only [ST7] at hw1; first | (go_simp; done) | (go_simp; rfl))) ?_; simp only [Act.put, List.getElem_toArray, List.getElem_cons_succ, List.getElem_cons_zero, List.setIfInBounds_toArray, List.set_cons_succ, List.set_cons_zero]
      refine wpAnyK_take' (i := 12) _ rfl (by kernel_rfl) (fun _ _ _ h => hQp _ _ _ _ h) hS (yields_value (by kernel_rfl) (by intro w0 hw0; have hw1 := hw0; simp only [ST7] at hw1; first | (go_simp; done) | (go_simp; rfl))) ?_; simp only [Act.put, List.getElem_toArray, List.getElem_cons_succ, List.getElem_cons_zero, List.setIfInBounds_toArray, List.set_cons_succ, List.set_cons_zero]
      refine wpAnyK_take' (i := 13) _ rfl (by kernel_rfl) (fun _ _ _ h => hQp _ _ _ _ h) hS (yields_value (by kernel_rfl) (by intro w0 hw0; have hw1 := hw0; simp only [ST7] at hw1; first | (go_simp; done) | (go_simp; rfl))) ?_; simp only [Act.put, List.getElem_toArray, List.getElem_cons_succ, List.getElem_cons_zero, List.setIfInBounds_toArray, List.set_cons_succ, List.set_cons_zero]
      refine wpAnyK_take' (i := 17) _ rfl (by kernel_rfl) (fun _ _ _ h => hQp _ _ _ _ h) hS (yields_value (by kernel_rfl) (by intro w0 hw0; have hw1 := hw0; simp only [ST7] at hw1; first | (go_simp; done) | (go_simp; rfl))) ?_; simp only [Act.put, List.getElem_toArray, List.getElem_cons_succ, List.getElem_cons_zero, List.setIfInBounds_toArray, List.set_cons_succ, List.set_cons_zero]
      refine wpAnyK_take' (i := 18) _ rfl (by kernel_rfl) (fun _ _ _ h => hQp _ _ _ _ h) hS (yields_value (by kernel_rfl) (by intro w0 hw0; have hw1 := hw0; simp only [ST7] at hw1; first | (go_simp; done) | (go_simp; rfl))) ?_; simp only [Act.put, List.getElem_toArray, List.getElem_cons_succ, List.getElem_cons_zero, List.setIfInBounds_toArray, List.set_cons_succ, List.set_cons_zero]
      refine wpAnyK_take' (i := 14) _ rfl (by kernel_rfl) (fun _ _ _ h => hQp _ _ _ _ h) hS (yields_value (by kernel_rfl) (by intro w0 hw0; have hw1 := hw0; simp only [ST7] at hw1; first | (go_simp; done) | (go_simp; rfl))) ?_; simp only [Act.put, List.getElem_toArray, List.getElem_cons_succ, List.getElem_cons_zero, List.setIfInBounds_toArray, List.set_cons_succ, List.set_cons_zero]
      refine wpAnyK_take' (i := 19) _ rfl (by kernel_rfl) (fun _ _ _ h => hQp _ _ _ _ h) hS (yields_value (by kernel_rfl) (by intro w0 hw0; have hw1 := hw0; simp only [ST7] at hw1; first | (go_simp; done) | (go_simp; rfl))) ?_; simp only [Act.put, List.getElem_toArray, List.getElem_cons_succ, List.getElem_cons_zero, List.setIfInBounds_toArray, List.set_cons_succ, List.set_cons_zero]
      refine wpAnyK_take' (i := 15) _ rfl (by kernel_rfl) (fun _ _ _ h => hQp _ _ _ _ h) hS (yields_value (by kernel_rfl) (by intro w0 hw0; have hw1 := hw0; simp only [ST7] at hw1; first | (go_simp; done) | (go_simp; rfl))) ?_; simp only [Act.put, List.getElem_toArray, List.getElem_cons_succ, List.getElem_cons_zero, List.setIfInBounds_toArray, List.set_cons_succ, List.set_cons_zero]
      refine wpAnyK_take' (i := 20) _ rfl (by kernel_rfl) (fun _ _ _ h => hQp _ _ _ _ h) hS (yields_value (by kernel_rfl) (by intro w0 hw0; have hw1 := hw0; simp only [ST7] at hw1; first | (go_simp; done) | (go_simp; rfl))) ?_; simp only [Act.put, List.getElem_toArray, List.getElem_cons_succ, List.getElem_cons_zero, List.setIfInBounds_toArray, List.set_cons_succ, List.set_cons_zero]
      refine wpAnyK_take' (i := 16) _ rfl (by kernel_rfl) (fun _ _ _ h => hQp _ _ _ _ h) hS (yields_value (by kernel_rfl) (by intro w0 hw0; have hw1 := hw0; simp only [ST7] at hw1; first | (go_simp; done) | (go_simp; rfl))) ?_; simp only [Act.put, List.getElem_toArray, List.getElem_cons_succ, List.getElem_cons_zero, List.setIfInBounds_toArray, List.set_cons_succ, List.set_cons_zero]
      refine wpAnyK_take' (i := 21) _ rfl (by kernel_rfl) (fun _ _ _ h => hQp _ _ _ _ h) hS (yields_value (by kernel_rfl) (by intro w0 hw0; have hw1 := hw0; simp only [ST7] at hw1; first | (go_simp; done) | (go_simp; rfl))) ?_; simp only [Act.put, List.getElem_toArray, List.getElem_cons_succ, List.getElem_cons_zero, List.setIfInBounds_toArray, List.set_cons_succ, List.set_cons_zero]
      clear hS
      refine wpAnyK_call (i := 22) rfl (by kernel_rfl) (by kernel_rfl) fun K22 hK22 => ?_
      go_simp
      go_wp2_with fail
      have hbw := hb.trans (hb0.mono hsz)
      refine (HQ.out wa hbw).mono ?_
      rintro e wb ⟨rfl, hb1⟩
      have hb2 := hb0.trans (hb1.mono hb0.size)
      go_wp2_with fail
      have hS : _ := ST7.under hS4 (by omega) (by omega) hb2
      refine hK22 _ _ (fun _ => hS) ?_
      clear hK22
      refine wpAnyK_take' (i := 23) _ rfl (by kernel_rfl) (fun _ _ _ h => hQp _ _ _ _ h) hS (yields_value (by kernel_rfl) (by intro w0 hw0; have hw1 := hw0; simp only [ST7] at hw1; first | (go_simp; done) | (go_simp; rfl))) ?_; simp only [Act.put, List.getElem_toArray, List.getElem_cons_succ, List.getElem_cons_zero, List.setIfInBounds_toArray, List.set_cons_succ, List.set_cons_zero]
      refine wpAnyK_take' (i := 24) _ rfl (by kernel_rfl) (fun _ _ _ h => hQp _ _ _ _ h) hS (yields_value (by kernel_rfl) (by intro w0 hw0; have hw1 := hw0; simp only [ST7] at hw1; first | (go_simp; done) | (go_simp; rfl))) ?_; simp only [Act.put, List.getElem_toArray, List.getElem_cons_succ, List.getElem_cons_zero, List.setIfInBounds_toArray, List.set_cons_succ, List.set_cons_zero]
      refine wpAnyK_done (by kernel_rfl) ?_ _
      refine hR _ _ ?_
      iterate 24 apply Exists.intro
      refine ⟨?_, hb2⟩
      simp only [puts, Act.put, List.setIfInBounds_toArray, List.set_cons_succ, List.set_cons_zero]
      rfl
    rintro a' w8 ⟨v16, v17, v18, v19, v20, v21, v22, v23, v24, v25, v26, v27, v28, v29, v30, v31, v32, v33, v34, v35, v36, v37, v38, v39, rfl, hb8⟩
    simp only [puts, Act.put, List.setIfInBounds_toArray, List.set_cons_succ, List.set_cons_zero]
    have hb9 := hb.trans (hb8.mono hsz)
    clear hS0 hS4 HQ hb8
    go_wp2
    case roundEnd =>
      go_roundw
      case rel => exact ⟨j + 1, by go_num, by omega, hb9⟩
      case measure => simp [intOf] <;> omega

theorem rto_info : (Try.prog.info? 85).map (fun i => (i.zero, i.size, i.bytes)) = some (some (.agg #[.int .i64 0, .int .i64 0, .int .i64 0, .int .i64 0, .slice none 0 0, .slice none 0 0]), 6, 80) := by kernel_rfl

set_option maxRecDepth 100000 in
set_option maxHeartbeats 8000000 in
theorem tos_c (l : List To) (aa : Option Addr) (ac : Nat) (ok : Nat → Prop) (w : World) (hx : rowRep toS ok w aa ac l) (hl : l.length ≤ 1000) :
    Calls Try.prog 13 #[.slice aa l.length ac] w fun e w' => ∃ (oa : Option Addr) (oc : Nat), e = .returned (.slice oa l.length oc) ∧ rowRep toS (fun b => ok b ∨ w.heap.size ≤ b) w' oa oc l ∧ Below w.heap.size w w' := by
  obtain ⟨j0, gi, gz0, gz1, gz2⟩ := info_parts rto_info
  go_enter Try.func13, Try.ntmps13
  go_wp2
  go_loopw [3, 5, 8] (fun ov _ idx wr => ∃ (j : Nat) (oa : Option Addr) (oc : Nat), ov = .slice oa j oc ∧ idx = .int .i64 j ∧ j ≤ l.length ∧ ownR toS 85 (fun b => ok b ∧ b < w.heap.size) w.heap.size wr oa j oc (l.take j) ∧ Below w.heap.size w wr) (fun _ _ idx _ => l.length - (intOf idx).toNat)
  case atStart => exact ⟨0, none, 0, rfl, rfl, Nat.zero_le _, ownR.nil _ _ _ _ _ (fun b h => h.2), Below.refl _ _⟩
  case round =>
    obtain ⟨j, oa, oc, rfl, rfl, hj, hO, hb⟩ := hrel
    rename World => wo
    have hsz := hb.size
    by_cases hlt : j < l.length
    case neg =>
      obtain rfl : j = l.length := by omega
      have b1 : ¬ ((l.length : Nat) : Int) < (l.length : Int) := by omega
      rw [List.take_of_length_le (Nat.le_refl _)] at hO
      have hR := hO.row (ok' := fun b => ok b ∨ w.heap.size ≤ b) (fun b hb => .inl hb.1) (fun k hk => .inr (hO.lt k hk).1)
      go_wp2
      go_ret; exact ⟨oa, oc, rfl, hR, hb⟩
    have b1 : (j : Int) < (l.length : Int) := by omega
    have b0 : (0 : Int) ≤ (j : Int) := by omega
    obtain ⟨x, hxj⟩ : ∃ x, l[j]? = some x := ⟨_, List.getElem?_eq_getElem hlt⟩
    have htk : l.take (j + 1) = l.take j ++ [x] := by rw [List.take_add_one, hxj]; rfl
    have HTK := Lib.hid htk
    obtain ⟨ga, go, ra, rc, fb, fd, rfl, hgl, hsw, hor, hce⟩ := toRow_get hx hxj
    obtain ⟨e0, e1, e2, e3, e4, e5⟩ := hce wo hb
    obtain ⟨xs, ⟨xk, xn, xv, xr, xf⟩⟩ := x
    dsimp only at *
    have hb1 : Below w.heap.size w (wo.alloc (.cells #[.int .i64 xs, .int .i64 xk, .int .i64 xn, .int .i64 xv, .slice ra xr.length rc, .slice fb xf.length fd] 41)) := hb.alloc hsz _
    have hb2 : Below w.heap.size w ((wo.alloc (.cells #[.int .i64 xs, .int .i64 xk, .int .i64 xn, .int .i64 xv, .slice ra xr.length rc, .slice fb xf.length fd] 41)).alloc (.cells #[.int .i64 xs, .int .i64 xk, .int .i64 xn, .int .i64 xv, .slice ra xr.length rc, .slice fb xf.length fd] 85)) := hb1.alloc hb1.size _
    have hbo : Below wo.heap.size wo ((wo.alloc (.cells #[.int .i64 xs, .int .i64 xk, .int .i64 xn, .int .i64 xv, .slice ra xr.length rc, .slice fb xf.length fd] 41)).alloc (.cells #[.int .i64 xs, .int .i64 xk, .int .i64 xn, .int .i64 xv, .slice ra xr.length rc, .slice fb xf.length fd] 85)) := by (repeat' (first | with_reducible exact Below.refl _ _ | with_reducible assumption | with_reducible refine Below.drew ?_ | with_reducible refine Below_drewN ?_ _ | with_reducible refine Below.alloc ?_ ?_ _ | with_reducible refine Below.setCell ?_ ?_ _ | omega | (simp; done) | (simp; omega)))
    have hO2 := hO.below hbo
    have hN : blockIs ((wo.alloc (.cells #[.int .i64 xs, .int .i64 xk, .int .i64 xn, .int .i64 xv, .slice ra xr.length rc, .slice fb xf.length fd] 41)).alloc (.cells #[.int .i64 xs, .int .i64 xk, .int .i64 xn, .int .i64 xv, .slice ra xr.length rc, .slice fb xf.length fd] 85)) (wo.heap.size + 1) 85 #[.int .i64 xs, .int .i64 xk, .int .i64 xn, .int .i64 xv, .slice ra xr.length rc, .slice fb xf.length fd] := blockIs.new (by simp)
    have hsrc : srcRep toS (fun b => ok b ∧ b < w.heap.size) _ (some ⟨wo.heap.size + 1, 0, none⟩) [(⟨xs, ⟨xk, xn, xv, xr, xf⟩⟩ : To)] := to_src1 hN hsw (orderS.mono hor (fun b hl h => ⟨⟨h, hl⟩, hb2.block b hl⟩))
    clear hce hxj htk hor hO hbo hN
    go_wp2_with (at_builtin; go_must (refine wpList_appR (sh := toS) (base := w.heap.size) (n := j) (m := 1) rfl _ _ 44 rfl 85 j0 (.agg #[.int .i64 0, .int .i64 0, .int .i64 0, .int .i64 0, .slice none 0 0, .slice none 0 0]) 80 Try.underlying44 gi gz0 gz1 gz2 rfl (by decide) rfl hO2 rfl rfl hsrc (by simp only [maxLen]; omega) (by omega) hb2.size ?_); go_must (intro oa9 oc9 w9 hown9 hg9 hd9; have hb10 := hb2.trans (grown_below (B := w.heap.size) hg9 (fun k hk => (hO2.lt k hk).1) hb2.size)))
    case roundEnd =>
      go_roundw
      case rel => exact ⟨j + 1, oa9, oc9, rfl, by go_num, by omega, by rw [HTK.out]; exact hown9, hb10⟩
      case measure => simp [intOf] <;> omega

end Go.Proofs.Ytagldmdeohenjaa
