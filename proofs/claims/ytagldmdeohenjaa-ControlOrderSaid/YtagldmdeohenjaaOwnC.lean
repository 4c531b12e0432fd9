/-
  The walk of control.own: a control is copied.
-/
import Derived.Test.YtagldmdeohenjaaCtlR
import Derived.Test.YtagldmdeohenjaaCopyW
import Derived.WalkKit
import Derived.WalkSpells
import Derived.WalkLawsBesides
import Derived.Lib.Hide
import Derived.Deep.LoopGhost
import Derived.Deep.QuietTactic
import Derived.BigQuiet
import Derived.Deep.RegionWith
import Derived.Handy
set_option linter.unusedSimpArgs false
set_option linter.unusedVariables false
namespace Go.St
open Go.RowKit
/-- three cells of a box -/
def S3 (b o : Nat) (x0 x1 x2 : Value) (w : World) : Prop := w.cell? ⟨b, o, none⟩ = some x0 ∧ w.cell? ⟨b, o + 1, none⟩ = some x1 ∧ w.cell? ⟨b, o + 2, none⟩ = some x2
theorem S3.under {b o N : Nat} {x0 x1 x2 : Value} {w w' : World} (h : S3 b o x0 x1 x2 w) (h1 : b < N) (hb : Below N w w') : S3 b o x0 x1 x2 w' := ⟨cell_at hb h1 h.1, cell_at hb h1 h.2.1, cell_at hb h1 h.2.2⟩
theorem S3.of {w : World} {b : Nat} {t : TypeId} {a0 a1 a2 a3 a4 a5 a6 a7 a8 : Value} (h : blockIs w b t #[a0, a1, a2, a3, a4, a5, a6, a7, a8]) : S3 b 4 a4 a5 a6 w := ⟨h.cells.1 4, h.cells.1 5, h.cells.1 6⟩
end Go.St
namespace Go.Proofs.Ytagldmdeohenjaa
open Go.RowKit Go.St

set_option maxRecDepth 100000 in
set_option maxHeartbeats 16000000 in
theorem own_c (c : Ctl) (cs : List Value) (ok : Nat → Prop) (w : World) (h : ctlS.rep ok w cs c) (h1 : PlanSmall c.now) (h2 : PlanSmall c.next) (h3 : c.waits.length ≤ 10000000000) :
    Calls Try.prog 23 #[.agg cs.toArray] w fun e w' => ∃ (n0 n1 n2 x0 x1 x2 : Value) (wa : Option Addr) (wc M : Nat), e = .returned (.agg #[.int .i64 c.stage, n0, n1, n2, x0, x1, x2, .int .i64 c.num, .slice wa c.waits.length wc]) ∧ w.heap.size ≤ M ∧ (∀ k, blk wa = some k → k < M) ∧
      planC w' (fun b => M ≤ b) n0 n1 n2 c.now ∧ planC w' (fun b => M ≤ b) x0 x1 x2 c.next ∧ ownR intS 3 (fun _ => False) w.heap.size w' wa c.waits.length wc c.waits ∧ Below w.heap.size w w' := by
  obtain ⟨n0, n1, n2, x0, x1, x2, pa, pc, rfl, hst, hnu, hn, hx, hw⟩ := ctlS.open_ h
  obtain ⟨st, now, next, num, waits⟩ := c
  dsimp only at *
  obtain ⟨ln0, ln1, ln2⟩ := hn.one
  obtain ⟨lx0, lx1, lx2⟩ := hx.one
  have hwx := hw.len_le
  go_enter Try.func23, Try.ntmps23
  go_wp2_with fail
  have hB0 : Below w.heap.size w ((w.alloc (.cells #[.int .i64 st, n0, n1, n2, x0, x1, x2, .int .i64 num, .slice pa waits.length pc] 32)).alloc (.cells #[.int .i64 0, .int .i64 0, .slice none 0 0, .slice none 0 0, .int .i64 0, .slice none 0 0, .slice none 0 0, .int .i64 0, .slice none 0 0] 32)) := by (repeat' (first | with_reducible exact Below.refl _ _ | with_reducible assumption | with_reducible refine Below.drew ?_ | with_reducible refine Below_drewN ?_ _ | with_reducible refine Below.alloc ?_ ?_ _ | with_reducible refine Below.setCell ?_ ?_ _ | omega | (simp; done) | (simp; omega)))
  have hC0 : blockIs ((w.alloc (.cells #[.int .i64 st, n0, n1, n2, x0, x1, x2, .int .i64 num, .slice pa waits.length pc] 32)).alloc (.cells #[.int .i64 0, .int .i64 0, .slice none 0 0, .slice none 0 0, .int .i64 0, .slice none 0 0, .slice none 0 0, .int .i64 0, .slice none 0 0] 32)) w.heap.size 32 #[.int .i64 st, n0, n1, n2, x0, x1, x2, .int .i64 num, .slice pa waits.length pc] := (blockIs.new rfl).alloc _
  have hZ0 : blockIs ((w.alloc (.cells #[.int .i64 st, n0, n1, n2, x0, x1, x2, .int .i64 num, .slice pa waits.length pc] 32)).alloc (.cells #[.int .i64 0, .int .i64 0, .slice none 0 0, .slice none 0 0, .int .i64 0, .slice none 0 0, .slice none 0 0, .int .i64 0, .slice none 0 0] 32)) (w.heap.size + 1) 32 #[.int .i64 0, .int .i64 0, .slice none 0 0, .slice none 0 0, .int .i64 0, .slice none 0 0, .slice none 0 0, .int .i64 0, .slice none 0 0] := blockIs.new (by simp)
  have hz0 : ((w.alloc (.cells #[.int .i64 st, n0, n1, n2, x0, x1, x2, .int .i64 num, .slice pa waits.length pc] 32)).alloc (.cells #[.int .i64 0, .int .i64 0, .slice none 0 0, .slice none 0 0, .int .i64 0, .slice none 0 0, .slice none 0 0, .int .i64 0, .slice none 0 0] 32)).heap.size = w.heap.size + 2 := by simp
  generalize (w.alloc (.cells #[.int .i64 st, n0, n1, n2, x0, x1, x2, .int .i64 num, .slice pa waits.length pc] 32)).alloc (.cells #[.int .i64 0, .int .i64 0, .slice none 0 0, .slice none 0 0, .int .i64 0, .slice none 0 0, .slice none 0 0, .int .i64 0, .slice none 0 0] 32) = w0 at *
  refine (cloneI_o waits _ pa pc w0 (hw.below hB0) h3).mono ?_
  rintro e w1 ⟨va, vc, rfl, hv, hb1⟩
  rw [hz0] at hv
  have hB1 : Below w.heap.size w w1 := hB0.trans (hb1.mono hB0.size)
  have hC1 := hC0.under hb1
  have hZ1 := hZ0.under hb1
  have hzl := hZ1.lt
  obtain ⟨c1, c2⟩ := hC1.cells
  clear hb1 hC0 hZ0 hB0
  have hC2 := hC1.set 8 (.slice va waits.length vc)
  have hZ2 := hZ1.setOther (a := ⟨w.heap.size, 8, none⟩) (by first | (simp; done) | (simp; omega)) (.slice va waits.length vc)
  have hB2 : Below w.heap.size w (w1.setCell ⟨w.heap.size, 8, none⟩ (.slice va waits.length vc)) := by (repeat' (first | with_reducible exact Below.refl _ _ | with_reducible assumption | with_reducible refine Below.drew ?_ | with_reducible refine Below_drewN ?_ _ | with_reducible refine Below.alloc ?_ ?_ _ | with_reducible refine Below.setCell ?_ ?_ _ | omega | (simp; done) | (simp; omega)))
  have hv2 := hv.setCell (a := ⟨w.heap.size, 8, none⟩) (by show w.heap.size < w.heap.size + 2; omega) (.slice va waits.length vc)
  simp only [List.setIfInBounds_toArray, List.set_cons_succ, List.set_cons_zero] at hC2
  have hvl : ∀ k, blk va = some k → k < w1.heap.size := fun k hk => (hv.lt k hk).2
  have hs12 : (w1.setCell ⟨w.heap.size, 8, none⟩ (.slice va waits.length vc)).heap.size = w1.heap.size := by simp
  go_wp2
  clear c1 c2 hC1 hZ1 hv
  generalize w1.setCell ⟨w.heap.size, 8, none⟩ (.slice va waits.length vc) = w2 at *
  generalize hM : w1.heap.size = M at *
  clear hB1
  have hS0 : S3 w.heap.size 4 x0 x1 x2 w2.drew := ⟨hC2.cells.1 4, hC2.cells.1 5, hC2.cells.1 6⟩
  refine wp_region_to (S3 w.heap.size 4 x0 x1 x2) 9 (fun a0 a' w' => ∃ v7 v8 v9 v10 v11 v12 v13 v14, a' = puts a0 [(7, v7), (8, v8), (9, v9), (10, v10), (11, v11), (12, v12), (13, v13), (14, v14)] ∧ ∃ m0 m1 m2 y0 y1 y2, blockIs w' w.heap.size 32 #[.int .i64 st, m0, m1, m2, y0, y1, y2, .int .i64 num, .slice va waits.length vc] ∧ blockIs w' (w.heap.size + 1) 32 #[.int .i64 0, .int .i64 0, .slice none 0 0, .slice none 0 0, .int .i64 0, .slice none 0 0, .slice none 0 0, .int .i64 0, .slice none 0 0] ∧ planC w' (fun b => M ≤ b) m0 m1 m2 now ∧ planC w' (fun b => M ≤ b) y0 y1 y2 next ∧ ownR intS 3 (fun _ => False) (w.heap.size + 2) w' va waits.length vc waits ∧ Below w.heap.size w w') (by kernel_rfl) ?_ ?_
  · intro Q' hR hQp
    have hb0 : Below w2.heap.size w2 w2.drew := by (repeat' (first | with_reducible exact Below.refl _ _ | with_reducible assumption | with_reducible refine Below.drew ?_ | with_reducible refine Below_drewN ?_ _ | with_reducible refine Below.alloc ?_ ?_ _ | with_reducible refine Below.setCell ?_ ?_ _ | omega | (simp; done) | (simp; omega)))
    have hS : S3 w.heap.size 4 x0 x1 x2 w2.drew := hS0
    generalize w2.drew = wa at *
    have hCa := hC2.under hb0
    have hZa := hZ2.under hb0
    have hva := hv2.below hb0
    have hBa := hB2.trans (hb0.mono hB2.size)
    have hMa : M ≤ wa.heap.size := by have := hb0.size; omega
    obtain ⟨c1, c2⟩ := hCa.cells
    refine wpAnyK_take (i := 0) _ rfl (by kernel_rfl) (fun _ _ _ h => hQp _ _ _ _ h) hS (yields_value (by kernel_rfl) (by intro w0 hw0; have hw1 := hw0; simp only [S3] at hw1; first | (go_simp; done) | (go_simp; rfl))) ?_; simp only [Act.put, List.getElem_toArray, List.getElem_cons_succ, List.getElem_cons_zero, List.setIfInBounds_toArray, List.set_cons_succ, List.set_cons_zero]
    refine wpAnyK_take (i := 3) _ rfl (by kernel_rfl) (fun _ _ _ h => hQp _ _ _ _ h) hS (yields_value (by kernel_rfl) (by intro w0 hw0; have hw1 := hw0; simp only [S3] at hw1; first | (go_simp; done) | (go_simp; rfl))) ?_; simp only [Act.put, List.getElem_toArray, List.getElem_cons_succ, List.getElem_cons_zero, List.setIfInBounds_toArray, List.set_cons_succ, List.set_cons_zero]
    refine wpAnyK_take (i := 4) _ rfl (by kernel_rfl) (fun _ _ _ h => hQp _ _ _ _ h) hS (yields_value (by kernel_rfl) (by intro w0 hw0; have hw1 := hw0; simp only [S3] at hw1; first | (go_simp; done) | (go_simp; rfl))) ?_; simp only [Act.put, List.getElem_toArray, List.getElem_cons_succ, List.getElem_cons_zero, List.setIfInBounds_toArray, List.set_cons_succ, List.set_cons_zero]
    clear hS
    refine wpAnyK_call (i := 1) rfl (by kernel_rfl) (by kernel_rfl) fun K1 hK1 => ?_
    go_simp
    go_wp2_with fail
    have hS : _ := S3.of hCa
    refine hK1 _ _ (fun _ => hS) ?_
    clear hK1
    clear hS
    refine wpAnyK_call (i := 2) rfl (by kernel_rfl) (by kernel_rfl) fun K2 hK2 => ?_
    go_simp
    go_wp2_with fail
    refine (planCopy_c now [n0, n1, n2] ok wa (planS.below hn hBa) h1).mono ?_
    rintro e wb ⟨ps, rfl, hp, hab⟩
    obtain ⟨m0, m1, m2, rfl, hp1⟩ := planC.of hp
    obtain ⟨lm0, lm1, lm2⟩ := planC.st (P := Try.prog) hp1
    have hBb := hBa.trans (hab.mono hBa.size)
    have hCb := hCa.under hab
    have hZb := hZa.under hab
    have hvb := hva.below hab
    go_wp2_with fail
    have hS : _ := S3.of hCb
    refine hK2 _ _ (fun _ => hS) ?_
    clear hK2
    refine wpAnyK_take (i := 6) _ rfl (by kernel_rfl) (fun _ _ _ h => hQp _ _ _ _ h) hS (yields_value (by kernel_rfl) (by intro w0 hw0; have hw1 := hw0; simp only [S3] at hw1; first | (go_simp; done) | (go_simp; rfl))) ?_; simp only [Act.put, List.getElem_toArray, List.getElem_cons_succ, List.getElem_cons_zero, List.setIfInBounds_toArray, List.set_cons_succ, List.set_cons_zero]
    clear hS
    refine wpAnyK_call (i := 5) rfl (by kernel_rfl) (by kernel_rfl) fun K5 hK5 => ?_
    go_simp
    go_wp2_with fail
    refine (planCopy_c next [x0, x1, x2] ok wb (planS.below hx hBb) h2).mono ?_
    rintro e wc ⟨qs, rfl, hq, hbc⟩
    obtain ⟨y0, y1, y2, rfl, hq1⟩ := planC.of hq
    obtain ⟨ly0, ly1, ly2⟩ := planC.st (P := Try.prog) hq1
    have hBc := hBb.trans (hbc.mono hBb.size)
    have hCc := hCb.under hbc
    have hZc := hZb.under hbc
    have hvc := hvb.below hbc
    have hpc : planC wc (fun b => wa.heap.size ≤ b) m0 m1 m2 now := planS.below hp1 hbc
    have hz1 := hab.size
    have hqc : planC wc (fun b => wa.heap.size ≤ b) y0 y1 y2 next := planS.anyOk hq1 fun b _ (hb : wb.heap.size ≤ b) => by omega
    go_wp2_with fail
    have hS : _ := S3.of hCc
    refine hK5 _ _ (fun _ => hS) ?_
    clear hK5
    clear c1 c2
    obtain ⟨c1, c2⟩ := hCc.cells
    have hcl := hZc.lt
    clear hS
    refine wpAnyK_call (i := 7) rfl (by kernel_rfl) (by kernel_rfl) fun K7 hK7 => ?_
    go_simp
    go_wp2_with fail
    have hCd := ((hCc.set 1 m0).set 2 m1).set 3 m2
    simp only [List.setIfInBounds_toArray, List.set_cons_succ, List.set_cons_zero] at hCd
    clear c1 c2
    obtain ⟨c1, c2⟩ := hCd.cells
    have hS : _ := S3.of hCd
    refine hK7 _ _ (fun _ => hS) ?_
    clear hK7
    refine wpAnyK_take (i := 8) _ rfl (by kernel_rfl) (fun _ _ _ h => hQp _ _ _ _ h) hS (yields_value (by kernel_rfl) (by intro w0 hw0; have hw1 := hw0; simp only [S3] at hw1; first | (go_simp; done) | (go_simp; rfl))) ?_; simp only [Act.put, List.getElem_toArray, List.getElem_cons_succ, List.getElem_cons_zero, List.setIfInBounds_toArray, List.set_cons_succ, List.set_cons_zero]
    have hZd := ((hZc.setOther (a := ⟨w.heap.size, 1, none⟩) (by first | (simp; done) | (simp; omega)) m0).setOther (a := ⟨w.heap.size, 2, none⟩) (by first | (simp; done) | (simp; omega)) m1).setOther (a := ⟨w.heap.size, 3, none⟩) (by first | (simp; done) | (simp; omega)) m2
    have hCe := ((hCd.set 4 y0).set 5 y1).set 6 y2
    have hZe := ((hZd.setOther (a := ⟨w.heap.size, 4, none⟩) (by first | (simp; done) | (simp; omega)) y0).setOther (a := ⟨w.heap.size, 5, none⟩) (by first | (simp; done) | (simp; omega)) y1).setOther (a := ⟨w.heap.size, 6, none⟩) (by first | (simp; done) | (simp; omega)) y2
    simp only [List.setIfInBounds_toArray, List.set_cons_succ, List.set_cons_zero] at hCe
    have hve := (((((hvc.setCell (a := ⟨w.heap.size, 1, none⟩) (by show w.heap.size < w.heap.size + 2; omega) m0).setCell (a := ⟨w.heap.size, 2, none⟩) (by show w.heap.size < w.heap.size + 2; omega) m1).setCell (a := ⟨w.heap.size, 3, none⟩) (by show w.heap.size < w.heap.size + 2; omega) m2).setCell (a := ⟨w.heap.size, 4, none⟩) (by show w.heap.size < w.heap.size + 2; omega) y0).setCell (a := ⟨w.heap.size, 5, none⟩) (by show w.heap.size < w.heap.size + 2; omega) y1).setCell (a := ⟨w.heap.size, 6, none⟩) (by show w.heap.size < w.heap.size + 2; omega) y2
    have hFe : Frm (fun b => M ≤ b) w.heap.size wc ((((((wc.setCell ⟨w.heap.size, 1, none⟩ m0).setCell ⟨w.heap.size, 2, none⟩ m1).setCell ⟨w.heap.size, 3, none⟩ m2).setCell ⟨w.heap.size, 4, none⟩ y0).setCell ⟨w.heap.size, 5, none⟩ y1).setCell ⟨w.heap.size, 6, none⟩ y2) := by
      have hn9 : ¬ M ≤ w.heap.size := by omega
      exact (((((Frm.set (a := ⟨w.heap.size, 1, none⟩) hn9 (Nat.le_refl _) m0).trans (Frm.set (a := ⟨w.heap.size, 2, none⟩) hn9 (Nat.le_refl _) m1)).trans (Frm.set (a := ⟨w.heap.size, 3, none⟩) hn9 (Nat.le_refl _) m2)).trans (Frm.set (a := ⟨w.heap.size, 4, none⟩) hn9 (Nat.le_refl _) y0)).trans (Frm.set (a := ⟨w.heap.size, 5, none⟩) hn9 (Nat.le_refl _) y1)).trans (Frm.set (a := ⟨w.heap.size, 6, none⟩) hn9 (Nat.le_refl _) y2)
    have hpe := hFe.rep (S := planS) (planS.anyOk hpc fun b _ (hb : wa.heap.size ≤ b) => Nat.le_trans hMa hb)
    have hqe := hFe.rep (S := planS) (planS.anyOk hqc fun b _ (hb : wa.heap.size ≤ b) => Nat.le_trans hMa hb)
    have hBe := hBc.trans hFe.below
    clear hFe
    clear hS
    refine wpAnyK_call (i := 9) rfl (by kernel_rfl) (by kernel_rfl) fun K9 hK9 => ?_
    go_simp
    go_wp2_with fail
    refine hK9 _ _ (fun h => absurd rfl h) ?_
    clear hK9
    refine wpAnyK_done (by kernel_rfl) ?_ _
    refine hR _ _ ?_
    iterate 8 apply Exists.intro
    refine ⟨?_, ⟨m0, m1, m2, y0, y1, y2, hCe, hZe, hpe, hqe, hve, hBe⟩⟩
    simp only [puts, Act.put, List.setIfInBounds_toArray, List.set_cons_succ, List.set_cons_zero]
    rfl
  rintro a' w8 ⟨v7, v8, v9, v10, v11, v12, v13, v14, rfl, hb8⟩
  simp only [puts, Act.put, List.setIfInBounds_toArray, List.set_cons_succ, List.set_cons_zero]
  clear hC2 hZ2 hv2 hB2
  obtain ⟨m0, m1, m2, y0, y1, y2, hC9, hZ9, hp9, hq9, hv9, hB9⟩ := hb8
  obtain ⟨lm0, lm1, lm2⟩ := planC.st (P := Try.prog) hp9
  obtain ⟨ly0, ly1, ly2⟩ := planC.st (P := Try.prog) hq9
  obtain ⟨c1, c2⟩ := hC9.cells
  obtain ⟨z1, z2⟩ := hZ9.cells
  have hzl := hZ9.lt
  have hMN : ¬ M ≤ w.heap.size + 1 := by omega
  have hNM : w.heap.size ≤ w.heap.size + 1 := by omega
  have hF : Frm (fun b => M ≤ b) w.heap.size w8 (((((((((w8.setCell ⟨w.heap.size + 1, 0, none⟩ (.int .i64 st)).setCell ⟨w.heap.size + 1, 1, none⟩ m0).setCell ⟨w.heap.size + 1, 2, none⟩ m1).setCell ⟨w.heap.size + 1, 3, none⟩ m2).setCell ⟨w.heap.size + 1, 4, none⟩ y0).setCell ⟨w.heap.size + 1, 5, none⟩ y1).setCell ⟨w.heap.size + 1, 6, none⟩ y2).setCell ⟨w.heap.size + 1, 7, none⟩ (.int .i64 num)).setCell ⟨w.heap.size + 1, 8, none⟩ (.slice va waits.length vc)) :=
    ((((((((Frm.set (a := ⟨w.heap.size + 1, 0, none⟩) hMN hNM _).trans (Frm.set (a := ⟨w.heap.size + 1, 1, none⟩) hMN hNM _)).trans (Frm.set (a := ⟨w.heap.size + 1, 2, none⟩) hMN hNM _)).trans (Frm.set (a := ⟨w.heap.size + 1, 3, none⟩) hMN hNM _)).trans (Frm.set (a := ⟨w.heap.size + 1, 4, none⟩) hMN hNM _)).trans (Frm.set (a := ⟨w.heap.size + 1, 5, none⟩) hMN hNM _)).trans (Frm.set (a := ⟨w.heap.size + 1, 6, none⟩) hMN hNM _)).trans (Frm.set (a := ⟨w.heap.size + 1, 7, none⟩) hMN hNM _)).trans (Frm.set (a := ⟨w.heap.size + 1, 8, none⟩) hMN hNM _)
  have hG := ((((((((hZ9.set 0 (.int .i64 st)).set 1 m0).set 2 m1).set 3 m2).set 4 y0).set 5 y1).set 6 y2).set 7 (.int .i64 num)).set 8 (.slice va waits.length vc)
  obtain ⟨g1, g2⟩ := hG.cells
  have hlt9 : w.heap.size + 1 < w.heap.size + 2 := by omega
  have hvf := ((((((((hv9.setCell (a := ⟨w.heap.size + 1, 0, none⟩) hlt9 (.int .i64 st)).setCell (a := ⟨w.heap.size + 1, 1, none⟩) hlt9 m0).setCell (a := ⟨w.heap.size + 1, 2, none⟩) hlt9 m1).setCell (a := ⟨w.heap.size + 1, 3, none⟩) hlt9 m2).setCell (a := ⟨w.heap.size + 1, 4, none⟩) hlt9 y0).setCell (a := ⟨w.heap.size + 1, 5, none⟩) hlt9 y1).setCell (a := ⟨w.heap.size + 1, 6, none⟩) hlt9 y2).setCell (a := ⟨w.heap.size + 1, 7, none⟩) hlt9 (.int .i64 num)).setCell (a := ⟨w.heap.size + 1, 8, none⟩) hlt9 (.slice va waits.length vc)
  have HE := Lib.hid (show planC _ (fun b => M ≤ b) m0 m1 m2 now ∧ planC _ (fun b => M ≤ b) y0 y1 y2 next ∧ _ ∧ _ from ⟨hF.rep (S := planS) hp9, hF.rep (S := planS) hq9, hvf.base (by omega : w.heap.size ≤ w.heap.size + 2), hB9.trans hF.below⟩)
  clear hp9 hq9 hv9 hB9 hF hvf
  go_wp2_with ((with_reducible refine bodyPost_ret (v := .agg #[.int .i64 st, m0, m1, m2, y0, y1, y2, .int .i64 num, .slice va waits.length vc]) ?ra1 ?rb1 ?rc1); go_must (case ra1 => simp [results, Try.results23, go_sem, g1]); go_must (case rb1 => rfl); go_must (case rc1 => exact ⟨m0, m1, m2, y0, y1, y2, va, vc, M, rfl, by omega, hvl, HE.out.1, HE.out.2.1, HE.out.2.2.1, HE.out.2.2.2⟩))

end Go.Proofs.Ytagldmdeohenjaa
