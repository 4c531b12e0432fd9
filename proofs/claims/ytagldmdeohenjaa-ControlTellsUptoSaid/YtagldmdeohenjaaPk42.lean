/-
  The walk of the document's Tell: an order more, with the next number.
-/
import Derived.WalkKit
import Derived.WalkSpells
import Derived.WalkLawsBesides
import Derived.Lib.Hide
import Derived.Deep.LoopGhost
import Derived.Deep.QuietTactic
import Derived.BigQuiet
import Derived.Deep.RegionWith
import Derived.Handy
import Derived.Test.YtagldmdeohenjaaPk31
import Derived.Test.YtagldmdeohenjaaPk41
import Derived.Test.YtagldmdeohenjaaPk8
set_option linter.unusedSimpArgs false
set_option linter.unusedVariables false
namespace Go.St
open Go.RowKit
/-- what is read where an order is put behind the others -/
def SO5 (O b : Nat) (r : Value) (cs : Array Value) (w : World) : Prop := w.cell? ⟨O, 0, none⟩ = some r ∧ ∀ i, w.cell? ⟨b, i, none⟩ = cs[i]?
theorem SO5.of {w : World} {O b : Nat} {t t' : TypeId} {r : Value} {cs : Array Value} (h : blockIs w O t #[r]) (k : blockIs w b t' cs) : SO5 O b r cs w := ⟨h.cells.1 0, k.cells.1⟩
end Go.St
namespace Go.Proofs.Ytagldmdeohenjaa
open Go.RowKit Go.St

set_option maxRecDepth 100000 in
set_option maxHeartbeats 16000000 in
theorem refTell_c (st num : Int) (n0 n1 n2 x0 x1 x2 : Value) (ws : List Int) (out : List To) (s : Int) (o : Order) (os : List Value) (w : World) (C O lo B : Nat) (qa oa : Option Addr) (qc oc : Nat)
    (hC : blockIs w C 32 #[.int .i64 st, n0, n1, n2, x0, x1, x2, .int .i64 num, .slice qa ws.length qc]) (hw : rowRep intS (fun b => b ≠ C) w qa qc ws) (hO : blockIs w O 44 #[.slice oa out.length oc]) (hout : ownR toS 85 (oth lo w oa) lo w oa out.length oc out) (ho : orderS.rep (fun b => lo ≤ b ∧ blk oa ≠ some b) w os o) (hs : I64 s)
    (hCl : C < lo) (hOl : O < lo) (hCO : C ≠ O) (hlo : lo ≤ w.heap.size) (hwl : ws.length ≤ 2000000000) (hol : out.length ≤ 1000) (hBC : B ≤ C) (hBO : B ≤ O) :
    Calls Try.prog 31 #[.pointer (some ⟨C, 0, none⟩), .pointer (some ⟨O, 0, none⟩), .int .i64 s, .agg os.toArray] w fun e w' => e = .returned (.tuple #[]) ∧ ∃ (va : Option Addr) (vc : Nat) (oa' : Option Addr) (oc' : Nat), blockIs w' C 32 #[.int .i64 st, n0, n1, n2, x0, x1, x2, .int .i64 (up num), .slice va (ws.length + 1) vc] ∧ rowRep intS (fun b => w.heap.size ≤ b) w' va vc (ws ++ [up num]) ∧
      blockIs w' O 44 #[.slice oa' (out.length + 1) oc'] ∧ ownR toS 85 (oth lo w' oa') lo w' oa' (out.length + 1) oc' (out ++ [⟨s, ⟨o.kind, up num, o.ver, o.rules, o.flows⟩⟩]) ∧ Frm (fun b => b ≠ C ∧ b ≠ O ∧ blk oa ≠ some b) B w w' := by
  have hOW := ho
  obtain ⟨ra, rc, fa, fc, rfl, hok, hon, hov, hor, hof⟩ := ho
  obtain ⟨i0, hi, hz0, hz1, hz2⟩ := info_parts info_int
  obtain ⟨j0, gi, gz0, gz1, gz2⟩ := info_parts rto_info
  have hwx := hw.len_le
  have hui := up_i64 num
  have hup : IntKind.i64.wrap (num + 1) = up num := rfl
  have hCz := hC.lt
  have hOz := hO.lt
  have hC5 := (hC.set 7 (.int .i64 (up num))).alloc (.cells #[.int .i64 o.kind, .int .i64 (up num), .int .i64 o.ver, .slice ra o.rules.length rc, .slice fa o.flows.length fc] 39)
  have hO5 := (hO.setOther (a := ⟨C, 7, none⟩) (by show O ≠ C; omega) (.int .i64 (up num))).alloc (.cells #[.int .i64 o.kind, .int .i64 (up num), .int .i64 o.ver, .slice ra o.rules.length rc, .slice fa o.flows.length fc] 39)
  have hX5 : blockIs ((w.setCell ⟨C, 7, none⟩ (.int .i64 (up num))).alloc (.cells #[.int .i64 o.kind, .int .i64 (up num), .int .i64 o.ver, .slice ra o.rules.length rc, .slice fa o.flows.length fc] 39)) w.heap.size 39 #[.int .i64 o.kind, .int .i64 (up num), .int .i64 o.ver, .slice ra o.rules.length rc, .slice fa o.flows.length fc] := blockIs.new (by simp)
  simp only [List.setIfInBounds_toArray, List.set_cons_succ, List.set_cons_zero] at hC5
  have hF5 : Frm (fun b => b ≠ C ∧ b < w.heap.size) B w ((w.setCell ⟨C, 7, none⟩ (.int .i64 (up num))).alloc (.cells #[.int .i64 o.kind, .int .i64 (up num), .int .i64 o.ver, .slice ra o.rules.length rc, .slice fa o.flows.length fc] 39)) := (Frm.set (a := ⟨C, 7, none⟩) (fun h => h.1 rfl) hBC _).trans (Frm.of ((Below.refl _ _).alloc (Nat.le_refl _) _) (by simp; omega))
  have hq5 : rowRep intS (fun b => b ≠ C) ((w.setCell ⟨C, 7, none⟩ (.int .i64 (up num))).alloc (.cells #[.int .i64 o.kind, .int .i64 (up num), .int .i64 o.ver, .slice ra o.rules.length rc, .slice fa o.flows.length fc] 39)) qa qc ws := hw.mono (fun b hb h => ⟨h, hF5.keep b hb ⟨h, hb⟩⟩)
  have hout5 : ownR toS 85 (oth lo w oa) lo ((w.setCell ⟨C, 7, none⟩ (.int .i64 (up num))).alloc (.cells #[.int .i64 o.kind, .int .i64 (up num), .int .i64 o.ver, .slice ra o.rules.length rc, .slice fa o.flows.length fc] 39)) oa out.length oc out := hout.keep hF5.size (fun k hk => by
    have hl : k < w.heap.size ∧ lo ≤ k := by
      rcases hk with hk | hk
      · exact ⟨(hout.lt k hk).2, (hout.lt k hk).1⟩
      · exact ⟨hk.2.1, hk.1⟩
    exact hF5.keep k hl.1 ⟨by omega, hl.1⟩)
  obtain ⟨c1, c2⟩ := hC.cells
  go_enter Try.func31, Try.ntmps31
  go_wp2
  --CUT1
  clear c1 c2
  have hs5 : w.heap.size + 1 = ((w.setCell ⟨C, 7, none⟩ (.int .i64 (up num))).alloc (.cells #[.int .i64 o.kind, .int .i64 (up num), .int .i64 o.ver, .slice ra o.rules.length rc, .slice fa o.flows.length fc] 39)).heap.size := by simp
  generalize ((w.setCell ⟨C, 7, none⟩ (.int .i64 (up num))).alloc (.cells #[.int .i64 o.kind, .int .i64 (up num), .int .i64 o.ver, .slice ra o.rules.length rc, .slice fa o.flows.length fc] 39)) = w5 at *
  have hs5' : w.heap.size < w5.heap.size := by omega
  have hB5 : B ≤ w5.heap.size := by have := hF5.size; omega
  have hCl5 := hC5.lt
  have hS0 : SW C qa ws.length qc (up num) w5.drew := SW.of hC5
  clear hCz hOz
  refine wp_region_to (SW C qa ws.length qc (up num)) 15 (fun a0 a' w' => ∃ v21 v22 v23 v24 v25 v26 v27 v28 v29 v30 v31 v32 v33 v34 v35, a' = puts a0 [(21, v21), (22, v22), (23, v23), (24, v24), (25, v25), (26, v26), (27, v27), (28, v28), (29, v29), (30, v30), (31, v31), (32, v32), (33, v33), (34, v34), (35, v35)] ∧ ∃ va vc, blockIs w' C 32 #[.int .i64 st, n0, n1, n2, x0, x1, x2, .int .i64 (up num), .slice va (ws.length + 1) vc] ∧ rowRep intS (fun b => w5.heap.size ≤ b) w' va vc (ws ++ [up num]) ∧ Frm (fun b => b ≠ C) B w5 w') (by kernel_rfl) ?_ ?_
  · intro Q' hR hQp
    have hb0 : Below w5.heap.size w5 w5.drew := by (repeat' (first | with_reducible exact Below.refl _ _ | with_reducible assumption | with_reducible refine Below.drew ?_ | with_reducible refine Below_drewN ?_ _ | with_reducible refine Below.alloc ?_ ?_ _ | with_reducible refine Below.setCell ?_ ?_ _ | omega | (simp; done) | (simp; omega)))
    have hS : SW C qa ws.length qc (up num) w5.drew := hS0
    generalize w5.drew = wa at *
    have hCa := hC5.under hb0
    have hqa := hq5.below hb0
    have hcla := hCa.lt
    refine wpAnyK_take (i := 0) _ rfl (by kernel_rfl) (fun _ _ _ h => hQp _ _ _ _ h) hS (yields_value (by kernel_rfl) (by intro w0 hw0; have hw1 := hw0; simp only [SW] at hw1; first | (go_simp; done) | (go_simp; rfl))) ?_; simp only [Act.put, List.getElem_toArray, List.getElem_cons_succ, List.getElem_cons_zero, List.setIfInBounds_toArray, List.set_cons_succ, List.set_cons_zero]
    refine wpAnyK_take (i := 2) _ rfl (by kernel_rfl) (fun _ _ _ h => hQp _ _ _ _ h) hS (yields_value (by kernel_rfl) (by intro w0 hw0; have hw1 := hw0; simp only [SW] at hw1; first | (go_simp; done) | (go_simp; rfl))) ?_; simp only [Act.put, List.getElem_toArray, List.getElem_cons_succ, List.getElem_cons_zero, List.setIfInBounds_toArray, List.set_cons_succ, List.set_cons_zero]
    refine wpAnyK_take (i := 7) _ rfl (by kernel_rfl) (fun _ _ _ h => hQp _ _ _ _ h) hS (yields_value (by kernel_rfl) (by intro w0 hw0; have hw1 := hw0; simp only [SW] at hw1; first | (go_simp; done) | (go_simp; rfl))) ?_; simp only [Act.put, List.getElem_toArray, List.getElem_cons_succ, List.getElem_cons_zero, List.setIfInBounds_toArray, List.set_cons_succ, List.set_cons_zero]
    refine wpAnyK_take (i := 3) _ rfl (by kernel_rfl) (fun _ _ _ h => hQp _ _ _ _ h) hS (yields_value (by kernel_rfl) (by intro w0 hw0; have hw1 := hw0; simp only [SW] at hw1; first | (go_simp; done) | (go_simp; rfl))) ?_; simp only [Act.put, List.getElem_toArray, List.getElem_cons_succ, List.getElem_cons_zero, List.setIfInBounds_toArray, List.set_cons_succ, List.set_cons_zero]
    refine wpAnyK_take (i := 8) _ rfl (by kernel_rfl) (fun _ _ _ h => hQp _ _ _ _ h) hS (yields_value (by kernel_rfl) (by intro w0 hw0; have hw1 := hw0; simp only [SW] at hw1; first | (go_simp; done) | (go_simp; rfl))) ?_; simp only [Act.put, List.getElem_toArray, List.getElem_cons_succ, List.getElem_cons_zero, List.setIfInBounds_toArray, List.set_cons_succ, List.set_cons_zero]
    refine wpAnyK_take (i := 4) _ rfl (by kernel_rfl) (fun _ _ _ h => hQp _ _ _ _ h) hS (yields_value (by kernel_rfl) (by intro w0 hw0; have hw1 := hw0; simp only [SW] at hw1; first | (go_simp; done) | (go_simp; rfl))) ?_; simp only [Act.put, List.getElem_toArray, List.getElem_cons_succ, List.getElem_cons_zero, List.setIfInBounds_toArray, List.set_cons_succ, List.set_cons_zero]
    refine wpAnyK_take (i := 9) _ rfl (by kernel_rfl) (fun _ _ _ h => hQp _ _ _ _ h) hS (yields_value (by kernel_rfl) (by intro w0 hw0; have hw1 := hw0; simp only [SW] at hw1; first | (go_simp; done) | (go_simp; rfl))) ?_; simp only [Act.put, List.getElem_toArray, List.getElem_cons_succ, List.getElem_cons_zero, List.setIfInBounds_toArray, List.set_cons_succ, List.set_cons_zero]
    refine wpAnyK_take (i := 5) _ rfl (by kernel_rfl) (fun _ _ _ h => hQp _ _ _ _ h) hS (yields_value (by kernel_rfl) (by intro w0 hw0; have hw1 := hw0; simp only [SW] at hw1; first | (go_simp; done) | (go_simp; rfl))) ?_; simp only [Act.put, List.getElem_toArray, List.getElem_cons_succ, List.getElem_cons_zero, List.setIfInBounds_toArray, List.set_cons_succ, List.set_cons_zero]
    refine wpAnyK_take (i := 10) _ rfl (by kernel_rfl) (fun _ _ _ h => hQp _ _ _ _ h) hS (yields_value (by kernel_rfl) (by intro w0 hw0; have hw1 := hw0; simp only [SW] at hw1; first | (go_simp; done) | (go_simp; rfl))) ?_; simp only [Act.put, List.getElem_toArray, List.getElem_cons_succ, List.getElem_cons_zero, List.setIfInBounds_toArray, List.set_cons_succ, List.set_cons_zero]
    clear hS
    refine wpAnyK_two (i := 1) (j := 11) rfl rfl (by kernel_rfl) (by kernel_rfl) (by kernel_rfl) (fun K1 hK1 => ?_) (fun K11 hK11 => ?_)
    · skip
      go_simp
      go_wp2_with fail
      have hb1 : Below wa.heap.size wa (wa.alloc (.cells #[] 3)) := by (repeat' (first | with_reducible exact Below.refl _ _ | with_reducible assumption | with_reducible refine Below.drew ?_ | with_reducible refine Below_drewN ?_ _ | with_reducible refine Below.alloc ?_ ?_ _ | with_reducible refine Below.setCell ?_ ?_ _ | omega | (simp; done) | (simp; omega)))
      have ho1 : ownR intS 3 (fun _ => False) wa.heap.size (wa.alloc (.cells #[] 3)) (some ⟨wa.heap.size, 0, none⟩) 0 0 [] := ownR.lit (cs := []) rfl rfl (Nat.le_refl _) (by simp only [maxLen]; omega) (by simp) (fun _ h => h.elim)
      refine hK1 _ _ (fun _ => SW.of (hCa.under hb1)) ?_
      clear hK1
      generalize wa.alloc (.cells #[] 3) = wx1 at *
      refine wpAnyK_two (i := 6) (j := 11) rfl rfl (by kernel_rfl) (by kernel_rfl) (by kernel_rfl) (fun K6 hK6 => ?_) (fun K11 hK11 => ?_)
      · skip
        refine wp_appR (sh := intS)  (.tmp 22) (.tmp 26) 26 (by rfl) 3 i0 (.int .i64 0) 8 Try.underlying26 hi hz0 hz1 hz2 rfl (by decide) (ok := fun _ => False) (base := wa.heap.size) (by rfl) ho1 (by rfl) rfl ((hqa.below hb1).src.flat fun h => h) (by simp only [maxLen]; omega) (by omega) hb1.size ?_
        intro aA cA WA hownA hgA hlieA
        have hbA : Below wa.heap.size wa WA := hb1.trans (grown_below (B := wa.heap.size) hgA (fun k hk => (ho1.lt k hk).1) hb1.size)
        simp only [Nat.zero_add, List.nil_append] at hownA
        simp only [Nat.zero_add, Act.put, List.getElem_toArray, List.getElem_cons_succ, List.getElem_cons_zero, List.setIfInBounds_toArray, List.set_cons_succ, List.set_cons_zero]
        refine hK6 _ _ (fun _ => SW.of (hCa.under hbA)) ?_
        clear hK6
        refine wpAnyK_call (i := 11) rfl (by kernel_rfl) (by kernel_rfl) fun K11 hK11 => ?_
        go_simp
        go_wp2_with fail
        have hb3 : Below wa.heap.size wa (WA.alloc (.cells #[.int .i64 (up num)] 3)) := hbA.trans (by have := hbA.size; (repeat' (first | with_reducible exact Below.refl _ _ | with_reducible assumption | with_reducible refine Below.drew ?_ | with_reducible refine Below_drewN ?_ _ | with_reducible refine Below.alloc ?_ ?_ _ | with_reducible refine Below.setCell ?_ ?_ _ | omega | (simp; done) | (simp; omega))))
        have hs3 : blockIs (WA.alloc (.cells #[.int .i64 (up num)] 3)) WA.heap.size 3 #[.int .i64 (up num)] := blockIs.new rfl
        have hd3 := hownA.alloc (.cells #[.int .i64 (up num)] 3)
        have hne : some WA.heap.size ≠ blk aA := fun e => by have := (hownA.lt _ e.symm).2; omega
        refine hK11 _ _ (fun _ => SW.of (hCa.under hb3)) ?_
        clear hK11
        generalize hqhs3 : WA.heap.size = bhs3 at *
        generalize WA.alloc (.cells #[.int .i64 (up num)] 3) = wx3 at *
        refine wpAnyK_call (i := 12) rfl (by kernel_rfl) (by kernel_rfl) fun K12 hK12 => ?_
        refine wp_appR (sh := intS) (n := ws.length) (m := 1) (.tmp 27) (.tmp 32) 26 (by rfl) 3 i0 (.int .i64 0) 8 Try.underlying26 hi hz0 hz1 hz2 rfl (by decide) (ok := fun _ => False) (base := wa.heap.size) (by rfl) hd3 (by rfl) rfl (one_src hs3 hui) (by simp only [maxLen]; omega) (by omega) hb3.size ?_
        intro aZ cZ WZ hownZ hgZ hlieZ
        have hbZ : Below wa.heap.size wa WZ := hb3.trans (grown_below (B := wa.heap.size) hgZ (fun k hk => (hd3.lt k hk).1) hb3.size)
        simp only [Nat.zero_add, Act.put, List.getElem_toArray, List.getElem_cons_succ, List.getElem_cons_zero, List.setIfInBounds_toArray, List.set_cons_succ, List.set_cons_zero]
        refine hK12 _ _ (fun _ => SW.of (hCa.under hbZ)) ?_
        clear hK12
        have hrow : rowRep intS (fun b => wa.heap.size ≤ b) WZ aZ cZ (ws ++ [up num]) := hownZ.row (fun _ h => h.elim) (fun k hk => (hownZ.lt k hk).1)
        have hCz := hCa.under hbZ
        have hS : _ := SW.of hCz
        clear hS
        refine wpAnyK_call (i := 13) rfl (by kernel_rfl) (by kernel_rfl) fun K13 hK13 => ?_
        go_simp
        go_wp2_with fail
        have hS : _ := SW.of hCz
        refine hK13 _ _ (fun _ => hS) ?_
        clear hK13
        refine wpAnyK_take (i := 14) _ rfl (by kernel_rfl) (fun _ _ _ h => hQp _ _ _ _ h) hS (yields_value (by kernel_rfl) (by intro w0 hw0; have hw1 := hw0; simp only [SW] at hw1; first | (go_simp; done) | (go_simp; rfl))) ?_; simp only [Act.put, List.getElem_toArray, List.getElem_cons_succ, List.getElem_cons_zero, List.setIfInBounds_toArray, List.set_cons_succ, List.set_cons_zero]
        obtain ⟨c1, c2⟩ := hCz.cells
        have hclz := hCz.lt
        clear hS
        refine wpAnyK_call (i := 15) rfl (by kernel_rfl) (by kernel_rfl) fun K15 hK15 => ?_
        go_simp
        go_wp2_with fail
        have hCe := hCz.set 8 (.slice aZ (ws.length + 1) cZ)
        simp only [List.setIfInBounds_toArray, List.set_cons_succ, List.set_cons_zero] at hCe
        refine hK15 _ _ (fun h => absurd rfl h) ?_
        clear hK15
        have hFe : Frm (fun b => b ≠ C) B wa _ := (Frm.of (W := fun b => b ≠ C) hbZ (by omega)).trans (Frm.set (a := ⟨C, 8, none⟩) (fun h => h rfl) hBC (.slice aZ (ws.length + 1) cZ))
        have hre := rowRep.mono (w' := WZ.setCell ⟨C, 8, none⟩ (.slice aZ (ws.length + 1) cZ)) (ok' := fun b => w5.heap.size ≤ b) hrow (fun b _ hh => ⟨by have := hb0.size; omega, Below.heap_setCell _ ⟨C, 8, none⟩ _ b (by show b ≠ C; omega)⟩)
        refine wpAnyK_done (by kernel_rfl) ?_ _
        refine hR _ _ ?_
        iterate 15 apply Exists.intro
        refine ⟨?_, ⟨aZ, cZ, hCe, hre, (Frm.of (W := fun b => b ≠ C) hb0 (by omega)).trans hFe⟩⟩
        simp only [puts, Act.put, List.setIfInBounds_toArray, List.set_cons_succ, List.set_cons_zero]
        rfl
      · skip
        go_simp
        go_wp2_with fail
        have hb4 : Below wa.heap.size wa (wx1.alloc (.cells #[.int .i64 (up num)] 3)) := hb1.trans (by have := hb1.size; (repeat' (first | with_reducible exact Below.refl _ _ | with_reducible assumption | with_reducible refine Below.drew ?_ | with_reducible refine Below_drewN ?_ _ | with_reducible refine Below.alloc ?_ ?_ _ | with_reducible refine Below.setCell ?_ ?_ _ | omega | (simp; done) | (simp; omega))))
        have hs4 : blockIs (wx1.alloc (.cells #[.int .i64 (up num)] 3)) wx1.heap.size 3 #[.int .i64 (up num)] := blockIs.new rfl
        have hd4 := ho1.alloc (.cells #[.int .i64 (up num)] 3)
        have hne : some wx1.heap.size ≠ blk (some ⟨wa.heap.size, 0, none⟩) := fun e => by have := (ho1.lt _ e.symm).2; omega
        refine hK11 _ _ (fun _ => SW.of (hCa.under hb4)) ?_
        clear hK11
        generalize hqhs4 : wx1.heap.size = bhs4 at *
        generalize wx1.alloc (.cells #[.int .i64 (up num)] 3) = wx4 at *
        refine wpAnyK_call (i := 6) rfl (by kernel_rfl) (by kernel_rfl) fun K6 hK6 => ?_
        refine wp_appR (sh := intS)  (.tmp 22) (.tmp 26) 26 (by rfl) 3 i0 (.int .i64 0) 8 Try.underlying26 hi hz0 hz1 hz2 rfl (by decide) (ok := fun _ => False) (base := wa.heap.size) (by rfl) hd4 (by rfl) rfl ((hqa.below hb4).src.flat fun h => h) (by simp only [maxLen]; omega) (by omega) hb4.size ?_
        intro aD cD WD hownD hgD hlieD
        have hbD : Below wa.heap.size wa WD := hb4.trans (grown_below (B := wa.heap.size) hgD (fun k hk => (hd4.lt k hk).1) hb4.size)
        simp only [Nat.zero_add, List.nil_append] at hownD
        simp only [Nat.zero_add, Act.put, List.getElem_toArray, List.getElem_cons_succ, List.getElem_cons_zero, List.setIfInBounds_toArray, List.set_cons_succ, List.set_cons_zero]
        refine hK6 _ _ (fun _ => SW.of (hCa.under hbD)) ?_
        clear hK6
        refine wpAnyK_call (i := 12) rfl (by kernel_rfl) (by kernel_rfl) fun K12 hK12 => ?_
        refine wp_appR (sh := intS) (n := ws.length) (m := 1) (.tmp 27) (.tmp 32) 26 (by rfl) 3 i0 (.int .i64 0) 8 Try.underlying26 hi hz0 hz1 hz2 rfl (by decide) (ok := fun _ => False) (base := wa.heap.size) (by rfl) hownD (by rfl) rfl (one_src (hs4.grown hgD hne) hui) (by simp only [maxLen]; omega) (by omega) hbD.size ?_
        intro aY cY WY hownY hgY hlieY
        have hbY : Below wa.heap.size wa WY := hbD.trans (grown_below (B := wa.heap.size) hgY (fun k hk => (hownD.lt k hk).1) hbD.size)
        simp only [Nat.zero_add, Act.put, List.getElem_toArray, List.getElem_cons_succ, List.getElem_cons_zero, List.setIfInBounds_toArray, List.set_cons_succ, List.set_cons_zero]
        refine hK12 _ _ (fun _ => SW.of (hCa.under hbY)) ?_
        clear hK12
        have hrow : rowRep intS (fun b => wa.heap.size ≤ b) WY aY cY (ws ++ [up num]) := hownY.row (fun _ h => h.elim) (fun k hk => (hownY.lt k hk).1)
        have hCz := hCa.under hbY
        have hS : _ := SW.of hCz
        clear hS
        refine wpAnyK_call (i := 13) rfl (by kernel_rfl) (by kernel_rfl) fun K13 hK13 => ?_
        go_simp
        go_wp2_with fail
        have hS : _ := SW.of hCz
        refine hK13 _ _ (fun _ => hS) ?_
        clear hK13
        refine wpAnyK_take (i := 14) _ rfl (by kernel_rfl) (fun _ _ _ h => hQp _ _ _ _ h) hS (yields_value (by kernel_rfl) (by intro w0 hw0; have hw1 := hw0; simp only [SW] at hw1; first | (go_simp; done) | (go_simp; rfl))) ?_; simp only [Act.put, List.getElem_toArray, List.getElem_cons_succ, List.getElem_cons_zero, List.setIfInBounds_toArray, List.set_cons_succ, List.set_cons_zero]
        obtain ⟨c1, c2⟩ := hCz.cells
        have hclz := hCz.lt
        clear hS
        refine wpAnyK_call (i := 15) rfl (by kernel_rfl) (by kernel_rfl) fun K15 hK15 => ?_
        go_simp
        go_wp2_with fail
        have hCe := hCz.set 8 (.slice aY (ws.length + 1) cY)
        simp only [List.setIfInBounds_toArray, List.set_cons_succ, List.set_cons_zero] at hCe
        refine hK15 _ _ (fun h => absurd rfl h) ?_
        clear hK15
        have hFe : Frm (fun b => b ≠ C) B wa _ := (Frm.of (W := fun b => b ≠ C) hbY (by omega)).trans (Frm.set (a := ⟨C, 8, none⟩) (fun h => h rfl) hBC (.slice aY (ws.length + 1) cY))
        have hre := rowRep.mono (w' := WY.setCell ⟨C, 8, none⟩ (.slice aY (ws.length + 1) cY)) (ok' := fun b => w5.heap.size ≤ b) hrow (fun b _ hh => ⟨by have := hb0.size; omega, Below.heap_setCell _ ⟨C, 8, none⟩ _ b (by show b ≠ C; omega)⟩)
        refine wpAnyK_done (by kernel_rfl) ?_ _
        refine hR _ _ ?_
        iterate 15 apply Exists.intro
        refine ⟨?_, ⟨aY, cY, hCe, hre, (Frm.of (W := fun b => b ≠ C) hb0 (by omega)).trans hFe⟩⟩
        simp only [puts, Act.put, List.setIfInBounds_toArray, List.set_cons_succ, List.set_cons_zero]
        rfl
    · skip
      go_simp
      go_wp2_with fail
      have hb5 : Below wa.heap.size wa (wa.alloc (.cells #[.int .i64 (up num)] 3)) := by (repeat' (first | with_reducible exact Below.refl _ _ | with_reducible assumption | with_reducible refine Below.drew ?_ | with_reducible refine Below_drewN ?_ _ | with_reducible refine Below.alloc ?_ ?_ _ | with_reducible refine Below.setCell ?_ ?_ _ | omega | (simp; done) | (simp; omega)))
      have hs5 : blockIs (wa.alloc (.cells #[.int .i64 (up num)] 3)) wa.heap.size 3 #[.int .i64 (up num)] := blockIs.new rfl
      refine hK11 _ _ (fun _ => SW.of (hCa.under hb5)) ?_
      clear hK11
      generalize wa.alloc (.cells #[.int .i64 (up num)] 3) = wx5 at *
      refine wpAnyK_call (i := 1) rfl (by kernel_rfl) (by kernel_rfl) fun K1 hK1 => ?_
      go_simp
      go_wp2_with fail
      have hb65 : Below wx5.heap.size wx5 (wx5.alloc (.cells #[] 3)) := by (repeat' (first | with_reducible exact Below.refl _ _ | with_reducible assumption | with_reducible refine Below.drew ?_ | with_reducible refine Below_drewN ?_ _ | with_reducible refine Below.alloc ?_ ?_ _ | with_reducible refine Below.setCell ?_ ?_ _ | omega | (simp; done) | (simp; omega)))
      have hb6 : Below wa.heap.size wa (wx5.alloc (.cells #[] 3)) := hb5.trans (hb65.mono hb5.size)
      have ho6 : ownR intS 3 (fun _ => False) wa.heap.size (wx5.alloc (.cells #[] 3)) (some ⟨wx5.heap.size, 0, none⟩) 0 0 [] := ownR.lit (cs := []) rfl rfl (hb5.size) (by simp only [maxLen]; omega) (by simp) (fun _ h => h.elim)
      have hs6 := hs5.under hb65
      have hs5l := hs5.lt
      have hne : some wa.heap.size ≠ blk (some ⟨wx5.heap.size, 0, none⟩) := fun e => by have e2 : wa.heap.size = wx5.heap.size := (by simpa [blk] using e); omega
      refine hK1 _ _ (fun _ => SW.of (hCa.under hb6)) ?_
      clear hK1
      generalize hq6 : wx5.heap.size = b6 at *
      generalize wx5.alloc (.cells #[] 3) = wx6 at *
      refine wpAnyK_call (i := 6) rfl (by kernel_rfl) (by kernel_rfl) fun K6 hK6 => ?_
      refine wp_appR (sh := intS)  (.tmp 22) (.tmp 26) 26 (by rfl) 3 i0 (.int .i64 0) 8 Try.underlying26 hi hz0 hz1 hz2 rfl (by decide) (ok := fun _ => False) (base := wa.heap.size) (by rfl) ho6 (by rfl) rfl ((hqa.below hb6).src.flat fun h => h) (by simp only [maxLen]; omega) (by omega) hb6.size ?_
      intro aE cE WE hownE hgE hlieE
      have hbE : Below wa.heap.size wa WE := hb6.trans (grown_below (B := wa.heap.size) hgE (fun k hk => (ho6.lt k hk).1) hb6.size)
      simp only [Nat.zero_add, List.nil_append] at hownE
      simp only [Nat.zero_add, Act.put, List.getElem_toArray, List.getElem_cons_succ, List.getElem_cons_zero, List.setIfInBounds_toArray, List.set_cons_succ, List.set_cons_zero]
      refine hK6 _ _ (fun _ => SW.of (hCa.under hbE)) ?_
      clear hK6
      refine wpAnyK_call (i := 12) rfl (by kernel_rfl) (by kernel_rfl) fun K12 hK12 => ?_
      refine wp_appR (sh := intS) (n := ws.length) (m := 1) (.tmp 27) (.tmp 32) 26 (by rfl) 3 i0 (.int .i64 0) 8 Try.underlying26 hi hz0 hz1 hz2 rfl (by decide) (ok := fun _ => False) (base := wa.heap.size) (by rfl) hownE (by rfl) rfl (one_src (hs6.grown hgE hne) hui) (by simp only [maxLen]; omega) (by omega) hbE.size ?_
      intro aX cX WX hownX hgX hlieX
      have hbX : Below wa.heap.size wa WX := hbE.trans (grown_below (B := wa.heap.size) hgX (fun k hk => (hownE.lt k hk).1) hbE.size)
      simp only [Nat.zero_add, Act.put, List.getElem_toArray, List.getElem_cons_succ, List.getElem_cons_zero, List.setIfInBounds_toArray, List.set_cons_succ, List.set_cons_zero]
      refine hK12 _ _ (fun _ => SW.of (hCa.under hbX)) ?_
      clear hK12
      have hrow : rowRep intS (fun b => wa.heap.size ≤ b) WX aX cX (ws ++ [up num]) := hownX.row (fun _ h => h.elim) (fun k hk => (hownX.lt k hk).1)
      have hCz := hCa.under hbX
      have hS : _ := SW.of hCz
      clear hS
      refine wpAnyK_call (i := 13) rfl (by kernel_rfl) (by kernel_rfl) fun K13 hK13 => ?_
      go_simp
      go_wp2_with fail
      have hS : _ := SW.of hCz
      refine hK13 _ _ (fun _ => hS) ?_
      clear hK13
      refine wpAnyK_take (i := 14) _ rfl (by kernel_rfl) (fun _ _ _ h => hQp _ _ _ _ h) hS (yields_value (by kernel_rfl) (by intro w0 hw0; have hw1 := hw0; simp only [SW] at hw1; first | (go_simp; done) | (go_simp; rfl))) ?_; simp only [Act.put, List.getElem_toArray, List.getElem_cons_succ, List.getElem_cons_zero, List.setIfInBounds_toArray, List.set_cons_succ, List.set_cons_zero]
      obtain ⟨c1, c2⟩ := hCz.cells
      have hclz := hCz.lt
      clear hS
      refine wpAnyK_call (i := 15) rfl (by kernel_rfl) (by kernel_rfl) fun K15 hK15 => ?_
      go_simp
      go_wp2_with fail
      have hCe := hCz.set 8 (.slice aX (ws.length + 1) cX)
      simp only [List.setIfInBounds_toArray, List.set_cons_succ, List.set_cons_zero] at hCe
      refine hK15 _ _ (fun h => absurd rfl h) ?_
      clear hK15
      have hFe : Frm (fun b => b ≠ C) B wa _ := (Frm.of (W := fun b => b ≠ C) hbX (by omega)).trans (Frm.set (a := ⟨C, 8, none⟩) (fun h => h rfl) hBC (.slice aX (ws.length + 1) cX))
      have hre := rowRep.mono (w' := WX.setCell ⟨C, 8, none⟩ (.slice aX (ws.length + 1) cX)) (ok' := fun b => w5.heap.size ≤ b) hrow (fun b _ hh => ⟨by have := hb0.size; omega, Below.heap_setCell _ ⟨C, 8, none⟩ _ b (by show b ≠ C; omega)⟩)
      refine wpAnyK_done (by kernel_rfl) ?_ _
      refine hR _ _ ?_
      iterate 15 apply Exists.intro
      refine ⟨?_, ⟨aX, cX, hCe, hre, (Frm.of (W := fun b => b ≠ C) hb0 (by omega)).trans hFe⟩⟩
      simp only [puts, Act.put, List.setIfInBounds_toArray, List.set_cons_succ, List.set_cons_zero]
      rfl
  rintro a' w8 ⟨v21, v22, v23, v24, v25, v26, v27, v28, v29, v30, v31, v32, v33, v34, v35, rfl, hb8⟩
  simp only [puts, Act.put, List.setIfInBounds_toArray, List.set_cons_succ, List.set_cons_zero]
  rename World => wb8
  obtain ⟨va, vc, hC6, hq6, hF6⟩ := hb8
  --CUT2
  have hs6 := hF6.size
  have hO6 := hF6.blk hO5 (.inl (by omega))
  have hX6 := hF6.blk hX5 (.inl (by omega))
  have hout6 := hout5.keep hs6 (fun k hk => by
    have hl : k < w5.heap.size ∧ lo ≤ k := by
      rcases hk with hk | hk
      · exact ⟨(hout5.lt k hk).2, (hout5.lt k hk).1⟩
      · have := hk.2.1; exact ⟨by omega, hk.1⟩
    exact hF6.keep k hl.1 (by omega))
  have hoaC : ∀ k, blk oa = some k → lo ≤ k ∧ k < w.heap.size := hout.lt
  have hkp : ∀ b, b < w.heap.size → lo ≤ b ∧ blk oa ≠ some b → oth lo w oa b ∧ wb8.heap[b]? = w.heap[b]? := fun b hb h => ⟨⟨h.1, hb, h.2⟩, (hF6.keep b (by omega) (by omega)).trans (hF5.keep b hb ⟨by omega, hb⟩)⟩
  have hr6 := hor.mono hkp
  have hf6 := hof.mono hkp
  have hFa := hF5.trans (hF6.weak (V := fun b => b ≠ C ∧ b < w.heap.size) (fun b _ h => .inl h.1) (Nat.le_refl _))
  have hCl8 := hC6.lt
  have hOl8 := hO6.lt
  have hXl8 := hX6.lt
  have hB8 : B ≤ wb8.heap.size := by omega
  clear hC5 hO5 hX5 hout5 hF5 hq5 hS0 hkp hor hof hOW hC hw hO
  go_wp2
  have hS4 : SO5 O w.heap.size (.slice oa out.length oc) #[.int .i64 o.kind, .int .i64 (up num), .int .i64 o.ver, .slice ra o.rules.length rc, .slice fa o.flows.length fc] wb8 := ⟨hO6.cells.1 0, hX6.cells.1⟩
  have hS0 : SO5 O w.heap.size (.slice oa out.length oc) #[.int .i64 o.kind, .int .i64 (up num), .int .i64 o.ver, .slice ra o.rules.length rc, .slice fa o.flows.length fc] wb8.drew := hS4
  have hq8 := hq6
  have hC8 := hC6
  have hF8 := hF6
  clear hq6 hC6 hF6
  --CUT3
  refine wp_region_to (SO5 O w.heap.size (.slice oa out.length oc) #[.int .i64 o.kind, .int .i64 (up num), .int .i64 o.ver, .slice ra o.rules.length rc, .slice fa o.flows.length fc]) 10 (fun a0 a' w' => ∃ v36 v37 v38 v39 v40 v41 v42 v43 v44 v45, a' = puts a0 [(36, v36), (37, v37), (38, v38), (39, v39), (40, v40), (41, v41), (42, v42), (43, v43), (44, v44), (45, v45)] ∧ ∃ oa' oc', blockIs w' O 44 #[.slice oa' (out.length + 1) oc'] ∧ ownR toS 85 (oth lo w' oa') lo w' oa' (out.length + 1) oc' (out ++ [⟨s, ⟨o.kind, up num, o.ver, o.rules, o.flows⟩⟩]) ∧ Frm (fun b => b ≠ O ∧ blk oa ≠ some b) B wb8 w') (by kernel_rfl) ?_ ?_
  · intro Q' hR hQp
    have hb0 : Below wb8.heap.size wb8 wb8.drew := by (repeat' (first | with_reducible exact Below.refl _ _ | with_reducible assumption | with_reducible refine Below.drew ?_ | with_reducible refine Below_drewN ?_ _ | with_reducible refine Below.alloc ?_ ?_ _ | with_reducible refine Below.setCell ?_ ?_ _ | omega | (simp; done) | (simp; omega)))
    have hS : SO5 O w.heap.size (.slice oa out.length oc) #[.int .i64 o.kind, .int .i64 (up num), .int .i64 o.ver, .slice ra o.rules.length rc, .slice fa o.flows.length fc] wb8.drew := hS0
    generalize wb8.drew = wa at *
    have hOa := hO6.under hb0
    have hXa := hX6.under hb0
    have houta := hout6.below hb0
    have hra := hr6.below hb0
    have hfa := hf6.below hb0
    have hsa := hb0.size
    refine wpAnyK_take (i := 0) _ rfl (by kernel_rfl) (fun _ _ _ h => hQp _ _ _ _ h) hS (yields_value (by kernel_rfl) (by intro w0 hw0; have hw1 := hw0; simp only [SO5] at hw1; first | (go_simp; done) | (go_simp; rfl))) ?_; simp only [Act.put, List.getElem_toArray, List.getElem_cons_succ, List.getElem_cons_zero, List.setIfInBounds_toArray, List.set_cons_succ, List.set_cons_zero]
    refine wpAnyK_take (i := 1) _ rfl (by kernel_rfl) (fun _ _ _ h => hQp _ _ _ _ h) hS (yields_value (by kernel_rfl) (by intro w0 hw0; have hw1 := hw0; simp only [SO5] at hw1; first | (go_simp; done) | (go_simp; rfl))) ?_; simp only [Act.put, List.getElem_toArray, List.getElem_cons_succ, List.getElem_cons_zero, List.setIfInBounds_toArray, List.set_cons_succ, List.set_cons_zero]
    refine wpAnyK_take (i := 4) _ rfl (by kernel_rfl) (fun _ _ _ h => hQp _ _ _ _ h) hS (yields_value (by kernel_rfl) (by intro w0 hw0; have hw1 := hw0; simp only [SO5] at hw1; first | (go_simp; done) | (go_simp; rfl))) ?_; simp only [Act.put, List.getElem_toArray, List.getElem_cons_succ, List.getElem_cons_zero, List.setIfInBounds_toArray, List.set_cons_succ, List.set_cons_zero]
    refine wpAnyK_take (i := 5) _ rfl (by kernel_rfl) (fun _ _ _ h => hQp _ _ _ _ h) hS (yields_value (by kernel_rfl) (by intro w0 hw0; have hw1 := hw0; simp only [SO5] at hw1; first | (go_simp; done) | (go_simp; rfl))) ?_; simp only [Act.put, List.getElem_toArray, List.getElem_cons_succ, List.getElem_cons_zero, List.setIfInBounds_toArray, List.set_cons_succ, List.set_cons_zero]
    refine wpAnyK_take (i := 2) _ rfl (by kernel_rfl) (fun _ _ _ h => hQp _ _ _ _ h) hS (yields_value (by kernel_rfl) (by intro w0 hw0; have hw1 := hw0; simp only [SO5] at hw1; first | (go_simp; done) | (go_simp; rfl))) ?_; simp only [Act.put, List.getElem_toArray, List.getElem_cons_succ, List.getElem_cons_zero, List.setIfInBounds_toArray, List.set_cons_succ, List.set_cons_zero]
    refine wpAnyK_take (i := 6) _ rfl (by kernel_rfl) (fun _ _ _ h => hQp _ _ _ _ h) hS (yields_value (by kernel_rfl) (by intro w0 hw0; have hw1 := hw0; simp only [SO5] at hw1; first | (go_simp; done) | (go_simp; rfl))) ?_; simp only [Act.put, List.getElem_toArray, List.getElem_cons_succ, List.getElem_cons_zero, List.setIfInBounds_toArray, List.set_cons_succ, List.set_cons_zero]
    refine wpAnyK_take (i := 3) _ rfl (by kernel_rfl) (fun _ _ _ h => hQp _ _ _ _ h) hS (yields_value (by kernel_rfl) (by intro w0 hw0; have hw1 := hw0; simp only [SO5] at hw1; first | (go_simp; done) | (go_simp; rfl))) ?_; simp only [Act.put, List.getElem_toArray, List.getElem_cons_succ, List.getElem_cons_zero, List.setIfInBounds_toArray, List.set_cons_succ, List.set_cons_zero]
    clear hS
    refine wpAnyK_call (i := 7) rfl (by kernel_rfl) (by kernel_rfl) fun K7 hK7 => ?_
    go_simp
    go_wp2_with fail
    have hab : Below wa.heap.size wa (wa.alloc (.cells #[.int .i64 s, .int .i64 o.kind, .int .i64 (up num), .int .i64 o.ver, .slice ra o.rules.length rc, .slice fa o.flows.length fc] 85)) := by (repeat' (first | with_reducible exact Below.refl _ _ | with_reducible assumption | with_reducible refine Below.drew ?_ | with_reducible refine Below_drewN ?_ _ | with_reducible refine Below.alloc ?_ ?_ _ | with_reducible refine Below.setCell ?_ ?_ _ | omega | (simp; done) | (simp; omega)))
    have hN : blockIs (wa.alloc (.cells #[.int .i64 s, .int .i64 o.kind, .int .i64 (up num), .int .i64 o.ver, .slice ra o.rules.length rc, .slice fa o.flows.length fc] 85)) wa.heap.size 85 #[.int .i64 s, .int .i64 o.kind, .int .i64 (up num), .int .i64 o.ver, .slice ra o.rules.length rc, .slice fa o.flows.length fc] := blockIs.new rfl
    have hOb := hOa.under hab
    have hXb := hXa.under hab
    have houtb := houta.below hab
    have hsrc : srcRep toS (oth lo w oa) (wa.alloc (.cells #[.int .i64 s, .int .i64 o.kind, .int .i64 (up num), .int .i64 o.ver, .slice ra o.rules.length rc, .slice fa o.flows.length fc] 85)) (some ⟨wa.heap.size, 0, none⟩) [⟨s, ⟨o.kind, up num, o.ver, o.rules, o.flows⟩⟩] := to_src1 (x := ⟨s, ⟨o.kind, up num, o.ver, o.rules, o.flows⟩⟩) hN hs ⟨ra, rc, fa, fc, rfl, hok, hui, hov, hra.below hab, hfa.below hab⟩
    have hbb := hb0.trans (hab.mono hsa)
    have hS : _ := SO5.of hOb hXb
    refine hK7 _ _ (fun _ => hS) ?_
    clear hK7
    clear hS
    generalize (wa.alloc (.cells #[.int .i64 s, .int .i64 o.kind, .int .i64 (up num), .int .i64 o.ver, .slice ra o.rules.length rc, .slice fa o.flows.length fc] 85)) = wb at *
    refine wpAnyK_call (i := 8) rfl (by kernel_rfl) (by kernel_rfl) fun K8 hK8 => ?_
    refine wp_appR (sh := toS) (n := out.length) (m := 1) (.tmp 39) (.tmp 43) 44 (by rfl) 85 j0 (.agg #[.int .i64 0, .int .i64 0, .int .i64 0, .int .i64 0, .slice none 0 0, .slice none 0 0]) 80 Try.underlying44 gi gz0 gz1 gz2 rfl (by decide) (ok := oth lo w oa) (base := lo) (by rfl) houtb (by rfl) rfl hsrc (by simp only [maxLen]; omega) (by omega) (by have := hbb.size; omega) ?_
    intro oaA ocA wA hownA hgA hlieA
    have hOA := hOb.grown hgA (fun e => by have := hoaC _ e.symm; omega)
    have hXA := hXb.grown hgA (fun e => by have := hoaC _ e.symm; have := hout6.not _ e.symm; omega)
    have hFA : Frm (fun b => b ≠ O ∧ blk oa ≠ some b) B wb8 wA := (Frm.of hbb hB8).trans (Frm.grown hgA (fun k hk => ⟨fun h => h.2 hk, by have := hoaC k hk; omega⟩) (by have := hbb.size; omega))
    simp only [Act.put, List.getElem_toArray, List.getElem_cons_succ, List.getElem_cons_zero, List.setIfInBounds_toArray, List.set_cons_succ, List.set_cons_zero]
    have hS : _ := SO5.of (hO6.under hbb |>.grown hgA (fun e => by have := hoaC _ e.symm; omega)) hXA
    refine hK8 _ _ (fun _ => hS) ?_
    clear hK8
    refine wpAnyK_take (i := 9) _ rfl (by kernel_rfl) (fun _ _ _ h => hQp _ _ _ _ h) hS (yields_value (by kernel_rfl) (by intro w0 hw0; have hw1 := hw0; simp only [SO5] at hw1; first | (go_simp; done) | (go_simp; rfl))) ?_; simp only [Act.put, List.getElem_toArray, List.getElem_cons_succ, List.getElem_cons_zero, List.setIfInBounds_toArray, List.set_cons_succ, List.set_cons_zero]
    obtain ⟨q1, q2⟩ := hOA.cells
    have hOlA := hOA.lt
    have hsA := hFA.size
    clear hS
    refine wpAnyK_call (i := 10) rfl (by kernel_rfl) (by kernel_rfl) fun K10 hK10 => ?_
    go_simp
    go_wp2_with fail
    refine hK10 _ _ (fun h => absurd rfl h) ?_
    clear hK10
    have hOE := hOA.set 0 (.slice oaA (out.length + 1) ocA)
    simp only [List.setIfInBounds_toArray, List.set_cons_succ, List.set_cons_zero] at hOE
    have hownE := hownA.setAt (a := ⟨O, 0, none⟩) (fun e => by have h1 : lo ≤ O := (hownA.lt O e).1; omega) (fun h => by have h1 : lo ≤ O := h.1; omega) (.slice oaA (out.length + 1) ocA)
    have hownF : ownR toS 85 (oth lo (wA.setCell ⟨O, 0, none⟩ (.slice oaA (out.length + 1) ocA)) oaA) lo (wA.setCell ⟨O, 0, none⟩ (.slice oaA (out.length + 1) ocA)) oaA (out.length + 1) ocA (out ++ [⟨s, ⟨o.kind, up num, o.ver, o.rules, o.flows⟩⟩]) := hownE.weaken (fun b hb => ⟨hb.1, by have := hb.2.1; simp; omega, fun e => hownE.not b e hb⟩) (fun k hk h => h.2.2 hk) (fun b h => h.2.1)
    refine wpAnyK_done (by kernel_rfl) ?_ _
    refine hR _ _ ?_
    iterate 10 apply Exists.intro
    refine ⟨?_, ⟨oaA, ocA, hOE, hownF, hFA.trans (Frm.set (a := ⟨O, 0, none⟩) (fun h => h.1 rfl) hBO _)⟩⟩
    simp only [puts, Act.put, List.setIfInBounds_toArray, List.set_cons_succ, List.set_cons_zero]
    rfl
  rintro a' w8 ⟨v36, v37, v38, v39, v40, v41, v42, v43, v44, v45, rfl, hb8⟩
  simp only [puts, Act.put, List.setIfInBounds_toArray, List.set_cons_succ, List.set_cons_zero]
  --CUT4
  obtain ⟨oa', oc', hO9, hown9, hF9⟩ := hb8
  have hC9 := hF9.blk hC8 (.inl ⟨hCO, fun e => by have := hoaC _ e; omega⟩)
  have hq9 := (hF9.row' hq8 (fun b hb => .inl ⟨by omega, fun e => by have := hoaC _ e; omega⟩)).anyOk (ok' := fun b => w.heap.size ≤ b) (fun b _ hh => by omega)
  have hFZ := (hFa.weak (V := fun b => b ≠ C ∧ b ≠ O ∧ blk oa ≠ some b) (fun b hb h => .inl ⟨h.1, hb⟩) (Nat.le_refl _)).trans (hF9.weak (V := fun b => b ≠ C ∧ b ≠ O ∧ blk oa ≠ some b) (fun b hb h => .inl ⟨h.2.1, h.2.2⟩) (Nat.le_refl _))
  clear hS0 hS4 hO6 hX6 hout6 hr6 hf6 hq8 hC8 hF8 hF9 hFa
  go_wp2_with ((with_reducible refine bodyPost_end (v := .tuple #[]) ?ra1 ?rb1 ?rc1); go_must (case ra1 => simp [results, Try.results31, go_sem]); go_must (case rb1 => rfl); go_must (case rc1 => exact ⟨rfl, _, _, oa', oc', hC9, hq9, hO9, hown9, hFZ⟩))

end Go.Proofs.Ytagldmdeohenjaa
