/-
  The walk of the rules' order.
-/
import Derived.Test.YtcfcdembhjnjfaaOrderW
set_option linter.unusedSimpArgs false
set_option linter.unusedVariables false
namespace Go.Proofs.Ytcfcdembhjnjfaa
open Go.RowKit Go.St

def OC (B : Nat) (a b : Rule) (w : World) : Prop := w.cell? ⟨B, 0, none⟩ = some (.int .i64 a.ver) ∧ w.cell? ⟨B, 1, none⟩ = some (.int .i64 a.flow) ∧ w.cell? ⟨B + 1, 0, none⟩ = some (.int .i64 b.ver) ∧ w.cell? ⟨B + 1, 1, none⟩ = some (.int .i64 b.flow)
theorem OC.of {B : Nat} {a b : Rule} {w : World} {t : TypeId} (h1 : blockIs w B t #[.int .i64 a.ver, .int .i64 a.flow, .int .i64 a.next]) (h2 : blockIs w (B + 1) t #[.int .i64 b.ver, .int .i64 b.flow, .int .i64 b.next]) : OC B a b w :=
  ⟨h1.cells.1 0, h1.cells.1 1, h2.cells.1 0, h2.cells.1 1⟩

set_option maxRecDepth 100000 in
set_option maxHeartbeats 2000000 in
theorem order_c (a b : Rule) (w : World) :
    Calls Try.prog 37 #[.agg #[.int .i64 a.ver, .int .i64 a.flow, .int .i64 a.next], .agg #[.int .i64 b.ver, .int .i64 b.flow, .int .i64 b.next]] w fun e w' => e = .returned (.int .i64 (orderOf a b)) ∧ Below w.heap.size w w' := by
  go_enter Try.func37, Try.ntmps37
  go_wp2
  refine wp_region_to (OC w.heap.size a b) 99 (fun a0 a' w' => ∃ v5 v6 v7 v8 v9 v10 v11 v12 v13 v14 v15 v16, a' = puts a0 [(5, v5), (6, v6), (7, v7), (8, v8), (9, v9), (10, v10), (11, v11), (12, v12), (13, v13), (14, v14), (15, v15), (16, v16), (4, .int .i64 (orderOf a b))] ∧ Below w.heap.size w w') (by kernel_rfl) ?_ ?_
  · intro Q' hR hQp
    have hA : blockIs ((w.alloc (.cells #[.int .i64 a.ver, .int .i64 a.flow, .int .i64 a.next] 28)).alloc (.cells #[.int .i64 b.ver, .int .i64 b.flow, .int .i64 b.next] 28)).drew w.heap.size 28 #[.int .i64 a.ver, .int .i64 a.flow, .int .i64 a.next] := ((blockIs.new rfl).alloc _).drew
    have hB : blockIs ((w.alloc (.cells #[.int .i64 a.ver, .int .i64 a.flow, .int .i64 a.next] 28)).alloc (.cells #[.int .i64 b.ver, .int .i64 b.flow, .int .i64 b.next] 28)).drew (w.heap.size + 1) 28 #[.int .i64 b.ver, .int .i64 b.flow, .int .i64 b.next] := (blockIs.new (by simp)).drew
    have hb : Below w.heap.size w ((w.alloc (.cells #[.int .i64 a.ver, .int .i64 a.flow, .int .i64 a.next] 28)).alloc (.cells #[.int .i64 b.ver, .int .i64 b.flow, .int .i64 b.next] 28)).drew := by (repeat' (first | with_reducible exact Below.refl _ _ | with_reducible assumption | with_reducible refine Below.drew ?_ | with_reducible refine Below_drewN ?_ _ | with_reducible refine Below.alloc ?_ ?_ _ | with_reducible refine Below.setCell ?_ ?_ _ | omega | (simp; done) | (simp; omega)))
    generalize ((w.alloc (.cells #[.int .i64 a.ver, .int .i64 a.flow, .int .i64 a.next] 28)).alloc (.cells #[.int .i64 b.ver, .int .i64 b.flow, .int .i64 b.next] 28)).drew = wa at *
    have hS : OC w.heap.size a b wa := OC.of hA hB
    refine wpAnyK_take' (i := 0) (.pointer (some ⟨w.heap.size, 0, none⟩)) rfl (by kernel_rfl) (fun _ _ _ h => hQp _ _ _ _ h) hS (yields_value (by kernel_rfl) (by intro w0 hw0; have hw1 := hw0; simp only [OC] at hw1; go_simp)) ?_; simp only [Act.put, List.getElem_toArray, List.getElem_cons_succ, List.getElem_cons_zero, List.setIfInBounds_toArray, List.set_cons_succ, List.set_cons_zero]
    refine wpAnyK_take' (i := 1) (.int .i64 a.ver) rfl (by kernel_rfl) (fun _ _ _ h => hQp _ _ _ _ h) hS (yields_value (by kernel_rfl) (by intro w0 hw0; have hw1 := hw0; simp only [OC] at hw1; go_simp)) ?_; simp only [Act.put, List.getElem_toArray, List.getElem_cons_succ, List.getElem_cons_zero, List.setIfInBounds_toArray, List.set_cons_succ, List.set_cons_zero]
    refine wpAnyK_take' (i := 2) (.pointer (some ⟨w.heap.size + 1, 0, none⟩)) rfl (by kernel_rfl) (fun _ _ _ h => hQp _ _ _ _ h) hS (yields_value (by kernel_rfl) (by intro w0 hw0; have hw1 := hw0; simp only [OC] at hw1; go_simp)) ?_; simp only [Act.put, List.getElem_toArray, List.getElem_cons_succ, List.getElem_cons_zero, List.setIfInBounds_toArray, List.set_cons_succ, List.set_cons_zero]
    refine wpAnyK_take' (i := 3) (.int .i64 b.ver) rfl (by kernel_rfl) (fun _ _ _ h => hQp _ _ _ _ h) hS (yields_value (by kernel_rfl) (by intro w0 hw0; have hw1 := hw0; simp only [OC] at hw1; go_simp)) ?_; simp only [Act.put, List.getElem_toArray, List.getElem_cons_succ, List.getElem_cons_zero, List.setIfInBounds_toArray, List.set_cons_succ, List.set_cons_zero]
    refine wpAnyK_take' (i := 5) (.pointer (some ⟨w.heap.size, 1, none⟩)) rfl (by kernel_rfl) (fun _ _ _ h => hQp _ _ _ _ h) hS (yields_value (by kernel_rfl) (by intro w0 hw0; have hw1 := hw0; simp only [OC] at hw1; go_simp)) ?_; simp only [Act.put, List.getElem_toArray, List.getElem_cons_succ, List.getElem_cons_zero, List.setIfInBounds_toArray, List.set_cons_succ, List.set_cons_zero]
    refine wpAnyK_take' (i := 6) (.int .i64 a.flow) rfl (by kernel_rfl) (fun _ _ _ h => hQp _ _ _ _ h) hS (yields_value (by kernel_rfl) (by intro w0 hw0; have hw1 := hw0; simp only [OC] at hw1; go_simp)) ?_; simp only [Act.put, List.getElem_toArray, List.getElem_cons_succ, List.getElem_cons_zero, List.setIfInBounds_toArray, List.set_cons_succ, List.set_cons_zero]
    refine wpAnyK_take' (i := 7) (.pointer (some ⟨w.heap.size + 1, 1, none⟩)) rfl (by kernel_rfl) (fun _ _ _ h => hQp _ _ _ _ h) hS (yields_value (by kernel_rfl) (by intro w0 hw0; have hw1 := hw0; simp only [OC] at hw1; go_simp)) ?_; simp only [Act.put, List.getElem_toArray, List.getElem_cons_succ, List.getElem_cons_zero, List.setIfInBounds_toArray, List.set_cons_succ, List.set_cons_zero]
    refine wpAnyK_take' (i := 8) (.int .i64 b.flow) rfl (by kernel_rfl) (fun _ _ _ h => hQp _ _ _ _ h) hS (yields_value (by kernel_rfl) (by intro w0 hw0; have hw1 := hw0; simp only [OC] at hw1; go_simp)) ?_; simp only [Act.put, List.getElem_toArray, List.getElem_cons_succ, List.getElem_cons_zero, List.setIfInBounds_toArray, List.set_cons_succ, List.set_cons_zero]
    refine wpAnyK_call (i := 4) rfl (by kernel_rfl) (by kernel_rfl) fun K4 hK4 => ?_
    go_simp
    go_wp2_with fail
    refine (compare_c a.ver b.ver wa).mono ?_
    rintro e wb ⟨rfl, rfl⟩
    go_wp2_with fail
    refine hK4 _ _ (fun _ => hS) ?_
    clear hK4
    refine wpAnyK_call (i := 9) rfl (by kernel_rfl) (by kernel_rfl) fun K9 hK9 => ?_
    go_simp
    go_wp2_with fail
    refine (compare_c a.flow b.flow _).mono ?_
    rintro e wb ⟨rfl, rfl⟩
    go_wp2_with fail
    refine hK9 _ _ (fun _ => hS) ?_
    clear hK9
    refine wpAnyK_call (i := 10) rfl (by kernel_rfl) (by kernel_rfl) fun K10 hK10 => ?_
    go_simp
    go_wp2_with fail
    have hN : blockIs (wb.alloc (.cells #[.int .i64 (cmpI a.ver b.ver), .int .i64 (cmpI a.flow b.flow)] 3)) wb.heap.size 3 #[.int .i64 (cmpI a.ver b.ver), .int .i64 (cmpI a.flow b.flow)] := blockIs.new rfl
    have hS1 : OC w.heap.size a b (wb.alloc (.cells #[.int .i64 (cmpI a.ver b.ver), .int .i64 (cmpI a.flow b.flow)] 3)) := OC.of (hA.alloc _) (hB.alloc _)
    have hb1 : Below w.heap.size w (wb.alloc (.cells #[.int .i64 (cmpI a.ver b.ver), .int .i64 (cmpI a.flow b.flow)] 3)) := hb.alloc hb.size _
    refine hK10 _ _ (fun _ => hS1) ?_
    clear hK10 hS
    generalize wb.alloc (.cells #[.int .i64 (cmpI a.ver b.ver), .int .i64 (cmpI a.flow b.flow)] 3) = wc at *
    refine wpAnyK_call (i := 11) rfl (by kernel_rfl) (by kernel_rfl) fun K11 hK11 => ?_
    go_simp
    go_wp2_with fail
    refine (or_c (cmpI a.ver b.ver) (cmpI a.flow b.flow) _ wc hN).mono ?_
    rintro e wd ⟨rfl, rfl⟩
    go_wp2_with fail
    refine hK11 _ _ (fun _ => hS1) ?_
    clear hK11
    have hS := hS1
    rw [show orI (cmpI a.ver b.ver) (cmpI a.flow b.flow) = orderOf a b from rfl]
    refine wpAnyK_take' (i := 12) (.int .i64 (orderOf a b)) rfl (by kernel_rfl) (fun _ _ _ h => hQp _ _ _ _ h) hS (yields_value (by kernel_rfl) (by intro w0 hw0; have hw1 := hw0; simp only [OC] at hw1; go_simp)) ?_; simp only [Act.put, List.getElem_toArray, List.getElem_cons_succ, List.getElem_cons_zero, List.setIfInBounds_toArray, List.set_cons_succ, List.set_cons_zero]
    refine wpAnyK_done (by kernel_rfl) ?_ _
    refine hR _ _ ?_
    iterate 12 apply Exists.intro
    refine ⟨?_, hb1⟩
    simp only [puts, Act.put, List.setIfInBounds_toArray, List.set_cons_succ, List.set_cons_zero]
    rfl
  rintro a' w8 ⟨v5, v6, v7, v8, v9, v10, v11, v12, v13, v14, v15, v16, rfl, hb8⟩
  simp only [puts, Act.put, List.setIfInBounds_toArray, List.set_cons_succ, List.set_cons_zero]
  go_wp2
  go_ret; exact ⟨rfl, hb8⟩

end Go.Proofs.Ytcfcdembhjnjfaa
