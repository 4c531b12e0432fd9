/-
  The walks of package rules' Wrong and Next.
-/
import Derived.Test.YtcfcdembhjnjfaaSwaps
import Derived.WalkKit
import Derived.WalkSpells
import Derived.WalkLawsBesides
import Derived.Lib.Hide
import Derived.Deep.LoopGhost
import Derived.Deep.QuietTactic
import Derived.BigQuiet
import Derived.Deep.RegionWith
import Derived.Handy
set_option linter.unusedSimpArgs false
set_option linter.unusedVariables false
namespace Go.St
open Go.RowKit
/-- two rules in two blocks, as they are read -/
def R2b (g o g' o' : Nat) (x y : Rule) (w : World) : Prop :=
  w.cell? ⟨g, o, none⟩ = some (.int .i64 x.ver) ∧ w.cell? ⟨g, o + 1, none⟩ = some (.int .i64 x.flow) ∧ w.cell? ⟨g, o + 2, none⟩ = some (.int .i64 x.next) ∧
  w.cell? ⟨g', o', none⟩ = some (.int .i64 y.ver) ∧ w.cell? ⟨g', o' + 1, none⟩ = some (.int .i64 y.flow) ∧ w.cell? ⟨g', o' + 2, none⟩ = some (.int .i64 y.next)
theorem R2b.under {g o g' o' : Nat} {x y : Rule} {w w' : World} (h : R2b g o g' o' x y w) (hg : g < w.heap.size) (hg' : g' < w.heap.size) (hb : Below w.heap.size w w') : R2b g o g' o' x y w' := by
  have e : ∀ k, w'.cell? ⟨g, k, none⟩ = w.cell? ⟨g, k, none⟩ := fun k => hb.cell hg
  have e' : ∀ k, w'.cell? ⟨g', k, none⟩ = w.cell? ⟨g', k, none⟩ := fun k => hb.cell hg'
  unfold R2b at *
  simp only [e, e']; exact h
theorem tab_none {l : List Rule} : tabWrong l = if 16 < l.length then (10, 0) else tabGo ((0 : Nat) : Int) (prevOf l 0) (l.drop 0) := rfl
theorem order_ge (x y : Rule) : (decide (orderOf x y ≥ 0)) = !ruleLt x y := by
  rw [← order_bool]
  simp only [ge_iff_le]
  by_cases h : orderOf x y < 0
  · rw [decide_eq_true h, decide_eq_false (by omega)]; rfl
  · rw [decide_eq_false h, decide_eq_true (by omega)]; rfl
theorem rowRep.rules {ok : Nat → Prop} {w : World} {ax : Option Addr} {cx : Nat} {l : List Rule} (h : rowRep ruleS ok w ax cx l) {j : Nat} {r : Rule} (hr : l[j]? = some r) : ∃ b off, ax = some ⟨b, off, none⟩ ∧ b < w.heap.size ∧ RI r ∧
    ∀ w', Below w.heap.size w w' → w'.cell? ⟨b, off + j * 3, none⟩ = some (.int .i64 r.ver) ∧ w'.cell? ⟨b, off + j * 3 + 1, none⟩ = some (.int .i64 r.flow) ∧ w'.cell? ⟨b, off + j * 3 + 2, none⟩ = some (.int .i64 r.next) := by
  obtain ⟨b, off, rfl, _, hbl, cs, hcs, hce⟩ := h.get hr
  obtain ⟨rfl, h1, h2, h3⟩ := hcs
  refine ⟨b, off, rfl, hbl, ⟨h1, h2, h3⟩, fun w' hb => ⟨?_, ?_, ?_⟩⟩
  · have := cell_at hb hbl (hce 0 _ rfl); simpa only [ruleS, Nat.add_zero] using this
  · have := cell_at hb hbl (hce 1 _ rfl); simpa only [ruleS] using this
  · have := cell_at hb hbl (hce 2 _ rfl); simpa only [ruleS] using this
end Go.St
namespace Go.Proofs.Ytcfcdembhjnjfaa
open Go.RowKit Go.St

set_option maxRecDepth 100000 in
set_option maxHeartbeats 8000000 in
theorem tabWrong_c (l : List Rule) (ok : Nat → Prop) (ax : Option Addr) (cx : Nat) (w : World) (hx : rowRep ruleS ok w ax cx l) :
    Calls Try.prog 16 #[.slice ax l.length cx] w fun e w' => e = .returned (.agg #[.int .i64 (tabWrong l).1, .int .i64 (tabWrong l).2]) ∧ Below w.heap.size w w' := by
  have hlx := hx.len_le
  by_cases h0 : 16 < l.length
  · have hw : tabWrong l = (10, 0) := by unfold tabWrong; rw [if_pos h0]
    rw [hw]
    have p3 : (16 : Int) < (l.length : Int) := by omega
    clear hw h0
    go_enter Try.func16, Try.ntmps16
    go_wp2
    refine bodyPost_ret (v := .agg #[.int .i64 10, .int .i64 0]) (by simp [results, Try.results16, go_sem]) rfl ⟨rfl, by (repeat' (first | with_reducible exact Below.refl _ _ | with_reducible assumption | with_reducible refine Below.drew ?_ | with_reducible refine Below_drewN ?_ _ | with_reducible refine Below.alloc ?_ ?_ _ | with_reducible refine Below.setCell ?_ ?_ _ | omega | (simp; done) | (simp; omega)))⟩
  have hst : Hid (tabWrong l = tabGo ((0 : Nat) : Int) (prevOf l 0) (l.drop 0)) := by show _ = _; unfold tabWrong; rw [if_neg h0]; rfl
  have p3 : ¬ (16 : Int) < (l.length : Int) := by omega
  generalize tabWrong l = c at *
  obtain ⟨c1, c2⟩ := c
  dsimp only
  go_enter Try.func16, Try.ntmps16
  go_wp2
  go_loopw [3, 4, 11] (fun _ _ i wr => ∃ j : Nat, j ≤ l.length ∧ i = .int .i64 j ∧ Hid ((c1, c2) = tabGo (j : Int) (prevOf l j) (l.drop j)) ∧ Below w.heap.size w wr ∧ blockIs wr w.heap.size 32 #[.int .i64 0, .int .i64 0]) (fun _ _ i _ => l.length - (intOf i).toNat)
  case atStart => exact ⟨0, Nat.zero_le _, rfl, hst, by (repeat' (first | with_reducible exact Below.refl _ _ | with_reducible assumption | with_reducible refine Below.drew ?_ | with_reducible refine Below_drewN ?_ _ | with_reducible refine Below.alloc ?_ ?_ _ | with_reducible refine Below.setCell ?_ ?_ _ | omega | (simp; done) | (simp; omega))), blockIs.new rfl⟩
  case round =>
    clear hst
    obtain ⟨j, hj, rfl, hS, hb, hF⟩ := hrel
    rename World => wo
    have hFl := hF.lt
    obtain ⟨f3, f4⟩ := hF.cells
    by_cases hlt : j < l.length
    case neg =>
      have HE := tab_end hS.out (by omega)
      obtain ⟨rfl, rfl⟩ : c1 = 0 ∧ c2 = 0 := by simpa using HE
      have b1 : ¬ (j : Int) < (l.length : Int) := by omega
      clear HE hS
      go_wp2
      have z1 := ((hF.set 0 (.int .i64 0)).set 1 (.int .i64 0)).cells.1
      refine bodyPost_ret (v := .agg #[.int .i64 0, .int .i64 0]) (by simp [results, Try.results16, go_sem, z1]) rfl ⟨rfl, by (repeat' (first | with_reducible exact Below.refl _ _ | with_reducible assumption | with_reducible refine Below.drew ?_ | with_reducible refine Below_drewN ?_ _ | with_reducible refine Below.alloc ?_ ?_ _ | with_reducible refine Below.setCell ?_ ?_ _ | omega | (simp; done) | (simp; omega)))⟩
    obtain ⟨r, hr⟩ : ∃ r, l[j]? = some r := ⟨_, List.getElem?_eq_getElem hlt⟩
    obtain ⟨b, off, rfl, hbl, hri, hce⟩ := hx.rules hr
    obtain ⟨e0, e1, e2⟩ := hce _ hb
    have HT := Lib.hid (tab_step hS.out hr)
    have b0 : (0 : Int) ≤ (j : Int) := by omega
    have b1 : (j : Int) < (l.length : Int) := by omega
    by_cases hro : ruleOut r
    · rw [if_pos hro] at HT
      have HQ := HT.out
      obtain ⟨rfl, rfl⟩ : c1 = 3 ∧ c2 = (j : Int) := by simpa using HQ
      clear HQ HT hS
      unfold ruleOut at hro
      by_cases o1 : r.ver < 1
      · go_wp2
        have z1 := (((hF.set 0 (.int .i64 3)).set 1 (.int .i64 j)).alloc (.cells #[.int .i64 r.ver, .int .i64 r.flow, .int .i64 r.next] 28)).cells.1
        refine bodyPost_ret (v := .agg #[.int .i64 3, .int .i64 j]) (by simp [results, Try.results16, go_sem, z1]) rfl ⟨rfl, by (repeat' (first | with_reducible exact Below.refl _ _ | with_reducible assumption | with_reducible refine Below.drew ?_ | with_reducible refine Below_drewN ?_ _ | with_reducible refine Below.alloc ?_ ?_ _ | with_reducible refine Below.setCell ?_ ?_ _ | omega | (simp; done) | (simp; omega)))⟩
      by_cases o2 : r.ver > 1000
      · go_wp2
        have z1 := (((hF.set 0 (.int .i64 3)).set 1 (.int .i64 j)).alloc (.cells #[.int .i64 r.ver, .int .i64 r.flow, .int .i64 r.next] 28)).cells.1
        refine bodyPost_ret (v := .agg #[.int .i64 3, .int .i64 j]) (by simp [results, Try.results16, go_sem, z1]) rfl ⟨rfl, by (repeat' (first | with_reducible exact Below.refl _ _ | with_reducible assumption | with_reducible refine Below.drew ?_ | with_reducible refine Below_drewN ?_ _ | with_reducible refine Below.alloc ?_ ?_ _ | with_reducible refine Below.setCell ?_ ?_ _ | omega | (simp; done) | (simp; omega)))⟩
      by_cases o3 : r.flow < 0
      · go_wp2
        have z1 := (((hF.set 0 (.int .i64 3)).set 1 (.int .i64 j)).alloc (.cells #[.int .i64 r.ver, .int .i64 r.flow, .int .i64 r.next] 28)).cells.1
        refine bodyPost_ret (v := .agg #[.int .i64 3, .int .i64 j]) (by simp [results, Try.results16, go_sem, z1]) rfl ⟨rfl, by (repeat' (first | with_reducible exact Below.refl _ _ | with_reducible assumption | with_reducible refine Below.drew ?_ | with_reducible refine Below_drewN ?_ _ | with_reducible refine Below.alloc ?_ ?_ _ | with_reducible refine Below.setCell ?_ ?_ _ | omega | (simp; done) | (simp; omega)))⟩
      by_cases o4 : r.flow ≥ 12
      · go_wp2
        have z1 := (((hF.set 0 (.int .i64 3)).set 1 (.int .i64 j)).alloc (.cells #[.int .i64 r.ver, .int .i64 r.flow, .int .i64 r.next] 28)).cells.1
        refine bodyPost_ret (v := .agg #[.int .i64 3, .int .i64 j]) (by simp [results, Try.results16, go_sem, z1]) rfl ⟨rfl, by (repeat' (first | with_reducible exact Below.refl _ _ | with_reducible assumption | with_reducible refine Below.drew ?_ | with_reducible refine Below_drewN ?_ _ | with_reducible refine Below.alloc ?_ ?_ _ | with_reducible refine Below.setCell ?_ ?_ _ | omega | (simp; done) | (simp; omega)))⟩
      by_cases o5 : r.next < 0
      · go_wp2
        have z1 := (((hF.set 0 (.int .i64 3)).set 1 (.int .i64 j)).alloc (.cells #[.int .i64 r.ver, .int .i64 r.flow, .int .i64 r.next] 28)).cells.1
        refine bodyPost_ret (v := .agg #[.int .i64 3, .int .i64 j]) (by simp [results, Try.results16, go_sem, z1]) rfl ⟨rfl, by (repeat' (first | with_reducible exact Below.refl _ _ | with_reducible assumption | with_reducible refine Below.drew ?_ | with_reducible refine Below_drewN ?_ _ | with_reducible refine Below.alloc ?_ ?_ _ | with_reducible refine Below.setCell ?_ ?_ _ | omega | (simp; done) | (simp; omega)))⟩
      have o6 : r.next ≥ 8 := by omega
      go_wp2
      have z1 := (((hF.set 0 (.int .i64 3)).set 1 (.int .i64 j)).alloc (.cells #[.int .i64 r.ver, .int .i64 r.flow, .int .i64 r.next] 28)).cells.1
      refine bodyPost_ret (v := .agg #[.int .i64 3, .int .i64 j]) (by simp [results, Try.results16, go_sem, z1]) rfl ⟨rfl, by (repeat' (first | with_reducible exact Below.refl _ _ | with_reducible assumption | with_reducible refine Below.drew ?_ | with_reducible refine Below_drewN ?_ _ | with_reducible refine Below.alloc ?_ ?_ _ | with_reducible refine Below.setCell ?_ ?_ _ | omega | (simp; done) | (simp; omega)))⟩
    rw [if_neg hro] at HT
    unfold ruleOut at hro
    have o1 : ¬ r.ver < 1 := by omega
    have o2 : ¬ r.ver > 1000 := by omega
    have o3 : ¬ r.flow < 0 := by omega
    have o4 : ¬ r.flow ≥ 12 := by omega
    have o5 : ¬ r.next < 0 := by omega
    have o6 : ¬ r.next ≥ 8 := by omega
    clear hro hS
    cases j with
    | zero =>
      simp only [Nat.zero_mul, Nat.add_zero] at e0 e1 e2
      have HT2 : Hid ((c1, c2) = tabGo ((0 + 1 : Nat) : Int) (prevOf l (0 + 1)) (l.drop (0 + 1))) := HT.out
      clear HT
      go_wp2
      go_quiet (fail)
      go_wp2
      case roundEnd =>
        go_roundw
        case rel => exact ⟨1, by omega, by go_num, HT2, by (repeat' (first | with_reducible exact Below.refl _ _ | with_reducible assumption | with_reducible refine Below.drew ?_ | with_reducible refine Below_drewN ?_ _ | with_reducible refine Below.alloc ?_ ?_ _ | with_reducible refine Below.setCell ?_ ?_ _ | omega | (simp; done) | (simp; omega))), hF.alloc _⟩
        case measure => simp [intOf] <;> omega
    | succ k =>
      obtain ⟨q, hq⟩ : ∃ q, l[k]? = some q := ⟨_, List.getElem?_eq_getElem (by omega)⟩
      obtain ⟨b', off', hbo, _, _, hce'⟩ := hx.rules hq
      obtain ⟨rfl, rfl⟩ : b = b' ∧ off = off' := by simpa using hbo
      obtain ⟨d0, d1, d2⟩ := hce' _ hb
      have HT2 : Hid ((c1, c2) = if (!ruleLt q r) = true then (2, ((k + 1 : Nat) : Int)) else tabGo ((k + 1 + 1 : Nat) : Int) (prevOf l (k + 1 + 1)) (l.drop (k + 1 + 1))) := by
        have := HT.out
        rw [show prevOf l (k + 1) = some q from hq] at this
        exact this
      have e3 : IntKind.i64.wrap (((k + 1 : Nat) : Int) - 1) = (k : Int) := by rw [IntWalk.i64_in _ (by omega)]; omega
      have b3 : (k : Int) < (l.length : Int) := by omega
      have hzz := hb.size
      have k9 : IntKind.i64.wrap (k : Int) = k := IntWalk.i64_in _ (by omega)
      have ob := order_ge q r
      clear HT hce hce' hbo
      go_wp2
      have hS0 : R2b b (off + k * 3) wo.heap.size 0 q r (wo.alloc (.cells #[.int .i64 r.ver, .int .i64 r.flow, .int .i64 r.next] 28)).drew := by
        have x1 := (blockIs.new (w := wo) (t := 28) (cs := #[.int .i64 r.ver, .int .i64 r.flow, .int .i64 r.next]) rfl).cells.1
        have hbb : Below wo.heap.size wo (wo.alloc (.cells #[.int .i64 r.ver, .int .i64 r.flow, .int .i64 r.next] 28)).drew := by (repeat' (first | with_reducible exact Below.refl _ _ | with_reducible assumption | with_reducible refine Below.drew ?_ | with_reducible refine Below_drewN ?_ _ | with_reducible refine Below.alloc ?_ ?_ _ | with_reducible refine Below.setCell ?_ ?_ _ | omega | (simp; done) | (simp; omega)))
        exact ⟨cell_at hbb (by omega) d0, cell_at hbb (by omega) d1, cell_at hbb (by omega) d2, x1 0, x1 1, x1 2⟩
      have hF1 : blockIs (wo.alloc (.cells #[.int .i64 r.ver, .int .i64 r.flow, .int .i64 r.next] 28)) w.heap.size 32 #[.int .i64 0, .int .i64 0] := hF.alloc _
      have hb1 : Below w.heap.size w (wo.alloc (.cells #[.int .i64 r.ver, .int .i64 r.flow, .int .i64 r.next] 28)) := by (repeat' (first | with_reducible exact Below.refl _ _ | with_reducible assumption | with_reducible refine Below.drew ?_ | with_reducible refine Below_drewN ?_ _ | with_reducible refine Below.alloc ?_ ?_ _ | with_reducible refine Below.setCell ?_ ?_ _ | omega | (simp; done) | (simp; omega)))
      have hsz1 : (wo.alloc (.cells #[.int .i64 r.ver, .int .i64 r.flow, .int .i64 r.next] 28)).heap.size = wo.heap.size + 1 := by simp
      generalize wo.alloc (.cells #[.int .i64 r.ver, .int .i64 r.flow, .int .i64 r.next] 28) = wk at *
      refine wp_region_to (R2b b (off + k * 3) wo.heap.size 0 q r) 99 (fun a0 a' w' => ∃ v46 v47 v48 v49 v50 v51 v52 v53 v54 v55 v56, a' = puts a0 [(46, v46), (47, v47), (48, v48), (49, v49), (50, v50), (51, v51), (52, v52), (53, v53), (54, v54), (55, v55), (56, v56), (57, .bool (!ruleLt q r))] ∧ Below wk.heap.size wk w') (by kernel_rfl) ?_ ?_
      · intro Q' hR hQp
        have hb0 : Below wk.heap.size wk wk.drew := by (repeat' (first | with_reducible exact Below.refl _ _ | with_reducible assumption | with_reducible refine Below.drew ?_ | with_reducible refine Below_drewN ?_ _ | with_reducible refine Below.alloc ?_ ?_ _ | with_reducible refine Below.setCell ?_ ?_ _ | omega | (simp; done) | (simp; omega)))
        have hS : R2b b (off + k * 3) wo.heap.size 0 q r wk.drew := hS0
        generalize wk.drew = wa at *
        refine wpAnyK_take' (i := 0) _ rfl (by kernel_rfl) (fun _ _ _ h => hQp _ _ _ _ h) hS (yields_value (by kernel_rfl) (by intro w0 hw0; have hw1 := hw0; simp only [R2b] at hw1; first | (go_simp; done) | (go_simp; rfl))) ?_; simp only [Act.put, List.getElem_toArray, List.getElem_cons_succ, List.getElem_cons_zero, List.setIfInBounds_toArray, List.set_cons_succ, List.set_cons_zero]
        refine wpAnyK_take' (i := 1) _ rfl (by kernel_rfl) (fun _ _ _ h => hQp _ _ _ _ h) hS (yields_value (by kernel_rfl) (by intro w0 hw0; have hw1 := hw0; simp only [R2b] at hw1; first | (go_simp; done) | (go_simp; rfl))) ?_; simp only [Act.put, List.getElem_toArray, List.getElem_cons_succ, List.getElem_cons_zero, List.setIfInBounds_toArray, List.set_cons_succ, List.set_cons_zero]
        refine wpAnyK_take' (i := 2) _ rfl (by kernel_rfl) (fun _ _ _ h => hQp _ _ _ _ h) hS (yields_value (by kernel_rfl) (by intro w0 hw0; have hw1 := hw0; simp only [R2b] at hw1; first | (go_simp; done) | (go_simp; rfl))) ?_; simp only [Act.put, List.getElem_toArray, List.getElem_cons_succ, List.getElem_cons_zero, List.setIfInBounds_toArray, List.set_cons_succ, List.set_cons_zero]
        refine wpAnyK_take' (i := 3) _ rfl (by kernel_rfl) (fun _ _ _ h => hQp _ _ _ _ h) hS (yields_value (by kernel_rfl) (by intro w0 hw0; have hw1 := hw0; simp only [R2b] at hw1; first | (go_simp; done) | (go_simp; rfl))) ?_; simp only [Act.put, List.getElem_toArray, List.getElem_cons_succ, List.getElem_cons_zero, List.setIfInBounds_toArray, List.set_cons_succ, List.set_cons_zero]
        refine wpAnyK_take' (i := 4) _ rfl (by kernel_rfl) (fun _ _ _ h => hQp _ _ _ _ h) hS (yields_value (by kernel_rfl) (by intro w0 hw0; have hw1 := hw0; simp only [R2b] at hw1; first | (go_simp; done) | (go_simp; rfl))) ?_; simp only [Act.put, List.getElem_toArray, List.getElem_cons_succ, List.getElem_cons_zero, List.setIfInBounds_toArray, List.set_cons_succ, List.set_cons_zero]
        refine wpAnyK_take' (i := 5) _ rfl (by kernel_rfl) (fun _ _ _ h => hQp _ _ _ _ h) hS (yields_value (by kernel_rfl) (by intro w0 hw0; have hw1 := hw0; simp only [R2b] at hw1; first | (go_simp; done) | (go_simp; rfl))) ?_; simp only [Act.put, List.getElem_toArray, List.getElem_cons_succ, List.getElem_cons_zero, List.setIfInBounds_toArray, List.set_cons_succ, List.set_cons_zero]
        refine wpAnyK_take' (i := 6) _ rfl (by kernel_rfl) (fun _ _ _ h => hQp _ _ _ _ h) hS (yields_value (by kernel_rfl) (by intro w0 hw0; have hw1 := hw0; simp only [R2b] at hw1; first | (go_simp; done) | (go_simp; rfl))) ?_; simp only [Act.put, List.getElem_toArray, List.getElem_cons_succ, List.getElem_cons_zero, List.setIfInBounds_toArray, List.set_cons_succ, List.set_cons_zero]
        refine wpAnyK_take' (i := 7) _ rfl (by kernel_rfl) (fun _ _ _ h => hQp _ _ _ _ h) hS (yields_value (by kernel_rfl) (by intro w0 hw0; have hw1 := hw0; simp only [R2b] at hw1; first | (go_simp; done) | (go_simp; rfl))) ?_; simp only [Act.put, List.getElem_toArray, List.getElem_cons_succ, List.getElem_cons_zero, List.setIfInBounds_toArray, List.set_cons_succ, List.set_cons_zero]
        refine wpAnyK_take' (i := 8) _ rfl (by kernel_rfl) (fun _ _ _ h => hQp _ _ _ _ h) hS (yields_value (by kernel_rfl) (by intro w0 hw0; have hw1 := hw0; simp only [R2b] at hw1; first | (go_simp; done) | (go_simp; rfl))) ?_; simp only [Act.put, List.getElem_toArray, List.getElem_cons_succ, List.getElem_cons_zero, List.setIfInBounds_toArray, List.set_cons_succ, List.set_cons_zero]
        clear hS
        refine wpAnyK_call (i := 9) rfl (by kernel_rfl) (by kernel_rfl) fun K9 hK9 => ?_
        go_simp
        go_wp2_with fail
        refine (order_c q r wa).mono ?_
        rintro e wb ⟨rfl, hb3⟩
        go_wp2_with fail
        have hb2 : Below wk.heap.size wk wb := hb0.trans (hb3.mono hb0.size)
        have hS : _ := hS0.under (by have := hb0.size; omega) (by have := hb0.size; omega) hb3
        refine hK9 _ _ (fun _ => hS) ?_
        clear hK9
        refine wpAnyK_take' (i := 10) _ rfl (by kernel_rfl) (fun _ _ _ h => hQp _ _ _ _ h) hS (yields_value (by kernel_rfl) (by intro w0 hw0; have hw1 := hw0; simp only [R2b] at hw1; first | (go_simp; done) | (go_simp; rfl))) ?_; simp only [Act.put, List.getElem_toArray, List.getElem_cons_succ, List.getElem_cons_zero, List.setIfInBounds_toArray, List.set_cons_succ, List.set_cons_zero]
        refine wpAnyK_take' (i := 11) _ rfl (by kernel_rfl) (fun _ _ _ h => hQp _ _ _ _ h) hS (yields_value (by kernel_rfl) (by intro w0 hw0; have hw1 := hw0; simp only [R2b] at hw1; first | (go_simp; done) | (go_simp; rfl))) ?_; simp only [Act.put, List.getElem_toArray, List.getElem_cons_succ, List.getElem_cons_zero, List.setIfInBounds_toArray, List.set_cons_succ, List.set_cons_zero]
        refine wpAnyK_done (by kernel_rfl) ?_ _
        refine hR _ _ ?_
        iterate 11 apply Exists.intro
        refine ⟨?_, hb2⟩
        simp only [puts, Act.put, List.setIfInBounds_toArray, List.set_cons_succ, List.set_cons_zero]
        rfl
      rintro a' w8 ⟨v46, v47, v48, v49, v50, v51, v52, v53, v54, v55, v56, rfl, hb8⟩
      simp only [puts, Act.put, List.setIfInBounds_toArray, List.set_cons_succ, List.set_cons_zero]
      have hF8 := hF1.under hb8
      have hb9 : Below w.heap.size w w8 := hb1.trans (hb8.mono (by omega))
      have hFl8 := hF8.lt
      obtain ⟨f8, f9⟩ := hF8.cells
      clear hS0 hF1 hb1 hb8
      by_cases hqr : (!ruleLt q r) = true
      · have HT3 := HT2.out
        rw [if_pos hqr] at HT3
        obtain ⟨rfl, rfl⟩ : c1 = 2 ∧ c2 = ((k + 1 : Nat) : Int) := by simpa using HT3
        rw [hqr]
        clear HT2 HT3 hqr
        go_wp2
        have z1 := ((hF8.set 0 (.int .i64 2)).set 1 (.int .i64 ((k : Int) + 1))).cells.1
        refine bodyPost_ret (v := .agg #[.int .i64 2, .int .i64 ((k : Int) + 1)]) (by simp [results, Try.results16, go_sem, z1]) rfl ⟨by simp, by (repeat' (first | with_reducible exact Below.refl _ _ | with_reducible assumption | with_reducible refine Below.drew ?_ | with_reducible refine Below_drewN ?_ _ | with_reducible refine Below.alloc ?_ ?_ _ | with_reducible refine Below.setCell ?_ ?_ _ | omega | (simp; done) | (simp; omega)))⟩
      · have HT3 := HT2.out
        rw [if_neg hqr] at HT3
        have HT4 := Lib.hid HT3
        have hqr' : (!ruleLt q r) = false := by simpa using hqr
        rw [hqr']
        clear HT2 HT3 hqr hqr'
        go_wp2
        case roundEnd =>
          go_roundw
          case rel => exact ⟨k + 1 + 1, by omega, by go_num, HT4, hb9, hF8⟩
          case measure => simp [intOf] <;> omega

set_option maxRecDepth 100000 in
set_option maxHeartbeats 4000000 in
theorem next_c (l : List Rule) (v f : Int) (ok : Nat → Prop) (ax : Option Addr) (cx : Nat) (w : World) (hx : rowRep ruleS ok w ax cx l) :
    Calls Try.prog 15 #[.slice ax l.length cx, .int .i64 v, .int .i64 f] w fun e w' => e = .returned (.tuple #[.int .i64 (nextOf l v f).1, .bool (nextOf l v f).2]) ∧ Below w.heap.size w w' := by
  have hlx := hx.len_le
  have hst : Hid (nextOf l v f = nextOf (l.drop 0) v f) := rfl
  generalize nextOf l v f = c at *
  obtain ⟨c1, c2⟩ := c
  dsimp only
  go_enter Try.func15, Try.ntmps15
  go_wp2
  go_loopw [9, 12] (fun _ i wr => ∃ j : Nat, j ≤ l.length ∧ i = .int .i64 j ∧ Hid ((c1, c2) = nextOf (l.drop j) v f) ∧ Below w.heap.size w wr) (fun _ i _ => l.length - (intOf i).toNat)
  case atStart => exact ⟨0, Nat.zero_le _, rfl, hst, Below.refl _ _⟩
  case round =>
    clear hst
    obtain ⟨j, hj, rfl, hS, hb⟩ := hrel
    rename World => wo
    by_cases hlt : j < l.length
    case neg =>
      obtain ⟨rfl, rfl⟩ : c1 = 0 ∧ c2 = false := by have := next_end hS.out (by omega); simpa using this
      have b1 : ¬ (j : Int) < (l.length : Int) := by omega
      clear hS
      go_wp2
      go_returns; exact ⟨rfl, by (repeat' (first | with_reducible exact Below.refl _ _ | with_reducible assumption | with_reducible refine Below.drew ?_ | with_reducible refine Below_drewN ?_ _ | with_reducible refine Below.alloc ?_ ?_ _ | with_reducible refine Below.setCell ?_ ?_ _ | omega | (simp; done) | (simp; omega)))⟩
    obtain ⟨r, hr⟩ : ∃ r, l[j]? = some r := ⟨_, List.getElem?_eq_getElem hlt⟩
    obtain ⟨b, off, rfl, hbl, hri, hce⟩ := hx.rules hr
    obtain ⟨e0, e1, e2⟩ := hce _ hb
    have HT := Lib.hid (next_step hS.out hr)
    have b0 : (0 : Int) ≤ (j : Int) := by omega
    have b1 : (j : Int) < (l.length : Int) := by omega
    have hzz := hb.size
    clear hS hce hr
    by_cases h1 : r.ver = v
    · by_cases h2 : r.flow = f
      · have HE := HT.out
        rw [if_pos ⟨h1, h2⟩] at HE
        obtain ⟨rfl, rfl⟩ : c1 = r.next ∧ c2 = true := by simpa using HE
        clear HE
        have p1 : (r.ver == v) = true := by simpa using h1
        have p2 : (r.flow == f) = true := by simpa using h2
        clear HT h1 h2
        go_wp2
        go_returns; exact ⟨rfl, by (repeat' (first | with_reducible exact Below.refl _ _ | with_reducible assumption | with_reducible refine Below.drew ?_ | with_reducible refine Below_drewN ?_ _ | with_reducible refine Below.alloc ?_ ?_ _ | with_reducible refine Below.setCell ?_ ?_ _ | omega | (simp; done) | (simp; omega)))⟩
      · have HE := HT.out
        rw [if_neg (fun h => h2 h.2)] at HE
        have HE := Lib.hid HE
        have p1 : (r.ver == v) = true := by simpa using h1
        have p2 : (r.flow == f) = false := by simpa using h2
        clear HT h1 h2
        go_wp2
        go_roundw
        case rel => exact ⟨j + 1, by omega, by go_num, HE, by (repeat' (first | with_reducible exact Below.refl _ _ | with_reducible assumption | with_reducible refine Below.drew ?_ | with_reducible refine Below_drewN ?_ _ | with_reducible refine Below.alloc ?_ ?_ _ | with_reducible refine Below.setCell ?_ ?_ _ | omega | (simp; done) | (simp; omega)))⟩
        case measure => simp [intOf] <;> omega
    · have HE := HT.out
      rw [if_neg (fun h => h1 h.1)] at HE
      have HE := Lib.hid HE
      have p1 : (r.ver == v) = false := by simpa using h1
      clear HT h1
      go_wp2
      go_roundw
      case rel => exact ⟨j + 1, by omega, by go_num, HE, by (repeat' (first | with_reducible exact Below.refl _ _ | with_reducible assumption | with_reducible refine Below.drew ?_ | with_reducible refine Below_drewN ?_ _ | with_reducible refine Below.alloc ?_ ?_ _ | with_reducible refine Below.setCell ?_ ?_ _ | omega | (simp; done) | (simp; omega)))⟩
      case measure => simp [intOf] <;> omega

end Go.Proofs.Ytcfcdembhjnjfaa
