/-
  The walks of the document's SameFlows and SamePlan, at equal arguments.
-/
import Derived.Test.YtpfapfgfchenoaaDoorInts
import Derived.Test.YtpfapfgfchenoaaDoorStr
import Derived.Test.YtpfapfgfchenoaaDoorBlk
import Derived.Test.YtpfapfgfchenoaaDoorTopoL
import Derived.WalkKit
import Derived.WalkSpells
import Derived.WalkLawsBesides
import Derived.Lib.Hide
import Derived.Deep.LoopGhost
import Derived.Deep.QuietTactic
import Derived.BigQuiet
import Derived.Deep.RegionWith
import Derived.Handy
set_option linter.unusedSimpArgs false
set_option linter.unusedVariables false
namespace Go.St
open Go.RowKit
/-- the cells of two flows -/
def SF (g o g' o' : Nat) (s d : Int) (va na va' na' : Option Addr) (vl nl vc nc vc' nc' : Nat) (w : World) : Prop :=
  w.cell? ⟨g, o, none⟩ = some (.int .i64 s) ∧ w.cell? ⟨g, o + 1, none⟩ = some (.int .i64 d) ∧ w.cell? ⟨g, o + 2, none⟩ = some (.slice va vl vc) ∧ w.cell? ⟨g, o + 3, none⟩ = some (.slice na nl nc) ∧
  w.cell? ⟨g', o', none⟩ = some (.int .i64 s) ∧ w.cell? ⟨g', o' + 1, none⟩ = some (.int .i64 d) ∧ w.cell? ⟨g', o' + 2, none⟩ = some (.slice va' vl vc') ∧ w.cell? ⟨g', o' + 3, none⟩ = some (.slice na' nl nc')
theorem SF.keep {B g o g' o' : Nat} {s d : Int} {va na va' na' : Option Addr} {vl nl vc nc vc' nc' : Nat} {w w' : World} (h : SF g o g' o' s d va na va' na' vl nl vc nc vc' nc' w) (hb : Below B w w') (h1 : g < B) (h2 : g' < B) : SF g o g' o' s d va na va' na' vl nl vc nc vc' nc' w' :=
  ⟨cell_at hb h1 h.1, cell_at hb h1 h.2.1, cell_at hb h1 h.2.2.1, cell_at hb h1 h.2.2.2.1, cell_at hb h2 h.2.2.2.2.1, cell_at hb h2 h.2.2.2.2.2.1, cell_at hb h2 h.2.2.2.2.2.2.1, cell_at hb h2 h.2.2.2.2.2.2.2⟩
end Go.St
namespace Go.Proofs.YtpfapfgfchenoaaDoor
open Go.RowKit Go.St

set_option maxRecDepth 100000 in
set_option maxHeartbeats 8000000 in
theorem sameFlows_c (l : List Flow) (ok ok' : Nat → Prop) (ax ay : Option Addr) (cx cy : Nat) (w : World) (hx : rowRep flowS ok w ax cx l) (hy : rowRep flowS ok' w ay cy l) :
    Calls Tryd.prog 8 #[.slice ax l.length cx, .slice ay l.length cy] w fun e w' => e = .returned (.bool true) ∧ Below w.heap.size w w' := by
  have hlx := hx.len_le
  go_enter Tryd.func8, Tryd.ntmps8
  go_wp2
  go_loopw [5, 13] (fun _ i wr => ∃ j : Nat, j ≤ l.length ∧ i = .int .i64 j ∧ Below w.heap.size w wr) (fun _ i _ => l.length - (intOf i).toNat)
  case atStart => exact ⟨0, Nat.zero_le _, rfl, by (repeat' (first | with_reducible (first | exact Below.refl _ _ | assumption | refine Below.drew ?_ | refine Below_drewN ?_ _ | refine Below.alloc ?_ ?_ _ | refine Below.setCell ?_ ?_ _) | omega | (simp; done) | (simp; omega)))⟩
  case round =>
    obtain ⟨j, hj, rfl, hb⟩ := hrel
    have hsz := hb.size
    by_cases hlt : j < l.length
    case neg =>
      have b1 : ¬ (j : Int) < (l.length : Int) := by omega
      go_wp2
      go_ret; exact ⟨rfl, by (repeat' (first | with_reducible (first | exact Below.refl _ _ | assumption | refine Below.drew ?_ | refine Below_drewN ?_ _ | refine Below.alloc ?_ ?_ _ | refine Below.setCell ?_ ?_ _) | omega | (simp; done) | (simp; omega)))⟩
    have b1 : (j : Int) < (l.length : Int) := by omega
    obtain ⟨f, hf⟩ : ∃ f, l[j]? = some f := ⟨_, List.getElem?_eq_getElem hlt⟩
    obtain ⟨g, o, rfl, _, hg, cs, hcs, hce⟩ := hx.get hf
    obtain ⟨va, vc, na, nc, rfl, _, _, hv, hn⟩ := hcs
    obtain ⟨g', o', rfl, _, hg', cs', hcs', hce'⟩ := hy.get hf
    obtain ⟨va', vc', na', nc', rfl, _, _, hv', hn'⟩ := hcs'
    have e0 := cell_at hb hg (hce 0 _ rfl)
    have e1 := cell_at hb hg (hce 1 _ rfl)
    have e2 := cell_at hb hg (hce 2 _ rfl)
    have e3 := cell_at hb hg (hce 3 _ rfl)
    have f0 := cell_at hb hg' (hce' 0 _ rfl)
    have f1 := cell_at hb hg' (hce' 1 _ rfl)
    have f2 := cell_at hb hg' (hce' 2 _ rfl)
    have f3 := cell_at hb hg' (hce' 3 _ rfl)
    simp only [flowS, Nat.add_zero] at e0 e1 e2 e3 f0 f1 f2 f3
    clear hce hce' hf
    have hIV := fun w' (hw' : Below w.heap.size w w') => ints_c f.via f.via ok ok' va va' vc vc' w' (hv.below hw') (hv'.below hw')
    have hIN := fun w' (hw' : Below w.heap.size w w') => ints_c f.no f.no ok ok' na na' nc nc' w' (hn.below hw') (hn'.below hw')
    rw [beq_self_eq_true] at hIV hIN
    have HV := Lib.hid hIV
    have HN := Lib.hid hIN
    clear hIV hIN hv hn hv' hn'
    go_wp2
    have hS0 : SF g (o + j * 4) g' (o' + j * 4) f.src f.dst va na va' na' f.via.length f.no.length vc nc vc' nc' wr.drew := ⟨e0, e1, e2, e3, f0, f1, f2, f3⟩
    have hbd : Below w.heap.size w wr.drew := by (repeat' (first | with_reducible (first | exact Below.refl _ _ | assumption | refine Below.drew ?_ | refine Below_drewN ?_ _ | refine Below.alloc ?_ ?_ _ | refine Below.setCell ?_ ?_ _) | omega | (simp; done) | (simp; omega)))
    have hzd : w.heap.size ≤ wr.drew.heap.size := by simpa using hsz
    clear e0 e1 e2 e3 f0 f1 f2 f3
    refine wp_region_K (SF g (o + j * 4) g' (o' + j * 4) f.src f.dst va na va' na' f.via.length f.no.length vc nc vc' nc') 99 (by kernel_rfl) ?_
    generalize wr.drew = w0 at *
    have hS := hS0
    have hb1 := hbd
    have hz1 := hzd
    refine wpAnyK_take' (i := 0) (.slice (some ⟨g, o, none⟩) l.length cx) rfl (by kernel_rfl) (fun _ _ _ h => h) hS (yields_value (by kernel_rfl) (by intro w0 hw0; have hw1 := hw0; simp only [SF] at hw1; go_simp)) ?_; simp only [Act.put, List.getElem_toArray, List.getElem_cons_succ, List.getElem_cons_zero, List.setIfInBounds_toArray, List.set_cons_succ, List.set_cons_zero]
    refine wpAnyK_take' (i := 1) (.int .i64 j) rfl (by kernel_rfl) (fun _ _ _ h => h) hS (yields_value (by kernel_rfl) (by intro w0 hw0; have hw1 := hw0; simp only [SF] at hw1; go_simp)) ?_; simp only [Act.put, List.getElem_toArray, List.getElem_cons_succ, List.getElem_cons_zero, List.setIfInBounds_toArray, List.set_cons_succ, List.set_cons_zero]
    refine wpAnyK_take' (i := 2) (.pointer (some ⟨g, o + j * 4, none⟩)) rfl (by kernel_rfl) (fun _ _ _ h => h) hS (yields_value (by kernel_rfl) (by intro w0 hw0; have hw1 := hw0; simp only [SF] at hw1; go_simp)) ?_; simp only [Act.put, List.getElem_toArray, List.getElem_cons_succ, List.getElem_cons_zero, List.setIfInBounds_toArray, List.set_cons_succ, List.set_cons_zero]
    refine wpAnyK_take' (i := 3) (.pointer (some ⟨g, o + j * 4, none⟩)) rfl (by kernel_rfl) (fun _ _ _ h => h) hS (yields_value (by kernel_rfl) (by intro w0 hw0; have hw1 := hw0; simp only [SF] at hw1; go_simp)) ?_; simp only [Act.put, List.getElem_toArray, List.getElem_cons_succ, List.getElem_cons_zero, List.setIfInBounds_toArray, List.set_cons_succ, List.set_cons_zero]
    refine wpAnyK_take' (i := 4) (.int .i64 f.src) rfl (by kernel_rfl) (fun _ _ _ h => h) hS (yields_value (by kernel_rfl) (by intro w0 hw0; have hw1 := hw0; simp only [SF] at hw1; go_simp)) ?_; simp only [Act.put, List.getElem_toArray, List.getElem_cons_succ, List.getElem_cons_zero, List.setIfInBounds_toArray, List.set_cons_succ, List.set_cons_zero]
    refine wpAnyK_take' (i := 5) (.slice (some ⟨g', o', none⟩) l.length cy) rfl (by kernel_rfl) (fun _ _ _ h => h) hS (yields_value (by kernel_rfl) (by intro w0 hw0; have hw1 := hw0; simp only [SF] at hw1; go_simp)) ?_; simp only [Act.put, List.getElem_toArray, List.getElem_cons_succ, List.getElem_cons_zero, List.setIfInBounds_toArray, List.set_cons_succ, List.set_cons_zero]
    refine wpAnyK_take' (i := 6) (.int .i64 j) rfl (by kernel_rfl) (fun _ _ _ h => h) hS (yields_value (by kernel_rfl) (by intro w0 hw0; have hw1 := hw0; simp only [SF] at hw1; go_simp)) ?_; simp only [Act.put, List.getElem_toArray, List.getElem_cons_succ, List.getElem_cons_zero, List.setIfInBounds_toArray, List.set_cons_succ, List.set_cons_zero]
    refine wpAnyK_take' (i := 7) (.pointer (some ⟨g', o' + j * 4, none⟩)) rfl (by kernel_rfl) (fun _ _ _ h => h) hS (yields_value (by kernel_rfl) (by intro w0 hw0; have hw1 := hw0; simp only [SF] at hw1; go_simp)) ?_; simp only [Act.put, List.getElem_toArray, List.getElem_cons_succ, List.getElem_cons_zero, List.setIfInBounds_toArray, List.set_cons_succ, List.set_cons_zero]
    refine wpAnyK_take' (i := 8) (.pointer (some ⟨g', o' + j * 4, none⟩)) rfl (by kernel_rfl) (fun _ _ _ h => h) hS (yields_value (by kernel_rfl) (by intro w0 hw0; have hw1 := hw0; simp only [SF] at hw1; go_simp)) ?_; simp only [Act.put, List.getElem_toArray, List.getElem_cons_succ, List.getElem_cons_zero, List.setIfInBounds_toArray, List.set_cons_succ, List.set_cons_zero]
    refine wpAnyK_take' (i := 9) (.int .i64 f.src) rfl (by kernel_rfl) (fun _ _ _ h => h) hS (yields_value (by kernel_rfl) (by intro w0 hw0; have hw1 := hw0; simp only [SF] at hw1; go_simp)) ?_; simp only [Act.put, List.getElem_toArray, List.getElem_cons_succ, List.getElem_cons_zero, List.setIfInBounds_toArray, List.set_cons_succ, List.set_cons_zero]
    refine wpAnyK_take' (i := 10) (.bool false) rfl (by kernel_rfl) (fun _ _ _ h => h) hS (yields_value (by kernel_rfl) (by intro w0 hw0; have hw1 := hw0; simp only [SF] at hw1; go_simp)) ?_; simp only [Act.put, List.getElem_toArray, List.getElem_cons_succ, List.getElem_cons_zero, List.setIfInBounds_toArray, List.set_cons_succ, List.set_cons_zero]
    refine wpAnyK_take' (i := 11) (.bool false) rfl (by kernel_rfl) (fun _ _ _ h => h) hS (yields_value (by kernel_rfl) (by intro w0 hw0; have hw1 := hw0; simp only [SF] at hw1; go_simp)) ?_; simp only [Act.put, List.getElem_toArray, List.getElem_cons_succ, List.getElem_cons_zero, List.setIfInBounds_toArray, List.set_cons_succ, List.set_cons_zero]
    refine wpAnyK_take' (i := 12) (.slice (some ⟨g, o, none⟩) l.length cx) rfl (by kernel_rfl) (fun _ _ _ h => h) hS (yields_value (by kernel_rfl) (by intro w0 hw0; have hw1 := hw0; simp only [SF] at hw1; go_simp)) ?_; simp only [Act.put, List.getElem_toArray, List.getElem_cons_succ, List.getElem_cons_zero, List.setIfInBounds_toArray, List.set_cons_succ, List.set_cons_zero]
    refine wpAnyK_take' (i := 13) (.int .i64 j) rfl (by kernel_rfl) (fun _ _ _ h => h) hS (yields_value (by kernel_rfl) (by intro w0 hw0; have hw1 := hw0; simp only [SF] at hw1; go_simp)) ?_; simp only [Act.put, List.getElem_toArray, List.getElem_cons_succ, List.getElem_cons_zero, List.setIfInBounds_toArray, List.set_cons_succ, List.set_cons_zero]
    refine wpAnyK_take' (i := 14) (.pointer (some ⟨g, o + j * 4, none⟩)) rfl (by kernel_rfl) (fun _ _ _ h => h) hS (yields_value (by kernel_rfl) (by intro w0 hw0; have hw1 := hw0; simp only [SF] at hw1; go_simp)) ?_; simp only [Act.put, List.getElem_toArray, List.getElem_cons_succ, List.getElem_cons_zero, List.setIfInBounds_toArray, List.set_cons_succ, List.set_cons_zero]
    refine wpAnyK_take' (i := 15) (.pointer (some ⟨g, o + j * 4 + 1, none⟩)) rfl (by kernel_rfl) (fun _ _ _ h => h) hS (yields_value (by kernel_rfl) (by intro w0 hw0; have hw1 := hw0; simp only [SF] at hw1; go_simp)) ?_; simp only [Act.put, List.getElem_toArray, List.getElem_cons_succ, List.getElem_cons_zero, List.setIfInBounds_toArray, List.set_cons_succ, List.set_cons_zero]
    refine wpAnyK_take' (i := 16) (.int .i64 f.dst) rfl (by kernel_rfl) (fun _ _ _ h => h) hS (yields_value (by kernel_rfl) (by intro w0 hw0; have hw1 := hw0; simp only [SF] at hw1; go_simp)) ?_; simp only [Act.put, List.getElem_toArray, List.getElem_cons_succ, List.getElem_cons_zero, List.setIfInBounds_toArray, List.set_cons_succ, List.set_cons_zero]
    refine wpAnyK_take' (i := 17) (.slice (some ⟨g', o', none⟩) l.length cy) rfl (by kernel_rfl) (fun _ _ _ h => h) hS (yields_value (by kernel_rfl) (by intro w0 hw0; have hw1 := hw0; simp only [SF] at hw1; go_simp)) ?_; simp only [Act.put, List.getElem_toArray, List.getElem_cons_succ, List.getElem_cons_zero, List.setIfInBounds_toArray, List.set_cons_succ, List.set_cons_zero]
    refine wpAnyK_take' (i := 18) (.int .i64 j) rfl (by kernel_rfl) (fun _ _ _ h => h) hS (yields_value (by kernel_rfl) (by intro w0 hw0; have hw1 := hw0; simp only [SF] at hw1; go_simp)) ?_; simp only [Act.put, List.getElem_toArray, List.getElem_cons_succ, List.getElem_cons_zero, List.setIfInBounds_toArray, List.set_cons_succ, List.set_cons_zero]
    refine wpAnyK_take' (i := 19) (.pointer (some ⟨g', o' + j * 4, none⟩)) rfl (by kernel_rfl) (fun _ _ _ h => h) hS (yields_value (by kernel_rfl) (by intro w0 hw0; have hw1 := hw0; simp only [SF] at hw1; go_simp)) ?_; simp only [Act.put, List.getElem_toArray, List.getElem_cons_succ, List.getElem_cons_zero, List.setIfInBounds_toArray, List.set_cons_succ, List.set_cons_zero]
    refine wpAnyK_take' (i := 20) (.pointer (some ⟨g', o' + j * 4 + 1, none⟩)) rfl (by kernel_rfl) (fun _ _ _ h => h) hS (yields_value (by kernel_rfl) (by intro w0 hw0; have hw1 := hw0; simp only [SF] at hw1; go_simp)) ?_; simp only [Act.put, List.getElem_toArray, List.getElem_cons_succ, List.getElem_cons_zero, List.setIfInBounds_toArray, List.set_cons_succ, List.set_cons_zero]
    refine wpAnyK_take' (i := 21) (.int .i64 f.dst) rfl (by kernel_rfl) (fun _ _ _ h => h) hS (yields_value (by kernel_rfl) (by intro w0 hw0; have hw1 := hw0; simp only [SF] at hw1; go_simp)) ?_; simp only [Act.put, List.getElem_toArray, List.getElem_cons_succ, List.getElem_cons_zero, List.setIfInBounds_toArray, List.set_cons_succ, List.set_cons_zero]
    refine wpAnyK_take' (i := 22) (.bool false) rfl (by kernel_rfl) (fun _ _ _ h => h) hS (yields_value (by kernel_rfl) (by intro w0 hw0; have hw1 := hw0; simp only [SF] at hw1; go_simp)) ?_; simp only [Act.put, List.getElem_toArray, List.getElem_cons_succ, List.getElem_cons_zero, List.setIfInBounds_toArray, List.set_cons_succ, List.set_cons_zero]
    refine wpAnyK_take' (i := 23) (.bool false) rfl (by kernel_rfl) (fun _ _ _ h => h) hS (yields_value (by kernel_rfl) (by intro w0 hw0; have hw1 := hw0; simp only [SF] at hw1; go_simp)) ?_; simp only [Act.put, List.getElem_toArray, List.getElem_cons_succ, List.getElem_cons_zero, List.setIfInBounds_toArray, List.set_cons_succ, List.set_cons_zero]
    refine wpAnyK_take' (i := 24) (.bool false) rfl (by kernel_rfl) (fun _ _ _ h => h) hS (yields_value (by kernel_rfl) (by intro w0 hw0; have hw1 := hw0; simp only [SF] at hw1; go_simp)) ?_; simp only [Act.put, List.getElem_toArray, List.getElem_cons_succ, List.getElem_cons_zero, List.setIfInBounds_toArray, List.set_cons_succ, List.set_cons_zero]
    refine wpAnyK_take' (i := 25) (.slice (some ⟨g, o, none⟩) l.length cx) rfl (by kernel_rfl) (fun _ _ _ h => h) hS (yields_value (by kernel_rfl) (by intro w0 hw0; have hw1 := hw0; simp only [SF] at hw1; go_simp)) ?_; simp only [Act.put, List.getElem_toArray, List.getElem_cons_succ, List.getElem_cons_zero, List.setIfInBounds_toArray, List.set_cons_succ, List.set_cons_zero]
    refine wpAnyK_take' (i := 26) (.int .i64 j) rfl (by kernel_rfl) (fun _ _ _ h => h) hS (yields_value (by kernel_rfl) (by intro w0 hw0; have hw1 := hw0; simp only [SF] at hw1; go_simp)) ?_; simp only [Act.put, List.getElem_toArray, List.getElem_cons_succ, List.getElem_cons_zero, List.setIfInBounds_toArray, List.set_cons_succ, List.set_cons_zero]
    refine wpAnyK_take' (i := 27) (.pointer (some ⟨g, o + j * 4, none⟩)) rfl (by kernel_rfl) (fun _ _ _ h => h) hS (yields_value (by kernel_rfl) (by intro w0 hw0; have hw1 := hw0; simp only [SF] at hw1; go_simp)) ?_; simp only [Act.put, List.getElem_toArray, List.getElem_cons_succ, List.getElem_cons_zero, List.setIfInBounds_toArray, List.set_cons_succ, List.set_cons_zero]
    refine wpAnyK_take' (i := 28) (.pointer (some ⟨g, o + j * 4 + 2, none⟩)) rfl (by kernel_rfl) (fun _ _ _ h => h) hS (yields_value (by kernel_rfl) (by intro w0 hw0; have hw1 := hw0; simp only [SF] at hw1; go_simp)) ?_; simp only [Act.put, List.getElem_toArray, List.getElem_cons_succ, List.getElem_cons_zero, List.setIfInBounds_toArray, List.set_cons_succ, List.set_cons_zero]
    refine wpAnyK_take' (i := 29) (.slice va f.via.length vc) rfl (by kernel_rfl) (fun _ _ _ h => h) hS (yields_value (by kernel_rfl) (by intro w0 hw0; have hw1 := hw0; simp only [SF] at hw1; go_simp)) ?_; simp only [Act.put, List.getElem_toArray, List.getElem_cons_succ, List.getElem_cons_zero, List.setIfInBounds_toArray, List.set_cons_succ, List.set_cons_zero]
    refine wpAnyK_take' (i := 30) (.slice (some ⟨g', o', none⟩) l.length cy) rfl (by kernel_rfl) (fun _ _ _ h => h) hS (yields_value (by kernel_rfl) (by intro w0 hw0; have hw1 := hw0; simp only [SF] at hw1; go_simp)) ?_; simp only [Act.put, List.getElem_toArray, List.getElem_cons_succ, List.getElem_cons_zero, List.setIfInBounds_toArray, List.set_cons_succ, List.set_cons_zero]
    refine wpAnyK_take' (i := 31) (.int .i64 j) rfl (by kernel_rfl) (fun _ _ _ h => h) hS (yields_value (by kernel_rfl) (by intro w0 hw0; have hw1 := hw0; simp only [SF] at hw1; go_simp)) ?_; simp only [Act.put, List.getElem_toArray, List.getElem_cons_succ, List.getElem_cons_zero, List.setIfInBounds_toArray, List.set_cons_succ, List.set_cons_zero]
    refine wpAnyK_take' (i := 32) (.pointer (some ⟨g', o' + j * 4, none⟩)) rfl (by kernel_rfl) (fun _ _ _ h => h) hS (yields_value (by kernel_rfl) (by intro w0 hw0; have hw1 := hw0; simp only [SF] at hw1; go_simp)) ?_; simp only [Act.put, List.getElem_toArray, List.getElem_cons_succ, List.getElem_cons_zero, List.setIfInBounds_toArray, List.set_cons_succ, List.set_cons_zero]
    refine wpAnyK_take' (i := 33) (.pointer (some ⟨g', o' + j * 4 + 2, none⟩)) rfl (by kernel_rfl) (fun _ _ _ h => h) hS (yields_value (by kernel_rfl) (by intro w0 hw0; have hw1 := hw0; simp only [SF] at hw1; go_simp)) ?_; simp only [Act.put, List.getElem_toArray, List.getElem_cons_succ, List.getElem_cons_zero, List.setIfInBounds_toArray, List.set_cons_succ, List.set_cons_zero]
    refine wpAnyK_take' (i := 34) (.slice va' f.via.length vc') rfl (by kernel_rfl) (fun _ _ _ h => h) hS (yields_value (by kernel_rfl) (by intro w0 hw0; have hw1 := hw0; simp only [SF] at hw1; go_simp)) ?_; simp only [Act.put, List.getElem_toArray, List.getElem_cons_succ, List.getElem_cons_zero, List.setIfInBounds_toArray, List.set_cons_succ, List.set_cons_zero]
    refine wpAnyK_call (i := 35) rfl (by kernel_rfl) (by kernel_rfl) fun K35 hK35 => ?_
    go_simp
    go_wp2_with fail
    refine (HV.out _ hb1).mono ?_
    rintro e w1 ⟨rfl, hc1⟩
    have hb1' : Below w.heap.size w w1 := hb1.trans (hc1.mono hz1)
    have hS1 : SF g (o + j * 4) g' (o' + j * 4) f.src f.dst va na va' na' f.via.length f.no.length vc nc vc' nc' w1 := hS.keep (hc1.mono hz1) hg hg'
    clear hS
    have hS := hS1
    go_wp2_with fail
    refine hK35 _ _ (fun _ => hS) ?_
    clear hK35
    have hb2 := hb1'
    have hz2 := hb1'.size
    refine wpAnyK_take' (i := 36) (.bool false) rfl (by kernel_rfl) (fun _ _ _ h => h) hS (yields_value (by kernel_rfl) (by intro w0 hw0; have hw1 := hw0; simp only [SF] at hw1; go_simp)) ?_; simp only [Act.put, List.getElem_toArray, List.getElem_cons_succ, List.getElem_cons_zero, List.setIfInBounds_toArray, List.set_cons_succ, List.set_cons_zero]
    refine wpAnyK_take' (i := 37) (.bool false) rfl (by kernel_rfl) (fun _ _ _ h => h) hS (yields_value (by kernel_rfl) (by intro w0 hw0; have hw1 := hw0; simp only [SF] at hw1; go_simp)) ?_; simp only [Act.put, List.getElem_toArray, List.getElem_cons_succ, List.getElem_cons_zero, List.setIfInBounds_toArray, List.set_cons_succ, List.set_cons_zero]
    refine wpAnyK_take' (i := 38) (.bool false) rfl (by kernel_rfl) (fun _ _ _ h => h) hS (yields_value (by kernel_rfl) (by intro w0 hw0; have hw1 := hw0; simp only [SF] at hw1; go_simp)) ?_; simp only [Act.put, List.getElem_toArray, List.getElem_cons_succ, List.getElem_cons_zero, List.setIfInBounds_toArray, List.set_cons_succ, List.set_cons_zero]
    refine wpAnyK_take' (i := 39) (.slice (some ⟨g, o, none⟩) l.length cx) rfl (by kernel_rfl) (fun _ _ _ h => h) hS (yields_value (by kernel_rfl) (by intro w0 hw0; have hw1 := hw0; simp only [SF] at hw1; go_simp)) ?_; simp only [Act.put, List.getElem_toArray, List.getElem_cons_succ, List.getElem_cons_zero, List.setIfInBounds_toArray, List.set_cons_succ, List.set_cons_zero]
    refine wpAnyK_take' (i := 40) (.int .i64 j) rfl (by kernel_rfl) (fun _ _ _ h => h) hS (yields_value (by kernel_rfl) (by intro w0 hw0; have hw1 := hw0; simp only [SF] at hw1; go_simp)) ?_; simp only [Act.put, List.getElem_toArray, List.getElem_cons_succ, List.getElem_cons_zero, List.setIfInBounds_toArray, List.set_cons_succ, List.set_cons_zero]
    refine wpAnyK_take' (i := 41) (.pointer (some ⟨g, o + j * 4, none⟩)) rfl (by kernel_rfl) (fun _ _ _ h => h) hS (yields_value (by kernel_rfl) (by intro w0 hw0; have hw1 := hw0; simp only [SF] at hw1; go_simp)) ?_; simp only [Act.put, List.getElem_toArray, List.getElem_cons_succ, List.getElem_cons_zero, List.setIfInBounds_toArray, List.set_cons_succ, List.set_cons_zero]
    refine wpAnyK_take' (i := 42) (.pointer (some ⟨g, o + j * 4 + 3, none⟩)) rfl (by kernel_rfl) (fun _ _ _ h => h) hS (yields_value (by kernel_rfl) (by intro w0 hw0; have hw1 := hw0; simp only [SF] at hw1; go_simp)) ?_; simp only [Act.put, List.getElem_toArray, List.getElem_cons_succ, List.getElem_cons_zero, List.setIfInBounds_toArray, List.set_cons_succ, List.set_cons_zero]
    refine wpAnyK_take' (i := 43) (.slice na f.no.length nc) rfl (by kernel_rfl) (fun _ _ _ h => h) hS (yields_value (by kernel_rfl) (by intro w0 hw0; have hw1 := hw0; simp only [SF] at hw1; go_simp)) ?_; simp only [Act.put, List.getElem_toArray, List.getElem_cons_succ, List.getElem_cons_zero, List.setIfInBounds_toArray, List.set_cons_succ, List.set_cons_zero]
    refine wpAnyK_take' (i := 44) (.slice (some ⟨g', o', none⟩) l.length cy) rfl (by kernel_rfl) (fun _ _ _ h => h) hS (yields_value (by kernel_rfl) (by intro w0 hw0; have hw1 := hw0; simp only [SF] at hw1; go_simp)) ?_; simp only [Act.put, List.getElem_toArray, List.getElem_cons_succ, List.getElem_cons_zero, List.setIfInBounds_toArray, List.set_cons_succ, List.set_cons_zero]
    refine wpAnyK_take' (i := 45) (.int .i64 j) rfl (by kernel_rfl) (fun _ _ _ h => h) hS (yields_value (by kernel_rfl) (by intro w0 hw0; have hw1 := hw0; simp only [SF] at hw1; go_simp)) ?_; simp only [Act.put, List.getElem_toArray, List.getElem_cons_succ, List.getElem_cons_zero, List.setIfInBounds_toArray, List.set_cons_succ, List.set_cons_zero]
    refine wpAnyK_take' (i := 46) (.pointer (some ⟨g', o' + j * 4, none⟩)) rfl (by kernel_rfl) (fun _ _ _ h => h) hS (yields_value (by kernel_rfl) (by intro w0 hw0; have hw1 := hw0; simp only [SF] at hw1; go_simp)) ?_; simp only [Act.put, List.getElem_toArray, List.getElem_cons_succ, List.getElem_cons_zero, List.setIfInBounds_toArray, List.set_cons_succ, List.set_cons_zero]
    refine wpAnyK_take' (i := 47) (.pointer (some ⟨g', o' + j * 4 + 3, none⟩)) rfl (by kernel_rfl) (fun _ _ _ h => h) hS (yields_value (by kernel_rfl) (by intro w0 hw0; have hw1 := hw0; simp only [SF] at hw1; go_simp)) ?_; simp only [Act.put, List.getElem_toArray, List.getElem_cons_succ, List.getElem_cons_zero, List.setIfInBounds_toArray, List.set_cons_succ, List.set_cons_zero]
    refine wpAnyK_take' (i := 48) (.slice na' f.no.length nc') rfl (by kernel_rfl) (fun _ _ _ h => h) hS (yields_value (by kernel_rfl) (by intro w0 hw0; have hw1 := hw0; simp only [SF] at hw1; go_simp)) ?_; simp only [Act.put, List.getElem_toArray, List.getElem_cons_succ, List.getElem_cons_zero, List.setIfInBounds_toArray, List.set_cons_succ, List.set_cons_zero]
    refine wpAnyK_call (i := 49) rfl (by kernel_rfl) (by kernel_rfl) fun K49 hK49 => ?_
    go_simp
    go_wp2_with fail
    refine (HN.out _ hb2).mono ?_
    rintro e w2 ⟨rfl, hc2⟩
    have hb2' : Below w.heap.size w w2 := hb2.trans (hc2.mono hz2)
    have hS2 : SF g (o + j * 4) g' (o' + j * 4) f.src f.dst va na va' na' f.via.length f.no.length vc nc vc' nc' w2 := hS.keep (hc2.mono hz2) hg hg'
    clear hS
    have hS := hS2
    go_wp2_with fail
    refine hK49 _ _ (fun _ => hS) ?_
    clear hK49
    have hb3 := hb2'
    refine wpAnyK_take' (i := 50) (.bool false) rfl (by kernel_rfl) (fun _ _ _ h => h) hS (yields_value (by kernel_rfl) (by intro w0 hw0; have hw1 := hw0; simp only [SF] at hw1; go_simp)) ?_; simp only [Act.put, List.getElem_toArray, List.getElem_cons_succ, List.getElem_cons_zero, List.setIfInBounds_toArray, List.set_cons_succ, List.set_cons_zero]
    refine wpAnyK_take' (i := 51) (.bool false) rfl (by kernel_rfl) (fun _ _ _ h => h) hS (yields_value (by kernel_rfl) (by intro w0 hw0; have hw1 := hw0; simp only [SF] at hw1; go_simp)) ?_; simp only [Act.put, List.getElem_toArray, List.getElem_cons_succ, List.getElem_cons_zero, List.setIfInBounds_toArray, List.set_cons_succ, List.set_cons_zero]
    refine wpAnyK_done (by kernel_rfl) ?_ _
    clear hS
    go_wp2
    case roundEnd =>
      go_roundw
      case rel => exact ⟨j + 1, by omega, by go_num, by (repeat' (first | with_reducible (first | exact Below.refl _ _ | assumption | refine Below.drew ?_ | refine Below_drewN ?_ _ | refine Below.alloc ?_ ?_ _ | refine Below.setCell ?_ ?_ _) | omega | (simp; done) | (simp; omega)))⟩
      case measure => simp [intOf] <;> omega

end Go.Proofs.YtpfapfgfchenoaaDoor
