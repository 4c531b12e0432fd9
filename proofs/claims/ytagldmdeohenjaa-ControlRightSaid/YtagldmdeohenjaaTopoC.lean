/-
  The walk of package topo's Cost.
-/
import Derived.Test.YtagldmdeohenjaaTopoS
import Derived.Test.YtagldmdeohenjaaRows
import Derived.Test.YtagldmdeohenjaaLib
import Derived.WalkKit
import Derived.WalkSpells
import Derived.WalkLawsBesides
import Derived.Lib.Hide
import Derived.Deep.LoopGhost
import Derived.Deep.QuietTactic
import Derived.BigQuiet
import Derived.Deep.RegionWith
import Derived.Handy
set_option linter.unusedSimpArgs false
set_option linter.unusedVariables false
namespace Go.St
theorem cost_go {ls : List Link} {a b c : Int} {j : Nat} (hj : j < ls.length) (h : c = costIn a b (ls.drop j)) (hl : linkIs a b ls[j] = false) : c = costIn a b (ls.drop (j + 1)) := by
  rw [h, List.drop_eq_getElem_cons hj]; simp [costIn, hl]
theorem cost_hit {ls : List Link} {a b c : Int} {j : Nat} (hj : j < ls.length) (h : c = costIn a b (ls.drop j)) (hl : linkIs a b ls[j] = true) : c = ls[j].cost := by
  rw [h, List.drop_eq_getElem_cons hj]; simp [costIn, hl]
theorem cost_end {ls : List Link} {a b c : Int} {j : Nat} (hj : ¬ j < ls.length) (h : c = costIn a b (ls.drop j)) : c = 0 := by
  rw [h, List.drop_of_length_le (by omega)]; rfl
end Go.St
namespace Go.Proofs.Ytagldmdeohenjaa
open Go.RowKit Go.St

set_option maxRecDepth 100000 in
set_option maxHeartbeats 4000000 in
theorem cost_c (t : Topo) (cs : List Value) (ok : Nat → Prop) (a b : Int) (w : World) (h : topoS.rep ok w cs t) :
    Calls Try.prog 61 #[.agg cs.toArray, .int .i64 a, .int .i64 b] w fun e w' => e = .returned (.int .i64 (costOf t a b)) ∧ Below w.heap.size w w' := by
  obtain ⟨la, lc, rfl, hn, hr⟩ := h
  obtain ⟨n, ls⟩ := t
  dsimp only at *
  have hlx := hr.len_le
  have hst : Hid (costOf ⟨n, ls⟩ a b = costIn a b (ls.drop 0)) := rfl
  generalize costOf ⟨n, ls⟩ a b = c at *
  go_enter Try.func61, Try.ntmps61
  go_wp2
  go_loopw [8, 12] (fun _ i wr => ∃ j : Nat, j ≤ ls.length ∧ i = .int .i64 j ∧ Hid (c = costIn a b (ls.drop j)) ∧ Below w.heap.size w wr) (fun _ i _ => ls.length - (intOf i).toNat)
  case atStart => exact ⟨0, Nat.zero_le _, rfl, hst, by (repeat' (first | with_reducible exact Below.refl _ _ | with_reducible assumption | with_reducible refine Below.drew ?_ | with_reducible refine Below_drewN ?_ _ | with_reducible refine Below.alloc ?_ ?_ _ | with_reducible refine Below.setCell ?_ ?_ _ | omega | (simp; done) | (simp; omega)))⟩
  case round =>
    obtain ⟨j, hj, rfl, hall, hb⟩ := hrel
    have hsz := hb.size
    by_cases hlt : j < ls.length
    · obtain ⟨g, off, rfl, _, hbl, cs, hcs, hce⟩ := hr.get (List.getElem?_eq_getElem hlt)
      obtain ⟨rfl, _⟩ := hcs
      have e0 := cell_at hb hbl (hce 0 _ rfl)
      have e1 := cell_at hb hbl (hce 1 _ rfl)
      have e2 := cell_at hb hbl (hce 2 _ rfl)
      clear hce
      simp only [linkS, Nat.add_zero] at e0 e1 e2
      have b0 : (0 : Int) ≤ (j : Int) := by omega
      have b1 : (j : Int) < (ls.length : Int) := by omega
      have hgo := cost_go (c := c) hlt hall.out
      have hhit := cost_hit (c := c) hlt hall.out
      generalize hx : ls[j] = x at *
      obtain ⟨xa, xb, xc⟩ := x
      simp only [linkIs] at hgo hhit
      dsimp only at *
      clear hx hall
      cases p1 : (xa == a) <;> cases p2 : (xb == b) <;> cases p3 : (xa == b) <;> cases p4 : (xb == a) <;> (first | (have HG := Lib.hid (hgo (by simp only [p1, p2, p3, p4]; rfl))) | (have HH := Lib.hid (hhit (by simp only [p1, p2, p3, p4]; rfl)))) <;> clear hgo hhit <;> go_wp2
      all_goals first
        | (case roundEnd =>
            go_roundw
            case rel => exact ⟨j + 1, by omega, by go_num, HG, by (repeat' (first | with_reducible exact Below.refl _ _ | with_reducible assumption | with_reducible refine Below.drew ?_ | with_reducible refine Below_drewN ?_ _ | with_reducible refine Below.alloc ?_ ?_ _ | with_reducible refine Below.setCell ?_ ?_ _ | omega | (simp; done) | (simp; omega)))⟩
            case measure => simp [intOf]; omega)
        | (go_ret; exact ⟨ret_int HH.out.symm, by (repeat' (first | with_reducible exact Below.refl _ _ | with_reducible assumption | with_reducible refine Below.drew ?_ | with_reducible refine Below_drewN ?_ _ | with_reducible refine Below.alloc ?_ ?_ _ | with_reducible refine Below.setCell ?_ ?_ _ | omega | (simp; done) | (simp; omega)))⟩)
    · have HE := Lib.hid (cost_end hlt hall.out)
      have b1 : ¬ (j : Int) < (ls.length : Int) := by omega
      clear hall
      go_wp2
      go_ret; exact ⟨ret_int HE.out.symm, by (repeat' (first | with_reducible exact Below.refl _ _ | with_reducible assumption | with_reducible refine Below.drew ?_ | with_reducible refine Below_drewN ?_ _ | with_reducible refine Below.alloc ?_ ?_ _ | with_reducible refine Below.setCell ?_ ?_ _ | omega | (simp; done) | (simp; omega)))⟩

end Go.Proofs.Ytagldmdeohenjaa
