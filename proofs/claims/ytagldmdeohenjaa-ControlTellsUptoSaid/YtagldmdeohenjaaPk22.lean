/-
  The walks of the document's Cost and in.
-/
import Derived.WalkKit
import Derived.WalkSpells
import Derived.WalkLawsBesides
import Derived.Lib.Hide
import Derived.Deep.LoopGhost
import Derived.Deep.QuietTactic
import Derived.BigQuiet
import Derived.Deep.RegionWith
import Derived.Handy
import Derived.Test.YtagldmdeohenjaaPk17
import Derived.Test.YtagldmdeohenjaaPk4
import Derived.Test.YtagldmdeohenjaaPk7
import Derived.Test.YtagldmdeohenjaaPk2
set_option linter.unusedSimpArgs false
set_option linter.unusedVariables false
namespace Go.Proofs.Ytagldmdeohenjaa
open Go.RowKit Go.St

set_option maxRecDepth 100000 in
set_option maxHeartbeats 4000000 in
theorem refCost_c (t : Topo) (cs : List Value) (ok : Nat → Prop) (a b : Int) (w : World) (h : topoS.rep ok w cs t) :
    Calls Try.prog 64 #[.agg cs.toArray, .int .i64 a, .int .i64 b] w fun e w' => e = .returned (.int .i64 (costOf t a b)) ∧ Below w.heap.size w w' := by
  obtain ⟨la, lc, rfl, hn, hr⟩ := h
  obtain ⟨n, ls⟩ := t
  dsimp only at *
  have hlx := hr.len_le
  have hst : Hid (costOf ⟨n, ls⟩ a b = costIn a b (ls.drop 0)) := rfl
  generalize costOf ⟨n, ls⟩ a b = c at *
  go_enter Try.func64, Try.ntmps64
  go_wp2
  go_loopw [8, 12] (fun _ i wr => ∃ j : Nat, j ≤ ls.length ∧ i = .int .i64 j ∧ Hid (c = costIn a b (ls.drop j)) ∧ Below w.heap.size w wr) (fun _ i _ => ls.length - (intOf i).toNat)
  case atStart => exact ⟨0, Nat.zero_le _, rfl, hst, by (repeat' (first | with_reducible exact Below.refl _ _ | with_reducible assumption | with_reducible refine Below.drew ?_ | with_reducible refine Below_drewN ?_ _ | with_reducible refine Below.alloc ?_ ?_ _ | with_reducible refine Below.setCell ?_ ?_ _ | omega | (simp; done) | (simp; omega)))⟩
  case round =>
    obtain ⟨j, hj, rfl, hall, hb⟩ := hrel
    have hsz := hb.size
    by_cases hlt : j < ls.length
    · obtain ⟨g, off, rfl, _, hbl, cs, hcs, hce⟩ := hr.get (List.getElem?_eq_getElem hlt)
      obtain ⟨rfl, _⟩ := hcs
      have e0 := cell_at hb hbl (hce 0 _ rfl)
      have e1 := cell_at hb hbl (hce 1 _ rfl)
      have e2 := cell_at hb hbl (hce 2 _ rfl)
      clear hce
      simp only [linkS, Nat.add_zero] at e0 e1 e2
      have b0 : (0 : Int) ≤ (j : Int) := by omega
      have b1 : (j : Int) < (ls.length : Int) := by omega
      have hgo := cost_go (c := c) hlt hall.out
      have hhit := cost_hit (c := c) hlt hall.out
      generalize hx : ls[j] = x at *
      obtain ⟨xa, xb, xc⟩ := x
      simp only [linkIs] at hgo hhit
      dsimp only at *
      clear hx hall
      have c1 : (xa == a) = (a == xa) := BEq.comm
      have c2 : (xb == b) = (b == xb) := BEq.comm
      have c3 : (xa == b) = (b == xa) := BEq.comm
      have c4 : (xb == a) = (a == xb) := BEq.comm
      rw [c1, c2, c3, c4] at hgo hhit
      clear c1 c2 c3 c4
      cases p1 : (a == xa) <;> cases p2 : (b == xb) <;> cases p3 : (a == xb) <;> cases p4 : (b == xa) <;> (first | (have HG := Lib.hid (hgo (by simp only [p1, p2, p3, p4]; rfl))) | (have HH := Lib.hid (hhit (by simp only [p1, p2, p3, p4]; rfl)))) <;> clear hgo hhit <;> go_wp2
      all_goals first
        | (case roundEnd =>
            go_roundw
            case rel => exact ⟨j + 1, by omega, by go_num, HG, by (repeat' (first | with_reducible exact Below.refl _ _ | with_reducible assumption | with_reducible refine Below.drew ?_ | with_reducible refine Below_drewN ?_ _ | with_reducible refine Below.alloc ?_ ?_ _ | with_reducible refine Below.setCell ?_ ?_ _ | omega | (simp; done) | (simp; omega)))⟩
            case measure => simp [intOf]; omega)
        | (go_ret; exact ⟨ret_int HH.out.symm, by (repeat' (first | with_reducible exact Below.refl _ _ | with_reducible assumption | with_reducible refine Below.drew ?_ | with_reducible refine Below_drewN ?_ _ | with_reducible refine Below.alloc ?_ ?_ _ | with_reducible refine Below.setCell ?_ ?_ _ | omega | (simp; done) | (simp; omega)))⟩)
    · have HE := Lib.hid (cost_end hlt hall.out)
      have b1 : ¬ (j : Int) < (ls.length : Int) := by omega
      clear hall
      go_wp2
      go_ret; exact ⟨ret_int HE.out.symm, by (repeat' (first | with_reducible exact Below.refl _ _ | with_reducible assumption | with_reducible refine Below.drew ?_ | with_reducible refine Below_drewN ?_ _ | with_reducible refine Below.alloc ?_ ?_ _ | with_reducible refine Below.setCell ?_ ?_ _ | omega | (simp; done) | (simp; omega)))⟩

set_option maxRecDepth 100000 in
set_option maxHeartbeats 2000000 in
theorem in_c (l : List Int) (x : Int) (ok : Nat → Prop) (ax : Option Addr) (cx : Nat) (w : World) (hx : rowRep intS ok w ax cx l) :
    Calls Try.prog 56 #[.slice ax l.length cx, .int .i64 x] w fun e w' => e = .returned (.bool (decide (x ∈ l))) ∧ w' = w := by
  have hlx := hx.len_le
  go_enter Try.func56, Try.ntmps56
  go_wp2
  go_loop [6, 9] (fun _ i => ∃ j : Nat, j ≤ l.length ∧ i = .int .i64 j ∧ Hid (x ∉ l.take j)) (fun _ i => l.length - (intOf i).toNat)
  case atStart => exact ⟨0, Nat.zero_le _, rfl, by show x ∉ _; simp⟩
  case round =>
    obtain ⟨j, hj, rfl, hall⟩ := hrel
    by_cases hlt : j < l.length
    · obtain ⟨b, off, rfl, _, hbl, cs, hcs, hce⟩ := hx.get (List.getElem?_eq_getElem hlt)
      obtain ⟨rfl, _⟩ := hcs
      have e0 := hce 0 _ rfl
      clear hce
      simp only [intS, Nat.add_zero, Nat.mul_one] at e0
      have hgo := idxI_go hall.out hlt
      have hmem : (x == l[j]) = true → decide (x ∈ l) = true := fun h => by rw [beq_iff_eq] at h; simp [h]
      rw [show (x == l[j]) = (l[j] == x) from BEq.comm] at hgo hmem
      generalize l[j] = y at *
      cases p1 : (y == x)
      · have HG := Lib.hid (hgo p1)
        clear hgo hmem
        go_wp2
        go_round
        case rel => exact ⟨j + 1, by omega, by go_num, HG⟩
        case measure => simp [intOf]; omega
      · have HH := Lib.hid (hmem p1)
        clear hgo hmem
        go_wp2
        go_ret; exact ⟨ret_bool HH.out.symm, rfl⟩
    · have HE : Hid (decide (x ∈ l) = false) := by
        have := hall.out
        rw [List.take_of_length_le (by omega)] at this
        exact decide_eq_false this
      go_wp2
      go_ret; exact ⟨ret_bool HE.out.symm, rfl⟩

end Go.Proofs.Ytagldmdeohenjaa
