/-
  Two lists held against each other: the walks of Ints, SameRules, SameOrder.
-/
import Derived.Test.YtpfapfgfchenoaaDoorRows
import Derived.Test.YtpfapfgfchenoaaDoorLib
import Derived.WalkKit
import Derived.WalkSpells
import Derived.WalkLawsBesides
import Derived.Lib.Hide
import Derived.Deep.LoopGhost
import Derived.Deep.QuietTactic
import Derived.BigQuiet
import Derived.Deep.RegionWith
import Derived.Handy
set_option linter.unusedSimpArgs false
set_option linter.unusedVariables false
namespace Go.Proofs.YtpfapfgfchenoaaDoor
open Go.RowKit Go.St

/-- from a place on the two lists are the same -/
def sameFrom {α : Type} [DecidableEq α] (a b : List α) (j : Nat) : Bool := a.drop j == b.drop j

theorem sameFrom_start {α : Type} [DecidableEq α] (a b : List α) : (a == b) = sameFrom a b 0 := rfl

theorem sameFrom_bad {α : Type} [DecidableEq α] {a b : List α} {j : Nat} (h1 : j < a.length) (h2 : j < b.length) (hi : (a == b) = sameFrom a b j) (hne : a[j] ≠ b[j]) : (a == b) = false := by
  rw [hi, sameFrom, drop_step h1, drop_step h2, beq_eq_false_iff_ne]
  intro e
  exact hne (List.cons.inj e).1

theorem sameFrom_good {α : Type} [DecidableEq α] {a b : List α} {j : Nat} (h1 : j < a.length) (h2 : j < b.length) (hi : (a == b) = sameFrom a b j) (he : a[j] = b[j]) : (a == b) = sameFrom a b (j + 1) := by
  rw [hi, sameFrom, drop_step h1, drop_step h2, sameFrom, he, Bool.eq_iff_iff, beq_iff_eq, beq_iff_eq]
  exact ⟨fun e => (List.cons.inj e).2, fun e => by rw [e]⟩

theorem sameFrom_end {α : Type} [DecidableEq α] {a b : List α} {j : Nat} (h1 : j = a.length) (h2 : j = b.length) (hi : (a == b) = sameFrom a b j) : true = (a == b) := by
  rw [hi, sameFrom, h1, List.drop_length, ← h1, h2, List.drop_length]; rfl

theorem ne_of_length {α : Type} [DecidableEq α] {a b : List α} (h : a.length ≠ b.length) : (a == b) = false := by
  rw [beq_eq_false_iff_ne]
  rintro rfl
  exact h rfl

set_option maxHeartbeats 1000000 in
theorem ints_c (xs ys : List Int) (ok ok' : Nat → Prop) (ax ay : Option Addr) (cx cy : Nat) (w : World) (hx : rowRep intS ok w ax cx xs) (hy : rowRep intS ok' w ay cy ys) :
    Calls Tryd.prog 16 #[.slice ax xs.length cx, .slice ay ys.length cy] w fun e w' => e = .returned (.bool (xs == ys)) ∧ Below w.heap.size w w' := by
  by_cases hl : xs.length = ys.length
  case neg =>
    rw [ne_of_length hl]
    have hl' : ((xs.length : Int) == (ys.length : Int)) = false := by rw [beq_eq_false_iff_ne]; omega
    clear hl
    go_enter Tryd.func16, Tryd.ntmps16
    go_wp2
    go_ret; exact ⟨rfl, by (repeat' (first | with_reducible (first | exact Below.refl _ _ | assumption | refine Below.drew ?_ | refine Below_drewN ?_ _ | refine Below.alloc ?_ ?_ _ | refine Below.setCell ?_ ?_ _) | omega | (simp; done) | (simp; omega)))⟩
  have hl' : ((xs.length : Int) == (ys.length : Int)) = true := by rw [beq_iff_eq]; omega
  have hlx := hx.len_le
  have HL := Lib.hid hl
  clear hl
  go_enter Tryd.func16, Tryd.ntmps16
  go_wp2
  go_loopw [13] (fun i wr => ∃ j : Nat, j ≤ xs.length ∧ i = .int .i64 j ∧ Hid ((xs == ys) = sameFrom xs ys j) ∧ Below w.heap.size w wr) (fun i _ => xs.length - (intOf i).toNat)
  case atStart => exact ⟨0, Nat.zero_le _, rfl, sameFrom_start _ _, Below.refl _ _⟩
  case round =>
    obtain ⟨j, hj, rfl, hall, hb⟩ := hrel
    by_cases hlt : j < xs.length
    · have hlt2 : j < ys.length := by have := HL.out; omega
      obtain ⟨b, off, rfl, _, hbl, cs, hcs, hce⟩ := hx.get (List.getElem?_eq_getElem hlt)
      obtain ⟨rfl, hi1⟩ := hcs
      have e0 := cell_at hb hbl (hce 0 _ rfl)
      clear hce
      obtain ⟨b', off', rfl, _, hbl', cs', hcs', hce'⟩ := hy.get (List.getElem?_eq_getElem hlt2)
      obtain ⟨rfl, hi2⟩ := hcs'
      have e1 := cell_at hb hbl' (hce' 0 _ rfl)
      clear hce'
      simp only [intS, Nat.add_zero, Nat.mul_one] at e0 e1
      have b0 : (0 : Int) ≤ (j : Int) := by omega
      have b1 : (j : Int) < (xs.length : Int) := by omega
      have b2 : (j : Int) < (ys.length : Int) := by omega
      go_wp2
      go_quiet (fail)
      go_wp2
      case roundEnd =>
        go_roundw
        case rel => exact ⟨j + 1, by omega, by go_num, sameFrom_good hlt hlt2 hall.out (by (try simp only [beq_iff_eq, beq_eq_false_iff_ne, bne_iff_ne, bne_eq_false_iff_eq, ne_eq, Bool.not_eq_true', Bool.not_eq_false', decide_eq_true_eq, decide_eq_false_iff_not] at *); assumption), by (repeat' (first | with_reducible (first | exact Below.refl _ _ | assumption | refine Below.drew ?_ | refine Below_drewN ?_ _ | refine Below.alloc ?_ ?_ _ | refine Below.setCell ?_ ?_ _) | omega | (simp; done) | (simp; omega)))⟩
        case measure => simp [intOf]; omega
      all_goals (go_ret; exact ⟨ret_bool (sameFrom_bad hlt hlt2 hall.out (by (try simp only [beq_iff_eq, beq_eq_false_iff_ne, bne_iff_ne, bne_eq_false_iff_eq, ne_eq, Bool.not_eq_true', Bool.not_eq_false', decide_eq_true_eq, decide_eq_false_iff_not] at *); assumption)).symm, by (repeat' (first | with_reducible (first | exact Below.refl _ _ | assumption | refine Below.drew ?_ | refine Below_drewN ?_ _ | refine Below.alloc ?_ ?_ _ | refine Below.setCell ?_ ?_ _) | omega | (simp; done) | (simp; omega)))⟩)
    · go_wp2
      go_ret; exact ⟨ret_bool (sameFrom_end (by omega) (by have := HL.out; omega) hall.out), by (repeat' (first | with_reducible (first | exact Below.refl _ _ | assumption | refine Below.drew ?_ | refine Below_drewN ?_ _ | refine Below.alloc ?_ ?_ _ | refine Below.setCell ?_ ?_ _) | omega | (simp; done) | (simp; omega)))⟩

end Go.Proofs.YtpfapfgfchenoaaDoor
