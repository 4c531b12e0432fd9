/-
  The walks of package wire's Wrong and of the document's.
-/
import Derived.Test.YtagldmdeohenjaaRows
import Derived.Test.YtagldmdeohenjaaWire
import Derived.Test.YtagldmdeohenjaaLib
import Derived.WalkKit
import Derived.WalkSpells
import Derived.WalkLawsBesides
import Derived.Lib.Hide
import Derived.Deep.LoopGhost
import Derived.Deep.QuietTactic
import Derived.BigQuiet
import Derived.Deep.RegionWith
import Derived.Handy
set_option linter.unusedSimpArgs false
set_option linter.unusedVariables false
namespace Go.Proofs.Ytagldmdeohenjaa
open Go.RowKit Go.St

def zeroIf (b : Bool) : Int := if b then 0 else 3

def prevOf (l : List Int) (j : Nat) : Int := if j = 0 then -1 else l.getD (j - 1) 0

theorem flows_step {l : List Int} {j : Nat} (h : j < l.length) (hi : flowsOk (-1) l = flowsOk (prevOf l j) (l.drop j)) :
    flowsOk (-1) l = (decide (prevOf l j < l[j]) && (decide (0 ≤ l[j]) && (decide (l[j] < 12) && flowsOk (prevOf l (j + 1)) (l.drop (j + 1))))) := by
  rw [hi, drop_step h]
  simp [flowsOk, prevOf, h]

theorem flows_bad {l : List Int} {j : Nat} (h : j < l.length) (hi : flowsOk (-1) l = flowsOk (prevOf l j) (l.drop j)) (hb : l[j] ≤ prevOf l j ∨ l[j] < 0 ∨ 12 ≤ l[j]) : flowsOk (-1) l = false := by
  rw [flows_step h hi]
  simp only [Bool.and_eq_false_iff, decide_eq_false_iff_not]; omega

theorem flows_good {l : List Int} {j : Nat} (h : j < l.length) (hi : flowsOk (-1) l = flowsOk (prevOf l j) (l.drop j)) (h1 : prevOf l j < l[j]) (h2 : 0 ≤ l[j]) (h3 : l[j] < 12) : flowsOk (-1) l = flowsOk (prevOf l (j + 1)) (l.drop (j + 1)) := by
  rw [flows_step h hi]
  simp [h1, h2, h3]

theorem flows_end {l : List Int} {j : Nat} (h : j = l.length) (hi : flowsOk (-1) l = flowsOk (prevOf l j) (l.drop j)) : flowsOk (-1) l = true := by
  rw [hi, h, List.drop_length]; rfl

theorem rules_bad {l : List Rule} {v : Int} {j : Nat} (h : j < l.length) (hi : l.all (ruleOk v) = (l.drop j).all (ruleOk v)) (hb : l[j].ver ≠ v ∨ l[j].flow < 0 ∨ 12 ≤ l[j].flow ∨ l[j].next < 0 ∨ 8 ≤ l[j].next) : l.all (ruleOk v) = false := by
  rw [all_step h hi]
  simp only [ruleOk, Bool.and_eq_false_iff, decide_eq_false_iff_not, beq_eq_false_iff_ne]; omega

theorem rules_good {l : List Rule} {v : Int} {j : Nat} (h : j < l.length) (hi : l.all (ruleOk v) = (l.drop j).all (ruleOk v)) (h1 : l[j].ver = v) (h2 : 0 ≤ l[j].flow) (h3 : l[j].flow < 12) (h4 : 0 ≤ l[j].next) (h5 : l[j].next < 8) : l.all (ruleOk v) = (l.drop (j + 1)).all (ruleOk v) := by
  rw [all_step h hi]
  simp [ruleOk, h1, h2, h3, h4, h5]

theorem rules_end {l : List Rule} {v : Int} {j : Nat} (h : j = l.length) (hi : l.all (ruleOk v) = (l.drop j).all (ruleOk v)) : l.all (ruleOk v) = true := by
  rw [hi, h, List.drop_length]; rfl

set_option maxHeartbeats 4000000 in
theorem wireWrong_neg (k n v : Int) (ra fa : Option Addr) (rl rc fl fc : Nat) (w : World) (hh : ¬ (1 ≤ n ∧ n ≤ 100000 ∧ 1 ≤ v ∧ v ≤ 1000)) :
    Calls Try.prog 19 #[.agg #[.int .i64 k, .int .i64 n, .int .i64 v, .slice ra rl rc, .slice fa fl fc]] w fun e w' => e = .returned (.int .i64 3) ∧ Below w.heap.size w w' := by
  go_enter Try.func19, Try.ntmps19
  go_wp2
  all_goals (go_ret; exact ⟨rfl, by (repeat' (first | with_reducible exact Below.refl _ _ | with_reducible assumption | with_reducible refine Below.drew ?_ | with_reducible refine Below_drewN ?_ _ | with_reducible refine Below.alloc ?_ ?_ _ | with_reducible refine Below.setCell ?_ ?_ _ | omega | (simp; done) | (simp; omega)))⟩)

set_option maxHeartbeats 4000000 in
theorem wireWrong_add (n v : Int) (ra fa : Option Addr) (rc fl fc : Nat) (rs : List Rule) (ok : Nat → Prop) (w : World) (hr : rowRep ruleS ok w ra rc rs) (h1 : 1 ≤ n) (h2 : n ≤ 100000) (h3 : 1 ≤ v) (h4 : v ≤ 1000) (hm' : rs.length ≤ 16) :
    Calls Try.prog 19 #[.agg #[.int .i64 1, .int .i64 n, .int .i64 v, .slice ra rs.length rc, .slice fa fl fc]] w fun e w' => e = .returned (.int .i64 (zeroIf (rs.all (ruleOk v)))) ∧ Below w.heap.size w w' := by
  go_enter Try.func19, Try.ntmps19
  go_wp2
  go_loopw [36] (fun i wr => ∃ j : Nat, j ≤ rs.length ∧ i = .int .i64 j ∧ Hid (rs.all (ruleOk v) = (rs.drop j).all (ruleOk v)) ∧ Below w.heap.size w wr ∧ w.heap.size < wr.heap.size ∧ wr.cell? ⟨w.heap.size, 2, none⟩ = some (.int .i64 v)) (fun i _ => rs.length - (intOf i).toNat)
  case atStart => exact ⟨0, Nat.zero_le _, rfl, rfl, (Below.refl _ _).alloc (Nat.le_refl _) _, by simp, by simp [go_sem]⟩
  case round =>
    obtain ⟨j, hj, rfl, hall, hb, hsz, hc2⟩ := hrel
    by_cases hlt : j < rs.length
    · obtain ⟨b, off, rfl, _, hbl, cs, hcs, hce⟩ := hr.get (List.getElem?_eq_getElem hlt)
      obtain ⟨rfl, hi1, hi2, hi3⟩ := hcs
      have e0 := cell_at hb hbl (hce 0 _ rfl)
      have e1 := cell_at hb hbl (hce 1 _ rfl)
      have e2 := cell_at hb hbl (hce 2 _ rfl)
      clear hce
      simp only [ruleS, Nat.add_zero] at e0 e1 e2
      go_wp2
      case roundEnd =>
        go_roundw
        case rel => refine ⟨j + 1, by omega, by go_num, rules_good hlt hall.out ?_ ?_ ?_ ?_ ?_, by (repeat' (first | with_reducible exact Below.refl _ _ | with_reducible assumption | with_reducible refine Below.drew ?_ | with_reducible refine Below_drewN ?_ _ | with_reducible refine Below.alloc ?_ ?_ _ | with_reducible refine Below.setCell ?_ ?_ _ | omega | (simp; done) | (simp; omega))), by simp <;> omega, by go_simp⟩ <;> omega
        case measure => simp [intOf]; omega
      all_goals (go_ret; exact ⟨ret_int (by rw [rules_bad hlt hall.out (by omega)]; rfl), by (repeat' (first | with_reducible exact Below.refl _ _ | with_reducible assumption | with_reducible refine Below.drew ?_ | with_reducible refine Below_drewN ?_ _ | with_reducible refine Below.alloc ?_ ?_ _ | with_reducible refine Below.setCell ?_ ?_ _ | omega | (simp; done) | (simp; omega)))⟩)
    · go_wp2
      go_ret; exact ⟨ret_int (by rw [rules_end (by omega) hall.out]; rfl), by (repeat' (first | with_reducible exact Below.refl _ _ | with_reducible assumption | with_reducible refine Below.drew ?_ | with_reducible refine Below_drewN ?_ _ | with_reducible refine Below.alloc ?_ ?_ _ | with_reducible refine Below.setCell ?_ ?_ _ | omega | (simp; done) | (simp; omega)))⟩

set_option maxHeartbeats 4000000 in
theorem wireWrong_stamp (n v : Int) (ra fa : Option Addr) (rl rc fc : Nat) (fs : List Int) (ok : Nat → Prop) (w : World) (hf : rowRep intS ok w fa fc fs) (h1 : 1 ≤ n) (h2 : n ≤ 100000) (h3 : 1 ≤ v) (h4 : v ≤ 1000) (hm' : fs.length ≤ 12) :
    Calls Try.prog 19 #[.agg #[.int .i64 2, .int .i64 n, .int .i64 v, .slice ra rl rc, .slice fa fs.length fc]] w fun e w' => e = .returned (.int .i64 (zeroIf (flowsOk (-1) fs))) ∧ Below w.heap.size w w' := by
  go_enter Try.func19, Try.ntmps19
  go_wp2
  go_loopw [75] (fun i wr => ∃ j : Nat, j ≤ fs.length ∧ i = .int .i64 j ∧ Hid (flowsOk (-1) fs = flowsOk (prevOf fs j) (fs.drop j)) ∧ Below w.heap.size w wr ∧ w.heap.size < wr.heap.size ∧ wr.cell? ⟨w.heap.size, 4, none⟩ = some (.slice fa fs.length fc)) (fun i _ => fs.length - (intOf i).toNat)
  case atStart => exact ⟨0, Nat.zero_le _, rfl, rfl, (Below.refl _ _).alloc (Nat.le_refl _) _, by simp, by simp [go_sem]⟩
  case round =>
    obtain ⟨j, hj, rfl, hall, hb, hsz, hc2⟩ := hrel
    by_cases hlt : j < fs.length
    · obtain ⟨b, off, rfl, _, hbl, cs, hcs, hce⟩ := hf.get (List.getElem?_eq_getElem hlt)
      obtain ⟨rfl, hi1⟩ := hcs
      have e0 := cell_at hb hbl (hce 0 _ rfl)
      clear hce
      simp only [intS, Nat.add_zero, Nat.mul_one] at e0
      by_cases h0 : j = 0
      · have hp : Hid (prevOf fs j = -1) := by show _ = _; simp [prevOf, h0]
        have hj0 : ¬ (0 : Int) < (j : Int) := by omega
        clear h0
        go_wp2
        case roundEnd =>
          go_roundw
          case rel => refine ⟨j + 1, by omega, by go_num, flows_good hlt hall.out ?_ ?_ ?_, by (repeat' (first | with_reducible exact Below.refl _ _ | with_reducible assumption | with_reducible refine Below.drew ?_ | with_reducible refine Below_drewN ?_ _ | with_reducible refine Below.alloc ?_ ?_ _ | with_reducible refine Below.setCell ?_ ?_ _ | omega | (simp; done) | (simp; omega))), by omega, by go_simp⟩ <;> (first | omega | (rw [hp.out]; omega))
          case measure => simp [intOf]; omega
        all_goals (go_ret; exact ⟨ret_int (by rw [flows_bad hlt hall.out (by rw [hp.out]; omega)]; rfl), by (repeat' (first | with_reducible exact Below.refl _ _ | with_reducible assumption | with_reducible refine Below.drew ?_ | with_reducible refine Below_drewN ?_ _ | with_reducible refine Below.alloc ?_ ?_ _ | with_reducible refine Below.setCell ?_ ?_ _ | omega | (simp; done) | (simp; omega)))⟩)
      · have hlt' : j - 1 < fs.length := by omega
        obtain ⟨b', off', hbb, _, hbl', cs', hcs', hce'⟩ := hf.get (List.getElem?_eq_getElem hlt')
        obtain ⟨rfl, rfl⟩ : b = b' ∧ off = off' := by simpa using hbb
        obtain ⟨rfl, hi2⟩ := hcs'
        have e1 := cell_at hb hbl (hce' 0 _ rfl)
        clear hce' hbb
        simp only [intS, Nat.add_zero, Nat.mul_one] at e1
        have hp : Hid (prevOf fs j = fs[j - 1]) := by show _ = _; simp [prevOf, h0, hlt']
        have hj0 : (0 : Int) < (j : Int) := by omega
        go_wp2
        case roundEnd =>
          go_roundw
          case rel => refine ⟨j + 1, by omega, by go_num, flows_good hlt hall.out ?_ ?_ ?_, by (repeat' (first | with_reducible exact Below.refl _ _ | with_reducible assumption | with_reducible refine Below.drew ?_ | with_reducible refine Below_drewN ?_ _ | with_reducible refine Below.alloc ?_ ?_ _ | with_reducible refine Below.setCell ?_ ?_ _ | omega | (simp; done) | (simp; omega))), by omega, by go_simp⟩ <;> (first | omega | (rw [hp.out]; omega))
          case measure => simp [intOf]; omega
        all_goals (go_ret; exact ⟨ret_int (by rw [flows_bad hlt hall.out (by rw [hp.out]; omega)]; rfl), by (repeat' (first | with_reducible exact Below.refl _ _ | with_reducible assumption | with_reducible refine Below.drew ?_ | with_reducible refine Below_drewN ?_ _ | with_reducible refine Below.alloc ?_ ?_ _ | with_reducible refine Below.setCell ?_ ?_ _ | omega | (simp; done) | (simp; omega)))⟩)
    · go_wp2
      go_ret; exact ⟨ret_int (by rw [flows_end (by omega) hall.out]; rfl), by (repeat' (first | with_reducible exact Below.refl _ _ | with_reducible assumption | with_reducible refine Below.drew ?_ | with_reducible refine Below_drewN ?_ _ | with_reducible refine Below.alloc ?_ ?_ _ | with_reducible refine Below.setCell ?_ ?_ _ | omega | (simp; done) | (simp; omega)))⟩

set_option maxHeartbeats 4000000 in
theorem wireWrong_c (o : Order) (cs : List Value) (ok : Nat → Prop) (w : World) (h : orderS.rep ok w cs o) :
    Calls Try.prog 19 #[.agg cs.toArray] w fun e w' => e = .returned (.int .i64 (wireWrong o)) ∧ Below w.heap.size w w' := by
  obtain ⟨ra, rc, fa, fc, rfl, hk, hn, hv, hr, hf⟩ := h
  obtain ⟨k, n, v, rs, fs⟩ := o
  dsimp only at *
  unfold wireWrong
  dsimp only
  by_cases hh : 1 ≤ n ∧ n ≤ 100000 ∧ 1 ≤ v ∧ v ≤ 1000
  case neg =>
    rw [if_pos (by omega)]
    exact wireWrong_neg k n v ra fa _ rc _ fc w hh
  obtain ⟨hn1, hn2, hv1, hv2⟩ := hh
  rw [if_neg (by omega)]
  by_cases hk1 : k = 1
  · subst hk1
    rw [if_pos rfl]
    by_cases hm : 16 < rs.length
    · rw [if_pos hm]
      go_enter Try.func19, Try.ntmps19
      go_wp2
      go_ret; exact ⟨rfl, by (repeat' (first | with_reducible exact Below.refl _ _ | with_reducible assumption | with_reducible refine Below.drew ?_ | with_reducible refine Below_drewN ?_ _ | with_reducible refine Below.alloc ?_ ?_ _ | with_reducible refine Below.setCell ?_ ?_ _ | omega | (simp; done) | (simp; omega)))⟩
    rw [if_neg hm]
    exact wireWrong_add n v ra fa rc _ fc rs ok w hr hn1 hn2 hv1 hv2 (by omega)
  rw [if_neg hk1]
  by_cases hk2 : k = 2
  · subst hk2
    rw [if_pos rfl]
    by_cases hm : 12 < fs.length
    · rw [if_pos hm]
      go_enter Try.func19, Try.ntmps19
      go_wp2
      go_ret; exact ⟨rfl, by (repeat' (first | with_reducible exact Below.refl _ _ | with_reducible assumption | with_reducible refine Below.drew ?_ | with_reducible refine Below_drewN ?_ _ | with_reducible refine Below.alloc ?_ ?_ _ | with_reducible refine Below.setCell ?_ ?_ _ | omega | (simp; done) | (simp; omega)))⟩
    rw [if_neg hm]
    exact wireWrong_stamp n v ra fa _ rc fc fs ok w hf hn1 hn2 hv1 hv2 (by omega)
  rw [if_neg hk2]
  by_cases hk3 : k = 3
  · subst hk3
    rw [if_pos rfl]
    go_enter Try.func19, Try.ntmps19
    go_wp2
    go_ret; exact ⟨rfl, by (repeat' (first | with_reducible exact Below.refl _ _ | with_reducible assumption | with_reducible refine Below.drew ?_ | with_reducible refine Below_drewN ?_ _ | with_reducible refine Below.alloc ?_ ?_ _ | with_reducible refine Below.setCell ?_ ?_ _ | omega | (simp; done) | (simp; omega)))⟩
  · rw [if_neg hk3]
    go_enter Try.func19, Try.ntmps19
    go_wp2
    go_ret; exact ⟨rfl, by (repeat' (first | with_reducible exact Below.refl _ _ | with_reducible assumption | with_reducible refine Below.drew ?_ | with_reducible refine Below_drewN ?_ _ | with_reducible refine Below.alloc ?_ ?_ _ | with_reducible refine Below.setCell ?_ ?_ _ | omega | (simp; done) | (simp; omega)))⟩
end Go.Proofs.Ytagldmdeohenjaa
