/-
  The walk of the document's Wrong of orders.
-/
import Derived.Test.YtcfcdembhjnjfaaWireW
set_option linter.unusedSimpArgs false
set_option linter.unusedVariables false
namespace Go.Proofs.Ytcfcdembhjnjfaa
open Go.RowKit Go.St

set_option maxHeartbeats 4000000 in
theorem refWrong_neg (k n v : Int) (ra fa : Option Addr) (rl rc fl fc : Nat) (w : World) (hh : ¬ (1 ≤ n ∧ n ≤ 100000 ∧ 1 ≤ v ∧ v ≤ 1000)) :
    Calls Try.prog 49 #[.agg #[.int .i64 k, .int .i64 n, .int .i64 v, .slice ra rl rc, .slice fa fl fc]] w fun e w' => e = .returned (.int .i64 3) ∧ Below w.heap.size w w' := by
  go_enter Try.func49, Try.ntmps49
  go_wp2
  all_goals (go_ret; exact ⟨rfl, by (repeat' (first | with_reducible exact Below.refl _ _ | with_reducible assumption | with_reducible refine Below.drew ?_ | with_reducible refine Below_drewN ?_ _ | with_reducible refine Below.alloc ?_ ?_ _ | with_reducible refine Below.setCell ?_ ?_ _ | omega | (simp; done) | (simp; omega)))⟩)

set_option maxHeartbeats 4000000 in
theorem refWrong_add (n v : Int) (ra fa : Option Addr) (rc fl fc : Nat) (rs : List Rule) (ok : Nat → Prop) (w : World) (hr : rowRep ruleS ok w ra rc rs) (h1 : 1 ≤ n) (h2 : n ≤ 100000) (h3 : 1 ≤ v) (h4 : v ≤ 1000) (hm' : rs.length ≤ 16) :
    Calls Try.prog 49 #[.agg #[.int .i64 1, .int .i64 n, .int .i64 v, .slice ra rs.length rc, .slice fa fl fc]] w fun e w' => e = .returned (.int .i64 (zeroIf (rs.all (ruleOk v)))) ∧ Below w.heap.size w w' := by
  go_enter Try.func49, Try.ntmps49
  go_wp2
  go_loopw [37] (fun i wr => ∃ j : Nat, j ≤ rs.length ∧ i = .int .i64 j ∧ Hid (rs.all (ruleOk v) = (rs.drop j).all (ruleOk v)) ∧ Below w.heap.size w wr ∧ w.heap.size < wr.heap.size ∧ wr.cell? ⟨w.heap.size, 2, none⟩ = some (.int .i64 v)) (fun i _ => rs.length - (intOf i).toNat)
  case atStart => exact ⟨0, Nat.zero_le _, rfl, rfl, (Below.refl _ _).alloc (Nat.le_refl _) _, by simp, by simp [go_sem]⟩
  case round =>
    obtain ⟨j, hj, rfl, hall, hb, hsz, hc2⟩ := hrel
    by_cases hlt : j < rs.length
    · obtain ⟨b, off, rfl, _, hbl, cs, hcs, hce⟩ := hr.get (List.getElem?_eq_getElem hlt)
      obtain ⟨rfl, hi1, hi2, hi3⟩ := hcs
      have e0 := cell_at hb hbl (hce 0 _ rfl)
      have e1 := cell_at hb hbl (hce 1 _ rfl)
      have e2 := cell_at hb hbl (hce 2 _ rfl)
      clear hce
      simp only [ruleS, Nat.add_zero] at e0 e1 e2
      go_wp2
      case roundEnd =>
        go_roundw
        case rel => refine ⟨j + 1, by omega, by go_num, rules_good hlt hall.out ?_ ?_ ?_ ?_ ?_, by (repeat' (first | with_reducible exact Below.refl _ _ | with_reducible assumption | with_reducible refine Below.drew ?_ | with_reducible refine Below_drewN ?_ _ | with_reducible refine Below.alloc ?_ ?_ _ | with_reducible refine Below.setCell ?_ ?_ _ | omega | (simp; done) | (simp; omega))), by simp <;> omega, by go_simp⟩ <;> omega
        case measure => simp [intOf]; omega
      all_goals (go_ret; exact ⟨ret_int (by rw [rules_bad hlt hall.out (by omega)]; rfl), by (repeat' (first | with_reducible exact Below.refl _ _ | with_reducible assumption | with_reducible refine Below.drew ?_ | with_reducible refine Below_drewN ?_ _ | with_reducible refine Below.alloc ?_ ?_ _ | with_reducible refine Below.setCell ?_ ?_ _ | omega | (simp; done) | (simp; omega)))⟩)
    · go_wp2
      go_ret; exact ⟨ret_int (by rw [rules_end (by omega) hall.out]; rfl), by (repeat' (first | with_reducible exact Below.refl _ _ | with_reducible assumption | with_reducible refine Below.drew ?_ | with_reducible refine Below_drewN ?_ _ | with_reducible refine Below.alloc ?_ ?_ _ | with_reducible refine Below.setCell ?_ ?_ _ | omega | (simp; done) | (simp; omega)))⟩

set_option maxHeartbeats 4000000 in
theorem refWrong_stamp (n v : Int) (ra fa : Option Addr) (rl rc fc : Nat) (fs : List Int) (ok : Nat → Prop) (w : World) (hf : rowRep intS ok w fa fc fs) (h1 : 1 ≤ n) (h2 : n ≤ 100000) (h3 : 1 ≤ v) (h4 : v ≤ 1000) (hm' : fs.length ≤ 12) :
    Calls Try.prog 49 #[.agg #[.int .i64 2, .int .i64 n, .int .i64 v, .slice ra rl rc, .slice fa fs.length fc]] w fun e w' => e = .returned (.int .i64 (zeroIf (flowsOk (-1) fs))) ∧ Below w.heap.size w w' := by
  go_enter Try.func49, Try.ntmps49
  go_wp2
  go_loopw [5, 76] (fun l i wr => ∃ j : Nat, j ≤ fs.length ∧ i = .int .i64 j ∧ l = .int .i64 (prevOf fs j) ∧ -1 ≤ prevOf fs j ∧ Hid (flowsOk (-1) fs = flowsOk (prevOf fs j) (fs.drop j)) ∧ Below w.heap.size w wr) (fun _ i _ => fs.length - (intOf i).toNat)
  case atStart => exact ⟨0, Nat.zero_le _, rfl, rfl, by simp [prevOf], rfl, (Below.refl _ _).alloc (Nat.le_refl _) _⟩
  case round =>
    obtain ⟨j, hj, rfl, rfl, hge, hall, hb⟩ := hrel
    by_cases hlt : j < fs.length
    · obtain ⟨b, off, rfl, _, hbl, cs, hcs, hce⟩ := hf.get (List.getElem?_eq_getElem hlt)
      obtain ⟨rfl, hi1⟩ := hcs
      have e0 := cell_at hb hbl (hce 0 _ rfl)
      clear hce
      simp only [intS, Nat.add_zero, Nat.mul_one] at e0
      have hp : Hid (prevOf fs (j + 1) = fs[j]) := by show _ = _; simp [prevOf, hlt]
      go_wp2
      case roundEnd =>
        go_roundw
        case rel => refine ⟨j + 1, by omega, by go_num, int_eq hp.out.symm, by rw [hp.out]; omega, flows_good hlt hall.out ?_ ?_ ?_, by (repeat' (first | with_reducible exact Below.refl _ _ | with_reducible assumption | with_reducible refine Below.drew ?_ | with_reducible refine Below_drewN ?_ _ | with_reducible refine Below.alloc ?_ ?_ _ | with_reducible refine Below.setCell ?_ ?_ _ | omega | (simp; done) | (simp; omega)))⟩ <;> omega
        case measure => simp [intOf]; omega
      all_goals (go_ret; exact ⟨ret_int (by rw [flows_bad hlt hall.out (by omega)]; rfl), by (repeat' (first | with_reducible exact Below.refl _ _ | with_reducible assumption | with_reducible refine Below.drew ?_ | with_reducible refine Below_drewN ?_ _ | with_reducible refine Below.alloc ?_ ?_ _ | with_reducible refine Below.setCell ?_ ?_ _ | omega | (simp; done) | (simp; omega)))⟩)
    · go_wp2
      go_ret; exact ⟨ret_int (by rw [flows_end (by omega) hall.out]; rfl), by (repeat' (first | with_reducible exact Below.refl _ _ | with_reducible assumption | with_reducible refine Below.drew ?_ | with_reducible refine Below_drewN ?_ _ | with_reducible refine Below.alloc ?_ ?_ _ | with_reducible refine Below.setCell ?_ ?_ _ | omega | (simp; done) | (simp; omega)))⟩

set_option maxHeartbeats 4000000 in
theorem refWrong_c (o : Order) (cs : List Value) (ok : Nat → Prop) (w : World) (h : orderS.rep ok w cs o) :
    Calls Try.prog 49 #[.agg cs.toArray] w fun e w' => e = .returned (.int .i64 (wireWrong o)) ∧ Below w.heap.size w w' := by
  obtain ⟨ra, rc, fa, fc, rfl, hk, hn, hv, hr, hf⟩ := h
  obtain ⟨k, n, v, rs, fs⟩ := o
  dsimp only at *
  unfold wireWrong
  dsimp only
  by_cases hh : 1 ≤ n ∧ n ≤ 100000 ∧ 1 ≤ v ∧ v ≤ 1000
  case neg =>
    rw [if_pos (by omega)]
    exact refWrong_neg k n v ra fa _ rc _ fc w hh
  obtain ⟨hn1, hn2, hv1, hv2⟩ := hh
  rw [if_neg (by omega)]
  by_cases hk1 : k = 1
  · subst hk1
    rw [if_pos rfl]
    by_cases hm : 16 < rs.length
    · rw [if_pos hm]
      go_enter Try.func49, Try.ntmps49
      go_wp2
      go_ret; exact ⟨rfl, by (repeat' (first | with_reducible exact Below.refl _ _ | with_reducible assumption | with_reducible refine Below.drew ?_ | with_reducible refine Below_drewN ?_ _ | with_reducible refine Below.alloc ?_ ?_ _ | with_reducible refine Below.setCell ?_ ?_ _ | omega | (simp; done) | (simp; omega)))⟩
    rw [if_neg hm]
    exact refWrong_add n v ra fa rc _ fc rs ok w hr hn1 hn2 hv1 hv2 (by omega)
  rw [if_neg hk1]
  by_cases hk2 : k = 2
  · subst hk2
    rw [if_pos rfl]
    by_cases hm : 12 < fs.length
    · rw [if_pos hm]
      go_enter Try.func49, Try.ntmps49
      go_wp2
      go_ret; exact ⟨rfl, by (repeat' (first | with_reducible exact Below.refl _ _ | with_reducible assumption | with_reducible refine Below.drew ?_ | with_reducible refine Below_drewN ?_ _ | with_reducible refine Below.alloc ?_ ?_ _ | with_reducible refine Below.setCell ?_ ?_ _ | omega | (simp; done) | (simp; omega)))⟩
    rw [if_neg hm]
    exact refWrong_stamp n v ra fa _ rc fc fs ok w hf hn1 hn2 hv1 hv2 (by omega)
  rw [if_neg hk2]
  by_cases hk3 : k = 3
  · subst hk3
    rw [if_pos rfl]
    go_enter Try.func49, Try.ntmps49
    go_wp2
    go_ret; exact ⟨rfl, by (repeat' (first | with_reducible exact Below.refl _ _ | with_reducible assumption | with_reducible refine Below.drew ?_ | with_reducible refine Below_drewN ?_ _ | with_reducible refine Below.alloc ?_ ?_ _ | with_reducible refine Below.setCell ?_ ?_ _ | omega | (simp; done) | (simp; omega)))⟩
  · rw [if_neg hk3]
    go_enter Try.func49, Try.ntmps49
    go_wp2
    go_ret; exact ⟨rfl, by (repeat' (first | with_reducible exact Below.refl _ _ | with_reducible assumption | with_reducible refine Below.drew ?_ | with_reducible refine Below_drewN ?_ _ | with_reducible refine Below.alloc ?_ ?_ _ | with_reducible refine Below.setCell ?_ ?_ _ | omega | (simp; done) | (simp; omega)))⟩
end Go.Proofs.Ytcfcdembhjnjfaa
