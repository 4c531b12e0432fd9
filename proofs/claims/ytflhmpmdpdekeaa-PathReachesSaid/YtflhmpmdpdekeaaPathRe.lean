/-
  The walk of PathReaches.
-/
import Derived.Test.YtflhmpmdpdekeaaPathA
import Derived.Test.YtflhmpmdpdekeaaReachW
import Derived.Test.YtflhmpmdpdekeaaWayS
import Derived.WalkKit
import Derived.WalkSpells
import Derived.WalkLawsBesides
import Derived.Lib.Hide
import Derived.Deep.LoopGhost
import Derived.Deep.QuietTactic
import Derived.BigQuiet
import Derived.Deep.RegionWith
import Derived.Handy
set_option linter.unusedSimpArgs false
set_option linter.unusedVariables false
namespace Go.Proofs.Ytflhmpmdpdekeaa
open Go.RowKit Go.St

set_option maxRecDepth 100000 in
set_option maxHeartbeats 8000000 in
theorem pathReaches_c (w : World) (t : Topo) (cs : List Value) (ok : Nat → Prop) (h : topoS.rep ok w cs t) (s : Int) (hs : I64 s) (d : Int) (hd : I64 d) :
    Calls Try.prog 12 #[.agg cs.toArray, .int .i64 s, .int .i64 d] w fun e w' => e = .returned (.bool true) ∧ Below w.heap.size w w' := by
  have hT := h
  obtain ⟨la, lc, rfl, hn, hr⟩ := h
  have hfd := fault_err0
  go_enter Try.func12, Try.ntmps12
  go_wp2_with fail
  refine (alive_c _).mono ?_
  rintro e w1 ⟨rfl, hb1⟩
  have hB1 : Below w.heap.size w w1 := Below.trans (by (repeat' (first | with_reducible exact Below.refl _ _ | with_reducible assumption | with_reducible refine Below.drew ?_ | with_reducible refine Below_drewN ?_ _ | with_reducible refine Below.alloc ?_ ?_ _ | with_reducible refine Below.setCell ?_ ?_ _ | omega | (simp; done) | (simp; omega)))) (hb1.mono (by simp))
  have hT1 : blockIs w1 w.heap.size 24 #[.int .i64 t.n, .slice la t.links.length lc] := (blockIs.new rfl).under hb1
  obtain ⟨t1, t2⟩ := hT1.cells
  have hz1' := hB1.size
  clear hb1
  go_wp2_with fail
  refine (topoWrong_c t _ ok _ (topoS.below hT (by (repeat' (first | with_reducible exact Below.refl _ _ | with_reducible assumption | with_reducible refine Below.drew ?_ | with_reducible refine Below_drewN ?_ _ | with_reducible refine Below.alloc ?_ ?_ _ | with_reducible refine Below.setCell ?_ ?_ _ | omega | (simp; done) | (simp; omega)))))).mono ?_
  rintro e w2 ⟨rfl, hb2⟩
  have hb12 : Below w1.heap.size w1 w2 := Below.trans (by (repeat' (first | with_reducible exact Below.refl _ _ | with_reducible assumption | with_reducible refine Below.drew ?_ | with_reducible refine Below_drewN ?_ _ | with_reducible refine Below.alloc ?_ ?_ _ | with_reducible refine Below.setCell ?_ ?_ _ | omega | (simp; done) | (simp; omega)))) (hb2.mono (by simp))
  have hB2 : Below w.heap.size w w2 := hB1.trans (hb12.mono hz1')
  have hT2 := hT1.under hb12
  clear t1 t2 hb2 hT1 hb12
  obtain ⟨t1, t2⟩ := hT2.cells
  have hz2' := hB2.size
  by_cases h1 : (topoWrong t).1 = 0
  case neg =>
    have h1' : ((topoWrong t).1 != 0) = true := by rw [bne_iff_ne]; exact h1
    clear h1
    generalize topoWrong t = we at *
    go_wp2
    go_ret; exact ⟨rfl, by (repeat' (first | with_reducible exact Below.refl _ _ | with_reducible assumption | with_reducible refine Below.drew ?_ | with_reducible refine Below_drewN ?_ _ | with_reducible refine Below.alloc ?_ ?_ _ | with_reducible refine Below.setCell ?_ ?_ _ | omega | (simp; done) | (simp; omega)))⟩
  have HF0 := fun a1 a2 a3 a4 a5 => Lib.hid (find_reach (s := s) (d := d) h1 a1 a2 a3 a4 a5)
  rw [h1]
  clear h1
  generalize topoWrong t = we at *
  by_cases c1 : s < 0
  · go_wp2
    go_ret; exact ⟨rfl, by (repeat' (first | with_reducible exact Below.refl _ _ | with_reducible assumption | with_reducible refine Below.drew ?_ | with_reducible refine Below_drewN ?_ _ | with_reducible refine Below.alloc ?_ ?_ _ | with_reducible refine Below.setCell ?_ ?_ _ | omega | (simp; done) | (simp; omega)))⟩
  by_cases c2 : d < 0
  · go_wp2
    go_ret; exact ⟨rfl, by (repeat' (first | with_reducible exact Below.refl _ _ | with_reducible assumption | with_reducible refine Below.drew ?_ | with_reducible refine Below_drewN ?_ _ | with_reducible refine Below.alloc ?_ ?_ _ | with_reducible refine Below.setCell ?_ ?_ _ | omega | (simp; done) | (simp; omega)))⟩
  by_cases c3 : t.n ≤ s
  · go_wp2
    go_ret; exact ⟨rfl, by (repeat' (first | with_reducible exact Below.refl _ _ | with_reducible assumption | with_reducible refine Below.drew ?_ | with_reducible refine Below_drewN ?_ _ | with_reducible refine Below.alloc ?_ ?_ _ | with_reducible refine Below.setCell ?_ ?_ _ | omega | (simp; done) | (simp; omega)))⟩
  by_cases c4 : t.n ≤ d
  · go_wp2
    go_ret; exact ⟨rfl, by (repeat' (first | with_reducible exact Below.refl _ _ | with_reducible assumption | with_reducible refine Below.drew ?_ | with_reducible refine Below_drewN ?_ _ | with_reducible refine Below.alloc ?_ ?_ _ | with_reducible refine Below.setCell ?_ ?_ _ | omega | (simp; done) | (simp; omega)))⟩
  by_cases c5 : s = d
  · go_wp2
    go_ret; exact ⟨rfl, by (repeat' (first | with_reducible exact Below.refl _ _ | with_reducible assumption | with_reducible refine Below.drew ?_ | with_reducible refine Below_drewN ?_ _ | with_reducible refine Below.alloc ?_ ?_ _ | with_reducible refine Below.setCell ?_ ?_ _ | omega | (simp; done) | (simp; omega)))⟩
  have HF := HF0 (by omega) (by omega) (by omega) (by omega) c5
  clear HF0
  have c5' : (s == d) = false := by simpa using c5
  clear c5
  go_wp2_with fail
  refine (reaches_c t _ ok s hs _ (topoS.below hT (hB2.trans (by (repeat' (first | with_reducible exact Below.refl _ _ | with_reducible assumption | with_reducible refine Below.drew ?_ | with_reducible refine Below_drewN ?_ _ | with_reducible refine Below.alloc ?_ ?_ _ | with_reducible refine Below.setCell ?_ ?_ _ | omega | (simp; done) | (simp; omega))))))).mono ?_
  rintro e w3 ⟨ao, cap, rfl, hrr, hb3⟩
  have hb23 : Below w2.heap.size w2 w3 := Below.trans (by (repeat' (first | with_reducible exact Below.refl _ _ | with_reducible assumption | with_reducible refine Below.drew ?_ | with_reducible refine Below_drewN ?_ _ | with_reducible refine Below.alloc ?_ ?_ _ | with_reducible refine Below.setCell ?_ ?_ _ | omega | (simp; done) | (simp; omega)))) (hb3.mono (by simp))
  have hB3 : Below w.heap.size w w3 := hB2.trans (hb23.mono hz2')
  have hT3 := hT2.under hb23
  clear t1 t2 hb3 hT2 hb23
  obtain ⟨t1, t2⟩ := hT3.cells
  have hz3 := hB3.size
  have hrl := hrr.len_le
  generalize reaches t s = R at *
  go_wp2
  go_loopw [7, 9, 47] (fun th _ idx wr => ∃ j : Nat, th = .bool (anyFrom d R j) ∧ idx = .int .i64 j ∧ j ≤ R.length ∧ Below w3.heap.size w3 wr) (fun _ _ idx _ => R.length - (intOf idx).toNat)
  case atStart => exact ⟨0, rfl, rfl, Nat.zero_le _, by (repeat' (first | with_reducible exact Below.refl _ _ | with_reducible assumption | with_reducible refine Below.drew ?_ | with_reducible refine Below_drewN ?_ _ | with_reducible refine Below.alloc ?_ ?_ _ | with_reducible refine Below.setCell ?_ ?_ _ | omega | (simp; done) | (simp; omega)))⟩
  case round =>
    obtain ⟨j, rfl, rfl, hj, hb⟩ := hrel
    obtain ⟨q3, q4⟩ := bcell hb
    by_cases hlt : j < R.length
    · obtain ⟨x, hx⟩ : ∃ x, R[j]? = some x := ⟨_, List.getElem?_eq_getElem hlt⟩
      have HN := Lib.hid (anyFrom_next (d := d) hx)
      obtain ⟨pb, po, rfl, _, hpb, cs1, ⟨rfl, hxI⟩, hce⟩ := (hrr.below hb).get hx
      have e0 := hce 0 _ rfl
      simp only [intS, Nat.add_zero, Nat.mul_one] at e0
      clear hce hx
      have b0 : (0 : Int) ≤ (j : Int) := by omega
      have b2 : (j : Int) < (R.length : Int) := by omega
      have b3 : ((j : Int)).toNat = j := by omega
      cases h9 : anyFrom d R j
      all_goals
        rw [h9] at HN
        clear h9
        go_wp2
        case roundEnd =>
          go_roundw
          case rel =>
            refine ⟨j + 1, ?_, by go_num, by omega, by (repeat' (first | with_reducible exact Below.refl _ _ | with_reducible assumption | with_reducible refine Below.drew ?_ | with_reducible refine Below_drewN ?_ _ | with_reducible refine Below.alloc ?_ ?_ _ | with_reducible refine Below.setCell ?_ ?_ _ | omega | (simp; done) | (simp; omega)))⟩
            rw [HN.out]
            simp
          case measure => simp [intOf] <;> omega
    · have HN := Lib.hid (anyFrom_end (d := d) (l := R) (j := j) (by omega))
      have b2 : ¬ (j : Int) < (R.length : Int) := by omega
      rw [HN.out]
      have hBr : Below w.heap.size w wr := hB3.trans (hb.mono hz3)
      have hT4 := hT3.under hb
      clear t1 t2
      obtain ⟨r1, r2⟩ := hT4.cells
      go_wp2_with fail
      refine (find_c t ⟨s, d, [], []⟩ _ _ ok (fun _ => True) _ (topoS.below hT (by (repeat' (first | with_reducible exact Below.refl _ _ | with_reducible assumption | with_reducible refine Below.drew ?_ | with_reducible refine Below_drewN ?_ _ | with_reducible refine Below.alloc ?_ ?_ _ | with_reducible refine Below.setCell ?_ ?_ _ | omega | (simp; done) | (simp; omega))))) (flow_rep hs hd)).mono ?_
      rintro e w5 ⟨ao5, cap5, rfl, hp5, hb5⟩
      have hB5 : Below w.heap.size w w5 := hBr.trans (Below.trans (by (repeat' (first | with_reducible exact Below.refl _ _ | with_reducible assumption | with_reducible refine Below.drew ?_ | with_reducible refine Below_drewN ?_ _ | with_reducible refine Below.alloc ?_ ?_ _ | with_reducible refine Below.setCell ?_ ?_ _ | omega | (simp; done) | (simp; omega)))) (hb5.mono (by have := hBr.size; simp; omega)))
      rw [HF.out]
      clear hp5 hb5 HF r1 r2 HN
      generalize (findOf t ⟨s, d, [], []⟩).1 = q at *
      by_cases hm : d ∈ R
      · rw [if_pos hm, decide_eq_true hm]
        go_wp2
        go_ret; exact ⟨rfl, by (repeat' (first | with_reducible exact Below.refl _ _ | with_reducible assumption | with_reducible refine Below.drew ?_ | with_reducible refine Below_drewN ?_ _ | with_reducible refine Below.alloc ?_ ?_ _ | with_reducible refine Below.setCell ?_ ?_ _ | omega | (simp; done) | (simp; omega)))⟩
      · rw [if_neg hm, decide_eq_false hm]
        go_wp2
        go_ret; exact ⟨rfl, by (repeat' (first | with_reducible exact Below.refl _ _ | with_reducible assumption | with_reducible refine Below.drew ?_ | with_reducible refine Below_drewN ?_ _ | with_reducible refine Below.alloc ?_ ?_ _ | with_reducible refine Below.setCell ?_ ?_ _ | omega | (simp; done) | (simp; omega)))⟩

end Go.Proofs.Ytflhmpmdpdekeaa
