/-
  The walk of package topo's Length.
-/
import Derived.Test.YtflhmpmdpdekeaaTopoC
import Derived.Test.YtflhmpmdpdekeaaSlices
import Derived.Test.YtflhmpmdpdekeaaStr
import Derived.Test.YtflhmpmdpdekeaaBlk
import Derived.WalkKit
import Derived.WalkSpells
import Derived.WalkLawsBesides
import Derived.Lib.Hide
import Derived.Deep.LoopGhost
import Derived.Deep.QuietTactic
import Derived.BigQuiet
import Derived.Deep.RegionWith
import Derived.Handy
set_option linter.unusedSimpArgs false
set_option linter.unusedVariables false
namespace Go.St
open Go.RowKit
theorem len_bad {t : Topo} {p : List Int} {acc : Int} {c : Int × Bool} {j : Nat} (hj : j < p.length) (h : c = lengthFrom t (p.take j) acc (p.drop j)) (h1 : p[j] < 0 ∨ t.n ≤ p[j] ∨ p[j] ∈ p.take j) : c = (0, false) := by
  rw [h, List.drop_eq_getElem_cons hj, lengthFrom, if_pos h1]
theorem take_last {p : List Int} {j : Nat} (h0 : 0 < j) (hj : j < p.length) : (p.take j).getLast? = some (p[j - 1]'(by omega)) := by
  rw [List.getLast?_take, if_neg (by omega), List.getElem?_eq_getElem (by omega)]; rfl
theorem len_first {t : Topo} {p : List Int} {acc : Int} {c : Int × Bool} (hj : 0 < p.length) (h : c = lengthFrom t (p.take 0) acc (p.drop 0)) (h1 : ¬ (p[0] < 0 ∨ t.n ≤ p[0] ∨ p[0] ∈ p.take 0)) : c = lengthFrom t (p.take 1) acc (p.drop 1) := by
  rw [h, List.drop_eq_getElem_cons hj, lengthFrom, if_neg h1]
  cases p with
  | nil => simp at hj
  | cons a r => rfl
theorem len_nolink {t : Topo} {p : List Int} {acc : Int} {c : Int × Bool} {j : Nat} (h0 : 0 < j) (hj : j < p.length) (h : c = lengthFrom t (p.take j) acc (p.drop j)) (h1 : ¬ (p[j] < 0 ∨ t.n ≤ p[j] ∨ p[j] ∈ p.take j)) (h2 : costOf t (p[j - 1]'(by omega)) p[j] = 0) : c = (0, false) := by
  rw [h, List.drop_eq_getElem_cons hj, lengthFrom, if_neg h1, take_last h0 hj]
  dsimp only
  rw [if_pos h2]
theorem len_go {t : Topo} {p : List Int} {acc : Int} {c : Int × Bool} {j : Nat} (h0 : 0 < j) (hj : j < p.length) (h : c = lengthFrom t (p.take j) acc (p.drop j)) (h1 : ¬ (p[j] < 0 ∨ t.n ≤ p[j] ∨ p[j] ∈ p.take j)) (h2 : ¬ costOf t (p[j - 1]'(by omega)) p[j] = 0) :
    c = lengthFrom t (p.take (j + 1)) (IntKind.i64.wrap (acc + costOf t (p[j - 1]'(by omega)) p[j])) (p.drop (j + 1)) := by
  rw [h, List.drop_eq_getElem_cons hj, lengthFrom, if_neg h1, take_last h0 hj]
  dsimp only
  rw [if_neg h2, List.take_succ_eq_append_getElem hj]
theorem len_end {t : Topo} {p : List Int} {acc : Int} {c : Int × Bool} {j : Nat} (hj : ¬ j < p.length) (h : c = lengthFrom t (p.take j) acc (p.drop j)) : c = (acc, decide (0 < p.length)) := by
  rw [h, List.drop_of_length_le (by omega), List.take_of_length_le (by omega)]
  cases p <;> simp [lengthFrom]

def SL (tb pb o : Nat) (n : Int) (la : Option Addr) (ll lc : Nat) (q : Int) (w : World) : Prop :=
  w.cell? ⟨tb, 0, none⟩ = some (.int .i64 n) ∧ w.cell? ⟨tb, 1, none⟩ = some (.slice la ll lc) ∧ w.cell? ⟨pb, o, none⟩ = some (.int .i64 q)
theorem SL.keep {B tb pb o : Nat} {n : Int} {la : Option Addr} {ll lc : Nat} {q : Int} {w w' : World} (h : SL tb pb o n la ll lc q w) (hb : Below B w w') (h1 : tb < B) (h2 : pb < B) : SL tb pb o n la ll lc q w' :=
  ⟨cell_at hb h1 h.1, cell_at hb h1 h.2.1, cell_at hb h2 h.2.2⟩
end Go.St
namespace Go.Proofs.Ytflhmpmdpdekeaa
open Go.RowKit Go.St

set_option maxRecDepth 100000 in
set_option maxHeartbeats 8000000 in
theorem length_c (t : Topo) (p : List Int) (cs : List Value) (ok ok' : Nat → Prop) (pa : Option Addr) (pc : Nat) (w : World) (h : topoS.rep ok w cs t) (hp : rowRep intS ok' w pa pc p) :
    Calls Try.prog 16 #[.agg cs.toArray, .slice pa p.length pc] w fun e w' => e = .returned (.tuple #[.int .i64 (lengthOf t p).1, .bool (lengthOf t p).2]) ∧ Below w.heap.size w w' := by
  have hT := h
  obtain ⟨la, lc, rfl, hn, hr⟩ := h
  have hlx := hp.len_le
  have hcx := hp.1
  have hst : Hid (lengthOf t p = lengthFrom t (p.take 0) 0 (p.drop 0)) := rfl
  generalize lengthOf t p = c at *
  go_enter Try.func16, Try.ntmps16
  go_wp2
  go_loopw [6, 7, 8, 9, 12] (fun a _ _ _ i wr => ∃ (j : Nat) (acc : Int), j ≤ p.length ∧ a = .int .i64 acc ∧ i = .int .i64 j ∧ Hid (c = lengthFrom t (p.take j) acc (p.drop j)) ∧ Below w.heap.size w wr ∧ blockIs wr w.heap.size 24 #[.int .i64 t.n, .slice la t.links.length lc]) (fun _ _ _ _ i _ => p.length - (intOf i).toNat)
  case atStart => exact ⟨0, 0, Nat.zero_le _, rfl, rfl, hst, by (repeat' (first | with_reducible exact Below.refl _ _ | with_reducible assumption | with_reducible refine Below.drew ?_ | with_reducible refine Below_drewN ?_ _ | with_reducible refine Below.alloc ?_ ?_ _ | with_reducible refine Below.setCell ?_ ?_ _ | omega | (simp; done) | (simp; omega))), blockIs.new rfl⟩
  case round =>
    obtain ⟨j, acc, hj, rfl, rfl, hall, hb, hB⟩ := hrel
    obtain ⟨r1, r2⟩ := hB.cells
    have hz := hB.lt
    by_cases hlt : j < p.length
    case neg =>
      have HE := Lib.hid (len_end hlt hall.out)
      have b1 : ¬ (j : Int) < (p.length : Int) := by omega
      clear hall
      go_wp2
      go_ret2
      rw [HE.out]
      exact ⟨by simp, by (repeat' (first | with_reducible exact Below.refl _ _ | with_reducible assumption | with_reducible refine Below.drew ?_ | with_reducible refine Below_drewN ?_ _ | with_reducible refine Below.alloc ?_ ?_ _ | with_reducible refine Below.setCell ?_ ?_ _ | omega | (simp; done) | (simp; omega)))⟩
    obtain ⟨pb, po, rfl, _, hpb, cs, hcs, hce⟩ := hp.get (List.getElem?_eq_getElem hlt)
    obtain ⟨rfl, _⟩ := hcs
    have e0 := cell_at hb hpb (hce 0 _ rfl)
    clear hce
    simp only [intS, Nat.add_zero, Nat.mul_one] at e0
    have b0 : (0 : Int) ≤ (j : Int) := by omega
    have b1 : (j : Int) < (p.length : Int) := by omega
    have b2 : (j : Int) ≤ (pc : Int) := by omega
    have hcon : ∀ w', Below wr.heap.size wr w' → Calls Try.prog 35 #[.slice (some ⟨pb, po, none⟩) j pc, .int .i64 p[j]] w' fun e w'' => e = .returned (.bool (decide (p[j] ∈ p.take j))) ∧ w'' = w' := by
      intro w' hw'
      have := containsP_c (p.take j) p[j] ok' _ pc w' (((hp.take j).below hb).below hw')
      rwa [List.length_take, Nat.min_eq_left hj] at this
    have g1 := len_bad (c := c) hlt hall.out
    by_cases p1 : p[j] < 0
    · have HH := Lib.hid (g1 (.inl p1))
      clear g1 hcon hall
      generalize p[j] = s at *
      go_wp2
      go_ret2
      rw [HH.out]
      exact ⟨rfl, by (repeat' (first | with_reducible exact Below.refl _ _ | with_reducible assumption | with_reducible refine Below.drew ?_ | with_reducible refine Below_drewN ?_ _ | with_reducible refine Below.alloc ?_ ?_ _ | with_reducible refine Below.setCell ?_ ?_ _ | omega | (simp; done) | (simp; omega)))⟩
    by_cases p2 : t.n ≤ p[j]
    · have HH := Lib.hid (g1 (.inr (.inl p2)))
      clear g1 hcon hall
      generalize p[j] = s at *
      go_wp2
      go_ret2
      rw [HH.out]
      exact ⟨rfl, by (repeat' (first | with_reducible exact Below.refl _ _ | with_reducible assumption | with_reducible refine Below.drew ?_ | with_reducible refine Below_drewN ?_ _ | with_reducible refine Below.alloc ?_ ?_ _ | with_reducible refine Below.setCell ?_ ?_ _ | omega | (simp; done) | (simp; omega)))⟩
    have HC := Lib.hid (hcon wr (Below.refl _ _))
    clear hcon
    by_cases p3 : p[j] ∈ p.take j
    · have HH := Lib.hid (g1 (.inr (.inr p3)))
      rw [decide_eq_true p3] at HC
      clear g1 hall p3
      generalize p[j] = s at *
      go_wp2_with fail
      refine HC.out.mono ?_
      rintro e w1 ⟨rfl, rfl⟩
      go_wp2
      go_ret2
      rw [HH.out]
      exact ⟨rfl, by (repeat' (first | with_reducible exact Below.refl _ _ | with_reducible assumption | with_reducible refine Below.drew ?_ | with_reducible refine Below_drewN ?_ _ | with_reducible refine Below.alloc ?_ ?_ _ | with_reducible refine Below.setCell ?_ ?_ _ | omega | (simp; done) | (simp; omega)))⟩
    rw [decide_eq_false p3] at HC
    have hno : ¬ (p[j] < 0 ∨ t.n ≤ p[j] ∨ p[j] ∈ p.take j) := by simp only [not_or]; exact ⟨p1, p2, p3⟩
    by_cases hj0 : j = 0
    · subst hj0
      have HH := Lib.hid (len_first hlt hall.out hno)
      clear g1 hall p3 hno
      generalize p[0] = s at *
      rw [Nat.add_zero] at e0
      go_wp2_with fail
      refine HC.out.mono ?_
      rintro e w1 ⟨rfl, rfl⟩
      clear HC
      go_wp2
      case roundEnd =>
        go_roundw
        case rel => exact ⟨1, acc, by omega, rfl, by go_num, HH, hb, hB⟩
        case measure => simp [intOf]; omega
    have hj1 : 0 < j := by omega
    have g2 := len_nolink (c := c) hj1 hlt hall.out hno
    have g3 := len_go (c := c) hj1 hlt hall.out hno
    obtain ⟨pb', po', hbo, _, _, cs', ⟨rfl, _⟩, hce⟩ := hp.get (List.getElem?_eq_getElem (show j - 1 < p.length by omega))
    obtain ⟨rfl, rfl⟩ : pb = pb' ∧ po = po' := by simpa using hbo
    have e1 := cell_at hb hpb (hce 0 _ rfl)
    simp only [intS, Nat.add_zero, Nat.mul_one] at e1
    clear hce hbo g1 hall p3 hno
    generalize p[j] = s at *
    generalize p[j - 1] = q at *
    have d1 : (0 : Int) < (j : Int) := by omega
    have d2 : IntKind.i64.wrap ((j : Int) - 1) = ((j - 1 : Nat) : Int) := by rw [IntWalk.i64_in _ (by omega)]; omega
    have d3 : (0 : Int) ≤ ((j - 1 : Nat) : Int) := by omega
    have d4 : ((j - 1 : Nat) : Int) < (p.length : Int) := by omega
    have d5 : (((j - 1 : Nat) : Int)).toNat = j - 1 := by omega
    have hcost := fun w' (hw' : Below wr.heap.size wr w') => cost_c t [.int .i64 t.n, .slice la t.links.length lc] ok q s w' ⟨la, lc, rfl, hn, (hr.below hb).below hw'⟩
    go_wp2_with fail
    refine HC.out.mono ?_
    rintro e w1 ⟨rfl, rfl⟩
    clear HC
    go_wp2
    have hpbz : pb < w1.heap.size := by have := hb.size; omega
    have hT0 : SL w.heap.size pb (po + (j - 1)) t.n la t.links.length lc q w1.drew := ⟨r1 0, r1 1, e1⟩
    refine wp_region_K (SL w.heap.size pb (po + (j - 1)) t.n la t.links.length lc q) 99 (by kernel_rfl) ?_
    have hS := hT0
    refine wpAnyK_take' (i := 0) (.agg #[.int .i64 t.n, .slice la t.links.length lc]) rfl (by kernel_rfl) (fun _ _ _ h => h) hS (yields_value (by rfl) (by intro w0 hw0; have hw1 := hw0; simp only [SL] at hw1; go_simp)) ?_; simp only [Act.put, List.setIfInBounds_toArray, List.set_cons_succ, List.set_cons_zero]
    refine wpAnyK_take' (i := 1) (.slice (some ⟨pb, po, none⟩) p.length pc) rfl (by kernel_rfl) (fun _ _ _ h => h) hS (yields_value (by rfl) (by intro w0 hw0; have hw1 := hw0; simp only [SL] at hw1; go_simp)) ?_; simp only [Act.put, List.setIfInBounds_toArray, List.set_cons_succ, List.set_cons_zero]
    refine wpAnyK_take' (i := 2) (.int .i64 j) rfl (by kernel_rfl) (fun _ _ _ h => h) hS (yields_value (by rfl) (by intro w0 hw0; have hw1 := hw0; simp only [SL] at hw1; go_simp)) ?_; simp only [Act.put, List.setIfInBounds_toArray, List.set_cons_succ, List.set_cons_zero]
    refine wpAnyK_take' (i := 3) (.int .i64 ((j - 1 : Nat) : Int)) rfl (by kernel_rfl) (fun _ _ _ h => h) hS (yields_value (by rfl) (by intro w0 hw0; have hw1 := hw0; simp only [SL] at hw1; go_simp)) ?_; simp only [Act.put, List.setIfInBounds_toArray, List.set_cons_succ, List.set_cons_zero]
    refine wpAnyK_take' (i := 4) (.pointer (some ⟨pb, po + (j - 1), none⟩)) rfl (by kernel_rfl) (fun _ _ _ h => h) hS (yields_value (by rfl) (by intro w0 hw0; have hw1 := hw0; simp only [SL] at hw1; go_simp)) ?_; simp only [Act.put, List.setIfInBounds_toArray, List.set_cons_succ, List.set_cons_zero]
    refine wpAnyK_take' (i := 5) (.int .i64 q) rfl (by kernel_rfl) (fun _ _ _ h => h) hS (yields_value (by rfl) (by intro w0 hw0; have hw1 := hw0; simp only [SL] at hw1; go_simp)) ?_; simp only [Act.put, List.setIfInBounds_toArray, List.set_cons_succ, List.set_cons_zero]
    refine wpAnyK_take' (i := 6) (.int .i64 s) rfl (by kernel_rfl) (fun _ _ _ h => h) hS (yields_value (by rfl) (by intro w0 hw0; have hw1 := hw0; simp only [SL] at hw1; go_simp)) ?_; simp only [Act.put, List.setIfInBounds_toArray, List.set_cons_succ, List.set_cons_zero]
    refine wpAnyK_call (i := 7) rfl (by rfl) (by kernel_rfl) fun K7 hK7 => ?_
    go_simp
    go_wp2_with fail
    refine (hcost _ (by (repeat' (first | with_reducible exact Below.refl _ _ | with_reducible assumption | with_reducible refine Below.drew ?_ | with_reducible refine Below_drewN ?_ _ | with_reducible refine Below.alloc ?_ ?_ _ | with_reducible refine Below.setCell ?_ ?_ _ | omega | (simp; done) | (simp; omega))))).mono ?_
    rintro e w2 ⟨rfl, hb2⟩
    have hb12 : Below w1.heap.size w1 w2 := Below.trans (by (repeat' (first | with_reducible exact Below.refl _ _ | with_reducible assumption | with_reducible refine Below.drew ?_ | with_reducible refine Below_drewN ?_ _ | with_reducible refine Below.alloc ?_ ?_ _ | with_reducible refine Below.setCell ?_ ?_ _ | omega | (simp; done) | (simp; omega)))) (hb2.mono (by simp))
    have hS2 : SL w.heap.size pb (po + (j - 1)) t.n la t.links.length lc q w2 := hT0.keep hb2 (by simpa using hz) (by simpa using hpbz)
    have hB2 := hB.under hb12
    have hbb := hb.trans (hb12.mono (by have := hb.size; omega))
    clear hb2 hcost r1 r2 e0 e1 hS hT0
    have hS := hS2
    generalize costOf t q s = k at *
    go_wp2_with fail
    refine hK7 _ _ (fun _ => hS) ?_
    clear hK7
    refine wpAnyK_take' (i := 8) (.int .i64 k) rfl (by kernel_rfl) (fun _ _ _ h => h) hS (yields_value (by rfl) (by intro w0 hw0; have hw1 := hw0; simp only [SL] at hw1; go_simp)) ?_; simp only [Act.put, List.setIfInBounds_toArray, List.set_cons_succ, List.set_cons_zero]
    refine wpAnyK_done (by kernel_rfl) ?_ _
    clear hS hS2
    by_cases hk : k = 0
    · have HH := Lib.hid (g2 hk)
      have hk' : (k == 0) = true := by rw [beq_iff_eq]; exact hk
      clear g2 g3 hk
      go_wp2
      go_ret2
      rw [HH.out]
      exact ⟨rfl, by (repeat' (first | with_reducible exact Below.refl _ _ | with_reducible assumption | with_reducible refine Below.drew ?_ | with_reducible refine Below_drewN ?_ _ | with_reducible refine Below.alloc ?_ ?_ _ | with_reducible refine Below.setCell ?_ ?_ _ | omega | (simp; done) | (simp; omega)))⟩
    · have HH : Hid (c = lengthFrom t (p.take (j + 1)) (wrap64 (acc + k)) (p.drop (j + 1))) := by
        have := g3 hk
        rw [show IntKind.i64.wrap (acc + k) = wrap64 (acc + k) from IntWalk.i64_left _] at this
        exact this
      have hk' : (k == 0) = false := by rw [beq_eq_false_iff_ne]; exact hk
      clear g2 g3 hk
      go_wp2
      case roundEnd =>
        go_roundw
        case rel => exact ⟨j + 1, _, by omega, rfl, by go_num, HH, hbb, hB2⟩
        case measure => simp [intOf]; omega

end Go.Proofs.Ytflhmpmdpdekeaa
