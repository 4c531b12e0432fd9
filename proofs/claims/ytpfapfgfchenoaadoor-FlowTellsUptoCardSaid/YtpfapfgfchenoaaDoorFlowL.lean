/-
  The walk of flows.list: what is wrong with switches that a flow names.
-/
import Derived.Test.YtpfapfgfchenoaaDoorSlices
import Derived.WalkKit
import Derived.WalkSpells
import Derived.WalkLawsBesides
import Derived.Lib.Hide
import Derived.Deep.LoopGhost
import Derived.Deep.QuietTactic
import Derived.BigQuiet
import Derived.Deep.RegionWith
import Derived.Handy
set_option linter.unusedSimpArgs false
set_option linter.unusedVariables false
namespace Go.St
theorem lst_go {n src dst c : Int} {l : List Int} {j : Nat} (hj : j < l.length) (h : c = listBad n src dst (l.take j) (l.drop j)) (h1 : ¬ (l[j] < 0 ∨ n ≤ l[j])) (h2 : ¬ (l[j] = src ∨ l[j] = dst)) (h3 : l[j] ∉ l.take j) :
    c = listBad n src dst (l.take (j + 1)) (l.drop (j + 1)) := by
  rw [h, List.drop_eq_getElem_cons hj, listBad, if_neg h1, if_neg h2, if_neg h3, List.take_succ_eq_append_getElem hj]
theorem lst_1 {n src dst c : Int} {l : List Int} {j : Nat} (hj : j < l.length) (h : c = listBad n src dst (l.take j) (l.drop j)) (h1 : l[j] < 0 ∨ n ≤ l[j]) : c = 6 := by
  rw [h, List.drop_eq_getElem_cons hj, listBad, if_pos h1]
theorem lst_2 {n src dst c : Int} {l : List Int} {j : Nat} (hj : j < l.length) (h : c = listBad n src dst (l.take j) (l.drop j)) (h1 : ¬ (l[j] < 0 ∨ n ≤ l[j])) (h2 : l[j] = src ∨ l[j] = dst) : c = 8 := by
  rw [h, List.drop_eq_getElem_cons hj, listBad, if_neg h1, if_pos h2]
theorem lst_3 {n src dst c : Int} {l : List Int} {j : Nat} (hj : j < l.length) (h : c = listBad n src dst (l.take j) (l.drop j)) (h1 : ¬ (l[j] < 0 ∨ n ≤ l[j])) (h2 : ¬ (l[j] = src ∨ l[j] = dst)) (h3 : l[j] ∈ l.take j) : c = 7 := by
  rw [h, List.drop_eq_getElem_cons hj, listBad, if_neg h1, if_neg h2, if_pos h3]
theorem lst_end {n src dst c : Int} {l : List Int} {j : Nat} (hj : ¬ j < l.length) (h : c = listBad n src dst (l.take j) (l.drop j)) : c = 0 := by
  rw [h, List.drop_of_length_le (by omega)]; rfl
end Go.St
namespace Go.Proofs.YtpfapfgfchenoaaDoor
open Go.RowKit Go.St

set_option maxRecDepth 100000 in
set_option maxHeartbeats 4000000 in
theorem flowList_c (l : List Int) (n src dst : Int) (ok : Nat → Prop) (ax : Option Addr) (cx b o : Nat) (w : World) (hx : rowRep intS ok w ax cx l) (f0 : w.cell? ⟨b, o, none⟩ = some (.int .i64 src)) (f1 : w.cell? ⟨b, o + 1, none⟩ = some (.int .i64 dst)) :
    Calls Tryd.prog 17 #[.slice ax l.length cx, .pointer (some ⟨b, o, none⟩), .int .i64 n] w fun e w' => e = .returned (.int .i64 (listBad n src dst [] l)) ∧ w' = w := by
  have hlx := hx.len_le
  have hcx := hx.1
  have hst : Hid (listBad n src dst [] l = listBad n src dst (l.take 0) (l.drop 0)) := rfl
  generalize listBad n src dst [] l = c at *
  go_enter Tryd.func17, Tryd.ntmps17
  go_wp2
  go_loop [7, 8, 11] (fun _ _ i => ∃ j : Nat, j ≤ l.length ∧ i = .int .i64 j ∧ Hid (c = listBad n src dst (l.take j) (l.drop j))) (fun _ _ i => l.length - (intOf i).toNat)
  case atStart => exact ⟨0, Nat.zero_le _, rfl, hst⟩
  case round =>
    obtain ⟨j, hj, rfl, hall⟩ := hrel
    by_cases hlt : j < l.length
    · obtain ⟨g, off, rfl, _, hbl, cs, hcs, hce⟩ := hx.get (List.getElem?_eq_getElem hlt)
      obtain ⟨rfl, _⟩ := hcs
      have e0 := hce 0 _ rfl
      clear hce
      simp only [intS, Nat.add_zero, Nat.mul_one] at e0
      have b0 : (0 : Int) ≤ (j : Int) := by omega
      have b1 : (j : Int) < (l.length : Int) := by omega
      have b2 : (j : Int) ≤ (cx : Int) := by omega
      have b3 : ((j : Int)).toNat = j := by omega
      have hcon : Calls Tryd.prog 20 #[.slice (some ⟨g, off, none⟩) j cx, .int .i64 l[j]] w fun e w' => e = .returned (.bool (decide (l[j] ∈ l.take j))) ∧ w' = w := by
        have := containsI_c (l.take j) l[j] ok _ cx w (hx.take j)
        rwa [List.length_take, Nat.min_eq_left hj] at this
      have g0 := lst_go (c := c) hlt hall.out
      have g1 := lst_1 (c := c) hlt hall.out
      have g2 := lst_2 (c := c) hlt hall.out
      have g3 := lst_3 (c := c) hlt hall.out
      clear hall
      generalize l[j] = x at *
      by_cases p1 : x < 0
      · have HH := Lib.hid (g1 (.inl p1))
        clear g0 g1 g2 g3 hcon
        go_wp2
        go_ret; exact ⟨ret_int HH.out.symm, rfl⟩
      by_cases p2 : n ≤ x
      · have HH := Lib.hid (g1 (.inr p2))
        clear g0 g1 g2 g3 hcon
        go_wp2
        go_ret; exact ⟨ret_int HH.out.symm, rfl⟩
      have p12 : ¬ (x < 0 ∨ n ≤ x) := by omega
      cases p3 : (x == src)
      case true =>
        have HH := Lib.hid (g2 p12 (.inl (beq_iff_eq.1 p3)))
        clear g0 g1 g2 g3 hcon p12
        go_wp2
        go_ret; exact ⟨ret_int HH.out.symm, rfl⟩
      cases p4 : (x == dst)
      case true =>
        have HH := Lib.hid (g2 p12 (.inr (beq_iff_eq.1 p4)))
        clear g0 g1 g2 g3 hcon p12
        go_wp2
        go_ret; exact ⟨ret_int HH.out.symm, rfl⟩
      have p34 : ¬ (x = src ∨ x = dst) := by
        rintro (h | h)
        · exact (beq_eq_false_iff_ne.1 p3) h
        · exact (beq_eq_false_iff_ne.1 p4) h
      by_cases p5 : x ∈ l.take j
      · have HH := Lib.hid (g3 p12 p34 p5)
        have hd : decide (x ∈ l.take j) = true := decide_eq_true p5
        rw [hd] at hcon
        clear g0 g1 g2 g3 p12 p34 p5 hd
        have HC := Lib.hid hcon
        clear hcon
        go_wp2_with fail
        refine HC.out.mono ?_
        rintro e w1 ⟨rfl, rfl⟩
        go_wp2
        go_ret; exact ⟨ret_int HH.out.symm, rfl⟩
      · have HH := Lib.hid (g0 p12 p34 p5)
        have hd : decide (x ∈ l.take j) = false := decide_eq_false p5
        rw [hd] at hcon
        clear g0 g1 g2 g3 p12 p34 p5 hd
        have HC := Lib.hid hcon
        clear hcon
        go_wp2_with fail
        refine HC.out.mono ?_
        rintro e w1 ⟨rfl, rfl⟩
        go_wp2
        go_round
        case rel => exact ⟨j + 1, by omega, by go_num, HH⟩
        case measure => simp [intOf]; omega
    · have HE := Lib.hid (lst_end hlt hall.out)
      have b1 : ¬ (j : Int) < (l.length : Int) := by omega
      clear hall
      go_wp2
      go_ret; exact ⟨ret_int HE.out.symm, rfl⟩

end Go.Proofs.YtpfapfgfchenoaaDoor
