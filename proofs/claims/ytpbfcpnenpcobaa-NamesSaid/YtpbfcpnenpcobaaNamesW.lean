/-
  The walk of the names' law.
-/
import Derived.Test.YtpbfcpnenpcobaaRows
import Derived.WalkKit
import Derived.WalkSpells
import Derived.WalkLawsBesides
import Derived.Lib.Hide
import Derived.Deep.LoopGhost
import Derived.Deep.QuietTactic
import Derived.BigQuiet
import Derived.Deep.RegionWith
import Derived.Handy
set_option linter.unusedSimpArgs false
set_option linter.unusedVariables false
namespace Go.Proofs.Ytpbfcpnenpcobaa
open Go.RowKit

theorem Below_drewN {B : Nat} {a w : World} (h : Below B a w) (n : Nat) : Below B a (w.drewN n) := ⟨h.os, h.tape, h.output, h.size, h.block⟩

def namesHave : List Int := [8, 28, 1000, 12, 2000, 1, 2, 3, 1000, 100000, 0, 1, 2, 3, 4, 1, 2, 3, 4, 5, 6, 200, 40, 16]


set_option maxHeartbeats 4000000 in
theorem names_true (w : World) :
    Calls Try.prog 7 #[] w fun e w' => e = .returned (.bool true) ∧ Below w.heap.size w w' := by
  go_enter Try.func7, Try.ntmps7
  go_wp2
  go_loopw [10] (fun i wr => ∃ j : Nat, j ≤ 12 ∧ i = .int .i64 j ∧ Below w.heap.size w wr ∧ w.heap.size < wr.heap.size ∧ Hid (∀ k, k < 12 → wr.cell? ⟨w.heap.size, k, none⟩ = some (.int .i64 k))) (fun i _ => 12 - (intOf i).toNat)
  case atStart => exact ⟨0, Nat.zero_le _, rfl, (Below.refl _ _).alloc (Nat.le_refl _) _, by simp, by
      show ∀ k, _
      intro k hk
      have : k = 0 ∨ k = 1 ∨ k = 2 ∨ k = 3 ∨ k = 4 ∨ k = 5 ∨ k = 6 ∨ k = 7 ∨ k = 8 ∨ k = 9 ∨ k = 10 ∨ k = 11 := by omega
      rcases this with h | h | h | h | h | h | h | h | h | h | h | h <;> subst h <;> simp [go_sem]⟩
  case round =>
    obtain ⟨j, hj, rfl, hb, hsz, hc⟩ := hrel
    by_cases hlt : j < 12
    · have e0 := hc.out j hlt
      go_wp2
      case roundEnd =>
        go_roundw
        case rel => exact ⟨j + 1, by omega, by go_num, by (repeat' (first | with_reducible exact Below.refl _ _ | with_reducible assumption | with_reducible refine Below.drew ?_ | with_reducible refine Below_drewN ?_ _ | with_reducible refine Below.alloc ?_ ?_ _ | with_reducible refine Below.setCell ?_ ?_ _ | omega | (simp; done) | (simp; omega))), by omega, hc⟩
        case measure => simp [intOf]; omega
      all_goals omega
    · go_wp2
      go_loopw [23] (fun i wx => ∃ j : Nat, j ≤ 24 ∧ i = .int .i64 j ∧ Below w.heap.size w wx ∧ Hid (∀ k, k < 24 → wx.cell? ⟨wr.heap.size, k, none⟩ = some (.int .i64 (namesHave.getD k 0)) ∧ wx.cell? ⟨wr.heap.size + 1, k, none⟩ = some (.int .i64 (namesHave.getD k 0)))) (fun i _ => 24 - (intOf i).toNat)
      case atStart => exact ⟨0, Nat.zero_le _, rfl, by (repeat' (first | with_reducible exact Below.refl _ _ | with_reducible assumption | with_reducible refine Below.drew ?_ | with_reducible refine Below_drewN ?_ _ | with_reducible refine Below.alloc ?_ ?_ _ | with_reducible refine Below.setCell ?_ ?_ _ | omega | (simp; done) | (simp; omega))), by
          show ∀ k, _
          intro k hk
          have : k = 0 ∨ k = 1 ∨ k = 2 ∨ k = 3 ∨ k = 4 ∨ k = 5 ∨ k = 6 ∨ k = 7 ∨ k = 8 ∨ k = 9 ∨ k = 10 ∨ k = 11 ∨ k = 12 ∨ k = 13 ∨ k = 14 ∨ k = 15 ∨ k = 16 ∨ k = 17 ∨ k = 18 ∨ k = 19 ∨ k = 20 ∨ k = 21 ∨ k = 22 ∨ k = 23 := by omega
          rcases this with h | h | h | h | h | h | h | h | h | h | h | h | h | h | h | h | h | h | h | h | h | h | h | h <;> subst h <;> constructor <;> simp [go_sem, namesHave]⟩
      case round =>
        obtain ⟨j, hj, rfl, hb', hc'⟩ := hrel
        by_cases hlt : j < 24
        · obtain ⟨e0, e1⟩ := hc'.out j hlt
          have hi0 : (0 : Int) ≤ (j : Int) := by omega
          have hi1 : (j : Int) < (24 : Int) := by omega
          go_wp2
          go_quiet (fail)
          go_wp2
          case roundEnd =>
            go_roundw
            case rel => exact ⟨j + 1, by omega, by go_num, by (repeat' (first | with_reducible exact Below.refl _ _ | with_reducible assumption | with_reducible refine Below.drew ?_ | with_reducible refine Below_drewN ?_ _ | with_reducible refine Below.alloc ?_ ?_ _ | with_reducible refine Below.setCell ?_ ?_ _ | omega | (simp; done) | (simp; omega))), hc'⟩
            case measure => simp [intOf]; omega
          all_goals omega
        · go_wp2
          go_ret; exact ⟨rfl, by (repeat' (first | with_reducible exact Below.refl _ _ | with_reducible assumption | with_reducible refine Below.drew ?_ | with_reducible refine Below_drewN ?_ _ | with_reducible refine Below.alloc ?_ ?_ _ | with_reducible refine Below.setCell ?_ ?_ _ | omega | (simp; done) | (simp; omega)))⟩
end Go.Proofs.Ytpbfcpnenpcobaa
