/-
  The walk of Bare: an order, with what its kind has.
-/
import Derived.Test.YtpbfcpnenpcobaaPure
import Derived.Test.YtpbfcpnenpcobaaRows
import Derived.Test.YtpbfcpnenpcobaaLib
import Derived.WalkKit
import Derived.WalkSpells
import Derived.WalkLawsBesides
import Derived.Lib.Hide
import Derived.Deep.LoopGhost
import Derived.Deep.QuietTactic
import Derived.BigQuiet
import Derived.Deep.RegionWith
import Derived.Handy
set_option linter.unusedSimpArgs false
set_option linter.unusedVariables false
namespace Go.Proofs.Ytpbfcpnenpcobaa
open Go.RowKit Go.St

set_option maxRecDepth 100000 in
set_option maxHeartbeats 4000000 in
theorem bare_c (o : Order) (cs : List Value) (ok : Nat → Prop) (w : World) (h : orderS.rep ok w cs o) :
    Calls Try.prog 16 #[.agg cs.toArray] w fun e w' => ∃ ds : List Value, e = .returned (.agg ds.toArray) ∧ orderS.rep ok w' ds (bareO o) ∧ Below w.heap.size w w' := by
  obtain ⟨ra, rc, fa, fc, rfl, i1, i2, i3, hr, hf⟩ := h
  obtain ⟨k, n, v, rs, fs⟩ := o
  dsimp only at *
  by_cases h1 : k = 1
  · subst h1
    go_enter Try.func16, Try.ntmps16
    go_wp2
    refine bodyPost_ret (v := .agg #[.int .i64 1, .int .i64 n, .int .i64 v, .slice ra rs.length rc, .slice none 0 0]) (by simp [results, Try.results16, go_sem]) rfl ⟨_, rfl, ?_⟩
    have hB : ∀ w', Below w.heap.size w w' → rowRep ruleS ok w' ra rc rs := fun w' hb => hr.below hb
    refine ⟨⟨ra, rc, none, 0, rfl, i1, i2, i3, hB _ (by (repeat' (first | with_reducible exact Below.refl _ _ | with_reducible assumption | with_reducible refine Below.drew ?_ | with_reducible refine Below_drewN ?_ _ | with_reducible refine Below.alloc ?_ ?_ _ | with_reducible refine Below.setCell ?_ ?_ _ | omega | (simp; done) | (simp; omega)))), rowRep.nil _ _ _ _⟩, by (repeat' (first | with_reducible exact Below.refl _ _ | with_reducible assumption | with_reducible refine Below.drew ?_ | with_reducible refine Below_drewN ?_ _ | with_reducible refine Below.alloc ?_ ?_ _ | with_reducible refine Below.setCell ?_ ?_ _ | omega | (simp; done) | (simp; omega)))⟩
  by_cases h2 : k = 2
  · subst h2
    go_enter Try.func16, Try.ntmps16
    go_wp2
    refine bodyPost_ret (v := .agg #[.int .i64 2, .int .i64 n, .int .i64 v, .slice none 0 0, .slice fa fs.length fc]) (by simp [results, Try.results16, go_sem]) rfl ⟨_, rfl, ?_⟩
    have hB : ∀ w', Below w.heap.size w w' → rowRep intS ok w' fa fc fs := fun w' hb => hf.below hb
    refine ⟨⟨none, 0, fa, fc, rfl, i1, i2, i3, rowRep.nil _ _ _ _, hB _ (by (repeat' (first | with_reducible exact Below.refl _ _ | with_reducible assumption | with_reducible refine Below.drew ?_ | with_reducible refine Below_drewN ?_ _ | with_reducible refine Below.alloc ?_ ?_ _ | with_reducible refine Below.setCell ?_ ?_ _ | omega | (simp; done) | (simp; omega))))⟩, by (repeat' (first | with_reducible exact Below.refl _ _ | with_reducible assumption | with_reducible refine Below.drew ?_ | with_reducible refine Below_drewN ?_ _ | with_reducible refine Below.alloc ?_ ?_ _ | with_reducible refine Below.setCell ?_ ?_ _ | omega | (simp; done) | (simp; omega)))⟩
  have h1' : (k == 1) = false := by rw [beq_eq_false_iff_ne]; exact h1
  have h2' : (k == 2) = false := by rw [beq_eq_false_iff_ne]; exact h2
  go_enter Try.func16, Try.ntmps16
  go_wp2
  refine bodyPost_ret (v := .agg #[.int .i64 k, .int .i64 n, .int .i64 v, .slice none 0 0, .slice none 0 0]) (by simp [results, Try.results16, go_sem]) rfl ⟨_, rfl, ?_⟩
  have e : bareO ⟨k, n, v, rs, fs⟩ = ⟨k, n, v, [], []⟩ := by simp [bareO, h1, h2]
  rw [e]
  refine ⟨⟨none, 0, none, 0, rfl, i1, i2, i3, rowRep.nil _ _ _ _, rowRep.nil _ _ _ _⟩, by (repeat' (first | with_reducible exact Below.refl _ _ | with_reducible assumption | with_reducible refine Below.drew ?_ | with_reducible refine Below_drewN ?_ _ | with_reducible refine Below.alloc ?_ ?_ _ | with_reducible refine Below.setCell ?_ ?_ _ | omega | (simp; done) | (simp; omega)))⟩

end Go.Proofs.Ytpbfcpnenpcobaa
