/-
  The closed fact that the wire's laws ask first: alive.
-/
import Derived.Test.YtpbfcpnenpcobaaParseC
import Derived.WalkKit
import Derived.WalkSpells
import Derived.WalkLawsBesides
import Derived.Lib.Hide
import Derived.Deep.LoopGhost
import Derived.Deep.QuietTactic
import Derived.BigQuiet
import Derived.Deep.RegionWith
import Derived.Handy
set_option linter.unusedSimpArgs false
set_option linter.unusedVariables false
namespace Go.Proofs.Ytpbfcpnenpcobaa
open Go.RowKit Go.St

def aliveO : Order := ⟨1, 7, 2, [⟨2, 1, 3⟩], []⟩
theorem alive_wrong : wireWrong aliveO = 0 := by decide
theorem alive_bytes : bytesOf aliveO = [1, 0, 0, 7, 0, 2, 1, 1, 3, 250] := by decide
theorem alive_parse : parseAll [1, 0, 0, 7, 0, 2, 1, 1, 3, 250] = (aliveO, 0) := by decide

theorem alive_rep (b : Nat) (w : World) (hb : b < w.heap.size) (c0 : w.cell? ⟨b, 0, none⟩ = some (.int .i64 2)) (c1 : w.cell? ⟨b, 1, none⟩ = some (.int .i64 1)) (c2 : w.cell? ⟨b, 2, none⟩ = some (.int .i64 3)) :
    orderS.rep (fun _ => True) w [.int .i64 1, .int .i64 7, .int .i64 2, .slice (some ⟨b, 0, none⟩) 1 1, .slice none 0 0] aliveO := by
  refine ⟨_, _, _, _, rfl, I64.small (by decide) (by decide), I64.small (by decide) (by decide), I64.small (by decide) (by decide), ?_, rowRep.nil _ _ _ _⟩
  refine ⟨by decide, by decide, .inr ⟨b, 0, rfl, trivial, hb, ?_⟩⟩
  intro i x hx
  match i, hx with
  | 0, hx =>
    cases hx
    refine ⟨_, ⟨rfl, I64.small (by decide) (by decide), I64.small (by decide) (by decide), I64.small (by decide) (by decide)⟩, ?_⟩
    intro j c hc
    match j, hc with
    | 0, hc => cases hc; exact c0
    | 1, hc => cases hc; exact c1
    | 2, hc => cases hc; exact c2
    | j + 3, hc => simp at hc
  | i + 1, hx => simp [aliveO] at hx

set_option maxHeartbeats 4000000 in
theorem alive_c (w : World) :
    Calls Try.prog 15 #[] w fun e w' => e = .returned (.bool true) ∧ Below w.heap.size w w' := by
  go_enter Try.func15, Try.ntmps15
  go_wp2_with fail
  refine (bytes_c aliveO _ _ _ (alive_rep w.heap.size _ (by simp) (by simp [go_sem]) (by simp [go_sem]) (by simp [go_sem]))).mono ?_
  rw [alive_bytes, alive_wrong]
  rintro e w1 ⟨ao, cap, rfl, hr, hb⟩
  have hB : Below w.heap.size w w1 := Below.trans (by (repeat' (first | with_reducible exact Below.refl _ _ | with_reducible assumption | with_reducible refine Below.drew ?_ | with_reducible refine Below_drewN ?_ _ | with_reducible refine Below.alloc ?_ ?_ _ | with_reducible refine Below.setCell ?_ ?_ _ | omega | (simp; done) | (simp; omega)))) (hb.mono (by first | omega | (simp; done) | (simp; omega)))
  clear hb
  go_wp2_with fail
  refine (parse_c _ _ _ _ _ (hr.below (by (repeat' (first | with_reducible exact Below.refl _ _ | with_reducible assumption | with_reducible refine Below.drew ?_ | with_reducible refine Below_drewN ?_ _ | with_reducible refine Below.alloc ?_ ?_ _ | with_reducible refine Below.setCell ?_ ?_ _ | omega | (simp; done) | (simp; omega)))))).mono ?_
  rw [alive_parse]
  rintro e w2 ⟨cs, rfl, ⟨ra, rc, fa, fc, rfl, _, _, _, hr2, _⟩, hb2⟩
  have hB2 : Below w.heap.size w w2 := Below.trans (by (repeat' (first | with_reducible exact Below.refl _ _ | with_reducible assumption | with_reducible refine Below.drew ?_ | with_reducible refine Below_drewN ?_ _ | with_reducible refine Below.alloc ?_ ?_ _ | with_reducible refine Below.setCell ?_ ?_ _ | omega | (simp; done) | (simp; omega)))) (hb2.mono (by have := hB.size; simp; omega))
  obtain ⟨b, off, rfl, _, hbl, ds, ⟨rfl, _⟩, hce⟩ := hr2.get (i := 0) (x := ⟨2, 1, 3⟩) rfl
  have e2 := hce 2 _ rfl
  simp only [ruleS, Nat.zero_mul, Nat.add_zero] at e2
  clear hce hr2 hb2 hr
  simp only [aliveO]
  have hsz2 := hB2.size
  go_wp2
  go_ret; exact ⟨rfl, by (repeat' (first | with_reducible exact Below.refl _ _ | with_reducible assumption | with_reducible refine Below.drew ?_ | with_reducible refine Below_drewN ?_ _ | with_reducible refine Below.alloc ?_ ?_ _ | with_reducible refine Below.setCell ?_ ?_ _ | omega | (simp; done) | (simp; omega)))⟩

end Go.Proofs.Ytpbfcpnenpcobaa
