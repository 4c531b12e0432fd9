/-
  The walks of cmp.Compare, cmp.Or at two numbers.
-/
import Derived.Test.YtcfcdembhjnjfaaRuleRow
import Derived.Test.YtcfcdembhjnjfaaStr
import Derived.Test.YtcfcdembhjnjfaaTo
import Derived.Test.YtcfcdembhjnjfaaRows
import Derived.Test.YtcfcdembhjnjfaaLib
import Derived.WalkKit
import Derived.WalkSpells
import Derived.WalkLawsBesides
import Derived.Lib.Hide
import Derived.Deep.LoopGhost
import Derived.Deep.QuietTactic
import Derived.BigQuiet
import Derived.Deep.RegionWith
import Derived.Handy
set_option linter.unusedSimpArgs false
set_option linter.unusedVariables false
namespace Go.St
def orI (x y : Int) : Int := if x ≠ 0 then x else y
end Go.St
namespace Go.Proofs.Ytcfcdembhjnjfaa
open Go.RowKit Go.St

set_option maxRecDepth 100000 in
set_option maxHeartbeats 1000000 in
theorem compare_c (x y : Int) (w : World) :
    Calls Try.prog 53 #[.int .i64 x, .int .i64 y] w fun e w' => e = .returned (.int .i64 (cmpI x y)) ∧ w' = w := by
  have hc : ∀ r, cmpI x y = r → r = if x < y then -1 else if y < x then 1 else 0 := fun r h => by rw [← h]; rfl
  generalize hr : cmpI x y = r at *
  have HC := Lib.hid (hc r rfl)
  clear hc hr
  go_enter Try.func53, Try.ntmps53
  by_cases h1 : x < y
  · have HN := Lib.hid (show r = -1 by rw [HC.out, if_pos h1])
    go_wp2
    go_ret; exact ⟨by rw [HN.out]; rfl, rfl⟩
  by_cases h2 : y < x
  · have HN := Lib.hid (show r = 1 by rw [HC.out, if_neg h1, if_pos h2])
    go_wp2
    go_ret; exact ⟨by rw [HN.out]; rfl, rfl⟩
  · have HN := Lib.hid (show r = 0 by rw [HC.out, if_neg h1, if_neg h2])
    go_wp2
    go_ret; exact ⟨by rw [HN.out]; rfl, rfl⟩

set_option maxRecDepth 100000 in
set_option maxHeartbeats 1000000 in
theorem or_c (x y : Int) (b : Nat) (w : World) (hb : blockIs w b 3 #[.int .i64 x, .int .i64 y]) :
    Calls Try.prog 52 #[.slice (some ⟨b, 0, none⟩) 2 2] w fun e w' => e = .returned (.int .i64 (orI x y)) ∧ w' = w := by
  obtain ⟨c1, c2⟩ := hb.cells
  have e0 := c1 0
  have e1 := c1 1
  simp only [List.getElem?_toArray, List.getElem?_cons_zero, List.getElem?_cons_succ] at e0 e1
  clear c1 c2
  go_enter Try.func52, Try.ntmps52
  by_cases h1 : x = 0
  case neg =>
    have h1' : (x != 0) = true := by rw [bne_iff_ne]; exact h1
    have HN := Lib.hid (show orI x y = x by unfold orI; rw [if_pos h1])
    generalize orI x y = r at *
    clear h1
    go_wp2
    go_rounds 1
    go_ret; exact ⟨by rw [HN.out]; rfl, rfl⟩
  subst h1
  by_cases h2 : y = 0
  · subst h2
    go_wp2
    go_rounds 3
    go_ret; exact ⟨rfl, rfl⟩
  · have h1' : (y != 0) = true := by rw [bne_iff_ne]; exact h2
    have HN := Lib.hid (show orI 0 y = y by unfold orI; rw [if_neg (by simp)])
    generalize orI 0 y = r at *
    clear h2
    go_wp2
    go_rounds 2
    go_ret; exact ⟨by rw [HN.out]; rfl, rfl⟩

end Go.Proofs.Ytcfcdembhjnjfaa
