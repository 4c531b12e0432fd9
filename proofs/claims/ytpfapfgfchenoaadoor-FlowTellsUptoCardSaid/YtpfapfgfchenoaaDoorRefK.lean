/-
  The walks of the document's Cost and in.
-/
import Derived.Test.YtpfapfgfchenoaaDoorTopoC
import Derived.Test.YtpfapfgfchenoaaDoorSlices
import Derived.Test.YtpfapfgfchenoaaDoorStr
import Derived.Test.YtpfapfgfchenoaaDoorBlk
import Derived.Test.YtpfapfgfchenoaaDoorTopoL
import Derived.Test.YtpfapfgfchenoaaDoorLib
import Derived.WalkKit
import Derived.WalkSpells
import Derived.WalkLawsBesides
import Derived.Lib.Hide
import Derived.Deep.LoopGhost
import Derived.Deep.QuietTactic
import Derived.BigQuiet
import Derived.Deep.RegionWith
import Derived.Handy
set_option linter.unusedSimpArgs false
set_option linter.unusedVariables false
namespace Go.Proofs.YtpfapfgfchenoaaDoor
open Go.RowKit Go.St
set_option maxRecDepth 100000 in
set_option maxHeartbeats 2000000 in
theorem in_c (l : List Int) (x : Int) (ok : Nat → Prop) (ax : Option Addr) (cx : Nat) (w : World) (hx : rowRep intS ok w ax cx l) :
    Calls Tryd.prog 22 #[.slice ax l.length cx, .int .i64 x] w fun e w' => e = .returned (.bool (decide (x ∈ l))) ∧ w' = w := by
  have hlx := hx.len_le
  go_enter Tryd.func22, Tryd.ntmps22
  go_wp2
  go_loop [6, 9] (fun _ i => ∃ j : Nat, j ≤ l.length ∧ i = .int .i64 j ∧ Hid (x ∉ l.take j)) (fun _ i => l.length - (intOf i).toNat)
  case atStart => exact ⟨0, Nat.zero_le _, rfl, by show x ∉ _; simp⟩
  case round =>
    obtain ⟨j, hj, rfl, hall⟩ := hrel
    by_cases hlt : j < l.length
    · obtain ⟨b, off, rfl, _, hbl, cs, hcs, hce⟩ := hx.get (List.getElem?_eq_getElem hlt)
      obtain ⟨rfl, _⟩ := hcs
      have e0 := hce 0 _ rfl
      clear hce
      simp only [intS, Nat.add_zero, Nat.mul_one] at e0
      have hgo := idxI_go hall.out hlt
      have hmem : (x == l[j]) = true → decide (x ∈ l) = true := fun h => by rw [beq_iff_eq] at h; simp [h]
      rw [show (x == l[j]) = (l[j] == x) from BEq.comm] at hgo hmem
      generalize l[j] = y at *
      cases p1 : (y == x)
      · have HG := Lib.hid (hgo p1)
        clear hgo hmem
        go_wp2
        go_round
        case rel => exact ⟨j + 1, by omega, by go_num, HG⟩
        case measure => simp [intOf]; omega
      · have HH := Lib.hid (hmem p1)
        clear hgo hmem
        go_wp2
        go_ret; exact ⟨ret_bool HH.out.symm, rfl⟩
    · have HE : Hid (decide (x ∈ l) = false) := by
        have := hall.out
        rw [List.take_of_length_le (by omega)] at this
        exact decide_eq_false this
      go_wp2
      go_ret; exact ⟨ret_bool HE.out.symm, rfl⟩

end Go.Proofs.YtpfapfgfchenoaaDoor
