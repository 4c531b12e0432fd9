/-
  The walks of slices.Index, Contains and Clone at rows of integers.
-/
import Derived.Test.YtpfapfgfchenoaaDoorPathS
import Derived.Test.YtpfapfgfchenoaaDoorRows
import Derived.Test.YtpfapfgfchenoaaDoorLib
import Derived.Test.YtpfapfgfchenoaaDoorOwn
import Derived.Laws.Cover3
import Derived.WalkKit
import Derived.WalkSpells
import Derived.WalkLawsBesides
import Derived.Lib.Hide
import Derived.Deep.LoopGhost
import Derived.Deep.QuietTactic
import Derived.BigQuiet
import Derived.Deep.RegionWith
import Derived.Handy
set_option linter.unusedSimpArgs false
set_option linter.unusedVariables false
namespace Go.St
open Go.RowKit
theorem run_eql_nil {P : Program} (t e : TypeId) (h : P.underlying t = some (.slice e)) (w : World) (a : Option Addr) (l c : Nat) : (binOp .eql t (.slice a l c) (.slice none 0 0)).run P w = .ok (.bool a.isNone) w := by
  show ((do return .bool (← Op.equal t _ _)) : Sem Value).run P w = _
  simp [run_equal_slice_nil w t e a l c h]
def idxI (x : Int) (l : List Int) : Int := match idxIn x l with | none => -1 | some i => i
theorem idx_hit {x : Int} : ∀ {l : List Int} {j : Nat}, x ∉ l.take j → l[j]? = some x → idxIn x l = some j
  | [], j, _, h => by simp at h
  | y :: r, 0, _, h => by simp at h; simp [idxIn, h]
  | y :: r, j + 1, h0, h => by
    simp only [List.take_succ_cons, List.mem_cons, not_or] at h0
    simp only [idxIn]
    rw [if_neg h0.1, idx_hit h0.2 (by simpa using h)]
    rfl
theorem idx_end {x : Int} : ∀ {l : List Int}, x ∉ l → idxIn x l = none
  | [], _ => rfl
  | y :: r, h => by
    simp only [List.mem_cons, not_or] at h
    simp only [idxIn]
    rw [if_neg h.1, idx_end h.2]
    rfl
theorem idxI_hit {x : Int} {l : List Int} {j : Nat} (h : x ∉ l.take j) (hj : j < l.length) (he : (x == l[j]) = true) : idxI x l = j := by
  unfold idxI
  rw [idx_hit h (by rw [List.getElem?_eq_getElem hj]; simpa using (beq_iff_eq.1 he).symm)]
theorem idxI_go {x : Int} {l : List Int} {j : Nat} (h : x ∉ l.take j) (hj : j < l.length) (he : (x == l[j]) = false) : x ∉ l.take (j + 1) := by
  rw [List.take_succ_eq_append_getElem hj]
  intro hm
  rcases List.mem_append.1 hm with hm | hm
  · exact h hm
  · simp at hm; simp [hm] at he
theorem idxI_end {x : Int} {l : List Int} {j : Nat} (h : x ∉ l.take j) (hj : ¬ j < l.length) : idxI x l = -1 := by
  rw [List.take_of_length_le (by omega)] at h
  unfold idxI
  rw [idx_end h]
theorem idxI_mem {x : Int} {l : List Int} : decide (idxI x l ≥ 0) = decide (x ∈ l) := by
  unfold idxI
  cases h : idxIn x l with
  | none => simp [idxIn_none h]
  | some i => simp [List.mem_of_getElem? (idxIn_some h)]
theorem idxI_mem' {x : Int} {l : List Int} : decide (0 ≤ idxI x l) = decide (x ∈ l) := idxI_mem
end Go.St
namespace Go.Proofs.YtpfapfgfchenoaaDoor
open Go.RowKit Go.St
theorem info_int : (Tryd.prog.info? 3).map (fun i => (i.zero, i.size, i.bytes)) = some (some (.int .i64 0), 1, 8) := by kernel_rfl

set_option maxRecDepth 100000 in
set_option maxHeartbeats 1000000 in
theorem indexI_c (l : List Int) (x : Int) (ok : Nat → Prop) (ax : Option Addr) (cx : Nat) (w : World) (hx : rowRep intS ok w ax cx l) :
    Calls Tryd.prog 33 #[.slice ax l.length cx, .int .i64 x] w fun e w' => e = .returned (.int .i64 (idxI x l)) ∧ w' = w := by
  have hlx := hx.len_le
  go_enter Tryd.func33, Tryd.ntmps33
  go_wp2
  go_loop [5, 8] (fun _ i => ∃ j : Nat, j ≤ l.length ∧ i = .int .i64 j ∧ Hid (x ∉ l.take j)) (fun _ i => l.length - (intOf i).toNat)
  case atStart => exact ⟨0, Nat.zero_le _, rfl, by show x ∉ _; simp⟩
  case round =>
    obtain ⟨j, hj, rfl, hall⟩ := hrel
    by_cases hlt : j < l.length
    · obtain ⟨b, off, rfl, _, hbl, cs, hcs, hce⟩ := hx.get (List.getElem?_eq_getElem hlt)
      obtain ⟨rfl, hi1, hi2⟩ := hcs
      have e0 := hce 0 _ rfl
      clear hce
      simp only [intS, Nat.add_zero, Nat.mul_one] at e0
      have hgo := idxI_go hall.out hlt
      have hhit := idxI_hit hall.out hlt
      generalize l[j] = y at *
      cases p1 : (x == y)
      · have HG := Lib.hid (hgo p1)
        clear hgo hhit
        go_wp2
        go_round
        case rel => exact ⟨j + 1, by omega, by go_num, HG⟩
        case measure => simp [intOf]; omega
      · have HH := Lib.hid (hhit p1)
        clear hgo hhit
        go_wp2
        go_ret; exact ⟨ret_int HH.out.symm, rfl⟩
    · have HE := Lib.hid (idxI_end hall.out hlt)
      go_wp2
      go_ret; exact ⟨ret_int HE.out.symm, rfl⟩

set_option maxRecDepth 100000 in
set_option maxHeartbeats 1000000 in
theorem containsI_c (l : List Int) (x : Int) (ok : Nat → Prop) (ax : Option Addr) (cx : Nat) (w : World) (hx : rowRep intS ok w ax cx l) :
    Calls Tryd.prog 20 #[.slice ax l.length cx, .int .i64 x] w fun e w' => e = .returned (.bool (decide (x ∈ l))) ∧ w' = w := by
  go_enter Tryd.func20, Tryd.ntmps20
  go_wp2_with fail
  refine (indexI_c l x ok ax cx w hx).mono ?_
  rintro e w' ⟨rfl, rfl⟩
  go_wp2
  go_ret; exact ⟨ret_bool idxI_mem', rfl⟩

end Go.Proofs.YtpfapfgfchenoaaDoor
