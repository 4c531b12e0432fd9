/-
  The walks of the two sums of bytes.
-/
import Derived.Test.YtpbfcpnenpcobaaRows
import Derived.Test.YtpbfcpnenpcobaaLib
import Derived.WalkKit
import Derived.WalkSpells
import Derived.WalkLawsBesides
import Derived.Lib.Hide
import Derived.Deep.LoopGhost
import Derived.Deep.QuietTactic
import Derived.BigQuiet
import Derived.Deep.RegionWith
import Derived.Handy
set_option linter.unusedSimpArgs false
set_option linter.unusedVariables false
namespace Go.St
def sumStep (n c : Int) : Int := (2 * n % 256 + n / 128 + c) % 256
def sumB (l : List Int) : Int := l.foldl sumStep 0
theorem sumB_range (l : List Int) : 0 ≤ sumB l ∧ sumB l ≤ 255 := by
  have h : ∀ (l : List Int) (n : Int), 0 ≤ n → n ≤ 255 → 0 ≤ l.foldl sumStep n ∧ l.foldl sumStep n ≤ 255 := by
    intro l
    induction l with
    | nil => exact fun n h0 h1 => ⟨h0, h1⟩
    | cons c l ih =>
      intro n h0 h1
      exact ih _ (by unfold sumStep; omega) (by unfold sumStep; omega)
  exact h l 0 (by decide) (by decide)
theorem take_snoc {α : Type} {l : List α} {j : Nat} (h : j < l.length) : l.take (j + 1) = l.take j ++ [l[j]] := by
  rw [List.take_succ_eq_append_getElem h]
theorem sumB_snoc (l : List Int) (c : Int) : sumB (l ++ [c]) = sumStep (sumB l) c := by
  unfold sumB; rw [List.foldl_append]; rfl
end Go.St
namespace Go.Proofs.Ytpbfcpnenpcobaa
open Go.RowKit Go.St

theorem or_turn (n : Int) (h0 : 0 ≤ n) (h1 : n ≤ 255) : bits BinOp.or IntKind.u8 (n * 2 % 256) (n / 128) = 2 * n % 256 + n / 128 := by
  have h : ∀ m : Fin 256, bits BinOp.or IntKind.u8 ((m.val : Int) * 2 % 256) ((m.val : Int) / 128) = 2 * (m.val : Int) % 256 + (m.val : Int) / 128 := by decide +kernel
  have := h ⟨n.toNat, by omega⟩
  simpa [Int.toNat_of_nonneg h0] using this

set_option maxHeartbeats 1000000 in
theorem sum_c (l : List Int) (ok : Nat → Prop) (ax : Option Addr) (cx : Nat) (w : World) (hx : rowRep byteS ok w ax cx l) :
    Calls Try.prog 17 #[.slice ax l.length cx] w fun e w' => e = .returned (.int .u8 (sumB l)) ∧ w' = w := by
  have hlx := hx.len_le
  go_enter Try.func17, Try.ntmps17
  go_wp2
  go_loop [3, 8] (fun n i => ∃ j : Nat, j ≤ l.length ∧ i = .int .i64 j ∧ n = .int .u8 (sumB (l.take j))) (fun _ i => l.length - (intOf i).toNat)
  case atStart => exact ⟨0, Nat.zero_le _, rfl, rfl⟩
  case round =>
    obtain ⟨j, hj, rfl, rfl⟩ := hrel
    by_cases hlt : j < l.length
    · obtain ⟨b, off, rfl, _, hbl, cs, hcs, hce⟩ := hx.get (List.getElem?_eq_getElem hlt)
      obtain ⟨rfl, hi1, hi2⟩ := hcs
      have e0 := hce 0 _ rfl
      clear hce
      simp only [byteS, Nat.add_zero, Nat.mul_one] at e0
      obtain ⟨s1, s2⟩ := sumB_range (l.take j)
      have hts := take_snoc hlt
      have hst : Hid (sumB (l.take (j + 1)) = sumStep (sumB (l.take j)) l[j]) := by show _ = _; rw [hts, sumB_snoc]
      clear hts
      generalize sumB (l.take j) = n at *
      generalize l[j] = c at *
      go_wp2
      go_round
      case rel => exact ⟨j + 1, by omega, by go_num, int_eq (by rw [hst.out, or_turn n s1 s2]; rfl)⟩
      case measure => simp [intOf]; omega
    · go_wp2
      go_ret; exact ⟨ret_u8 (by rw [List.take_of_length_le (by omega)]), rfl⟩

set_option maxHeartbeats 1000000 in
theorem refSum_c (l : List Int) (ok : Nat → Prop) (ax : Option Addr) (cx : Nat) (w : World) (hx : rowRep byteS ok w ax cx l) :
    Calls Try.prog 18 #[.slice ax l.length cx] w fun e w' => e = .returned (.int .u8 (sumB l)) ∧ w' = w := by
  have hlx := hx.len_le
  go_enter Try.func18, Try.ntmps18
  go_wp2
  go_loop [3, 8] (fun n i => ∃ j : Nat, j ≤ l.length ∧ i = .int .i64 j ∧ n = .int .i64 (sumB (l.take j))) (fun _ i => l.length - (intOf i).toNat)
  case atStart => exact ⟨0, Nat.zero_le _, rfl, rfl⟩
  case round =>
    obtain ⟨j, hj, rfl, rfl⟩ := hrel
    by_cases hlt : j < l.length
    · obtain ⟨b, off, rfl, _, hbl, cs, hcs, hce⟩ := hx.get (List.getElem?_eq_getElem hlt)
      obtain ⟨rfl, hi1, hi2⟩ := hcs
      have e0 := hce 0 _ rfl
      clear hce
      simp only [byteS, Nat.add_zero, Nat.mul_one] at e0
      obtain ⟨s1, s2⟩ := sumB_range (l.take j)
      have hts := take_snoc hlt
      have hst : Hid (sumB (l.take (j + 1)) = sumStep (sumB (l.take j)) l[j]) := by show _ = _; rw [hts, sumB_snoc]
      clear hts
      go_wp2
      go_round
      case rel => exact ⟨j + 1, by omega, by go_num, int_eq (by rw [hst.out]; rfl)⟩
      case measure => simp [intOf]; omega
    · obtain ⟨s1, s2⟩ := sumB_range (l.take j)
      go_wp2
      go_ret; exact ⟨ret_u8 (by rw [List.take_of_length_le (by omega)]), rfl⟩

theorem sum_n (l : List Int) (n : Nat) (hn : l.length = n) (ok : Nat → Prop) (ax : Option Addr) (cx : Nat) (w : World) (hx : rowRep byteS ok w ax cx l) :
    Calls Try.prog 17 #[.slice ax n cx] w fun e w' => e = .returned (.int .u8 (sumB l)) ∧ w' = w := by
  subst hn; exact sum_c l ok ax cx w hx

theorem refSum_n (l : List Int) (n : Nat) (hn : l.length = n) (ok : Nat → Prop) (ax : Option Addr) (cx : Nat) (w : World) (hx : rowRep byteS ok w ax cx l) :
    Calls Try.prog 18 #[.slice ax n cx] w fun e w' => e = .returned (.int .u8 (sumB l)) ∧ w' = w := by
  subst hn; exact refSum_c l ok ax cx w hx
end Go.Proofs.Ytpbfcpnenpcobaa
