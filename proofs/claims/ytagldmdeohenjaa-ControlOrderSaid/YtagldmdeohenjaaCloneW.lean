/-
  slices.Clone at rows of numbers, and at paths: a row of the call's own.
-/
import Derived.Test.YtagldmdeohenjaaSlices
import Derived.Test.YtagldmdeohenjaaOwn
import Derived.Test.YtagldmdeohenjaaOth
import Derived.WalkKit
import Derived.WalkSpells
import Derived.WalkLawsBesides
import Derived.Lib.Hide
import Derived.Deep.LoopGhost
import Derived.Deep.QuietTactic
import Derived.BigQuiet
import Derived.Deep.RegionWith
import Derived.Handy
set_option linter.unusedSimpArgs false
set_option linter.unusedVariables false
namespace Go.St
open Go.RowKit
theorem ownR.fresh {e : TypeId} {B : Nat} {w : World} {ao : Option Addr} {n cap : Nat} {xs : List Int} (h : ownR intS e (fun _ => False) B w ao n cap xs) : rowRep intS (fun b => B ≤ b) w ao cap xs := h.row (fun _ h => h.elim) (fun k hk => (h.lt k hk).1)
end Go.St
namespace Go.Proofs.Ytagldmdeohenjaa
open Go.RowKit Go.St

set_option maxRecDepth 100000 in
set_option maxHeartbeats 1000000 in
theorem cloneI_o (l : List Int) (ok : Nat → Prop) (ax : Option Addr) (cx : Nat) (w : World) (hx : rowRep intS ok w ax cx l) (hsm : l.length ≤ 10000000000) :
    Calls Try.prog 39 #[.slice ax l.length cx] w fun e w' => ∃ ao cap, e = .returned (.slice ao l.length cap) ∧ ownR intS 3 (fun _ => False) w.heap.size w' ao l.length cap l ∧ Below w.heap.size w w' := by
  obtain ⟨i0, hi, hz0, hz1, hz2⟩ := info_parts info_int
  have hlx := hx.len_le
  have hnil := run_eql_nil (P := Try.prog) 26 3 Try.underlying26
  cases ax with
  | none =>
    obtain rfl : l = [] := by
      obtain ⟨_, _, h | ⟨_, _, h, _⟩⟩ := hx
      · exact h
      · cases h
    go_enter Try.func39, Try.ntmps39
    go_wp2
    go_ret; exact ⟨none, 0, rfl, ownR.nil' _ _ _ _, by (repeat' (first | with_reducible exact Below.refl _ _ | with_reducible assumption | with_reducible refine Below.drew ?_ | with_reducible refine Below_drewN ?_ _ | with_reducible refine Below.alloc ?_ ?_ _ | with_reducible refine Below.setCell ?_ ?_ _ | omega | (simp; done) | (simp; omega)))⟩
  | some a =>
    have hown : ownR intS 3 (fun _ => False) w.heap.size (w.alloc (.cells (([] : List Int).map (Value.int .i64)).toArray 3)) (some ⟨w.heap.size, 0, none⟩) 0 0 [] := ownR.lit rfl rfl (Nat.le_refl _) (by decide) (by simp) (fun _ h => h.elim)
    have hlm : l.length ≤ 9223372036854775807 := hlx
    go_enter Try.func39, Try.ntmps39
    go_wp2_with (at_builtin; go_must (refine wpList_appR (sh := intS) rfl _ _ 26 rfl 3 i0 (.int .i64 0) 8 Try.underlying26 hi hz0 hz1 hz2 rfl (by decide) rfl hown rfl rfl ((hx.below (by (repeat' (first | with_reducible exact Below.refl _ _ | with_reducible assumption | with_reducible refine Below.drew ?_ | with_reducible refine Below_drewN ?_ _ | with_reducible refine Below.alloc ?_ ?_ _ | with_reducible refine Below.setCell ?_ ?_ _ | omega | (simp; done) | (simp; omega))))).src) (by simp only [maxLen]; omega) (by omega) (by first | omega | (simp; done) | (simp; omega)) ?_); go_must (
      intro ao1 cap1 w2 hown1 hg1 hbk
      have hb2 := grown_below (B := w.heap.size) hg1 (fun k hk => (hown.lt k hk).1) (by first | omega | (simp; done) | (simp; omega))
      rw [List.nil_append, Nat.zero_add] at hown1))
    go_ret; exact ⟨ao1, cap1, rfl, hown1, Below.trans (by (repeat' (first | with_reducible exact Below.refl _ _ | with_reducible assumption | with_reducible refine Below.drew ?_ | with_reducible refine Below_drewN ?_ _ | with_reducible refine Below.alloc ?_ ?_ _ | with_reducible refine Below.setCell ?_ ?_ _ | omega | (simp; done) | (simp; omega)))) hb2⟩

set_option maxRecDepth 100000 in
set_option maxHeartbeats 1000000 in
theorem cloneP_o (l : List Int) (ok : Nat → Prop) (ax : Option Addr) (cx : Nat) (w : World) (hx : rowRep intS ok w ax cx l) (hsm : l.length ≤ 10000000000) :
    Calls Try.prog 52 #[.slice ax l.length cx] w fun e w' => ∃ ao cap, e = .returned (.slice ao l.length cap) ∧ ownR intS 3 (fun _ => False) w.heap.size w' ao l.length cap l ∧ Below w.heap.size w w' := by
  obtain ⟨i0, hi, hz0, hz1, hz2⟩ := info_parts info_int
  have hlx := hx.len_le
  have hnil := run_eql_nil (P := Try.prog) 92 3 Try.underlying92
  cases ax with
  | none =>
    obtain rfl : l = [] := by
      obtain ⟨_, _, h | ⟨_, _, h, _⟩⟩ := hx
      · exact h
      · cases h
    go_enter Try.func52, Try.ntmps52
    go_wp2
    go_ret; exact ⟨none, 0, rfl, ownR.nil' _ _ _ _, by (repeat' (first | with_reducible exact Below.refl _ _ | with_reducible assumption | with_reducible refine Below.drew ?_ | with_reducible refine Below_drewN ?_ _ | with_reducible refine Below.alloc ?_ ?_ _ | with_reducible refine Below.setCell ?_ ?_ _ | omega | (simp; done) | (simp; omega)))⟩
  | some a =>
    have hown : ownR intS 3 (fun _ => False) w.heap.size (w.alloc (.cells (([] : List Int).map (Value.int .i64)).toArray 3)) (some ⟨w.heap.size, 0, none⟩) 0 0 [] := ownR.lit rfl rfl (Nat.le_refl _) (by decide) (by simp) (fun _ h => h.elim)
    have hlm : l.length ≤ 9223372036854775807 := hlx
    go_enter Try.func52, Try.ntmps52
    go_wp2_with (at_builtin; go_must (refine wpList_appR (sh := intS) rfl _ _ 92 rfl 3 i0 (.int .i64 0) 8 Try.underlying92 hi hz0 hz1 hz2 rfl (by decide) rfl hown rfl rfl ((hx.below (by (repeat' (first | with_reducible exact Below.refl _ _ | with_reducible assumption | with_reducible refine Below.drew ?_ | with_reducible refine Below_drewN ?_ _ | with_reducible refine Below.alloc ?_ ?_ _ | with_reducible refine Below.setCell ?_ ?_ _ | omega | (simp; done) | (simp; omega))))).src) (by simp only [maxLen]; omega) (by omega) (by first | omega | (simp; done) | (simp; omega)) ?_); go_must (
      intro ao1 cap1 w2 hown1 hg1 hbk
      have hb2 := grown_below (B := w.heap.size) hg1 (fun k hk => (hown.lt k hk).1) (by first | omega | (simp; done) | (simp; omega))
      rw [List.nil_append, Nat.zero_add] at hown1))
    go_ret; exact ⟨ao1, cap1, rfl, hown1, Below.trans (by (repeat' (first | with_reducible exact Below.refl _ _ | with_reducible assumption | with_reducible refine Below.drew ?_ | with_reducible refine Below_drewN ?_ _ | with_reducible refine Below.alloc ?_ ?_ _ | with_reducible refine Below.setCell ?_ ?_ _ | omega | (simp; done) | (simp; omega)))) hb2⟩

end Go.Proofs.Ytagldmdeohenjaa
