/-
  The walk of package agent's stamp: a stamp behind all others.
-/
import Derived.Test.YtcfcdembhjnjfaaAgentW
import Derived.WalkKit
import Derived.WalkSpells
import Derived.WalkLawsBesides
import Derived.Lib.Hide
import Derived.Deep.LoopGhost
import Derived.Deep.QuietTactic
import Derived.BigQuiet
import Derived.Deep.RegionWith
import Derived.Handy
set_option linter.unusedSimpArgs false
set_option linter.unusedVariables false
namespace Go.St
open Go.RowKit
theorem srcRep.stamp {e : TypeId} {w : World} (r : Stamp) {b : Nat} (hb : blockIs w b e #[.int .i64 r.flow, .int .i64 r.ver]) (h1 : I64 r.flow) (h2 : I64 r.ver) {ok : Nat → Prop} : srcRep stampS ok w (some ⟨b, 0, none⟩) [r] := by
  refine .inr ⟨b, 0, rfl, fun i x hx => ?_⟩
  match i, hx with
  | 0, hx =>
    obtain rfl : r = x := by simpa using hx
    refine ⟨_, ⟨rfl, h1, h2⟩, fun j c hc => ?_⟩
    simp only [Nat.zero_mul, Nat.zero_add]
    rw [hb.cells.1 j]
    simpa using hc
  | i + 1, hx => simp at hx
end Go.St
namespace Go.Proofs.Ytcfcdembhjnjfaa
open Go.RowKit Go.St

set_option maxRecDepth 100000 in
set_option maxHeartbeats 1000000 in
theorem stampCmp_c (x : Stamp) (f : Int) (w : World) :
    Calls Try.prog 61 #[.agg #[.int .i64 x.flow, .int .i64 x.ver], .int .i64 f] w fun e w' => e = .returned (.int .i64 (cmpI x.flow f)) ∧ Below w.heap.size w w' := by
  go_enter Try.func61, Try.ntmps61
  go_wp2_with fail
  have hb0 : Below w.heap.size w (w.alloc (.cells #[.int .i64 x.flow, .int .i64 x.ver] 83)) := by (repeat' (first | with_reducible exact Below.refl _ _ | with_reducible assumption | with_reducible refine Below.drew ?_ | with_reducible refine Below_drewN ?_ _ | with_reducible refine Below.alloc ?_ ?_ _ | with_reducible refine Below.setCell ?_ ?_ _ | omega | (simp; done) | (simp; omega)))
  refine (compare_c x.flow f _).mono ?_
  rintro e w1 ⟨rfl, rfl⟩
  go_wp2
  go_ret; exact ⟨rfl, hb0⟩

set_option maxRecDepth 100000 in
set_option maxHeartbeats 4000000 in
theorem bsearch_c (xs : List Stamp) (f : Int) (hf : ∀ x ∈ xs, x.flow < f) (ok : Nat → Prop) (ao : Option Addr) (cap : Nat) (w : World) (hx : rowRep stampS ok w ao cap xs) (hsm : xs.length ≤ 1000000) :
    Calls Try.prog 60 #[.slice ao xs.length cap, .int .i64 f, .func (.func 61) #[] #[]] w fun e w' => e = .returned (.tuple #[.int .i64 xs.length, .bool false]) ∧ Below w.heap.size w w' := by
  have HF : Hid (∀ (h : Nat) (x : Stamp), xs[h]? = some x → cmpI x.flow f = -1) := fun h x hx => by unfold cmpI; rw [if_pos (hf x (List.mem_of_getElem? hx))]
  clear hf
  generalize hn : xs.length = n at *
  have HN := Lib.hid hn
  go_enter Try.func60, Try.ntmps60
  clear hn
  go_wp2
  go_loopw [9, 10, 11] (fun ii jj _ wr => ∃ i : Nat, ii = .int .i64 i ∧ jj = .int .i64 n ∧ i ≤ n ∧ Below w.heap.size w wr) (fun ii _ _ _ => n - (intOf ii).toNat)
  case atStart => exact ⟨0, rfl, rfl, Nat.zero_le _, Below.refl _ _⟩
  case round =>
    obtain ⟨i, rfl, rfl, hi, hb⟩ := hrel
    rename World => wo
    by_cases hlt : i < n
    case neg =>
      obtain rfl : i = n := by omega
      go_wp2
      go_returns; exact ⟨rfl, hb⟩
    have b1 : (i : Int) < (n : Int) := by omega
    obtain ⟨h, e2⟩ : ∃ h : Nat, ((i : Int) + n) / 2 = (h : Int) := ⟨(i + n) / 2, by omega⟩
    have h1 : i ≤ h := by omega
    have h2 : h < n := by omega
    obtain ⟨x, hxh⟩ : ∃ x, xs[h]? = some x := ⟨_, List.getElem?_eq_getElem (by rw [HN.out]; omega)⟩
    obtain ⟨b, off, rfl, hbl, hri, hce⟩ := hx.stamps hxh
    obtain ⟨d0, d1⟩ := hce _ hb
    have hC := stampCmp_c x f wo
    rw [HF.out h x hxh] at hC
    have HC := Lib.hid hC
    have b2 : (0 : Int) ≤ (h : Int) := by omega
    have b3 : (h : Int) < (n : Int) := by omega
    have k9 : IntKind.i64.wrap (h : Int) = h := IntWalk.i64_in _ (by omega)
    have hzz := hb.size
    clear hC hce hxh
    go_wp2_with fail
    refine HC.out.mono ?_
    rintro e w1 ⟨rfl, hb1⟩
    have hb2 : Below w.heap.size w w1 := hb.trans (hb1.mono hzz)
    go_wp2
    case roundEnd =>
      go_roundw
      case rel => exact ⟨h + 1, by go_num, rfl, by omega, hb2⟩
      case measure => simp [intOf] <;> omega

set_option maxRecDepth 100000 in
set_option maxHeartbeats 4000000 in
theorem insertEnd_c (base : Nat) (xs : List Stamp) (x : Stamp) (ao : Option Addr) (cap b n : Nat) (w : World) (hn : xs.length = n) (hown : ownR stampS 83 (fun _ => False) base w ao n cap xs) (hbase : base ≤ w.heap.size) (hsm : n ≤ 1000000)
    (hb : blockIs w b 83 #[.int .i64 x.flow, .int .i64 x.ver]) (h1 : I64 x.flow) (h2 : I64 x.ver) :
    Calls Try.prog 62 #[.slice ao n cap, .int .i64 n, .slice (some ⟨b, 0, none⟩) 1 1] w fun e w' => ∃ ao' cap', e = .returned (.slice ao' (n + 1) cap') ∧ ownR stampS 83 (fun _ => False) base w' ao' (n + 1) cap' (xs ++ [x]) ∧ Below base w w' := by
  obtain ⟨i0, hi, hz0, hz1, hz2⟩ := info_parts info_stamp
  have hsr := srcRep.stamp x hb h1 h2 (ok := fun _ => False)
  have hcap : n ≤ cap ∧ cap ≤ 9223372036854775807 ∧ (ao = none → cap = 0) ∧ (∀ a, ao = some a → ∃ g, a = ⟨g, 0, none⟩) := by
    obtain ⟨cells, ⟨_, q1, q2, ⟨q3, q4⟩ | ⟨g, cur, q3, _⟩⟩, _⟩ := hown
    · exact ⟨q1, q2, fun _ => q4, fun a ha => by rw [q3] at ha; cases ha⟩
    · exact ⟨q1, q2, fun hh => (by rw [q3] at hh; cases hh), fun a ha => ⟨g, by rw [q3] at ha; exact (Option.some.inj ha).symm⟩⟩
  obtain ⟨c1, c2, c3, c4⟩ := hcap
  have b9 : ((n : Int) == (n : Int)) = true := by simp
  cases ao with
  | none =>
    obtain rfl := c3 rfl
    obtain rfl : n = 0 := by omega
    go_enter Try.func62, Try.ntmps62
    go_wp2_with (at_builtin; go_must (refine wpList_appR (sh := stampS) (n := 0) (m := 1) rfl _ _ 56 rfl 83 i0 (.agg #[.int .i64 0, .int .i64 0]) 16 Try.underlying56 hi hz0 hz1 hz2 rfl (by decide) rfl hown rfl rfl hsr (by simp only [maxLen]; omega) (by omega) hbase ?_); go_must (
      intro ao1 cap1 w2 hown1 hg1 hbk
      have hb2 := grown_below (B := base) hg1 (fun k hk => (hown.lt k hk).1) hbase))
    go_ret; exact ⟨ao1, cap1, rfl, hown1, hb2⟩
  | some a =>
    obtain ⟨g, rfl⟩ := c4 a rfl
    clear c3 c4
    go_enter Try.func62, Try.ntmps62
    go_wp2_with (at_builtin; go_must (refine wpList_appR (sh := stampS) (n := n) (m := 1) rfl _ _ 56 rfl 83 i0 (.agg #[.int .i64 0, .int .i64 0]) 16 Try.underlying56 hi hz0 hz1 hz2 rfl (by decide) rfl hown rfl rfl hsr (by simp only [maxLen]; omega) (by omega) hbase ?_); go_must (
      intro ao1 cap1 w2 hown1 hg1 hbk
      have hb2 := grown_below (B := base) hg1 (fun k hk => (hown.lt k hk).1) hbase))
    all_goals (go_ret; exact ⟨ao1, cap1, rfl, hown1, hb2⟩)

set_option maxRecDepth 100000 in
set_option maxHeartbeats 4000000 in
theorem stamp_c (base : Nat) (xs : List Stamp) (x : Stamp) (ao : Option Addr) (cap n : Nat) (w : World) (hn : xs.length = n) (hown : ownR stampS 83 (fun _ => False) base w ao n cap xs) (hbase : base ≤ w.heap.size) (hsm : n ≤ 1000000)
    (hf : ∀ y ∈ xs, y.flow < x.flow) (h1 : I64 x.flow) (h2 : I64 x.ver) :
    Calls Try.prog 48 #[.slice ao n cap, .agg #[.int .i64 x.flow, .int .i64 x.ver]] w fun e w' => ∃ ao' cap', e = .returned (.slice ao' (n + 1) cap') ∧ ownR stampS 83 (fun _ => False) base w' ao' (n + 1) cap' (xs ++ [x]) ∧ Below base w w' := by
  subst hn
  have hrow : rowRep stampS (fun b => base ≤ b) w ao cap xs := hown.row (fun _ h => h.elim) (fun k hk => (hown.lt k hk).1)
  go_enter Try.func48, Try.ntmps48
  go_wp2_with fail
  have hb0 : Below w.heap.size w (w.alloc (.cells #[.int .i64 x.flow, .int .i64 x.ver] 83)) := by (repeat' (first | with_reducible exact Below.refl _ _ | with_reducible assumption | with_reducible refine Below.drew ?_ | with_reducible refine Below_drewN ?_ _ | with_reducible refine Below.alloc ?_ ?_ _ | with_reducible refine Below.setCell ?_ ?_ _ | omega | (simp; done) | (simp; omega)))
  have hk0 := (blockIs.new (w := w) (t := 83) (cs := #[.int .i64 x.flow, .int .i64 x.ver]) rfl)
  refine (bsearch_c xs x.flow hf _ ao cap _ (hrow.below hb0) hsm).mono ?_
  rintro e w1 ⟨rfl, hb1⟩
  have hk1 := hk0.under hb1
  have hB1 : Below w.heap.size w w1 := hb0.trans (hb1.mono hb0.size)
  have hz1 := hB1.size
  obtain ⟨k1, k2⟩ := hk1.cells
  clear hk0 hb0 hb1 hrow hf
  go_wp2_with fail
  have hb2 : Below w.heap.size w (w1.alloc (.cells #[.int .i64 x.flow, .int .i64 x.ver] 83)) := by (repeat' (first | with_reducible exact Below.refl _ _ | with_reducible assumption | with_reducible refine Below.drew ?_ | with_reducible refine Below_drewN ?_ _ | with_reducible refine Below.alloc ?_ ?_ _ | with_reducible refine Below.setCell ?_ ?_ _ | omega | (simp; done) | (simp; omega)))
  have hk2 := (blockIs.new (w := w1) (t := 83) (cs := #[.int .i64 x.flow, .int .i64 x.ver]) rfl)
  have hown2 : ownR stampS 83 (fun _ => False) base (w1.alloc (.cells #[.int .i64 x.flow, .int .i64 x.ver] 83)) ao xs.length cap xs := hown.below hb2
  refine (insertEnd_c base xs x ao cap w1.heap.size xs.length _ rfl hown2 (by simp; omega) hsm hk2 h1 h2).mono ?_
  rintro e w3 ⟨ao3, cap3, rfl, ho3, hb3⟩
  have hB3 : Below base w w3 := (hb2.mono hbase).trans hb3
  go_wp2
  go_ret; exact ⟨ao3, cap3, rfl, ho3, hB3⟩

end Go.Proofs.Ytcfcdembhjnjfaa
