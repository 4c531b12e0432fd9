/-
  alive of stamplaw4.
-/
import Derived.Test.YtcfcdembhjnjfaaOfW
import Derived.Test.YtcfcdembhjnjfaaAddW
import Derived.WalkKit
import Derived.WalkSpells
import Derived.WalkLawsBesides
import Derived.Lib.Hide
import Derived.Deep.LoopGhost
import Derived.Deep.QuietTactic
import Derived.BigQuiet
import Derived.Deep.RegionWith
import Derived.Handy
set_option linter.unusedSimpArgs false
set_option linter.unusedVariables false
namespace Go.St
open Go.RowKit
theorem int_row' {w : World} {b : Nat} {e : TypeId} {xs : List Int} {ok : Nat → Prop} (h : blockIs w b e (xs.map (Value.int .i64)).toArray) (hI : ∀ x ∈ xs, I64 x) (hok : ok b) (hm : xs.length ≤ maxLen) : rowRep intS ok w (some ⟨b, 0, none⟩) xs.length xs := by
  refine ⟨Nat.le_refl _, hm, .inr ⟨b, 0, rfl, hok, h.lt, fun i x hx => ⟨_, ⟨rfl, hI x (List.mem_of_getElem? hx)⟩, fun j c hj => ?_⟩⟩⟩
  match j, hj with
  | 0, hj =>
    obtain rfl : Value.int .i64 x = c := by simpa using hj
    simp only [intS, Nat.mul_one, Nat.add_zero, Nat.zero_add]
    rw [h.cells.1 i]
    simp [hx]
  | j + 1, hj => simp at hj
/-- a block of one element, as a row -/
theorem one_row {α : Type} {S : Shape α} {w : World} {b : Nat} {e : TypeId} {cs : List Value} {x : α} {ok : Nat → Prop} (h : blockIs w b e cs.toArray) (hx : S.rep ok w cs x) (hok : ok b) : rowRep S ok w (some ⟨b, 0, none⟩) 1 [x] := by
  refine ⟨Nat.le_refl _, by decide, .inr ⟨b, 0, rfl, hok, h.lt, fun i y hy => ?_⟩⟩
  match i, hy with
  | 0, hy =>
    obtain rfl : x = y := by simpa using hy
    refine ⟨_, hx, fun j c hc => ?_⟩
    simp only [Nat.zero_mul, Nat.zero_add]
    rw [h.cells.1 j]
    simpa using hc
  | i + 1, hy => simp at hy
theorem alive4_of : (fun s : Nat => rulesAt ⟨3, [], [[0, 1, 2]]⟩ s) = fun s : Nat => if s = 0 then [⟨3, 0, 1⟩] else if s = 1 then [⟨3, 0, 2⟩] else [] := by
  funext s
  simp only [rulesAt, rulesFrom, pathRules, List.append_nil]
  by_cases h0 : s = 0
  · subst h0; simp
  by_cases h1 : s = 1
  · subst h1; simp
  simp [h0, h1]; omega
theorem alive4_add : addOf [⟨3, 0, 1⟩] [⟨2, 5, 7⟩] = ([⟨2, 5, 7⟩, ⟨3, 0, 1⟩], 0) := by decide +kernel
theorem alive4_next : nextOf [⟨2, 5, 7⟩, ⟨3, 0, 1⟩] 3 0 = (1, true) := by decide +kernel
end Go.St
namespace Go.Proofs.Ytcfcdembhjnjfaa
open Go.RowKit Go.St

set_option maxRecDepth 100000 in
set_option maxHeartbeats 8000000 in
theorem alive4_c (w : World) : Calls Try.prog 13 #[] w fun e w' => e = .returned (.bool true) ∧ Below w.heap.size w w' := by
  have hI : ∀ n : Int, -10 ≤ n → n ≤ 10 → I64 n := fun n h1 h2 => I64.small (by omega) (by omega)
  go_enter Try.func13, Try.ntmps13
  go_wp2_with fail
  have hL0 : blockIs ((w.alloc (.cells #[.int .i64 0, .int .i64 1, .int .i64 2] 3)).alloc (.cells #[.slice (some ⟨w.heap.size, 0, none⟩) 3 3] 51)) w.heap.size 3 #[.int .i64 0, .int .i64 1, .int .i64 2] := (blockIs.new rfl).alloc _
  have hP0 : blockIs ((w.alloc (.cells #[.int .i64 0, .int .i64 1, .int .i64 2] 3)).alloc (.cells #[.slice (some ⟨w.heap.size, 0, none⟩) 3 3] 51)) (w.heap.size + 1) 51 #[.slice (some ⟨w.heap.size, 0, none⟩) 3 3] := blockIs.new (by simp)
  have hB0 : Below w.heap.size w ((w.alloc (.cells #[.int .i64 0, .int .i64 1, .int .i64 2] 3)).alloc (.cells #[.slice (some ⟨w.heap.size, 0, none⟩) 3 3] 51)) := by (repeat' (first | with_reducible exact Below.refl _ _ | with_reducible assumption | with_reducible refine Below.drew ?_ | with_reducible refine Below_drewN ?_ _ | with_reducible refine Below.alloc ?_ ?_ _ | with_reducible refine Below.setCell ?_ ?_ _ | omega | (simp; done) | (simp; omega)))
  generalize ((w.alloc (.cells #[.int .i64 0, .int .i64 1, .int .i64 2] 3)).alloc (.cells #[.slice (some ⟨w.heap.size, 0, none⟩) 3 3] 51)) = w1 at *
  have hr0 : planS.rep (fun _ => True) w1 [.int .i64 3, .slice none 0 0, .slice (some ⟨w.heap.size + 1, 0, none⟩) 1 1] ⟨3, [], [[0, 1, 2]]⟩ :=
    ⟨none, 0, _, 1, rfl, hI 3 (by decide) (by decide), rowRep.nil _ _ _ _, one_row (S := sliceS intS) (cs := [.slice (some ⟨w.heap.size, 0, none⟩) 3 3]) hP0 ⟨_, 3, rfl, int_row' (xs := [0, 1, 2]) hL0 (by intro x hx; simp at hx; exact hI _ (by omega) (by omega)) trivial (by decide)⟩ trivial⟩
  have hOf := of_c ⟨3, [], [[0, 1, 2]]⟩ 3 _ (fun _ => True) w1 hr0 (by decide) (fun s => by
    have : rulesAt ⟨3, [], [[0, 1, 2]]⟩ (s : Int) = _ := congrFun alive4_of s
    rw [this]
    split
    · simp
    split <;> simp) (by simp)
  rw [alive4_of] at hOf
  refine hOf.mono ?_
  rintro e w2 ⟨ob, f, rfl, hob, hT, hb2⟩
  have hB2 : Below w.heap.size w w2 := hB0.trans (hb2.mono hB0.size)
  have hz2 := hB2.size
  have t0 := hT.cell (i := 0) (by decide)
  have r0 := hT.row (i := 0) (by decide)
  simp only [if_true] at t0 r0
  clear hOf hr0 hP0 hL0 hB0 hb2
  go_wp2_with fail
  have hs3 : rowRep ruleS (fun _ => True) (w2.alloc (.cells #[.int .i64 2, .int .i64 5, .int .i64 7] 28)) (some ⟨w2.heap.size, 0, none⟩) 1 [⟨2, 5, 7⟩] := one_row (S := ruleS) (cs := [.int .i64 2, .int .i64 5, .int .i64 7]) (blockIs.new rfl) ⟨rfl, hI _ (by decide) (by decide), hI _ (by decide) (by decide), hI _ (by decide) (by decide)⟩ trivial
  have hb3 : Below w2.heap.size w2 (w2.alloc (.cells #[.int .i64 2, .int .i64 5, .int .i64 7] 28)) := by (repeat' (first | with_reducible exact Below.refl _ _ | with_reducible assumption | with_reducible refine Below.drew ?_ | with_reducible refine Below_drewN ?_ _ | with_reducible refine Below.alloc ?_ ?_ _ | with_reducible refine Below.setCell ?_ ?_ _ | omega | (simp; done) | (simp; omega)))
  have hA := add_c [⟨3, 0, 1⟩] [⟨2, 5, 7⟩] _ _ _ _ (f 0).2 1 _ (r0.below hb3) hs3 (by decide) (by decide)
  rw [alive4_add] at hA
  have HA := Lib.hid hA
  have hT3 := hT.under hb3
  clear hA hs3 hT t0 r0
  refine HA.out.mono ?_
  rintro e w4 ⟨ao, cap, rfl, hr4, hb4⟩
  have hT4 := hT3.under hb4
  have hB4 : Below w.heap.size w w4 := (hB2.trans (hb3.mono hz2)).trans (hb4.mono (by simp; omega))
  have hz4 := hB4.size
  clear HA hT3 hb4 hb3 hB2
  go_wp2_with fail
  have hN := next_c _ 3 0 _ ao cap w4 hr4
  rw [alive4_next] at hN
  have HN := Lib.hid hN
  clear hN
  refine HN.out.mono ?_
  rintro e w5 ⟨rfl, hb5⟩
  have hT5 := hT4.under hb5
  have hB5 : Below w.heap.size w w5 := hB4.trans (hb5.mono hz4)
  have t1 := hT5.cell (i := 1) (by decide)
  have t2 := hT5.cell (i := 2) (by decide)
  simp at t1 t2
  clear HN hT4 hb5 hB4
  go_wp2
  go_ret; exact ⟨rfl, hB5⟩

end Go.Proofs.Ytcfcdembhjnjfaa
