/-
  alive of stamplaw1.
-/
import Derived.Test.YtflhmpmdpdekeaaReachW
import Derived.Test.YtflhmpmdpdekeaaInts
import Derived.Test.YtflhmpmdpdekeaaFork
import Derived.WalkKit
import Derived.WalkSpells
import Derived.WalkLawsBesides
import Derived.Lib.Hide
import Derived.Deep.LoopGhost
import Derived.Deep.QuietTactic
import Derived.BigQuiet
import Derived.Deep.RegionWith
import Derived.Handy
set_option linter.unusedSimpArgs false
set_option linter.unusedVariables false
namespace Go.St
open Go.RowKit
def lineT : Topo := ⟨3, [⟨0, 2, 5⟩]⟩
theorem line_1 : lengthOf lineT [2, 0] = (5, true) := by decide +kernel
theorem line_2 : topoWrong lineT = (0, 0) := by decide +kernel
theorem line_3 : costOf lineT 2 0 = 5 := by decide +kernel
theorem line_4 : reaches lineT 0 = [0, 2] := by decide +kernel

/-- a block of numbers as a row -/
theorem int_row {w : World} {b : Nat} {e : TypeId} {xs : List Int} {ok : Nat → Prop} (h : blockIs w b e (xs.map (Value.int .i64)).toArray) (hI : ∀ x ∈ xs, I64 x) (hok : ok b) (hm : xs.length ≤ maxLen) : rowRep intS ok w (some ⟨b, 0, none⟩) xs.length xs := by
  refine ⟨Nat.le_refl _, hm, .inr ⟨b, 0, rfl, hok, h.lt, fun i x hx => ⟨_, ⟨rfl, hI x (List.mem_of_getElem? hx)⟩, fun j c hj => ?_⟩⟩⟩
  match j, hj with
  | 0, hj =>
    obtain rfl : Value.int .i64 x = c := by simpa using hj
    simp only [intS, Nat.mul_one, Nat.add_zero, Nat.zero_add]
    rw [h.cells.1 i]
    simp [hx]
  | j + 1, hj => simp at hj
/-- a block of one link as a row -/
theorem link_row {w : World} {b : Nat} {e : TypeId} {l : Link} {ok : Nat → Prop} (h : blockIs w b e #[.int .i64 l.a, .int .i64 l.b, .int .i64 l.cost]) (h1 : I64 l.a) (h2 : I64 l.b) (h3 : I64 l.cost) (hok : ok b) : rowRep linkS ok w (some ⟨b, 0, none⟩) 1 [l] := by
  refine ⟨Nat.le_refl _, by decide, .inr ⟨b, 0, rfl, hok, h.lt, fun i x hx => ?_⟩⟩
  match i, hx with
  | 0, hx =>
    obtain rfl : l = x := by simpa using hx
    refine ⟨_, ⟨rfl, h1, h2, h3⟩, fun j c hc => ?_⟩
    simp only [Nat.zero_mul, Nat.zero_add]
    rw [h.cells.1 j]
    simpa using hc
  | i + 1, hx => simp at hx
end Go.St
namespace Go.Proofs.Ytflhmpmdpdekeaa
open Go.RowKit Go.St

set_option maxRecDepth 100000 in
set_option maxHeartbeats 8000000 in
theorem alive1_c (w : World) : Calls Try.prog 29 #[] w fun e w' => e = .returned (.bool true) ∧ Below w.heap.size w w' := by
  have hfd := fault_err0
  have hI : ∀ n : Int, -10 ≤ n → n ≤ 10 → I64 n := fun n h1 h2 => I64.small (by omega) (by omega)
  go_enter Try.func29, Try.ntmps29
  go_wp2_with fail
  have hL0 : blockIs (((w.alloc (.cells #[.int .i64 0, .int .i64 2, .int .i64 5] 38)).alloc (.cells #[.int .i64 3, .slice (some ⟨w.heap.size, 0, none⟩) 1 1] 24)).alloc (.cells #[.int .i64 2, .int .i64 0] 3)) w.heap.size 38 #[.int .i64 0, .int .i64 2, .int .i64 5] := ((blockIs.new rfl).alloc _).alloc _
  have hT0 : blockIs (((w.alloc (.cells #[.int .i64 0, .int .i64 2, .int .i64 5] 38)).alloc (.cells #[.int .i64 3, .slice (some ⟨w.heap.size, 0, none⟩) 1 1] 24)).alloc (.cells #[.int .i64 2, .int .i64 0] 3)) (w.heap.size + 1) 24 #[.int .i64 3, .slice (some ⟨w.heap.size, 0, none⟩) 1 1] := (blockIs.new (by simp)).alloc _
  have hP0 : blockIs (((w.alloc (.cells #[.int .i64 0, .int .i64 2, .int .i64 5] 38)).alloc (.cells #[.int .i64 3, .slice (some ⟨w.heap.size, 0, none⟩) 1 1] 24)).alloc (.cells #[.int .i64 2, .int .i64 0] 3)) (w.heap.size + 2) 3 #[.int .i64 2, .int .i64 0] := blockIs.new (by simp)
  have hB0 : Below w.heap.size w (((w.alloc (.cells #[.int .i64 0, .int .i64 2, .int .i64 5] 38)).alloc (.cells #[.int .i64 3, .slice (some ⟨w.heap.size, 0, none⟩) 1 1] 24)).alloc (.cells #[.int .i64 2, .int .i64 0] 3)) := by (repeat' (first | with_reducible exact Below.refl _ _ | with_reducible assumption | with_reducible refine Below.drew ?_ | with_reducible refine Below_drewN ?_ _ | with_reducible refine Below.alloc ?_ ?_ _ | with_reducible refine Below.setCell ?_ ?_ _ | omega | (simp; done) | (simp; omega)))
  have hr0 : topoS.rep (fun _ => True) (((w.alloc (.cells #[.int .i64 0, .int .i64 2, .int .i64 5] 38)).alloc (.cells #[.int .i64 3, .slice (some ⟨w.heap.size, 0, none⟩) 1 1] 24)).alloc (.cells #[.int .i64 2, .int .i64 0] 3)) [.int .i64 3, .slice (some ⟨w.heap.size, 0, none⟩) 1 1] lineT := ⟨_, 1, rfl, hI _ (by decide) (by decide), link_row (l := ⟨0, 2, 5⟩) hL0 (hI _ (by decide) (by decide)) (hI _ (by decide) (by decide)) (hI _ (by decide) (by decide)) trivial⟩
  have hp0 : rowRep intS (fun _ => True) (((w.alloc (.cells #[.int .i64 0, .int .i64 2, .int .i64 5] 38)).alloc (.cells #[.int .i64 3, .slice (some ⟨w.heap.size, 0, none⟩) 1 1] 24)).alloc (.cells #[.int .i64 2, .int .i64 0] 3)) (some ⟨w.heap.size + 2, 0, none⟩) 2 [2, 0] := int_row (xs := [2, 0]) hP0 (by intro x hx; simp at hx; exact hI _ (by omega) (by omega)) trivial (by decide)
  generalize (((w.alloc (.cells #[.int .i64 0, .int .i64 2, .int .i64 5] 38)).alloc (.cells #[.int .i64 3, .slice (some ⟨w.heap.size, 0, none⟩) 1 1] 24)).alloc (.cells #[.int .i64 2, .int .i64 0] 3)) = w1 at *
  have hLc := length_c lineT [2, 0] [.int .i64 3, .slice (some ⟨w.heap.size, 0, none⟩) 1 1] (fun _ => True) (fun _ => True) (some ⟨w.heap.size + 2, 0, none⟩) 2 w1 hr0 hp0
  rw [line_1] at hLc
  refine hLc.mono ?_
  rintro e w2 ⟨rfl, hb2⟩
  have hB2 : Below w.heap.size w w2 := hB0.trans (hb2.mono hB0.size)
  have hT2 := hT0.under hb2
  have hr2 := topoS.below hr0 hb2
  clear hLc hr0 hp0 hL0 hT0 hP0 hb2 hB0
  obtain ⟨t1, t2⟩ := hT2.cells
  have hz2 := hB2.size
  go_wp2_with fail
  have hWc := topoWrong_c lineT _ (fun _ => True) w2 hr2
  rw [line_2] at hWc
  refine hWc.mono ?_
  rintro e w3 ⟨rfl, hb3⟩
  have hB3 : Below w.heap.size w w3 := hB2.trans (hb3.mono hB2.size)
  have hT3 := hT2.under hb3
  have hr3 := topoS.below hr2 hb3
  clear hWc hr2 hT2 hb3 hB2 t1 t2
  obtain ⟨t1, t2⟩ := hT3.cells
  have hz3 := hB3.size
  go_wp2_with fail
  have hCc := cost_c lineT _ (fun _ => True) 2 0 w3 hr3
  rw [line_3] at hCc
  refine hCc.mono ?_
  rintro e w4 ⟨rfl, hb4⟩
  have hB4 : Below w.heap.size w w4 := hB3.trans (hb4.mono hB3.size)
  have hT4 := hT3.under hb4
  have hr4 := topoS.below hr3 hb4
  clear hCc hr3 hT3 hb4 hB3 t1 t2
  obtain ⟨t1, t2⟩ := hT4.cells
  have hz4 := hB4.size
  go_wp2_with fail
  have hRc := reaches_c lineT _ (fun _ => True) 0 (hI _ (by decide) (by decide)) w4 hr4
  rw [line_4] at hRc
  refine hRc.mono ?_
  rintro e w5 ⟨ao, cap, rfl, hr5, hb5⟩
  have hB5 : Below w.heap.size w w5 := hB4.trans (hb5.mono hB4.size)
  have hz5 := hB5.size
  clear hRc hr4 hT4 hb5 hB4 t1 t2
  go_wp2_with fail
  have hl5 : rowRep intS (fun _ => True) (w5.alloc (.cells #[.int .i64 0, .int .i64 2] 3)) (some ⟨w5.heap.size, 0, none⟩) 2 [0, 2] := int_row (xs := [0, 2]) (blockIs.new rfl) (by intro x hx; simp at hx; exact hI _ (by omega) (by omega)) trivial (by decide)
  have hI1 := ints_c [0, 2] [0, 2] _ _ ao (some ⟨w5.heap.size, 0, none⟩) cap 2 _ (hr5.below (by (repeat' (first | with_reducible exact Below.refl _ _ | with_reducible assumption | with_reducible refine Below.drew ?_ | with_reducible refine Below_drewN ?_ _ | with_reducible refine Below.alloc ?_ ?_ _ | with_reducible refine Below.setCell ?_ ?_ _ | omega | (simp; done) | (simp; omega))))) hl5
  simp only [List.length_cons, List.length_nil, Nat.zero_add, Nat.reduceAdd] at hI1
  rw [show (([0, 2] : List Int) == [0, 2]) = true from by decide] at hI1
  have HI1 := Lib.hid hI1
  clear hI1 hl5 hr5
  refine HI1.out.mono ?_
  rintro e w6 ⟨rfl, hb6⟩
  have hB6 : Below w.heap.size w w6 := Below.trans (by (repeat' (first | with_reducible exact Below.refl _ _ | with_reducible assumption | with_reducible refine Below.drew ?_ | with_reducible refine Below_drewN ?_ _ | with_reducible refine Below.alloc ?_ ?_ _ | with_reducible refine Below.setCell ?_ ?_ _ | omega | (simp; done) | (simp; omega)))) (hb6.mono (by simp; omega))
  clear hb6 HI1
  go_wp2
  go_ret; exact ⟨rfl, by (repeat' (first | with_reducible exact Below.refl _ _ | with_reducible assumption | with_reducible refine Below.drew ?_ | with_reducible refine Below_drewN ?_ _ | with_reducible refine Below.alloc ?_ ?_ _ | with_reducible refine Below.setCell ?_ ?_ _ | omega | (simp; done) | (simp; omega)))⟩

end Go.Proofs.Ytflhmpmdpdekeaa
