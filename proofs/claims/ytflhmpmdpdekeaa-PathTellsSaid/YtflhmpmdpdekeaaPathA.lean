/-
  The closed fact that the laws of paths ask first: alive.
-/
import Derived.Test.YtflhmpmdpdekeaaFind
import Derived.Test.YtflhmpmdpdekeaaInts
import Derived.WalkKit
import Derived.WalkSpells
import Derived.WalkLawsBesides
import Derived.Lib.Hide
import Derived.Deep.LoopGhost
import Derived.Deep.QuietTactic
import Derived.BigQuiet
import Derived.Deep.RegionWith
import Derived.Handy
set_option linter.unusedSimpArgs false
set_option linter.unusedVariables false
namespace Go.St
open Go.RowKit
def ringT : Topo := ⟨4, [⟨0, 1, 1⟩, ⟨1, 2, 1⟩, ⟨2, 3, 1⟩, ⟨3, 0, 5⟩]⟩
def ringF : Flow := ⟨0, 3, [], []⟩
def ringG : Flow := ⟨0, 3, [], [2]⟩
theorem ring_1 : findOf ringT ringF = ([0, 1, 2, 3], 0) := by decide +kernel
theorem ring_2 : findOf ringT ringG = ([0, 3], 0) := by decide +kernel
theorem flow_rep {ok : Nat → Prop} {w : World} {s d : Int} (hs : I64 s) (hd : I64 d) : flowS.rep ok w [.int .i64 s, .int .i64 d, .slice none 0 0, .slice none 0 0] ⟨s, d, [], []⟩ :=
  ⟨none, 0, none, 0, rfl, hs, hd, rowRep.nil _ _ _ _, rowRep.nil _ _ _ _⟩
theorem ring_rows {w : World} {b : Nat} (hb : b < w.heap.size) {ok : Nat → Prop} (hok : ok b) (hc : ∀ o, w.cell? ⟨b, o, none⟩ = (#[Value.int .i64 0, .int .i64 1, .int .i64 1, .int .i64 1, .int .i64 2, .int .i64 1, .int .i64 2, .int .i64 3, .int .i64 1, .int .i64 3, .int .i64 0, .int .i64 5] : Array Value)[o]?) :
    rowRep linkS ok w (some ⟨b, 0, none⟩) 4 ringT.links := by
  refine ⟨by decide, by decide, .inr ⟨b, 0, rfl, hok, hb, ?_⟩⟩
  have hI : ∀ n : Int, -10 ≤ n → n ≤ 10 → I64 n := fun n h1 h2 => I64.small (by omega) (by omega)
  intro i x hx
  match i, hx with
  | 0, hx => cases hx; exact ⟨_, ⟨rfl, hI _ (by decide) (by decide), hI _ (by decide) (by decide), hI _ (by decide) (by decide)⟩, fun j c hj => match j, hj with
    | 0, hj => (hc 0).trans hj
    | 1, hj => (hc 1).trans hj
    | 2, hj => (hc 2).trans hj
    | j + 3, hj => by simp at hj⟩
  | 1, hx => cases hx; exact ⟨_, ⟨rfl, hI _ (by decide) (by decide), hI _ (by decide) (by decide), hI _ (by decide) (by decide)⟩, fun j c hj => match j, hj with
    | 0, hj => (hc 3).trans hj
    | 1, hj => (hc 4).trans hj
    | 2, hj => (hc 5).trans hj
    | j + 3, hj => by simp at hj⟩
  | 2, hx => cases hx; exact ⟨_, ⟨rfl, hI _ (by decide) (by decide), hI _ (by decide) (by decide), hI _ (by decide) (by decide)⟩, fun j c hj => match j, hj with
    | 0, hj => (hc 6).trans hj
    | 1, hj => (hc 7).trans hj
    | 2, hj => (hc 8).trans hj
    | j + 3, hj => by simp at hj⟩
  | 3, hx => cases hx; exact ⟨_, ⟨rfl, hI _ (by decide) (by decide), hI _ (by decide) (by decide), hI _ (by decide) (by decide)⟩, fun j c hj => match j, hj with
    | 0, hj => (hc 9).trans hj
    | 1, hj => (hc 10).trans hj
    | 2, hj => (hc 11).trans hj
    | j + 3, hj => by simp at hj⟩
  | i + 4, hx => simp [ringT] at hx

end Go.St
namespace Go.Proofs.Ytflhmpmdpdekeaa
open Go.RowKit Go.St

set_option maxRecDepth 100000 in
set_option maxHeartbeats 4000000 in
theorem ring_c (w : World) : Calls Try.prog 31 #[] w fun e w' => ∃ cs : List Value, e = .returned (.agg cs.toArray) ∧ topoS.rep (fun b => w.heap.size ≤ b) w' cs ringT ∧ Below w.heap.size w w' := by
  go_enter Try.func31, Try.ntmps31
  go_wp2
  refine bodyPost_ret (v := .agg #[.int .i64 4, .slice (some ⟨w.heap.size + 1, 0, none⟩) 4 4]) (by simp [results, Try.results31, go_sem]) rfl ⟨_, rfl, ⟨some ⟨w.heap.size + 1, 0, none⟩, 4, rfl, I64.small (by decide) (by decide), ring_rows (by simp) (by omega) fun o => ?_⟩, by (repeat' (first | with_reducible exact Below.refl _ _ | with_reducible assumption | with_reducible refine Below.drew ?_ | with_reducible refine Below_drewN ?_ _ | with_reducible refine Below.alloc ?_ ?_ _ | with_reducible refine Below.setCell ?_ ?_ _ | omega | (simp; done) | (simp; omega)))⟩
  have hz : (w.alloc (.cells #[.int .i64 4, .slice (some ⟨w.heap.size + 1, 0, none⟩) 4 4] 24)).heap.size = w.heap.size + 1 := by simp
  have := World.cell?_alloc_new (w := w.alloc (.cells #[.int .i64 4, .slice (some ⟨w.heap.size + 1, 0, none⟩) 4 4] 24)) #[.int .i64 0, .int .i64 1, .int .i64 1, .int .i64 1, .int .i64 2, .int .i64 1, .int .i64 2, .int .i64 3, .int .i64 1, .int .i64 3, .int .i64 0, .int .i64 5] 38 o
  rw [hz] at this
  exact this

set_option maxRecDepth 100000 in
set_option maxHeartbeats 8000000 in
theorem alive_c (w : World) : Calls Try.prog 13 #[] w fun e w' => e = .returned (.bool true) ∧ Below w.heap.size w w' := by
  go_enter Try.func13, Try.ntmps13
  go_wp2_with fail
  refine (ring_c _).mono ?_
  rintro e w1 ⟨cs1, rfl, ht1, hB1⟩
  obtain ⟨la1, lc1, rfl, _⟩ := id ht1
  have hz1 := hB1.size
  go_wp2_with fail
  refine (find_c ringT ringF _ _ _ (fun _ => True) _ ht1 (flow_rep (I64.small (by decide) (by decide)) (I64.small (by decide) (by decide)))).mono ?_
  rw [ring_1]
  rintro e w2 ⟨ao2, cap2, rfl, hr2, hb2⟩
  have hB2 : Below w.heap.size w w2 := hB1.trans (hb2.mono hz1)
  have hz2 := hB2.size
  clear ht1 hb2
  go_wp2_with fail
  refine (ring_c _).mono ?_
  rintro e w3 ⟨cs3, rfl, ht3, hb3⟩
  have hB3 : Below w.heap.size w w3 := hB2.trans (hb3.mono hz2)
  have hz3 := hB3.size
  have hr3 := hr2.below hb3
  obtain ⟨la3, lc3, rfl, _⟩ := id ht3
  clear hr2 hb3
  have hrow : rowRep intS (fun b => True) (w3.alloc (.cells #[.int .i64 2] 3)) (some ⟨w3.heap.size, 0, none⟩) 1 [2] := (row_src (w := w3) (e := 3) (x := 2) (I64.small (by decide) (by decide)) (w3.heap.size + 1) (by omega)).mono fun b hb _ => ⟨trivial, rfl⟩
  go_wp2_with fail
  refine (find_c ringT ringG _ _ _ (fun _ => True) _ (topoS.below ht3 (by (repeat' (first | with_reducible exact Below.refl _ _ | with_reducible assumption | with_reducible refine Below.drew ?_ | with_reducible refine Below_drewN ?_ _ | with_reducible refine Below.alloc ?_ ?_ _ | with_reducible refine Below.setCell ?_ ?_ _ | omega | (simp; done) | (simp; omega))))) ⟨none, 0, some ⟨w3.heap.size, 0, none⟩, 1, rfl, I64.small (by decide) (by decide), I64.small (by decide) (by decide), rowRep.nil _ _ _ _, hrow⟩).mono ?_
  rw [ring_2]
  rintro e w4 ⟨ao4, cap4, rfl, hr4, hb4⟩
  have hB4 : Below w.heap.size w w4 := Below.trans (by (repeat' (first | with_reducible exact Below.refl _ _ | with_reducible assumption | with_reducible refine Below.drew ?_ | with_reducible refine Below_drewN ?_ _ | with_reducible refine Below.alloc ?_ ?_ _ | with_reducible refine Below.setCell ?_ ?_ _ | omega | (simp; done) | (simp; omega)))) (hb4.mono (by simp; omega))
  have hz4 := hB4.size
  have hr34 := hr3.below (Below.trans (by (repeat' (first | with_reducible exact Below.refl _ _ | with_reducible assumption | with_reducible refine Below.drew ?_ | with_reducible refine Below_drewN ?_ _ | with_reducible refine Below.alloc ?_ ?_ _ | with_reducible refine Below.setCell ?_ ?_ _ | omega | (simp; done) | (simp; omega)))) (hb4.mono (by simp)))
  clear hr3 hb4 hrow ht3
  go_wp2_with fail
  have hl4 : rowRep intS (fun _ => True) (w4.alloc (.cells #[.int .i64 0, .int .i64 1, .int .i64 2, .int .i64 3] 3)) (some ⟨w4.heap.size, 0, none⟩) 4 [0, 1, 2, 3] :=
    (ownR.ints (e := 3) (base := 0) (w := w4) [0, 1, 2, 3] (by intro x hx; simp at hx; exact I64.small (by omega) (by omega)) (by omega) (by decide)).row (fun _ h => h.elim) (fun _ _ => trivial)
  have hI1 := ints_c [0, 1, 2, 3] [0, 1, 2, 3] _ _ ao2 (some ⟨w4.heap.size, 0, none⟩) cap2 4 _ (hr34.below (by (repeat' (first | with_reducible exact Below.refl _ _ | with_reducible assumption | with_reducible refine Below.drew ?_ | with_reducible refine Below_drewN ?_ _ | with_reducible refine Below.alloc ?_ ?_ _ | with_reducible refine Below.setCell ?_ ?_ _ | omega | (simp; done) | (simp; omega))))) hl4
  simp only [List.length_cons, List.length_nil, Nat.zero_add, Nat.reduceAdd] at hI1
  rw [show (([0, 1, 2, 3] : List Int) == [0, 1, 2, 3]) = true from by decide] at hI1
  have HI1 := Lib.hid hI1
  clear hI1 hl4 hr34
  refine HI1.out.mono ?_
  rintro e w5 ⟨rfl, hb5⟩
  have hB5 : Below w.heap.size w w5 := Below.trans (by (repeat' (first | with_reducible exact Below.refl _ _ | with_reducible assumption | with_reducible refine Below.drew ?_ | with_reducible refine Below_drewN ?_ _ | with_reducible refine Below.alloc ?_ ?_ _ | with_reducible refine Below.setCell ?_ ?_ _ | omega | (simp; done) | (simp; omega)))) (hb5.mono (by simp; omega))
  have hz5 := hB5.size
  have hr5 := hr4.below (Below.trans (by (repeat' (first | with_reducible exact Below.refl _ _ | with_reducible assumption | with_reducible refine Below.drew ?_ | with_reducible refine Below_drewN ?_ _ | with_reducible refine Below.alloc ?_ ?_ _ | with_reducible refine Below.setCell ?_ ?_ _ | omega | (simp; done) | (simp; omega)))) (hb5.mono (by simp)))
  clear hr4 hb5 HI1
  go_wp2_with fail
  have hl2 : rowRep intS (fun _ => True) (w5.alloc (.cells #[.int .i64 0, .int .i64 3] 3)) (some ⟨w5.heap.size, 0, none⟩) 2 [0, 3] :=
    (ownR.ints (e := 3) (base := 0) (w := w5) [0, 3] (by intro x hx; simp at hx; exact I64.small (by omega) (by omega)) (by omega) (by decide)).row (fun _ h => h.elim) (fun _ _ => trivial)
  have hI2 := ints_c [0, 3] [0, 3] _ _ ao4 (some ⟨w5.heap.size, 0, none⟩) cap4 2 _ (hr5.below (by (repeat' (first | with_reducible exact Below.refl _ _ | with_reducible assumption | with_reducible refine Below.drew ?_ | with_reducible refine Below_drewN ?_ _ | with_reducible refine Below.alloc ?_ ?_ _ | with_reducible refine Below.setCell ?_ ?_ _ | omega | (simp; done) | (simp; omega))))) hl2
  simp only [List.length_cons, List.length_nil, Nat.zero_add, Nat.reduceAdd] at hI2
  rw [show (([0, 3] : List Int) == [0, 3]) = true from by decide] at hI2
  have HI2 := Lib.hid hI2
  clear hI2 hl2 hr5
  refine HI2.out.mono ?_
  rintro e w6 ⟨rfl, hb6⟩
  have hB6 : Below w.heap.size w w6 := Below.trans (by (repeat' (first | with_reducible exact Below.refl _ _ | with_reducible assumption | with_reducible refine Below.drew ?_ | with_reducible refine Below_drewN ?_ _ | with_reducible refine Below.alloc ?_ ?_ _ | with_reducible refine Below.setCell ?_ ?_ _ | omega | (simp; done) | (simp; omega)))) (hb6.mono (by simp; omega))
  clear hb6 HI2
  go_wp2
  go_ret; exact ⟨rfl, by (repeat' (first | with_reducible exact Below.refl _ _ | with_reducible assumption | with_reducible refine Below.drew ?_ | with_reducible refine Below_drewN ?_ _ | with_reducible refine Below.alloc ?_ ?_ _ | with_reducible refine Below.setCell ?_ ?_ _ | omega | (simp; done) | (simp; omega)))⟩

end Go.Proofs.Ytflhmpmdpdekeaa
