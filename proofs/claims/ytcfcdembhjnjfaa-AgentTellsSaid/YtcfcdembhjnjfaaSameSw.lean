/-
  The walk of the document's SameSwitch; alive of stamplaw6.
-/
import Derived.Test.YtcfcdembhjnjfaaDoW
import Derived.Test.YtcfcdembhjnjfaaSameR
import Derived.WalkKit
import Derived.WalkSpells
import Derived.WalkLawsBesides
import Derived.Lib.Hide
import Derived.Deep.LoopGhost
import Derived.Deep.QuietTactic
import Derived.BigQuiet
import Derived.Deep.RegionWith
import Derived.Handy
set_option linter.unusedSimpArgs false
set_option linter.unusedVariables false
namespace Go.St
open Go.RowKit
theorem switch_eq {a b : List Rule} {x y : List Stamp} : decide ((⟨a, x⟩ : Switch) = ⟨b, y⟩) = (a == b && x == y) := by
  rw [Bool.eq_iff_iff]; simp [Switch.mk.injEq]
theorem alive6_do : doOf ⟨[], []⟩ ⟨2, 1, 4, [], [2, 5]⟩ = (⟨[], [⟨2, 4⟩, ⟨5, 4⟩]⟩, 0) := by decide +kernel
theorem alive6_v1 : verOf ⟨[], [⟨2, 4⟩, ⟨5, 4⟩]⟩ 5 = 4 := by decide +kernel
theorem alive6_v2 : verOf ⟨[], [⟨2, 4⟩, ⟨5, 4⟩]⟩ 3 = 0 := by decide +kernel
theorem int_row6 {w : World} {b : Nat} {e : TypeId} {xs : List Int} {ok : Nat → Prop} (h : blockIs w b e (xs.map (Value.int .i64)).toArray) (hI : ∀ x ∈ xs, I64 x) (hok : ok b) (hm : xs.length ≤ maxLen) : rowRep intS ok w (some ⟨b, 0, none⟩) xs.length xs := by
  refine ⟨Nat.le_refl _, hm, .inr ⟨b, 0, rfl, hok, h.lt, fun i x hx => ⟨_, ⟨rfl, hI x (List.mem_of_getElem? hx)⟩, fun j c hj => ?_⟩⟩⟩
  match j, hj with
  | 0, hj =>
    obtain rfl : Value.int .i64 x = c := by simpa using hj
    simp only [intS, Nat.mul_one, Nat.add_zero, Nat.zero_add]
    rw [h.cells.1 i]
    simp [hx]
  | j + 1, hj => simp at hj
end Go.St
namespace Go.Proofs.Ytcfcdembhjnjfaa
open Go.RowKit Go.St

theorem neq_stamp (x y : Stamp) (w : World) : (binOp .neq 83 (.agg #[.int .i64 x.flow, .int .i64 x.ver]) (.agg #[.int .i64 y.flow, .int .i64 y.ver])).run Try.prog w = .ok (.bool (!decide (x = y))) w := by
  obtain ⟨a, b⟩ := x
  obtain ⟨d, e⟩ := y
  rw [run_neq_struct, run_equalIn_agg _ _ _ _ _ (by kernel_rfl) (by kernel_rfl)]
  by_cases h1 : a = d <;> by_cases h2 : b = e <;> simp [go_sem, h1, h2, Stamp.mk.injEq]

set_option maxRecDepth 100000 in
set_option maxHeartbeats 8000000 in
theorem sameSwitch_c (x y : Switch) (cs ds : List Value) (ok ok' : Nat → Prop) (w : World) (hx : switchS.rep ok w cs x) (hy : switchS.rep ok' w ds y) :
    Calls Try.prog 32 #[.agg cs.toArray, .agg ds.toArray] w fun e w' => e = .returned (.bool (decide (x = y))) ∧ Below w.heap.size w w' := by
  have q1 : Try.prog.eqGuardType Try.prog.depth 83 = false := by kernel_rfl
  obtain ⟨ra, rc, sa, sc, rfl, hr, hs⟩ := hx
  obtain ⟨ra', rc', sa', sc', rfl, hr', hs'⟩ := hy
  obtain ⟨xr, xs⟩ := x
  obtain ⟨yr, ys⟩ := y
  dsimp only at *
  rw [switch_eq]
  have HR1 : Hid (xr ≠ yr → (xr == yr && xs == ys) = false) := fun h => by have : (xr == yr) = false := by simpa using h
                                                                           rw [this]; rfl
  have HR2 : Hid (xs.length ≠ ys.length → (xr == yr && xs == ys) = false) := fun h => by rw [ne_of_length h]; simp
  have HR3 : Hid (xr = yr → (xr == yr && xs == ys) = (xs == ys)) := fun h => by subst h; simp
  generalize hres : (xr == yr && xs == ys) = res at *
  have HRES := Lib.hid hres
  clear hres
  have hsx := hs.len_le
  have hsx' := hs'.len_le
  have hb0 : Below w.heap.size w ((w.alloc (.cells #[.slice ra xr.length rc, .slice sa xs.length sc] 58)).alloc (.cells #[.slice ra' yr.length rc', .slice sa' ys.length sc'] 58)) := by (repeat' (first | with_reducible exact Below.refl _ _ | with_reducible assumption | with_reducible refine Below.drew ?_ | with_reducible refine Below_drewN ?_ _ | with_reducible refine Below.alloc ?_ ?_ _ | with_reducible refine Below.setCell ?_ ?_ _ | omega | (simp; done) | (simp; omega)))
  have hX0 : blockIs ((w.alloc (.cells #[.slice ra xr.length rc, .slice sa xs.length sc] 58)).alloc (.cells #[.slice ra' yr.length rc', .slice sa' ys.length sc'] 58)) w.heap.size 58 #[.slice ra xr.length rc, .slice sa xs.length sc] := (blockIs.new rfl).alloc _
  have hY0 : blockIs ((w.alloc (.cells #[.slice ra xr.length rc, .slice sa xs.length sc] 58)).alloc (.cells #[.slice ra' yr.length rc', .slice sa' ys.length sc'] 58)) (w.heap.size + 1) 58 #[.slice ra' yr.length rc', .slice sa' ys.length sc'] := blockIs.new (by simp)
  have hSR := sameRules_c xr yr ok ok' ra ra' rc rc' _ (hr.below hb0) (hr'.below hb0)
  have HSR := Lib.hid hSR
  clear hSR
  go_enter Try.func32, Try.ntmps32
  go_wp2_with fail
  refine HSR.out.mono ?_
  rintro e w1 ⟨rfl, hb1⟩
  have hB1 : Below w.heap.size w w1 := hb0.trans (hb1.mono hb0.size)
  have hX1 := hX0.under hb1
  have hY1 := hY0.under hb1
  obtain ⟨x1, x2⟩ := hX1.cells
  obtain ⟨y1, y2⟩ := hY1.cells
  have hl1 := hY1.lt
  clear HSR hb0 hb1 hX0 hY0
  by_cases h1 : xr = yr
  case neg =>
    have h1' : (xr == yr) = false := by simpa using h1
    have HE := Lib.hid (HR1.out h1)
    rw [h1']
    clear h1 h1' HR1 HR2 HR3 HRES
    go_wp2
    go_ret; exact ⟨ret_bool HE.out.symm, hB1⟩
  subst h1
  have hst0 := HR3.out rfl
  have HST0 := Lib.hid hst0
  clear hst0 HR1 HR3 HRES
  rw [show (xr == xr) = true by simp]
  by_cases hl : xs.length = ys.length
  case neg =>
    have hl' : ((xs.length : Int) != (ys.length : Int)) = true := by rw [bne_iff_ne]; omega
    have HE := Lib.hid (HR2.out hl)
    clear hl HR2
    go_wp2
    go_ret; exact ⟨ret_bool HE.out.symm, hB1⟩
  have hl' : ((xs.length : Int) != (ys.length : Int)) = false := by rw [bne_eq_false_iff_eq]; omega
  have HL := Lib.hid hl
  have hst : Hid (res = sameFrom xs ys 0) := by show _ = _; rw [HST0.out]; exact sameFrom_start _ _
  have HSG : Hid (∀ j (h1 : j < xs.length) (h2 : j < ys.length), res = sameFrom xs ys j → xs[j] = ys[j] → res = sameFrom xs ys (j + 1)) := fun j h1 h2 h3 h4 => by rw [HST0.out] at h3 ⊢; exact sameFrom_good h1 h2 h3 h4
  have HSB : Hid (∀ j (h1 : j < xs.length) (h2 : j < ys.length), res = sameFrom xs ys j → xs[j] ≠ ys[j] → res = false) := fun j h1 h2 h3 h4 => by rw [HST0.out] at h3 ⊢; exact sameFrom_bad h1 h2 h3 h4
  have HSE : Hid (∀ j, j = xs.length → j = ys.length → res = sameFrom xs ys j → true = res) := fun j h1 h2 h3 => by rw [HST0.out] at h3 ⊢; exact sameFrom_end h1 h2 h3
  clear hl HR2 HST0
  go_wp2
  go_loopw [5, 24] (fun _ i wr => ∃ j : Nat, j ≤ xs.length ∧ i = .int .i64 j ∧ Hid (res = sameFrom xs ys j) ∧ Below w1.heap.size w1 wr) (fun _ i _ => xs.length - (intOf i).toNat)
  case atStart => exact ⟨0, Nat.zero_le _, rfl, hst, Below.refl _ _⟩
  case round =>
    clear hst x1 x2 y1 y2 hl1
    obtain ⟨j, hj, rfl, hall, hb⟩ := hrel
    rename World => wo
    have hB : Below w.heap.size w wo := hB1.trans (hb.mono hB1.size)
    obtain ⟨x1, x2⟩ := (hX1.under hb).cells
    obtain ⟨y1, y2⟩ := (hY1.under hb).cells
    by_cases hlt : j < xs.length
    case neg =>
      have b1 : ¬ (j : Int) < (xs.length : Int) := by omega
      have HE := Lib.hid (HSE.out j (by omega) (by have := HL.out; omega) hall.out)
      clear hall
      go_wp2
      go_ret; exact ⟨ret_bool HE.out, by (repeat' (first | with_reducible exact Below.refl _ _ | with_reducible assumption | with_reducible refine Below.drew ?_ | with_reducible refine Below_drewN ?_ _ | with_reducible refine Below.alloc ?_ ?_ _ | with_reducible refine Below.setCell ?_ ?_ _ | omega | (simp; done) | (simp; omega)))⟩
    have hlt2 : j < ys.length := by have := HL.out; omega
    obtain ⟨b, off, rfl, hbl, _, hce⟩ := hs.stamps (List.getElem?_eq_getElem hlt)
    obtain ⟨e0, e1⟩ := hce _ hB
    obtain ⟨b', off', rfl, hbl', _, hce'⟩ := hs'.stamps (List.getElem?_eq_getElem hlt2)
    obtain ⟨d0, d1⟩ := hce' _ hB
    have b0 : (0 : Int) ≤ (j : Int) := by omega
    have b1 : (j : Int) < (xs.length : Int) := by omega
    have b2 : (j : Int) < (ys.length : Int) := by omega
    have hq := neq_stamp xs[j] ys[j]
    have HG : Hid (xs[j] = ys[j] → res = sameFrom xs ys (j + 1)) := fun h => HSG.out j hlt hlt2 hall.out h
    have HBD : Hid (xs[j] ≠ ys[j] → res = false) := fun h => HSB.out j hlt hlt2 hall.out h
    have hzo := hb.size
    clear hall hce hce' hj
    generalize xs[j] = x at *
    generalize ys[j] = y at *
    by_cases hxy : x = y
    · subst hxy
      rw [decide_eq_true rfl] at hq
      have HM := Lib.hid (HG.out rfl)
      clear HG HBD
      go_wp2
      go_quiet (fail)
      go_wp2
      case roundEnd =>
        go_roundw
        case rel => exact ⟨j + 1, by omega, by go_num, HM, by (repeat' (first | with_reducible exact Below.refl _ _ | with_reducible assumption | with_reducible refine Below.drew ?_ | with_reducible refine Below_drewN ?_ _ | with_reducible refine Below.alloc ?_ ?_ _ | with_reducible refine Below.setCell ?_ ?_ _ | omega | (simp; done) | (simp; omega)))⟩
        case measure => simp [intOf] <;> omega
    · rw [decide_eq_false hxy] at hq
      have HM := Lib.hid (HBD.out hxy)
      clear HG HBD
      go_wp2
      go_quiet (fail)
      go_wp2
      go_ret; exact ⟨ret_bool HM.out.symm, by (repeat' (first | with_reducible exact Below.refl _ _ | with_reducible assumption | with_reducible refine Below.drew ?_ | with_reducible refine Below_drewN ?_ _ | with_reducible refine Below.alloc ?_ ?_ _ | with_reducible refine Below.setCell ?_ ?_ _ | omega | (simp; done) | (simp; omega)))⟩

set_option maxRecDepth 100000 in
set_option maxHeartbeats 8000000 in
theorem alive6_c (w : World) : Calls Try.prog 33 #[] w fun e w' => e = .returned (.bool true) ∧ Below w.heap.size w w' := by
  have hI : ∀ n : Int, -10 ≤ n → n ≤ 10 → I64 n := fun n h1 h2 => I64.small (by omega) (by omega)
  go_enter Try.func33, Try.ntmps33
  go_wp2_with fail
  have hF0 : blockIs (w.alloc (.cells #[.int .i64 2, .int .i64 5] 3)) w.heap.size 3 #[.int .i64 2, .int .i64 5] := blockIs.new rfl
  have hB0 : Below w.heap.size w (w.alloc (.cells #[.int .i64 2, .int .i64 5] 3)) := by (repeat' (first | with_reducible exact Below.refl _ _ | with_reducible assumption | with_reducible refine Below.drew ?_ | with_reducible refine Below_drewN ?_ _ | with_reducible refine Below.alloc ?_ ?_ _ | with_reducible refine Below.setCell ?_ ?_ _ | omega | (simp; done) | (simp; omega)))
  generalize w.alloc (.cells #[.int .i64 2, .int .i64 5] 3) = w1 at *
  have hr0 : switchS.rep (fun _ => True) w1 [.slice none 0 0, .slice none 0 0] ⟨[], []⟩ := ⟨none, 0, none, 0, rfl, rowRep.nil _ _ _ _, rowRep.nil _ _ _ _⟩
  have ho0 : orderS.rep (fun _ => True) w1 [.int .i64 2, .int .i64 1, .int .i64 4, .slice none 0 0, .slice (some ⟨w.heap.size, 0, none⟩) 2 2] ⟨2, 1, 4, [], [2, 5]⟩ :=
    ⟨none, 0, _, 2, rfl, hI _ (by decide) (by decide), hI _ (by decide) (by decide), hI _ (by decide) (by decide), rowRep.nil _ _ _ _, int_row6 (xs := [2, 5]) hF0 (by intro x hx; simp at hx; exact hI _ (by omega) (by omega)) trivial (by decide)⟩
  have hD := do_c ⟨[], []⟩ ⟨2, 1, 4, [], [2, 5]⟩ _ _ _ _ w1 hr0 ho0
  rw [alive6_do] at hD
  have HD := Lib.hid hD
  clear hD hr0 ho0 hF0
  refine HD.out.mono ?_
  rintro e w2 ⟨ts, rfl, ht, hb2⟩
  have hB2 : Below w.heap.size w w2 := hB0.trans (hb2.mono hB0.size)
  have hT := ht
  obtain ⟨ra, rc, sa, sc, rfl, hrr, hss⟩ := ht
  have hz2 := hB2.size
  clear HD hb2 hB0
  have hb3 : Below w2.heap.size w2 (w2.alloc (.cells #[.slice ra 0 rc, .slice sa 2 sc] 58)) := by (repeat' (first | with_reducible exact Below.refl _ _ | with_reducible assumption | with_reducible refine Below.drew ?_ | with_reducible refine Below_drewN ?_ _ | with_reducible refine Below.alloc ?_ ?_ _ | with_reducible refine Below.setCell ?_ ?_ _ | omega | (simp; done) | (simp; omega)))
  have hk3 : blockIs (w2.alloc (.cells #[.slice ra 0 rc, .slice sa 2 sc] 58)) w2.heap.size 58 #[.slice ra 0 rc, .slice sa 2 sc] := blockIs.new rfl
  have hV1 := version_c ⟨[], [⟨2, 4⟩, ⟨5, 4⟩]⟩ 5 [.slice ra 0 rc, .slice sa 2 sc] _ _ (switchS.below hT hb3)
  rw [alive6_v1] at hV1
  have HV1 := Lib.hid hV1
  clear hV1 hrr hss
  go_wp2_with fail
  refine HV1.out.mono ?_
  rintro e w4 ⟨rfl, hb4⟩
  have hk4 := hk3.under hb4
  have hb5 : Below w2.heap.size w2 w4 := hb3.trans (hb4.mono hb3.size)
  have hB4 : Below w.heap.size w w4 := hB2.trans (hb5.mono hz2)
  have hV2 := version_c ⟨[], [⟨2, 4⟩, ⟨5, 4⟩]⟩ 3 [.slice ra 0 rc, .slice sa 2 sc] _ _ (switchS.below hT hb5)
  rw [alive6_v2] at hV2
  have HV2 := Lib.hid hV2
  obtain ⟨k1, k2⟩ := hk4.cells
  have hkl := hk4.lt
  clear hV2 HV1 hk3 hb3 hb4
  go_wp2_with fail
  refine HV2.out.mono ?_
  rintro e w6 ⟨rfl, hb6⟩
  have hB6 : Below w.heap.size w w6 := hB4.trans (hb6.mono hB4.size)
  go_wp2
  go_ret; exact ⟨rfl, hB6⟩

end Go.Proofs.Ytcfcdembhjnjfaa
