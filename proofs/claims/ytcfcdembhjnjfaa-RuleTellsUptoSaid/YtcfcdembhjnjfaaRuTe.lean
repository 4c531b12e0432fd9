/-
  The walk of the law RuleTells.
-/
import Derived.Test.YtcfcdembhjnjfaaRefU
import Derived.Test.YtcfcdembhjnjfaaRefA
import Derived.Test.YtcfcdembhjnjfaaDropW
import Derived.Test.YtcfcdembhjnjfaaSameR
import Derived.WalkKit
import Derived.WalkSpells
import Derived.WalkLawsBesides
import Derived.Lib.Hide
import Derived.Deep.LoopGhost
import Derived.Deep.QuietTactic
import Derived.BigQuiet
import Derived.Deep.RegionWith
import Derived.Handy
set_option linter.unusedSimpArgs false
set_option linter.unusedVariables false
namespace Go.St
open Go.RowKit
/-- what is read of a plan and its tables -/
def SX (ob i wb : Nat) (x a b c : Value) (w : World) : Prop := w.cell? ⟨ob, i, none⟩ = some x ∧ w.cell? ⟨wb, 0, none⟩ = some a ∧ w.cell? ⟨wb, 1, none⟩ = some b ∧ w.cell? ⟨wb, 2, none⟩ = some c
theorem SX.under {ob i wb N : Nat} {x a b c : Value} {w w' : World} (h : SX ob i wb x a b c w) (h1 : ob < N) (h2 : wb < N) (hb : Below N w w') : SX ob i wb x a b c w' := ⟨cell_at hb h1 h.1, cell_at hb h2 h.2.1, cell_at hb h2 h.2.2.1, cell_at hb h2 h.2.2.2⟩
end Go.St
namespace Go.Proofs.Ytcfcdembhjnjfaa
open Go.RowKit Go.St

set_option maxRecDepth 100000 in
theorem fault_errT (a b : Value) (w : World) : (Instr.field 32 (.agg #[a, b]) 0).run Try.prog w = .ok a w := by first | rfl | kernel_rfl | (simp [Instr.field]; done)

set_option maxRecDepth 100000 in
set_option maxHeartbeats 16000000 in
theorem ruleTells_c (w : World) (p : Plan) (cs : List Value) (ok : Nat → Prop) (h : planS.rep ok w cs p) (n : Int) (hn : I64 n) (l : List Rule) (la : Option Addr) (lc : Nat) (okl : Nat → Prop) (hl : rowRep ruleS okl w la lc l) (m : List Rule) (ma : Option Addr) (mc : Nat) (okm : Nat → Prop) (hm : rowRep ruleS okm w ma mc m) (v : Int) (hv : I64 v) (f : Int) (hf : I64 f)
    (hbig : ∀ s : Nat, (rulesAt p s).length ≤ 5864062014800) (hpl : p.paths.length ≤ 100000000000000) (hll : l.length ≤ 1048576) (hml : m.length ≤ 1048576) :
    Calls Try.prog 4 #[.agg cs.toArray, .int .i64 n, .slice la l.length lc, .slice ma m.length mc, .int .i64 v, .int .i64 f] w fun e w' => e = .returned (.bool true) ∧ Below w.heap.size w w' := by
  have hfd := fault_errT
  have q1 : Try.prog.eqGuardType Try.prog.depth 32 = false := by kernel_rfl
  have hA := fun (w' : World) (hb : Below w.heap.size w w') => tabWrong_c l _ la lc w' (hl.below hb)
  have hRA := fun (w' : World) (hb : Below w.heap.size w w') => refTabWrong_c l _ la lc w' (hl.below hb)
  have hAd := fun (w' : World) (hb : Below w.heap.size w w') => add_c l m _ _ la ma lc mc w' (hl.below hb) (hm.below hb) (by omega) (by omega)
  have hRAd := fun (w' : World) (hb : Below w.heap.size w w') => refAdd_c l m _ _ la ma lc mc w' (hl.below hb) (hm.below hb) (by omega)
  have hN := fun (w' : World) (hb : Below w.heap.size w w') => next_c l v f _ la lc w' (hl.below hb)
  have hRN := fun (w' : World) (hb : Below w.heap.size w w') => refNext_c l v f _ la lc w' (hl.below hb)
  have hD := fun (w' : World) (hb : Below w.heap.size w w') => drop_c l v _ la lc w' (hl.below hb) (by omega)
  have hRD := fun (w' : World) (hb : Below w.heap.size w w') => refDrop_c l v _ la lc w' (hl.below hb) (by omega)
  have hOf := fun (k : Nat) (hk : k ≤ 1000) (w' : World) (hb : Below w.heap.size w w') => of_c p k cs ok w' (planS.below h hb) hk hbig hpl
  have hRu := fun (k : Nat) (w' : World) (hb : Below w.heap.size w w') => refRules_c p (k : Int) cs ok w' (planS.below h hb) (hbig k) hpl
  generalize tabWrong l = tw at *
  generalize addOf l m = ad at *
  generalize nextOf l v f = nx at *
  generalize dropOf l v = dr at *
  obtain ⟨t1, t2⟩ := tw
  obtain ⟨ad1, ad2⟩ := ad
  obtain ⟨nx1, nx2⟩ := nx
  obtain ⟨fa, fc, pa, pc, rfl, hpv, hfl, hps⟩ := h
  obtain ⟨pv, fls, ps⟩ := p
  dsimp only at *
  have HA := Lib.hid hA
  have HRA := Lib.hid hRA
  have HAd := Lib.hid hAd
  have HRAd := Lib.hid hRAd
  have HN := Lib.hid hN
  have HRN := Lib.hid hRN
  have HD := Lib.hid hD
  have HRD := Lib.hid hRD
  have HOf := Lib.hid hOf
  have HRu := Lib.hid hRu
  clear hA hRA hAd hRAd hN hRN hD hRD hOf hRu hbig
  have hB0 : Below w.heap.size w (w.alloc (.cells #[.int .i64 pv, .slice fa fls.length fc, .slice pa ps.length pc] 38)) := by (repeat' (first | with_reducible exact Below.refl _ _ | with_reducible assumption | with_reducible refine Below.drew ?_ | with_reducible refine Below_drewN ?_ _ | with_reducible refine Below.alloc ?_ ?_ _ | with_reducible refine Below.setCell ?_ ?_ _ | omega | (simp; done) | (simp; omega)))
  have hP0 : blockIs (w.alloc (.cells #[.int .i64 pv, .slice fa fls.length fc, .slice pa ps.length pc] 38)) w.heap.size 38 #[.int .i64 pv, .slice fa fls.length fc, .slice pa ps.length pc] := blockIs.new rfl
  go_enter Try.func4, Try.ntmps4
  by_cases hn0 : 0 ≤ n ∧ n ≤ 50
  case neg =>
    by_cases o1 : n ≥ 0
    · have o2 : ¬ n ≤ 50 := by omega
      clear hn0
      go_wp2_with fail
      generalize w.alloc (.cells #[.int .i64 pv, .slice fa fls.length fc, .slice pa ps.length pc] 38) = w0 at *
      skip
      refine (HA.out w0 hB0).mono ?_
      rintro e x1 ⟨rfl, g1⟩
      have hX1 : Below w.heap.size w x1 := hB0.trans (g1.mono hB0.size)
      clear HA g1
      go_wp2_with fail
      refine (HRA.out x1 hX1).mono ?_
      rintro e x2 ⟨rfl, g2⟩
      have hX2 : Below w.heap.size w x2 := hX1.trans (g2.mono hX1.size)
      clear g2
      go_wp2_with fail
      refine (HRA.out x2 hX2).mono ?_
      rintro e x3 ⟨rfl, g3⟩
      have hX3 : Below w.heap.size w x3 := hX2.trans (g3.mono hX2.size)
      clear g3 HRA
      by_cases ht : t1 = 0
      case neg =>
        have ht' : (t1 != 0) = true := by rw [bne_iff_ne]; exact ht
        clear ht
        go_wp2
        go_ret; exact ⟨rfl, hX3⟩
      subst ht
      go_wp2_with fail
      refine (HAd.out x3 hX3).mono ?_
      rintro e x4 ⟨aa, ac, rfl, hra, g4⟩
      have hX4 : Below w.heap.size w x4 := hX3.trans (g4.mono hX3.size)
      clear HAd g4
      go_wp2_with fail
      refine (HRAd.out x4 hX4).mono ?_
      rintro e x5 ⟨ba, bc, rfl, hrb, g5⟩
      have hX5 : Below w.heap.size w x5 := hX4.trans (g5.mono hX4.size)
      have hra5 := hra.below g5
      clear HRAd g5 hra
      go_wp2_with fail
      refine (HN.out x5 hX5).mono ?_
      rintro e x6 ⟨rfl, g6⟩
      have hX6 : Below w.heap.size w x6 := hX5.trans (g6.mono hX5.size)
      have hra6 := hra5.below g6
      have hrb6 := hrb.below g6
      clear HN g6 hra5 hrb
      go_wp2_with fail
      refine (HRN.out x6 hX6).mono ?_
      rintro e x7 ⟨rfl, g7⟩
      have hX7 : Below w.heap.size w x7 := hX6.trans (g7.mono hX6.size)
      have hQ := sameRules_c ad1 ad1 _ _ aa ba ac bc x7 (hra6.below g7) (hrb6.below g7)
      rw [show (ad1 == ad1) = true by simp] at hQ
      have HQ := Lib.hid hQ
      clear HRN g7 hra6 hrb6 hQ
      go_wp2_with fail
      refine HQ.out.mono ?_
      rintro e x8 ⟨rfl, g8⟩
      have hX8 : Below w.heap.size w x8 := hX7.trans (g8.mono hX7.size)
      clear HQ g8
      go_wp2_with fail
      refine (HD.out x8 hX8).mono ?_
      rintro e x9 ⟨da, dc, rfl, hda, g9⟩
      have hX9 : Below w.heap.size w x9 := hX8.trans (g9.mono hX8.size)
      clear HD g9
      go_wp2_with fail
      refine (HRD.out x9 hX9).mono ?_
      rintro e x10 ⟨ea, ec, rfl, hea, g10⟩
      have hX10 : Below w.heap.size w x10 := hX9.trans (g10.mono hX9.size)
      have hQ := sameRules_c dr dr _ _ da ea dc ec x10 (hda.row.below g10) hea
      rw [show (dr == dr) = true by simp] at hQ
      have HQ := Lib.hid hQ
      clear HRD g10 hQ hda hea
      go_wp2_with fail
      refine HQ.out.mono ?_
      rintro e x11 ⟨rfl, g11⟩
      have hX11 : Below w.heap.size w x11 := hX10.trans (g11.mono hX10.size)
      go_wp2
      go_ret; exact ⟨rfl, hX11⟩
    · clear hn0
      go_wp2_with fail
      generalize w.alloc (.cells #[.int .i64 pv, .slice fa fls.length fc, .slice pa ps.length pc] 38) = w0 at *
      skip
      refine (HA.out w0 hB0).mono ?_
      rintro e x1 ⟨rfl, g1⟩
      have hX1 : Below w.heap.size w x1 := hB0.trans (g1.mono hB0.size)
      clear HA g1
      go_wp2_with fail
      refine (HRA.out x1 hX1).mono ?_
      rintro e x2 ⟨rfl, g2⟩
      have hX2 : Below w.heap.size w x2 := hX1.trans (g2.mono hX1.size)
      clear g2
      go_wp2_with fail
      refine (HRA.out x2 hX2).mono ?_
      rintro e x3 ⟨rfl, g3⟩
      have hX3 : Below w.heap.size w x3 := hX2.trans (g3.mono hX2.size)
      clear g3 HRA
      by_cases ht : t1 = 0
      case neg =>
        have ht' : (t1 != 0) = true := by rw [bne_iff_ne]; exact ht
        clear ht
        go_wp2
        go_ret; exact ⟨rfl, hX3⟩
      subst ht
      go_wp2_with fail
      refine (HAd.out x3 hX3).mono ?_
      rintro e x4 ⟨aa, ac, rfl, hra, g4⟩
      have hX4 : Below w.heap.size w x4 := hX3.trans (g4.mono hX3.size)
      clear HAd g4
      go_wp2_with fail
      refine (HRAd.out x4 hX4).mono ?_
      rintro e x5 ⟨ba, bc, rfl, hrb, g5⟩
      have hX5 : Below w.heap.size w x5 := hX4.trans (g5.mono hX4.size)
      have hra5 := hra.below g5
      clear HRAd g5 hra
      go_wp2_with fail
      refine (HN.out x5 hX5).mono ?_
      rintro e x6 ⟨rfl, g6⟩
      have hX6 : Below w.heap.size w x6 := hX5.trans (g6.mono hX5.size)
      have hra6 := hra5.below g6
      have hrb6 := hrb.below g6
      clear HN g6 hra5 hrb
      go_wp2_with fail
      refine (HRN.out x6 hX6).mono ?_
      rintro e x7 ⟨rfl, g7⟩
      have hX7 : Below w.heap.size w x7 := hX6.trans (g7.mono hX6.size)
      have hQ := sameRules_c ad1 ad1 _ _ aa ba ac bc x7 (hra6.below g7) (hrb6.below g7)
      rw [show (ad1 == ad1) = true by simp] at hQ
      have HQ := Lib.hid hQ
      clear HRN g7 hra6 hrb6 hQ
      go_wp2_with fail
      refine HQ.out.mono ?_
      rintro e x8 ⟨rfl, g8⟩
      have hX8 : Below w.heap.size w x8 := hX7.trans (g8.mono hX7.size)
      clear HQ g8
      go_wp2_with fail
      refine (HD.out x8 hX8).mono ?_
      rintro e x9 ⟨da, dc, rfl, hda, g9⟩
      have hX9 : Below w.heap.size w x9 := hX8.trans (g9.mono hX8.size)
      clear HD g9
      go_wp2_with fail
      refine (HRD.out x9 hX9).mono ?_
      rintro e x10 ⟨ea, ec, rfl, hea, g10⟩
      have hX10 : Below w.heap.size w x10 := hX9.trans (g10.mono hX9.size)
      have hQ := sameRules_c dr dr _ _ da ea dc ec x10 (hda.row.below g10) hea
      rw [show (dr == dr) = true by simp] at hQ
      have HQ := Lib.hid hQ
      clear HRD g10 hQ hda hea
      go_wp2_with fail
      refine HQ.out.mono ?_
      rintro e x11 ⟨rfl, g11⟩
      have hX11 : Below w.heap.size w x11 := hX10.trans (g11.mono hX10.size)
      go_wp2
      go_ret; exact ⟨rfl, hX11⟩
  obtain ⟨k, rfl⟩ : ∃ k : Nat, n = (k : Int) := ⟨n.toNat, by omega⟩
  have o1 : (k : Int) ≥ 0 := by omega
  have o2 : (k : Int) ≤ 50 := by omega
  clear hn0
  go_wp2_with fail
  generalize w.alloc (.cells #[.int .i64 pv, .slice fa fls.length fc, .slice pa ps.length pc] 38) = w0 at *
  refine (HOf.out k (by omega) w0 hB0).mono ?_
  rintro e w1 ⟨ob, fr, rfl, hob, hT, hb1⟩
  have hB1 : Below w.heap.size w w1 := hB0.trans (hb1.mono hB0.size)
  have hP1 := hP0.under hb1
  clear hP0 HOf
  go_wp2
  go_loopw [14, 38] (fun _ idx wr => ∃ i : Nat, idx = .int .i64 i ∧ i ≤ k ∧ Below w1.heap.size w1 wr) (fun _ idx _ => k - (intOf idx).toNat)
  case atStart => exact ⟨0, rfl, Nat.zero_le _, Below.refl _ _⟩
  case round =>
    obtain ⟨i, rfl, hi, hb⟩ := hrel
    rename World => wo
    have hBo : Below w.heap.size w wo := hB1.trans (hb.mono hB1.size)
    by_cases hlt : i < k
    case neg =>
      have b1 : ¬ (i : Int) < (k : Int) := by omega
      go_wp2_with fail
      refine (HA.out wo hBo).mono ?_
      rintro e x1 ⟨rfl, g1⟩
      have hX1 : Below w.heap.size w x1 := hBo.trans (g1.mono hBo.size)
      clear HA g1
      go_wp2_with fail
      refine (HRA.out x1 hX1).mono ?_
      rintro e x2 ⟨rfl, g2⟩
      have hX2 : Below w.heap.size w x2 := hX1.trans (g2.mono hX1.size)
      clear g2
      go_wp2_with fail
      refine (HRA.out x2 hX2).mono ?_
      rintro e x3 ⟨rfl, g3⟩
      have hX3 : Below w.heap.size w x3 := hX2.trans (g3.mono hX2.size)
      clear g3 HRA
      by_cases ht : t1 = 0
      case neg =>
        have ht' : (t1 != 0) = true := by rw [bne_iff_ne]; exact ht
        clear ht
        go_wp2
        go_ret; exact ⟨rfl, hX3⟩
      subst ht
      go_wp2_with fail
      refine (HAd.out x3 hX3).mono ?_
      rintro e x4 ⟨aa, ac, rfl, hra, g4⟩
      have hX4 : Below w.heap.size w x4 := hX3.trans (g4.mono hX3.size)
      clear HAd g4
      go_wp2_with fail
      refine (HRAd.out x4 hX4).mono ?_
      rintro e x5 ⟨ba, bc, rfl, hrb, g5⟩
      have hX5 : Below w.heap.size w x5 := hX4.trans (g5.mono hX4.size)
      have hra5 := hra.below g5
      clear HRAd g5 hra
      go_wp2_with fail
      refine (HN.out x5 hX5).mono ?_
      rintro e x6 ⟨rfl, g6⟩
      have hX6 : Below w.heap.size w x6 := hX5.trans (g6.mono hX5.size)
      have hra6 := hra5.below g6
      have hrb6 := hrb.below g6
      clear HN g6 hra5 hrb
      go_wp2_with fail
      refine (HRN.out x6 hX6).mono ?_
      rintro e x7 ⟨rfl, g7⟩
      have hX7 : Below w.heap.size w x7 := hX6.trans (g7.mono hX6.size)
      have hQ := sameRules_c ad1 ad1 _ _ aa ba ac bc x7 (hra6.below g7) (hrb6.below g7)
      rw [show (ad1 == ad1) = true by simp] at hQ
      have HQ := Lib.hid hQ
      clear HRN g7 hra6 hrb6 hQ
      go_wp2_with fail
      refine HQ.out.mono ?_
      rintro e x8 ⟨rfl, g8⟩
      have hX8 : Below w.heap.size w x8 := hX7.trans (g8.mono hX7.size)
      clear HQ g8
      go_wp2_with fail
      refine (HD.out x8 hX8).mono ?_
      rintro e x9 ⟨da, dc, rfl, hda, g9⟩
      have hX9 : Below w.heap.size w x9 := hX8.trans (g9.mono hX8.size)
      clear HD g9
      go_wp2_with fail
      refine (HRD.out x9 hX9).mono ?_
      rintro e x10 ⟨ea, ec, rfl, hea, g10⟩
      have hX10 : Below w.heap.size w x10 := hX9.trans (g10.mono hX9.size)
      have hQ := sameRules_c dr dr _ _ da ea dc ec x10 (hda.row.below g10) hea
      rw [show (dr == dr) = true by simp] at hQ
      have HQ := Lib.hid hQ
      clear HRD g10 hQ hda hea
      go_wp2_with fail
      refine HQ.out.mono ?_
      rintro e x11 ⟨rfl, g11⟩
      have hX11 : Below w.heap.size w x11 := hX10.trans (g11.mono hX10.size)
      go_wp2
      go_ret; exact ⟨rfl, hX11⟩
    have b1 : (i : Int) < (k : Int) := by omega
    have b0 : (0 : Int) ≤ (i : Int) := by omega
    have hTo := hT.under hb
    have hPo := hP1.under hb
    have hobl := hTo.blk.lt
    have hPl := hPo.lt
    have hSS : SX ob i w.heap.size (.slice (fr i).1 (rulesAt ⟨pv, fls, ps⟩ i).length (fr i).2) (.int .i64 pv) (.slice fa fls.length fc) (.slice pa ps.length pc) wo := ⟨hTo.cell hlt, hPo.cells.1 0, hPo.cells.1 1, hPo.cells.1 2⟩
    have hrow := hTo.row hlt
    have hHR0 := HRu.out i
    have HHR := Lib.hid hHR0
    clear hHR0
    generalize rulesAt ⟨pv, fls, ps⟩ (i : Int) = RI at *
    clear HA HRA HAd HRAd HN HRN HD HRD hT hTo
    go_wp2
    have hS0 : SX ob i w.heap.size (.slice (fr i).1 RI.length (fr i).2) (.int .i64 pv) (.slice fa fls.length fc) (.slice pa ps.length pc) wo.drew := hSS
    refine wp_region_to (SX ob i w.heap.size (.slice (fr i).1 RI.length (fr i).2) (.int .i64 pv) (.slice fa fls.length fc) (.slice pa ps.length pc)) 99 (fun a0 a' w' => ∃ v41 v42 v43 v44 v45 v46 v47 v48, a' = puts a0 [(41, v41), (42, v42), (43, v43), (44, v44), (45, v45), (46, v46), (47, v47), (48, v48), (49, .bool false)] ∧ Below wo.heap.size wo w') (by kernel_rfl) ?_ ?_
    · intro Q' hR hQp
      have hb0 : Below wo.heap.size wo wo.drew := by (repeat' (first | with_reducible exact Below.refl _ _ | with_reducible assumption | with_reducible refine Below.drew ?_ | with_reducible refine Below_drewN ?_ _ | with_reducible refine Below.alloc ?_ ?_ _ | with_reducible refine Below.setCell ?_ ?_ _ | omega | (simp; done) | (simp; omega)))
      have hS : SX ob i w.heap.size (.slice (fr i).1 RI.length (fr i).2) (.int .i64 pv) (.slice fa fls.length fc) (.slice pa ps.length pc) wo.drew := hS0
      generalize wo.drew = wa at *
      have hBa : Below w.heap.size w wa := hBo.trans (hb0.mono hBo.size)
      have hHR := HHR.out wa hBa
      refine wpAnyK_take' (i := 0) _ rfl (by kernel_rfl) (fun _ _ _ h => hQp _ _ _ _ h) hS (yields_value (by kernel_rfl) (by intro w0 hw0; have hw1 := hw0; simp only [SX] at hw1; first | (go_simp; done) | (go_simp; rfl))) ?_; simp only [Act.put, List.getElem_toArray, List.getElem_cons_succ, List.getElem_cons_zero, List.setIfInBounds_toArray, List.set_cons_succ, List.set_cons_zero]
      refine wpAnyK_take' (i := 1) _ rfl (by kernel_rfl) (fun _ _ _ h => hQp _ _ _ _ h) hS (yields_value (by kernel_rfl) (by intro w0 hw0; have hw1 := hw0; simp only [SX] at hw1; first | (go_simp; done) | (go_simp; rfl))) ?_; simp only [Act.put, List.getElem_toArray, List.getElem_cons_succ, List.getElem_cons_zero, List.setIfInBounds_toArray, List.set_cons_succ, List.set_cons_zero]
      refine wpAnyK_take' (i := 2) _ rfl (by kernel_rfl) (fun _ _ _ h => hQp _ _ _ _ h) hS (yields_value (by kernel_rfl) (by intro w0 hw0; have hw1 := hw0; simp only [SX] at hw1; first | (go_simp; done) | (go_simp; rfl))) ?_; simp only [Act.put, List.getElem_toArray, List.getElem_cons_succ, List.getElem_cons_zero, List.setIfInBounds_toArray, List.set_cons_succ, List.set_cons_zero]
      refine wpAnyK_take' (i := 3) _ rfl (by kernel_rfl) (fun _ _ _ h => hQp _ _ _ _ h) hS (yields_value (by kernel_rfl) (by intro w0 hw0; have hw1 := hw0; simp only [SX] at hw1; first | (go_simp; done) | (go_simp; rfl))) ?_; simp only [Act.put, List.getElem_toArray, List.getElem_cons_succ, List.getElem_cons_zero, List.setIfInBounds_toArray, List.set_cons_succ, List.set_cons_zero]
      refine wpAnyK_take' (i := 4) _ rfl (by kernel_rfl) (fun _ _ _ h => hQp _ _ _ _ h) hS (yields_value (by kernel_rfl) (by intro w0 hw0; have hw1 := hw0; simp only [SX] at hw1; first | (go_simp; done) | (go_simp; rfl))) ?_; simp only [Act.put, List.getElem_toArray, List.getElem_cons_succ, List.getElem_cons_zero, List.setIfInBounds_toArray, List.set_cons_succ, List.set_cons_zero]
      refine wpAnyK_take' (i := 5) _ rfl (by kernel_rfl) (fun _ _ _ h => hQp _ _ _ _ h) hS (yields_value (by kernel_rfl) (by intro w0 hw0; have hw1 := hw0; simp only [SX] at hw1; first | (go_simp; done) | (go_simp; rfl))) ?_; simp only [Act.put, List.getElem_toArray, List.getElem_cons_succ, List.getElem_cons_zero, List.setIfInBounds_toArray, List.set_cons_succ, List.set_cons_zero]
      clear hS
      refine wpAnyK_call (i := 6) rfl (by kernel_rfl) (by kernel_rfl) fun K6 hK6 => ?_
      go_simp
      go_wp2_with fail
      refine hHR.mono ?_
      rintro e wb ⟨ra, rc, rfl, hr, g1⟩
      go_wp2_with fail
      have g2 : Below wo.heap.size wo wb := hb0.trans (g1.mono hb0.size)
      have hS : _ := hSS.under (N := wo.heap.size) hobl hPl g2
      refine hK6 _ _ (fun _ => hS) ?_
      clear hK6
      clear hS
      refine wpAnyK_call (i := 7) rfl (by kernel_rfl) (by kernel_rfl) fun K7 hK7 => ?_
      go_simp
      go_wp2_with fail
      have hQ := sameRules_c _ _ _ _ (fr i).1 ra (fr i).2 rc wb (hrow.below g2) hr
      rw [show (RI == RI) = true by simp] at hQ
      refine hQ.mono ?_
      rintro e wc ⟨rfl, g3⟩
      go_wp2_with fail
      have g4 : Below wo.heap.size wo wc := g2.trans (g3.mono g2.size)
      have hS : _ := hSS.under (N := wo.heap.size) hobl hPl g4
      refine hK7 _ _ (fun _ => hS) ?_
      clear hK7
      refine wpAnyK_take' (i := 8) _ rfl (by kernel_rfl) (fun _ _ _ h => hQp _ _ _ _ h) hS (yields_value (by kernel_rfl) (by intro w0 hw0; have hw1 := hw0; simp only [SX] at hw1; first | (go_simp; done) | (go_simp; rfl))) ?_; simp only [Act.put, List.getElem_toArray, List.getElem_cons_succ, List.getElem_cons_zero, List.setIfInBounds_toArray, List.set_cons_succ, List.set_cons_zero]
      refine wpAnyK_done (by kernel_rfl) ?_ _
      refine hR _ _ ?_
      iterate 8 apply Exists.intro
      refine ⟨?_, g4⟩
      simp only [puts, Act.put, List.setIfInBounds_toArray, List.set_cons_succ, List.set_cons_zero]
      rfl
    rintro a' w8 ⟨v41, v42, v43, v44, v45, v46, v47, v48, rfl, hb8⟩
    simp only [puts, Act.put, List.setIfInBounds_toArray, List.set_cons_succ, List.set_cons_zero]
    have hb9 : Below w1.heap.size w1 w8 := hb.trans (hb8.mono hb.size)
    go_wp2
    case roundEnd =>
      go_roundw
      case rel => exact ⟨i + 1, by go_num, by omega, hb9⟩
      case measure => simp [intOf] <;> omega

end Go.Proofs.Ytcfcdembhjnjfaa
