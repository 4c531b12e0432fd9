/-
  The walk of control.steps: as far as nothing is waited for.
-/
import Derived.Test.YtagldmdeohenjaaSendW
import Derived.Test.YtagldmdeohenjaaStmpC
import Derived.WalkKit
import Derived.WalkSpells
import Derived.WalkLawsBesides
import Derived.Lib.Hide
import Derived.Deep.LoopGhost
import Derived.Deep.QuietTactic
import Derived.BigQuiet
import Derived.Deep.RegionWith
import Derived.Handy
set_option linter.unusedSimpArgs false
set_option linter.unusedVariables false
namespace Go.St
open Go.RowKit
theorem steps_wait {c : Ctl} {t : Topo} (h : c.waits ≠ []) : stepsOf c t = (c, []) := by unfold stepsOf; rw [if_pos h]
theorem steps_one {c : Ctl} {t : Topo} (h : c.waits = []) (h1 : c.stage = 1) : stepsOf c t = ((stepsOf (send ⟨2, c.now, c.next, c.num, c.waits⟩ (stampsOf c t)).1 t).1, (send ⟨2, c.now, c.next, c.num, c.waits⟩ (stampsOf c t)).2 ++ (stepsOf (send ⟨2, c.now, c.next, c.num, c.waits⟩ (stampsOf c t)).1 t).2) := by
  have e : stepsOf c t = if (send ⟨2, c.now, c.next, c.num, c.waits⟩ (stampsOf c t)).1.waits = [] then (⟨3, c.now, c.next, c.num, []⟩, []) else send ⟨2, c.now, c.next, c.num, c.waits⟩ (stampsOf c t) := by
    unfold stepsOf
    rw [if_neg (fun hh => hh h), if_pos h1]
  rw [e]
  by_cases hw : (send ⟨2, c.now, c.next, c.num, c.waits⟩ (stampsOf c t)).1.waits = []
  · rw [if_pos hw]
    have hl := send_len ⟨2, c.now, c.next, c.num, c.waits⟩ (stampsOf c t)
    rw [hw, h] at hl
    have h0 : stampsOf c t = [] := List.eq_nil_of_length_eq_zero (by simpa using hl.2.symm)
    rw [h0]
    simp only [send, tells_nil, List.nil_append]
    unfold stepsOf
    simp [h]
  · rw [if_neg hw, steps_wait hw]
    simp
theorem steps_two {c : Ctl} {t : Topo} (h : c.waits = []) (h1 : c.stage = 2) : stepsOf c t = stepsOf ⟨3, c.now, c.next, c.num, c.waits⟩ t := by
  unfold stepsOf; simp [h, h1]
theorem steps_four {c : Ctl} {t : Topo} (h : c.waits = []) (h1 : c.stage = 4) : stepsOf c t = stepsOf ⟨0, c.next, noPlan, c.num, c.waits⟩ t := by
  unfold stepsOf; simp [h, h1]
theorem steps_rest {c : Ctl} {t : Topo} (h : c.waits = []) (h1 : c.stage ≠ 1) (h2 : c.stage ≠ 2) (h4 : c.stage ≠ 4) : stepsOf c t = (c, []) := by
  unfold stepsOf; simp [h, h1, h2, h4]
/-- the stage a turn begins at -/
def stageLeft (s : Int) : Nat := if s = 1 then 3 else if s = 2 then 2 else if s = 4 then 1 else 0
def stageM (N : Nat) (w : World) : Nat := match w.cell? ⟨N, 0, none⟩ with | some (.int _ n) => stageLeft n | _ => 0
theorem stageM.of {w : World} {b : Nat} {t : TypeId} {k : IntKind} {n : Int} {l : List Value} (h : blockIs w b t (Value.int k n :: l).toArray) : stageM b w = stageLeft n := by
  unfold stageM
  rw [h.cells.1 0]
  simp
/-- of which it is a turn -/
def Turns (t : Topo) (R : Ctl × List To) (c : Ctl) (os : List To) : Prop := R.1 = (stepsOf c t).1 ∧ R.2 = os ++ (stepsOf c t).2
theorem ownR.ints_any {e : TypeId} {ok ok' : Nat → Prop} {base : Nat} {w : World} {ao : Option Addr} {n cap : Nat} {xs : List Int} (h : ownR intS e ok base w ao n cap xs) (ho : ∀ k, blk ao = some k → ¬ ok' k) (hb : ∀ b, ok' b → b < w.heap.size) : ownR intS e ok' base w ao n cap xs := by
  obtain ⟨cells, h1, h2, h3, h4, h5⟩ := h
  exact ⟨cells, h1, h2, fun i x hx => h3 i x hx, ho, hb⟩
end Go.St
namespace Go.Proofs.Ytagldmdeohenjaa
open Go.RowKit Go.St

set_option maxRecDepth 100000 in
set_option maxHeartbeats 16000000 in
theorem steps_c (c : Ctl) (t : Topo) (ts : List Value) (W K : Nat → Prop) (B : Nat) (n0 n1 n2 x0 x1 x2 : Value) (wa : Option Addr) (wc : Nat) (w : World)
    (hKW : ∀ b, K b → W b) (hn : planC w K n0 n1 n2 c.now) (hx : planC w K x0 x1 x2 c.next) (hw : ownR intS 3 W B w wa c.waits.length wc c.waits) (hst : I64 c.stage) (hnum : I64 c.num) (ht : topoS.rep (fun b => b < B) w ts t) (ht0 : 0 ≤ t.n) (ht8 : t.n ≤ 8) (hsm : PlanSmall c.next) (hB : B ≤ w.heap.size) (hwl : c.waits.length ≤ 10000000000) :
    Calls Try.prog 25 #[.agg #[.int .i64 c.stage, n0, n1, n2, x0, x1, x2, .int .i64 c.num, .slice wa c.waits.length wc], .agg ts.toArray] w fun e w' => ∃ (m0 m1 m2 y0 y1 y2 : Value) (va : Option Addr) (vc : Nat) (oa : Option Addr) (oc : Nat),
      e = .returned (.tuple #[.agg #[.int .i64 (stepsOf c t).1.stage, m0, m1, m2, y0, y1, y2, .int .i64 (stepsOf c t).1.num, .slice va (stepsOf c t).1.waits.length vc], .slice oa (stepsOf c t).2.length oc]) ∧
      planC w' K m0 m1 m2 (stepsOf c t).1.now ∧ planC w' K y0 y1 y2 (stepsOf c t).1.next ∧ ownR intS 3 W B w' va (stepsOf c t).1.waits.length vc (stepsOf c t).1.waits ∧ I64 (stepsOf c t).1.stage ∧ I64 (stepsOf c t).1.num ∧
      rowRep toS (fun b => w.heap.size ≤ b) w' oa oc (stepsOf c t).2 ∧ Frm W B w w' := by
  have HT0 : Hid (Turns t (stepsOf c t) c []) := ⟨rfl, rfl⟩
  generalize stepsOf c t = R at *
  obtain ⟨R1, R2⟩ := R
  have hT := ht
  obtain ⟨la, lc, rfl, htn, htr⟩ := ht
  have hWN : ∀ b, W b → b < w.heap.size := hw.okLt
  have hKN : ∀ b, K b → b < w.heap.size := fun b hb => hWN b (hKW b hb)
  obtain ⟨cst, cnow, cnext, cnum, cws⟩ := c
  dsimp only at *
  have hB0 : Below w.heap.size w (((w.alloc (.cells #[.int .i64 cst, n0, n1, n2, x0, x1, x2, .int .i64 cnum, .slice wa cws.length wc] 32)).alloc (.cells #[.int .i64 t.n, .slice la t.links.length lc] 24)).alloc (.cells #[.int .i64 0, .int .i64 0, .slice none 0 0, .slice none 0 0, .int .i64 0, .slice none 0 0, .slice none 0 0, .int .i64 0, .slice none 0 0] 32)) := by (repeat' (first | with_reducible exact Below.refl _ _ | with_reducible assumption | with_reducible refine Below.drew ?_ | with_reducible refine Below_drewN ?_ _ | with_reducible refine Below.alloc ?_ ?_ _ | with_reducible refine Below.setCell ?_ ?_ _ | omega | (simp; done) | (simp; omega)))
  have hC0 : blockIs (((w.alloc (.cells #[.int .i64 cst, n0, n1, n2, x0, x1, x2, .int .i64 cnum, .slice wa cws.length wc] 32)).alloc (.cells #[.int .i64 t.n, .slice la t.links.length lc] 24)).alloc (.cells #[.int .i64 0, .int .i64 0, .slice none 0 0, .slice none 0 0, .int .i64 0, .slice none 0 0, .slice none 0 0, .int .i64 0, .slice none 0 0] 32)) w.heap.size 32 #[.int .i64 cst, n0, n1, n2, x0, x1, x2, .int .i64 cnum, .slice wa cws.length wc] := ((blockIs.new rfl).alloc _).alloc _
  have hT0 : blockIs (((w.alloc (.cells #[.int .i64 cst, n0, n1, n2, x0, x1, x2, .int .i64 cnum, .slice wa cws.length wc] 32)).alloc (.cells #[.int .i64 t.n, .slice la t.links.length lc] 24)).alloc (.cells #[.int .i64 0, .int .i64 0, .slice none 0 0, .slice none 0 0, .int .i64 0, .slice none 0 0, .slice none 0 0, .int .i64 0, .slice none 0 0] 32)) (w.heap.size + 1) 24 #[.int .i64 t.n, .slice la t.links.length lc] := (blockIs.new (by simp)).alloc _
  have hZ0 : blockIs (((w.alloc (.cells #[.int .i64 cst, n0, n1, n2, x0, x1, x2, .int .i64 cnum, .slice wa cws.length wc] 32)).alloc (.cells #[.int .i64 t.n, .slice la t.links.length lc] 24)).alloc (.cells #[.int .i64 0, .int .i64 0, .slice none 0 0, .slice none 0 0, .int .i64 0, .slice none 0 0, .slice none 0 0, .int .i64 0, .slice none 0 0] 32)) (w.heap.size + 1 + 1) 32 #[.int .i64 0, .int .i64 0, .slice none 0 0, .slice none 0 0, .int .i64 0, .slice none 0 0, .slice none 0 0, .int .i64 0, .slice none 0 0] := blockIs.new (by simp)
  have hF0 : Frm W B w (((w.alloc (.cells #[.int .i64 cst, n0, n1, n2, x0, x1, x2, .int .i64 cnum, .slice wa cws.length wc] 32)).alloc (.cells #[.int .i64 t.n, .slice la t.links.length lc] 24)).alloc (.cells #[.int .i64 0, .int .i64 0, .slice none 0 0, .slice none 0 0, .int .i64 0, .slice none 0 0, .slice none 0 0, .int .i64 0, .slice none 0 0] 32)) := Frm.of hB0 hB
  have hN0 : planC (((w.alloc (.cells #[.int .i64 cst, n0, n1, n2, x0, x1, x2, .int .i64 cnum, .slice wa cws.length wc] 32)).alloc (.cells #[.int .i64 t.n, .slice la t.links.length lc] 24)).alloc (.cells #[.int .i64 0, .int .i64 0, .slice none 0 0, .slice none 0 0, .int .i64 0, .slice none 0 0, .slice none 0 0, .int .i64 0, .slice none 0 0] 32)) K n0 n1 n2 cnow := planS.below hn hB0
  have hX0 : planC (((w.alloc (.cells #[.int .i64 cst, n0, n1, n2, x0, x1, x2, .int .i64 cnum, .slice wa cws.length wc] 32)).alloc (.cells #[.int .i64 t.n, .slice la t.links.length lc] 24)).alloc (.cells #[.int .i64 0, .int .i64 0, .slice none 0 0, .slice none 0 0, .int .i64 0, .slice none 0 0, .slice none 0 0, .int .i64 0, .slice none 0 0] 32)) K x0 x1 x2 cnext := planS.below hx hB0
  have hV0 := hw.below hB0
  have hl0 := planC.st (P := Try.prog) hn
  obtain ⟨ln0, ln1, ln2⟩ := hn.one
  obtain ⟨lx0, lx1, lx2⟩ := hx.one
  clear hl0
  go_enter Try.func25, Try.ntmps25
  go_wp2
  generalize (((w.alloc (.cells #[.int .i64 cst, n0, n1, n2, x0, x1, x2, .int .i64 cnum, .slice wa cws.length wc] 32)).alloc (.cells #[.int .i64 t.n, .slice la t.links.length lc] 24)).alloc (.cells #[.int .i64 0, .int .i64 0, .slice none 0 0, .slice none 0 0, .int .i64 0, .slice none 0 0, .slice none 0 0, .int .i64 0, .slice none 0 0] 32)) = w0 at *
  clear ln0 ln1 ln2 lx0 lx1 lx2 hn hx hw hB0
  go_loopw [6, 15, 23, 26] (fun out _ _ _ wr => ∃ (k : Ctl) (os : List To) (oa : Option Addr) (oc : Nat) (m0 m1 m2 y0 y1 y2 : Value) (va : Option Addr) (vc vn : Nat), out = .slice oa os.length oc ∧ Hid (Turns t (R1, R2) k os) ∧ Hid (vn = k.waits.length) ∧ vn ≤ cws.length + 1000 ∧
      blockIs wr w.heap.size 32 #[.int .i64 k.stage, m0, m1, m2, y0, y1, y2, .int .i64 k.num, .slice va vn vc] ∧ blockIs wr (w.heap.size + 1) 24 #[.int .i64 t.n, .slice la t.links.length lc] ∧ blockIs wr (w.heap.size + 1 + 1) 32 #[.int .i64 0, .int .i64 0, .slice none 0 0, .slice none 0 0, .int .i64 0, .slice none 0 0, .slice none 0 0, .int .i64 0, .slice none 0 0] ∧
      planC wr K m0 m1 m2 k.now ∧ planC wr K y0 y1 y2 k.next ∧ ownR intS 3 W B wr va vn vc k.waits ∧ I64 k.stage ∧ I64 k.num ∧ (k.stage = 1 → os = [] ∧ oa = none ∧ oc = 0 ∧ k.next = cnext ∧ vn = cws.length) ∧ rowRep toS (fun b => w.heap.size + 3 ≤ b) wr oa oc os ∧ Frm W B w wr) (fun _ _ _ _ wr => stageM w.heap.size wr)
  case atStart => exact ⟨⟨cst, cnow, cnext, cnum, cws⟩, [], none, 0, n0, n1, n2, x0, x1, x2, wa, wc, cws.length, rfl, HT0, rfl, by omega, hC0, hT0, hZ0, hN0, hX0, hV0, hst, hnum, fun _ => ⟨rfl, rfl, rfl, rfl, rfl⟩, rowRep.nil _ _ _ _, hF0⟩
  case round =>
    clear HT0 hC0 hT0 hZ0 hN0 hX0 hV0 hF0 hst hnum
    obtain ⟨k, os, oa, oc, m0, m1, m2, y0, y1, y2, va, vc, vn, rfl, hR, hvn, hvl, hC, hTb, hZ, hN, hX, hV, hks, hkn, hone, hO, hF⟩ := hrel
    obtain ⟨kst, know, knext, knum, kws⟩ := k
    rename World => wo
    dsimp only at *
    have hBo : B ≤ wo.heap.size := Nat.le_trans hB hF.size
    have hcl := hC.lt
    have hzl := hZ.lt
    obtain ⟨c1, c2⟩ := hC.cells
    obtain ⟨t1, t2⟩ := hTb.cells
    obtain ⟨z1, z2⟩ := hZ.cells
    have hWnN : ∀ b, W b → b < w.heap.size := hWN
    have HM := Lib.hid (stageM.of hC)
    obtain ⟨lm0, lm1, lm2⟩ := planC.st (P := Try.prog) hN
    obtain ⟨ly0, ly1, ly2⟩ := planC.st (P := Try.prog) hX
    have HEND : Hid (stepsOf ⟨kst, know, knext, knum, kws⟩ t = (⟨kst, know, knext, knum, kws⟩, []) → ∀ (Z : World), Z = wo → R1 = ⟨kst, know, knext, knum, kws⟩ ∧ R2 = os) := fun h Z _ => by
      have h9 := hR.out
      unfold Turns at h9
      rw [h, List.append_nil] at h9
      exact h9
    by_cases hv0 : vn = 0
    case neg =>
      have hvz : ((vn : Int) == 0) = false := by rw [beq_eq_false_iff_ne]; omega
      have HE := Lib.hid (HEND.out (steps_wait (c := ⟨kst, know, knext, knum, kws⟩) (t := t) (fun h => hv0 (by have h8 : kws = [] := h; rw [hvn.out, h8]; rfl))) wo rfl)
      clear hv0 HEND hR hone
      obtain ⟨G, FR⟩ := set9 hZ (fun b => b ≠ w.heap.size + 1 + 1) B (fun h => h rfl) (by omega) (.int .i64 kst) m0 m1 m2 y0 y1 y2 (.int .i64 knum) (.slice va vn vc)
      have HD := Lib.hid (And.intro (FR.rep' hN (fun b hb => .inl (by have := hKN b hb; omega))) (And.intro (FR.rep' hX (fun b hb => .inl (by have := hKN b hb; omega))) (And.intro (hV.frm FR (fun b hb => by have := hWN b hb; omega) (fun k hk e => hV.noType hZ (by decide) (e ▸ hk))) (And.intro (FR.row' hO (fun b hb => .inl (by omega))) (hF.trans (FR.weak (fun b hb hW => .inl (by have := hWN b hW; omega)) (Nat.le_refl _)))))))
      obtain ⟨g1, g2⟩ := G.cells
      clear FR hN hX hV hO hF
      go_wp2_with ((with_reducible refine bodyPost_ret (v := .tuple #[.agg #[.int .i64 kst, m0, m1, m2, y0, y1, y2, .int .i64 knum, .slice va vn vc], .slice oa os.length oc]) ?ra1 ?rb1 ?rc1); go_must (case ra1 => simp [results, Try.results25, go_sem, g1]); go_must (case rb1 => rfl); go_must (case rc1 => obtain ⟨rfl, rfl⟩ := HE.out; obtain rfl := hvn.out; obtain ⟨d1, d2, d3, d4, d5⟩ := HD.out; exact ⟨m0, m1, m2, y0, y1, y2, va, vc, oa, oc, rfl, d1, d2, d3, hks, hkn, d4.anyOk (fun b _ hb => by omega), d5⟩))
    subst hv0
    have hkw : kws = [] := List.eq_nil_of_length_eq_zero hvn.out.symm
    subst hkw
    by_cases h1 : kst = 1
    case neg =>
      have h1' : (kst == 1) = false := by rw [beq_eq_false_iff_ne]; exact h1
      by_cases h2 : kst = 2
      case pos =>
        subst h2
        have HR2 : Hid (Turns t (R1, R2) ⟨3, know, knext, knum, []⟩ os) := by
          have h9 := hR.out
          unfold Turns at h9
          rw [steps_two rfl rfl] at h9
          exact h9
        have hC2 := hC.set 0 (.int .i64 3)
        simp only [List.setIfInBounds_toArray, List.set_cons_zero] at hC2
        have FR : Frm (fun b => b ≠ w.heap.size) B wo (wo.setCell ⟨w.heap.size, 0, none⟩ (.int .i64 3)) := Frm.set (a := ⟨w.heap.size, 0, none⟩) (fun h => h rfl) hB _
        have hT2 := FR.blk hTb (.inl (by omega))
        have hZ2 := FR.blk hZ (.inl (by omega))
        have hN2 := FR.rep' hN (fun b hb => .inl (by have := hKN b hb; omega))
        have hX2 := FR.rep' hX (fun b hb => .inl (by have := hKN b hb; omega))
        have hV2 := hV.frm FR (fun b hb => by have := hWN b hb; omega) (fun k hk e => hV.noType hC (by decide) (e ▸ hk))
        have hO2 := FR.row' hO (fun b hb => .inl (by omega))
        have hF2 := hF.trans (FR.weak (fun b hb hW => .inl (by have := hWN b hW; omega)) (Nat.le_refl _))
        have HM2 := Lib.hid (stageM.of hC2)
        clear hN hX hV hO hF FR hR hone HEND h1
        go_wp2
        case roundEnd =>
          go_roundw
          case rel => exact ⟨⟨3, know, knext, knum, []⟩, os, oa, oc, m0, m1, m2, y0, y1, y2, va, vc, 0, rfl, HR2, rfl, by omega, hC2, hT2, hZ2, hN2, hX2, hV2, show I64 3 from I64.small (by decide) (by decide), hkn, fun h => absurd (show (3 : Int) = 1 from h) (by decide), hO2, hF2⟩
          case measure => rw [HM.out, HM2.out]; decide
      have h2' : (kst == 2) = false := by rw [beq_eq_false_iff_ne]; exact h2
      by_cases h4 : kst = 4
      case pos =>
        subst h4
        have HR2 : Hid (Turns t (R1, R2) ⟨0, knext, noPlan, knum, []⟩ os) := by
          have h9 := hR.out
          unfold Turns at h9
          rw [steps_four rfl rfl] at h9
          exact h9
        obtain ⟨hC2, FR⟩ := set7 hC (fun b => b ≠ w.heap.size) B (fun h => h rfl) hB (.int .i64 0) y0 y1 y2 (.int .i64 0) (.slice none 0 0) (.slice none 0 0)
        have hT2 := FR.blk hTb (.inl (by omega))
        have hZ2 := FR.blk hZ (.inl (by omega))
        have hX2 := FR.rep' hX (fun b hb => .inl (by have := hKN b hb; omega))
        have hV2 := hV.frm FR (fun b hb => by have := hWN b hb; omega) (fun k hk e => hV.noType hC (by decide) (e ▸ hk))
        have hO2 := FR.row' hO (fun b hb => .inl (by omega))
        have hF2 := hF.trans (FR.weak (fun b hb hW => .inl (by have := hWN b hW; omega)) (Nat.le_refl _))
        have HM2 := Lib.hid (stageM.of hC2)
        clear hN hX hV hO hF FR hR hone HEND h1 h2
        go_wp2
        case roundEnd =>
          go_roundw
          case rel => exact ⟨⟨0, knext, noPlan, knum, []⟩, os, oa, oc, y0, y1, y2, .int .i64 0, .slice none 0 0, .slice none 0 0, va, vc, 0, rfl, HR2, rfl, by omega, hC2, hT2, hZ2, hX2, noPlanC _ _, hV2, show I64 0 from I64.small (by decide) (by decide), hkn, fun h => absurd (show (0 : Int) = 1 from h) (by decide), hO2, hF2⟩
          case measure => rw [HM.out, HM2.out]; decide
      have h4' : (kst == 4) = false := by rw [beq_eq_false_iff_ne]; exact h4
      have HE := Lib.hid (HEND.out (steps_rest (c := ⟨kst, know, knext, knum, []⟩) (t := t) rfl h1 h2 h4) wo rfl)
      clear HEND hR hone h1 h2 h4
      obtain ⟨G, FR⟩ := set9 hZ (fun b => b ≠ w.heap.size + 1 + 1) B (fun h => h rfl) (by omega) (.int .i64 kst) m0 m1 m2 y0 y1 y2 (.int .i64 knum) (.slice va 0 vc)
      have HD := Lib.hid (And.intro (FR.rep' hN (fun b hb => .inl (by have := hKN b hb; omega))) (And.intro (FR.rep' hX (fun b hb => .inl (by have := hKN b hb; omega))) (And.intro (hV.frm FR (fun b hb => by have := hWN b hb; omega) (fun k hk e => hV.noType hZ (by decide) (e ▸ hk))) (And.intro (FR.row' hO (fun b hb => .inl (by omega))) (hF.trans (FR.weak (fun b hb hW => .inl (by have := hWN b hW; omega)) (Nat.le_refl _)))))))
      obtain ⟨g1, g2⟩ := G.cells
      clear FR hN hX hV hO hF
      go_wp2_with ((with_reducible refine bodyPost_ret (v := .tuple #[.agg #[.int .i64 kst, m0, m1, m2, y0, y1, y2, .int .i64 knum, .slice va 0 vc], .slice oa os.length oc]) ?ra1 ?rb1 ?rc1); go_must (case ra1 => simp [results, Try.results25, go_sem, g1]); go_must (case rb1 => rfl); go_must (case rc1 => obtain ⟨rfl, rfl⟩ := HE.out; obtain ⟨d1, d2, d3, d4, d5⟩ := HD.out; exact ⟨m0, m1, m2, y0, y1, y2, va, vc, oa, oc, rfl, d1, d2, d3, hks, hkn, d4.anyOk (fun b _ hb => by omega), d5⟩))
    subst h1
    obtain ⟨rfl, rfl, rfl, rfl, -⟩ := hone rfl
    have h0t : t.n.toNat ≤ 8 := by omega
    have hC1 := hC.set 0 (.int .i64 2)
    simp only [List.setIfInBounds_toArray, List.set_cons_zero] at hC1
    have FR : Frm (fun b => b ≠ w.heap.size) B wo (wo.setCell ⟨w.heap.size, 0, none⟩ (.int .i64 2)) := Frm.set (a := ⟨w.heap.size, 0, none⟩) (fun h => h rfl) hB _
    have hT1 := FR.blk hTb (.inl (by omega))
    have hZ1 := FR.blk hZ (.inl (by omega))
    have hN1 := FR.rep' hN (fun b hb => .inl (by have := hKN b hb; omega))
    have hX1 := FR.rep' hX (fun b hb => .inl (by have := hKN b hb; omega))
    have hV1 := hV.frm FR (fun b hb => by have := hWN b hb; omega) (fun k hk e => hV.noType hC (by decide) (e ▸ hk))
    have hF1 := hF.trans (FR.weak (fun b hb hW => .inl (by have := hWN b hW; omega)) (Nat.le_refl _))
    have HR1 : Hid (∀ sr, send ⟨2, know, knext, knum, []⟩ (stampsOf ⟨2, know, knext, knum, []⟩ t) = sr → Turns t (R1, R2) sr.1 sr.2) := fun sr hsr => by
      have h9 := hR.out
      unfold Turns at h9
      rw [steps_one rfl rfl] at h9
      have e : stampsOf ⟨1, know, knext, knum, []⟩ t = stampsOf ⟨2, know, knext, knum, []⟩ t := rfl
      rw [e] at h9
      simp only at h9
      rw [hsr, List.nil_append] at h9
      exact h9
    have HK1 := Lib.hid (send_keeps ⟨2, know, knext, knum, []⟩ (stampsOf ⟨2, know, knext, knum, []⟩ t))
    have hsi := send_i64 ⟨2, know, knext, knum, []⟩ (stampsOf ⟨2, know, knext, knum, []⟩ t) hkn
    have HK2 := Lib.hid (send_len ⟨2, know, knext, knum, []⟩ (stampsOf ⟨2, know, knext, knum, []⟩ t))
    have hst8 : (stampsOf ⟨2, know, knext, knum, []⟩ t).length ≤ 8 := Nat.le_trans (over_len (stampAt_len _) _) h0t
    have hsz1 : (wo.setCell ⟨w.heap.size, 0, none⟩ (.int .i64 2)).heap.size = wo.heap.size := by simp
    have HU : Hid (∀ (n : Int), I64 n → I64 n) := fun _ h => h
    clear hN hX hV hF FR hR hone HEND z1 z2 lm0 lm1 lm2 ly0 ly1 ly2 hC hTb hZ
    go_wp2_with fail
    clear c1 c2 t1 t2
    generalize wo.setCell ⟨w.heap.size, 0, none⟩ (.int .i64 2) = w1 at *
    have hbT : topoS.rep (fun b => b < B) w1 [.int .i64 t.n, .slice la t.links.length lc] t := hF1.rep' hT (fun b hb => .inr hb)
    refine (stamps_c ⟨2, know, knext, knum, []⟩ t _ K (fun b => b < B) w.heap.size m0 m1 m2 y0 y1 y2 va 0 vc 2 knum w1 hC1 hN1 hX1 hbT ht0 ht8 hsm).mono ?_
    rintro e w2 ⟨sa, sc, rfl, hL2, hb2⟩
    have hB1 : B ≤ w1.heap.size := by omega
    have hC2 := hC1.under hb2
    have hT2 := hT1.under hb2
    have hZ2 := hZ1.under hb2
    have hV2 := hV1.below hb2
    have hN2 : planC w2 K m0 m1 m2 know := planS.below hN1 hb2
    have hX2 : planC w2 K y0 y1 y2 knext := planS.below hX1 hb2
    have hF2 := hF1.trans (Frm.of hb2 hB1)
    have hB2 : B ≤ w2.heap.size := Nat.le_trans hB1 hb2.size
    have hvlt : ∀ k, blk va = some k → k < w1.heap.size := fun k hk => (hV1.lt k hk).2
    have hsz2 := hb2.size
    clear hN1 hX1 hV1 hF1 hbT hb2 hC1 hT1 hZ1
    generalize hM : w1.heap.size = M at *
    have hcl2 := hC2.lt
    have hzl2 := hZ2.lt
    go_wp2_with fail
    have hVs : ownR intS 3 (fun b => b < w2.heap.size ∧ b ≠ w.heap.size ∧ blk sa ≠ some b ∧ blk va ≠ some b) B w2 va 0 vc [] := hV2.ints_any (fun k hk h => h.2.2.2 hk) (fun b h => h.1)
    refine (send_c ⟨2, know, knext, knum, []⟩ (stampsOf ⟨2, know, knext, knum, []⟩ t) (fun b => b < w2.heap.size ∧ b ≠ w.heap.size ∧ blk sa ≠ some b ∧ blk va ≠ some b) (oth (M + 1) w2 sa) B w.heap.size m0 m1 m2 y0 y1 y2 va vc sa sc w2 hC2 hVs (hL2.base (by omega))
      (fun b hb => ⟨hb.2.1, by have := hb.1; omega, hb.2.2, fun e => by have := hvlt b e; have := hb.1; omega⟩) (fun k hk h => h.2.2.1 hk) hB (fun h => h.2.1 rfl) hB2 (by omega) (by simp)).mono ?_
    rintro e w3 ⟨va3, vc3, rfl, hC3, hW3, hL3, hF3⟩
    have hWs : ∀ b, W b → b < w2.heap.size ∧ b ≠ w.heap.size ∧ blk sa ≠ some b ∧ blk va ≠ some b := fun b hb => by
      have h1 := hWN b hb
      exact ⟨by omega, by omega, fun e => by have := (hL2.lt b e).1; omega, fun e => hV2.not b e hb⟩
    have hT3 := hF3.blk hT2 (.inl ⟨by omega, by omega, fun e => by have := (hL2.lt _ e).1; omega, hV2.noType hT2 (by decide)⟩)
    have hZ3 := hF3.blk hZ2 (.inl ⟨by omega, by omega, fun e => by have := (hL2.lt _ e).1; omega, hV2.noType hZ2 (by decide)⟩)
    have hN3 := hF3.rep' hN2 (fun b hb => .inl (hWs b (hKW b hb)))
    have hX3 := hF3.rep' hX2 (fun b hb => .inl (hWs b (hKW b hb)))
    have hF4 := hF2.trans (hF3.weak (fun b _ hb => .inl (hWs b hb)) (Nat.le_refl _))
    have hsz3 := hF3.size
    have hlo : ∀ k, blk sa = some k → M + 1 ≤ k := fun k hk => (hL2.lt k hk).1
    have hsl3 : ∀ k, blk sa = some k → k < w3.heap.size := fun k hk => (hL3.lt k hk).2
    generalize hsr : send ⟨2, know, knext, knum, []⟩ (stampsOf ⟨2, know, knext, knum, []⟩ t) = sr at *
    have hTR := HR1.out sr rfl
    obtain ⟨⟨s1, s2, s3, s4, s5⟩, sl⟩ := sr
    have hk1 := HK1.out
    have hk2 := HK2.out
    dsimp only at *
    obtain ⟨rfl, rfl, rfl⟩ := hk1
    have HTR := Lib.hid hTR
    have HKL := Lib.hid hk2
    clear hTR hk2 HR1 HK1 HK2 hsr hL2 hVs hT2 hZ2 hV2 hN2 hX2 hF2 hcl2 hzl2
    generalize (stampsOf ⟨2, s2, s3, knum, []⟩ t).length = nn at *
    obtain ⟨j0, gi, gz0, gz1, gz2⟩ := info_parts info_to
    have hown : ownR toS 41 (fun b => M + 1 ≤ b ∧ b < w3.heap.size) B w3 none 0 0 [] := ownR.nil _ _ _ _ _ (fun b h => h.2)
    have hrl : rowRep toS (fun b => M + 1 ≤ b ∧ b < w3.heap.size) w3 sa sc sl := hL3.row (fun b hb => ⟨hb.1, by have := hb.2.1; omega⟩) (fun k hk => ⟨hlo k hk, hsl3 k hk⟩)
    have hsrc := hrl.src
    have hB3 : B ≤ w3.heap.size := by omega
    have hC3' := hC3.lt
    clear hL3 hrl
    go_wp2_with (at_builtin; go_must (refine wpList_appR (sh := toS) (base := B) (n := 0) (m := nn) rfl _ _ 33 rfl 41 j0 (.agg #[.int .i64 0, .int .i64 0, .int .i64 0, .int .i64 0, .slice none 0 0, .slice none 0 0]) 80 Try.underlying33 gi gz0 gz1 gz2 rfl (by decide) rfl hown rfl HKL.out.1 hsrc (by simp only [maxLen]; omega) (by omega) hB3 ?_); go_must (intro oa9 oc9 w9 hown9 hg9 hd9))
    case roundEnd =>
      have hb9 : Below w3.heap.size w3 w9 := grown_below (B := w3.heap.size) hg9 (fun k hk => by simp [blk] at hk) (Nat.le_refl _)
      have hC9 := hC3.under hb9
      have hN9 : planC w9 K m0 m1 m2 s2 := planS.below hN3 hb9
      have hX9 : planC w9 K y0 y1 y2 s3 := planS.below hX3 hb9
      have hW9 : ownR intS 3 W B w9 va3 s5.length vc3 s5 := (hW3.below hb9).ints_any (fun k hk h => hW3.not k hk (hWs k h)) (fun b hb => by have := hWN b hb; have := hb9.size; omega)
      have hF9 := hF4.trans (Frm.of hb9 hB3)
      have hHM := stageM.of hC9
      rw [List.nil_append, Nat.zero_add] at hown9
      have hO9 : rowRep toS (fun b => w.heap.size + 3 ≤ b) w9 oa9 oc9 sl := hown9.row (fun b hb => by have := hb.1; omega) (fun k hk => by
        rcases hd9 with h | h
        · rw [h] at hk; simp [blk] at hk
        · rw [h] at hk; have e : w3.heap.size = k := by simpa using hk
          omega)
      have hnn := HKL.out
      go_roundw
      case rel => exact ⟨⟨2, s2, s3, s4, s5⟩, sl, oa9, oc9, m0, m1, m2, y0, y1, y2, va3, vc3, s5.length, by rw [hnn.1], HTR.out, rfl, by have := hnn.2; simp at this; omega, hC9, hT3.under hb9, hZ3.under hb9, hN9, hX9, hW9, show I64 2 from I64.small (by decide) (by decide), hsi, fun h => absurd (show (2 : Int) = 1 from h) (by decide), hO9, hF9⟩
      case measure => rw [HM.out, hHM]; decide

end Go.Proofs.Ytagldmdeohenjaa
