/-
  The walk of the document's Begin: the stage that follows, as long as nothing is waited for.
-/
import Derived.WalkKit
import Derived.WalkSpells
import Derived.WalkLawsBesides
import Derived.Lib.Hide
import Derived.Deep.LoopGhost
import Derived.Deep.QuietTactic
import Derived.BigQuiet
import Derived.Deep.RegionWith
import Derived.Handy
import Derived.Test.YtagldmdeohenjaaPk31
import Derived.Test.YtagldmdeohenjaaPk42
set_option linter.unusedSimpArgs false
set_option linter.unusedVariables false
namespace Go.St
open Go.RowKit
theorem rowRep.nilA {α : Type} {S : Shape α} {ok ok' : Nat → Prop} {w w' : World} {ao : Option Addr} {c : Nat} (h : rowRep S ok w ao c []) : rowRep S ok' w' ao c [] := ⟨h.1, h.2.1, .inl rfl⟩
/-- blocks that stay, ahead of a call's own rows: all but two boxes -/
def keptS (C O lo : Nat) : Nat → Prop := fun b => b ≠ C ∧ b ≠ O ∧ b < lo
theorem planC.parts {w : World} {ok : Nat → Prop} {n0 n1 n2 : Value} {p : Plan} (h : planC w ok n0 n1 n2 p) : ∃ fa fc pa pc, n0 = .int .i64 p.ver ∧ n1 = .slice fa p.flows.length fc ∧ n2 = .slice pa p.paths.length pc ∧ I64 p.ver ∧ rowRep flowS ok w fa fc p.flows ∧ rowRep (sliceS intS) ok w pa pc p.paths := by
  obtain ⟨fa, fc, pa, pc, he, h1, h2, h3⟩ := h
  simp only [List.cons.injEq, and_true] at he
  exact ⟨fa, fc, pa, pc, he.1, he.2.1, he.2.2, h1, h2, h3⟩
theorem planC.whole {w : World} {ok : Nat → Prop} {fa pa : Option Addr} {fc pc : Nat} {p : Plan} (h1 : I64 p.ver) (h2 : rowRep flowS ok w fa fc p.flows) (h3 : rowRep (sliceS intS) ok w pa pc p.paths) : planC w ok (.int .i64 p.ver) (.slice fa p.flows.length fc) (.slice pa p.paths.length pc) p := ⟨fa, fc, pa, pc, rfl, h1, h2, h3⟩
theorem tells_over {s : Ctl × List To} {f : Int → List To} {n : Nat} : tells s (over f (n + 1)) = tells (tells s (over f n)) (f n) := by rw [over_succ, tells_append]
theorem began_take {s : Int} {l : List Flow} {j : Nat} {f : Flow} (h : l[j]? = some f) : began s (l.take (j + 1)) = (began s (l.take j) || f.src == s) := by
  unfold began
  rw [List.take_add_one, h]
  simp
end Go.St
namespace Go.Proofs.Ytagldmdeohenjaa
open Go.RowKit Go.St

set_option maxRecDepth 100000 in
set_option maxHeartbeats 16000000 in
theorem refBegin_c (c : Ctl) (t : Topo) (ts : List Value) (okt : Nat → Prop) (out : List To) (n0 n1 n2 x0 x1 x2 : Value) (qa oa : Option Addr) (qc oc : Nat) (w : World) (C O lo B : Nat) (KP : Nat → Prop) (hKP : ∀ b, KP b → keptS C O lo b) (KW : Nat → Prop) (hKW : ∀ b, KW b → b ≠ C)
    (hC : blockIs w C 32 #[.int .i64 c.stage, n0, n1, n2, x0, x1, x2, .int .i64 c.num, .slice qa c.waits.length qc]) (hn : planC w KP n0 n1 n2 c.now) (hx : planC w KP x0 x1 x2 c.next) (hw : rowRep intS KW w qa qc c.waits)
    (hO : blockIs w O 44 #[.slice oa out.length oc]) (hout : ownR toS 85 (oth lo w oa) lo w oa out.length oc out) (ht : topoS.rep okt w ts t) (ht0 : 0 ≤ t.n) (ht8 : t.n ≤ 8)
    (hst : I64 c.stage) (hnu : I64 c.num) (hsm : PlanSmall c.next) (hCl : C < lo) (hOl : O < lo) (hCO : C ≠ O) (hlo : lo ≤ w.heap.size) (hwl : c.waits.length ≤ 2000000000) (hol : out.length ≤ 100) (hBC : B ≤ C) (hBO : B ≤ O) :
    Calls Try.prog 32 #[.pointer (some ⟨C, 0, none⟩), .agg ts.toArray, .pointer (some ⟨O, 0, none⟩)] w fun e w' => e = .returned (.tuple #[]) ∧ ∃ (m0 m1 m2 y0 y1 y2 : Value) (va : Option Addr) (vc : Nat) (oa' : Option Addr) (oc' : Nat),
      blockIs w' C 32 #[.int .i64 (stepsOf c t).1.stage, m0, m1, m2, y0, y1, y2, .int .i64 (stepsOf c t).1.num, .slice va (stepsOf c t).1.waits.length vc] ∧ planC w' KP m0 m1 m2 (stepsOf c t).1.now ∧ planC w' KP y0 y1 y2 (stepsOf c t).1.next ∧ rowRep intS (fun b => KW b ∨ w.heap.size ≤ b) w' va vc (stepsOf c t).1.waits ∧
      blockIs w' O 44 #[.slice oa' (out ++ (stepsOf c t).2).length oc'] ∧ ownR toS 85 (oth lo w' oa') lo w' oa' (out ++ (stepsOf c t).2).length oc' (out ++ (stepsOf c t).2) ∧ I64 (stepsOf c t).1.stage ∧ I64 (stepsOf c t).1.num ∧ Frm (keptS C O lo) B w w' := by
  have HT0 : Hid (Turns t ((stepsOf c t).1, out ++ (stepsOf c t).2) c out) := ⟨rfl, rfl⟩
  generalize stepsOf c t = R at *
  obtain ⟨R1, R2⟩ := R
  dsimp only at *
  generalize out ++ R2 = RO at *
  have hT := ht
  obtain ⟨la, lc, rfl, htn, htr⟩ := ht
  have hCz := hC.lt
  have hOz := hO.lt
  have hB0 : Below w.heap.size w (w.alloc (.cells #[.int .i64 t.n, .slice la t.links.length lc] 24)) := by (repeat' (first | with_reducible exact Below.refl _ _ | with_reducible assumption | with_reducible refine Below.drew ?_ | with_reducible refine Below_drewN ?_ _ | with_reducible refine Below.alloc ?_ ?_ _ | with_reducible refine Below.setCell ?_ ?_ _ | omega | (simp; done) | (simp; omega)))
  have hT0 : blockIs (w.alloc (.cells #[.int .i64 t.n, .slice la t.links.length lc] 24)) w.heap.size 24 #[.int .i64 t.n, .slice la t.links.length lc] := blockIs.new rfl
  have hF0 : Frm (keptS C O lo) B w (w.alloc (.cells #[.int .i64 t.n, .slice la t.links.length lc] 24)) := Frm.of hB0 (by omega)
  have hC0 := hC.under hB0
  have hO0 := hO.under hB0
  have hn0 := hF0.rep' hn (fun b hb => .inl (hKP b hb))
  have hx0 := hF0.rep' hx (fun b hb => .inl (hKP b hb))
  have hw0 := (hw.anyOk (ok' := fun b => KW b ∨ w.heap.size ≤ b) (fun b _ h => .inl h)).below hB0
  have hu0 := oth.below hout hB0
  have hHS : Hid (c.stage = 1 → c.stage = 1 ∧ out.length ≤ 100 ∧ PlanSmall c.next) := fun h => ⟨h, hol, hsm⟩
  go_enter Try.func32, Try.ntmps32
  go_wp2
  generalize w.alloc (.cells #[.int .i64 t.n, .slice la t.links.length lc] 24) = w0 at *
  --CUT1
  go_loopw [6, 7, 8, 9, 10, 12] (fun _ _ _ _ _ _ wr => ∃ (k : Ctl) (os : List To) (m0 m1 m2 y0 y1 y2 : Value) (va : Option Addr) (vc : Nat) (oa : Option Addr) (oc : Nat), Hid (Turns t (R1, RO) k os) ∧ blockIs wr C 32 #[.int .i64 k.stage, m0, m1, m2, y0, y1, y2, .int .i64 k.num, .slice va k.waits.length vc] ∧ blockIs wr w.heap.size 24 #[.int .i64 t.n, .slice la t.links.length lc] ∧ blockIs wr O 44 #[.slice oa os.length oc] ∧
      planC wr KP m0 m1 m2 k.now ∧ planC wr KP y0 y1 y2 k.next ∧ rowRep intS (fun b => KW b ∨ w.heap.size ≤ b) wr va vc k.waits ∧ ownR toS 85 (oth lo wr oa) lo wr oa os.length oc os ∧ I64 k.stage ∧ I64 k.num ∧ Hid (k.stage = 1 → os.length ≤ 100 ∧ PlanSmall k.next) ∧ Frm (keptS C O lo) B w wr) (fun _ _ _ _ _ _ wr => stageM C wr)
  case atStart => exact ⟨c, out, n0, n1, n2, x0, x1, x2, qa, qc, oa, oc, HT0, hC0, hT0, hO0, hn0, hx0, hw0, hu0, hst, hnu, fun _ => ⟨hol, hsm⟩, hF0⟩
  case round =>
    clear HT0 hC0 hT0 hO0 hn0 hx0 hw0 hu0 hst hnu hF0 hHS hC hn hx hw hO hout hB0
    obtain ⟨k, os, m0, m1, m2, y0, y1, y2, va, vc, oa, oc, hR, hC, hTb, hO, hN, hX, hV, hU, hks, hkn, hone, hF⟩ := hrel
    obtain ⟨kst, know, knext, knum, kws⟩ := k
    rename World => wo
    dsimp only at *
    have hcl := hC.lt
    have hOlt := hO.lt
    have hTl := hTb.lt
    have hso := hF.size
    obtain ⟨c1, c2⟩ := hC.cells
    have HM := Lib.hid (stageM.of hC)
    obtain ⟨lm0, lm1, lm2⟩ := planC.st (P := Try.prog) hN
    obtain ⟨ly0, ly1, ly2⟩ := planC.st (P := Try.prog) hX
    obtain ⟨ln0, ln1, ln2⟩ := hN.one
    obtain ⟨lx0, lx1, lx2⟩ := hX.one
    have HEND : Hid (stepsOf ⟨kst, know, knext, knum, kws⟩ t = (⟨kst, know, knext, knum, kws⟩, []) → R1 = ⟨kst, know, knext, knum, kws⟩ ∧ RO = os) := fun h => by
      have h9 := hR.out
      unfold Turns at h9
      rw [h, List.append_nil] at h9
      exact h9
    by_cases hv0 : kws = []
    case neg =>
      have hl1 : ((kws.length : Int) == 0) = false := by rw [beq_eq_false_iff_ne]; have := List.length_pos_iff.2 hv0; omega
      obtain ⟨hE1, hE2⟩ := HEND.out (steps_wait (c := ⟨kst, know, knext, knum, kws⟩) (t := t) hv0)
      have HE1 := Lib.hid hE1
      have HE2 := Lib.hid hE2
      have hv0' : ¬ kws.length = 0 := fun h => hv0 (List.eq_nil_of_length_eq_zero h)
      clear hv0 HEND hR hone hE1 hE2
      go_wp2_with ((with_reducible refine bodyPost_end (v := .tuple #[]) ?ra1 ?rb1 ?rc1); go_must (case ra1 => simp [results, Try.results32, go_sem]); go_must (case rb1 => rfl); go_must (case rc1 => refine ⟨rfl, ?_⟩; rw [HE1.out, HE2.out]; exact ⟨m0, m1, m2, y0, y1, y2, va, vc, oa, oc, hC, hN, hX, hV, hO, hU, hks, hkn, hF⟩))
    subst hv0
    simp only [List.length_nil] at hC c1
    by_cases h4 : kst = 4
    case pos =>
      subst h4
      have hE : R1 = ⟨0, knext, noPlan, knum, []⟩ ∧ RO = os := by
        have h9 := hR.out
        unfold Turns at h9
        rw [steps_four rfl rfl, steps_rest (c := ⟨0, knext, noPlan, knum, []⟩) rfl (by show (0 : Int) ≠ 1; decide) (by show (0 : Int) ≠ 2; decide) (by show (0 : Int) ≠ 4; decide), List.append_nil] at h9
        exact h9
      have HE1 := Lib.hid hE.1
      have HE2 := Lib.hid hE.2
      obtain ⟨hC2, FR⟩ := set7 hC (fun b => b ≠ C) B (fun h => h rfl) hBC (.int .i64 0) y0 y1 y2 (.int .i64 0) (.slice none 0 0) (.slice none 0 0)
      have hX2 := FR.rep' hX (fun b hb => .inl (hKP b hb).1)
      have hU2 := oth.frm hU FR (fun b hb => .inl (by omega))
      have hO2 := FR.blk hO (.inl (by omega))
      have hF2 := hF.trans (FR.weak (fun b hb hW => .inl hW.1) (Nat.le_refl _))
      clear hE HEND hR hone
      go_wp2_with ((with_reducible refine bodyPost_ret (v := .tuple #[]) ?ra2 ?rb2 ?rc2); go_must (case ra2 => simp [results, Try.results32, go_sem]); go_must (case rb2 => rfl); go_must (case rc2 => refine ⟨rfl, ?_⟩; rw [HE1.out, HE2.out]; exact ⟨y0, y1, y2, .int .i64 0, .slice none 0 0, .slice none 0 0, va, vc, oa, oc, hC2, hX2, noPlanC _ _, hV.nilA, hO2, hU2, show I64 0 from I64.small (by decide) (by decide), hkn, hF2⟩))
    have h4' : (kst == 4) = false := by rw [beq_eq_false_iff_ne]; exact h4
    by_cases h2 : kst = 2
    case pos =>
      subst h2
      have hE : R1 = ⟨3, know, knext, knum, []⟩ ∧ RO = os := by
        have h9 := hR.out
        unfold Turns at h9
        rw [steps_two rfl rfl, steps_rest (c := ⟨3, know, knext, knum, []⟩) rfl (by show (3 : Int) ≠ 1; decide) (by show (3 : Int) ≠ 2; decide) (by show (3 : Int) ≠ 4; decide), List.append_nil] at h9
        exact h9
      have HE1 := Lib.hid hE.1
      have HE2 := Lib.hid hE.2
      have hC2 := hC.set 0 (.int .i64 3)
      simp only [List.setIfInBounds_toArray, List.set_cons_zero] at hC2
      have FR : Frm (fun b => b ≠ C) B wo (wo.setCell ⟨C, 0, none⟩ (.int .i64 3)) := Frm.set (a := ⟨C, 0, none⟩) (fun h => h rfl) hBC _
      have hN2 := FR.rep' hN (fun b hb => .inl (hKP b hb).1)
      have hX2 := FR.rep' hX (fun b hb => .inl (hKP b hb).1)
      have hU2 := oth.frm hU FR (fun b hb => .inl (by omega))
      have hO2 := FR.blk hO (.inl (by omega))
      have hF2 := hF.trans (FR.weak (fun b hb hW => .inl hW.1) (Nat.le_refl _))
      clear hE HEND hR hone
      go_wp2_with ((with_reducible refine bodyPost_ret (v := .tuple #[]) ?ra3 ?rb3 ?rc3); go_must (case ra3 => simp [results, Try.results32, go_sem]); go_must (case rb3 => rfl); go_must (case rc3 => refine ⟨rfl, ?_⟩; rw [HE1.out, HE2.out]; exact ⟨m0, m1, m2, y0, y1, y2, va, vc, oa, oc, hC2, hN2, hX2, hV.nilA, hO2, hU2, show I64 3 from I64.small (by decide) (by decide), hkn, hF2⟩))
    have h2' : (kst == 2) = false := by rw [beq_eq_false_iff_ne]; exact h2
    by_cases h1 : kst = 1
    case neg =>
      have h1' : (kst == 1) = false := by rw [beq_eq_false_iff_ne]; exact h1
      obtain ⟨hE1, hE2⟩ := HEND.out (steps_rest (c := ⟨kst, know, knext, knum, []⟩) (t := t) rfl h1 h2 h4)
      have HE1 := Lib.hid hE1
      have HE2 := Lib.hid hE2
      clear HEND hR hone h1 h2 h4 hE1 hE2
      go_wp2_with ((with_reducible refine bodyPost_end (v := .tuple #[]) ?ra4 ?rb4 ?rc4); go_must (case ra4 => simp [results, Try.results32, go_sem]); go_must (case rb4 => rfl); go_must (case rc4 => refine ⟨rfl, ?_⟩; rw [HE1.out, HE2.out]; exact ⟨m0, m1, m2, y0, y1, y2, va, vc, oa, oc, hC, hN, hX, hV, hO, hU, hks, hkn, hF⟩))
    --CUT2
    subst h1
    obtain ⟨hol1, hsm1⟩ := hone.out rfl
    obtain ⟨g1, gc, g2, pc, rfl, rfl, rfl, hnv, hng, hnp⟩ := hN.parts
    obtain ⟨f1, fc, f2, qc, rfl, rfl, rfl, hxv, hxf, hxp⟩ := hX.parts
    obtain ⟨nv, gls, nps⟩ := know
    obtain ⟨xv, fls, xps⟩ := knext
    dsimp only at *
    have hfl := hsm1.fls
    dsimp only at hfl
    have hgx := hng.len_le
    have HR1 : Hid (∀ sr, tells (⟨2, ⟨nv, gls, nps⟩, ⟨xv, fls, xps⟩, knum, []⟩, os) (over (stampAt ⟨2, ⟨nv, gls, nps⟩, ⟨xv, fls, xps⟩, knum, []⟩) t.n.toNat) = sr → Turns t (R1, RO) sr.1 sr.2) := fun sr hsr => by
      have h9 := hR.out
      unfold Turns at h9
      rw [steps_one rfl rfl] at h9
      subst hsr
      rw [tells_acc]
      unfold Turns
      dsimp only
      exact ⟨h9.1, by rw [List.append_assoc]; exact h9.2⟩
    have HSN : Hid (∀ (s : Nat) (num : Int) (ws : List Int) (o2 : List To), tells (⟨2, ⟨nv, gls, nps⟩, ⟨xv, fls, xps⟩, knum, []⟩, os) (over (stampAt ⟨2, ⟨nv, gls, nps⟩, ⟨xv, fls, xps⟩, knum, []⟩) s) = (⟨2, ⟨nv, gls, nps⟩, ⟨xv, fls, xps⟩, num, ws⟩, o2) → idxFrom s 0 fls = [] → began s gls = false →
        tells (⟨2, ⟨nv, gls, nps⟩, ⟨xv, fls, xps⟩, knum, []⟩, os) (over (stampAt ⟨2, ⟨nv, gls, nps⟩, ⟨xv, fls, xps⟩, knum, []⟩) (s + 1)) = (⟨2, ⟨nv, gls, nps⟩, ⟨xv, fls, xps⟩, num, ws⟩, o2)) := fun s num ws o2 h h1 h2 => by
      rw [tells_over, h]
      have e : stampAt ⟨2, ⟨nv, gls, nps⟩, ⟨xv, fls, xps⟩, knum, []⟩ s = [] := if_pos ⟨h1, h2⟩
      rw [e, tells_nil]
    have HSY : Hid (∀ (s : Nat) (num : Int) (ws : List Int) (o2 : List To) (ls : List Int), tells (⟨2, ⟨nv, gls, nps⟩, ⟨xv, fls, xps⟩, knum, []⟩, os) (over (stampAt ⟨2, ⟨nv, gls, nps⟩, ⟨xv, fls, xps⟩, knum, []⟩) s) = (⟨2, ⟨nv, gls, nps⟩, ⟨xv, fls, xps⟩, num, ws⟩, o2) → idxFrom s 0 fls = ls → ¬ (ls = [] ∧ began s gls = false) →
        tells (⟨2, ⟨nv, gls, nps⟩, ⟨xv, fls, xps⟩, knum, []⟩, os) (over (stampAt ⟨2, ⟨nv, gls, nps⟩, ⟨xv, fls, xps⟩, knum, []⟩) (s + 1)) = (⟨2, ⟨nv, gls, nps⟩, ⟨xv, fls, xps⟩, up num, ws ++ [up num]⟩, o2 ++ [⟨s, ⟨2, up num, xv, [], ls⟩⟩])) := fun s num ws o2 ls h h1 h2 => by
      rw [tells_over, h]
      have e : stampAt ⟨2, ⟨nv, gls, nps⟩, ⟨xv, fls, xps⟩, knum, []⟩ s = [⟨s, ⟨2, 0, xv, [], ls⟩⟩] := by
        rw [← h1]
        exact if_neg (by rw [h1]; exact h2)
      rw [e, tells_cons, tells_nil]
      rfl
    have hS00 : Hid (tells (⟨2, ⟨nv, gls, nps⟩, ⟨xv, fls, xps⟩, knum, []⟩, os) (over (stampAt ⟨2, ⟨nv, gls, nps⟩, ⟨xv, fls, xps⟩, knum, []⟩) 0) = (⟨2, ⟨nv, gls, nps⟩, ⟨xv, fls, xps⟩, knum, []⟩, os)) := rfl
    have hC1 := hC.set 0 (.int .i64 2)
    simp only [List.setIfInBounds_toArray, List.set_cons_zero] at hC1
    have FR : Frm (fun b => b ≠ C) B wo (wo.setCell ⟨C, 0, none⟩ (.int .i64 2)) := Frm.set (a := ⟨C, 0, none⟩) (fun h => h rfl) hBC _
    have hng1 := FR.row' hng (fun b hb => .inl (hKP b hb).1)
    have hnp1 := FR.row' hnp (fun b hb => .inl (hKP b hb).1)
    have hxf1 := FR.row' hxf (fun b hb => .inl (hKP b hb).1)
    have hxp1 := FR.row' hxp (fun b hb => .inl (hKP b hb).1)
    have hU1 := oth.frm hU FR (fun b hb => .inl (by omega))
    have hO1 := FR.blk hO (.inl (by omega))
    have hT1 := FR.blk hTb (.inl (by omega))
    have hV1 : rowRep intS (fun b => KW b ∨ w.heap.size ≤ b) (wo.setCell ⟨C, 0, none⟩ (.int .i64 2)) va vc [] := hV.nilA
    have hF1 := hF.trans (FR.weak (fun b hb hW => .inl hW.1) (Nat.le_refl _))
    have hsz1 : (wo.setCell ⟨C, 0, none⟩ (.int .i64 2)).heap.size = wo.heap.size := by simp
    have hn8 : t.n.toNat ≤ 8 := by omega
    clear HEND hR hone hsm1 hng hnp hxf hxp hU hO hTb hV hF FR hC hN hX
    go_wp2
    --CUT3
    clear c1 c2 lm0 lm1 lm2 ly0 ly1 ly2 ln0 ln1 ln2 lx0 lx1 lx2
    generalize wo.setCell ⟨C, 0, none⟩ (.int .i64 2) = w1 at *
    have hsz2 : wo.heap.size ≤ w1.heap.size := by omega
    clear hsz1
    go_loopw [6, 7, 8, 9, 10, 12] (fun sv _ _ _ _ _ wr => ∃ (s : Nat) (num : Int) (ws : List Int) (o2 : List To) (va : Option Addr) (vc : Nat) (oa : Option Addr) (oc : Nat), sv = .int .i64 s ∧ s ≤ t.n.toNat ∧ Hid (tells (⟨2, ⟨nv, gls, nps⟩, ⟨xv, fls, xps⟩, knum, []⟩, os) (over (stampAt ⟨2, ⟨nv, gls, nps⟩, ⟨xv, fls, xps⟩, knum, []⟩) s) = (⟨2, ⟨nv, gls, nps⟩, ⟨xv, fls, xps⟩, num, ws⟩, o2)) ∧ ws.length ≤ s ∧ o2.length ≤ 100 + s ∧ I64 num ∧
        blockIs wr C 32 #[.int .i64 2, .int .i64 nv, .slice g1 gls.length gc, .slice g2 nps.length pc, .int .i64 xv, .slice f1 fls.length fc, .slice f2 xps.length qc, .int .i64 num, .slice va ws.length vc] ∧ rowRep intS (fun b => KW b ∨ w.heap.size ≤ b) wr va vc ws ∧ blockIs wr O 44 #[.slice oa o2.length oc] ∧ ownR toS 85 (oth lo wr oa) lo wr oa o2.length oc o2 ∧ blockIs wr w.heap.size 24 #[.int .i64 t.n, .slice la t.links.length lc] ∧ Frm (keptS C O lo) B w1 wr) (fun sv _ _ _ _ _ _ => t.n.toNat - (intOf sv).toNat)
    case atStart => exact ⟨0, knum, [], os, va, vc, oa, oc, rfl, Nat.zero_le _, hS00, Nat.le_refl _, by omega, hkn, hC1, hV1, hO1, hU1, hT1, Frm.refl _ _ _⟩
    case round =>
      clear hS00 hC1 hV1 hO1 hU1 hT1 hkn hks
      obtain ⟨s, num, ws, o2, va, vc, oa, oc, rfl, hs, hS, hwl2, hol2, hkn, hC, hV, hO, hU, hTb, hF⟩ := hrel
      rename World => ws6
      have hcl := hC.lt
      have hTl := hTb.lt
      have hOlt := hO.lt
      have hs6 := hF.size
      obtain ⟨c1, c2⟩ := hC.cells
      obtain ⟨t1, t2⟩ := hTb.cells
      have hUsep : ∀ k, blk oa = some k → k < ws6.heap.size := fun k hk => (hU.lt k hk).2
      by_cases hsn : s < t.n.toNat
      case neg =>
        obtain rfl : s = t.n.toNat := by omega
        have b1 : ¬ ((t.n.toNat : Nat) : Int) < t.n := by omega
        have HRX := Lib.hid (HR1.out _ hS.out)
        dsimp only at HRX
        have hF9 := hF1.trans hF
        have hN9 : planC ws6 KP (.int .i64 nv) (.slice g1 gls.length gc) (.slice g2 nps.length pc) ⟨nv, gls, nps⟩ := planC.whole (p := ⟨nv, gls, nps⟩) hnv (hF.row' hng1 (fun b hb => .inl (hKP b hb))) (hF.row' hnp1 (fun b hb => .inl (hKP b hb)))
        have hX9 : planC ws6 KP (.int .i64 xv) (.slice f1 fls.length fc) (.slice f2 xps.length qc) ⟨xv, fls, xps⟩ := planC.whole (p := ⟨xv, fls, xps⟩) hxv (hF.row' hxf1 (fun b hb => .inl (hKP b hb))) (hF.row' hxp1 (fun b hb => .inl (hKP b hb)))
        have HM2 := Lib.hid (stageM.of hC)
        clear HSN HSY HR1 hS hng1 hnp1 hxf1 hxp1 hF hF1
        go_wp2
        case roundEnd =>
          go_roundw
          case rel => exact ⟨⟨2, ⟨nv, gls, nps⟩, ⟨xv, fls, xps⟩, num, ws⟩, o2, _, _, _, _, _, _, va, vc, oa, oc, HRX, hC, hTb, hO, hN9, hX9, hV, hU, show I64 2 from I64.small (by decide) (by decide), hkn, fun h => absurd (show (2 : Int) = 1 from h) (by decide), hF9⟩
          case measure => rw [HM.out, HM2.out]; decide
      have b1 : (s : Int) < t.n := by omega
      have hsI : I64 (s : Int) := ⟨by omega, by omega⟩
      have hst : Hid (([] : List Int) ++ idxFrom s ((0 : Nat) : Int) (fls.drop 0) = idxFrom s 0 fls) := rfl
      obtain ⟨i0, hi, hz0, hz1, hz2⟩ := info_parts info_int
      go_wp2
      --CUT4
      go_loopw [7, 9, 10, 82] (fun lv _ _ idx wr => ∃ (j : Nat) (la2 : Option Addr) (lc2 : Nat) (ls : List Int), lv = .slice la2 ls.length lc2 ∧ idx = .int .i64 j ∧ j ≤ fls.length ∧ Hid (ls ++ idxFrom s (j : Int) (fls.drop j) = idxFrom s 0 fls) ∧ ls.length ≤ j ∧ ownR intS 3 (fun _ => False) ws6.heap.size wr la2 ls.length lc2 ls ∧ Below ws6.heap.size ws6 wr) (fun _ _ _ idx _ => fls.length - (intOf idx).toNat)
      case atStart => exact ⟨0, none, 0, [], rfl, rfl, Nat.zero_le _, hst, Nat.zero_le _, ownR.nil' _ _ _ _, Below.refl _ _⟩
      case round =>
        clear hst
        obtain ⟨j, la2, lc2, ls, rfl, rfl, hj, hS2, hln, hL, hb3⟩ := hrel
        rename World => wi
        have hwi := hb3.size
        by_cases hjl : j < fls.length
        case neg =>
          have HI0 : Hid (idxFrom s 0 fls = ls) := by show _ = _; have := hS2.out; rw [idxs_end (by omega), List.append_nil] at this; exact this.symm
          have e1 : ¬ (j : Int) < (fls.length : Int) := by omega
          have hCi := hC.under hb3
          have hcli := hCi.lt
          clear c1 c2 t1 t2 hS2 hjl
          obtain ⟨c1, c2⟩ := hCi.cells
          have hbg0 : Hid (false = began s (gls.take 0)) := rfl
          go_wp2
          --CUT5
          go_loopw [8, 12, 102] (fun bv _ idx wr => ∃ (j2 : Nat) (b : Bool), bv = .bool b ∧ idx = .int .i64 j2 ∧ j2 ≤ gls.length ∧ Hid (b = began s (gls.take j2)) ∧ Below wi.heap.size wi wr) (fun _ _ idx _ => gls.length - (intOf idx).toNat)
          case atStart => exact ⟨0, false, rfl, rfl, Nat.zero_le _, hbg0, Below.refl _ _⟩
          case round =>
            clear hbg0
            obtain ⟨j2, b, rfl, rfl, hj2, hbg, hb4⟩ := hrel
            rename World => wk
            by_cases hj2l : j2 < gls.length
            · have e2 : (j2 : Int) < (gls.length : Int) := by omega
              have e3 : (0 : Int) ≤ (j2 : Int) := by omega
              obtain ⟨f, hf⟩ : ∃ f, gls[j2]? = some f := ⟨_, List.getElem?_eq_getElem hj2l⟩
              obtain ⟨g, off, va', vc', na, nc, rfl, hgl, _, _, _, _, hce⟩ := flowRow_get (hF.row' hng1 (fun b hb => .inl (hKP b hb))) hf
              obtain ⟨k0, k1, k2, k3⟩ := hce wk (hb3.trans (hb4.mono hwi))
              have hbx : Below wi.heap.size wi (wk.alloc (.cells #[.int .i64 f.src, .int .i64 f.dst, .slice va' f.via.length vc', .slice na f.no.length nc] 64)) := hb4.alloc hb4.size _
              have hbn : Hid ((b || f.src == (s : Int)) = began s (gls.take (j2 + 1))) := by show _ = _; rw [began_take hf, ← hbg.out]
              clear hce hf hbg
              generalize hfs : (f.src == (s : Int)) = fs at *
              cases b
              · go_wp2
                case roundEnd =>
                  go_roundw
                  case rel => exact ⟨j2 + 1, fs, rfl, by go_num, by omega, hbn, hbx⟩
                  case measure => simp [intOf] <;> omega
              · go_wp2
                case roundEnd =>
                  go_roundw
                  case rel => exact ⟨j2 + 1, true, rfl, by go_num, by omega, hbn, hbx⟩
                  case measure => simp [intOf] <;> omega
            --CUT6
            have e2 : ¬ (j2 : Int) < (gls.length : Int) := by omega
            have HB0 : Hid (b = began s gls) := by have := hbg.out; rwa [List.take_of_length_le (by omega)] at this
            have hbk : Below ws6.heap.size ws6 wk := hb3.trans (hb4.mono hwi)
            have hCk := hC.under hbk
            have hTk := hTb.under hbk
            have hOk := hO.under hbk
            have hVk := hV.below hbk
            have hUk := oth.below hU hbk
            have hLk := hL.below hb4
            have hFk := hF.trans (Frm.of hbk (by omega))
            have hsk := hbk.size
            clear hbg hC hTb hO hV hU hL hF hb3 hb4 c1 c2 hCi hj2l
            obtain ⟨c1, c2⟩ := hCk.cells
            have hck := hCk.lt
            have hsl : ls.length ≤ fls.length := by omega
            by_cases hno : ls = [] ∧ b = false
            case pos =>
              obtain ⟨rfl, rfl⟩ := hno
              have HE := Lib.hid (HSN.out s num ws o2 hS.out HI0.out HB0.out.symm)
              go_wp2
              case roundEnd =>
                go_roundw
                case rel => exact ⟨s + 1, num, ws, o2, va, vc, oa, oc, by go_num, by omega, HE, by omega, by omega, hkn, hCk, hVk, hOk, hUk, hTk, hFk⟩
                case measure => simp [intOf] <;> omega
            have HE := Lib.hid (HSY.out s num ws o2 ls hS.out HI0.out (by rw [← HB0.out]; exact hno))
            have hord : orderS.rep (fun q => lo ≤ q ∧ blk oa ≠ some q) wk [.int .i64 2, .int .i64 0, .int .i64 xv, .slice none 0 0, .slice la2 ls.length lc2] ⟨2, 0, xv, [], ls⟩ :=
              ⟨none, 0, la2, lc2, rfl, show I64 2 from I64.small (by decide) (by decide), show I64 0 from I64.small (by decide) (by decide), hxv, rowRep.nil _ _ _ _, hLk.row (fun _ h => h.elim) (fun q hq => ⟨by have := (hLk.lt q hq).1; omega, fun e => by have h1 := (hLk.lt q hq).1; have h2 := hUsep q e; omega⟩)⟩
            have hTell := refTell_c 2 num (.int .i64 nv) (.slice g1 gls.length gc) (.slice g2 nps.length pc) (.int .i64 xv) (.slice f1 fls.length fc) (.slice f2 xps.length qc) ws o2 s ⟨2, 0, xv, [], ls⟩ _ wk C O lo B va oa vc oc hCk (hVk.anyOk (fun b _ h => by
              rcases h with h | h
              · exact hKW b h
              · omega)) hOk hUk hord hsI hCl hOl hCO (by omega) (by omega) (by omega) hBC hBO
            have HTL := Lib.hid hTell
            clear hTell hord hS
            have hlk : lo ≤ wk.heap.size := by omega
            have hTne : blk oa ≠ some w.heap.size := hUk.noType hTk (by decide)
            have hUlo : ∀ q, blk oa = some q → lo ≤ q := fun q hq => (hUk.lt q hq).1
            have hcond : b = true ∨ (b = false ∧ ls ≠ []) := by
              cases b
              · exact .inr ⟨rfl, fun h => hno ⟨h, rfl⟩⟩
              · exact .inl rfl
            have HO9 : Hid ((o2 ++ [(⟨s, ⟨2, up num, xv, [], ls⟩⟩ : To)]).length = o2.length + 1) := by show _ = _; simp
            have HW9 : Hid ((ws ++ [up num]).length = ws.length + 1) := by show _ = _; simp
            clear hno hLk
            rcases hcond with rfl | ⟨rfl, hl0⟩
            case' inr =>
              have hl1 : decide ((ls.length : Int) > 0) = true := by rw [decide_eq_true_iff]; have := List.length_pos_iff.2 hl0; omega
              have hl2 : (0 : Int) < (ls.length : Int) := by have := List.length_pos_iff.2 hl0; omega
              have hl3 : 0 < ls.length := List.length_pos_iff.2 hl0
            all_goals
              go_wp2_with fail
              refine HTL.out.mono ?_
              rintro e w9 ⟨rfl, va9, vc9, oa9, oc9, hC9, hV9, hO9, hU9, hF9⟩
              have hT9 := hF9.blk hTk (.inl ⟨by omega, by omega, hTne⟩)
              have hFZ := hFk.trans (hF9.weak (V := keptS C O lo) (fun q _ h => .inl ⟨h.1, h.2.1, fun e => by have h1 := hUlo q e; have h2 := h.2.2; omega⟩) (Nat.le_refl _))
              have hV9' := hV9.anyOk (ok' := fun b => KW b ∨ w.heap.size ≤ b) (fun q _ h => .inr (by omega))
              rw [← HW9.out] at hC9
              rw [← HO9.out] at hO9 hU9
              have hn9 := up_i64 num
              have hw9 : (ws ++ [up num]).length ≤ s + 1 := by rw [HW9.out]; omega
              have ho9 : (o2 ++ [(⟨s, ⟨2, up num, xv, [], ls⟩⟩ : To)]).length ≤ 100 + (s + 1) := by rw [HO9.out]; omega
              clear c1 c2 HTL
              go_wp2
              case roundEnd =>
                go_roundw
                case rel => exact ⟨s + 1, up num, ws ++ [up num], _, va9, vc9, oa9, oc9, by go_num, by omega, HE, hw9, ho9, hn9, hC9, hV9', hO9, hU9, hT9, hFZ⟩
                case measure => simp [intOf] <;> omega
        have e0' : (0 : Int) ≤ (j : Int) := by omega
        have e1' : (j : Int) < (fls.length : Int) := by omega
        obtain ⟨f, hf⟩ : ∃ f, fls[j]? = some f := ⟨_, List.getElem?_eq_getElem hjl⟩
        obtain ⟨g, off, va', vc', na, nc, rfl, hgl, hfs, hfd, _, _, hce⟩ := flowRow_get (hF.row' hxf1 (fun b hb => .inl (hKP b hb))) hf
        obtain ⟨k0, k1, k2, k3⟩ := hce wi hb3
        have HID := Lib.hid (idxs_step (s := (s : Int)) hf)
        have hjI : I64 (j : Int) := ⟨by omega, by omega⟩
        clear hce hf
        --CUT7
        by_cases hfs2 : f.src = (s : Int)
        case neg =>
          have hf2 : (f.src == (s : Int)) = false := by rw [beq_eq_false_iff_ne]; exact hfs2
          have HS3 : Hid (ls ++ idxFrom s ((j + 1 : Nat) : Int) (fls.drop (j + 1)) = idxFrom s 0 fls) := by show _ = _; have := hS2.out; rw [HID.out, if_neg hfs2, List.nil_append] at this; exact this
          have hLx := hL.alloc (.cells #[.int .i64 f.src, .int .i64 f.dst, .slice va' f.via.length vc', .slice na f.no.length nc] 64)
          have hbx : Below ws6.heap.size ws6 (wi.alloc (.cells #[.int .i64 f.src, .int .i64 f.dst, .slice va' f.via.length vc', .slice na f.no.length nc] 64)) := hb3.alloc hwi _
          clear hS2 HID hfs2
          go_wp2
          case roundEnd =>
            go_roundw
            case rel => exact ⟨j + 1, la2, lc2, ls, rfl, by go_num, by omega, HS3, by omega, hLx, hbx⟩
            case measure => simp [intOf] <;> omega
        have HS3 : Hid ((ls ++ [(j : Int)]) ++ idxFrom s ((j + 1 : Nat) : Int) (fls.drop (j + 1)) = idxFrom s 0 fls) := by show _ = _; have := hS2.out; rw [HID.out, if_pos hfs2] at this; rw [List.append_assoc]; exact this
        obtain ⟨fsrc, fdst, fvia, fno⟩ := f
        dsimp only at *
        subst hfs2
        have hLx := (hL.alloc (.cells #[.int .i64 s, .int .i64 fdst, .slice va' fvia.length vc', .slice na fno.length nc] 64)).alloc (.cells #[.int .i64 j] 3)
        have hsz5 : (wi.alloc (.cells #[.int .i64 s, .int .i64 fdst, .slice va' fvia.length vc', .slice na fno.length nc] 64)).heap.size = wi.heap.size + 1 := by simp
        have hsrc : srcRep intS (fun _ => False) ((wi.alloc (.cells #[.int .i64 s, .int .i64 fdst, .slice va' fvia.length vc', .slice na fno.length nc] 64)).alloc (.cells #[.int .i64 j] 3)) (some ⟨wi.heap.size + 1, 0, none⟩) [(j : Int)] := srcRep.ints [(j : Int)] hsz5 (by intro x hx; obtain rfl : x = (j : Int) := (by simpa using hx); exact hjI)
        have hbF : Below ws6.heap.size ws6 ((wi.alloc (.cells #[.int .i64 s, .int .i64 fdst, .slice va' fvia.length vc', .slice na fno.length nc] 64)).alloc (.cells #[.int .i64 j] 3)) := (hb3.alloc hwi _).alloc (by simp; omega) _
        clear hS2 HID hL hb3 hsz5
        go_wp2_with (at_builtin; go_must (refine wpList_appR (sh := intS) (base := ws6.heap.size) (n := ls.length) (m := 1) rfl _ _ 26 rfl 3 i0 (.int .i64 0) 8 Try.underlying26 hi hz0 hz1 hz2 rfl (by decide) rfl hLx rfl rfl hsrc (by simp only [maxLen]; omega) (by omega) hbF.size ?_); go_must (intro va9 vc9 w9 hV9 hg9 hd9; have hb9 := hbF.trans (grown_below (B := ws6.heap.size) hg9 (fun k hk => (hLx.lt k hk).1) hbF.size)))
        case roundEnd =>
          have hln2 : (ls ++ [(j : Int)]).length = ls.length + 1 := by simp
          have HV : Hid (Value.slice va9 (ls.length + 1) vc9 = .slice va9 (ls ++ [(j : Int)]).length vc9) := by show _ = _; rw [hln2]
          have hV9' : ownR intS 3 (fun _ => False) ws6.heap.size w9 va9 (ls ++ [(j : Int)]).length vc9 (ls ++ [(j : Int)]) := by rw [hln2]; exact hV9
          go_roundw
          case rel => exact ⟨j + 1, va9, vc9, ls ++ [(j : Int)], HV.out, by go_num, by omega, HS3, by rw [hln2]; omega, hV9', hb9⟩
          case measure => simp [intOf] <;> omega

end Go.Proofs.Ytagldmdeohenjaa
