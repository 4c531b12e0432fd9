/-
  Find and Plan tell the path of any flow, in any net, and the plan of any flows: the law PathTells holds.
  No condition.
-/
import Derived.Test.YtflhmpmdpdekeaaPathO
import Derived.Test.YtflhmpmdpdekeaaPlanW
import Derived.Test.YtflhmpmdpdekeaaRefPl
import Derived.Test.YtflhmpmdpdekeaaSameP
import Derived.Test.YtflhmpmdpdekeaaInts
import Derived.WalkKit
import Derived.WalkSpells
import Derived.WalkLawsBesides
import Derived.Lib.Hide
import Derived.Deep.LoopGhost
import Derived.Deep.QuietTactic
import Derived.BigQuiet
import Derived.Deep.RegionWith
import Derived.Handy
set_option linter.unusedSimpArgs false
set_option linter.unusedVariables false
namespace Go.Proofs.Ytflhmpmdpdekeaa
open Go.RowKit Go.St

set_option maxRecDepth 100000 in
theorem eql_fault (a b : Int) (w : World) : (binOp .eql 40 (.agg #[.int .i64 a, .int .i64 b]) (.agg #[.int .i64 a, .int .i64 b])).run Try.prog w = .ok (.bool true) w := by
  go_simp

set_option maxRecDepth 100000 in
set_option maxHeartbeats 8000000 in
theorem pathTells_c (w : World) (t : Topo) (cs : List Value) (ok : Nat → Prop) (h : topoS.rep ok w cs t) (l : List Flow) (ax : Option Addr) (cx : Nat) (ok' : Nat → Prop) (hl : rowRep flowS ok' w ax cx l) (v : Int) (hv : I64 v) :
    Calls Try.prog 7 #[.agg cs.toArray, .slice ax l.length cx, .int .i64 v] w fun e w' => e = .returned (.bool true) ∧ Below w.heap.size w w' := by
  have hT := h
  obtain ⟨la, lc, rfl, hn, hr⟩ := h
  have hfe := eql_fault
  have hll := hl.len_le
  go_enter Try.func7, Try.ntmps7
  go_wp2
  go_loopw [8, 9, 10, 11, 12, 19] (fun _ _ _ _ _ idx wr => ∃ (j : Nat), idx = .int .i64 j ∧ j ≤ l.length ∧ Below w.heap.size w wr ∧ blockIs wr w.heap.size 24 #[.int .i64 t.n, .slice la t.links.length lc]) (fun _ _ _ _ _ idx _ => l.length - (intOf idx).toNat)
  case atStart => exact ⟨0, rfl, Nat.zero_le _, by (repeat' (first | with_reducible exact Below.refl _ _ | with_reducible assumption | with_reducible refine Below.drew ?_ | with_reducible refine Below_drewN ?_ _ | with_reducible refine Below.alloc ?_ ?_ _ | with_reducible refine Below.setCell ?_ ?_ _ | omega | (simp; done) | (simp; omega))), blockIs.new rfl⟩
  case round =>
    obtain ⟨j, rfl, hj, hb, hT5⟩ := hrel
    rename World => wo
    obtain ⟨t1, t2⟩ := hT5.cells
    have s1 := hT5.lt
    have s2 := hb.size
    by_cases hlt : j < l.length
    case neg =>
      have b1 : ¬ (j : Int) < (l.length : Int) := by omega
      go_wp2_with fail
      refine (plan_c t v hv l _ ok ok' ax cx wo (topoS.below hT hb) (hl.below hb)).mono ?_
      rintro e w1 ⟨pcs, rfl, hp1, hb1⟩
      have hB1 : Below w.heap.size w w1 := hb.trans (hb1.mono s2)
      have hT6 := hT5.under hb1
      have s3 := hT6.lt
      generalize hR : planOf t v l = R at *
      have HR := Lib.hid hR
      have hp1' := hp1
      obtain ⟨fa, fc, pa, pc, rfl, hvr, hf1, hq1⟩ := hp1
      clear t1 t2 hT5 hR hb1
      obtain ⟨t1, t2⟩ := hT6.cells
      have hT7 := (hT6.alloc (.cells #[.int .i64 R.1.ver, .slice fa R.1.flows.length fc, .slice pa R.1.paths.length pc] 48)).alloc (.cells #[.int .i64 R.2.1, .int .i64 R.2.2] 40)
      have hP7 : blockIs ((w1.alloc (.cells #[.int .i64 R.1.ver, .slice fa R.1.flows.length fc, .slice pa R.1.paths.length pc] 48)).alloc (.cells #[.int .i64 R.2.1, .int .i64 R.2.2] 40)) w1.heap.size 48 #[.int .i64 R.1.ver, .slice fa R.1.flows.length fc, .slice pa R.1.paths.length pc] := (blockIs.new rfl).alloc _
      have hF7 : blockIs ((w1.alloc (.cells #[.int .i64 R.1.ver, .slice fa R.1.flows.length fc, .slice pa R.1.paths.length pc] 48)).alloc (.cells #[.int .i64 R.2.1, .int .i64 R.2.2] 40)) (w1.heap.size + 1) 40 #[.int .i64 R.2.1, .int .i64 R.2.2] := blockIs.new (by simp)
      have hb17 : Below w1.heap.size w1 ((w1.alloc (.cells #[.int .i64 R.1.ver, .slice fa R.1.flows.length fc, .slice pa R.1.paths.length pc] 48)).alloc (.cells #[.int .i64 R.2.1, .int .i64 R.2.2] 40)) := by (repeat' (first | with_reducible exact Below.refl _ _ | with_reducible assumption | with_reducible refine Below.drew ?_ | with_reducible refine Below_drewN ?_ _ | with_reducible refine Below.alloc ?_ ?_ _ | with_reducible refine Below.setCell ?_ ?_ _ | omega | (simp; done) | (simp; omega)))
      have hB7 : Below w.heap.size w ((w1.alloc (.cells #[.int .i64 R.1.ver, .slice fa R.1.flows.length fc, .slice pa R.1.paths.length pc] 48)).alloc (.cells #[.int .i64 R.2.1, .int .i64 R.2.2] 40)) := hB1.trans (hb17.mono hB1.size)
      have hp7 := planS.below hp1' hb17
      clear hT6
      go_wp2_with fail
      generalize (w1.alloc (.cells #[.int .i64 R.1.ver, .slice fa R.1.flows.length fc, .slice pa R.1.paths.length pc] 48)).alloc (.cells #[.int .i64 R.2.1, .int .i64 R.2.2] 40) = w7 at *
      clear t1 t2 hb17 hp1'
      generalize w1.heap.size = pb at *
      refine (refPlan_c t v hv l _ ok ok' ax cx w7 (topoS.below hT hB7) (hl.below hB7)).mono ?_
      rintro e w8 ⟨pcs, rfl, hp8, hb78⟩
      rw [HR.out] at hp8 ⊢
      have hB8 : Below w.heap.size w w8 := hB7.trans (hb78.mono hB7.size)
      have hp8' := hp8
      obtain ⟨ga, gc, qa, qc, rfl, _, hf8, hq8⟩ := hp8
      have hP8 := hP7.under hb78
      have hF8 := hF7.under hb78
      have hp78 := planS.below hp7 hb78
      obtain ⟨p1, p2⟩ := hP8.cells
      obtain ⟨f1, f2⟩ := hF8.cells
      have s4 := hP8.lt
      have s5 := hF8.lt
      have hb89 : Below w8.heap.size w8 ((w8.alloc (.cells #[.int .i64 R.1.ver, .slice ga R.1.flows.length gc, .slice qa R.1.paths.length qc] 48)).alloc (.cells #[.int .i64 R.2.1, .int .i64 R.2.2] 40)) := by (repeat' (first | with_reducible exact Below.refl _ _ | with_reducible assumption | with_reducible refine Below.drew ?_ | with_reducible refine Below_drewN ?_ _ | with_reducible refine Below.alloc ?_ ?_ _ | with_reducible refine Below.setCell ?_ ?_ _ | omega | (simp; done) | (simp; omega)))
      have hB9 : Below w.heap.size w ((w8.alloc (.cells #[.int .i64 R.1.ver, .slice ga R.1.flows.length gc, .slice qa R.1.paths.length qc] 48)).alloc (.cells #[.int .i64 R.2.1, .int .i64 R.2.2] 40)) := hB8.trans (hb89.mono hB8.size)
      have hs := samePlan_c R.1 _ _ _ _ _ (planS.below hp78 hb89) (planS.below hp8' hb89)
      have HSM := Lib.hid hs
      clear hT7 hP7 hF7 hp7 hb78 hp78 hp8' hf1 hq1 hf8 hq8 hs HR hP8 hF8
      go_wp2_with fail
      refine HSM.out.mono ?_
      rintro e w10 ⟨rfl, hb10⟩
      go_wp2
      go_ret; exact ⟨rfl, hB9.trans (hb10.mono hB9.size)⟩
    obtain ⟨f, hf⟩ : ∃ f, l[j]? = some f := ⟨_, List.getElem?_eq_getElem hlt⟩
    obtain ⟨g, off, rfl, _, hbl, cs, hcs, hce⟩ := hl.get hf
    have hfr := hcs
    obtain ⟨va, vc, na, nc, rfl, hsi, hdi, hvi, hni⟩ := hcs
    have e0 := cell_at hb hbl (hce 0 _ rfl)
    have e1 := cell_at hb hbl (hce 1 _ rfl)
    have e2 := cell_at hb hbl (hce 2 _ rfl)
    have e3 := cell_at hb hbl (hce 3 _ rfl)
    clear hce hvi hni
    simp only [flowS, Nat.add_zero] at e0 e1 e2 e3
    have b1 : (j : Int) < (l.length : Int) := by omega
    have hgl : g < wo.heap.size := by omega
    have hT6 := hT5.alloc (.cells #[.int .i64 f.src, .int .i64 f.dst, .slice va f.via.length vc, .slice na f.no.length nc] 27)
    have hX6 : blockIs (wo.alloc (.cells #[.int .i64 f.src, .int .i64 f.dst, .slice va f.via.length vc, .slice na f.no.length nc] 27)) wo.heap.size 27 #[.int .i64 f.src, .int .i64 f.dst, .slice va f.via.length vc, .slice na f.no.length nc] := blockIs.new rfl
    have hb6 : Below w.heap.size w (wo.alloc (.cells #[.int .i64 f.src, .int .i64 f.dst, .slice va f.via.length vc, .slice na f.no.length nc] 27)) := by (repeat' (first | with_reducible exact Below.refl _ _ | with_reducible assumption | with_reducible refine Below.drew ?_ | with_reducible refine Below_drewN ?_ _ | with_reducible refine Below.alloc ?_ ?_ _ | with_reducible refine Below.setCell ?_ ?_ _ | omega | (simp; done) | (simp; omega)))
    go_wp2_with fail
    generalize wo.alloc (.cells #[.int .i64 f.src, .int .i64 f.dst, .slice va f.via.length vc, .slice na f.no.length nc] 27) = w6 at *
    clear t1 t2 e0 e1 e2 e3 hT5
    refine (find_c t f _ _ ok ok' w6 (topoS.below hT hb6) (flowS.below hfr hb6)).mono ?_
    rintro e w7 ⟨aq, cq, rfl, hq, hb67⟩
    have hb7 : Below w.heap.size w w7 := hb6.trans (hb67.mono hb6.size)
    have hT7 := hT6.under hb67
    have hX7 := hX6.under hb67
    clear hT6 hX6
    obtain ⟨t1, t2⟩ := hT7.cells
    obtain ⟨x1, x2⟩ := hX7.cells
    have u1 := hT7.lt
    have u2 := hX7.lt
    go_wp2_with fail
    refine (refFind_s t f _ _ ok ok' w7 (topoS.below hT hb7) (flowS.below hfr hb7)).mono ?_
    rintro e w8 ⟨ar, cr, rfl, hr8, hb78⟩
    have hb8 : Below w.heap.size w w8 := hb7.trans (hb78.mono hb7.size)
    have hT8 := hT7.under hb78
    have hin := ints_c _ _ _ _ aq ar cq cr w8 (hq.below hb78) hr8
    have HIN := Lib.hid hin
    clear t1 t2 x1 x2 hT7 hX7 hin hq hr8
    generalize findOf t f = fo at *
    go_wp2_with fail
    refine HIN.out.mono ?_
    rintro e w9 ⟨rfl, hb89⟩
    rw [show (fo.1 == fo.1) = true by simp]
    go_wp2
    case roundEnd =>
      go_roundw
      case rel => exact ⟨j + 1, by go_num, by omega, hb8.trans (hb89.mono hb8.size), hT8.under hb89⟩
      case measure => simp [intOf]; omega

end Go.Proofs.Ytflhmpmdpdekeaa
namespace Go.Proofs.Ytflhmpmdpdekeaa
open Go.ChangeShapes Go.WideShapes Go.ChangeAt Go.RowKit Go.St
set_option linter.unusedVariables false

set_option maxRecDepth 100000 in
theorem pathTells_lifted (os : Os) (started : os.Started) (H : Type) (enc : TypeId × Value → H) :
    ReturnsInHanded {} Try.checked os 7 .any (Rows.pathTellsSpec.pre6 enc Try.prog Try.f7 Rows.pathTellsRow.domain false) (Rows.pathTellsSpec.post enc Try.prog Try.f7 false true false false) := by
  refine returnsInHanded_of_change (C := Try.checked) law_own started (by kernel_rfl) Try.func7
    (ChangeSpec.witness6 (enc := enc) (C := Try.checked) false ⟨#[], #[.agg #[.int .i64 0, .slice none 0 0], .slice none 0 0, .int .i64 0], []⟩ 8 (by kernel_rfl) (by kernel_rfl) (by kernel_rfl) (by kernel_rfl)) ?_
  intro W base args ds gs before hval0 hW hcnd _
  have hval : ∀ (j : Nat) t v, Try.f7.params[j]? = some t → args[j]? = some v → Value.okWide Try.prog W .any base t v := hval0
  have hW' := hW
  obtain ⟨p, q, hA0, hV, rfl, hfz, hnd⟩ := hW
  have hA : DataW.TrodAll enc Try.prog W 0 (fun _ => true) true Try.f7.params.toList args.toList ds p := hA0
  rw [Try.params7] at hA hval
  obtain ⟨v0, vs0, d0, ds0, p0, q0, hargs, rfl, rfl, h0, r0⟩ := trodAll_cons hA
  obtain ⟨v1, vs1, d1, ds1, p1, q1, rfl, rfl, rfl, h1, r1⟩ := trodAll_cons r0
  obtain ⟨v2, vs2, d2, ds2, p2, q2, rfl, rfl, rfl, h2, r2⟩ := trodAll_cons r1
  obtain ⟨rfl, rfl, rfl⟩ := trodAll_nil r2
  obtain rfl : args = #[v0, v1, v2] := by cases args; simp_all
  clear hA0 hval0
  obtain ⟨x0, cs0, rfl, i0⟩ := arg_agg o_topo Try.underlying24 (hval 0 _ _ rfl rfl) h0
  obtain ⟨xs1, ao1, cap1, rfl, i1⟩ := arg_row o_flows Try.underlying44 (hval 1 _ _ rfl rfl) h1
  obtain ⟨n2, rfl, i2⟩ := arg_int Try.underlying3 (hval 2 _ _ rfl rfl) h2
  refine (pathTells_c W x0 cs0 _ i0 xs1 ao1 cap1 _ i1 n2 i2).mono fun e W' ⟨he, bel⟩ => ?_
  subst he
  exact ⟨_, rfl, law_post law_laid rfl hW' rfl rfl Try.underlying4 (by rw [Try.params7]; intro t ht; simp at ht; rcases ht with rfl | rfl | rfl <;> exact ⟨by kernel_rfl, of_decide_eq_true (by kernel_rfl)⟩) bel⟩

theorem pathTells_said : Rows.PathTellsSaid :=
  OpenClaim.holds_of_wide 7 Try.f7 rfl rfl rfl rfl rfl rfl rfl ⟨rfl, rfl, rfl, rfl, rfl⟩ rfl rfl rfl rfl rfl (by kernel_rfl) Try.func7 (by kernel_rfl)
    (of_decide_eq_true (by kernel_rfl)) (by unfold Func.isWrapper; first | (rw [if_pos (by decide +kernel)]; kernel_rfl) | (rw [if_neg (by decide +kernel)]; exact ⟨rfl, rfl⟩))
    (fun os started H enc _ => pathTells_lifted os started H enc)

end Go.Proofs.Ytflhmpmdpdekeaa
