/-
  The walk of the document's Plan: its rows are the caller's or new.
-/
import Derived.WalkKit
import Derived.WalkSpells
import Derived.WalkLawsBesides
import Derived.Lib.Hide
import Derived.Deep.LoopGhost
import Derived.Deep.QuietTactic
import Derived.BigQuiet
import Derived.Deep.RegionWith
import Derived.Handy
import Derived.Test.YtagldmdeohenjaaPk35
set_option linter.unusedSimpArgs false
set_option linter.unusedVariables false
namespace Go.Proofs.Ytagldmdeohenjaa
open Go.RowKit Go.St

set_option maxRecDepth 100000 in
set_option maxHeartbeats 16000000 in
theorem refPlan_f (t : Topo) (v : Int) (hv : I64 v) (l : List Flow) (cs : List Value) (ok ok' : Nat → Prop) (ax : Option Addr) (cx : Nat) (w : World) (h : topoS.rep ok w cs t) (hl : rowRep flowS ok' w ax cx l) :
    Calls Try.prog 29 #[.agg cs.toArray, .int .i64 v, .slice ax l.length cx] w fun e w' => ∃ pcs : List Value, e = .returned (.tuple #[.agg pcs.toArray, .agg #[.int .i64 (planOf t v l).2.1, .int .i64 (planOf t v l).2.2]]) ∧ planS.rep (fun b => ok' b ∨ w.heap.size ≤ b) w' pcs (planOf t v l).1 ∧ Below w.heap.size w w' := by
  have hT := h
  obtain ⟨la, lc, rfl, hn, hr⟩ := h
  generalize hFO : planOf t v l = R at *
  have hsp := Lib.hid hFO
  clear hFO
  have hll := hl.len_le
  go_enter Try.func29, Try.ntmps29
  go_wp2_with fail
  refine (refWrong_c t _ ok _ (topoS.below hT (by (repeat' (first | with_reducible exact Below.refl _ _ | with_reducible assumption | with_reducible refine Below.drew ?_ | with_reducible refine Below_drewN ?_ _ | with_reducible refine Below.alloc ?_ ?_ _ | with_reducible refine Below.setCell ?_ ?_ _ | omega | (simp; done) | (simp; omega)))))).mono ?_
  rintro e w1 ⟨rfl, hb1⟩
  have hB1 : Below w.heap.size w w1 := Below.trans (by (repeat' (first | with_reducible exact Below.refl _ _ | with_reducible assumption | with_reducible refine Below.drew ?_ | with_reducible refine Below_drewN ?_ _ | with_reducible refine Below.alloc ?_ ?_ _ | with_reducible refine Below.setCell ?_ ?_ _ | omega | (simp; done) | (simp; omega)))) (hb1.mono (by simp; omega))
  have hT1 : blockIs w1 w.heap.size 24 #[.int .i64 t.n, .slice la t.links.length lc] := (((blockIs.new rfl).alloc _).alloc _).under hb1
  have hP1 : blockIs w1 (w.heap.size + 1) 30 #[.int .i64 0, .slice none 0 0, .slice none 0 0] := ((blockIs.new (by simp)).alloc _).under hb1
  have hF1 : blockIs w1 (w.heap.size + 1 + 1) 66 #[.int .i64 0, .int .i64 0] := (blockIs.new (by simp)).under hb1
  clear hb1
  obtain ⟨t1, t2⟩ := hT1.cells
  obtain ⟨p1, p2⟩ := hP1.cells
  obtain ⟨f1, f2⟩ := hF1.cells
  have hz1 := hF1.lt
  have hz2 : w.heap.size + 1 < w1.heap.size := by omega
  have hz3 : w.heap.size < w1.heap.size := by omega
  by_cases h1 : (topoWrong t).1 = 0
  case neg =>
    have hR : R = (noPlan, topoWrong t) := by rw [← hsp.out]; unfold planOf; rw [if_pos h1]
    have HN := Lib.hid hR
    have h1' : ((topoWrong t).1 != 0) = true := by rw [bne_iff_ne]; exact h1
    clear h1 hR hsp
    generalize topoWrong t = we at *
    go_wp2
    go_region
    obtain ⟨G1, G2⟩ := plan_ret hP1 hF1 (by omega) (.int .i64 0) (.slice none 0 0) (.slice none 0 0) (.int .i64 we.1) (.int .i64 we.2)
    obtain ⟨z1, z2⟩ := ((G1.alloc (.cells #[.int .i64 we.1, .int .i64 we.2] 66)).drew).cells
    obtain ⟨z3, z4⟩ := ((G2.alloc (.cells #[.int .i64 we.1, .int .i64 we.2] 66)).drew).cells
    go_wp2_with ((with_reducible refine bodyPost_ret (v := .tuple #[.agg #[.int .i64 0, .slice none 0 0, .slice none 0 0], .agg #[.int .i64 we.1, .int .i64 we.2]]) ?ra1 ?rb1 ?rc1); go_must (case ra1 => simp [results, Try.results29, go_sem, z1, z3]); go_must (case rb1 => rfl); go_must (case rc1 => obtain rfl := HN.out; exact ⟨_, rfl, noPlan_rep, by (repeat' (first | with_reducible exact Below.refl _ _ | with_reducible assumption | with_reducible refine Below.drew ?_ | with_reducible refine Below_drewN ?_ _ | with_reducible refine Below.alloc ?_ ?_ _ | with_reducible refine Below.setCell ?_ ?_ _ | omega | (simp; done) | (simp; omega)))⟩))
  have hnw : ¬ (topoWrong t).1 ≠ 0 := fun h => h h1
  have hpo : ∀ r, planOf t v l = r → r = (if v < 1 ∨ 1000 < v then (noPlan, (3, 0)) else if (flowsWrong l t.n).1 ≠ 0 then (noPlan, flowsWrong l t.n) else planGo t v l 0 [] l) := fun r hr => by rw [← hr]; unfold planOf; rw [if_neg hnw]
  have HPO := Lib.hid (hpo R hsp.out)
  clear hpo hsp hnw
  rw [h1]
  have htr := (topo_right h1).1
  clear h1
  generalize topoWrong t = we at *
  by_cases c1 : v < 1 ∨ 1000 < v
  · have hR : R = (noPlan, (3, 0)) := by rw [HPO.out, if_pos c1]
    have HN := Lib.hid hR
    clear hR HPO
    by_cases c2 : v < 1
    case' neg => have c3 : 1000 < v := by omega
    all_goals
      clear c1
      obtain ⟨G1, G2⟩ := plan_ret hP1 hF1 (by omega) (.int .i64 0) (.slice none 0 0) (.slice none 0 0) (.int .i64 3) (.int .i64 0)
      obtain ⟨z1, z2⟩ := (G1.alloc (.cells #[.int .i64 0, .int .i64 we.2] 66)).cells
      obtain ⟨z3, z4⟩ := (G2.alloc (.cells #[.int .i64 0, .int .i64 we.2] 66)).cells
      go_wp2_with ((with_reducible refine bodyPost_ret (v := .tuple #[.agg #[.int .i64 0, .slice none 0 0, .slice none 0 0], .agg #[.int .i64 3, .int .i64 0]]) ?ra2 ?rb2 ?rc2); go_must (case ra2 => simp [results, Try.results29, go_sem, z1, z3]); go_must (case rb2 => rfl); go_must (case rc2 => obtain rfl := HN.out; exact ⟨_, rfl, noPlan_rep, by (repeat' (first | with_reducible exact Below.refl _ _ | with_reducible assumption | with_reducible refine Below.drew ?_ | with_reducible refine Below_drewN ?_ _ | with_reducible refine Below.alloc ?_ ?_ _ | with_reducible refine Below.setCell ?_ ?_ _ | omega | (simp; done) | (simp; omega)))⟩))
  have c2 : ¬ v < 1 := by omega
  have c3 : ¬ 1000 < v := by omega
  have hR : R = if (flowsWrong l t.n).1 ≠ 0 then (noPlan, flowsWrong l t.n) else planGo t v l 0 [] l := by rw [HPO.out, if_neg c1]
  have HR := Lib.hid hR
  clear hR HPO c1
  have hT2 := hT1.alloc (.cells #[.int .i64 0, .int .i64 we.2] 66)
  have hP2 := hP1.alloc (.cells #[.int .i64 0, .int .i64 we.2] 66)
  have hF2 := hF1.alloc (.cells #[.int .i64 0, .int .i64 we.2] 66)
  have hB2 : Below w.heap.size w (w1.alloc (.cells #[.int .i64 0, .int .i64 we.2] 66)) := by have := hB1.size; (repeat' (first | with_reducible exact Below.refl _ _ | with_reducible assumption | with_reducible refine Below.drew ?_ | with_reducible refine Below_drewN ?_ _ | with_reducible refine Below.alloc ?_ ?_ _ | with_reducible refine Below.setCell ?_ ?_ _ | omega | (simp; done) | (simp; omega)))
  go_wp2_with fail
  generalize w1.alloc (.cells #[.int .i64 0, .int .i64 we.2] 66) = w2 at *
  clear t1 t2 p1 p2 f1 f2 hT1 hP1 hF1
  refine (refFlowsWrong_c l t.n ok' ax cx _ (hl.below (hB2.trans (by (repeat' (first | with_reducible exact Below.refl _ _ | with_reducible assumption | with_reducible refine Below.drew ?_ | with_reducible refine Below_drewN ?_ _ | with_reducible refine Below.alloc ?_ ?_ _ | with_reducible refine Below.setCell ?_ ?_ _ | omega | (simp; done) | (simp; omega))))))).mono ?_
  rintro e w3 ⟨rfl, hb3⟩
  have hb23 : Below w2.heap.size w2 w3 := Below.trans (by (repeat' (first | with_reducible exact Below.refl _ _ | with_reducible assumption | with_reducible refine Below.drew ?_ | with_reducible refine Below_drewN ?_ _ | with_reducible refine Below.alloc ?_ ?_ _ | with_reducible refine Below.setCell ?_ ?_ _ | omega | (simp; done) | (simp; omega)))) (hb3.mono (by first | omega | (simp; done) | (simp; omega)))
  have hB3 : Below w.heap.size w w3 := hB2.trans (hb23.mono hB2.size)
  have hT3 := hT2.under hb23
  have hP3 := hP2.under hb23
  have hF3 := hF2.under hb23
  clear hb3 hT2 hP2 hF2 hb23
  obtain ⟨t1, t2⟩ := hT3.cells
  obtain ⟨p1, p2⟩ := hP3.cells
  obtain ⟨f1, f2⟩ := hF3.cells
  have hy1 := hF3.lt
  have hy2 : w.heap.size + 1 < w3.heap.size := by omega
  have hy3 : w.heap.size < w3.heap.size := by omega
  by_cases h2 : (flowsWrong l t.n).1 = 0
  case neg =>
    have hR : R = (noPlan, flowsWrong l t.n) := by rw [HR.out, if_pos h2]
    have HN := Lib.hid hR
    have h2' : ((flowsWrong l t.n).1 != 0) = true := by rw [bne_iff_ne]; exact h2
    clear h2 hR HR
    generalize flowsWrong l t.n = fe at *
    go_wp2
    go_region
    obtain ⟨G1, G2⟩ := plan_ret hP3 hF3 (by omega) (.int .i64 0) (.slice none 0 0) (.slice none 0 0) (.int .i64 fe.1) (.int .i64 fe.2)
    obtain ⟨z1, z2⟩ := ((G1.alloc (.cells #[.int .i64 fe.1, .int .i64 fe.2] 66)).drew).cells
    obtain ⟨z3, z4⟩ := ((G2.alloc (.cells #[.int .i64 fe.1, .int .i64 fe.2] 66)).drew).cells
    go_wp2_with ((with_reducible refine bodyPost_ret (v := .tuple #[.agg #[.int .i64 0, .slice none 0 0, .slice none 0 0], .agg #[.int .i64 fe.1, .int .i64 fe.2]]) ?ra3 ?rb3 ?rc3); go_must (case ra3 => simp [results, Try.results29, go_sem, z1, z3]); go_must (case rb3 => rfl); go_must (case rc3 => obtain rfl := HN.out; exact ⟨_, rfl, noPlan_rep, by (repeat' (first | with_reducible exact Below.refl _ _ | with_reducible assumption | with_reducible refine Below.drew ?_ | with_reducible refine Below_drewN ?_ _ | with_reducible refine Below.alloc ?_ ?_ _ | with_reducible refine Below.setCell ?_ ?_ _ | omega | (simp; done) | (simp; omega)))⟩))
  have hR : R = planGo t v l ((0 : Nat) : Int) [] (l.drop 0) := by rw [HR.out, if_neg (by simp [h2])]; rfl
  have hl12 : l.length ≤ 12 := by
    apply Classical.byContradiction
    intro hc
    have : flowsWrong l t.n = (5, 0) := by unfold flowsWrong; rw [if_pos (by omega)]
    rw [this] at h2
    exact absurd h2 (by decide)
  have hst := Lib.hid hR
  rw [h2]
  clear h2 hR HR
  generalize flowsWrong l t.n = fe at *
  obtain ⟨i0, hi, hz0, hz1', hzz2⟩ := info_parts path_info
  have W4 : blockIs ((w3.alloc (.cells #[.int .i64 0, .int .i64 fe.2] 66)).alloc (.cells #[.int .i64 v, .slice ax l.length cx, .slice none 0 0] 30)) (w3.heap.size + 1) 30 #[.int .i64 v, .slice ax l.length cx, .slice none 0 0] := blockIs.new (by simp)
  have hT4 := (hT3.alloc (.cells #[.int .i64 0, .int .i64 fe.2] 66)).alloc (.cells #[.int .i64 v, .slice ax l.length cx, .slice none 0 0] 30)
  have hP4 := (hP3.alloc (.cells #[.int .i64 0, .int .i64 fe.2] 66)).alloc (.cells #[.int .i64 v, .slice ax l.length cx, .slice none 0 0] 30)
  have hF4 := (hF3.alloc (.cells #[.int .i64 0, .int .i64 fe.2] 66)).alloc (.cells #[.int .i64 v, .slice ax l.length cx, .slice none 0 0] 30)
  have hB4 : Below w.heap.size w ((w3.alloc (.cells #[.int .i64 0, .int .i64 fe.2] 66)).alloc (.cells #[.int .i64 v, .slice ax l.length cx, .slice none 0 0] 30)) := by have := hB3.size; (repeat' (first | with_reducible exact Below.refl _ _ | with_reducible assumption | with_reducible refine Below.drew ?_ | with_reducible refine Below_drewN ?_ _ | with_reducible refine Below.alloc ?_ ?_ _ | with_reducible refine Below.setCell ?_ ?_ _ | omega | (simp; done) | (simp; omega)))
  go_wp2
  generalize (w3.alloc (.cells #[.int .i64 0, .int .i64 fe.2] 66)).alloc (.cells #[.int .i64 v, .slice ax l.length cx, .slice none 0 0] 30) = w4 at *
  clear t1 t2 p1 p2 f1 f2 hT3 hP3 hF3
  have hob : w.heap.size + 1 + 1 < w3.heap.size + 1 := by omega
  generalize w3.heap.size + 1 = ob at *
  go_loopw [11, 12, 13, 14, 44] (fun _ _ _ _ idx wr => ∃ (j : Nat) (ps : List (List Int)) (ao : Option Addr) (cap : Nat), idx = .int .i64 j ∧ j ≤ l.length ∧ Hid (R = planGo t v l j ps (l.drop j)) ∧ ps.length = j ∧ blockIs wr ob 30 #[.int .i64 v, .slice ax l.length cx, .slice ao ps.length cap] ∧ ownR (sliceS intS) 92 (oth (ob + 1) wr ao) (ob + 1) wr ao ps.length cap ps ∧ Below w.heap.size w wr ∧ blockIs wr w.heap.size 24 #[.int .i64 t.n, .slice la t.links.length lc] ∧ blockIs wr (w.heap.size + 1) 30 #[.int .i64 0, .slice none 0 0, .slice none 0 0] ∧ blockIs wr (w.heap.size + 1 + 1) 66 #[.int .i64 0, .int .i64 0]) (fun _ _ _ _ idx _ => l.length - (intOf idx).toNat)
  case atStart => exact ⟨0, [], none, 0, rfl, Nat.zero_le _, hst, rfl, W4, oth.nil _ _ _ _ _, hB4, hT4, hP4, hF4⟩
  case round =>
    clear hst W4 hB4 hT4 hP4 hF4
    obtain ⟨j, ps, ao, cap, rfl, hj, hall, hpl, hO, hown, hb, hT5, hP5, hF5⟩ := hrel
    rename World => wo
    have hpl1 : ps.length ≤ j := by omega
    have hpl2 : j ≤ ps.length := by omega
    clear hpl
    have s0 := hO.lt
    have s1 := hF5.lt
    have s2 := hb.size
    have s3 : w.heap.size + 1 < wo.heap.size := by omega
    have s4 : w.heap.size < wo.heap.size := by omega
    have s5 : ob ≠ w.heap.size + 1 + 1 := by omega
    have s6 : ob ≠ w.heap.size + 1 := by omega
    obtain ⟨t1, t2⟩ := hT5.cells
    obtain ⟨p1, p2⟩ := hP5.cells
    obtain ⟨f1, f2⟩ := hF5.cells
    by_cases hlt : j < l.length
    case neg =>
      have HE := Lib.hid (plan_end hall.out (by omega))
      have b1 : ¬ (j : Int) < (l.length : Int) := by omega
      obtain ⟨o1, o2⟩ := hO.cells
      clear hall
      obtain ⟨G1, G2⟩ := plan_ret hP5 hF5 (by omega) (.int .i64 v) (.slice ax l.length cx) (.slice ao ps.length cap) (.int .i64 0) (.int .i64 0)
      obtain ⟨z1, z2⟩ := G1.cells
      obtain ⟨z3, z4⟩ := G2.cells
      have hbf : Below w.heap.size w (((((wo.setCell ⟨w.heap.size + 1, 0, none⟩ (.int .i64 v)).setCell ⟨w.heap.size + 1, 1, none⟩ (.slice ax l.length cx)).setCell ⟨w.heap.size + 1, 2, none⟩ (.slice ao ps.length cap)).setCell ⟨w.heap.size + 1 + 1, 0, none⟩ (.int .i64 0)).setCell ⟨w.heap.size + 1 + 1, 1, none⟩ (.int .i64 0)) := by (repeat' (first | with_reducible exact Below.refl _ _ | with_reducible assumption | with_reducible refine Below.drew ?_ | with_reducible refine Below_drewN ?_ _ | with_reducible refine Below.alloc ?_ ?_ _ | with_reducible refine Below.setCell ?_ ?_ _ | omega | (simp; done) | (simp; omega)))
      have hof := oth.plan hown (pb := w.heap.size + 1) (fb := w.heap.size + 1 + 1) (by omega) (by omega) (by omega) (by omega) (.int .i64 v) (.slice ax l.length cx) (.slice ao ps.length cap) (.int .i64 0) (.int .i64 0)
      go_wp2_with ((with_reducible refine bodyPost_ret (v := .tuple #[.agg #[.int .i64 v, .slice ax l.length cx, .slice ao ps.length cap], .agg #[.int .i64 0, .int .i64 0]]) ?ra4 ?rb4 ?rc4); go_must (case ra4 => simp [results, Try.results29, go_sem, z1, z3]); go_must (case rb4 => rfl); go_must (case rc4 => obtain rfl := HE.out; exact ⟨_, rfl, show planS.rep _ _ _ (⟨v, l, ps⟩ : Plan) from ⟨ax, cx, ao, cap, rfl, hv, (hl.below hbf).mono (fun b _ hb => ⟨.inl hb, rfl⟩), hof.row (fun b hb => .inr (by have := hb.1; omega)) (fun k hk => .inr (by have := (hof.lt k hk).1; omega))⟩, hbf⟩))
    obtain ⟨f, hf⟩ : ∃ f, l[j]? = some f := ⟨_, List.getElem?_eq_getElem hlt⟩
    have HG := Lib.hid (fun h0 => plan_go hall.out hf h0)
    have HH := Lib.hid (fun h0 => plan_hit hall.out hf h0)
    obtain ⟨g, off, rfl, _, hbl, cs, hcs, hce⟩ := hl.get hf
    have hfr := hcs
    obtain ⟨va, vc, na, nc, rfl, hsi, hdi, hvi, hni⟩ := hcs
    have e0 := cell_at hb hbl (hce 0 _ rfl)
    have e1 := cell_at hb hbl (hce 1 _ rfl)
    have e2 := cell_at hb hbl (hce 2 _ rfl)
    have e3 := cell_at hb hbl (hce 3 _ rfl)
    clear hce hall hvi hni
    simp only [flowS, Nat.add_zero] at e0 e1 e2 e3
    have b1 : (j : Int) < (l.length : Int) := by omega
    have hgl : g < wo.heap.size := by omega
    have hT6 := hT5.alloc (.cells #[.int .i64 f.src, .int .i64 f.dst, .slice va f.via.length vc, .slice na f.no.length nc] 64)
    have hP6 := hP5.alloc (.cells #[.int .i64 f.src, .int .i64 f.dst, .slice va f.via.length vc, .slice na f.no.length nc] 64)
    have hF6 := hF5.alloc (.cells #[.int .i64 f.src, .int .i64 f.dst, .slice va f.via.length vc, .slice na f.no.length nc] 64)
    have hO6 := hO.alloc (.cells #[.int .i64 f.src, .int .i64 f.dst, .slice va f.via.length vc, .slice na f.no.length nc] 64)
    have hb6 : Below w.heap.size w (wo.alloc (.cells #[.int .i64 f.src, .int .i64 f.dst, .slice va f.via.length vc, .slice na f.no.length nc] 64)) := by (repeat' (first | with_reducible exact Below.refl _ _ | with_reducible assumption | with_reducible refine Below.drew ?_ | with_reducible refine Below_drewN ?_ _ | with_reducible refine Below.alloc ?_ ?_ _ | with_reducible refine Below.setCell ?_ ?_ _ | omega | (simp; done) | (simp; omega)))
    have hob6 : Below wo.heap.size wo (wo.alloc (.cells #[.int .i64 f.src, .int .i64 f.dst, .slice va f.via.length vc, .slice na f.no.length nc] 64)) := by (repeat' (first | with_reducible exact Below.refl _ _ | with_reducible assumption | with_reducible refine Below.drew ?_ | with_reducible refine Below_drewN ?_ _ | with_reducible refine Below.alloc ?_ ?_ _ | with_reducible refine Below.setCell ?_ ?_ _ | omega | (simp; done) | (simp; omega)))
    have hown6 := oth.below hown hob6
    have hlo : ∀ k, blk ao = some k → k < (wo.alloc (.cells #[.int .i64 f.src, .int .i64 f.dst, .slice va f.via.length vc, .slice na f.no.length nc] 64)).heap.size := fun k hk => (hown6.lt k hk).2
    go_wp2_with fail
    generalize wo.alloc (.cells #[.int .i64 f.src, .int .i64 f.dst, .slice va f.via.length vc, .slice na f.no.length nc] 64) = w6 at *
    clear t1 t2 p1 p2 f1 f2 e0 e1 e2 e3 hT5 hP5 hF5 hO hown hb
    refine (refFind_s t f _ _ ok ok' w6 (topoS.below hT hb6) (flowS.below hfr hb6)).mono ?_
    rintro e w7 ⟨aq, cq, rfl, hq, hb67⟩
    have hb7 : Below w.heap.size w w7 := hb6.trans (hb67.mono hb6.size)
    have hT7 := hT6.under hb67
    have hP7 := hP6.under hb67
    have hF7 := hF6.under hb67
    have hO7 := hO6.under hb67
    have hown7 := oth.below hown6 hb67
    have u0 := hO6.lt
    have u1 := hO7.lt
    have u2 := hb7.size
    have u3 := hb67.size
    clear hT6 hP6 hF6 hO6 hown6 hob6
    obtain ⟨p1, p2⟩ := hP7.cells
    obtain ⟨f1, f2⟩ := hF7.cells
    obtain ⟨o1, o2⟩ := hO7.cells
    by_cases h0 : (findOf t f).2 = 0
    case neg =>
      have HN := Lib.hid (HH.out h0)
      have h0' : ((findOf t f).2 != 0) = true := by rw [bne_iff_ne]; exact h0
      clear h0 HH HG hq o1 o2
      generalize findOf t f = fo at *
      obtain ⟨G1, G2⟩ := plan_ret hP7 hF7 (by omega) (.int .i64 0) (.slice none 0 0) (.slice none 0 0) (.int .i64 fo.2) (.int .i64 j)
      obtain ⟨z1, z2⟩ := G1.cells
      obtain ⟨z3, z4⟩ := G2.cells
      go_wp2_with ((with_reducible refine bodyPost_ret (v := .tuple #[.agg #[.int .i64 0, .slice none 0 0, .slice none 0 0], .agg #[.int .i64 fo.2, .int .i64 j]]) ?ra5 ?rb5 ?rc5); go_must (case ra5 => simp [results, Try.results29, go_sem, z1, z3]); go_must (case rb5 => rfl); go_must (case rc5 => obtain rfl := HN.out; exact ⟨_, rfl, noPlan_rep, by (repeat' (first | with_reducible exact Below.refl _ _ | with_reducible assumption | with_reducible refine Below.drew ?_ | with_reducible refine Below_drewN ?_ _ | with_reducible refine Below.alloc ?_ ?_ _ | with_reducible refine Below.setCell ?_ ?_ _ | omega | (simp; done) | (simp; omega)))⟩))
    have HN := Lib.hid (HG.out h0)
    rw [h0]
    clear h0 HH HG p1 p2 f1 f2
    generalize (findOf t f).1 = q at *
    have hpl8 : ps.length ≤ 12 := by omega
    have hL8 : blockIs (w7.alloc (.cells #[.slice aq q.length cq] 92)) w7.heap.size 92 #[.slice aq q.length cq] := blockIs.new rfl
    have hb78 : Below w7.heap.size w7 (w7.alloc (.cells #[.slice aq q.length cq] 92)) := by (repeat' (first | with_reducible exact Below.refl _ _ | with_reducible assumption | with_reducible refine Below.drew ?_ | with_reducible refine Below_drewN ?_ _ | with_reducible refine Below.alloc ?_ ?_ _ | with_reducible refine Below.setCell ?_ ?_ _ | omega | (simp; done) | (simp; omega)))
    have hown8 := oth.below hown7 hb78
    have hsrc : srcRep (sliceS intS) (oth (ob + 1) (w7.alloc (.cells #[.slice aq q.length cq] 92)) ao) (w7.alloc (.cells #[.slice aq q.length cq] 92)) (some ⟨w7.heap.size, 0, none⟩) [q] := row_one_src hL8 ((hq.below hb78).mono (fun b hbb hk => ⟨⟨by have hk' : w6.heap.size ≤ b := hk; omega, hbb, fun e => by have hk' : w6.heap.size ≤ b := hk; have := hlo b e; omega⟩, rfl⟩))
    have hO8 := hO7.alloc (.cells #[.slice aq q.length cq] 92)
    have hT8 := hT7.alloc (.cells #[.slice aq q.length cq] 92)
    have hP8 := hP7.alloc (.cells #[.slice aq q.length cq] 92)
    have hF8 := hF7.alloc (.cells #[.slice aq q.length cq] 92)
    have hb8 : Below w.heap.size w (w7.alloc (.cells #[.slice aq q.length cq] 92)) := hb7.trans (hb78.mono hb7.size)
    have v0 : w7.heap.size < (w7.alloc (.cells #[.slice aq q.length cq] 92)).heap.size := by simp
    go_wp2_with (at_builtin; go_must (refine wpList_appR (sh := sliceS intS) (base := ob + 1) rfl _ _ 28 rfl 92 i0 (.slice none 0 0) 24 Try.underlying28 hi hz0 hz1' hzz2 rfl (by decide) rfl hown8 rfl rfl hsrc (by simp only [maxLen]; omega) (by omega) (by first | omega | (simp; omega)) ?_); go_must (intro ao9 cap9 w9 hown9 hg9 hd9; have hO9 := hO8.grown hg9 (fun e => by have := (hown8.lt _ e.symm).1; omega); obtain ⟨x1, x2⟩ := hO9.cells; have hx3 := hO9.lt))
    case roundEnd =>
      have k0 : ∀ b, b ≤ ob → some b ≠ blk ao := fun b hbb e => by have := (hown8.lt _ e.symm).1; omega
      have hb9 : Below w.heap.size w w9 := hb8.trans (grown_below (B := w.heap.size) hg9 (fun k hk => by have := (hown8.lt k hk).1; omega) hb8.size)
      have hownF := oth.setOther (o := 2) (v := .slice ao9 (ps.length + 1) cap9) (oth.grown hown9 hg9.size hd9) (show ob < ob + 1 by omega) (by omega)
      have y1 := hb9.size
      go_roundw
      case rel =>
        refine ⟨j + 1, ps ++ [q], ao9, cap9, by go_num, by omega, HN, by simp; omega, ?_, by rw [List.length_append]; exact hownF, by (repeat' (first | with_reducible exact Below.refl _ _ | with_reducible assumption | with_reducible refine Below.drew ?_ | with_reducible refine Below_drewN ?_ _ | with_reducible refine Below.alloc ?_ ?_ _ | with_reducible refine Below.setCell ?_ ?_ _ | omega | (simp; done) | (simp; omega))), ?_, ?_, ?_⟩
        · have := hO9.set 2 (.slice ao9 (ps.length + 1) cap9); rw [List.length_append]; exact this
        · exact (hT8.grown hg9 (k0 _ (by omega))).setOther (by simp; omega) _
        · exact (hP8.grown hg9 (k0 _ (by omega))).setOther (by simp; omega) _
        · exact (hF8.grown hg9 (k0 _ (by omega))).setOther (by simp; omega) _
      case measure => simp [intOf] <;> omega

end Go.Proofs.Ytagldmdeohenjaa
