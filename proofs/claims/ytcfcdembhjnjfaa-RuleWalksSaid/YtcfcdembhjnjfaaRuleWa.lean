/-
  The walk of RuleWalks.
-/
import Derived.Test.YtcfcdembhjnjfaaRuleAd
import Derived.Test.YtcfcdembhjnjfaaRuleWS
import Derived.Test.YtcfcdembhjnjfaaDropW
import Derived.Test.YtcfcdembhjnjfaaPlanW
import Derived.WalkKit
import Derived.WalkSpells
import Derived.WalkLawsBesides
import Derived.Lib.Hide
import Derived.Deep.LoopGhost
import Derived.Deep.QuietTactic
import Derived.BigQuiet
import Derived.Deep.RegionWith
import Derived.Handy
set_option linter.unusedSimpArgs false
set_option linter.unusedVariables false
namespace Go.Proofs.Ytcfcdembhjnjfaa
open Go.RowKit Go.St

set_option maxRecDepth 100000 in
set_option maxHeartbeats 16000000 in
theorem ruleWalks_c (w : World) (t : Topo) (cs : List Value) (ok : Nat → Prop) (h : topoS.rep ok w cs t) (l : List Flow) (ax : Option Addr) (cx : Nat) (ok' : Nat → Prop) (hl : rowRep flowS ok' w ax cx l) (v : Int) (hv : I64 v)
    (os : List (List Rule)) (oa : Option Addr) (oc : Nat) (ok'' : Nat → Prop) (ho : rowRep (sliceS ruleS) ok'' w oa oc os) :
    Calls Try.prog 7 #[.agg cs.toArray, .slice ax l.length cx, .int .i64 v, .slice oa os.length oc] w fun e w' => e = .returned (.bool true) ∧ Below w.heap.size w w' := by
  have hfe := fault_errR
  have hT := h
  obtain ⟨la, lc, rfl, hn, hr⟩ := h
  have holx := ho.len_le
  have hlx := hl.len_le
  go_enter Try.func7, Try.ntmps7
  go_wp2_with fail
  have hk0 := (blockIs.new (w := w) (t := 47) (cs := #[.int .i64 t.n, .slice la t.links.length lc]) rfl)
  have hb0 : Below w.heap.size w (w.alloc (.cells #[.int .i64 t.n, .slice la t.links.length lc] 47)) := by (repeat' (first | with_reducible exact Below.refl _ _ | with_reducible assumption | with_reducible refine Below.drew ?_ | with_reducible refine Below_drewN ?_ _ | with_reducible refine Below.alloc ?_ ?_ _ | with_reducible refine Below.setCell ?_ ?_ _ | omega | (simp; done) | (simp; omega)))
  refine (alive4_c _).mono ?_
  rintro e w1 ⟨rfl, hb1⟩
  have hk1 := hk0.under hb1
  have hB1 : Below w.heap.size w w1 := hb0.trans (hb1.mono hb0.size)
  obtain ⟨t1, t2⟩ := hk1.cells
  clear hb1 hk0 hb0
  go_wp2_with fail
  refine (plan_c t v hv l _ ok ok' ax cx w1 (topoS.below hT hB1) (hl.below hB1)).mono ?_
  rintro e w2 ⟨pcs, rfl, hp, hb2⟩
  have hk2 := hk1.under hb2
  have hB2 : Below w.heap.size w w2 := hB1.trans (hb2.mono hB1.size)
  have hz2 := hB2.size
  have hk2l := hk2.lt
  clear hb2 t1 t2 hk1 hB1
  have HOK : Hid ((planOf t v l).2.1 = 0 → PlanOk t v l (planOf t v l).1) := plan_ok
  generalize planOf t v l = P at *
  obtain ⟨p, f1, f2⟩ := P
  dsimp only at *
  have hP := hp
  obtain ⟨fa, fc, pa, pc, rfl, hpv, hpf, hpp⟩ := hp
  by_cases hf : f1 = 0
  case neg =>
    have hf' : (f1 != 0) = true := by rw [bne_iff_ne]; exact hf
    clear hf
    go_wp2
    go_ret; exact ⟨rfl, by (repeat' (first | with_reducible exact Below.refl _ _ | with_reducible assumption | with_reducible refine Below.drew ?_ | with_reducible refine Below_drewN ?_ _ | with_reducible refine Below.alloc ?_ ?_ _ | with_reducible refine Below.setCell ?_ ?_ _ | omega | (simp; done) | (simp; omega)))⟩
  subst hf
  have HO := Lib.hid (HOK.out rfl)
  have n1 := HO.out.n1
  have n8 := HO.out.n8
  obtain ⟨N, hN⟩ : ∃ N : Nat, t.n = (N : Int) := ⟨t.n.toNat, by omega⟩
  have hN8 : N ≤ 8 := by omega
  clear HOK
  rw [hN] at hk2
  obtain ⟨t1, t2⟩ := hk2.cells
  have hpl12 : p.paths.length ≤ 12 := by have := HO.out.plen; have := HO.out.len; omega
  have hll : p.paths.length ≤ l.length := by have := HO.out.plen; omega
  go_wp2_with fail
  have hb3 : Below w2.heap.size w2 ((w2.alloc (.cells #[.int .i64 p.ver, .slice fa p.flows.length fc, .slice pa p.paths.length pc] 38)).alloc (.cells #[.int .i64 0, .int .i64 f2] 32)) := by (repeat' (first | with_reducible exact Below.refl _ _ | with_reducible assumption | with_reducible refine Below.drew ?_ | with_reducible refine Below_drewN ?_ _ | with_reducible refine Below.alloc ?_ ?_ _ | with_reducible refine Below.setCell ?_ ?_ _ | omega | (simp; done) | (simp; omega)))
  have hkp : blockIs ((w2.alloc (.cells #[.int .i64 p.ver, .slice fa p.flows.length fc, .slice pa p.paths.length pc] 38)).alloc (.cells #[.int .i64 0, .int .i64 f2] 32)) w2.heap.size 38 #[.int .i64 p.ver, .slice fa p.flows.length fc, .slice pa p.paths.length pc] := (blockIs.new rfl).alloc _
  refine (of_c p N _ _ _ (planS.below hP hb3) (by omega) (fun s => Nat.le_trans (HO.out.short s) (by decide)) (by omega)).mono ?_
  rintro e w3 ⟨ob, tf, rfl, hob, hTb, hb4⟩
  have hob2 : w2.heap.size + 2 ≤ ob := by simpa using hob
  have hkp3 := hkp.under hb4
  have hb5 : Below w2.heap.size w2 w3 := hb3.trans (hb4.mono hb3.size)
  have hB3 : Below w.heap.size w w3 := hB2.trans (hb5.mono hz2)
  have hpp3 := hpp.below hb5
  have hz3 := hB3.size
  have hTr := hTb.tbr
  have hLD : Hid (∀ s : Nat, s < N → Leads p (rulesAt p s) s) := fun s _ => Leads.own HO.out s
  have hTD : Hid (∀ s : Nat, 0 ≤ s → s < N → rulesAt p s = rulesAt p s) := fun s _ _ => rfl
  clear hb3 hkp hb4 t1 t2 hk2 hk2l hP hpf hTb hob
  have hbr : Below ob w3 w3 := Below.refl _ _
  go_wp2
  go_loopw [12, 13, 14, 40] (fun _ _ _ idx wr => ∃ (j : Nat) (f : Nat → Option Addr × Nat) (tabs : Nat → List Rule), idx = .int .i64 j ∧ j ≤ N ∧ Tbr wr ob 22 N f tabs ∧ Hid (∀ s : Nat, s < N → Leads p (tabs s) s) ∧ Hid (∀ s : Nat, j ≤ s → s < N → tabs s = rulesAt p s) ∧ Below ob w3 wr) (fun _ _ _ idx _ => N - (intOf idx).toNat)
  case atStart => exact ⟨0, tf, _, rfl, Nat.zero_le _, hTr, hLD, fun _ _ _ => rfl, hbr⟩
  case round =>
    clear hTr hLD hTD hbr
    obtain ⟨j, f, tabs, rfl, hj, hTr, hLD, hTD, hb⟩ := hrel
    rename World => wo
    have hbo : Below w.heap.size w wo := hB3.trans (hb.mono (by omega))
    have hobl := hTr.blk.lt
    have hzo := hbo.size
    by_cases hlt : j < N
    · have b1 : (j : Int) < (N : Int) := by omega
      by_cases hjo : j < os.length
      case neg =>
        have b2 : ¬ (j : Int) < (os.length : Int) := by omega
        have hTD2 : Hid (∀ s : Nat, j + 1 ≤ s → s < N → tabs s = rulesAt p s) := fun s h1 h2 => hTD.out s (by omega) h2
        clear hTD
        go_wp2
        case roundEnd =>
          go_roundw
          case rel => exact ⟨j + 1, f, tabs, by go_num, by omega, hTr, hLD, hTD2, hb⟩
          case measure => simp [intOf] <;> omega
      have b2 : (j : Int) < (os.length : Int) := by omega
      have b0 : (0 : Int) ≤ (j : Int) := by omega
      obtain ⟨o, hoj⟩ : ∃ o, os[j]? = some o := ⟨_, List.getElem?_eq_getElem hjo⟩
      obtain ⟨gb, go, oao, ocap, rfl, hgl, hor, hce⟩ := sliceRow_get ho hoj
      have e0 := hce _ hbo
      have hWc := tabWrong_c o _ oao ocap wo (hor.below hbo)
      have HTK : Hid ((tabWrong o).1 = 0 → TabOk o) := fun h => tab_ok.1 h
      generalize htw : tabWrong o = tw at *
      obtain ⟨tw1, tw2⟩ := tw
      dsimp only at *
      have HWc := Lib.hid hWc
      clear hWc htw hoj
      by_cases h1 : tw1 = 0
      case neg =>
        have h1' : (tw1 == 0) = false := by rw [beq_eq_false_iff_ne]; exact h1
        have hTD2 : Hid (∀ s : Nat, j + 1 ≤ s → s < N → tabs s = rulesAt p s) := fun s h1 h2 => hTD.out s (by omega) h2
        clear h1 hTD HTK
        go_wp2_with fail
        refine HWc.out.mono ?_
        rintro e w6 ⟨rfl, hb6⟩
        have hTr6 := hTr.under hb6
        have hb7 : Below ob w3 w6 := hb.trans (hb6.mono (by omega))
        clear HWc
        go_wp2
        case roundEnd =>
          go_roundw
          case rel => exact ⟨j + 1, f, tabs, by go_num, by omega, hTr6, hLD, hTD2, hb7⟩
          case measure => simp [intOf] <;> omega
      subst h1
      have hol := (HTK.out (by first | trivial | rfl)).len
      clear HTK
      go_wp2_with fail
      refine HWc.out.mono ?_
      rintro e w6 ⟨rfl, hb6⟩
      have hTr6 := hTr.under hb6
      have hb7 : Below ob w3 w6 := hb.trans (hb6.mono (by omega))
      have hbo6 : Below w.heap.size w w6 := hbo.trans (hb6.mono hzo)
      have e6 := hce _ hbo6
      have c6 := hTr6.cell hlt
      have r6 := hTr6.row j hlt
      have hor6 := hor.below hbo6
      have hz6 := hbo6.size
      have hob6 := hTr6.blk.lt
      have hTl : (tabs j).length ≤ 96 := by rw [hTD.out j (Nat.le_refl _) hlt]; exact HO.out.short _
      clear HWc hb6 hTr hb hbo hobl hzo e0 hce
      have hS0 : SW gb (go + j) ob j (.slice oao o.length ocap) (.slice (f j).1 (tabs j).length (f j).2) w6.drew := ⟨e6, c6⟩
      go_wp2
      refine wp_region_to (SW gb (go + j) ob j (.slice oao o.length ocap) (.slice (f j).1 (tabs j).length (f j).2)) 99 (fun a0 a' w' => ∃ v13 v56 v57 v58 v59 v60 v61 v62 v63 v64 v65 v66 v67 v68 v69, a' = puts a0 [(13, v13), (56, v56), (57, v57), (58, v58), (59, v59), (60, v60), (61, v61), (62, v62), (63, v63), (64, v64), (65, v65), (66, v66), (67, v67), (68, v68), (69, v69), (14, .int .i64 (addOf (dropOf o v) (tabs j)).2)] ∧ ∃ ao cap, v13 = .slice ao (addOf (dropOf o v) (tabs j)).1.length cap ∧ rowRep ruleS (fun b => ob + 1 ≤ b) w' ao cap (addOf (dropOf o v) (tabs j)).1 ∧ Below w6.heap.size w6 w') (by kernel_rfl) ?_ ?_
      · intro Q' hR hQp
        have hb0 : Below w6.heap.size w6 w6.drew := by (repeat' (first | with_reducible exact Below.refl _ _ | with_reducible assumption | with_reducible refine Below.drew ?_ | with_reducible refine Below_drewN ?_ _ | with_reducible refine Below.alloc ?_ ?_ _ | with_reducible refine Below.setCell ?_ ?_ _ | omega | (simp; done) | (simp; omega)))
        have hS : SW gb (go + j) ob j (.slice oao o.length ocap) (.slice (f j).1 (tabs j).length (f j).2) w6.drew := hS0
        generalize w6.drew = wa at *
        refine wpAnyK_take' (i := 0) _ rfl (by kernel_rfl) (fun _ _ _ h => hQp _ _ _ _ h) hS (yields_value (by kernel_rfl) (by intro w0 hw0; have hw1 := hw0; simp only [SW] at hw1; first | (go_simp; done) | (go_simp; rfl))) ?_; simp only [Act.put, List.getElem_toArray, List.getElem_cons_succ, List.getElem_cons_zero, List.setIfInBounds_toArray, List.set_cons_succ, List.set_cons_zero]
        refine wpAnyK_take' (i := 1) _ rfl (by kernel_rfl) (fun _ _ _ h => hQp _ _ _ _ h) hS (yields_value (by kernel_rfl) (by intro w0 hw0; have hw1 := hw0; simp only [SW] at hw1; first | (go_simp; done) | (go_simp; rfl))) ?_; simp only [Act.put, List.getElem_toArray, List.getElem_cons_succ, List.getElem_cons_zero, List.setIfInBounds_toArray, List.set_cons_succ, List.set_cons_zero]
        refine wpAnyK_take' (i := 2) _ rfl (by kernel_rfl) (fun _ _ _ h => hQp _ _ _ _ h) hS (yields_value (by kernel_rfl) (by intro w0 hw0; have hw1 := hw0; simp only [SW] at hw1; first | (go_simp; done) | (go_simp; rfl))) ?_; simp only [Act.put, List.getElem_toArray, List.getElem_cons_succ, List.getElem_cons_zero, List.setIfInBounds_toArray, List.set_cons_succ, List.set_cons_zero]
        refine wpAnyK_take' (i := 3) _ rfl (by kernel_rfl) (fun _ _ _ h => hQp _ _ _ _ h) hS (yields_value (by kernel_rfl) (by intro w0 hw0; have hw1 := hw0; simp only [SW] at hw1; first | (go_simp; done) | (go_simp; rfl))) ?_; simp only [Act.put, List.getElem_toArray, List.getElem_cons_succ, List.getElem_cons_zero, List.setIfInBounds_toArray, List.set_cons_succ, List.set_cons_zero]
        refine wpAnyK_take' (i := 4) _ rfl (by kernel_rfl) (fun _ _ _ h => hQp _ _ _ _ h) hS (yields_value (by kernel_rfl) (by intro w0 hw0; have hw1 := hw0; simp only [SW] at hw1; first | (go_simp; done) | (go_simp; rfl))) ?_; simp only [Act.put, List.getElem_toArray, List.getElem_cons_succ, List.getElem_cons_zero, List.setIfInBounds_toArray, List.set_cons_succ, List.set_cons_zero]
        refine wpAnyK_take' (i := 6) _ rfl (by kernel_rfl) (fun _ _ _ h => hQp _ _ _ _ h) hS (yields_value (by kernel_rfl) (by intro w0 hw0; have hw1 := hw0; simp only [SW] at hw1; first | (go_simp; done) | (go_simp; rfl))) ?_; simp only [Act.put, List.getElem_toArray, List.getElem_cons_succ, List.getElem_cons_zero, List.setIfInBounds_toArray, List.set_cons_succ, List.set_cons_zero]
        refine wpAnyK_take' (i := 7) _ rfl (by kernel_rfl) (fun _ _ _ h => hQp _ _ _ _ h) hS (yields_value (by kernel_rfl) (by intro w0 hw0; have hw1 := hw0; simp only [SW] at hw1; first | (go_simp; done) | (go_simp; rfl))) ?_; simp only [Act.put, List.getElem_toArray, List.getElem_cons_succ, List.getElem_cons_zero, List.setIfInBounds_toArray, List.set_cons_succ, List.set_cons_zero]
        refine wpAnyK_take' (i := 8) _ rfl (by kernel_rfl) (fun _ _ _ h => hQp _ _ _ _ h) hS (yields_value (by kernel_rfl) (by intro w0 hw0; have hw1 := hw0; simp only [SW] at hw1; first | (go_simp; done) | (go_simp; rfl))) ?_; simp only [Act.put, List.getElem_toArray, List.getElem_cons_succ, List.getElem_cons_zero, List.setIfInBounds_toArray, List.set_cons_succ, List.set_cons_zero]
        refine wpAnyK_take' (i := 9) _ rfl (by kernel_rfl) (fun _ _ _ h => hQp _ _ _ _ h) hS (yields_value (by kernel_rfl) (by intro w0 hw0; have hw1 := hw0; simp only [SW] at hw1; first | (go_simp; done) | (go_simp; rfl))) ?_; simp only [Act.put, List.getElem_toArray, List.getElem_cons_succ, List.getElem_cons_zero, List.setIfInBounds_toArray, List.set_cons_succ, List.set_cons_zero]
        clear hS
        refine wpAnyK_call (i := 5) rfl (by kernel_rfl) (by kernel_rfl) fun K5 hK5 => ?_
        go_simp
        go_wp2_with fail
        have hwz : w6.heap.size ≤ wa.heap.size := hb0.size
        refine (drop_c o v _ oao ocap wa (hor6.below hb0) (by omega)).mono ?_
        rintro e wb ⟨ad, cd, rfl, hd, hb1⟩
        go_wp2_with fail
        have hS : _ := hS0.under (by omega) (by omega) hb1
        refine hK5 _ _ (fun _ => hS) ?_
        clear hK5
        have hb2 : Below w6.heap.size w6 wb := hb0.trans (hb1.mono hwz)
        have hdl : (dropOf o v).length ≤ 16 := Nat.le_trans (List.length_filter_le _ _) hol
        clear hS
        refine wpAnyK_call (i := 10) rfl (by kernel_rfl) (by kernel_rfl) fun K10 hK10 => ?_
        go_simp
        go_wp2_with fail
        refine (add_c (dropOf o v) (tabs j) _ _ ad (f j).1 cd (f j).2 wb hd.row (r6.below hb2) (by omega) (by omega)).mono ?_
        rintro e wc ⟨ao, cap, rfl, hm, hb3⟩
        go_wp2_with fail
        have hbz := hb2.size
        have hb4 : Below w6.heap.size w6 wc := hb2.trans (hb3.mono hbz)
        have hS : _ := (hS0.under (by omega) (by omega) hb1).under (by have := hb1.size; omega) (by have := hb1.size; omega) hb3
        refine hK10 _ _ (fun _ => hS) ?_
        clear hK10
        refine wpAnyK_take' (i := 11) _ rfl (by kernel_rfl) (fun _ _ _ h => hQp _ _ _ _ h) hS (yields_value (by kernel_rfl) (by intro w0 hw0; have hw1 := hw0; simp only [SW] at hw1; first | (go_simp; done) | (go_simp; rfl))) ?_; simp only [Act.put, List.getElem_toArray, List.getElem_cons_succ, List.getElem_cons_zero, List.setIfInBounds_toArray, List.set_cons_succ, List.set_cons_zero]
        refine wpAnyK_take' (i := 12) _ rfl (by kernel_rfl) (fun _ _ _ h => hQp _ _ _ _ h) hS (yields_value (by kernel_rfl) (by intro w0 hw0; have hw1 := hw0; simp only [SW] at hw1; first | (go_simp; done) | (go_simp; rfl))) ?_; simp only [Act.put, List.getElem_toArray, List.getElem_cons_succ, List.getElem_cons_zero, List.setIfInBounds_toArray, List.set_cons_succ, List.set_cons_zero]
        refine wpAnyK_take' (i := 13) _ rfl (by kernel_rfl) (fun _ _ _ h => hQp _ _ _ _ h) hS (yields_value (by kernel_rfl) (by intro w0 hw0; have hw1 := hw0; simp only [SW] at hw1; first | (go_simp; done) | (go_simp; rfl))) ?_; simp only [Act.put, List.getElem_toArray, List.getElem_cons_succ, List.getElem_cons_zero, List.setIfInBounds_toArray, List.set_cons_succ, List.set_cons_zero]
        refine wpAnyK_take' (i := 14) _ rfl (by kernel_rfl) (fun _ _ _ h => hQp _ _ _ _ h) hS (yields_value (by kernel_rfl) (by intro w0 hw0; have hw1 := hw0; simp only [SW] at hw1; first | (go_simp; done) | (go_simp; rfl))) ?_; simp only [Act.put, List.getElem_toArray, List.getElem_cons_succ, List.getElem_cons_zero, List.setIfInBounds_toArray, List.set_cons_succ, List.set_cons_zero]
        refine wpAnyK_take' (i := 15) _ rfl (by kernel_rfl) (fun _ _ _ h => hQp _ _ _ _ h) hS (yields_value (by kernel_rfl) (by intro w0 hw0; have hw1 := hw0; simp only [SW] at hw1; first | (go_simp; done) | (go_simp; rfl))) ?_; simp only [Act.put, List.getElem_toArray, List.getElem_cons_succ, List.getElem_cons_zero, List.setIfInBounds_toArray, List.set_cons_succ, List.set_cons_zero]
        refine wpAnyK_done (by kernel_rfl) ?_ _
        refine hR _ _ ?_
        iterate 15 apply Exists.intro
        refine ⟨?_, ⟨ao, cap, rfl, hm.mono fun b _ hb => ⟨by omega, rfl⟩, hb4⟩⟩
        simp only [puts, Act.put, List.setIfInBounds_toArray, List.set_cons_succ, List.set_cons_zero]
        rfl
      rintro a' w8 ⟨v13, v56, v57, v58, v59, v60, v61, v62, v63, v64, v65, v66, v67, v68, v69, rfl, hb8⟩
      simp only [puts, Act.put, List.setIfInBounds_toArray, List.set_cons_succ, List.set_cons_zero]
      obtain ⟨ao, cap, rfl, hm8, hb9⟩ := hb8
      have hTr8 := hTr6.under hb9
      have hb8 : Below ob w3 w8 := hb7.trans (hb9.mono (by omega))
      have hLA : Hid ((addOf (dropOf o v) (tabs j)).2 = 0 → Leads p (addOf (dropOf o v) (tabs j)).1 j) := fun h => Leads.add HO.out (hLD.out j hlt) h
      clear hTr6 hb9 hb7 r6 c6 e6 hS0 hor6
      generalize addOf (dropOf o v) (tabs j) = A at *
      obtain ⟨m, a2⟩ := A
      dsimp only at *
      by_cases h2 : a2 = 0
      case neg =>
        have h2' : (a2 == 0) = false := by rw [beq_eq_false_iff_ne]; exact h2
        have hTD2 : Hid (∀ s : Nat, j + 1 ≤ s → s < N → tabs s = rulesAt p s) := fun s h1 h2 => hTD.out s (by omega) h2
        clear h2 hTD hLA
        go_wp2
        case roundEnd =>
          go_roundw
          case rel => exact ⟨j + 1, f, tabs, by go_num, by omega, hTr8, hLD, hTD2, hb8⟩
          case measure => simp [intOf] <;> omega
      subst h2
      have hTr9 := hTr8.put hlt hm8
      have c8 := hTr8.cell hlt
      have f8 := hTr8.blk.cells.2
      have hLD2 : Hid (∀ s : Nat, s < N → Leads p (upd tabs j m s) s) := fun s hs => by
        by_cases e : s = j
        · subst e; rw [upd_same]; exact hLA.out (by first | trivial | rfl)
        · rw [upd_ne _ _ e]; exact hLD.out s hs
      have hTD2 : Hid (∀ s : Nat, j + 1 ≤ s → s < N → upd tabs j m s = rulesAt p s) := fun s h1 h2 => by rw [upd_ne _ _ (by omega)]; exact hTD.out s (by omega) h2
      clear hTD hLA hLD
      go_wp2
      case roundEnd =>
        go_roundw
        case rel => exact ⟨j + 1, _, _, by go_num, by omega, hTr9, hLD2, hTD2, hb8.setCell (p := ⟨ob, j, none⟩) (Nat.le_refl _) _⟩
        case measure => simp [intOf] <;> omega
    have b1 : ¬ (j : Int) < (N : Int) := by omega
    have hkpo : blockIs wo w2.heap.size 38 #[.int .i64 p.ver, .slice fa p.flows.length fc, .slice pa p.paths.length pc] := hkp3.keep (hb.block _ (by omega))
    obtain ⟨q1, q2⟩ := hkpo.cells
    have hppo := hpp.below (hb5.trans (hb.mono (by omega)))
    have HLD : Hid (∀ (i k : Nat) (q : List Int) (s : Nat) (b : Int), p.paths[i]? = some q → q[k]? = some (s : Int) → q[k + 1]? = some b → s < N → nextOf (tabs s) v i = (b, true)) := fun i k q s b h1 h2 h3 h4 => (hLD.out s h4).step HO.out h1 h2 h3
    have HLL : Hid (∀ (i k : Nat) (q : List Int) (s : Nat), p.paths[i]? = some q → q[k]? = some (s : Int) → q.length ≤ k + 1 → s < N → nextOf (tabs s) v i = (0, false)) := fun i k q s h1 h2 h3 h4 => (hLD.out s h4).last HO.out h1 h2 h3
    have hwo : Below w2.heap.size w2 wo := hb5.trans (hb.mono (by omega))
    clear hTD hLD hb
    go_wp2
    go_loopw [15, 16, 17, 18, 19, 20, 21, 80] (fun _ _ _ _ _ _ _ idx wr => ∃ i : Nat, idx = .int .i64 i ∧ i ≤ p.paths.length ∧ Below wo.heap.size wo wr) (fun _ _ _ _ _ _ _ idx _ => p.paths.length - (intOf idx).toNat)
    case atStart => exact ⟨0, rfl, Nat.zero_le _, Below.refl _ _⟩
    case round =>
      obtain ⟨i, rfl, hi, hb⟩ := hrel
      rename World => wp
      have hbp : Below w.heap.size w wp := hbo.trans (hb.mono hzo)
      by_cases hlt : i < p.paths.length
      case neg =>
        have b2 : ¬ (i : Int) < (p.paths.length : Int) := by omega
        go_wp2
        go_ret; exact ⟨rfl, hbp⟩
      obtain ⟨q, hq⟩ : ∃ q, p.paths[i]? = some q := ⟨_, List.getElem?_eq_getElem hlt⟩
      obtain ⟨gb, go, pao, pcap, rfl, hgl, hpr, hce⟩ := sliceRow_get hppo hq
      have e0 := hce _ hb
      obtain ⟨f0, hf0, hq0, hqr⟩ := HO.out.head hq
      obtain ⟨lb, lo, rfl, hll', hcl⟩ := flowRow_get hl hf0
      have e1 := hcl _ hbp
      have hqx := hpr.len_le
      have b0 : (0 : Int) ≤ (i : Int) := by omega
      have b2 : (i : Int) < (p.paths.length : Int) := by omega
      have b3 : (i : Int) < (l.length : Int) := by omega
      have hst : Hid (∀ h : 0 < q.length, q[0]? = some f0.src) := fun _ => hq0
      have HST : Hid (∀ (k : Nat) (q' : List Int) (s : Nat) (b : Int), q' = q → q'[k]? = some (s : Int) → q'[k + 1]? = some b → s < N → nextOf (tabs s) v i = (b, true)) := fun k q' s b e h2 h3 h4 => HLD.out i k q' s b (e ▸ hq) h2 h3 h4
      have HSL : Hid (∀ (k : Nat) (q' : List Int) (s : Nat), q' = q → q'[k]? = some (s : Int) → q'.length ≤ k + 1 → s < N → nextOf (tabs s) v i = (0, false)) := fun k q' s e h2 h3 h4 => HLL.out i k q' s (e ▸ hq) h2 h3 h4
      have HQR := Lib.hid hqr
      clear hce hcl hq hq0 hf0 hqr
      generalize f0.src = src at *
      go_wp2
      clear e0 e1
      go_loopw [17, 18, 19, 20, 21, 92] (fun at' _ _ _ _ idx wr => ∃ (k : Nat) (a : Int), at' = .int .i64 a ∧ idx = .int .i64 k ∧ k ≤ q.length ∧ Hid (∀ h : k < q.length, q[k]? = some a) ∧ Below wo.heap.size wo wr) (fun _ _ _ _ _ idx _ => q.length - (intOf idx).toNat)
      case atStart => exact ⟨0, src, rfl, rfl, Nat.zero_le _, hst, hb⟩
      case round =>
        clear hst hb hbp
        obtain ⟨k, a, rfl, rfl, hk, ha, hb⟩ := hrel
        rename World => wq
        by_cases hkl : k < q.length
        case neg =>
          have b4 : ¬ (k : Int) < (q.length : Int) := by omega
          clear ha
          go_wp2
          case roundEnd =>
            go_roundw
            case rel => exact ⟨i + 1, by go_num, by omega, hb⟩
            case measure => simp [intOf] <;> omega
        have hqa := ha.out hkl
        obtain ⟨qb, qo, rfl, hql, _, hcq⟩ := intRow_get hpr hqa
        have e2 := hcq _ hb
        have har := HQR.out k a hqa
        obtain ⟨s, rfl⟩ : ∃ s : Nat, a = (s : Int) := ⟨a.toNat, by omega⟩
        have hsN : s < N := by omega
        have b4 : (k : Int) < (q.length : Int) := by omega
        have b5 : (0 : Int) ≤ (k : Int) := by omega
        have b6 : (s : Int) < (N : Int) := by omega
        have b7 : (0 : Int) ≤ (s : Int) := by omega
        have b8 : ((s : Int) != (s : Int)) = false := by simp
        have k3 : IntKind.i64.wrap (s : Int) = s := IntWalk.i64_in _ (by omega)
        have hTq := hTr.under hb
        have c9 := hTq.cell hsN
        have hNc := next_c (tabs s) v i _ (f s).1 (f s).2 wq (hTq.row s hsN)
        have hzq := hb.size
        by_cases hlast : k + 1 < q.length
        · obtain ⟨b, hqb⟩ : ∃ b, q[k + 1]? = some b := ⟨_, List.getElem?_eq_getElem hlast⟩
          rw [HST.out k q s b rfl hqa hqb hsN] at hNc
          have HNc := Lib.hid hNc
          have ha2 : Hid (∀ h : k + 1 < q.length, q[k + 1]? = some b) := fun _ => hqb
          have b9 : (k : Int) < (q.length : Int) - 1 := by omega
          clear hNc hqa hqb ha hcq hTq
          go_wp2_with fail
          refine HNc.out.mono ?_
          rintro e w9 ⟨rfl, hb9⟩
          have hb10 : Below wo.heap.size wo w9 := hb.trans (hb9.mono hzq)
          clear HNc
          go_wp2
          case roundEnd =>
            go_roundw
            case rel => exact ⟨k + 1, b, rfl, by go_num, by omega, ha2, hb10⟩
            case measure => simp [intOf] <;> omega
        · rw [HSL.out k q s rfl hqa (by omega) hsN] at hNc
          have HNc := Lib.hid hNc
          have ha2 : Hid (∀ h : k + 1 < q.length, q[k + 1]? = some 0) := fun h => absurd h hlast
          have b9 : ¬ (k : Int) < (q.length : Int) - 1 := by omega
          clear hNc hqa ha hcq hTq
          go_wp2_with fail
          refine HNc.out.mono ?_
          rintro e w9 ⟨rfl, hb9⟩
          have hb10 : Below wo.heap.size wo w9 := hb.trans (hb9.mono hzq)
          clear HNc
          go_wp2
          case roundEnd =>
            go_roundw
            case rel => exact ⟨k + 1, 0, rfl, by go_num, by omega, ha2, hb10⟩
            case measure => simp [intOf] <;> omega

end Go.Proofs.Ytcfcdembhjnjfaa
