/-
  The walk of RuleCount.
-/
import Derived.Test.YtcfcdembhjnjfaaRuleAd
import Derived.Test.YtcfcdembhjnjfaaRuleC
import Derived.Test.YtcfcdembhjnjfaaPlanW
import Derived.WalkKit
import Derived.WalkSpells
import Derived.WalkLawsBesides
import Derived.Lib.Hide
import Derived.Deep.LoopGhost
import Derived.Deep.QuietTactic
import Derived.BigQuiet
import Derived.Deep.RegionWith
import Derived.Handy
set_option linter.unusedSimpArgs false
set_option linter.unusedVariables false
namespace Go.Proofs.Ytcfcdembhjnjfaa
open Go.RowKit Go.St

set_option maxRecDepth 100000 in
set_option maxHeartbeats 8000000 in
theorem ruleCount_c (w : World) (t : Topo) (cs : List Value) (ok : Nat → Prop) (h : topoS.rep ok w cs t) (l : List Flow) (ax : Option Addr) (cx : Nat) (ok' : Nat → Prop) (hl : rowRep flowS ok' w ax cx l) (v : Int) (hv : I64 v) :
    Calls Try.prog 6 #[.agg cs.toArray, .slice ax l.length cx, .int .i64 v] w fun e w' => e = .returned (.bool true) ∧ Below w.heap.size w w' := by
  have hfe := fault_errR
  have hT := h
  obtain ⟨la, lc, rfl, hn, hr⟩ := h
  go_enter Try.func6, Try.ntmps6
  go_wp2_with fail
  have hk0 := (blockIs.new (w := w) (t := 47) (cs := #[.int .i64 t.n, .slice la t.links.length lc]) rfl)
  have hb0 : Below w.heap.size w (w.alloc (.cells #[.int .i64 t.n, .slice la t.links.length lc] 47)) := by (repeat' (first | with_reducible exact Below.refl _ _ | with_reducible assumption | with_reducible refine Below.drew ?_ | with_reducible refine Below_drewN ?_ _ | with_reducible refine Below.alloc ?_ ?_ _ | with_reducible refine Below.setCell ?_ ?_ _ | omega | (simp; done) | (simp; omega)))
  refine (alive4_c _).mono ?_
  rintro e w1 ⟨rfl, hb1⟩
  have hk1 := hk0.under hb1
  have hB1 : Below w.heap.size w w1 := hb0.trans (hb1.mono hb0.size)
  obtain ⟨t1, t2⟩ := hk1.cells
  clear hb1 hk0 hb0
  go_wp2_with fail
  refine (plan_c t v hv l _ ok ok' ax cx w1 (topoS.below hT hB1) (hl.below hB1)).mono ?_
  rintro e w2 ⟨pcs, rfl, hp, hb2⟩
  have hk2 := hk1.under hb2
  have hB2 : Below w.heap.size w w2 := hB1.trans (hb2.mono hB1.size)
  have hz2 := hB2.size
  have hk2l := hk2.lt
  clear hb2 t1 t2 hk1 hB1
  have HOK : Hid ((planOf t v l).2.1 = 0 → PlanOk t v l (planOf t v l).1) := plan_ok
  generalize planOf t v l = P at *
  obtain ⟨p, f1, f2⟩ := P
  dsimp only at *
  have hP := hp
  obtain ⟨fa, fc, pa, pc, rfl, hpv, hpf, hpp⟩ := hp
  by_cases hf : f1 = 0
  case neg =>
    have hf' : (f1 != 0) = true := by rw [bne_iff_ne]; exact hf
    clear hf
    go_wp2
    go_ret; exact ⟨rfl, by (repeat' (first | with_reducible exact Below.refl _ _ | with_reducible assumption | with_reducible refine Below.drew ?_ | with_reducible refine Below_drewN ?_ _ | with_reducible refine Below.alloc ?_ ?_ _ | with_reducible refine Below.setCell ?_ ?_ _ | omega | (simp; done) | (simp; omega)))⟩
  subst hf
  have HO := Lib.hid (HOK.out rfl)
  have n1 := HO.out.n1
  have n8 := HO.out.n8
  obtain ⟨N, hN⟩ : ∃ N : Nat, t.n = (N : Int) := ⟨t.n.toNat, by omega⟩
  have hN8 : N ≤ 8 := by omega
  clear HOK
  rw [hN] at hk2
  obtain ⟨t1, t2⟩ := hk2.cells
  have hpl12 : p.paths.length ≤ 12 := by have := HO.out.plen; have := HO.out.len; omega
  go_wp2_with fail
  have hb3 : Below w2.heap.size w2 ((w2.alloc (.cells #[.int .i64 p.ver, .slice fa p.flows.length fc, .slice pa p.paths.length pc] 38)).alloc (.cells #[.int .i64 0, .int .i64 f2] 32)) := by (repeat' (first | with_reducible exact Below.refl _ _ | with_reducible assumption | with_reducible refine Below.drew ?_ | with_reducible refine Below_drewN ?_ _ | with_reducible refine Below.alloc ?_ ?_ _ | with_reducible refine Below.setCell ?_ ?_ _ | omega | (simp; done) | (simp; omega)))
  have hkp : blockIs ((w2.alloc (.cells #[.int .i64 p.ver, .slice fa p.flows.length fc, .slice pa p.paths.length pc] 38)).alloc (.cells #[.int .i64 0, .int .i64 f2] 32)) w2.heap.size 38 #[.int .i64 p.ver, .slice fa p.flows.length fc, .slice pa p.paths.length pc] := (blockIs.new rfl).alloc _
  refine (of_c p N _ _ _ (planS.below hP hb3) (by omega) (fun s => Nat.le_trans (HO.out.short s) (by decide)) (by omega)).mono ?_
  rintro e w3 ⟨ob, tf, rfl, hob, hTb, hb4⟩
  have hkp3 := hkp.under hb4
  have hb5 : Below w2.heap.size w2 w3 := hb3.trans (hb4.mono hb3.size)
  have hB3 : Below w.heap.size w w3 := hB2.trans (hb5.mono hz2)
  have hpp3 := hpp.below hb5
  have HCT : Hid (sumTo (fun s : Nat => (rulesAt p s).length) N = lessOne p.paths) := by have := HO.out.count; rw [hN] at this; exact this
  have hz3 := hB3.size
  clear hb3 hkp hb4 t1 t2 hb5 hk2 hk2l hP hB2 hz2 hpf
  have hst : Hid (∃ k : Nat, ((0 : Nat) : Int) = (k : Int) ∧ k = sumTo (fun s : Nat => (rulesAt p s).length) 0) := ⟨0, rfl, rfl⟩
  have HLE : Hid (∀ j : Nat, j ≤ N → sumTo (fun s : Nat => (rulesAt p s).length) j ≤ j * 96) := fun j _ => by
    induction j with
    | zero => simp [sumTo]
    | succ j ih =>
      have h1 := ih (by omega)
      have h2 := HO.out.short (j : Int)
      simp only [sumTo]; omega
  have HLB : Hid (∀ j : Nat, lessOne (p.paths.drop j) ≤ 84) := fun j => by
    have hm : ∀ (qs : List (List Int)), (∀ q ∈ qs, q.length ≤ 8) → lessOne qs ≤ qs.length * 7 := by
      intro qs
      induction qs with
      | nil => simp [lessOne]
      | cons a qs ih =>
        intro h
        have h1 := ih fun q hq => h q (List.mem_cons_of_mem _ hq)
        have h2 := h a (by simp)
        have e : lessOne (a :: qs) = (a.length - 1) + lessOne qs := by simp [lessOne]
        rw [e, List.length_cons]; omega
    have h1 := hm (p.paths.drop j) fun q hq => (HO.out.plen8 (List.mem_of_mem_drop hq)).2
    rw [List.length_drop] at h1; omega
  go_wp2
  go_loopw [9, 11, 31] (fun nn _ idx wr => ∃ (j k : Nat), nn = .int .i64 k ∧ idx = .int .i64 j ∧ j ≤ N ∧ Hid (k = sumTo (fun s : Nat => (rulesAt p s).length) j) ∧ Below w3.heap.size w3 wr) (fun _ _ idx _ => N - (intOf idx).toNat)
  case atStart => exact ⟨0, 0, rfl, rfl, Nat.zero_le _, rfl, Below.refl _ _⟩
  case round =>
    obtain ⟨j, k, rfl, rfl, hj, hk, hb⟩ := hrel
    rename World => wo
    have hk96 : k ≤ 8 * 96 := by have := HLE.out j hj; have := hk.out; omega
    by_cases hlt : j < N
    · have hTw := hTb.under hb
      have c0 := hTw.cell hlt
      have hrow := hTw.row hlt
      have hsh := HO.out.short (j : Int)
      have hk2 : Hid (k + (rulesAt p (j : Int)).length = sumTo (fun s : Nat => (rulesAt p s).length) (j + 1)) := by show _ = _; rw [sumTo, ← hk.out]
      have b1 : (j : Int) < (N : Int) := by omega
      have HTB : Hid ((rulesAt p (j : Int)).length ≤ 16 → (tabWrong (rulesAt p (j : Int))).1 = 0) := fun h => tab_ok.2 (HO.out.tab h)
      have hWc := tabWrong_c (rulesAt p (j : Int)) _ (tf j).1 (tf j).2 wo hrow
      clear hk hTw hrow
      generalize rulesAt p (j : Int) = R at *
      have hzo := hb.size
      by_cases h16 : R.length ≤ 16
      · have b2 : (R.length : Int) ≤ 16 := by omega
        have htw := HTB.out h16
        generalize tabWrong R = tw at *
        obtain ⟨tw1, tw2⟩ := tw
        dsimp only at *
        subst htw
        have HWc := Lib.hid hWc
        clear HTB hWc h16
        go_wp2_with fail
        refine HWc.out.mono ?_
        rintro e w6 ⟨rfl, hb6⟩
        have hb7 : Below w3.heap.size w3 w6 := hb.trans (hb6.mono hzo)
        go_wp2
        case roundEnd =>
          go_roundw
          case rel => exact ⟨j + 1, k + R.length, by go_num, by go_num, by omega, hk2, hb7⟩
          case measure => simp [intOf] <;> omega
      · have b2 : ¬ (R.length : Int) ≤ 16 := by omega
        clear HTB hWc h16
        go_wp2
        case roundEnd =>
          go_roundw
          case rel => exact ⟨j + 1, k + R.length, by go_num, by go_num, by omega, hk2, hb⟩
          case measure => simp [intOf] <;> omega
    have b1 : ¬ (j : Int) < (N : Int) := by omega
    obtain rfl : j = N := by omega
    have hke : Hid (k = lessOne (p.paths.drop 0)) := by show _ = _; rw [hk.out]; exact HCT.out
    obtain ⟨q1, q2⟩ := (hkp3.under hb).cells
    have hpo := hpp3.below hb
    have hBo : Below w.heap.size w wo := hB3.trans (hb.mono hz3)
    clear hk HCT
    go_wp2
    go_loop [9, 13, 52] (fun nn _ idx => ∃ (i m : Nat), nn = .int .i64 m ∧ idx = .int .i64 i ∧ i ≤ p.paths.length ∧ Hid (m = lessOne (p.paths.drop i))) (fun _ _ idx => p.paths.length - (intOf idx).toNat)
    case atStart => exact ⟨0, k, rfl, rfl, Nat.zero_le _, hke⟩
    case round =>
      clear hke
      obtain ⟨i, m, rfl, rfl, hi, hm⟩ := hrel
      have hm84 : m ≤ 84 := by have := HLB.out i; have := hm.out; omega
      by_cases hlt2 : i < p.paths.length
      · obtain ⟨q, hq⟩ : ∃ q, p.paths[i]? = some q := ⟨_, List.getElem?_eq_getElem hlt2⟩
        obtain ⟨gb, go, pao, pcap, rfl, hgl, hpr, hce⟩ := sliceRow_get hpo hq
        have e0 := hce _ (Below.refl _ _)
        have hq8 := HO.out.plen8 (List.mem_of_getElem? hq)
        have hm2 : Hid (m - (q.length - 1) = lessOne (p.paths.drop (i + 1))) := by
          have h1 := hm.out
          rw [lessOne_step hq] at h1
          show _ = _; omega
        have hmq : q.length - 1 ≤ m := by have h1 := hm.out; rw [lessOne_step hq] at h1; omega
        have b0 : (0 : Int) ≤ (i : Int) := by omega
        have b2 : (i : Int) < (p.paths.length : Int) := by omega
        have e5 : IntKind.i64.wrap ((m : Int) - (q.length : Int)) = (m : Int) - (q.length : Int) := IntWalk.i64_in _ (by omega)
        have e6 : (m : Int) - (q.length : Int) + 1 = ((m - (q.length - 1) : Nat) : Int) := by omega
        clear hce hq hm
        go_wp2
        go_round
        case rel => exact ⟨i + 1, m - (q.length - 1), by first | rfl | (rw [e6]) | go_num, by go_num, by omega, hm2⟩
        case measure => simp [intOf] <;> omega
      have b2 : ¬ (i : Int) < (p.paths.length : Int) := by omega
      obtain rfl : m = 0 := by have h1 := hm.out; rw [lessOne_end (by omega)] at h1; exact h1
      go_wp2
      go_ret; exact ⟨rfl, hBo⟩

end Go.Proofs.Ytcfcdembhjnjfaa
