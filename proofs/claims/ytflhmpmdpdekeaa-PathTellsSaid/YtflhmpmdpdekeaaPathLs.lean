/-
  The walk of PathLeast.
-/
import Derived.Test.YtflhmpmdpdekeaaPathA
import Derived.Test.YtflhmpmdpdekeaaServeC
import Derived.Test.YtflhmpmdpdekeaaTopoL
import Derived.WalkKit
import Derived.WalkSpells
import Derived.WalkLawsBesides
import Derived.Lib.Hide
import Derived.Deep.LoopGhost
import Derived.Deep.QuietTactic
import Derived.BigQuiet
import Derived.Deep.RegionWith
import Derived.Handy
set_option linter.unusedSimpArgs false
set_option linter.unusedVariables false
namespace Go.St
open Go.RowKit
theorem linkBad_ne {n : Int} {had : List (Int × Int)} {l : Link} : linkBad n had l ≠ 9 := by
  unfold linkBad
  repeat' split
  all_goals decide
theorem linksBad_ne {n : Int} : ∀ {ls : List Link} {had : List (Int × Int)} {i : Int}, (linksBad n had i ls).1 ≠ 9
  | [], _, _ => by simp [linksBad]
  | l :: r, had, i => by
    unfold linksBad
    split
    · exact linksBad_ne
    · exact linkBad_ne
theorem topoWrong_ne {t : Topo} : (topoWrong t).1 ≠ 9 := by
  unfold topoWrong
  split
  · decide
  · exact linksBad_ne
theorem listBad_ne {n s d : Int} : ∀ {l had : List Int}, listBad n s d had l ≠ 9
  | [], _ => by simp [listBad]
  | x :: r, had => by
    unfold listBad
    split
    · decide
    split
    · decide
    split
    · decide
    exact listBad_ne
theorem flowBad_ne {n : Int} {f : Flow} : flowBad n f ≠ 9 := by
  unfold flowBad
  split
  · decide
  split
  · decide
  split
  · exact listBad_ne
  split
  · exact listBad_ne
  split <;> decide
theorem find_none {t : Topo} {f : Flow} (h : (findOf t f).2 = 9) : ∀ q, ¬ Good t f q := by
  unfold findOf at h
  by_cases h1 : (topoWrong t).1 = 0
  case neg => rw [if_pos h1] at h; exact absurd h topoWrong_ne
  rw [if_neg (by simp [h1])] at h
  by_cases h2 : (flowsWrong [f] t.n).1 = 0
  case neg => rw [if_pos h2] at h; exact absurd (flows1 ▸ h) flowBad_ne
  have hf := flowBad_zero (flows1 ▸ h2)
  have L := search_leaves h1 hf
  intro q hq
  obtain ⟨s, r, rfl⟩ : ∃ s r, q = s :: r := by cases q with | nil => have := hq.src; cases this | cons s r => exact ⟨s, r, rfl⟩
  obtain rfl : s = f.src := by have := hq.src; simpa using this
  obtain ⟨b, hb', _⟩ := L.beats r hq
  rw [if_neg (by simp [h2]), hb'] at h
  cases h
theorem good_prefix {t : Topo} {f : Flow} {p q : List Int} (hp : Good t f p) (hq : Good t f q) (h : ∀ i, i < p.length → p[i]? = q[i]?) : p.length = q.length := by
  have hle : p.length ≤ q.length := by
    by_cases hl : p.length ≤ q.length
    · exact hl
    · exfalso
      have := h q.length (by omega)
      rw [List.getElem?_eq_getElem (by omega), List.getElem?_eq_none (Nat.le_refl _)] at this
      cases this
  have ht : q.take p.length = p := List.ext_getElem? fun i => by
    rw [List.getElem?_take]
    by_cases hi : i < p.length
    · rw [if_pos hi, h i hi]
    · rw [if_neg hi, List.getElem?_eq_none (by omega)]
  have e : q = p ++ q.drop p.length := by
    have := List.take_append_drop p.length q
    rw [ht] at this
    exact this.symm
  by_cases hr : q.drop p.length = []
  · have := List.drop_eq_nil_iff.1 hr
    omega
  · exfalso
    have hd := hq.dst
    rw [e, List.getLast?_append, List.getLast?_eq_some_getLast hr] at hd
    simp only [Option.some_or] at hd
    have m1 : f.dst ∈ q.drop p.length := by
      have := Option.some.inj hd
      rw [← this]; exact List.getLast_mem _
    have m2 : f.dst ∈ p := List.mem_of_getLast? hp.dst
    have hn := hq.nodup
    rw [e] at hn
    exact (List.nodup_append.1 hn).2.2 _ m2 _ m1 rfl
end Go.St
namespace Go.Proofs.Ytflhmpmdpdekeaa
open Go.RowKit Go.St

set_option maxRecDepth 100000 in
set_option maxHeartbeats 8000000 in
theorem pathLeast_c (w : World) (t : Topo) (cs : List Value) (ok : Nat → Prop) (h : topoS.rep ok w cs t) (f : Flow) (ds : List Value) (ok' : Nat → Prop) (hf : flowS.rep ok' w ds f) (q : List Int) (qa : Option Addr) (qc : Nat) (ok'' : Nat → Prop) (hq : rowRep intS ok'' w qa qc q) :
    Calls Try.prog 4 #[.agg cs.toArray, .agg ds.toArray, .slice qa q.length qc] w fun e w' => e = .returned (.bool true) ∧ Below w.heap.size w w' := by
  have hT := h
  obtain ⟨la, lc, rfl, hn, hr⟩ := h
  obtain ⟨va, vc, na, nc, rfl, hs, hd, hv, hno⟩ := id hf
  go_enter Try.func4, Try.ntmps4
  go_wp2_with fail
  refine (alive_c _).mono ?_
  rintro e w1 ⟨rfl, hb1⟩
  have hB1 : Below w.heap.size w w1 := Below.trans (by (repeat' (first | with_reducible exact Below.refl _ _ | with_reducible assumption | with_reducible refine Below.drew ?_ | with_reducible refine Below_drewN ?_ _ | with_reducible refine Below.alloc ?_ ?_ _ | with_reducible refine Below.setCell ?_ ?_ _ | omega | (simp; done) | (simp; omega)))) (hb1.mono (by simp; omega))
  have hT1 : blockIs w1 w.heap.size 24 #[.int .i64 t.n, .slice la t.links.length lc] := ((blockIs.new rfl).alloc _).under hb1
  have hF1 : blockIs w1 (w.heap.size + 1) 27 #[.int .i64 f.src, .int .i64 f.dst, .slice va f.via.length vc, .slice na f.no.length nc] := (blockIs.new (by simp)).under hb1
  obtain ⟨t1, t2⟩ := hT1.cells
  obtain ⟨f1, f2⟩ := hF1.cells
  clear hb1
  go_wp2_with fail
  refine (find_c t f _ _ ok ok' _ (topoS.below hT hB1) (flowS.below hf hB1)).mono ?_
  rintro e w2 ⟨ao, cap, rfl, hp, hb2⟩
  have hB2 : Below w.heap.size w w2 := hB1.trans (hb2.mono (by have := hB1.size; omega))
  have hT2 := hT1.under hb2
  have hF2 := hF1.under hb2
  clear t1 t2 f1 f2 hb2 hT1 hF1
  obtain ⟨t1, t2⟩ := hT2.cells
  obtain ⟨f1, f2⟩ := hF2.cells
  have hz2 := hB2.size
  by_cases h2 : (findOf t f).2 ≠ 0 ∧ (findOf t f).2 ≠ 9
  · have c1 : ((findOf t f).2 != 0) = true := by rw [bne_iff_ne]; exact h2.1
    have c2 : ((findOf t f).2 != 9) = true := by rw [bne_iff_ne]; exact h2.2
    clear h2 hp
    generalize findOf t f = pe at *
    go_wp2
    go_ret; exact ⟨rfl, by (repeat' (first | with_reducible exact Below.refl _ _ | with_reducible assumption | with_reducible refine Below.drew ?_ | with_reducible refine Below_drewN ?_ _ | with_reducible refine Below.alloc ?_ ?_ _ | with_reducible refine Below.setCell ?_ ?_ _ | omega | (simp; done) | (simp; omega)))⟩
  have HSV := Lib.hid (serves_c t f q _ _ ok ok' ok'' qa qc w2 (topoS.below hT hB2) (flowS.below hf hB2) (hq.below hB2))
  by_cases h9 : (findOf t f).2 = 9
  · have hnone := find_none h9
    have hsv : servesB t f q = false := by
      cases hh : servesB t f q with
      | false => rfl
      | true => exact absurd (serves_good hh) (hnone q)
    rw [hsv] at HSV
    rw [h9]
    clear h2 h9 hnone hsv hp
    go_wp2_with fail
    refine HSV.out.mono ?_
    rintro e w3 ⟨rfl, hb3⟩
    have hB3 : Below w.heap.size w w3 := hB2.trans (hb3.mono hz2)
    clear hb3 HSV t1 t2 f1 f2
    go_wp2
    go_ret; exact ⟨rfl, by (repeat' (first | with_reducible exact Below.refl _ _ | with_reducible assumption | with_reducible refine Below.drew ?_ | with_reducible refine Below_drewN ?_ _ | with_reducible refine Below.alloc ?_ ?_ _ | with_reducible refine Below.setCell ?_ ?_ _ | omega | (simp; done) | (simp; omega)))⟩
  have h0 : (findOf t f).2 = 0 := Decidable.byContradiction fun h => h2 ⟨h, h9⟩
  obtain ⟨ht0, hfo, hg, hmin⟩ := find_good h0
  rw [h0]
  clear h2 h9 h0
  generalize (findOf t f).1 = p at *
  cases hsv : servesB t f q
  case false =>
    rw [hsv] at HSV
    clear hsv hp hg hmin
    go_wp2_with fail
    refine HSV.out.mono ?_
    rintro e w3 ⟨rfl, hb3⟩
    have hB3 : Below w.heap.size w w3 := hB2.trans (hb3.mono hz2)
    clear hb3 HSV t1 t2 f1 f2
    go_wp2
    go_ret; exact ⟨rfl, by (repeat' (first | with_reducible exact Below.refl _ _ | with_reducible assumption | with_reducible refine Below.drew ?_ | with_reducible refine Below_drewN ?_ _ | with_reducible refine Below.alloc ?_ ?_ _ | with_reducible refine Below.setCell ?_ ?_ _ | omega | (simp; done) | (simp; omega)))⟩
  have hgq := serves_good hsv
  have hlex := hmin q hgq
  rw [hsv] at HSV
  clear hsv hmin
  go_wp2_with fail
  refine HSV.out.mono ?_
  rintro e w3 ⟨rfl, hb3⟩
  have hB3 : Below w.heap.size w w3 := hB2.trans (hb3.mono hz2)
  have hz3 := hB3.size
  have hT3 := hT2.under hb3
  have hp3 := hp.below hb3
  clear hb3 HSV t1 t2 f1 f2 hT2 hF2 hp
  obtain ⟨t1, t2⟩ := hT3.cells
  go_wp2_with fail
  refine (length_c t p _ ok _ ao cap _ (topoS.below hT hB3) hp3).mono ?_
  rw [good_length ht0 hg]
  rintro e w4 ⟨rfl, hb4⟩
  have hB4 : Below w.heap.size w w4 := hB3.trans (hb4.mono hz3)
  have hz4 := hB4.size
  have hT4 := hT3.under hb4
  have hp4 := hp3.below hb4
  clear hb4 t1 t2 hT3 hp3
  obtain ⟨t1, t2⟩ := hT4.cells
  go_wp2_with fail
  refine (length_c t q _ ok ok'' qa qc _ (topoS.below hT hB4) (hq.below hB4)).mono ?_
  rw [good_length ht0 hgq]
  rintro e w5 ⟨rfl, hb5⟩
  have hB5 : Below w.heap.size w w5 := hB4.trans (hb5.mono hz4)
  have hp5 := hp4.below hb5
  have hq5 := hq.below hB5
  clear hb5 t1 t2 hT4 hp4
  by_cases hc : pathCost t p = pathCost t q
  case neg =>
    have hlt : pathCost t p < pathCost t q := by rcases hlex with h | h; exact h; exact absurd h.1 hc
    have hne : (pathCost t p != pathCost t q) = true := by rw [bne_iff_ne]; exact hc
    clear hc hlex
    generalize pathCost t p = a at *
    generalize pathCost t q = b at *
    go_wp2
    go_ret; exact ⟨ret_bool (by first | rfl | simpa using hlt), by (repeat' (first | with_reducible exact Below.refl _ _ | with_reducible assumption | with_reducible refine Below.drew ?_ | with_reducible refine Below_drewN ?_ _ | with_reducible refine Below.alloc ?_ ?_ _ | with_reducible refine Below.setCell ?_ ?_ _ | omega | (simp; done) | (simp; omega)))⟩
  have hlx : lexLe p q = true := by rcases hlex with h | h; omega; exact h.2
  have hne : (pathCost t p != pathCost t q) = false := by rw [bne_eq_false_iff_eq]; exact hc
  clear hc hlex
  generalize pathCost t p = a at *
  generalize pathCost t q = b at *
  go_wp2
  have hpl := hp5.len_le
  have hpc := hp5.1
  have hqc := hq5.1
  go_loopw [13, 57] (fun _ i wr => ∃ j : Nat, j ≤ p.length ∧ i = .int .i64 j ∧ Hid (∀ k, k < j → p[k]? = q[k]?) ∧ Below w5.heap.size w5 wr) (fun _ i _ => p.length - (intOf i).toNat)
  case atStart => exact ⟨0, Nat.zero_le _, rfl, by show ∀ k, _; intro k hk; omega, Below.refl _ _⟩
  case round =>
    obtain ⟨j, hj, rfl, hall, hb⟩ := hrel
    have hBr : Below w.heap.size w wr := hB5.trans (hb.mono (by have := hB5.size; omega))
    by_cases hlt : j < p.length
    case neg =>
      have hjl : j = p.length := by omega
      have hl : ((p.length : Int) == (q.length : Int)) = true := by
        rw [beq_iff_eq, good_prefix hg hgq (by rw [← hjl]; exact hall.out)]
      have b1 : ¬ (j : Int) < (p.length : Int) := by omega
      clear hall hjl
      go_wp2
      go_ret; exact ⟨rfl, by (repeat' (first | with_reducible exact Below.refl _ _ | with_reducible assumption | with_reducible refine Below.drew ?_ | with_reducible refine Below_drewN ?_ _ | with_reducible refine Below.alloc ?_ ?_ _ | with_reducible refine Below.setCell ?_ ?_ _ | omega | (simp; done) | (simp; omega)))⟩
    obtain ⟨a1, b1, ha, hb', hab⟩ := lexLe_get hlx j hall.out hlt
    have hjq : j < q.length := (List.getElem?_eq_some_iff.1 hb').1
    obtain ⟨pb, po, rfl, _, hpb, cs1, ⟨rfl, _⟩, hce⟩ := hp5.get ha
    have e0 := cell_at hb hpb (hce 0 _ rfl)
    clear hce
    obtain ⟨qb, qo, rfl, _, hqb, cs2, ⟨rfl, _⟩, hce⟩ := hq5.get hb'
    have e1 := cell_at hb hqb (hce 0 _ rfl)
    clear hce
    simp only [intS, Nat.add_zero, Nat.mul_one] at e0 e1
    have d0 : (0 : Int) ≤ (j : Int) := by omega
    have d1 : (j : Int) < (p.length : Int) := by omega
    have d2 : (j : Int) < (q.length : Int) := by omega
    have d3 : ¬ (q.length : Int) ≤ (j : Int) := by omega
    have d3' : decide ((q.length : Int) ≤ (j : Int)) = false := decide_eq_false d3
    have d2' : decide ((j : Int) < (q.length : Int)) = true := decide_eq_true d2
    by_cases he : a1 = b1
    · have HA : Hid (∀ k, k < j + 1 → p[k]? = q[k]?) := by
        intro k hk
        by_cases hkj : k = j
        · subst hkj; rw [ha, hb', he]
        · exact hall.out k (by omega)
      have he' : (a1 != b1) = false := by rw [bne_eq_false_iff_eq]; exact he
      clear hall ha hb' he hab
      go_wp2
      go_quiet (fail)
      go_wp2
      case roundEnd =>
        go_roundw
        case rel => exact ⟨j + 1, by omega, by go_num, HA, by (repeat' (first | with_reducible exact Below.refl _ _ | with_reducible assumption | with_reducible refine Below.drew ?_ | with_reducible refine Below_drewN ?_ _ | with_reducible refine Below.alloc ?_ ?_ _ | with_reducible refine Below.setCell ?_ ?_ _ | omega | (simp; done) | (simp; omega)))⟩
        case measure => simp [intOf]; omega
    · have he' : (a1 != b1) = true := by rw [bne_iff_ne]; exact he
      have hl' : decide (a1 < b1) = true := decide_eq_true (by omega)
      clear hall ha hb' he hab
      go_wp2
      go_quiet (fail)
      go_wp2
      go_quiet (fail)
      go_wp2
      go_ret; exact ⟨by first | rfl | (simp [hl']; done) | exact ret_bool hl', by (repeat' (first | with_reducible exact Below.refl _ _ | with_reducible assumption | with_reducible refine Below.drew ?_ | with_reducible refine Below_drewN ?_ _ | with_reducible refine Below.alloc ?_ ?_ _ | with_reducible refine Below.setCell ?_ ?_ _ | omega | (simp; done) | (simp; omega)))⟩

end Go.Proofs.Ytflhmpmdpdekeaa
