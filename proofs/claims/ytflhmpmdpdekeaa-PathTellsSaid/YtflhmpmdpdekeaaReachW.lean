/-
  The walk of topo.Reaches.
-/
import Derived.Test.YtflhmpmdpdekeaaTopoW
import Derived.Test.YtflhmpmdpdekeaaTopoC
import Derived.Test.YtflhmpmdpdekeaaTopoL
import Derived.Test.YtflhmpmdpdekeaaSlices
import Derived.Test.YtflhmpmdpdekeaaSort
import Derived.WalkKit
import Derived.WalkSpells
import Derived.WalkLawsBesides
import Derived.Lib.Hide
import Derived.Deep.LoopGhost
import Derived.Deep.QuietTactic
import Derived.BigQuiet
import Derived.Deep.RegionWith
import Derived.Handy
set_option linter.unusedSimpArgs false
set_option linter.unusedVariables false
namespace Go.Proofs.Ytflhmpmdpdekeaa
open Go.RowKit Go.St

set_option maxRecDepth 100000 in
theorem fault_err0 (a b : Value) (w : World) : (Instr.field 40 (.agg #[a, b]) 0).run Try.prog w = .ok a w := by first | rfl | kernel_rfl | (simp [Instr.field]; done)
theorem int_info : (Try.prog.info? 3).map (fun i => (i.zero, i.size, i.bytes)) = some (some (.int .i64 0), 1, 8) := by kernel_rfl

set_option maxRecDepth 100000 in
set_option maxHeartbeats 8000000 in
theorem reaches_c (t : Topo) (cs : List Value) (ok : Nat → Prop) (s : Int) (hs : I64 s) (w : World) (h : topoS.rep ok w cs t) :
    Calls Try.prog 24 #[.agg cs.toArray, .int .i64 s] w fun e w' => ∃ ao cap, e = .returned (.slice ao (reaches t s).length cap) ∧ rowRep intS (fun k => w.heap.size ≤ k) w' ao cap (reaches t s) ∧ Below w.heap.size w w' := by
  have hT := h
  obtain ⟨la, lc, rfl, hn, hr⟩ := h
  have hfd := fault_err0
  obtain ⟨i0, hi, hz0, hz1, hz2⟩ := info_parts int_info
  generalize hsp0 : reaches t s = R
  have hsp := Lib.hid hsp0
  clear hsp0
  go_enter Try.func24, Try.ntmps24
  go_wp2_with fail
  refine (topoWrong_c t _ ok _ (topoS.below hT (by (repeat' (first | with_reducible exact Below.refl _ _ | with_reducible assumption | with_reducible refine Below.drew ?_ | with_reducible refine Below_drewN ?_ _ | with_reducible refine Below.alloc ?_ ?_ _ | with_reducible refine Below.setCell ?_ ?_ _ | omega | (simp; done) | (simp; omega)))))).mono ?_
  rintro e w1 ⟨rfl, hb1⟩
  have hB1 : Below w.heap.size w w1 := Below.trans (by (repeat' (first | with_reducible exact Below.refl _ _ | with_reducible assumption | with_reducible refine Below.drew ?_ | with_reducible refine Below_drewN ?_ _ | with_reducible refine Below.alloc ?_ ?_ _ | with_reducible refine Below.setCell ?_ ?_ _ | omega | (simp; done) | (simp; omega)))) (hb1.mono (by first | omega | (simp; done) | (simp; omega)))
  have hT1 : blockIs w1 w.heap.size 24 #[.int .i64 t.n, .slice la t.links.length lc] := (blockIs.new rfl).under hb1
  obtain ⟨t1, t2⟩ := hT1.cells
  have hw1 := hT1.lt
  clear hb1
  by_cases h1 : (topoWrong t).1 = 0
  case neg =>
    have HN := Lib.hid (hsp.out.symm.trans (reaches_nil (.inl h1)))
    clear hsp
    have h1' : ((topoWrong t).1 != 0) = true := by rw [bne_iff_ne]; exact h1
    clear h1
    generalize topoWrong t = we at *
    go_wp2
    go_ret; rw [HN.out]; exact ⟨none, 0, rfl, rowRep.nil _ _ _ _, by (repeat' (first | with_reducible exact Below.refl _ _ | with_reducible assumption | with_reducible refine Below.drew ?_ | with_reducible refine Below_drewN ?_ _ | with_reducible refine Below.alloc ?_ ?_ _ | with_reducible refine Below.setCell ?_ ?_ _ | omega | (simp; done) | (simp; omega)))⟩
  have htr := (topo_right h1).1
  by_cases h2 : s < 0
  · have HN := Lib.hid (hsp.out.symm.trans (reaches_nil (.inr (.inl h2))))
    clear hsp
    rw [h1]
    clear h1
    generalize topoWrong t = we at *
    go_wp2
    go_ret; rw [HN.out]; exact ⟨none, 0, rfl, rowRep.nil _ _ _ _, by (repeat' (first | with_reducible exact Below.refl _ _ | with_reducible assumption | with_reducible refine Below.drew ?_ | with_reducible refine Below_drewN ?_ _ | with_reducible refine Below.alloc ?_ ?_ _ | with_reducible refine Below.setCell ?_ ?_ _ | omega | (simp; done) | (simp; omega)))⟩
  by_cases h3 : t.n ≤ s
  · have HN := Lib.hid (hsp.out.symm.trans (reaches_nil (.inr (.inr h3))))
    clear hsp
    rw [h1]
    clear h1
    generalize topoWrong t = we at *
    go_wp2
    go_ret; rw [HN.out]; exact ⟨none, 0, rfl, rowRep.nil _ _ _ _, by (repeat' (first | with_reducible exact Below.refl _ _ | with_reducible assumption | with_reducible refine Below.drew ?_ | with_reducible refine Below_drewN ?_ _ | with_reducible refine Below.alloc ?_ ?_ _ | with_reducible refine Below.setCell ?_ ?_ _ | omega | (simp; done) | (simp; omega)))⟩
  obtain ⟨c, hc⟩ : ∃ c, reachFrom t 9 0 [s] = c := ⟨_, rfl⟩
  have HS := Lib.hid ((hsp.out.symm.trans (reaches_some h1 (by omega) (by omega))).trans (congrArg sortI hc))
  have hst := Lib.hid hc
  clear hc
  clear hsp
  rw [h1]
  have hcr := cost_range h1
  clear h1
  have hR0 : Round t s 0 [s] := Round.start (by omega) (by omega)
  go_wp2
  go_loopw [5, 6, 7] (fun out i _ wr => ∃ (k : Nat) (o : List Int) (ao : Option Addr) (cap : Nat), out = .slice ao o.length cap ∧ i = .int .i64 k ∧ Round t s k o ∧ Hid (reachFrom t (9 - k) k o = c) ∧ ownR intS 3 (fun _ => False) w1.heap.size wr ao o.length cap o ∧ Below w.heap.size w wr ∧ w1.heap.size ≤ wr.heap.size ∧ blockIs wr w.heap.size 24 #[.int .i64 t.n, .slice la t.links.length lc]) (fun _ i _ _ => 9 - (intOf i).toNat)
  case atStart =>
    refine ⟨0, [s], _, 1, rfl, rfl, hR0, hst, ownR.lit (n := 1) (cs := [.int .i64 s]) rfl rfl (Nat.le_refl _) (by simp only [maxLen]; omega) (ints_rep (xs := [s]) (by simpa using hs)) (fun _ h => h.elim), by (repeat' (first | with_reducible exact Below.refl _ _ | with_reducible assumption | with_reducible refine Below.drew ?_ | with_reducible refine Below_drewN ?_ _ | with_reducible refine Below.alloc ?_ ?_ _ | with_reducible refine Below.setCell ?_ ?_ _ | omega | (simp; done) | (simp; omega))), by simp, hT1.alloc _⟩
  case round =>
    obtain ⟨k, o, ao, cap, rfl, rfl, hR, hall, hown, hb, hz, hB⟩ := hrel
    obtain ⟨r1, r2⟩ := hB.cells
    have hlen := hR.len
    have hkl := hR.le
    have hzB := hB.lt
    by_cases hlt : k < o.length
    case neg =>
      have HE := Lib.hid (HS.out.trans (congrArg sortI (reach_end hall.out.symm hlt)))
      have b1 : ¬ (k : Int) < (o.length : Int) := by omega
      clear hall
      go_wp2_with fail
      refine (sort_c 3 w1.heap.size _ ao _ cap o (by first | exact hown | exact hown.drew | exact hown.below (by (repeat' (first | with_reducible exact Below.refl _ _ | with_reducible assumption | with_reducible refine Below.drew ?_ | with_reducible refine Below_drewN ?_ _ | with_reducible refine Below.alloc ?_ ?_ _ | with_reducible refine Below.setCell ?_ ?_ _ | omega | (simp; done) | (simp; omega))))) (fun e => by have := hR.first; rw [e] at this; cases this) (by omega) (by first | omega | (simp; done) | (simp; omega))).mono ?_
      rintro e w2 ⟨rfl, hr2, hb2⟩
      go_wp2
      go_ret
      rw [HE.out]
      refine ⟨ao, cap, ?_, hr2.mono (fun b _ hk => ⟨Nat.le_trans hB1.size hk, rfl⟩), hb.trans (hb2.mono hB1.size)⟩
      rw [(sortI_perm o).length_eq]; rfl
    obtain ⟨x, hx⟩ : ∃ x, o[k]? = some x := ⟨_, List.getElem?_eq_getElem hlt⟩
    have hk9 : 9 - k = (9 - (k + 1)) + 1 := by omega
    have HN := Lib.hid (reach_step (t := t) (f := 9 - (k + 1)) (i := k) (o := o) (c := c) (by rw [← hk9]; exact hall.out.symm) hx)
    have hRn := hR.next hx
    clear hall
    have b0 : (0 : Int) ≤ (k : Int) := by omega
    have b1 : (k : Int) < (o.length : Int) := by omega
    have hnn : ((t.n.toNat : Nat) : Int) = t.n := by omega
    go_wp2
    go_loopw [5, 7, 32] (fun out _ idx wr2 => ∃ (m : Nat) (ao' : Option Addr) (cap' : Nat), out = .slice ao' (visit t x o m).length cap' ∧ idx = .int .i64 m ∧ m ≤ t.n.toNat ∧ ownR intS 3 (fun _ => False) w1.heap.size wr2 ao' (visit t x o m).length cap' (visit t x o m) ∧ Below w.heap.size w wr2 ∧ w1.heap.size ≤ wr2.heap.size ∧ blockIs wr2 w.heap.size 24 #[.int .i64 t.n, .slice la t.links.length lc]) (fun _ _ idx _ => t.n.toNat - (intOf idx).toNat)
    case atStart => exact ⟨0, ao, cap, rfl, rfl, Nat.zero_le _, hown, hb, hz, hB⟩
    case round =>
      obtain ⟨m, ao', cap', rfl, rfl, hm, hown', hb', hz', hB'⟩ := hrel
      clear r1 r2
      obtain ⟨r1, r2⟩ := hB'.cells
      have hzB' := hB'.lt
      by_cases hmn : m < t.n.toNat
      case neg =>
        have d1 : ¬ (m : Int) < t.n := by omega
        obtain rfl : m = t.n.toNat := by omega
        go_wp2
        case roundEnd =>
          go_roundw
          case rel => exact ⟨k + 1, _, ao', cap', rfl, by go_num, hRn, Lib.hid HN.out.symm, hown', hb', hz', hB'⟩
          case measure => simp [intOf]; omega
      have hpre := visit_pre t x o m
      have hx' := prefix_get hpre hx
      have hvl : (visit t x o m).length ≤ 8 := by
        have := nodup_len (visit_nodup (x := x) hR.nd m) (visit_range (x := x) hR.rng (show (m : Int) ≤ t.n by omega))
        omega
      have hkl' : k < (visit t x o m).length := (List.getElem?_eq_some_iff.1 hx').1
      have hrow : rowRep intS (fun _ => True) wr ao' cap' (visit t x o m) := hown'.row (fun _ h => h.elim) (fun _ _ => trivial)
      obtain ⟨g, off, rfl, _, hg, cs, ⟨rfl, hxI⟩, hce⟩ := hrow.get hx'
      have e0 := hce 0 _ rfl
      simp only [intS, Nat.add_zero, Nat.mul_one] at e0
      clear hce
      have hcost := fun w' (hw' : Below wr.heap.size wr w') => cost_c t [.int .i64 t.n, .slice la t.links.length lc] ok x m w' (topoS.below hT (hb'.trans (hw'.mono (Nat.le_of_lt hzB'))))
      have hcon := fun w' (hw' : Below wr.heap.size wr w') => containsI_c (visit t x o m) m (fun _ => True) (some ⟨g, off, none⟩) cap' w' (hrow.below hw')
      have V1 : 0 < costOf t x m → (m : Int) ∉ visit t x o m → visit t x o (m + 1) = visit t x o m ++ [(m : Int)] := fun h1 h2 => by simp only [visit]; rw [if_pos ⟨h1, h2⟩]
      have V2 : ¬ (0 < costOf t x m ∧ (m : Int) ∉ visit t x o m) → visit t x o (m + 1) = visit t x o m := fun h1 => by simp only [visit]; rw [if_neg h1]
      have d1 : (m : Int) < t.n := by omega
      have d2 : (k : Int) < ((visit t x o m).length : Int) := by omega
      have d3 : ((k : Int)).toNat = k := by omega
      have hmI : I64 (m : Int) := by simp only [I64]; omega
      go_wp2
      have hT0 : SL w.heap.size g (off + k) t.n la t.links.length lc x wr.drew := ⟨r1 0, r1 1, e0⟩
      refine wp_region_K (SL w.heap.size g (off + k) t.n la t.links.length lc x) 99 (by kernel_rfl) ?_
      have hS := hT0
      refine wpAnyK_take' (i := 0) (.agg #[.int .i64 t.n, .slice la t.links.length lc]) rfl (by kernel_rfl) (fun _ _ _ h => h) hS (yields_value (by kernel_rfl) (by intro w0 hw0; have hw1 := hw0; simp only [SL] at hw1; go_simp)) ?_; simp only [Act.put, List.getElem_toArray, List.getElem_cons_succ, List.getElem_cons_zero, List.setIfInBounds_toArray, List.set_cons_succ, List.set_cons_zero]
      refine wpAnyK_take' (i := 1) (.slice (some ⟨g, off, none⟩) (visit t x o m).length cap') rfl (by kernel_rfl) (fun _ _ _ h => h) hS (yields_value (by kernel_rfl) (by intro w0 hw0; have hw1 := hw0; simp only [SL] at hw1; go_simp)) ?_; simp only [Act.put, List.getElem_toArray, List.getElem_cons_succ, List.getElem_cons_zero, List.setIfInBounds_toArray, List.set_cons_succ, List.set_cons_zero]
      refine wpAnyK_take' (i := 2) (.int .i64 k) rfl (by kernel_rfl) (fun _ _ _ h => h) hS (yields_value (by kernel_rfl) (by intro w0 hw0; have hw1 := hw0; simp only [SL] at hw1; go_simp)) ?_; simp only [Act.put, List.getElem_toArray, List.getElem_cons_succ, List.getElem_cons_zero, List.setIfInBounds_toArray, List.set_cons_succ, List.set_cons_zero]
      refine wpAnyK_take' (i := 3) (.pointer (some ⟨g, off + k, none⟩)) rfl (by kernel_rfl) (fun _ _ _ h => h) hS (yields_value (by kernel_rfl) (by intro w0 hw0; have hw1 := hw0; simp only [SL] at hw1; go_simp)) ?_; simp only [Act.put, List.getElem_toArray, List.getElem_cons_succ, List.getElem_cons_zero, List.setIfInBounds_toArray, List.set_cons_succ, List.set_cons_zero]
      refine wpAnyK_take' (i := 4) (.int .i64 x) rfl (by kernel_rfl) (fun _ _ _ h => h) hS (yields_value (by kernel_rfl) (by intro w0 hw0; have hw1 := hw0; simp only [SL] at hw1; go_simp)) ?_; simp only [Act.put, List.getElem_toArray, List.getElem_cons_succ, List.getElem_cons_zero, List.setIfInBounds_toArray, List.set_cons_succ, List.set_cons_zero]
      refine wpAnyK_take' (i := 5) (.int .i64 m) rfl (by kernel_rfl) (fun _ _ _ h => h) hS (yields_value (by kernel_rfl) (by intro w0 hw0; have hw1 := hw0; simp only [SL] at hw1; go_simp)) ?_; simp only [Act.put, List.getElem_toArray, List.getElem_cons_succ, List.getElem_cons_zero, List.setIfInBounds_toArray, List.set_cons_succ, List.set_cons_zero]
      refine wpAnyK_call (i := 6) rfl (by kernel_rfl) (by kernel_rfl) fun K6 hK6 => ?_
      go_simp
      go_wp2_with fail
      refine (hcost _ (by (repeat' (first | with_reducible exact Below.refl _ _ | with_reducible assumption | with_reducible refine Below.drew ?_ | with_reducible refine Below_drewN ?_ _ | with_reducible refine Below.alloc ?_ ?_ _ | with_reducible refine Below.setCell ?_ ?_ _ | omega | (simp; done) | (simp; omega))))).mono ?_
      rintro e w2 ⟨rfl, hb2⟩
      have hb22 : Below wr.heap.size wr w2 := Below.trans (by (repeat' (first | with_reducible exact Below.refl _ _ | with_reducible assumption | with_reducible refine Below.drew ?_ | with_reducible refine Below_drewN ?_ _ | with_reducible refine Below.alloc ?_ ?_ _ | with_reducible refine Below.setCell ?_ ?_ _ | omega | (simp; done) | (simp; omega)))) (hb2.mono (by first | omega | (simp; done) | (simp; omega)))
      have hS2 : SL w.heap.size g (off + k) t.n la t.links.length lc x w2 := hT0.keep hb2 (by first | omega | (simp; done) | (simp; omega)) (by first | omega | (simp; done) | (simp; omega))
      have hB2 := hB'.under hb22
      have hb2' : Below w.heap.size w w2 := hb'.trans (hb22.mono (Nat.le_of_lt hzB'))
      have hown2 := hown'.below hb22
      have hz2' := hb22.size
      have hcon2 := hcon w2 hb22
      clear hb2 hS hT0 r1 r2 hcost hcon e0 hown' hb'
      have hS := hS2
      have hcx := hcr x m
      by_cases c1 : 0 < costOf t x m
      case neg =>
        have V3 := V2 (fun h => c1 h.1)
        have c2 : ((0 : Int) < costOf t x m) = False := by simp only [eq_iff_iff, iff_false]; exact c1
        go_wp2_with fail
        refine hK6 _ _ (fun _ => hS) ?_
        clear hK6
        refine wpAnyK_take' (i := 7) (.bool false) rfl (by kernel_rfl) (fun _ _ _ h => h) hS (yields_value (by kernel_rfl) (by intro w0 hw0; have hw1 := hw0; simp only [SL] at hw1; go_simp)) ?_; simp only [Act.put, List.getElem_toArray, List.getElem_cons_succ, List.getElem_cons_zero, List.setIfInBounds_toArray, List.set_cons_succ, List.set_cons_zero]
        refine wpAnyK_take' (i := 8) (.bool false) rfl (by kernel_rfl) (fun _ _ _ h => h) hS (yields_value (by kernel_rfl) (by intro w0 hw0; have hw1 := hw0; simp only [SL] at hw1; go_simp)) ?_; simp only [Act.put, List.getElem_toArray, List.getElem_cons_succ, List.getElem_cons_zero, List.setIfInBounds_toArray, List.set_cons_succ, List.set_cons_zero]
        refine wpAnyK_take' (i := 9) undef rfl (by kernel_rfl) (fun _ _ _ h => h) hS (.inr ⟨by kernel_rfl, rfl⟩) ?_; simp only [Act.put, List.getElem_toArray, List.getElem_cons_succ, List.getElem_cons_zero, List.setIfInBounds_toArray, List.set_cons_succ, List.set_cons_zero]
        refine wpAnyK_take' (i := 10) undef rfl (by kernel_rfl) (fun _ _ _ h => h) hS (.inr ⟨by kernel_rfl, rfl⟩) ?_; simp only [Act.put, List.getElem_toArray, List.getElem_cons_succ, List.getElem_cons_zero, List.setIfInBounds_toArray, List.set_cons_succ, List.set_cons_zero]
        refine wpAnyK_take' (i := 11) undef rfl (by kernel_rfl) (fun _ _ _ h => h) hS (.inr ⟨by kernel_rfl, rfl⟩) ?_; simp only [Act.put, List.getElem_toArray, List.getElem_cons_succ, List.getElem_cons_zero, List.setIfInBounds_toArray, List.set_cons_succ, List.set_cons_zero]
        refine wpAnyK_take' (i := 12) undef rfl (by kernel_rfl) (fun _ _ _ h => h) hS (.inr ⟨by kernel_rfl, rfl⟩) ?_; simp only [Act.put, List.getElem_toArray, List.getElem_cons_succ, List.getElem_cons_zero, List.setIfInBounds_toArray, List.set_cons_succ, List.set_cons_zero]
        refine wpAnyK_take' (i := 13) (.bool false) rfl (by kernel_rfl) (fun _ _ _ h => h) hS (yields_value (by kernel_rfl) (by intro w0 hw0; have hw1 := hw0; simp only [SL] at hw1; go_simp)) ?_; simp only [Act.put, List.getElem_toArray, List.getElem_cons_succ, List.getElem_cons_zero, List.setIfInBounds_toArray, List.set_cons_succ, List.set_cons_zero]
        refine wpAnyK_done (by kernel_rfl) ?_ _
        clear hS hS2 V1 V2 hcon2
        go_wp2
        case roundEnd =>
          go_roundw
          case rel => exact ⟨m + 1, _, cap', by rw [V3], by go_num, by omega, by rw [V3]; exact hown2, hb2', by omega, hB2⟩
          case measure => simp [intOf]; omega
      by_cases c2 : (m : Int) ∈ visit t x o m
      · have V3 := V2 (fun h => h.2 c2)
        rw [decide_eq_true c2] at hcon2
        clear V1 V2 c2
        have HC := Lib.hid hcon2
        have HV := Lib.hid V3
        clear hcon2 V3
        go_wp2_with fail
        refine hK6 _ _ (fun _ => hS) ?_
        clear hK6
        refine wpAnyK_take' (i := 7) (.bool true) rfl (by kernel_rfl) (fun _ _ _ h => h) hS (yields_value (by kernel_rfl) (by intro w0 hw0; have hw1 := hw0; simp only [SL] at hw1; go_simp)) ?_; simp only [Act.put, List.getElem_toArray, List.getElem_cons_succ, List.getElem_cons_zero, List.setIfInBounds_toArray, List.set_cons_succ, List.set_cons_zero]
        refine wpAnyK_take' (i := 8) (.bool true) rfl (by kernel_rfl) (fun _ _ _ h => h) hS (yields_value (by kernel_rfl) (by intro w0 hw0; have hw1 := hw0; simp only [SL] at hw1; go_simp)) ?_; simp only [Act.put, List.getElem_toArray, List.getElem_cons_succ, List.getElem_cons_zero, List.setIfInBounds_toArray, List.set_cons_succ, List.set_cons_zero]
        refine wpAnyK_take' (i := 9) (.slice (some ⟨g, off, none⟩) (visit t x o m).length cap') rfl (by kernel_rfl) (fun _ _ _ h => h) hS (yields_value (by kernel_rfl) (by intro w0 hw0; have hw1 := hw0; simp only [SL] at hw1; go_simp)) ?_; simp only [Act.put, List.getElem_toArray, List.getElem_cons_succ, List.getElem_cons_zero, List.setIfInBounds_toArray, List.set_cons_succ, List.set_cons_zero]
        refine wpAnyK_take' (i := 10) (.int .i64 m) rfl (by kernel_rfl) (fun _ _ _ h => h) hS (yields_value (by kernel_rfl) (by intro w0 hw0; have hw1 := hw0; simp only [SL] at hw1; go_simp)) ?_; simp only [Act.put, List.getElem_toArray, List.getElem_cons_succ, List.getElem_cons_zero, List.setIfInBounds_toArray, List.set_cons_succ, List.set_cons_zero]
        refine wpAnyK_call (i := 11) rfl (by kernel_rfl) (by kernel_rfl) fun K11 hK11 => ?_
        go_simp
        go_wp2_with fail
        refine HC.out.mono ?_
        rintro e w3 ⟨rfl, rfl⟩
        go_wp2_with fail
        refine hK11 _ _ (fun _ => hS) ?_
        clear hK11
        refine wpAnyK_take' (i := 12) (.bool false) rfl (by kernel_rfl) (fun _ _ _ h => h) hS (yields_value (by kernel_rfl) (by intro w0 hw0; have hw1 := hw0; simp only [SL] at hw1; go_simp)) ?_; simp only [Act.put, List.getElem_toArray, List.getElem_cons_succ, List.getElem_cons_zero, List.setIfInBounds_toArray, List.set_cons_succ, List.set_cons_zero]
        refine wpAnyK_take' (i := 13) (.bool false) rfl (by kernel_rfl) (fun _ _ _ h => h) hS (yields_value (by kernel_rfl) (by intro w0 hw0; have hw1 := hw0; simp only [SL] at hw1; go_simp)) ?_; simp only [Act.put, List.getElem_toArray, List.getElem_cons_succ, List.getElem_cons_zero, List.setIfInBounds_toArray, List.set_cons_succ, List.set_cons_zero]
        refine wpAnyK_done (by kernel_rfl) ?_ _
        clear hS hS2
        go_wp2
        case roundEnd =>
          go_roundw
          case rel => exact ⟨m + 1, _, cap', by rw [HV.out], by go_num, by omega, by rw [HV.out]; exact hown2, hb2', by omega, hB2⟩
          case measure => simp [intOf]; omega
      · have V3 := V1 c1 c2
        rw [decide_eq_false c2] at hcon2
        clear V1 V2 c2
        have HC := Lib.hid hcon2
        have HV := Lib.hid V3
        clear hcon2 V3
        go_wp2_with fail
        refine hK6 _ _ (fun _ => hS) ?_
        clear hK6
        refine wpAnyK_take' (i := 7) (.bool true) rfl (by kernel_rfl) (fun _ _ _ h => h) hS (yields_value (by kernel_rfl) (by intro w0 hw0; have hw1 := hw0; simp only [SL] at hw1; go_simp)) ?_; simp only [Act.put, List.getElem_toArray, List.getElem_cons_succ, List.getElem_cons_zero, List.setIfInBounds_toArray, List.set_cons_succ, List.set_cons_zero]
        refine wpAnyK_take' (i := 8) (.bool true) rfl (by kernel_rfl) (fun _ _ _ h => h) hS (yields_value (by kernel_rfl) (by intro w0 hw0; have hw1 := hw0; simp only [SL] at hw1; go_simp)) ?_; simp only [Act.put, List.getElem_toArray, List.getElem_cons_succ, List.getElem_cons_zero, List.setIfInBounds_toArray, List.set_cons_succ, List.set_cons_zero]
        refine wpAnyK_take' (i := 9) (.slice (some ⟨g, off, none⟩) (visit t x o m).length cap') rfl (by kernel_rfl) (fun _ _ _ h => h) hS (yields_value (by kernel_rfl) (by intro w0 hw0; have hw1 := hw0; simp only [SL] at hw1; go_simp)) ?_; simp only [Act.put, List.getElem_toArray, List.getElem_cons_succ, List.getElem_cons_zero, List.setIfInBounds_toArray, List.set_cons_succ, List.set_cons_zero]
        refine wpAnyK_take' (i := 10) (.int .i64 m) rfl (by kernel_rfl) (fun _ _ _ h => h) hS (yields_value (by kernel_rfl) (by intro w0 hw0; have hw1 := hw0; simp only [SL] at hw1; go_simp)) ?_; simp only [Act.put, List.getElem_toArray, List.getElem_cons_succ, List.getElem_cons_zero, List.setIfInBounds_toArray, List.set_cons_succ, List.set_cons_zero]
        refine wpAnyK_call (i := 11) rfl (by kernel_rfl) (by kernel_rfl) fun K11 hK11 => ?_
        go_simp
        go_wp2_with fail
        refine HC.out.mono ?_
        rintro e w3 ⟨rfl, rfl⟩
        go_wp2_with fail
        refine hK11 _ _ (fun _ => hS) ?_
        clear hK11
        refine wpAnyK_take' (i := 12) (.bool true) rfl (by kernel_rfl) (fun _ _ _ h => h) hS (yields_value (by kernel_rfl) (by intro w0 hw0; have hw1 := hw0; simp only [SL] at hw1; go_simp)) ?_; simp only [Act.put, List.getElem_toArray, List.getElem_cons_succ, List.getElem_cons_zero, List.setIfInBounds_toArray, List.set_cons_succ, List.set_cons_zero]
        refine wpAnyK_take' (i := 13) (.bool true) rfl (by kernel_rfl) (fun _ _ _ h => h) hS (yields_value (by kernel_rfl) (by intro w0 hw0; have hw1 := hw0; simp only [SL] at hw1; go_simp)) ?_; simp only [Act.put, List.getElem_toArray, List.getElem_cons_succ, List.getElem_cons_zero, List.setIfInBounds_toArray, List.set_cons_succ, List.set_cons_zero]
        refine wpAnyK_done (by kernel_rfl) ?_ _
        clear hS hS2
        go_wp2_with (at_builtin; go_must (refine wpList_appR (sh := intS) rfl _ _ 25 rfl 3 i0 (.int .i64 0) 8 Try.underlying25 hi hz0 hz1 hz2 rfl (by decide) rfl (hown2.alloc _) rfl rfl (srcRep.ints [(m : Int)] rfl (by simpa using hmI)) (by simp only [maxLen]; omega) (by omega) (by first | omega | (simp; done) | (simp; omega)) ?_); go_must (intro ao3 cap3 w4 hown3 hg3 _; have hb3 := grown_below (B := w1.heap.size) hg3 (fun k hk => (hown2.lt k hk).1) (by first | omega | (simp; done) | (simp; omega))))
        case roundEnd =>
          go_roundw
          case rel =>
            refine ⟨m + 1, ao3, cap3, by rw [HV.out, List.length_append]; rfl, by go_num, by omega, by rw [HV.out, List.length_append]; exact hown3, hb2'.trans (Below.trans (by (repeat' (first | with_reducible exact Below.refl _ _ | with_reducible assumption | with_reducible refine Below.drew ?_ | with_reducible refine Below_drewN ?_ _ | with_reducible refine Below.alloc ?_ ?_ _ | with_reducible refine Below.setCell ?_ ?_ _ | omega | (simp; done) | (simp; omega)))) (hb3.mono hB1.size)), ?_, ?_⟩
            · have := hb3.size; simp at this; omega
            · exact (hB2.alloc _).below hb3 hw1
          case measure => simp [intOf]; omega

end Go.Proofs.Ytflhmpmdpdekeaa
