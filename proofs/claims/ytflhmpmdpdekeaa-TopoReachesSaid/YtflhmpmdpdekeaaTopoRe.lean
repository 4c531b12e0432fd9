/-
  The walk of TopoReaches.
-/
import Derived.Test.YtflhmpmdpdekeaaAlive1
import Derived.Test.YtflhmpmdpdekeaaTopoBk
import Derived.Test.YtflhmpmdpdekeaaMapsB
import Derived.WalkKit
import Derived.WalkSpells
import Derived.WalkLawsBesides
import Derived.Lib.Hide
import Derived.Deep.LoopGhost
import Derived.Deep.QuietTactic
import Derived.BigQuiet
import Derived.Deep.RegionWith
import Derived.Handy
set_option linter.unusedSimpArgs false
set_option linter.unusedVariables false
namespace Go.Proofs.Ytflhmpmdpdekeaa
open Go.RowKit Go.St

theorem maps_info : (Try.prog.info? 58).map (fun i => (i.zero, i.size, i.bytes)) = some (some (.map none), 1, 8) := by kernel_rfl
theorem int_law : KeyLaw Try.prog 3 (Value.int .i64) := KeyLaw.int Try.underlying3

set_option maxRecDepth 100000 in
set_option maxHeartbeats 16000000 in
theorem topoReaches_c (w : World) (t : Topo) (cs : List Value) (ok : Nat → Prop) (h : topoS.rep ok w cs t) :
    Calls Try.prog 9 #[.agg cs.toArray] w fun e w' => e = .returned (.bool true) ∧ Below w.heap.size w w' := by
  have hT := h
  obtain ⟨la, lc, rfl, hn, hr⟩ := h
  obtain ⟨i0, hi, hz0, hz1', hz2⟩ := info_parts maps_info
  have hfd := fault_err0
  have hmm := @run_makeMap Try.prog
  go_enter Try.func9, Try.ntmps9
  go_wp2_with fail
  refine (alive1_c _).mono ?_
  rintro e w1 ⟨rfl, hb1⟩
  have hB1 : Below w.heap.size w w1 := Below.trans (by (repeat' (first | with_reducible exact Below.refl _ _ | with_reducible assumption | with_reducible refine Below.drew ?_ | with_reducible refine Below_drewN ?_ _ | with_reducible refine Below.alloc ?_ ?_ _ | with_reducible refine Below.setCell ?_ ?_ _ | omega | (simp; done) | (simp; omega)))) (hb1.mono (by simp))
  have hT1 : blockIs w1 w.heap.size 24 #[.int .i64 t.n, .slice la t.links.length lc] := (blockIs.new rfl).under hb1
  obtain ⟨t1, t2⟩ := hT1.cells
  have hz1 := hB1.size
  clear hb1
  go_wp2_with fail
  refine (topoWrong_c t _ ok _ (topoS.below hT (by (repeat' (first | with_reducible exact Below.refl _ _ | with_reducible assumption | with_reducible refine Below.drew ?_ | with_reducible refine Below_drewN ?_ _ | with_reducible refine Below.alloc ?_ ?_ _ | with_reducible refine Below.setCell ?_ ?_ _ | omega | (simp; done) | (simp; omega)))))).mono ?_
  rintro e w2 ⟨rfl, hb2⟩
  have hb12 : Below w1.heap.size w1 w2 := Below.trans (by (repeat' (first | with_reducible exact Below.refl _ _ | with_reducible assumption | with_reducible refine Below.drew ?_ | with_reducible refine Below_drewN ?_ _ | with_reducible refine Below.alloc ?_ ?_ _ | with_reducible refine Below.setCell ?_ ?_ _ | omega | (simp; done) | (simp; omega)))) (hb2.mono (by simp))
  have hB2 : Below w.heap.size w w2 := hB1.trans (hb12.mono hz1)
  have hT2 := hT1.under hb12
  clear t1 t2 hb2 hT1 hb12
  obtain ⟨t1, t2⟩ := hT2.cells
  have hzz2 := hB2.size
  have hTl2 := hT2.lt
  by_cases h1 : (topoWrong t).1 = 0
  case neg =>
    have h1' : ((topoWrong t).1 != 0) = true := by rw [bne_iff_ne]; exact h1
    have hnil : reaches t 0 = [] := reaches_nil (.inl h1)
    clear h1
    generalize topoWrong t = we at *
    go_wp2_with fail
    have hRc := fun w' (hw' : Below w.heap.size w w') => reaches_c t [.int .i64 t.n, .slice la t.links.length lc] ok 0 (I64.small (by decide) (by decide)) w' (topoS.below hT hw')
    rw [hnil] at hRc
    refine (hRc _ (hB2.trans (by (repeat' (first | with_reducible exact Below.refl _ _ | with_reducible assumption | with_reducible refine Below.drew ?_ | with_reducible refine Below_drewN ?_ _ | with_reducible refine Below.alloc ?_ ?_ _ | with_reducible refine Below.setCell ?_ ?_ _ | omega | (simp; done) | (simp; omega)))))).mono ?_
    rintro e w3 ⟨ao, cap, rfl, hr3, hb3⟩
    have hB3 : Below w.heap.size w w3 := hB2.trans (Below.trans (by (repeat' (first | with_reducible exact Below.refl _ _ | with_reducible assumption | with_reducible refine Below.drew ?_ | with_reducible refine Below_drewN ?_ _ | with_reducible refine Below.alloc ?_ ?_ _ | with_reducible refine Below.setCell ?_ ?_ _ | omega | (simp; done) | (simp; omega)))) (hb3.mono (by first | omega | (simp; done) | (simp; omega))))
    clear hRc hb3
    go_wp2
    go_ret; exact ⟨rfl, by (repeat' (first | with_reducible exact Below.refl _ _ | with_reducible assumption | with_reducible refine Below.drew ?_ | with_reducible refine Below_drewN ?_ _ | with_reducible refine Below.alloc ?_ ?_ _ | with_reducible refine Below.setCell ?_ ?_ _ | omega | (simp; done) | (simp; omega)))⟩
  have htr := (topo_right h1).1
  have hself : ∀ k : Nat, (k : Int) < t.n → (k : Int) ∈ reaches t k := fun k hk => (mem_reaches h1 (by omega) hk).2 (.refl _)
  have hsymm : ∀ a b : Nat, (a : Int) < t.n → (b : Int) < t.n → (b : Int) ∈ reaches t a → (a : Int) ∈ reaches t b := fun a b ha hb h => (mem_reaches h1 (by omega) hb).2 (((mem_reaches h1 (by omega) ha).1 h).back h1)
  have htrans : ∀ a b c : Nat, (a : Int) < t.n → (b : Int) < t.n → (b : Int) ∈ reaches t a → (c : Int) ∈ reaches t b → (c : Int) ∈ reaches t a := fun a b c ha hb h k => (mem_reaches h1 (by omega) ha).2 (((mem_reaches h1 (by omega) ha).1 h).trans ((mem_reaches h1 (by omega) hb).1 k))
  have hcost : ∀ a b : Nat, (a : Int) < t.n → (b : Int) < t.n → 0 < costOf t a b → (b : Int) ∈ reaches t a := fun a b ha hb h => (mem_reaches h1 (by omega) ha).2 ((Way.refl _).step h (by omega) hb)
  have Hself := Lib.hid hself
  have Hsymm := Lib.hid hsymm
  have Htrans := Lib.hid htrans
  have Hcost := Lib.hid hcost
  clear hself hsymm htrans hcost
  have Hlen : ∀ a : Int, (reaches t a).length ≤ 8 := fun a => reaches_len
  rw [h1]
  clear h1
  generalize topoWrong t = we at *
  have hnn : ((t.n.toNat : Nat) : Int) = t.n := by omega
  have hrun := fun w' => run_make (P := Try.prog) w' 57 58 i0 (.map none) Try.underlying57 hi hz0 .i64 .i64 t.n t.n (by omega) (Int.le_refl _) (by rw [hz2]; omega) (by omega)
  rw [hz1', Nat.mul_one] at hrun
  have hmk : ∀ w', (Instr.makeSlice 57 (.int .i64 t.n) (.int .i64 t.n)).run Try.prog w' = .ok (.slice (some ⟨w'.heap.size, 0, none⟩) t.n.toNat t.n.toNat) (w'.alloc (.cells (cellsM t.n.toNat []) 58)) := fun w' => by rw [← cellsM.start]; exact hrun w'
  clear hrun
  have hB3 : Below w.heap.size w (w2.alloc (.cells (cellsM t.n.toNat []) 58)) := by (repeat' (first | with_reducible exact Below.refl _ _ | with_reducible assumption | with_reducible refine Below.drew ?_ | with_reducible refine Below_drewN ?_ _ | with_reducible refine Below.alloc ?_ ?_ _ | with_reducible refine Below.setCell ?_ ?_ _ | omega | (simp; done) | (simp; omega)))
  have hT3 : blockIs (w2.alloc (.cells (cellsM t.n.toNat []) 58)) w.heap.size 24 #[.int .i64 t.n, .slice la t.links.length lc] := hT2.alloc _
  have hTab : Tab t (w2.alloc (.cells (cellsM t.n.toNat []) 58)) w2.heap.size 58 [] := ⟨blockIs.new rfl, fun i r h => by simp at h⟩
  have hl3 : w2.heap.size < (w2.alloc (.cells (cellsM t.n.toNat []) 58)).heap.size := by simp
  go_wp2
  clear hmk t1 t2
  generalize w2.alloc (.cells (cellsM t.n.toNat []) 58) = w3 at *
  go_loopw [4, 6, 25] (fun _ _ idx wr => ∃ (k : Nat) (rs : List Nat), idx = .int .i64 k ∧ k ≤ t.n.toNat ∧ rs.length = k ∧ Tab t wr w2.heap.size 58 rs ∧ Below w.heap.size w wr ∧ blockIs wr w.heap.size 24 #[.int .i64 t.n, .slice la t.links.length lc]) (fun _ _ idx _ => t.n.toNat - (intOf idx).toNat)
  case atStart => exact ⟨0, [], rfl, Nat.zero_le _, rfl, hTab, hB3, hT3⟩
  case round =>
    obtain ⟨k, rs, rfl, hk, hrl, tab, hb, hB⟩ := hrel
    rename World => wo
    clear hTab hT3 hl3
    have hzB := hb.size
    have hBl := hB.lt
    have htl := tab.blk.lt
    by_cases hkn : k < t.n.toNat
    case neg =>
      obtain rfl : k = t.n.toNat := by omega
      have d1 : ¬ t.n < t.n := by omega
      have d1' : ¬ (t.n.toNat : Int) < (t.n.toNat : Int) := by omega
      have hrs : ∀ i : Nat, (i : Int) < t.n → ∃ r, rs[i]? = some r := fun i hi => ⟨_, List.getElem?_eq_getElem (by omega)⟩
      clear hk hkn
      go_wp2
      go_loopw [7, 8, 9, 56] (fun _ _ _ idx wr2 => ∃ a : Nat, idx = .int .i64 a ∧ a ≤ t.n.toNat ∧ Below wo.heap.size wo wr2) (fun _ _ _ idx _ => t.n.toNat - (intOf idx).toNat)
      case atStart => exact ⟨0, rfl, Nat.zero_le _, by (repeat' (first | with_reducible exact Below.refl _ _ | with_reducible assumption | with_reducible refine Below.drew ?_ | with_reducible refine Below_drewN ?_ _ | with_reducible refine Below.alloc ?_ ?_ _ | with_reducible refine Below.setCell ?_ ?_ _ | omega | (simp; done) | (simp; omega)))⟩
      case round =>
        obtain ⟨a, rfl, ha, hb1⟩ := hrel
        rename World => wa
        by_cases han : a < t.n.toNat
        case neg =>
          have c1 : ¬ (a : Int) < (t.n.toNat : Int) := by omega
          go_wp2
          go_ret; exact ⟨rfl, hb.trans (Below.trans (hb1.mono hzB) (by (repeat' (first | with_reducible exact Below.refl _ _ | with_reducible assumption | with_reducible refine Below.drew ?_ | with_reducible refine Below_drewN ?_ _ | with_reducible refine Below.alloc ?_ ?_ _ | with_reducible refine Below.setCell ?_ ?_ _ | omega | (simp; done) | (simp; omega)))))⟩
        have a1 : (a : Int) < t.n := by omega
        have a2 : (a : Int) < (t.n.toNat : Int) := by omega
        obtain ⟨ra, hra⟩ := hrs a a1
        obtain ⟨ra1, ra2, ea, ra3, ra4⟩ := tab.map a ra hra
        have ra5 := cellsM.get (n := t.n.toNat) hra
        clear hra
        go_wp2
        go_loopw [8, 9, 61] (fun _ _ idx wr2 => ∃ b : Nat, idx = .int .i64 b ∧ b ≤ t.n.toNat ∧ Below wo.heap.size wo wr2) (fun _ _ idx _ => t.n.toNat - (intOf idx).toNat)
        case atStart => exact ⟨0, rfl, Nat.zero_le _, by first | exact hb1 | (repeat' (first | with_reducible exact Below.refl _ _ | with_reducible assumption | with_reducible refine Below.drew ?_ | with_reducible refine Below_drewN ?_ _ | with_reducible refine Below.alloc ?_ ?_ _ | with_reducible refine Below.setCell ?_ ?_ _ | omega | (simp; done) | (simp; omega)))⟩
        case round =>
          obtain ⟨b, rfl, hbn', hb2⟩ := hrel
          rename World => wb
          by_cases hbn : b < t.n.toNat
          case neg =>
            have c1 : ¬ (b : Int) < (t.n.toNat : Int) := by omega
            go_wp2
            case roundEnd =>
              go_roundw
              case rel => exact ⟨a + 1, by go_num, by omega, hb2.trans (by (repeat' (first | with_reducible exact Below.refl _ _ | with_reducible assumption | with_reducible refine Below.drew ?_ | with_reducible refine Below_drewN ?_ _ | with_reducible refine Below.alloc ?_ ?_ _ | with_reducible refine Below.setCell ?_ ?_ _ | omega | (simp; done) | (simp; omega))))⟩
              case measure => simp [intOf] <;> omega
          have b1 : (b : Int) < t.n := by omega
          have b2 : (b : Int) < (t.n.toNat : Int) := by omega
          obtain ⟨rc, hrc⟩ := hrs b b1
          obtain ⟨rc1, rc2, eb, rc3, rc4⟩ := tab.map b rc hrc
          have rc5 := cellsM.get (n := t.n.toNat) hrc
          clear hrc
          have hT6 := hB.under hb2
          have hQ0 : SQ w.heap.size w2.heap.size t.n la t.links.length lc a b ra rc ea eb wb := ⟨hT6.cells.1 0, hT6.cells.1 1, ((tab.blk.under hb2).cells.1 a).trans ra5, ((tab.blk.under hb2).cells.1 b).trans rc5, ra3.below hb2 ra2, rc3.below hb2 rc2⟩
          have hcc := fun w' (hw' : Below w.heap.size w w') => cost_c t [.int .i64 t.n, .slice la t.links.length lc] ok a b w' (topoS.below hT hw')
          have hb26 : Below w.heap.size w wb := hb.trans (hb2.mono hzB)
          have hsw : Below wo.heap.size wo wb := hb2
          have hlaw := int_law
          have hWl := hb2.size
          go_wp2
          have hS0 : SQ w.heap.size w2.heap.size t.n la t.links.length lc a b ra rc ea eb wb.drew := hQ0
          refine wp_region_K (SQ w.heap.size w2.heap.size t.n la t.links.length lc a b ra rc ea eb) 99 (by kernel_rfl) ?_
          have hS := hS0
          by_cases m1 : (b : Int) ∈ reaches t a
          · have m2 := Hsymm.out a b a1 b1 m1
            have va : (getE (b : Int) ea).getD (.bool false) = .bool true := by rw [ra4 b, decide_eq_true m1]
            have vb : (getE (a : Int) eb).getD (.bool false) = .bool true := by rw [rc4 a, decide_eq_true m2]
            clear m2
            by_cases m3 : 0 < costOf t a b
            · have m3' : ((0 : Int) < costOf t a b) = True := eq_true m3
              clear m3
              refine wpAnyK_take' (i := 0) (.slice (some ⟨w2.heap.size, 0, none⟩) t.n.toNat t.n.toNat) rfl (by kernel_rfl) (fun _ _ _ h => h) hS (yields_value (by kernel_rfl) (by intro w0 hw0; have hw1 := hw0; simp only [SQ] at hw1; go_simp)) ?_; simp only [Act.put, List.getElem_toArray, List.getElem_cons_succ, List.getElem_cons_zero, List.setIfInBounds_toArray, List.set_cons_succ, List.set_cons_zero]
              refine wpAnyK_take' (i := 1) (.int .i64 a) rfl (by kernel_rfl) (fun _ _ _ h => h) hS (yields_value (by kernel_rfl) (by intro w0 hw0; have hw1 := hw0; simp only [SQ] at hw1; go_simp)) ?_; simp only [Act.put, List.getElem_toArray, List.getElem_cons_succ, List.getElem_cons_zero, List.setIfInBounds_toArray, List.set_cons_succ, List.set_cons_zero]
              refine wpAnyK_take' (i := 2) (.pointer (some ⟨w2.heap.size, a, none⟩)) rfl (by kernel_rfl) (fun _ _ _ h => h) hS (yields_value (by kernel_rfl) (by intro w0 hw0; have hw1 := hw0; simp only [SQ] at hw1; go_simp)) ?_; simp only [Act.put, List.getElem_toArray, List.getElem_cons_succ, List.getElem_cons_zero, List.setIfInBounds_toArray, List.set_cons_succ, List.set_cons_zero]
              refine wpAnyK_take' (i := 3) (.map (some ra)) rfl (by kernel_rfl) (fun _ _ _ h => h) hS (yields_value (by kernel_rfl) (by intro w0 hw0; have hw1 := hw0; simp only [SQ] at hw1; go_simp)) ?_; simp only [Act.put, List.getElem_toArray, List.getElem_cons_succ, List.getElem_cons_zero, List.setIfInBounds_toArray, List.set_cons_succ, List.set_cons_zero]
              refine wpAnyK_take' (i := 4) (.int .i64 b) rfl (by kernel_rfl) (fun _ _ _ h => h) hS (yields_value (by kernel_rfl) (by intro w0 hw0; have hw1 := hw0; simp only [SQ] at hw1; go_simp)) ?_; simp only [Act.put, List.getElem_toArray, List.getElem_cons_succ, List.getElem_cons_zero, List.setIfInBounds_toArray, List.set_cons_succ, List.set_cons_zero]
              refine wpAnyK_take' (i := 5) (.bool true) rfl (by kernel_rfl) (fun _ _ _ h => h) hS (yields_value (by kernel_rfl) (fun w0 hw0 => exec_lookupV (enc := Value.int .i64) _ _ 58 rfl 3 4 Try.underlying58 hlaw hw0.2.2.2.2.1 (b : Int) (.bool false) FZ.out va rfl rfl)) ?_; simp only [Act.put, List.getElem_toArray, List.getElem_cons_succ, List.getElem_cons_zero, List.setIfInBounds_toArray, List.set_cons_succ, List.set_cons_zero]
              refine wpAnyK_take' (i := 6) (.slice (some ⟨w2.heap.size, 0, none⟩) t.n.toNat t.n.toNat) rfl (by kernel_rfl) (fun _ _ _ h => h) hS (yields_value (by kernel_rfl) (by intro w0 hw0; have hw1 := hw0; simp only [SQ] at hw1; go_simp)) ?_; simp only [Act.put, List.getElem_toArray, List.getElem_cons_succ, List.getElem_cons_zero, List.setIfInBounds_toArray, List.set_cons_succ, List.set_cons_zero]
              refine wpAnyK_take' (i := 7) (.int .i64 b) rfl (by kernel_rfl) (fun _ _ _ h => h) hS (yields_value (by kernel_rfl) (by intro w0 hw0; have hw1 := hw0; simp only [SQ] at hw1; go_simp)) ?_; simp only [Act.put, List.getElem_toArray, List.getElem_cons_succ, List.getElem_cons_zero, List.setIfInBounds_toArray, List.set_cons_succ, List.set_cons_zero]
              refine wpAnyK_take' (i := 8) (.pointer (some ⟨w2.heap.size, b, none⟩)) rfl (by kernel_rfl) (fun _ _ _ h => h) hS (yields_value (by kernel_rfl) (by intro w0 hw0; have hw1 := hw0; simp only [SQ] at hw1; go_simp)) ?_; simp only [Act.put, List.getElem_toArray, List.getElem_cons_succ, List.getElem_cons_zero, List.setIfInBounds_toArray, List.set_cons_succ, List.set_cons_zero]
              refine wpAnyK_take' (i := 9) (.map (some rc)) rfl (by kernel_rfl) (fun _ _ _ h => h) hS (yields_value (by kernel_rfl) (by intro w0 hw0; have hw1 := hw0; simp only [SQ] at hw1; go_simp)) ?_; simp only [Act.put, List.getElem_toArray, List.getElem_cons_succ, List.getElem_cons_zero, List.setIfInBounds_toArray, List.set_cons_succ, List.set_cons_zero]
              refine wpAnyK_take' (i := 10) (.int .i64 a) rfl (by kernel_rfl) (fun _ _ _ h => h) hS (yields_value (by kernel_rfl) (by intro w0 hw0; have hw1 := hw0; simp only [SQ] at hw1; go_simp)) ?_; simp only [Act.put, List.getElem_toArray, List.getElem_cons_succ, List.getElem_cons_zero, List.setIfInBounds_toArray, List.set_cons_succ, List.set_cons_zero]
              refine wpAnyK_take' (i := 11) (.bool true) rfl (by kernel_rfl) (fun _ _ _ h => h) hS (yields_value (by kernel_rfl) (fun w0 hw0 => exec_lookupV (enc := Value.int .i64) _ _ 58 rfl 3 4 Try.underlying58 hlaw hw0.2.2.2.2.2 (a : Int) (.bool false) FZ.out vb rfl rfl)) ?_; simp only [Act.put, List.getElem_toArray, List.getElem_cons_succ, List.getElem_cons_zero, List.setIfInBounds_toArray, List.set_cons_succ, List.set_cons_zero]
              refine wpAnyK_take' (i := 12) (.bool false) rfl (by kernel_rfl) (fun _ _ _ h => h) hS (yields_value (by kernel_rfl) (by intro w0 hw0; have hw1 := hw0; simp only [SQ] at hw1; go_simp)) ?_; simp only [Act.put, List.getElem_toArray, List.getElem_cons_succ, List.getElem_cons_zero, List.setIfInBounds_toArray, List.set_cons_succ, List.set_cons_zero]
              refine wpAnyK_take' (i := 13) (.bool false) rfl (by kernel_rfl) (fun _ _ _ h => h) hS (yields_value (by kernel_rfl) (by intro w0 hw0; have hw1 := hw0; simp only [SQ] at hw1; go_simp)) ?_; simp only [Act.put, List.getElem_toArray, List.getElem_cons_succ, List.getElem_cons_zero, List.setIfInBounds_toArray, List.set_cons_succ, List.set_cons_zero]
              refine wpAnyK_take' (i := 14) (.agg #[.int .i64 t.n, .slice la t.links.length lc]) rfl (by kernel_rfl) (fun _ _ _ h => h) hS (yields_value (by kernel_rfl) (by intro w0 hw0; have hw1 := hw0; simp only [SQ] at hw1; go_simp)) ?_; simp only [Act.put, List.getElem_toArray, List.getElem_cons_succ, List.getElem_cons_zero, List.setIfInBounds_toArray, List.set_cons_succ, List.set_cons_zero]
              refine wpAnyK_take' (i := 15) (.int .i64 a) rfl (by kernel_rfl) (fun _ _ _ h => h) hS (yields_value (by kernel_rfl) (by intro w0 hw0; have hw1 := hw0; simp only [SQ] at hw1; go_simp)) ?_; simp only [Act.put, List.getElem_toArray, List.getElem_cons_succ, List.getElem_cons_zero, List.setIfInBounds_toArray, List.set_cons_succ, List.set_cons_zero]
              refine wpAnyK_take' (i := 16) (.int .i64 b) rfl (by kernel_rfl) (fun _ _ _ h => h) hS (yields_value (by kernel_rfl) (by intro w0 hw0; have hw1 := hw0; simp only [SQ] at hw1; go_simp)) ?_; simp only [Act.put, List.getElem_toArray, List.getElem_cons_succ, List.getElem_cons_zero, List.setIfInBounds_toArray, List.set_cons_succ, List.set_cons_zero]
              refine wpAnyK_call (i := 17) rfl (by kernel_rfl) (by kernel_rfl) fun K17 hK17 => ?_
              go_simp
              go_wp2_with fail
              refine (hcc _ (hb26.trans (by (repeat' (first | with_reducible exact Below.refl _ _ | with_reducible assumption | with_reducible refine Below.drew ?_ | with_reducible refine Below_drewN ?_ _ | with_reducible refine Below.alloc ?_ ?_ _ | with_reducible refine Below.setCell ?_ ?_ _ | omega | (simp; done) | (simp; omega)))))).mono ?_
              rintro e w7 ⟨rfl, hb7⟩
              have hb27 : Below wb.heap.size wb w7 := Below.trans (by (repeat' (first | with_reducible exact Below.refl _ _ | with_reducible assumption | with_reducible refine Below.drew ?_ | with_reducible refine Below_drewN ?_ _ | with_reducible refine Below.alloc ?_ ?_ _ | with_reducible refine Below.setCell ?_ ?_ _ | omega | (simp; done) | (simp; omega)))) (hb7.mono (by simp))
              have hb07 : Below wo.heap.size wo w7 := hsw.trans (hb27.mono hWl)
              have hT7 := hB.under hb07
              have hS7 : SQ w.heap.size w2.heap.size t.n la t.links.length lc a b ra rc ea eb w7 := ⟨hT7.cells.1 0, hT7.cells.1 1, ((tab.blk.under hb07).cells.1 a).trans ra5, ((tab.blk.under hb07).cells.1 b).trans rc5, ra3.below hb07 ra2, rc3.below hb07 rc2⟩
              clear hS hS0 hb7 hQ0
              have hS := hS7
              go_wp2_with fail
              refine hK17 _ _ (fun _ => hS) ?_
              clear hK17
              refine wpAnyK_take' (i := 18) (.bool true) rfl (by kernel_rfl) (fun _ _ _ h => h) hS (yields_value (by kernel_rfl) (by intro w0 hw0; have hw1 := hw0; simp only [SQ] at hw1; go_simp)) ?_; simp only [Act.put, List.getElem_toArray, List.getElem_cons_succ, List.getElem_cons_zero, List.setIfInBounds_toArray, List.set_cons_succ, List.set_cons_zero]
              refine wpAnyK_take' (i := 19) (.bool true) rfl (by kernel_rfl) (fun _ _ _ h => h) hS (yields_value (by kernel_rfl) (by intro w0 hw0; have hw1 := hw0; simp only [SQ] at hw1; go_simp)) ?_; simp only [Act.put, List.getElem_toArray, List.getElem_cons_succ, List.getElem_cons_zero, List.setIfInBounds_toArray, List.set_cons_succ, List.set_cons_zero]
              refine wpAnyK_take' (i := 20) (.slice (some ⟨w2.heap.size, 0, none⟩) t.n.toNat t.n.toNat) rfl (by kernel_rfl) (fun _ _ _ h => h) hS (yields_value (by kernel_rfl) (by intro w0 hw0; have hw1 := hw0; simp only [SQ] at hw1; go_simp)) ?_; simp only [Act.put, List.getElem_toArray, List.getElem_cons_succ, List.getElem_cons_zero, List.setIfInBounds_toArray, List.set_cons_succ, List.set_cons_zero]
              refine wpAnyK_take' (i := 21) (.int .i64 a) rfl (by kernel_rfl) (fun _ _ _ h => h) hS (yields_value (by kernel_rfl) (by intro w0 hw0; have hw1 := hw0; simp only [SQ] at hw1; go_simp)) ?_; simp only [Act.put, List.getElem_toArray, List.getElem_cons_succ, List.getElem_cons_zero, List.setIfInBounds_toArray, List.set_cons_succ, List.set_cons_zero]
              refine wpAnyK_take' (i := 22) (.pointer (some ⟨w2.heap.size, a, none⟩)) rfl (by kernel_rfl) (fun _ _ _ h => h) hS (yields_value (by kernel_rfl) (by intro w0 hw0; have hw1 := hw0; simp only [SQ] at hw1; go_simp)) ?_; simp only [Act.put, List.getElem_toArray, List.getElem_cons_succ, List.getElem_cons_zero, List.setIfInBounds_toArray, List.set_cons_succ, List.set_cons_zero]
              refine wpAnyK_take' (i := 23) (.map (some ra)) rfl (by kernel_rfl) (fun _ _ _ h => h) hS (yields_value (by kernel_rfl) (by intro w0 hw0; have hw1 := hw0; simp only [SQ] at hw1; go_simp)) ?_; simp only [Act.put, List.getElem_toArray, List.getElem_cons_succ, List.getElem_cons_zero, List.setIfInBounds_toArray, List.set_cons_succ, List.set_cons_zero]
              refine wpAnyK_take' (i := 24) (.int .i64 b) rfl (by kernel_rfl) (fun _ _ _ h => h) hS (yields_value (by kernel_rfl) (by intro w0 hw0; have hw1 := hw0; simp only [SQ] at hw1; go_simp)) ?_; simp only [Act.put, List.getElem_toArray, List.getElem_cons_succ, List.getElem_cons_zero, List.setIfInBounds_toArray, List.set_cons_succ, List.set_cons_zero]
              refine wpAnyK_take' (i := 25) (.bool true) rfl (by kernel_rfl) (fun _ _ _ h => h) hS (yields_value (by kernel_rfl) (fun w0 hw0 => exec_lookupV (enc := Value.int .i64) _ _ 58 rfl 3 4 Try.underlying58 hlaw hw0.2.2.2.2.1 (b : Int) (.bool false) FZ.out va rfl rfl)) ?_; simp only [Act.put, List.getElem_toArray, List.getElem_cons_succ, List.getElem_cons_zero, List.setIfInBounds_toArray, List.set_cons_succ, List.set_cons_zero]
              refine wpAnyK_take' (i := 26) (.bool false) rfl (by kernel_rfl) (fun _ _ _ h => h) hS (yields_value (by kernel_rfl) (by intro w0 hw0; have hw1 := hw0; simp only [SQ] at hw1; go_simp)) ?_; simp only [Act.put, List.getElem_toArray, List.getElem_cons_succ, List.getElem_cons_zero, List.setIfInBounds_toArray, List.set_cons_succ, List.set_cons_zero]
              refine wpAnyK_take' (i := 27) (.bool false) rfl (by kernel_rfl) (fun _ _ _ h => h) hS (yields_value (by kernel_rfl) (by intro w0 hw0; have hw1 := hw0; simp only [SQ] at hw1; go_simp)) ?_; simp only [Act.put, List.getElem_toArray, List.getElem_cons_succ, List.getElem_cons_zero, List.setIfInBounds_toArray, List.set_cons_succ, List.set_cons_zero]
              refine wpAnyK_take' (i := 28) (.bool false) rfl (by kernel_rfl) (fun _ _ _ h => h) hS (yields_value (by kernel_rfl) (by intro w0 hw0; have hw1 := hw0; simp only [SQ] at hw1; go_simp)) ?_; simp only [Act.put, List.getElem_toArray, List.getElem_cons_succ, List.getElem_cons_zero, List.setIfInBounds_toArray, List.set_cons_succ, List.set_cons_zero]
              refine wpAnyK_done (by kernel_rfl) ?_ _
              clear hS hS7 m3'
              go_wp2
              go_loopw [9, 95] (fun _ idx wr3 => ∃ c : Nat, idx = .int .i64 c ∧ c ≤ t.n.toNat ∧ Below wo.heap.size wo wr3) (fun _ idx _ => t.n.toNat - (intOf idx).toNat)
              case atStart => exact ⟨0, rfl, Nat.zero_le _, hb07.trans (by (repeat' (first | with_reducible exact Below.refl _ _ | with_reducible assumption | with_reducible refine Below.drew ?_ | with_reducible refine Below_drewN ?_ _ | with_reducible refine Below.alloc ?_ ?_ _ | with_reducible refine Below.setCell ?_ ?_ _ | omega | (simp; done) | (simp; omega))))⟩
              case round =>
                obtain ⟨c, rfl, hcn', hb8⟩ := hrel
                by_cases hcn : c < t.n.toNat
                case neg =>
                  have c1 : ¬ (c : Int) < (t.n.toNat : Int) := by omega
                  go_wp2
                  case roundEnd =>
                    go_roundw
                    case rel => exact ⟨b + 1, by go_num, by omega, hb8.trans (by (repeat' (first | with_reducible exact Below.refl _ _ | with_reducible assumption | with_reducible refine Below.drew ?_ | with_reducible refine Below_drewN ?_ _ | with_reducible refine Below.alloc ?_ ?_ _ | with_reducible refine Below.setCell ?_ ?_ _ | omega | (simp; done) | (simp; omega))))⟩
                    case measure => simp [intOf] <;> omega
                have c1 : (c : Int) < t.n := by omega
                have c2 : (c : Int) < (t.n.toNat : Int) := by omega
                have x1 := ((tab.blk.under hb8).cells.1 a).trans ra5
                have x2 := ((tab.blk.under hb8).cells.1 b).trans rc5
                have x3 := (tab.blk.under hb8).cells.2
                have x4 := ra3.below hb8 ra2
                have x5 := rc3.below hb8 rc2
                by_cases m4 : (c : Int) ∈ reaches t b
                · have m5 := Htrans.out a b c a1 b1 m1 m4
                  have vc : (getE (c : Int) eb).getD (.bool false) = .bool true := by rw [rc4 c, decide_eq_true m4]
                  have vd : (getE (c : Int) ea).getD (.bool false) = .bool true := by rw [ra4 c, decide_eq_true m5]
                  clear m4 m5
                  go_wp2_with (first | (refine wpList_lookupW (enc := Value.int .i64) (by kernel_rfl) _ _ 58 rfl 3 4 Try.underlying58 hlaw (x4.keep (by rfl)) (b : Int) (.bool false) FZ.out va rfl rfl ?_) | (refine wpList_lookupW (enc := Value.int .i64) (by kernel_rfl) _ _ 58 rfl 3 4 Try.underlying58 hlaw (x5.keep (by rfl)) (c : Int) (.bool false) FZ.out vc rfl rfl ?_) | (refine wpList_lookupW (enc := Value.int .i64) (by kernel_rfl) _ _ 58 rfl 3 4 Try.underlying58 hlaw (x4.keep (by rfl)) (c : Int) (.bool false) FZ.out vd rfl rfl ?_))
                  case roundEnd =>
                    go_roundw
                    case rel => exact ⟨c + 1, by go_num, by omega, hb8.trans (by (repeat' (first | with_reducible exact Below.refl _ _ | with_reducible assumption | with_reducible refine Below.drew ?_ | with_reducible refine Below_drewN ?_ _ | with_reducible refine Below.alloc ?_ ?_ _ | with_reducible refine Below.setCell ?_ ?_ _ | omega | (simp; done) | (simp; omega))))⟩
                    case measure => simp [intOf] <;> omega
                · have vc : (getE (c : Int) eb).getD (.bool false) = .bool false := by rw [rc4 c, decide_eq_false m4]
                  clear m4
                  go_wp2_with (first | (refine wpList_lookupW (enc := Value.int .i64) (by kernel_rfl) _ _ 58 rfl 3 4 Try.underlying58 hlaw (x4.keep (by rfl)) (b : Int) (.bool false) FZ.out va rfl rfl ?_) | (refine wpList_lookupW (enc := Value.int .i64) (by kernel_rfl) _ _ 58 rfl 3 4 Try.underlying58 hlaw (x5.keep (by rfl)) (c : Int) (.bool false) FZ.out vc rfl rfl ?_))
                  case roundEnd =>
                    go_roundw
                    case rel => exact ⟨c + 1, by go_num, by omega, hb8.trans (by (repeat' (first | with_reducible exact Below.refl _ _ | with_reducible assumption | with_reducible refine Below.drew ?_ | with_reducible refine Below_drewN ?_ _ | with_reducible refine Below.alloc ?_ ?_ _ | with_reducible refine Below.setCell ?_ ?_ _ | omega | (simp; done) | (simp; omega))))⟩
                    case measure => simp [intOf] <;> omega
            · have m3' : ((0 : Int) < costOf t a b) = False := eq_false m3
              clear m3
              refine wpAnyK_take' (i := 0) (.slice (some ⟨w2.heap.size, 0, none⟩) t.n.toNat t.n.toNat) rfl (by kernel_rfl) (fun _ _ _ h => h) hS (yields_value (by kernel_rfl) (by intro w0 hw0; have hw1 := hw0; simp only [SQ] at hw1; go_simp)) ?_; simp only [Act.put, List.getElem_toArray, List.getElem_cons_succ, List.getElem_cons_zero, List.setIfInBounds_toArray, List.set_cons_succ, List.set_cons_zero]
              refine wpAnyK_take' (i := 1) (.int .i64 a) rfl (by kernel_rfl) (fun _ _ _ h => h) hS (yields_value (by kernel_rfl) (by intro w0 hw0; have hw1 := hw0; simp only [SQ] at hw1; go_simp)) ?_; simp only [Act.put, List.getElem_toArray, List.getElem_cons_succ, List.getElem_cons_zero, List.setIfInBounds_toArray, List.set_cons_succ, List.set_cons_zero]
              refine wpAnyK_take' (i := 2) (.pointer (some ⟨w2.heap.size, a, none⟩)) rfl (by kernel_rfl) (fun _ _ _ h => h) hS (yields_value (by kernel_rfl) (by intro w0 hw0; have hw1 := hw0; simp only [SQ] at hw1; go_simp)) ?_; simp only [Act.put, List.getElem_toArray, List.getElem_cons_succ, List.getElem_cons_zero, List.setIfInBounds_toArray, List.set_cons_succ, List.set_cons_zero]
              refine wpAnyK_take' (i := 3) (.map (some ra)) rfl (by kernel_rfl) (fun _ _ _ h => h) hS (yields_value (by kernel_rfl) (by intro w0 hw0; have hw1 := hw0; simp only [SQ] at hw1; go_simp)) ?_; simp only [Act.put, List.getElem_toArray, List.getElem_cons_succ, List.getElem_cons_zero, List.setIfInBounds_toArray, List.set_cons_succ, List.set_cons_zero]
              refine wpAnyK_take' (i := 4) (.int .i64 b) rfl (by kernel_rfl) (fun _ _ _ h => h) hS (yields_value (by kernel_rfl) (by intro w0 hw0; have hw1 := hw0; simp only [SQ] at hw1; go_simp)) ?_; simp only [Act.put, List.getElem_toArray, List.getElem_cons_succ, List.getElem_cons_zero, List.setIfInBounds_toArray, List.set_cons_succ, List.set_cons_zero]
              refine wpAnyK_take' (i := 5) (.bool true) rfl (by kernel_rfl) (fun _ _ _ h => h) hS (yields_value (by kernel_rfl) (fun w0 hw0 => exec_lookupV (enc := Value.int .i64) _ _ 58 rfl 3 4 Try.underlying58 hlaw hw0.2.2.2.2.1 (b : Int) (.bool false) FZ.out va rfl rfl)) ?_; simp only [Act.put, List.getElem_toArray, List.getElem_cons_succ, List.getElem_cons_zero, List.setIfInBounds_toArray, List.set_cons_succ, List.set_cons_zero]
              refine wpAnyK_take' (i := 6) (.slice (some ⟨w2.heap.size, 0, none⟩) t.n.toNat t.n.toNat) rfl (by kernel_rfl) (fun _ _ _ h => h) hS (yields_value (by kernel_rfl) (by intro w0 hw0; have hw1 := hw0; simp only [SQ] at hw1; go_simp)) ?_; simp only [Act.put, List.getElem_toArray, List.getElem_cons_succ, List.getElem_cons_zero, List.setIfInBounds_toArray, List.set_cons_succ, List.set_cons_zero]
              refine wpAnyK_take' (i := 7) (.int .i64 b) rfl (by kernel_rfl) (fun _ _ _ h => h) hS (yields_value (by kernel_rfl) (by intro w0 hw0; have hw1 := hw0; simp only [SQ] at hw1; go_simp)) ?_; simp only [Act.put, List.getElem_toArray, List.getElem_cons_succ, List.getElem_cons_zero, List.setIfInBounds_toArray, List.set_cons_succ, List.set_cons_zero]
              refine wpAnyK_take' (i := 8) (.pointer (some ⟨w2.heap.size, b, none⟩)) rfl (by kernel_rfl) (fun _ _ _ h => h) hS (yields_value (by kernel_rfl) (by intro w0 hw0; have hw1 := hw0; simp only [SQ] at hw1; go_simp)) ?_; simp only [Act.put, List.getElem_toArray, List.getElem_cons_succ, List.getElem_cons_zero, List.setIfInBounds_toArray, List.set_cons_succ, List.set_cons_zero]
              refine wpAnyK_take' (i := 9) (.map (some rc)) rfl (by kernel_rfl) (fun _ _ _ h => h) hS (yields_value (by kernel_rfl) (by intro w0 hw0; have hw1 := hw0; simp only [SQ] at hw1; go_simp)) ?_; simp only [Act.put, List.getElem_toArray, List.getElem_cons_succ, List.getElem_cons_zero, List.setIfInBounds_toArray, List.set_cons_succ, List.set_cons_zero]
              refine wpAnyK_take' (i := 10) (.int .i64 a) rfl (by kernel_rfl) (fun _ _ _ h => h) hS (yields_value (by kernel_rfl) (by intro w0 hw0; have hw1 := hw0; simp only [SQ] at hw1; go_simp)) ?_; simp only [Act.put, List.getElem_toArray, List.getElem_cons_succ, List.getElem_cons_zero, List.setIfInBounds_toArray, List.set_cons_succ, List.set_cons_zero]
              refine wpAnyK_take' (i := 11) (.bool true) rfl (by kernel_rfl) (fun _ _ _ h => h) hS (yields_value (by kernel_rfl) (fun w0 hw0 => exec_lookupV (enc := Value.int .i64) _ _ 58 rfl 3 4 Try.underlying58 hlaw hw0.2.2.2.2.2 (a : Int) (.bool false) FZ.out vb rfl rfl)) ?_; simp only [Act.put, List.getElem_toArray, List.getElem_cons_succ, List.getElem_cons_zero, List.setIfInBounds_toArray, List.set_cons_succ, List.set_cons_zero]
              refine wpAnyK_take' (i := 12) (.bool false) rfl (by kernel_rfl) (fun _ _ _ h => h) hS (yields_value (by kernel_rfl) (by intro w0 hw0; have hw1 := hw0; simp only [SQ] at hw1; go_simp)) ?_; simp only [Act.put, List.getElem_toArray, List.getElem_cons_succ, List.getElem_cons_zero, List.setIfInBounds_toArray, List.set_cons_succ, List.set_cons_zero]
              refine wpAnyK_take' (i := 13) (.bool false) rfl (by kernel_rfl) (fun _ _ _ h => h) hS (yields_value (by kernel_rfl) (by intro w0 hw0; have hw1 := hw0; simp only [SQ] at hw1; go_simp)) ?_; simp only [Act.put, List.getElem_toArray, List.getElem_cons_succ, List.getElem_cons_zero, List.setIfInBounds_toArray, List.set_cons_succ, List.set_cons_zero]
              refine wpAnyK_take' (i := 14) (.agg #[.int .i64 t.n, .slice la t.links.length lc]) rfl (by kernel_rfl) (fun _ _ _ h => h) hS (yields_value (by kernel_rfl) (by intro w0 hw0; have hw1 := hw0; simp only [SQ] at hw1; go_simp)) ?_; simp only [Act.put, List.getElem_toArray, List.getElem_cons_succ, List.getElem_cons_zero, List.setIfInBounds_toArray, List.set_cons_succ, List.set_cons_zero]
              refine wpAnyK_take' (i := 15) (.int .i64 a) rfl (by kernel_rfl) (fun _ _ _ h => h) hS (yields_value (by kernel_rfl) (by intro w0 hw0; have hw1 := hw0; simp only [SQ] at hw1; go_simp)) ?_; simp only [Act.put, List.getElem_toArray, List.getElem_cons_succ, List.getElem_cons_zero, List.setIfInBounds_toArray, List.set_cons_succ, List.set_cons_zero]
              refine wpAnyK_take' (i := 16) (.int .i64 b) rfl (by kernel_rfl) (fun _ _ _ h => h) hS (yields_value (by kernel_rfl) (by intro w0 hw0; have hw1 := hw0; simp only [SQ] at hw1; go_simp)) ?_; simp only [Act.put, List.getElem_toArray, List.getElem_cons_succ, List.getElem_cons_zero, List.setIfInBounds_toArray, List.set_cons_succ, List.set_cons_zero]
              refine wpAnyK_call (i := 17) rfl (by kernel_rfl) (by kernel_rfl) fun K17 hK17 => ?_
              go_simp
              go_wp2_with fail
              refine (hcc _ (hb26.trans (by (repeat' (first | with_reducible exact Below.refl _ _ | with_reducible assumption | with_reducible refine Below.drew ?_ | with_reducible refine Below_drewN ?_ _ | with_reducible refine Below.alloc ?_ ?_ _ | with_reducible refine Below.setCell ?_ ?_ _ | omega | (simp; done) | (simp; omega)))))).mono ?_
              rintro e w7 ⟨rfl, hb7⟩
              have hb27 : Below wb.heap.size wb w7 := Below.trans (by (repeat' (first | with_reducible exact Below.refl _ _ | with_reducible assumption | with_reducible refine Below.drew ?_ | with_reducible refine Below_drewN ?_ _ | with_reducible refine Below.alloc ?_ ?_ _ | with_reducible refine Below.setCell ?_ ?_ _ | omega | (simp; done) | (simp; omega)))) (hb7.mono (by simp))
              have hb07 : Below wo.heap.size wo w7 := hsw.trans (hb27.mono hWl)
              have hT7 := hB.under hb07
              have hS7 : SQ w.heap.size w2.heap.size t.n la t.links.length lc a b ra rc ea eb w7 := ⟨hT7.cells.1 0, hT7.cells.1 1, ((tab.blk.under hb07).cells.1 a).trans ra5, ((tab.blk.under hb07).cells.1 b).trans rc5, ra3.below hb07 ra2, rc3.below hb07 rc2⟩
              clear hS hS0 hb7 hQ0
              have hS := hS7
              go_wp2_with fail
              refine hK17 _ _ (fun _ => hS) ?_
              clear hK17
              refine wpAnyK_take' (i := 18) (.bool false) rfl (by kernel_rfl) (fun _ _ _ h => h) hS (yields_value (by kernel_rfl) (by intro w0 hw0; have hw1 := hw0; simp only [SQ] at hw1; go_simp)) ?_; simp only [Act.put, List.getElem_toArray, List.getElem_cons_succ, List.getElem_cons_zero, List.setIfInBounds_toArray, List.set_cons_succ, List.set_cons_zero]
              refine wpAnyK_take' (i := 19) (.bool false) rfl (by kernel_rfl) (fun _ _ _ h => h) hS (yields_value (by kernel_rfl) (by intro w0 hw0; have hw1 := hw0; simp only [SQ] at hw1; go_simp)) ?_; simp only [Act.put, List.getElem_toArray, List.getElem_cons_succ, List.getElem_cons_zero, List.setIfInBounds_toArray, List.set_cons_succ, List.set_cons_zero]
              refine wpAnyK_take' (i := 20) undef rfl (by kernel_rfl) (fun _ _ _ h => h) hS (.inr ⟨by kernel_rfl, rfl⟩) ?_; simp only [Act.put, List.getElem_toArray, List.getElem_cons_succ, List.getElem_cons_zero, List.setIfInBounds_toArray, List.set_cons_succ, List.set_cons_zero]
              refine wpAnyK_take' (i := 21) undef rfl (by kernel_rfl) (fun _ _ _ h => h) hS (.inr ⟨by kernel_rfl, rfl⟩) ?_; simp only [Act.put, List.getElem_toArray, List.getElem_cons_succ, List.getElem_cons_zero, List.setIfInBounds_toArray, List.set_cons_succ, List.set_cons_zero]
              refine wpAnyK_take' (i := 22) undef rfl (by kernel_rfl) (fun _ _ _ h => h) hS (.inr ⟨by kernel_rfl, rfl⟩) ?_; simp only [Act.put, List.getElem_toArray, List.getElem_cons_succ, List.getElem_cons_zero, List.setIfInBounds_toArray, List.set_cons_succ, List.set_cons_zero]
              refine wpAnyK_take' (i := 23) undef rfl (by kernel_rfl) (fun _ _ _ h => h) hS (.inr ⟨by kernel_rfl, rfl⟩) ?_; simp only [Act.put, List.getElem_toArray, List.getElem_cons_succ, List.getElem_cons_zero, List.setIfInBounds_toArray, List.set_cons_succ, List.set_cons_zero]
              refine wpAnyK_take' (i := 24) undef rfl (by kernel_rfl) (fun _ _ _ h => h) hS (.inr ⟨by kernel_rfl, rfl⟩) ?_; simp only [Act.put, List.getElem_toArray, List.getElem_cons_succ, List.getElem_cons_zero, List.setIfInBounds_toArray, List.set_cons_succ, List.set_cons_zero]
              refine wpAnyK_take' (i := 25) undef rfl (by kernel_rfl) (fun _ _ _ h => h) hS (.inr ⟨by kernel_rfl, rfl⟩) ?_; simp only [Act.put, List.getElem_toArray, List.getElem_cons_succ, List.getElem_cons_zero, List.setIfInBounds_toArray, List.set_cons_succ, List.set_cons_zero]
              refine wpAnyK_take' (i := 26) undef rfl (by kernel_rfl) (fun _ _ _ h => h) hS (.inr ⟨by kernel_rfl, rfl⟩) ?_; simp only [Act.put, List.getElem_toArray, List.getElem_cons_succ, List.getElem_cons_zero, List.setIfInBounds_toArray, List.set_cons_succ, List.set_cons_zero]
              refine wpAnyK_take' (i := 27) (.bool false) rfl (by kernel_rfl) (fun _ _ _ h => h) hS (yields_value (by kernel_rfl) (by intro w0 hw0; have hw1 := hw0; simp only [SQ] at hw1; go_simp)) ?_; simp only [Act.put, List.getElem_toArray, List.getElem_cons_succ, List.getElem_cons_zero, List.setIfInBounds_toArray, List.set_cons_succ, List.set_cons_zero]
              refine wpAnyK_take' (i := 28) (.bool false) rfl (by kernel_rfl) (fun _ _ _ h => h) hS (yields_value (by kernel_rfl) (by intro w0 hw0; have hw1 := hw0; simp only [SQ] at hw1; go_simp)) ?_; simp only [Act.put, List.getElem_toArray, List.getElem_cons_succ, List.getElem_cons_zero, List.setIfInBounds_toArray, List.set_cons_succ, List.set_cons_zero]
              refine wpAnyK_done (by kernel_rfl) ?_ _
              clear hS hS7 m3'
              go_wp2
              go_loopw [9, 95] (fun _ idx wr3 => ∃ c : Nat, idx = .int .i64 c ∧ c ≤ t.n.toNat ∧ Below wo.heap.size wo wr3) (fun _ idx _ => t.n.toNat - (intOf idx).toNat)
              case atStart => exact ⟨0, rfl, Nat.zero_le _, hb07.trans (by (repeat' (first | with_reducible exact Below.refl _ _ | with_reducible assumption | with_reducible refine Below.drew ?_ | with_reducible refine Below_drewN ?_ _ | with_reducible refine Below.alloc ?_ ?_ _ | with_reducible refine Below.setCell ?_ ?_ _ | omega | (simp; done) | (simp; omega))))⟩
              case round =>
                obtain ⟨c, rfl, hcn', hb8⟩ := hrel
                by_cases hcn : c < t.n.toNat
                case neg =>
                  have c1 : ¬ (c : Int) < (t.n.toNat : Int) := by omega
                  go_wp2
                  case roundEnd =>
                    go_roundw
                    case rel => exact ⟨b + 1, by go_num, by omega, hb8.trans (by (repeat' (first | with_reducible exact Below.refl _ _ | with_reducible assumption | with_reducible refine Below.drew ?_ | with_reducible refine Below_drewN ?_ _ | with_reducible refine Below.alloc ?_ ?_ _ | with_reducible refine Below.setCell ?_ ?_ _ | omega | (simp; done) | (simp; omega))))⟩
                    case measure => simp [intOf] <;> omega
                have c1 : (c : Int) < t.n := by omega
                have c2 : (c : Int) < (t.n.toNat : Int) := by omega
                have x1 := ((tab.blk.under hb8).cells.1 a).trans ra5
                have x2 := ((tab.blk.under hb8).cells.1 b).trans rc5
                have x3 := (tab.blk.under hb8).cells.2
                have x4 := ra3.below hb8 ra2
                have x5 := rc3.below hb8 rc2
                by_cases m4 : (c : Int) ∈ reaches t b
                · have m5 := Htrans.out a b c a1 b1 m1 m4
                  have vc : (getE (c : Int) eb).getD (.bool false) = .bool true := by rw [rc4 c, decide_eq_true m4]
                  have vd : (getE (c : Int) ea).getD (.bool false) = .bool true := by rw [ra4 c, decide_eq_true m5]
                  clear m4 m5
                  go_wp2_with (first | (refine wpList_lookupW (enc := Value.int .i64) (by kernel_rfl) _ _ 58 rfl 3 4 Try.underlying58 hlaw (x4.keep (by rfl)) (b : Int) (.bool false) FZ.out va rfl rfl ?_) | (refine wpList_lookupW (enc := Value.int .i64) (by kernel_rfl) _ _ 58 rfl 3 4 Try.underlying58 hlaw (x5.keep (by rfl)) (c : Int) (.bool false) FZ.out vc rfl rfl ?_) | (refine wpList_lookupW (enc := Value.int .i64) (by kernel_rfl) _ _ 58 rfl 3 4 Try.underlying58 hlaw (x4.keep (by rfl)) (c : Int) (.bool false) FZ.out vd rfl rfl ?_))
                  case roundEnd =>
                    go_roundw
                    case rel => exact ⟨c + 1, by go_num, by omega, hb8.trans (by (repeat' (first | with_reducible exact Below.refl _ _ | with_reducible assumption | with_reducible refine Below.drew ?_ | with_reducible refine Below_drewN ?_ _ | with_reducible refine Below.alloc ?_ ?_ _ | with_reducible refine Below.setCell ?_ ?_ _ | omega | (simp; done) | (simp; omega))))⟩
                    case measure => simp [intOf] <;> omega
                · have vc : (getE (c : Int) eb).getD (.bool false) = .bool false := by rw [rc4 c, decide_eq_false m4]
                  clear m4
                  go_wp2_with (first | (refine wpList_lookupW (enc := Value.int .i64) (by kernel_rfl) _ _ 58 rfl 3 4 Try.underlying58 hlaw (x4.keep (by rfl)) (b : Int) (.bool false) FZ.out va rfl rfl ?_) | (refine wpList_lookupW (enc := Value.int .i64) (by kernel_rfl) _ _ 58 rfl 3 4 Try.underlying58 hlaw (x5.keep (by rfl)) (c : Int) (.bool false) FZ.out vc rfl rfl ?_))
                  case roundEnd =>
                    go_roundw
                    case rel => exact ⟨c + 1, by go_num, by omega, hb8.trans (by (repeat' (first | with_reducible exact Below.refl _ _ | with_reducible assumption | with_reducible refine Below.drew ?_ | with_reducible refine Below_drewN ?_ _ | with_reducible refine Below.alloc ?_ ?_ _ | with_reducible refine Below.setCell ?_ ?_ _ | omega | (simp; done) | (simp; omega))))⟩
                    case measure => simp [intOf] <;> omega
          · have m2 : ¬ (a : Int) ∈ reaches t b := fun h => m1 (Hsymm.out b a b1 a1 h)
            have m3 : ¬ 0 < costOf t a b := fun h => m1 (Hcost.out a b a1 b1 h)
            have va : (getE (b : Int) ea).getD (.bool false) = .bool false := by rw [ra4 b, decide_eq_false m1]
            have vb : (getE (a : Int) eb).getD (.bool false) = .bool false := by rw [rc4 a, decide_eq_false m2]
            have m3' : ((0 : Int) < costOf t a b) = False := eq_false m3
            clear m2 m3
            refine wpAnyK_take' (i := 0) (.slice (some ⟨w2.heap.size, 0, none⟩) t.n.toNat t.n.toNat) rfl (by kernel_rfl) (fun _ _ _ h => h) hS (yields_value (by kernel_rfl) (by intro w0 hw0; have hw1 := hw0; simp only [SQ] at hw1; go_simp)) ?_; simp only [Act.put, List.getElem_toArray, List.getElem_cons_succ, List.getElem_cons_zero, List.setIfInBounds_toArray, List.set_cons_succ, List.set_cons_zero]
            refine wpAnyK_take' (i := 1) (.int .i64 a) rfl (by kernel_rfl) (fun _ _ _ h => h) hS (yields_value (by kernel_rfl) (by intro w0 hw0; have hw1 := hw0; simp only [SQ] at hw1; go_simp)) ?_; simp only [Act.put, List.getElem_toArray, List.getElem_cons_succ, List.getElem_cons_zero, List.setIfInBounds_toArray, List.set_cons_succ, List.set_cons_zero]
            refine wpAnyK_take' (i := 2) (.pointer (some ⟨w2.heap.size, a, none⟩)) rfl (by kernel_rfl) (fun _ _ _ h => h) hS (yields_value (by kernel_rfl) (by intro w0 hw0; have hw1 := hw0; simp only [SQ] at hw1; go_simp)) ?_; simp only [Act.put, List.getElem_toArray, List.getElem_cons_succ, List.getElem_cons_zero, List.setIfInBounds_toArray, List.set_cons_succ, List.set_cons_zero]
            refine wpAnyK_take' (i := 3) (.map (some ra)) rfl (by kernel_rfl) (fun _ _ _ h => h) hS (yields_value (by kernel_rfl) (by intro w0 hw0; have hw1 := hw0; simp only [SQ] at hw1; go_simp)) ?_; simp only [Act.put, List.getElem_toArray, List.getElem_cons_succ, List.getElem_cons_zero, List.setIfInBounds_toArray, List.set_cons_succ, List.set_cons_zero]
            refine wpAnyK_take' (i := 4) (.int .i64 b) rfl (by kernel_rfl) (fun _ _ _ h => h) hS (yields_value (by kernel_rfl) (by intro w0 hw0; have hw1 := hw0; simp only [SQ] at hw1; go_simp)) ?_; simp only [Act.put, List.getElem_toArray, List.getElem_cons_succ, List.getElem_cons_zero, List.setIfInBounds_toArray, List.set_cons_succ, List.set_cons_zero]
            refine wpAnyK_take' (i := 5) (.bool false) rfl (by kernel_rfl) (fun _ _ _ h => h) hS (yields_value (by kernel_rfl) (fun w0 hw0 => exec_lookupV (enc := Value.int .i64) _ _ 58 rfl 3 4 Try.underlying58 hlaw hw0.2.2.2.2.1 (b : Int) (.bool false) FZ.out va rfl rfl)) ?_; simp only [Act.put, List.getElem_toArray, List.getElem_cons_succ, List.getElem_cons_zero, List.setIfInBounds_toArray, List.set_cons_succ, List.set_cons_zero]
            refine wpAnyK_take' (i := 6) (.slice (some ⟨w2.heap.size, 0, none⟩) t.n.toNat t.n.toNat) rfl (by kernel_rfl) (fun _ _ _ h => h) hS (yields_value (by kernel_rfl) (by intro w0 hw0; have hw1 := hw0; simp only [SQ] at hw1; go_simp)) ?_; simp only [Act.put, List.getElem_toArray, List.getElem_cons_succ, List.getElem_cons_zero, List.setIfInBounds_toArray, List.set_cons_succ, List.set_cons_zero]
            refine wpAnyK_take' (i := 7) (.int .i64 b) rfl (by kernel_rfl) (fun _ _ _ h => h) hS (yields_value (by kernel_rfl) (by intro w0 hw0; have hw1 := hw0; simp only [SQ] at hw1; go_simp)) ?_; simp only [Act.put, List.getElem_toArray, List.getElem_cons_succ, List.getElem_cons_zero, List.setIfInBounds_toArray, List.set_cons_succ, List.set_cons_zero]
            refine wpAnyK_take' (i := 8) (.pointer (some ⟨w2.heap.size, b, none⟩)) rfl (by kernel_rfl) (fun _ _ _ h => h) hS (yields_value (by kernel_rfl) (by intro w0 hw0; have hw1 := hw0; simp only [SQ] at hw1; go_simp)) ?_; simp only [Act.put, List.getElem_toArray, List.getElem_cons_succ, List.getElem_cons_zero, List.setIfInBounds_toArray, List.set_cons_succ, List.set_cons_zero]
            refine wpAnyK_take' (i := 9) (.map (some rc)) rfl (by kernel_rfl) (fun _ _ _ h => h) hS (yields_value (by kernel_rfl) (by intro w0 hw0; have hw1 := hw0; simp only [SQ] at hw1; go_simp)) ?_; simp only [Act.put, List.getElem_toArray, List.getElem_cons_succ, List.getElem_cons_zero, List.setIfInBounds_toArray, List.set_cons_succ, List.set_cons_zero]
            refine wpAnyK_take' (i := 10) (.int .i64 a) rfl (by kernel_rfl) (fun _ _ _ h => h) hS (yields_value (by kernel_rfl) (by intro w0 hw0; have hw1 := hw0; simp only [SQ] at hw1; go_simp)) ?_; simp only [Act.put, List.getElem_toArray, List.getElem_cons_succ, List.getElem_cons_zero, List.setIfInBounds_toArray, List.set_cons_succ, List.set_cons_zero]
            refine wpAnyK_take' (i := 11) (.bool false) rfl (by kernel_rfl) (fun _ _ _ h => h) hS (yields_value (by kernel_rfl) (fun w0 hw0 => exec_lookupV (enc := Value.int .i64) _ _ 58 rfl 3 4 Try.underlying58 hlaw hw0.2.2.2.2.2 (a : Int) (.bool false) FZ.out vb rfl rfl)) ?_; simp only [Act.put, List.getElem_toArray, List.getElem_cons_succ, List.getElem_cons_zero, List.setIfInBounds_toArray, List.set_cons_succ, List.set_cons_zero]
            refine wpAnyK_take' (i := 12) (.bool false) rfl (by kernel_rfl) (fun _ _ _ h => h) hS (yields_value (by kernel_rfl) (by intro w0 hw0; have hw1 := hw0; simp only [SQ] at hw1; go_simp)) ?_; simp only [Act.put, List.getElem_toArray, List.getElem_cons_succ, List.getElem_cons_zero, List.setIfInBounds_toArray, List.set_cons_succ, List.set_cons_zero]
            refine wpAnyK_take' (i := 13) (.bool false) rfl (by kernel_rfl) (fun _ _ _ h => h) hS (yields_value (by kernel_rfl) (by intro w0 hw0; have hw1 := hw0; simp only [SQ] at hw1; go_simp)) ?_; simp only [Act.put, List.getElem_toArray, List.getElem_cons_succ, List.getElem_cons_zero, List.setIfInBounds_toArray, List.set_cons_succ, List.set_cons_zero]
            refine wpAnyK_take' (i := 14) (.agg #[.int .i64 t.n, .slice la t.links.length lc]) rfl (by kernel_rfl) (fun _ _ _ h => h) hS (yields_value (by kernel_rfl) (by intro w0 hw0; have hw1 := hw0; simp only [SQ] at hw1; go_simp)) ?_; simp only [Act.put, List.getElem_toArray, List.getElem_cons_succ, List.getElem_cons_zero, List.setIfInBounds_toArray, List.set_cons_succ, List.set_cons_zero]
            refine wpAnyK_take' (i := 15) (.int .i64 a) rfl (by kernel_rfl) (fun _ _ _ h => h) hS (yields_value (by kernel_rfl) (by intro w0 hw0; have hw1 := hw0; simp only [SQ] at hw1; go_simp)) ?_; simp only [Act.put, List.getElem_toArray, List.getElem_cons_succ, List.getElem_cons_zero, List.setIfInBounds_toArray, List.set_cons_succ, List.set_cons_zero]
            refine wpAnyK_take' (i := 16) (.int .i64 b) rfl (by kernel_rfl) (fun _ _ _ h => h) hS (yields_value (by kernel_rfl) (by intro w0 hw0; have hw1 := hw0; simp only [SQ] at hw1; go_simp)) ?_; simp only [Act.put, List.getElem_toArray, List.getElem_cons_succ, List.getElem_cons_zero, List.setIfInBounds_toArray, List.set_cons_succ, List.set_cons_zero]
            refine wpAnyK_call (i := 17) rfl (by kernel_rfl) (by kernel_rfl) fun K17 hK17 => ?_
            go_simp
            go_wp2_with fail
            refine (hcc _ (hb26.trans (by (repeat' (first | with_reducible exact Below.refl _ _ | with_reducible assumption | with_reducible refine Below.drew ?_ | with_reducible refine Below_drewN ?_ _ | with_reducible refine Below.alloc ?_ ?_ _ | with_reducible refine Below.setCell ?_ ?_ _ | omega | (simp; done) | (simp; omega)))))).mono ?_
            rintro e w7 ⟨rfl, hb7⟩
            have hb27 : Below wb.heap.size wb w7 := Below.trans (by (repeat' (first | with_reducible exact Below.refl _ _ | with_reducible assumption | with_reducible refine Below.drew ?_ | with_reducible refine Below_drewN ?_ _ | with_reducible refine Below.alloc ?_ ?_ _ | with_reducible refine Below.setCell ?_ ?_ _ | omega | (simp; done) | (simp; omega)))) (hb7.mono (by simp))
            have hb07 : Below wo.heap.size wo w7 := hsw.trans (hb27.mono hWl)
            have hT7 := hB.under hb07
            have hS7 : SQ w.heap.size w2.heap.size t.n la t.links.length lc a b ra rc ea eb w7 := ⟨hT7.cells.1 0, hT7.cells.1 1, ((tab.blk.under hb07).cells.1 a).trans ra5, ((tab.blk.under hb07).cells.1 b).trans rc5, ra3.below hb07 ra2, rc3.below hb07 rc2⟩
            clear hS hS0 hb7 hQ0
            have hS := hS7
            go_wp2_with fail
            refine hK17 _ _ (fun _ => hS) ?_
            clear hK17
            refine wpAnyK_take' (i := 18) (.bool false) rfl (by kernel_rfl) (fun _ _ _ h => h) hS (yields_value (by kernel_rfl) (by intro w0 hw0; have hw1 := hw0; simp only [SQ] at hw1; go_simp)) ?_; simp only [Act.put, List.getElem_toArray, List.getElem_cons_succ, List.getElem_cons_zero, List.setIfInBounds_toArray, List.set_cons_succ, List.set_cons_zero]
            refine wpAnyK_take' (i := 19) (.bool false) rfl (by kernel_rfl) (fun _ _ _ h => h) hS (yields_value (by kernel_rfl) (by intro w0 hw0; have hw1 := hw0; simp only [SQ] at hw1; go_simp)) ?_; simp only [Act.put, List.getElem_toArray, List.getElem_cons_succ, List.getElem_cons_zero, List.setIfInBounds_toArray, List.set_cons_succ, List.set_cons_zero]
            refine wpAnyK_take' (i := 20) undef rfl (by kernel_rfl) (fun _ _ _ h => h) hS (.inr ⟨by kernel_rfl, rfl⟩) ?_; simp only [Act.put, List.getElem_toArray, List.getElem_cons_succ, List.getElem_cons_zero, List.setIfInBounds_toArray, List.set_cons_succ, List.set_cons_zero]
            refine wpAnyK_take' (i := 21) undef rfl (by kernel_rfl) (fun _ _ _ h => h) hS (.inr ⟨by kernel_rfl, rfl⟩) ?_; simp only [Act.put, List.getElem_toArray, List.getElem_cons_succ, List.getElem_cons_zero, List.setIfInBounds_toArray, List.set_cons_succ, List.set_cons_zero]
            refine wpAnyK_take' (i := 22) undef rfl (by kernel_rfl) (fun _ _ _ h => h) hS (.inr ⟨by kernel_rfl, rfl⟩) ?_; simp only [Act.put, List.getElem_toArray, List.getElem_cons_succ, List.getElem_cons_zero, List.setIfInBounds_toArray, List.set_cons_succ, List.set_cons_zero]
            refine wpAnyK_take' (i := 23) undef rfl (by kernel_rfl) (fun _ _ _ h => h) hS (.inr ⟨by kernel_rfl, rfl⟩) ?_; simp only [Act.put, List.getElem_toArray, List.getElem_cons_succ, List.getElem_cons_zero, List.setIfInBounds_toArray, List.set_cons_succ, List.set_cons_zero]
            refine wpAnyK_take' (i := 24) undef rfl (by kernel_rfl) (fun _ _ _ h => h) hS (.inr ⟨by kernel_rfl, rfl⟩) ?_; simp only [Act.put, List.getElem_toArray, List.getElem_cons_succ, List.getElem_cons_zero, List.setIfInBounds_toArray, List.set_cons_succ, List.set_cons_zero]
            refine wpAnyK_take' (i := 25) undef rfl (by kernel_rfl) (fun _ _ _ h => h) hS (.inr ⟨by kernel_rfl, rfl⟩) ?_; simp only [Act.put, List.getElem_toArray, List.getElem_cons_succ, List.getElem_cons_zero, List.setIfInBounds_toArray, List.set_cons_succ, List.set_cons_zero]
            refine wpAnyK_take' (i := 26) undef rfl (by kernel_rfl) (fun _ _ _ h => h) hS (.inr ⟨by kernel_rfl, rfl⟩) ?_; simp only [Act.put, List.getElem_toArray, List.getElem_cons_succ, List.getElem_cons_zero, List.setIfInBounds_toArray, List.set_cons_succ, List.set_cons_zero]
            refine wpAnyK_take' (i := 27) (.bool false) rfl (by kernel_rfl) (fun _ _ _ h => h) hS (yields_value (by kernel_rfl) (by intro w0 hw0; have hw1 := hw0; simp only [SQ] at hw1; go_simp)) ?_; simp only [Act.put, List.getElem_toArray, List.getElem_cons_succ, List.getElem_cons_zero, List.setIfInBounds_toArray, List.set_cons_succ, List.set_cons_zero]
            refine wpAnyK_take' (i := 28) (.bool false) rfl (by kernel_rfl) (fun _ _ _ h => h) hS (yields_value (by kernel_rfl) (by intro w0 hw0; have hw1 := hw0; simp only [SQ] at hw1; go_simp)) ?_; simp only [Act.put, List.getElem_toArray, List.getElem_cons_succ, List.getElem_cons_zero, List.setIfInBounds_toArray, List.set_cons_succ, List.set_cons_zero]
            refine wpAnyK_done (by kernel_rfl) ?_ _
            clear hS hS7 m3'
            go_wp2
            go_loopw [9, 95] (fun _ idx wr3 => ∃ c : Nat, idx = .int .i64 c ∧ c ≤ t.n.toNat ∧ Below wo.heap.size wo wr3) (fun _ idx _ => t.n.toNat - (intOf idx).toNat)
            case atStart => exact ⟨0, rfl, Nat.zero_le _, hb07.trans (by (repeat' (first | with_reducible exact Below.refl _ _ | with_reducible assumption | with_reducible refine Below.drew ?_ | with_reducible refine Below_drewN ?_ _ | with_reducible refine Below.alloc ?_ ?_ _ | with_reducible refine Below.setCell ?_ ?_ _ | omega | (simp; done) | (simp; omega))))⟩
            case round =>
              obtain ⟨c, rfl, hcn', hb8⟩ := hrel
              by_cases hcn : c < t.n.toNat
              case neg =>
                have c1 : ¬ (c : Int) < (t.n.toNat : Int) := by omega
                go_wp2
                case roundEnd =>
                  go_roundw
                  case rel => exact ⟨b + 1, by go_num, by omega, hb8.trans (by (repeat' (first | with_reducible exact Below.refl _ _ | with_reducible assumption | with_reducible refine Below.drew ?_ | with_reducible refine Below_drewN ?_ _ | with_reducible refine Below.alloc ?_ ?_ _ | with_reducible refine Below.setCell ?_ ?_ _ | omega | (simp; done) | (simp; omega))))⟩
                  case measure => simp [intOf] <;> omega
              have c1 : (c : Int) < t.n := by omega
              have c2 : (c : Int) < (t.n.toNat : Int) := by omega
              have x1 := ((tab.blk.under hb8).cells.1 a).trans ra5
              have x2 := ((tab.blk.under hb8).cells.1 b).trans rc5
              have x3 := (tab.blk.under hb8).cells.2
              have x4 := ra3.below hb8 ra2
              have x5 := rc3.below hb8 rc2
              go_wp2_with (refine wpList_lookupW (enc := Value.int .i64) (by kernel_rfl) _ _ 58 rfl 3 4 Try.underlying58 hlaw (x4.keep (by rfl)) (b : Int) (.bool false) FZ.out va rfl rfl ?_)
              case roundEnd =>
                go_roundw
                case rel => exact ⟨c + 1, by go_num, by omega, hb8.trans (by (repeat' (first | with_reducible exact Below.refl _ _ | with_reducible assumption | with_reducible refine Below.drew ?_ | with_reducible refine Below_drewN ?_ _ | with_reducible refine Below.alloc ?_ ?_ _ | with_reducible refine Below.setCell ?_ ?_ _ | omega | (simp; done) | (simp; omega))))⟩
                case measure => simp [intOf] <;> omega
    obtain ⟨t1, t2⟩ := hB.cells
    obtain ⟨q1, q2⟩ := tab.blk.cells
    have d1 : (k : Int) < t.n := by omega
    have d1' : (k : Int) < (t.n.toNat : Int) := by omega
    have d2 : k < (cellsM t.n.toNat rs).size := by simp [cellsM]; omega
    have hkI : I64 (k : Int) := by simp only [I64]; omega
    have hne : w2.heap.size ≠ wo.heap.size := by omega
    have hne2 : w.heap.size ≠ w2.heap.size := by omega
    have hF := Fill.start tab (by omega) (rfl : wo.heap.size = wo.heap.size)
    have hq : ∀ o, (wo.alloc (.map #[] 0)).cell? ⟨w2.heap.size, o, none⟩ = (cellsM t.n.toNat rs)[o]? := fun o => ((tab.blk.alloc (.map #[] 0)).cells.1 o)
    have hq0 : (wo.alloc (.map #[] 0)).cell? ⟨w2.heap.size, k, none⟩ = some (.map none) := by
      rw [hq k, Array.getElem?_eq_getElem d2]
      simp [cellsM, List.getElem_append, hrl]
    have hq1 := ((tab.blk.alloc (.map #[] 0)).cells.2)
    have hBF : blockIs ((wo.setCell ⟨w2.heap.size, rs.length, none⟩ (.map (some wo.heap.size))).alloc (.map #[] 0)) w.heap.size 24 #[.int .i64 t.n, .slice la t.links.length lc] := (hB.setOther (by simp; omega) _).alloc _
    have hbF : Below w.heap.size w ((wo.setCell ⟨w2.heap.size, rs.length, none⟩ (.map (some wo.heap.size))).alloc (.map #[] 0)) := by (repeat' (first | with_reducible exact Below.refl _ _ | with_reducible assumption | with_reducible refine Below.drew ?_ | with_reducible refine Below_drewN ?_ _ | with_reducible refine Below.alloc ?_ ?_ _ | with_reducible refine Below.setCell ?_ ?_ _ | omega | (simp; done) | (simp; omega)))
    rw [hrl] at hF hBF hbF
    clear hq
    go_wp2_with fail
    generalize (wo.setCell ⟨w2.heap.size, k, none⟩ (.map (some wo.heap.size))).alloc (.map #[] 0) = w4 at *
    clear t1 t2 q1 q2 hq0 hq1
    have hFl := hF.own.lt
    obtain ⟨t1, t2⟩ := hBF.cells
    refine (reaches_c t _ ok k hkI _ (topoS.below hT (hbF.trans (by (repeat' (first | with_reducible exact Below.refl _ _ | with_reducible assumption | with_reducible refine Below.drew ?_ | with_reducible refine Below_drewN ?_ _ | with_reducible refine Below.alloc ?_ ?_ _ | with_reducible refine Below.setCell ?_ ?_ _ | omega | (simp; done) | (simp; omega))))))).mono ?_
    rintro e w5 ⟨ao, cap, rfl, hr5, hb5⟩
    have hb45 : Below w4.heap.size w4 w5 := Below.trans (by (repeat' (first | with_reducible exact Below.refl _ _ | with_reducible assumption | with_reducible refine Below.drew ?_ | with_reducible refine Below_drewN ?_ _ | with_reducible refine Below.alloc ?_ ?_ _ | with_reducible refine Below.setCell ?_ ?_ _ | omega | (simp; done) | (simp; omega)))) (hb5.mono (by simp))
    have hB5 : Below w.heap.size w w5 := hbF.trans (hb45.mono hbF.size)
    have hF5 := hF.under hb45
    have hT5 := hBF.under hb45
    have hRR : rowRep intS (fun b => wo.heap.size < b) w5 ao cap (reaches t k) := hr5.mono (fun b _ hk => ⟨Nat.lt_of_lt_of_le hFl hk, rfl⟩)
    clear hb5 hr5 hF hBF hbF t1 t2 hb45
    have hlen := Hlen k
    have hR0 := Lib.hid (rfl : reaches t k = reaches t k)
    generalize hRk : reaches t k = R at hRR hlen ⊢
    go_wp2
    go_loopw [6, 36] (fun _ idx wr2 => ∃ (j : Nat) (ents : List (Int × Value)), idx = .int .i64 j ∧ j ≤ R.length ∧ Fill t wr2 w2.heap.size 58 rs wo.heap.size ents (R.take j) ∧ rowRep intS (fun b => wo.heap.size < b) wr2 ao cap R ∧ Below w.heap.size w wr2 ∧ blockIs wr2 w.heap.size 24 #[.int .i64 t.n, .slice la t.links.length lc]) (fun _ idx _ => R.length - (intOf idx).toNat)
    case atStart => exact ⟨0, [], rfl, Nat.zero_le _, by simpa using hF5, hRR, hB5, hT5⟩
    case round =>
      obtain ⟨j, ents, rfl, hj, hFj, hrj, hbj, hTj⟩ := hrel
      obtain ⟨q1, q2⟩ := hFj.blk.cells
      have e9 : (cellsM t.n.toNat (rs ++ [wo.heap.size]))[k]? = some (.map (some wo.heap.size)) := cellsM.get (by rw [List.getElem?_append_right (by omega)]; simp [hrl])
      have q3 := (q1 k).trans e9
      have hlaw := int_law
      by_cases hlt : j < R.length
      · obtain ⟨x, hx⟩ : ∃ x, R[j]? = some x := ⟨_, List.getElem?_eq_getElem hlt⟩
        have htk : R.take (j + 1) = R.take j ++ [x] := by
          obtain ⟨h', rfl⟩ := List.getElem?_eq_some_iff.1 hx
          exact List.take_succ_eq_append_getElem h'
        have HTK := Lib.hid htk
        obtain ⟨pb, po, rfl, hpok, hpb, cs1, ⟨rfl, hxI⟩, hce⟩ := hrj.get hx
        have e0 := hce 0 _ rfl
        simp only [intS, Nat.add_zero, Nat.mul_one] at e0
        clear hce hx htk
        have b2 : (j : Int) < (R.length : Int) := by omega
        have hm := hFj.own
        clear q1
        go_wp2_with (refine wpList_insertM (enc := Value.int .i64) rfl _ _ _ 58 (Or.inr rfl) 3 4 Try.underlying58 hlaw (hm.keep (by rfl)) x (.bool true) rfl rfl rfl ?_; go_must (intro w6 hm6 hg6))
        case roundEnd =>
          have hg6' : wr.grownBy w6 (some wo.heap.size) := ⟨hg6.os, hg6.tape, hg6.output, hg6.size, hg6.block⟩
          have hF6 := hFj.insert hm6 hg6'
          go_roundw
          case rel =>
            refine ⟨j + 1, _, by go_num, by omega, by rw [HTK.out]; exact hF6, hrj.mono (fun b hbb hk => ⟨hk, hg6'.block b hbb (by simp; omega)⟩), hbj.trans (grown_below (B := w.heap.size) hg6' (fun k hk => by simp at hk; omega) hbj.size), hTj.grown hg6' (by simp; omega)⟩
          case measure => simp [intOf] <;> omega
      · have b2 : ¬ (j : Int) < (R.length : Int) := by omega
        have hFk := hFj
        rw [List.take_of_length_le (by omega)] at hFk
        have hv : (getE (k : Int) ents).getD (.bool false) = .bool true := by rw [hFk.has k, ← hRk]; rw [decide_eq_true (Hself.out k d1)]
        have hm := hFj.own
        clear q1
        go_wp2_with (refine wpList_lookupW (enc := Value.int .i64) (by rfl) _ _ 58 rfl 3 4 Try.underlying58 hlaw (hm.keep (by rfl)) (k : Int) (.bool false) FZ.out hv rfl rfl ?_)
        case roundEnd =>
          go_roundw
          case rel => exact ⟨k + 1, rs ++ [wo.heap.size], by go_num, by omega, by simp [hrl], (by rw [← hRk, ← hrl] at hFk; exact hFk.full), hbj.trans (by (repeat' (first | with_reducible exact Below.refl _ _ | with_reducible assumption | with_reducible refine Below.drew ?_ | with_reducible refine Below_drewN ?_ _ | with_reducible refine Below.alloc ?_ ?_ _ | with_reducible refine Below.setCell ?_ ?_ _ | omega | (simp; done) | (simp; omega)))), hTj⟩
          case measure => simp [intOf] <;> omega

end Go.Proofs.Ytflhmpmdpdekeaa
