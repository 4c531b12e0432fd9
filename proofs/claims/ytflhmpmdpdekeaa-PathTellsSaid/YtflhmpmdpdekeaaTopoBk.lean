/-
  The walk of TopoBack.
-/
import Derived.Test.YtflhmpmdpdekeaaAlive1
import Derived.Test.YtflhmpmdpdekeaaBackS
import Derived.WalkKit
import Derived.WalkSpells
import Derived.WalkLawsBesides
import Derived.Lib.Hide
import Derived.Deep.LoopGhost
import Derived.Deep.QuietTactic
import Derived.BigQuiet
import Derived.Deep.RegionWith
import Derived.Handy
set_option linter.unusedSimpArgs false
set_option linter.unusedVariables false
namespace Go.St
open Go.RowKit
theorem back_next {p : List Int} {j : Nat} (h : j < p.length) : (p.drop j).reverse = (p.drop (j + 1)).reverse ++ [p[j]] := by
  rw [List.drop_eq_getElem_cons h, List.reverse_cons]
/-- a box that holds a net -/
def SB (tb : Nat) (n : Int) (la : Option Addr) (ll lc : Nat) (w : World) : Prop :=
  w.cell? ⟨tb, 0, none⟩ = some (.int .i64 n) ∧ w.cell? ⟨tb, 1, none⟩ = some (.slice la ll lc)
theorem SB.keep {B tb : Nat} {n : Int} {la : Option Addr} {ll lc : Nat} {w w' : World} (h : SB tb n la ll lc w) (hb : Below B w w') (h1 : tb < B) : SB tb n la ll lc w' :=
  ⟨cell_at hb h1 h.1, cell_at hb h1 h.2⟩
end Go.St
namespace Go.Proofs.Ytflhmpmdpdekeaa
open Go.RowKit Go.St

set_option maxRecDepth 100000 in
set_option maxHeartbeats 8000000 in
theorem topoBack_c (w : World) (t : Topo) (cs : List Value) (ok : Nat → Prop) (h : topoS.rep ok w cs t) (p : List Int) (ap : Option Addr) (cp : Nat) (ok' : Nat → Prop) (hp : rowRep intS ok' w ap cp p) (i : Int) (hi : I64 i) :
    Calls Try.prog 10 #[.agg cs.toArray, .slice ap p.length cp, .int .i64 i] w fun e w' => e = .returned (.bool true) ∧ Below w.heap.size w w' := by
  have hT := h
  obtain ⟨la, lc, rfl, hn, hr⟩ := h
  have hfd := fault_err0
  obtain ⟨i0, hii, hz0, hz1, hz2⟩ := info_parts int_info
  have hpl := hp.len_le
  have hpc := hp.1
  go_enter Try.func10, Try.ntmps10
  go_wp2_with fail
  refine (alive1_c _).mono ?_
  rintro e w1 ⟨rfl, hb1⟩
  have hB1 : Below w.heap.size w w1 := Below.trans (by (repeat' (first | with_reducible exact Below.refl _ _ | with_reducible assumption | with_reducible refine Below.drew ?_ | with_reducible refine Below_drewN ?_ _ | with_reducible refine Below.alloc ?_ ?_ _ | with_reducible refine Below.setCell ?_ ?_ _ | omega | (simp; done) | (simp; omega)))) (hb1.mono (by simp))
  have hT1 : blockIs w1 w.heap.size 24 #[.int .i64 t.n, .slice la t.links.length lc] := (blockIs.new rfl).under hb1
  obtain ⟨t1, t2⟩ := hT1.cells
  have hz1' := hB1.size
  clear hb1
  go_wp2_with fail
  refine (length_c t p _ ok ok' ap cp _ (topoS.below hT (by (repeat' (first | with_reducible exact Below.refl _ _ | with_reducible assumption | with_reducible refine Below.drew ?_ | with_reducible refine Below_drewN ?_ _ | with_reducible refine Below.alloc ?_ ?_ _ | with_reducible refine Below.setCell ?_ ?_ _ | omega | (simp; done) | (simp; omega))))) (hp.below (by (repeat' (first | with_reducible exact Below.refl _ _ | with_reducible assumption | with_reducible refine Below.drew ?_ | with_reducible refine Below_drewN ?_ _ | with_reducible refine Below.alloc ?_ ?_ _ | with_reducible refine Below.setCell ?_ ?_ _ | omega | (simp; done) | (simp; omega)))))).mono ?_
  rintro e w2 ⟨rfl, hb2⟩
  have hb12 : Below w1.heap.size w1 w2 := Below.trans (by (repeat' (first | with_reducible exact Below.refl _ _ | with_reducible assumption | with_reducible refine Below.drew ?_ | with_reducible refine Below_drewN ?_ _ | with_reducible refine Below.alloc ?_ ?_ _ | with_reducible refine Below.setCell ?_ ?_ _ | omega | (simp; done) | (simp; omega)))) (hb2.mono (by simp))
  have hB2 : Below w.heap.size w w2 := hB1.trans (hb12.mono hz1')
  have hT2 := hT1.under hb12
  clear t1 t2 hb2 hT1 hb12
  obtain ⟨t1, t2⟩ := hT2.cells
  have hz2' := hB2.size
  go_wp2_with fail
  refine (topoWrong_c t _ ok _ (topoS.below hT (by (repeat' (first | with_reducible exact Below.refl _ _ | with_reducible assumption | with_reducible refine Below.drew ?_ | with_reducible refine Below_drewN ?_ _ | with_reducible refine Below.alloc ?_ ?_ _ | with_reducible refine Below.setCell ?_ ?_ _ | omega | (simp; done) | (simp; omega)))))).mono ?_
  rintro e w3 ⟨rfl, hb3⟩
  have hb23 : Below w2.heap.size w2 w3 := Below.trans (by (repeat' (first | with_reducible exact Below.refl _ _ | with_reducible assumption | with_reducible refine Below.drew ?_ | with_reducible refine Below_drewN ?_ _ | with_reducible refine Below.alloc ?_ ?_ _ | with_reducible refine Below.setCell ?_ ?_ _ | omega | (simp; done) | (simp; omega)))) (hb3.mono (by simp))
  have hB3 : Below w.heap.size w w3 := hB2.trans (hb23.mono hz2')
  have hT3 := hT2.under hb23
  clear t1 t2 hb3 hT2 hb23
  obtain ⟨t1, t2⟩ := hT3.cells
  have hz3 := hB3.size
  have hzt := hT3.lt
  by_cases h1 : (topoWrong t).1 = 0
  case neg =>
    have h1' : ((topoWrong t).1 != 0) = true := by rw [bne_iff_ne]; exact h1
    clear h1
    generalize topoWrong t = we at *
    generalize lengthOf t p = le at *
    go_wp2
    go_ret; exact ⟨rfl, by (repeat' (first | with_reducible exact Below.refl _ _ | with_reducible assumption | with_reducible refine Below.drew ?_ | with_reducible refine Below_drewN ?_ _ | with_reducible refine Below.alloc ?_ ?_ _ | with_reducible refine Below.setCell ?_ ?_ _ | omega | (simp; done) | (simp; omega)))⟩
  cases h2 : (lengthOf t p).2 with
  | false =>
    rw [h1]
    clear h1
    generalize topoWrong t = we at *
    generalize (lengthOf t p).1 = le at *
    go_wp2
    go_ret; exact ⟨rfl, by (repeat' (first | with_reducible exact Below.refl _ _ | with_reducible assumption | with_reducible refine Below.drew ?_ | with_reducible refine Below_drewN ?_ _ | with_reducible refine Below.alloc ?_ ?_ _ | with_reducible refine Below.setCell ?_ ?_ _ | omega | (simp; done) | (simp; omega)))⟩
  | true =>
  obtain ⟨n1, n2, n3, n4⟩ := back_cost h1 h2
  have hL2 := Lib.hid n2
  have hL4 := Lib.hid n4
  rw [h1]
  clear h1 h2 n2 n4
  rw [n1]
  clear n1
  generalize topoWrong t = we at *
  generalize pathCost t p = pc at *
  have k0 : IntKind.i64.wrap ((p.length : Int) - 1) = (p.length : Int) - 1 := IntWalk.i64_in _ (by omega)
  go_wp2
  go_loopw [9, 10] (fun out i wr => ∃ (j : Nat) (o : List Int) (ao : Option Addr) (cap : Nat), out = .slice ao o.length cap ∧ i = .int .i64 ((j : Int) - 1) ∧ j ≤ p.length ∧ Hid (o = (p.drop j).reverse) ∧ o.length ≤ 8 ∧ ownR intS 3 (fun _ => False) w3.heap.size wr ao o.length cap o ∧ Below w.heap.size w wr ∧ w3.heap.size ≤ wr.heap.size ∧ blockIs wr w.heap.size 24 #[.int .i64 t.n, .slice la t.links.length lc]) (fun _ i _ => (intOf i + 1).toNat)
  case atStart =>
    exact ⟨p.length, [], none, 0, rfl, rfl, Nat.le_refl _, Lib.hid (by simp), by simp, ownR.nil' intS 3 w3.heap.size _, by (repeat' (first | with_reducible exact Below.refl _ _ | with_reducible assumption | with_reducible refine Below.drew ?_ | with_reducible refine Below_drewN ?_ _ | with_reducible refine Below.alloc ?_ ?_ _ | with_reducible refine Below.setCell ?_ ?_ _ | omega | (simp; done) | (simp; omega))), by simp, hT3⟩
  case round =>
    obtain ⟨j, o, ao, cap, rfl, rfl, hj, HO, hol, hown, hb, hz, hB⟩ := hrel
    clear t1 t2
    obtain ⟨r1, r2⟩ := hB.cells
    have hzB := hB.lt
    cases j with
    | succ j =>
      have hjl : j < p.length := by omega
      obtain ⟨x, hx⟩ : ∃ x, p[j]? = some x := ⟨_, List.getElem?_eq_getElem hjl⟩
      have hnx := back_next hjl
      have hxe : p[j] = x := by rw [List.getElem?_eq_getElem hjl] at hx; exact Option.some.inj hx
      rw [hxe, ← HO.out] at hnx
      have hol2 : (o ++ [x]).length ≤ 8 := by rw [← hnx]; simp; omega
      have HN := Lib.hid hnx.symm
      clear hnx hxe
      simp only [List.length_append, List.length_cons, List.length_nil] at hol2
      obtain ⟨pb, po, rfl, _, hpb, cs1, ⟨rfl, hxI⟩, hce⟩ := (hp.below hb).get hx
      have e0 := hce 0 _ rfl
      simp only [intS, Nat.add_zero, Nat.mul_one] at e0
      clear hce
      have b0 : (0 : Int) ≤ ((j + 1 : Nat) : Int) - 1 := by omega
      have b1 : ((j + 1 : Nat) : Int) - 1 = (j : Int) := by omega
      rw [b1] at b0
      rw [b1]
      have b2 : (j : Int) < (p.length : Int) := by omega
      have b3 : ((j : Int)).toNat = j := by omega
      have b4 : IntKind.i64.wrap ((j : Int) - 1) = (j : Int) - 1 := IntWalk.i64_in _ (by omega)
      go_wp2_with (at_builtin; go_must (refine wpList_appR (sh := intS) rfl _ _ 25 rfl 3 i0 (.int .i64 0) 8 Try.underlying25 hii hz0 hz1 hz2 rfl (by decide) rfl (hown.alloc _) rfl rfl (srcRep.ints [x] rfl (by simpa using hxI)) (by simp only [maxLen]; omega) (by omega) (by first | omega | (simp; done) | (simp; omega)) ?_); go_must (intro ao3 cap3 w4 hown3 hg3 _; have hb3 := grown_below (B := w3.heap.size) hg3 (fun k hk => (hown.lt k hk).1) (by first | omega | (simp; done) | (simp; omega))))
      case roundEnd =>
        go_roundw
        case rel =>
          refine ⟨j, o ++ [x], ao3, cap3, by rw [List.length_append]; rfl, by first | rfl | go_num, by omega, HN, by simpa using hol2, by rw [List.length_append]; exact hown3, hb.trans (Below.trans (by (repeat' (first | with_reducible exact Below.refl _ _ | with_reducible assumption | with_reducible refine Below.drew ?_ | with_reducible refine Below_drewN ?_ _ | with_reducible refine Below.alloc ?_ ?_ _ | with_reducible refine Below.setCell ?_ ?_ _ | omega | (simp; done) | (simp; omega)))) (hb3.mono hz3)), ?_, ?_⟩
          · have := hb3.size; simp at this; omega
          · exact (hB.alloc _).below hb3 (by omega)
        case measure => simp [intOf] <;> omega
    | zero =>
      have b0 : ¬ (0 : Int) ≤ ((0 : Nat) : Int) - 1 := by omega
      have hback : rowRep intS (fun _ => True) wr ao cap o := hown.row (fun _ h => h.elim) (fun _ _ => trivial)
      rw [show p.reverse = o from by rw [HO.out]; simp] at hL2
      go_wp2_with fail
      have hLc := fun w' (hw' : Below wr.heap.size wr w') => length_c t o [.int .i64 t.n, .slice la t.links.length lc] ok (fun _ => True) ao cap w' (topoS.below hT (hb.trans (hw'.mono (Nat.le_of_lt hzB)))) (hback.below hw')
      rw [hL2.out] at hLc
      refine (hLc _ (by (repeat' (first | with_reducible exact Below.refl _ _ | with_reducible assumption | with_reducible refine Below.drew ?_ | with_reducible refine Below_drewN ?_ _ | with_reducible refine Below.alloc ?_ ?_ _ | with_reducible refine Below.setCell ?_ ?_ _ | omega | (simp; done) | (simp; omega))))).mono ?_
      rintro e w5 ⟨rfl, hb5⟩
      have hb45 : Below wr.heap.size wr w5 := Below.trans (by (repeat' (first | with_reducible exact Below.refl _ _ | with_reducible assumption | with_reducible refine Below.drew ?_ | with_reducible refine Below_drewN ?_ _ | with_reducible refine Below.alloc ?_ ?_ _ | with_reducible refine Below.setCell ?_ ?_ _ | omega | (simp; done) | (simp; omega)))) (hb5.mono (by simp))
      have hB5 : Below w.heap.size w w5 := hb.trans (hb45.mono (by omega))
      have hT5 := hB.under hb45
      clear hb5 hLc r1 r2 hB
      obtain ⟨r1, r2⟩ := hT5.cells
      have hz5 := hB5.size
      by_cases c0 : i < 0
      · go_wp2
        go_ret; exact ⟨rfl, by (repeat' (first | with_reducible exact Below.refl _ _ | with_reducible assumption | with_reducible refine Below.drew ?_ | with_reducible refine Below_drewN ?_ _ | with_reducible refine Below.alloc ?_ ?_ _ | with_reducible refine Below.setCell ?_ ?_ _ | omega | (simp; done) | (simp; omega)))⟩
      by_cases c1 : (p.length : Int) ≤ i
      · go_wp2
        go_ret; exact ⟨rfl, by (repeat' (first | with_reducible exact Below.refl _ _ | with_reducible assumption | with_reducible refine Below.drew ?_ | with_reducible refine Below_drewN ?_ _ | with_reducible refine Below.alloc ?_ ?_ _ | with_reducible refine Below.setCell ?_ ?_ _ | omega | (simp; done) | (simp; omega)))⟩
      obtain ⟨j, rfl⟩ := Int.eq_ofNat_of_zero_le (Int.not_lt.1 c0)
      have hjl : j < p.length := by omega
      obtain ⟨a, b, la1, la2, la3, la4⟩ := hL4.out j hjl
      obtain ⟨x, hx⟩ : ∃ x, p[j]? = some x := ⟨_, List.getElem?_eq_getElem hjl⟩
      obtain ⟨pb, po, rfl, _, hpb, cs1, ⟨rfl, hxI⟩, hce⟩ := hp.get hx
      clear hce
      have d0 : (0 : Int) ≤ (j : Int) := by omega
      have d1 : (j : Int) < (p.length : Int) := by omega
      have d2 : (j : Int) ≤ (p.length : Int) := by omega
      have d3 : (p.length : Int) ≤ (cp : Int) := by omega
      have d4 : ((p.length : Int)).toNat = p.length := by omega
      have d5 : ((j : Int)).toNat = j := by omega
      have d6 : ¬ cp = j := by omega
      have d7 : IntKind.i64.wrap ((j : Int) + 1) = (j : Int) + 1 := IntWalk.i64_in _ (by omega)
      have d8 : (0 : Int) ≤ (j : Int) + 1 := by omega
      have d9 : (j : Int) + 1 ≤ (cp : Int) := by omega
      have d10 : ((j : Int) + 1).toNat = j + 1 := by omega
      have d11 : ((cp : Int)).toNat = cp := by omega
      have d12 : IntKind.i64.wrap (a + b) = a + b := IntWalk.i64_in _ (by have := la4.1; have := la4.2; omega)
      have d13 := d12
      rw [la3] at d13
      have d14 := Lib.hid d13
      clear d13
      have hpt := hp.take (j + 1)
      have hpd := hp.drop j (by omega)
      simp only [intS, Nat.mul_one] at hpd
      have hl1 : (p.take (j + 1)).length = j + 1 := by simp; omega
      have hl2 : (p.drop j).length = p.length - j := List.length_drop
      have HA := fun w' hw' => length_c t (p.take (j + 1)) [.int .i64 t.n, .slice la t.links.length lc] ok ok' (some ⟨pb, po, none⟩) cp w' (topoS.below hT hw') (hpt.below hw')
      have HB := fun w' hw' => length_c t (p.drop j) [.int .i64 t.n, .slice la t.links.length lc] ok ok' (some ⟨pb, po + j, none⟩) (cp - j) w' (topoS.below hT hw') (hpd.below hw')
      rw [la1, hl1] at HA
      rw [la2, hl2] at HB
      have HA' := Lib.hid HA
      have HB' := Lib.hid HB
      clear HA HB la1 la2 hl1 hl2 hpt hpd hx hback hown la4
      go_wp2
      have hT6 : SB w.heap.size t.n la t.links.length lc w5.drew := ⟨r1 0, r1 1⟩
      refine wp_region_K (SB w.heap.size t.n la t.links.length lc) 99 (by kernel_rfl) ?_
      have hS := hT6
      refine wpAnyK_take' (i := 0) (.agg #[.int .i64 t.n, .slice la t.links.length lc]) rfl (by kernel_rfl) (fun _ _ _ h => h) hS (yields_value (by kernel_rfl) (by intro w0 hw0; have hw1 := hw0; simp only [SB] at hw1; go_simp)) ?_; simp only [Act.put, List.getElem_toArray, List.getElem_cons_succ, List.getElem_cons_zero, List.setIfInBounds_toArray, List.set_cons_succ, List.set_cons_zero]
      refine wpAnyK_take' (i := 1) (.slice (some ⟨pb, po, none⟩) p.length cp) rfl (by kernel_rfl) (fun _ _ _ h => h) hS (yields_value (by kernel_rfl) (by intro w0 hw0; have hw1 := hw0; simp only [SB] at hw1; go_simp)) ?_; simp only [Act.put, List.getElem_toArray, List.getElem_cons_succ, List.getElem_cons_zero, List.setIfInBounds_toArray, List.set_cons_succ, List.set_cons_zero]
      refine wpAnyK_take' (i := 2) (.int .i64 j) rfl (by kernel_rfl) (fun _ _ _ h => h) hS (yields_value (by kernel_rfl) (by intro w0 hw0; have hw1 := hw0; simp only [SB] at hw1; go_simp)) ?_; simp only [Act.put, List.getElem_toArray, List.getElem_cons_succ, List.getElem_cons_zero, List.setIfInBounds_toArray, List.set_cons_succ, List.set_cons_zero]
      refine wpAnyK_take' (i := 3) (.int .i64 ((j : Int) + 1)) rfl (by kernel_rfl) (fun _ _ _ h => h) hS (yields_value (by kernel_rfl) (by intro w0 hw0; have hw1 := hw0; simp only [SB] at hw1; go_simp)) ?_; simp only [Act.put, List.getElem_toArray, List.getElem_cons_succ, List.getElem_cons_zero, List.setIfInBounds_toArray, List.set_cons_succ, List.set_cons_zero]
      refine wpAnyK_take' (i := 4) (.slice (some ⟨pb, po, none⟩) (j + 1) cp) rfl (by kernel_rfl) (fun _ _ _ h => h) hS (yields_value (by kernel_rfl) (by intro w0 hw0; have hw1 := hw0; simp only [SB] at hw1; go_simp)) ?_; simp only [Act.put, List.getElem_toArray, List.getElem_cons_succ, List.getElem_cons_zero, List.setIfInBounds_toArray, List.set_cons_succ, List.set_cons_zero]
      refine wpAnyK_call (i := 5) rfl (by kernel_rfl) (by kernel_rfl) fun K5 hK5 => ?_
      go_simp
      go_wp2_with fail
      refine (HA'.out _ (hB5.trans (by (repeat' (first | with_reducible exact Below.refl _ _ | with_reducible assumption | with_reducible refine Below.drew ?_ | with_reducible refine Below_drewN ?_ _ | with_reducible refine Below.alloc ?_ ?_ _ | with_reducible refine Below.setCell ?_ ?_ _ | omega | (simp; done) | (simp; omega)))))).mono ?_
      rintro e w6 ⟨rfl, hb6⟩
      have hb56 : Below w5.heap.size w5 w6 := Below.trans (by (repeat' (first | with_reducible exact Below.refl _ _ | with_reducible assumption | with_reducible refine Below.drew ?_ | with_reducible refine Below_drewN ?_ _ | with_reducible refine Below.alloc ?_ ?_ _ | with_reducible refine Below.setCell ?_ ?_ _ | omega | (simp; done) | (simp; omega)))) (hb6.mono (by simp))
      have hS6 : SB w.heap.size t.n la t.links.length lc w6 := hT6.keep hb6 (by simpa using hT5.lt)
      have hB6 : Below w.heap.size w w6 := hB5.trans (hb56.mono hz5)
      have hz6 := hB6.size
      have hlt6 : w.heap.size < w6.heap.size := by have := hb56.size; have := hT5.lt; omega
      clear hb6 hS hT6 HA' r1 r2 hb56
      have hS := hS6
      go_wp2_with fail
      refine hK5 _ _ (fun _ => hS) ?_
      clear hK5
      refine wpAnyK_take' (i := 6) (.tuple #[.int .i64 a, .bool true]) rfl (by kernel_rfl) (fun _ _ _ h => h) hS (yields_value (by kernel_rfl) (by intro w0 hw0; have hw1 := hw0; simp only [SB] at hw1; go_simp)) ?_; simp only [Act.put, List.getElem_toArray, List.getElem_cons_succ, List.getElem_cons_zero, List.setIfInBounds_toArray, List.set_cons_succ, List.set_cons_zero]
      refine wpAnyK_take' (i := 7) (.int .i64 a) rfl (by kernel_rfl) (fun _ _ _ h => h) hS (yields_value (by kernel_rfl) (by intro w0 hw0; have hw1 := hw0; simp only [SB] at hw1; go_simp)) ?_; simp only [Act.put, List.getElem_toArray, List.getElem_cons_succ, List.getElem_cons_zero, List.setIfInBounds_toArray, List.set_cons_succ, List.set_cons_zero]
      refine wpAnyK_take' (i := 8) (.bool true) rfl (by kernel_rfl) (fun _ _ _ h => h) hS (yields_value (by kernel_rfl) (by intro w0 hw0; have hw1 := hw0; simp only [SB] at hw1; go_simp)) ?_; simp only [Act.put, List.getElem_toArray, List.getElem_cons_succ, List.getElem_cons_zero, List.setIfInBounds_toArray, List.set_cons_succ, List.set_cons_zero]
      refine wpAnyK_take' (i := 9) (.int .i64 a) rfl (by kernel_rfl) (fun _ _ _ h => h) hS (yields_value (by kernel_rfl) (by intro w0 hw0; have hw1 := hw0; simp only [SB] at hw1; go_simp)) ?_; simp only [Act.put, List.getElem_toArray, List.getElem_cons_succ, List.getElem_cons_zero, List.setIfInBounds_toArray, List.set_cons_succ, List.set_cons_zero]
      refine wpAnyK_take' (i := 10) (.bool true) rfl (by kernel_rfl) (fun _ _ _ h => h) hS (yields_value (by kernel_rfl) (by intro w0 hw0; have hw1 := hw0; simp only [SB] at hw1; go_simp)) ?_; simp only [Act.put, List.getElem_toArray, List.getElem_cons_succ, List.getElem_cons_zero, List.setIfInBounds_toArray, List.set_cons_succ, List.set_cons_zero]
      refine wpAnyK_done (by kernel_rfl) ?_ _
      go_wp2
      have hT7 : SB w.heap.size t.n la t.links.length lc w6.drew := hS6
      refine wp_region_K (SB w.heap.size t.n la t.links.length lc) 99 (by kernel_rfl) ?_
      clear hS hS6
      have hS := hT7
      refine wpAnyK_take' (i := 0) (.agg #[.int .i64 t.n, .slice la t.links.length lc]) rfl (by kernel_rfl) (fun _ _ _ h => h) hS (yields_value (by kernel_rfl) (by intro w0 hw0; have hw1 := hw0; simp only [SB] at hw1; go_simp)) ?_; simp only [Act.put, List.getElem_toArray, List.getElem_cons_succ, List.getElem_cons_zero, List.setIfInBounds_toArray, List.set_cons_succ, List.set_cons_zero]
      refine wpAnyK_take' (i := 1) (.slice (some ⟨pb, po, none⟩) p.length cp) rfl (by kernel_rfl) (fun _ _ _ h => h) hS (yields_value (by kernel_rfl) (by intro w0 hw0; have hw1 := hw0; simp only [SB] at hw1; go_simp)) ?_; simp only [Act.put, List.getElem_toArray, List.getElem_cons_succ, List.getElem_cons_zero, List.setIfInBounds_toArray, List.set_cons_succ, List.set_cons_zero]
      refine wpAnyK_take' (i := 2) (.int .i64 j) rfl (by kernel_rfl) (fun _ _ _ h => h) hS (yields_value (by kernel_rfl) (by intro w0 hw0; have hw1 := hw0; simp only [SB] at hw1; go_simp)) ?_; simp only [Act.put, List.getElem_toArray, List.getElem_cons_succ, List.getElem_cons_zero, List.setIfInBounds_toArray, List.set_cons_succ, List.set_cons_zero]
      refine wpAnyK_take' (i := 3) (.slice (some ⟨pb, po + j, none⟩) (p.length - j) (cp - j)) rfl (by kernel_rfl) (fun _ _ _ h => h) hS (yields_value (by kernel_rfl) (by intro w0 hw0; have hw1 := hw0; simp only [SB] at hw1; go_simp)) ?_; simp only [Act.put, List.getElem_toArray, List.getElem_cons_succ, List.getElem_cons_zero, List.setIfInBounds_toArray, List.set_cons_succ, List.set_cons_zero]
      refine wpAnyK_call (i := 4) rfl (by kernel_rfl) (by kernel_rfl) fun K4 hK4 => ?_
      go_simp
      go_wp2_with fail
      refine (HB'.out _ (hB6.trans (by (repeat' (first | with_reducible exact Below.refl _ _ | with_reducible assumption | with_reducible refine Below.drew ?_ | with_reducible refine Below_drewN ?_ _ | with_reducible refine Below.alloc ?_ ?_ _ | with_reducible refine Below.setCell ?_ ?_ _ | omega | (simp; done) | (simp; omega)))))).mono ?_
      rintro e w7 ⟨rfl, hb7⟩
      have hb67 : Below w6.heap.size w6 w7 := Below.trans (by (repeat' (first | with_reducible exact Below.refl _ _ | with_reducible assumption | with_reducible refine Below.drew ?_ | with_reducible refine Below_drewN ?_ _ | with_reducible refine Below.alloc ?_ ?_ _ | with_reducible refine Below.setCell ?_ ?_ _ | omega | (simp; done) | (simp; omega)))) (hb7.mono (by simp))
      have hS7 : SB w.heap.size t.n la t.links.length lc w7 := hT7.keep hb7 (by simpa using hlt6)
      have hB7 : Below w.heap.size w w7 := hB6.trans (hb67.mono hz6)
      clear hb7 hS hT7 HB' hb67
      have hS := hS7
      go_wp2_with fail
      refine hK4 _ _ (fun _ => hS) ?_
      clear hK4
      refine wpAnyK_take' (i := 5) (.tuple #[.int .i64 b, .bool true]) rfl (by kernel_rfl) (fun _ _ _ h => h) hS (yields_value (by kernel_rfl) (by intro w0 hw0; have hw1 := hw0; simp only [SB] at hw1; go_simp)) ?_; simp only [Act.put, List.getElem_toArray, List.getElem_cons_succ, List.getElem_cons_zero, List.setIfInBounds_toArray, List.set_cons_succ, List.set_cons_zero]
      refine wpAnyK_take' (i := 6) (.int .i64 b) rfl (by kernel_rfl) (fun _ _ _ h => h) hS (yields_value (by kernel_rfl) (by intro w0 hw0; have hw1 := hw0; simp only [SB] at hw1; go_simp)) ?_; simp only [Act.put, List.getElem_toArray, List.getElem_cons_succ, List.getElem_cons_zero, List.setIfInBounds_toArray, List.set_cons_succ, List.set_cons_zero]
      refine wpAnyK_take' (i := 7) (.bool true) rfl (by kernel_rfl) (fun _ _ _ h => h) hS (yields_value (by kernel_rfl) (by intro w0 hw0; have hw1 := hw0; simp only [SB] at hw1; go_simp)) ?_; simp only [Act.put, List.getElem_toArray, List.getElem_cons_succ, List.getElem_cons_zero, List.setIfInBounds_toArray, List.set_cons_succ, List.set_cons_zero]
      refine wpAnyK_take' (i := 8) (.int .i64 b) rfl (by kernel_rfl) (fun _ _ _ h => h) hS (yields_value (by kernel_rfl) (by intro w0 hw0; have hw1 := hw0; simp only [SB] at hw1; go_simp)) ?_; simp only [Act.put, List.getElem_toArray, List.getElem_cons_succ, List.getElem_cons_zero, List.setIfInBounds_toArray, List.set_cons_succ, List.set_cons_zero]
      refine wpAnyK_take' (i := 9) (.bool true) rfl (by kernel_rfl) (fun _ _ _ h => h) hS (yields_value (by kernel_rfl) (by intro w0 hw0; have hw1 := hw0; simp only [SB] at hw1; go_simp)) ?_; simp only [Act.put, List.getElem_toArray, List.getElem_cons_succ, List.getElem_cons_zero, List.setIfInBounds_toArray, List.set_cons_succ, List.set_cons_zero]
      refine wpAnyK_done (by kernel_rfl) ?_ _
      clear hS hS7
      go_wp2
      go_ret; exact ⟨by first | rfl | exact ret_bool (by simp [la3]; exact (IntWalk.i64_left _).symm.trans d14.out), by (repeat' (first | with_reducible exact Below.refl _ _ | with_reducible assumption | with_reducible refine Below.drew ?_ | with_reducible refine Below_drewN ?_ _ | with_reducible refine Below.alloc ?_ ?_ _ | with_reducible refine Below.setCell ?_ ?_ _ | omega | (simp; done) | (simp; omega)))⟩

end Go.Proofs.Ytflhmpmdpdekeaa
