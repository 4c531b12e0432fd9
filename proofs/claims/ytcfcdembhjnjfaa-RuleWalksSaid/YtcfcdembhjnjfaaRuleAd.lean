/-
  The walk of RuleAdd.
-/
import Derived.Test.YtcfcdembhjnjfaaAlive4
import Derived.WalkKit
import Derived.WalkSpells
import Derived.WalkLawsBesides
import Derived.Lib.Hide
import Derived.Deep.LoopGhost
import Derived.Deep.QuietTactic
import Derived.BigQuiet
import Derived.Deep.RegionWith
import Derived.Handy
set_option linter.unusedSimpArgs false
set_option linter.unusedVariables false
namespace Go.Proofs.Ytcfcdembhjnjfaa
open Go.RowKit Go.St

set_option maxRecDepth 100000 in
theorem fault_errR (a b : Value) (w : World) : (Instr.field 32 (.agg #[a, b]) 0).run Try.prog w = .ok a w := by first | rfl | kernel_rfl | (simp [Instr.field]; done)

set_option maxRecDepth 100000 in
set_option maxHeartbeats 8000000 in
theorem ruleAdd_c (w : World) (l : List Rule) (ax : Option Addr) (cx : Nat) (ok : Nat → Prop) (hx : rowRep ruleS ok w ax cx l) (z1 : l.length * 24 ≤ 140737488351232) (more : List Rule) (ay : Option Addr) (cy : Nat) (ok' : Nat → Prop) (hy : rowRep ruleS ok' w ay cy more) (z2 : more.length * 24 ≤ 140737488351232) :
    Calls Try.prog 3 #[.slice ax l.length cx, .slice ay more.length cy] w fun e w' => e = .returned (.bool true) ∧ Below w.heap.size w w' := by
  obtain ⟨i0, hi, hz0, hz1, hz2⟩ := info_parts info_rules
  have hfe := fault_errR
  go_enter Try.func3, Try.ntmps3
  go_wp2_with fail
  refine (alive4_c w).mono ?_
  rintro e w1 ⟨rfl, hb1⟩
  go_wp2_with fail
  refine (add_c l more ok ok' ax ay cx cy w1 (hx.below hb1) (hy.below hb1) (by omega) (by omega)).mono ?_
  rintro e w2 ⟨ao, cap, rfl, hm, hb2⟩
  have hB2 := hb1.trans (hb2.mono hb1.size)
  clear hb1 hb2
  by_cases h2 : (addOf l more).2 = 0
  case neg =>
    have h2' : ((addOf l more).2 != 0) = true := by rw [bne_iff_ne]; exact h2
    rw [add_bad h2]
    clear h2 hm
    generalize (addOf l more).2 = c2 at *
    go_wp2
    go_ret; exact ⟨rfl, by (repeat' (first | with_reducible exact Below.refl _ _ | with_reducible assumption | with_reducible refine Below.drew ?_ | with_reducible refine Below_drewN ?_ _ | with_reducible refine Below.alloc ?_ ?_ _ | with_reducible refine Below.setCell ?_ ?_ _ | omega | (simp; done) | (simp; omega)))⟩
  obtain ⟨h3, h4, h5⟩ := add_good h2
  have hag := add_again h2
  have hol := out_len l more
  have hnx : ∀ r, r ∈ l ++ more → nextOf (outOf l more) r.ver r.flow = (r.next, true) := fun r hr => up_next h5.up ((out_mem l more r).2 (List.mem_append.1 hr))
  have htw := tab_ok.2 h5
  have hl16 := h4.len
  rw [h2]
  rw [h3] at hm ⊢
  clear h2 h3 h4 h5
  have HNX := Lib.hid hnx
  have HAG := Lib.hid hag
  clear hnx hag
  generalize outOf l more = m at *
  have hz := hB2.size
  have hzl : (l ++ more).length = l.length + more.length := List.length_append
  have HZL := Lib.hid hzl
  clear hzl
  have hown : ownR ruleS 28 (fun _ => False) w2.heap.size (w2.alloc (.cells (([] : List Rule).map (fun _ => Value.int .i64 0)).toArray 28)) (some ⟨w2.heap.size, 0, none⟩) 0 0 [] := ownR.lit rfl rfl (Nat.le_refl _) (by decide) (by simp) (fun _ h => h.elim)
  go_wp2_with (at_builtin; first
    | (refine wpList_appR (sh := ruleS) rfl _ _ 22 rfl 28 i0 (.agg #[.int .i64 0, .int .i64 0, .int .i64 0]) 24 Try.underlying22 hi hz0 hz1 hz2 rfl (by decide) rfl hown1 rfl rfl ((hy.below (show Below w.heap.size w _ from hBB3)).src.flat fun h => h) (by simp only [maxLen]; omega) (by omega) (by omega) ?_
       intro ao2 cap2 w4 hown2 hg2 hbk2
       have hb4 := grown_below (B := w2.heap.size) hg2 (fun k hk => (hown1.lt k hk).1) (by omega)
       have hB4 : Below w2.heap.size w2 w4 := hB3.trans hb4
       have hBB4 : Below w.heap.size w w4 := hB2.trans (hB4.mono hz)
       have hz4 := hB4.size
       clear hown1 hg2 hbk2 hb4 hB3 hBB3 hz3)
    | (refine wpList_appR (sh := ruleS) rfl _ _ 22 rfl 28 i0 (.agg #[.int .i64 0, .int .i64 0, .int .i64 0]) 24 Try.underlying22 hi hz0 hz1 hz2 rfl (by decide) rfl hown rfl rfl ((hx.below (show Below w.heap.size w _ by (repeat' (first | with_reducible exact Below.refl _ _ | with_reducible assumption | with_reducible refine Below.drew ?_ | with_reducible refine Below_drewN ?_ _ | with_reducible refine Below.alloc ?_ ?_ _ | with_reducible refine Below.setCell ?_ ?_ _ | omega | (simp; done) | (simp; omega))))).src.flat fun h => h) (by simp only [maxLen]; omega) (by omega) (by first | omega | (simp; done) | (simp; omega)) ?_
       intro ao1 cap1 w3 hown1 hg1 hbk1
       have hb3 := grown_below (B := w2.heap.size) hg1 (fun k hk => (hown.lt k hk).1) (by first | omega | (simp; done) | (simp; omega))
       rw [List.nil_append, Nat.zero_add] at hown1
       have hB3 : Below w2.heap.size w2 w3 := Below.trans (by (repeat' (first | with_reducible exact Below.refl _ _ | with_reducible assumption | with_reducible refine Below.drew ?_ | with_reducible refine Below_drewN ?_ _ | with_reducible refine Below.alloc ?_ ?_ _ | with_reducible refine Below.setCell ?_ ?_ _ | omega | (simp; done) | (simp; omega)))) hb3
       have hBB3 : Below w.heap.size w w3 := hB2.trans (hB3.mono hz)
       have hz3 := hB3.size
       clear hown hg1 hbk1 hb3))
  have hrow := hown2.row (ok' := fun b => w2.heap.size ≤ b) (fun _ h => h.elim) (fun k hk => (hown2.lt k hk).1)
  have hm4 := hm.below (hB4.mono (Nat.le_refl _))
  have HNX2 : Hid (∀ (k : Nat) (r : Rule), (l ++ more)[k]? = some r → nextOf m r.ver r.flow = (r.next, true)) := fun k r h => HNX.out r (List.mem_of_getElem? h)
  have HZL2 : Hid ((l ++ more).length = l.length + more.length) := HZL.out
  clear hown2 hm HNX HZL
  generalize l ++ more = xs at *
  go_loopw [8, 9, 10, 31] (fun _ _ _ idx wr => ∃ j : Nat, idx = .int .i64 j ∧ j ≤ xs.length ∧ Below w4.heap.size w4 wr) (fun _ _ _ idx _ => xs.length - (intOf idx).toNat)
  case atStart => exact ⟨0, rfl, Nat.zero_le _, Below.refl _ _⟩
  case round =>
    obtain ⟨j, rfl, hj, hb⟩ := hrel
    rename World => wo
    have hxl := HZL2.out
    by_cases hlt : j < xs.length
    · obtain ⟨r, hr⟩ : ∃ r, xs[j]? = some r := ⟨_, List.getElem?_eq_getElem hlt⟩
      obtain ⟨b, off, rfl, hbl, hri, hce⟩ := hrow.rules hr
      obtain ⟨e0, e1, e2⟩ := hce _ hb
      have hN := HNX2.out j r hr
      have b0 : (0 : Int) ≤ (j : Int) := by omega
      have b1 : (j : Int) < (l.length : Int) + (more.length : Int) := by omega
      have hzz := hb.size
      clear hce hr hxl
      go_wp2_with fail
      have hb5 : Below w4.heap.size w4 (wo.alloc (.cells #[.int .i64 r.ver, .int .i64 r.flow, .int .i64 r.next] 28)) := by (repeat' (first | with_reducible exact Below.refl _ _ | with_reducible assumption | with_reducible refine Below.drew ?_ | with_reducible refine Below_drewN ?_ _ | with_reducible refine Below.alloc ?_ ?_ _ | with_reducible refine Below.setCell ?_ ?_ _ | omega | (simp; done) | (simp; omega)))
      have hbk := (blockIs.new (w := wo) (t := 28) (cs := #[.int .i64 r.ver, .int .i64 r.flow, .int .i64 r.next]) rfl)
      have hC := next_c m r.ver r.flow _ ao cap _ (hm4.below hb5)
      rw [hN] at hC
      have HC := Lib.hid hC
      clear hC hN
      refine HC.out.mono ?_
      rintro e w6 ⟨rfl, hb6⟩
      have hbk6 := hbk.under hb6
      have hb7 : Below w4.heap.size w4 w6 := hb5.trans (hb6.mono hb5.size)
      obtain ⟨k1, k2⟩ := hbk6.cells
      clear HC hb5 hb6 hbk hbk6
      go_wp2
      case roundEnd =>
        go_roundw
        case rel => exact ⟨j + 1, by go_num, by omega, hb7⟩
        case measure => simp [intOf] <;> omega
    have b1 : ¬ (j : Int) < (l.length : Int) + (more.length : Int) := by omega
    have hmo := hm4.below hb
    have hB5 : Below w.heap.size w wo := hBB4.trans (hb.mono (by omega))
    have hz5 := hB5.size
    have b2 : ¬ (m.length : Int) > (l.length : Int) + (more.length : Int) := by omega
    have hWc := tabWrong_c m _ ao cap wo hmo
    generalize htm : tabWrong m = tm at *
    obtain ⟨tm1, tm2⟩ := tm
    dsimp only at *
    subst htw
    have HTM := Lib.hid htm
    clear hb HNX2 hxl htm hrow hm4 hBB4 hB4
    go_wp2_with fail
    refine hWc.mono ?_
    rintro e w6 ⟨rfl, hb6⟩
    have hB6 : Below w.heap.size w w6 := hB5.trans (hb6.mono hz5)
    have hm6 := hmo.below hb6
    have hz6 := hB6.size
    have hml : m.length * 24 ≤ 140737488355328 := by omega
    have hA := add_c m more _ ok' ao ay cap cy w6 hm6 (hy.below hB6) hml (by omega)
    rw [HAG.out] at hA
    have HA := Lib.hid hA
    clear hA hmo hB5 hb6 hWc HAG
    go_wp2_with fail
    refine HA.out.mono ?_
    rintro e w7 ⟨ao7, cap7, rfl, hm7, hb7⟩
    have hB7 : Below w.heap.size w w7 := hB6.trans (hb7.mono hz6)
    have hz7 := hB7.size
    have hSm := sameRules_c m m _ _ ao ao7 cap cap7 w7 (hm6.below hb7) hm7
    rw [show (m == m) = true from by simp] at hSm
    have HSm := Lib.hid hSm
    clear hSm HA hb7 hm7 hm6
    go_wp2_with fail
    refine HSm.out.mono ?_
    rintro e w8 ⟨rfl, hb8⟩
    have hB8 : Below w.heap.size w w8 := hB7.trans (hb8.mono hz7)
    clear HSm
    go_wp2
    go_ret; exact ⟨rfl, hB8⟩

end Go.Proofs.Ytcfcdembhjnjfaa
