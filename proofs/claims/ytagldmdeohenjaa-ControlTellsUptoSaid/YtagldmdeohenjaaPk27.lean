/-
  The walk of the document's All.
-/
import Derived.WalkKit
import Derived.WalkSpells
import Derived.WalkLawsBesides
import Derived.Lib.Hide
import Derived.Deep.LoopGhost
import Derived.Deep.QuietTactic
import Derived.BigQuiet
import Derived.Deep.RegionWith
import Derived.Handy
import Derived.Test.YtagldmdeohenjaaPk26
import Derived.Test.YtagldmdeohenjaaPk22
import Derived.Test.YtagldmdeohenjaaPk8
set_option linter.unusedSimpArgs false
set_option linter.unusedVariables false
namespace Go.Proofs.Ytagldmdeohenjaa
open Go.RowKit Go.St
theorem ints_info : (Try.prog.info? 26).map (fun i => (i.zero, i.size, i.bytes)) = some (some (.slice none 0 0), 1, 24) := by kernel_rfl

set_option maxRecDepth 100000 in
set_option maxHeartbeats 16000000 in
theorem all_c (t : Topo) (cs : List Value) (ok : Nat → Prop) (htn : t.n ≤ 8) (to : Int) (hto : I64 to) : ∀ (f : Nat) (p : List Int) (w : World) (pa : Option Addr) (pc B : Nat), topoS.rep ok w cs t → rowRep intS (fun b => B ≤ b) w pa pc p → B ≤ w.heap.size →
    p ≠ [] → p.Nodup → (∀ s ∈ p, 0 ≤ s ∧ s < t.n) → p.length + f = 9 →
    Calls Try.prog 57 #[.agg cs.toArray, .slice pa p.length pc, .int .i64 to] w fun e w' => ∃ ao cap, e = .returned (.slice ao (allP t to f p).length cap) ∧ rowRep (sliceS intS) (fun b => B ≤ b) w' ao cap (allP t to f p) ∧ Below w.heap.size w w' := by
  intro f
  induction f with
  | zero =>
    intro p w pa pc B _ _ _ hne hnd hrg hf
    have := nodup_len hnd hrg
    omega
  | succ f ih =>
  intro p w pa pc B h hp hBw hne hnd hrg hf
  have hT := h
  obtain ⟨la, lc, rfl, hn, hr⟩ := h
  obtain ⟨i0, hi, hz0, hz1, hz2⟩ := info_parts int_info
  obtain ⟨j0, gi, gz0, gz1, gz2⟩ := info_parts ints_info
  have hpl8 := nodup_len hnd hrg
  have hpl1 : 0 < p.length := List.length_pos_iff.2 hne
  have hlen := fun q => allP_len (t := t) (to := to) htn f q
  have hpow : 8 ^ f ≤ 16777216 := Nat.le_trans (Nat.pow_le_pow_right (by decide) (show f ≤ 8 by omega)) (by decide)
  have hupl := fun k => allUp_len (t := t) (p := p) hlen k
  obtain ⟨at', hat⟩ : ∃ x, p[p.length - 1]? = some x := ⟨_, List.getElem?_eq_getElem (by omega)⟩
  have hlast : p.getLastD 0 = at' := by rw [List.getLastD_eq_getLast?, List.getLast?_eq_getElem?, hat]; rfl
  have hspec : allP t to (f + 1) p = if at' = to then [p] else allUp t (allP t to f) p t.n.toNat := by rw [← hlast]; rfl
  have hstep : ∀ k : Nat, allUp t (allP t to f) p (k + 1) = if (k : Int) ∉ p ∧ 0 < costOf t at' k then allUp t (allP t to f) p k ++ allP t to f (p ++ [(k : Int)]) else allUp t (allP t to f) p k := fun k => by rw [← hlast]; rfl
  have HST := Lib.hid hstep
  obtain ⟨pb, po, rfl, hpB, hpb, cs1, ⟨rfl, hxI⟩, hce⟩ := hp.get hat
  have e0 := hce 0 _ rfl
  simp only [intS, Nat.add_zero, Nat.mul_one] at e0
  have k1 : IntKind.i64.wrap ((p.length : Int) - 1) = ((p.length - 1 : Nat) : Int) := by rw [show (p.length : Int) - 1 = ((p.length - 1 : Nat) : Int) by omega]; exact IntWalk.i64_in _ (by omega)
  have k2 : (0 : Int) ≤ ((p.length - 1 : Nat) : Int) := by omega
  have k3 : ((p.length - 1 : Nat) : Int) < (p.length : Int) := by omega
  clear hce hat hlast hstep
  generalize hal : allP t to (f + 1) p = A at *
  by_cases c1 : at' = to
  · rw [if_pos c1] at hspec
    have c1' : (at' == to) = true := by simpa using c1
    have HS := Lib.hid hspec
    clear hspec c1
    go_enter Try.func57, Try.ntmps57
    go_wp2
    go_ret
    rw [HS.out]
    refine ⟨_, 1, rfl, ⟨Nat.le_refl _, by decide, .inr ⟨_, 0, rfl, ?_, ?_, fun i x hx => ?_⟩⟩, by (repeat' (first | with_reducible exact Below.refl _ _ | with_reducible assumption | with_reducible refine Below.drew ?_ | with_reducible refine Below_drewN ?_ _ | with_reducible refine Below.alloc ?_ ?_ _ | with_reducible refine Below.setCell ?_ ?_ _ | omega | (simp; done) | (simp; omega)))⟩
    · simp; omega
    · simp
    · match i, hx with
      | 0, hx =>
        obtain rfl : p = x := by simpa using hx
        refine ⟨_, ⟨_, _, rfl, hp.below (by (repeat' (first | with_reducible exact Below.refl _ _ | with_reducible assumption | with_reducible refine Below.drew ?_ | with_reducible refine Below_drewN ?_ _ | with_reducible refine Below.alloc ?_ ?_ _ | with_reducible refine Below.setCell ?_ ?_ _ | omega | (simp; done) | (simp; omega))))⟩, fun j c hj => ?_⟩
        match j, hj with
        | 0, hj =>
          obtain rfl := Option.some.inj hj
          simp
        | j + 1, hj => simp at hj
      | i + 1, hx => simp at hx
  rw [if_neg c1] at hspec
  have c1' : (at' == to) = false := by simpa using c1
  have HS := Lib.hid hspec
  clear hspec c1
  go_enter Try.func57, Try.ntmps57
  go_wp2
  clear k1 k2 k3
  go_loopw [8, 9] (fun out i wr => ∃ (k : Nat) (ao : Option Addr) (cap : Nat), out = .slice ao (allUp t (allP t to f) p k).length cap ∧ i = .int .i64 k ∧ k ≤ t.n.toNat ∧ ownR (sliceS intS) 26 (oth w.heap.size wr ao) (w.heap.size + 1) wr ao (allUp t (allP t to f) p k).length cap (allUp t (allP t to f) p k) ∧ Below w.heap.size w wr ∧ blockIs wr w.heap.size 24 #[.int .i64 t.n, .slice la t.links.length lc]) (fun _ i _ => t.n.toNat - (intOf i).toNat)
  case atStart => exact ⟨0, none, 0, rfl, rfl, Nat.zero_le _, oth.nil _ _ _ _ _, by (repeat' (first | with_reducible exact Below.refl _ _ | with_reducible assumption | with_reducible refine Below.drew ?_ | with_reducible refine Below_drewN ?_ _ | with_reducible refine Below.alloc ?_ ?_ _ | with_reducible refine Below.setCell ?_ ?_ _ | omega | (simp; done) | (simp; omega))), blockIs.new rfl⟩
  case round =>
    obtain ⟨k, ao, cap, rfl, rfl, hk, hown, hb, hT1⟩ := hrel
    obtain ⟨t1, t2⟩ := hT1.cells
    have hTl := hT1.lt
    have hbs := hb.size
    by_cases hkn : k < t.n.toNat
    case neg =>
      obtain rfl : k = t.n.toNat := by omega
      have d1 : ¬ ((t.n.toNat : Nat) : Int) < t.n := by omega
      go_wp2
      go_ret
      rw [HS.out]
      exact ⟨ao, cap, rfl, hown.row (fun b hb => Nat.le_trans hBw hb.1) (fun k hk => by have := (hown.lt k hk).1; omega), by (repeat' (first | with_reducible exact Below.refl _ _ | with_reducible assumption | with_reducible refine Below.drew ?_ | with_reducible refine Below_drewN ?_ _ | with_reducible refine Below.alloc ?_ ?_ _ | with_reducible refine Below.setCell ?_ ?_ _ | omega | (simp; done) | (simp; omega)))⟩
    have d1 : (k : Int) < t.n := by omega
    have hkI : I64 (k : Int) := by simp only [I64]; omega
    have hup := hupl k
    have hupl8 : (allUp t (allP t to f) p k).length ≤ 8 * 16777216 := Nat.le_trans hup (Nat.mul_le_mul (by omega) hpow)
    have hin := in_c p (k : Int) _ _ pc wr (hp.below hb)
    have HK := HST.out k
    by_cases m1 : (k : Int) ∈ p
    · rw [if_neg (by simp [m1])] at HK
      rw [decide_eq_true m1] at hin
      have hin' := Lib.hid hin
      have HKK := Lib.hid HK
      clear hin HK m1
      go_wp2_with fail
      refine hin'.out.mono ?_
      rintro e w' ⟨rfl, rfl⟩
      clear hin'
      go_wp2
      case roundEnd =>
        go_roundw
        case rel => exact ⟨k + 1, ao, cap, by rw [HKK.out], by go_num, by omega, by rw [HKK.out]; exact hown, hb, hT1⟩
        case measure => simp [intOf]; omega
    rw [decide_eq_false m1] at hin
    have hin' := Lib.hid hin
    clear hin
    go_wp2_with fail
    refine hin'.out.mono ?_
    rintro e w2 ⟨rfl, hw2⟩
    obtain rfl := hw2.symm
    clear hin'
    go_wp2_with fail
    refine (refCost_c t _ ok at' k _ (topoS.below hT (by (repeat' (first | with_reducible exact Below.refl _ _ | with_reducible assumption | with_reducible refine Below.drew ?_ | with_reducible refine Below_drewN ?_ _ | with_reducible refine Below.alloc ?_ ?_ _ | with_reducible refine Below.setCell ?_ ?_ _ | omega | (simp; done) | (simp; omega)))))).mono ?_
    rintro e w3 ⟨rfl, hb3⟩
    by_cases c2 : 0 < costOf t at' k
    case neg =>
      rw [if_neg (by simp [c2])] at HK
      have HKK := Lib.hid HK
      clear HK m1
      go_wp2
      case roundEnd =>
        go_roundw
        case rel => exact ⟨k + 1, ao, cap, by rw [HKK.out], by go_num, by omega, by rw [HKK.out]; exact oth.below hown (by (repeat' (first | with_reducible exact Below.refl _ _ | with_reducible assumption | with_reducible refine Below.drew ?_ | with_reducible refine Below_drewN ?_ _ | with_reducible refine Below.alloc ?_ ?_ _ | with_reducible refine Below.setCell ?_ ?_ _ | omega | (simp; done) | (simp; omega)))), hb.trans (Below.trans (by (repeat' (first | with_reducible exact Below.refl _ _ | with_reducible assumption | with_reducible refine Below.drew ?_ | with_reducible refine Below_drewN ?_ _ | with_reducible refine Below.alloc ?_ ?_ _ | with_reducible refine Below.setCell ?_ ?_ _ | omega | (simp; done) | (simp; omega)))) (hb3.mono (by first | omega | (simp; done) | (simp; omega)))), hT1.under (Below.trans (by (repeat' (first | with_reducible exact Below.refl _ _ | with_reducible assumption | with_reducible refine Below.drew ?_ | with_reducible refine Below_drewN ?_ _ | with_reducible refine Below.alloc ?_ ?_ _ | with_reducible refine Below.setCell ?_ ?_ _ | omega | (simp; done) | (simp; omega)))) hb3)⟩
        case measure => simp [intOf]; omega
    rw [if_pos ⟨m1, c2⟩] at HK
    have HKK := Lib.hid HK
    have hlq := hlen (p ++ [(k : Int)])
    have hih := fun w' pa' pc' B' h1 h2 h3 => ih (p ++ [(k : Int)]) w' pa' pc' B' h1 h2 h3 (by simp) (by rw [List.nodup_append]; exact ⟨hnd, by simp, by intro a ha b hb; simp at hb; rw [hb]; exact fun e => m1 (e ▸ ha)⟩) (by intro s hs; rcases List.mem_append.1 hs with hs | hs; exact hrg s hs; simp at hs; omega) (by simp; omega)
    have HIH := Lib.hid hih
    have hb03 : Below wr.heap.size wr w3 := Below.trans (by (repeat' (first | with_reducible exact Below.refl _ _ | with_reducible assumption | with_reducible refine Below.drew ?_ | with_reducible refine Below_drewN ?_ _ | with_reducible refine Below.alloc ?_ ?_ _ | with_reducible refine Below.setCell ?_ ?_ _ | omega | (simp; done) | (simp; omega)))) (hb3.mono (by first | omega | (simp; done) | (simp; omega)))
    have hB3 : Below w.heap.size w w3 := hb.trans (hb03.mono hbs)
    have hT3 := hT1.under hb03
    have hown3 := oth.below hown hb03
    have hp3 := hp.below hB3
    clear t1 t2 hb3 hih HK hT1 hown m1 e0
    generalize hlr : allP t to f (p ++ [(k : Int)]) = Rr at *
    generalize hUU : allUp t (allP t to f) p k = U at *
    generalize hUV : allUp t (allP t to f) p (k + 1) = V at *
    go_wp2
    refine wp_region_to (SB w.heap.size t.n la t.links.length lc) 99 (fun a a' w' => ∃ v38 v39 v40 v41 v42 v43 v44 v45 v46 v47 ao' cap', a' = puts a [(38, v38), (39, v39), (40, v40), (41, v41), (42, v42), (43, v43), (44, v44), (45, v45), (46, v46), (47, v47), (48, .slice ao' (U.length + Rr.length) cap'), (8, .slice ao' (U.length + Rr.length) cap')] ∧ ownR (sliceS intS) 26 (oth w.heap.size w' ao') (w.heap.size + 1) w' ao' (U.length + Rr.length) cap' (U ++ Rr) ∧ Below w.heap.size w w' ∧ blockIs w' w.heap.size 24 #[.int .i64 t.n, .slice la t.links.length lc]) (by kernel_rfl) ?_ ?_
    · intro Q' hR hQp
      have hT4 := hT3.drew
      have hown4 := oth.below hown3 (w' := w3.drew) (by (repeat' (first | with_reducible exact Below.refl _ _ | with_reducible assumption | with_reducible refine Below.drew ?_ | with_reducible refine Below_drewN ?_ _ | with_reducible refine Below.alloc ?_ ?_ _ | with_reducible refine Below.setCell ?_ ?_ _ | omega | (simp; done) | (simp; omega))))
      have hB4 : Below w.heap.size w w3.drew := hB3.trans (by (repeat' (first | with_reducible exact Below.refl _ _ | with_reducible assumption | with_reducible refine Below.drew ?_ | with_reducible refine Below_drewN ?_ _ | with_reducible refine Below.alloc ?_ ?_ _ | with_reducible refine Below.setCell ?_ ?_ _ | omega | (simp; done) | (simp; omega))))
      have hp4 := hp3.below (w' := w3.drew) (by (repeat' (first | with_reducible exact Below.refl _ _ | with_reducible assumption | with_reducible refine Below.drew ?_ | with_reducible refine Below_drewN ?_ _ | with_reducible refine Below.alloc ?_ ?_ _ | with_reducible refine Below.setCell ?_ ?_ _ | omega | (simp; done) | (simp; omega))))
      clear hT3 hown3 hB3 hp3
      generalize w3.drew = wa at *
      have hS : SB w.heap.size t.n la t.links.length lc wa := ⟨hT4.cells.1 0, hT4.cells.1 1⟩
      refine wpAnyK_take' (i := 0) (.slice ao U.length cap) rfl (by kernel_rfl) (fun _ _ _ h => hQp _ _ _ _ h) hS (yields_value (by kernel_rfl) (by intro w0 hw0; have hw1 := hw0; simp only [SB] at hw1; go_simp)) ?_; simp only [Act.put, List.getElem_toArray, List.getElem_cons_succ, List.getElem_cons_zero, List.setIfInBounds_toArray, List.set_cons_succ, List.set_cons_zero]
      refine wpAnyK_take' (i := 1) (.agg #[.int .i64 t.n, .slice la t.links.length lc]) rfl (by kernel_rfl) (fun _ _ _ h => hQp _ _ _ _ h) hS (yields_value (by kernel_rfl) (by intro w0 hw0; have hw1 := hw0; simp only [SB] at hw1; go_simp)) ?_; simp only [Act.put, List.getElem_toArray, List.getElem_cons_succ, List.getElem_cons_zero, List.setIfInBounds_toArray, List.set_cons_succ, List.set_cons_zero]
      refine wpAnyK_take' (i := 3) (.slice (some ⟨pb, po, none⟩) p.length pc) rfl (by kernel_rfl) (fun _ _ _ h => hQp _ _ _ _ h) hS (yields_value (by kernel_rfl) (by intro w0 hw0; have hw1 := hw0; simp only [SB] at hw1; go_simp)) ?_; simp only [Act.put, List.getElem_toArray, List.getElem_cons_succ, List.getElem_cons_zero, List.setIfInBounds_toArray, List.set_cons_succ, List.set_cons_zero]
      refine wpAnyK_take' (i := 5) (.int .i64 k) rfl (by kernel_rfl) (fun _ _ _ h => hQp _ _ _ _ h) hS (yields_value (by kernel_rfl) (by intro w0 hw0; have hw1 := hw0; simp only [SB] at hw1; go_simp)) ?_; simp only [Act.put, List.getElem_toArray, List.getElem_cons_succ, List.getElem_cons_zero, List.setIfInBounds_toArray, List.set_cons_succ, List.set_cons_zero]
      refine wpAnyK_take' (i := 8) (.int .i64 to) rfl (by kernel_rfl) (fun _ _ _ h => hQp _ _ _ _ h) hS (yields_value (by kernel_rfl) (by intro w0 hw0; have hw1 := hw0; simp only [SB] at hw1; go_simp)) ?_; simp only [Act.put, List.getElem_toArray, List.getElem_cons_succ, List.getElem_cons_zero, List.setIfInBounds_toArray, List.set_cons_succ, List.set_cons_zero]
      have hS0 := hS
      clear hS
      have hTl4 := hT4.lt
      have hb : Below wa.heap.size wa wa := Below.refl _ _
      have hz4 := hB4.size
      refine wpAnyK_two (i := 2) (j := 6) rfl rfl (by kernel_rfl) (by kernel_rfl) (by kernel_rfl) (fun K2 hK2 => ?_) (fun K6 hK6 => ?_)
      · go_simp
        go_wp2_with fail
        have hb1 : Below wa.heap.size wa (wa.alloc (.cells #[] 3)) := hb.trans (by have := hb.size; (repeat' (first | with_reducible exact Below.refl _ _ | with_reducible assumption | with_reducible refine Below.drew ?_ | with_reducible refine Below_drewN ?_ _ | with_reducible refine Below.alloc ?_ ?_ _ | with_reducible refine Below.setCell ?_ ?_ _ | omega | (simp; done) | (simp; omega))))
        have ho1 : ownR intS 3 (fun _ => False) wa.heap.size (wa.alloc (.cells #[] 3)) (some ⟨wa.heap.size, 0, none⟩) 0 0 [] := ownR.lit (cs := []) rfl rfl (hb.size) (by simp only [maxLen]; omega) (by simp) (fun _ h => h.elim)
        refine hK2 _ _ (fun _ => (SB.keep hS0 hb1 hTl4)) ?_
        clear hK2
        generalize wa.alloc (.cells #[] 3) = wx1 at *
        refine wpAnyK_two (i := 4) (j := 6) rfl rfl (by kernel_rfl) (by kernel_rfl) (by kernel_rfl) (fun K4 hK4 => ?_) (fun K6 hK6 => ?_)
        · refine wp_appR (sh := intS) (.tmp 40) (.tmp 41) 26 (by rfl) 3 i0 (.int .i64 0) 8 Try.underlying26 hi hz0 hz1 hz2 rfl (by decide) (ok := fun _ => False) (base := wa.heap.size) (by rfl) ho1 (by rfl) rfl ((hp4.below hb1).src.flat fun h => h) (by simp only [maxLen]; omega) (by omega) hb1.size ?_
          intro ao2 cap2 wx2 ho2 hg2 hlie2
          have hb2 : Below wa.heap.size wa wx2 := hb1.trans (grown_below (B := wa.heap.size) hg2 (fun k hk => (ho1.lt k hk).1) hb1.size)
          simp only [Nat.zero_add, List.nil_append] at ho2
          simp only [Nat.zero_add, Act.put, List.getElem_toArray, List.getElem_cons_succ, List.getElem_cons_zero, List.setIfInBounds_toArray, List.set_cons_succ, List.set_cons_zero]
          refine hK4 _ _ (fun _ => (SB.keep hS0 hb2 hTl4)) ?_
          clear hK4
          refine wpAnyK_call (i := 6) rfl (by kernel_rfl) (by kernel_rfl) fun K6 hK6 => ?_
          go_simp
          go_wp2_with fail
          have hb3 : Below wa.heap.size wa (wx2.alloc (.cells #[.int .i64 k] 3)) := hb2.trans (by have := hb2.size; (repeat' (first | with_reducible exact Below.refl _ _ | with_reducible assumption | with_reducible refine Below.drew ?_ | with_reducible refine Below_drewN ?_ _ | with_reducible refine Below.alloc ?_ ?_ _ | with_reducible refine Below.setCell ?_ ?_ _ | omega | (simp; done) | (simp; omega))))
          have hs3 : blockIs (wx2.alloc (.cells #[.int .i64 k] 3)) wx2.heap.size 3 #[.int .i64 k] := blockIs.new rfl
          have hd3 := ho2.alloc (.cells #[.int .i64 k] 3)
          have hx3 : some wx2.heap.size ≠ blk ao2 := fun e => by have := (ho2.lt _ e.symm).2; omega
          refine hK6 _ _ (fun _ => (SB.keep hS0 hb3 hTl4)) ?_
          clear hK6
          generalize wx2.alloc (.cells #[.int .i64 k] 3) = wx3 at *
          refine wpAnyK_call (i := 7) rfl (by kernel_rfl) (by kernel_rfl) fun K7 hK7 => ?_
          refine wp_appR (sh := intS) (n := p.length) (m := 1) (.tmp 42) (.tmp 44) 26 (by rfl) 3 i0 (.int .i64 0) 8 Try.underlying26 hi hz0 hz1 hz2 rfl (by decide) (ok := fun _ => False) (base := wa.heap.size) (by rfl) hd3 (by rfl) rfl (one_src hs3 hkI) (by simp only [maxLen]; omega) (by omega) hb3.size ?_
          intro aoz capz wz hoz hgz hliez
          have hbz : Below wa.heap.size wa wz := hb3.trans (grown_below (B := wa.heap.size) hgz (fun k hk => (hd3.lt k hk).1) hb3.size)
          simp only [Nat.zero_add, Act.put, List.getElem_toArray, List.getElem_cons_succ, List.getElem_cons_zero, List.setIfInBounds_toArray, List.set_cons_succ, List.set_cons_zero]
          refine hK7 _ _ (fun _ => (SB.keep hS0 hbz hTl4)) ?_
          clear hK7
          have hrow : rowRep intS (fun b => wa.heap.size ≤ b) wz aoz capz (p ++ [(k : Int)]) := hoz.row (fun _ h => h.elim) (fun k hk => (hoz.lt k hk).1)
          have hBz : Below w.heap.size w wz := hB4.trans (hbz.mono hz4)
          refine wpAnyK_call (i := 9) rfl (by kernel_rfl) (by kernel_rfl) fun K9 hK9 => ?_
          go_simp
          go_wp2_with fail
          have hcall := HIH.out wz aoz capz wa.heap.size (topoS.below hT hBz) hrow hbz.size
          rw [List.length_append, List.length_singleton] at hcall
          refine hcall.mono ?_
          rintro e wy ⟨aoy, capy, rfl, hry, hby⟩
          have hbay : Below wa.heap.size wa wy := hbz.trans (hby.mono hbz.size)
          have hBy : Below w.heap.size w wy := hB4.trans (hbay.mono hz4)
          have howny := oth.below hown4 hbay
          have hLr : Rr.length ≤ 16777216 := Nat.le_trans hlq hpow
          clear hcall hby
          go_wp2_with fail
          refine hK9 _ _ (fun _ => SB.keep hS0 hbay hTl4) ?_
          clear hK9
          refine wpAnyK_call (i := 10) rfl (by kernel_rfl) (by kernel_rfl) fun K10 hK10 => ?_
          refine wp_appR (sh := sliceS intS) (n := U.length) (m := Rr.length) (.tmp 38) (.tmp 47) 115 (by rfl) 26 j0 (.slice none 0 0) 24 Try.underlying115 gi gz0 gz1 gz2 rfl (by decide) (ok := oth w.heap.size wy ao) (base := w.heap.size + 1) (by rfl) howny (by rfl) rfl (oth.src hry hz4 (fun k hk => (hown4.lt k hk).2)) (by simp only [maxLen]; omega) (by omega) (by have := hbay.size; omega) ?_
          intro aof capf wf hof hgf hlief
          have hBf : Below w.heap.size w wf := hBy.trans (grown_below (B := w.heap.size) hgf (fun k hk => by have := (howny.lt k hk).1; omega) hBy.size)
          have hne4 : some w.heap.size ≠ blk ao := fun e => by have := (hown4.lt _ e.symm).1; omega
          have hTf := (hT4.under hbay).grown hgf hne4
          simp only [Nat.zero_add, Act.put, List.getElem_toArray, List.getElem_cons_succ, List.getElem_cons_zero, List.setIfInBounds_toArray, List.set_cons_succ, List.set_cons_zero]
          refine hK10 _ _ (fun _ => ⟨hTf.cells.1 0, hTf.cells.1 1⟩) ?_
          clear hK10
          have hS : SB w.heap.size t.n la t.links.length lc wf := ⟨hTf.cells.1 0, hTf.cells.1 1⟩
          refine wpAnyK_take' (i := 11) (.slice aof (U.length + Rr.length) capf) rfl (by kernel_rfl) (fun _ _ _ h => hQp _ _ _ _ h) hS (yields_value (by kernel_rfl) (by intro w0 hw0; have hw1 := hw0; simp only [SB] at hw1; go_simp)) ?_; simp only [Act.put, List.getElem_toArray, List.getElem_cons_succ, List.getElem_cons_zero, List.setIfInBounds_toArray, List.set_cons_succ, List.set_cons_zero]
          refine wpAnyK_done (by kernel_rfl) ?_ _
          refine hR _ _ ?_
          iterate 10 apply Exists.intro
          refine ⟨aof, capf, ?_, oth.grown hof hgf.size hlief, hBf, hTf⟩
          simp only [puts, Act.put, List.setIfInBounds_toArray, List.set_cons_succ, List.set_cons_zero]
          rfl
        · go_simp
          go_wp2_with fail
          have hb5 : Below wa.heap.size wa (wx1.alloc (.cells #[.int .i64 k] 3)) := hb1.trans (by have := hb1.size; (repeat' (first | with_reducible exact Below.refl _ _ | with_reducible assumption | with_reducible refine Below.drew ?_ | with_reducible refine Below_drewN ?_ _ | with_reducible refine Below.alloc ?_ ?_ _ | with_reducible refine Below.setCell ?_ ?_ _ | omega | (simp; done) | (simp; omega))))
          have hs5 : blockIs (wx1.alloc (.cells #[.int .i64 k] 3)) wx1.heap.size 3 #[.int .i64 k] := blockIs.new rfl
          have hd5 := ho1.alloc (.cells #[.int .i64 k] 3)
          have hx5 : some wx1.heap.size ≠ blk (some ⟨wa.heap.size, 0, none⟩) := fun e => by have := (ho1.lt _ e.symm).2; omega
          refine hK6 _ _ (fun _ => (SB.keep hS0 hb5 hTl4)) ?_
          clear hK6
          generalize wx1.alloc (.cells #[.int .i64 k] 3) = wx5 at *
          refine wpAnyK_call (i := 4) rfl (by kernel_rfl) (by kernel_rfl) fun K4 hK4 => ?_
          refine wp_appR (sh := intS) (.tmp 40) (.tmp 41) 26 (by rfl) 3 i0 (.int .i64 0) 8 Try.underlying26 hi hz0 hz1 hz2 rfl (by decide) (ok := fun _ => False) (base := wa.heap.size) (by rfl) hd5 (by rfl) rfl ((hp4.below hb5).src.flat fun h => h) (by simp only [maxLen]; omega) (by omega) hb5.size ?_
          intro ao6 cap6 wx6 ho6 hg6 hlie6
          have hb6 : Below wa.heap.size wa wx6 := hb5.trans (grown_below (B := wa.heap.size) hg6 (fun k hk => (hd5.lt k hk).1) hb5.size)
          simp only [Nat.zero_add, List.nil_append] at ho6
          have hs6 := hs5.grown hg6 hx5
          have hx6 : some wx1.heap.size ≠ blk ao6 := fun e => by rcases hlie6 with h | h <;> rw [h] at e; exact hx5 e; exact absurd hs5.lt (by simp at e; omega)
          simp only [Nat.zero_add, Act.put, List.getElem_toArray, List.getElem_cons_succ, List.getElem_cons_zero, List.setIfInBounds_toArray, List.set_cons_succ, List.set_cons_zero]
          refine hK4 _ _ (fun _ => (SB.keep hS0 hb6 hTl4)) ?_
          clear hK4
          refine wpAnyK_call (i := 7) rfl (by kernel_rfl) (by kernel_rfl) fun K7 hK7 => ?_
          refine wp_appR (sh := intS) (n := p.length) (m := 1) (.tmp 42) (.tmp 44) 26 (by rfl) 3 i0 (.int .i64 0) 8 Try.underlying26 hi hz0 hz1 hz2 rfl (by decide) (ok := fun _ => False) (base := wa.heap.size) (by rfl) ho6 (by rfl) rfl (one_src hs6 hkI) (by simp only [maxLen]; omega) (by omega) hb6.size ?_
          intro aoz capz wz hoz hgz hliez
          have hbz : Below wa.heap.size wa wz := hb6.trans (grown_below (B := wa.heap.size) hgz (fun k hk => (ho6.lt k hk).1) hb6.size)
          simp only [Nat.zero_add, Act.put, List.getElem_toArray, List.getElem_cons_succ, List.getElem_cons_zero, List.setIfInBounds_toArray, List.set_cons_succ, List.set_cons_zero]
          refine hK7 _ _ (fun _ => (SB.keep hS0 hbz hTl4)) ?_
          clear hK7
          have hrow : rowRep intS (fun b => wa.heap.size ≤ b) wz aoz capz (p ++ [(k : Int)]) := hoz.row (fun _ h => h.elim) (fun k hk => (hoz.lt k hk).1)
          have hBz : Below w.heap.size w wz := hB4.trans (hbz.mono hz4)
          refine wpAnyK_call (i := 9) rfl (by kernel_rfl) (by kernel_rfl) fun K9 hK9 => ?_
          go_simp
          go_wp2_with fail
          have hcall := HIH.out wz aoz capz wa.heap.size (topoS.below hT hBz) hrow hbz.size
          rw [List.length_append, List.length_singleton] at hcall
          refine hcall.mono ?_
          rintro e wy ⟨aoy, capy, rfl, hry, hby⟩
          have hbay : Below wa.heap.size wa wy := hbz.trans (hby.mono hbz.size)
          have hBy : Below w.heap.size w wy := hB4.trans (hbay.mono hz4)
          have howny := oth.below hown4 hbay
          have hLr : Rr.length ≤ 16777216 := Nat.le_trans hlq hpow
          clear hcall hby
          go_wp2_with fail
          refine hK9 _ _ (fun _ => SB.keep hS0 hbay hTl4) ?_
          clear hK9
          refine wpAnyK_call (i := 10) rfl (by kernel_rfl) (by kernel_rfl) fun K10 hK10 => ?_
          refine wp_appR (sh := sliceS intS) (n := U.length) (m := Rr.length) (.tmp 38) (.tmp 47) 115 (by rfl) 26 j0 (.slice none 0 0) 24 Try.underlying115 gi gz0 gz1 gz2 rfl (by decide) (ok := oth w.heap.size wy ao) (base := w.heap.size + 1) (by rfl) howny (by rfl) rfl (oth.src hry hz4 (fun k hk => (hown4.lt k hk).2)) (by simp only [maxLen]; omega) (by omega) (by have := hbay.size; omega) ?_
          intro aof capf wf hof hgf hlief
          have hBf : Below w.heap.size w wf := hBy.trans (grown_below (B := w.heap.size) hgf (fun k hk => by have := (howny.lt k hk).1; omega) hBy.size)
          have hne4 : some w.heap.size ≠ blk ao := fun e => by have := (hown4.lt _ e.symm).1; omega
          have hTf := (hT4.under hbay).grown hgf hne4
          simp only [Nat.zero_add, Act.put, List.getElem_toArray, List.getElem_cons_succ, List.getElem_cons_zero, List.setIfInBounds_toArray, List.set_cons_succ, List.set_cons_zero]
          refine hK10 _ _ (fun _ => ⟨hTf.cells.1 0, hTf.cells.1 1⟩) ?_
          clear hK10
          have hS : SB w.heap.size t.n la t.links.length lc wf := ⟨hTf.cells.1 0, hTf.cells.1 1⟩
          refine wpAnyK_take' (i := 11) (.slice aof (U.length + Rr.length) capf) rfl (by kernel_rfl) (fun _ _ _ h => hQp _ _ _ _ h) hS (yields_value (by kernel_rfl) (by intro w0 hw0; have hw1 := hw0; simp only [SB] at hw1; go_simp)) ?_; simp only [Act.put, List.getElem_toArray, List.getElem_cons_succ, List.getElem_cons_zero, List.setIfInBounds_toArray, List.set_cons_succ, List.set_cons_zero]
          refine wpAnyK_done (by kernel_rfl) ?_ _
          refine hR _ _ ?_
          iterate 10 apply Exists.intro
          refine ⟨aof, capf, ?_, oth.grown hof hgf.size hlief, hBf, hTf⟩
          simp only [puts, Act.put, List.setIfInBounds_toArray, List.set_cons_succ, List.set_cons_zero]
          rfl
      · go_simp
        go_wp2_with fail
        have hb8 : Below wa.heap.size wa (wa.alloc (.cells #[.int .i64 k] 3)) := hb.trans (by have := hb.size; (repeat' (first | with_reducible exact Below.refl _ _ | with_reducible assumption | with_reducible refine Below.drew ?_ | with_reducible refine Below_drewN ?_ _ | with_reducible refine Below.alloc ?_ ?_ _ | with_reducible refine Below.setCell ?_ ?_ _ | omega | (simp; done) | (simp; omega))))
        have hs8 : blockIs (wa.alloc (.cells #[.int .i64 k] 3)) wa.heap.size 3 #[.int .i64 k] := blockIs.new rfl
        refine hK6 _ _ (fun _ => (SB.keep hS0 hb8 hTl4)) ?_
        clear hK6
        generalize wa.alloc (.cells #[.int .i64 k] 3) = wx8 at *
        refine wpAnyK_call (i := 2) rfl (by kernel_rfl) (by kernel_rfl) fun K2 hK2 => ?_
        go_simp
        go_wp2_with fail
        have hb9 : Below wa.heap.size wa (wx8.alloc (.cells #[] 3)) := hb8.trans (by have := hb8.size; (repeat' (first | with_reducible exact Below.refl _ _ | with_reducible assumption | with_reducible refine Below.drew ?_ | with_reducible refine Below_drewN ?_ _ | with_reducible refine Below.alloc ?_ ?_ _ | with_reducible refine Below.setCell ?_ ?_ _ | omega | (simp; done) | (simp; omega))))
        have ho9 : ownR intS 3 (fun _ => False) wa.heap.size (wx8.alloc (.cells #[] 3)) (some ⟨wx8.heap.size, 0, none⟩) 0 0 [] := ownR.lit (cs := []) rfl rfl (hb8.size) (by simp only [maxLen]; omega) (by simp) (fun _ h => h.elim)
        have hs9 := hs8.alloc (.cells #[] 3)
        have hx9 : some wa.heap.size ≠ blk (some ⟨wx8.heap.size, 0, none⟩) := fun e => by have := hs8.lt; simp [blk] at e; omega
        refine hK2 _ _ (fun _ => (SB.keep hS0 hb9 hTl4)) ?_
        clear hK2
        generalize wx8.alloc (.cells #[] 3) = wx9 at *
        refine wpAnyK_call (i := 4) rfl (by kernel_rfl) (by kernel_rfl) fun K4 hK4 => ?_
        refine wp_appR (sh := intS) (.tmp 40) (.tmp 41) 26 (by rfl) 3 i0 (.int .i64 0) 8 Try.underlying26 hi hz0 hz1 hz2 rfl (by decide) (ok := fun _ => False) (base := wa.heap.size) (by rfl) ho9 (by rfl) rfl ((hp4.below hb9).src.flat fun h => h) (by simp only [maxLen]; omega) (by omega) hb9.size ?_
        intro ao10 cap10 wx10 ho10 hg10 hlie10
        have hb10 : Below wa.heap.size wa wx10 := hb9.trans (grown_below (B := wa.heap.size) hg10 (fun k hk => (ho9.lt k hk).1) hb9.size)
        simp only [Nat.zero_add, List.nil_append] at ho10
        have hs10 := hs9.grown hg10 hx9
        have hx10 : some wa.heap.size ≠ blk ao10 := fun e => by rcases hlie10 with h | h <;> rw [h] at e; exact hx9 e; exact absurd hs9.lt (by simp at e; omega)
        simp only [Nat.zero_add, Act.put, List.getElem_toArray, List.getElem_cons_succ, List.getElem_cons_zero, List.setIfInBounds_toArray, List.set_cons_succ, List.set_cons_zero]
        refine hK4 _ _ (fun _ => (SB.keep hS0 hb10 hTl4)) ?_
        clear hK4
        refine wpAnyK_call (i := 7) rfl (by kernel_rfl) (by kernel_rfl) fun K7 hK7 => ?_
        refine wp_appR (sh := intS) (n := p.length) (m := 1) (.tmp 42) (.tmp 44) 26 (by rfl) 3 i0 (.int .i64 0) 8 Try.underlying26 hi hz0 hz1 hz2 rfl (by decide) (ok := fun _ => False) (base := wa.heap.size) (by rfl) ho10 (by rfl) rfl (one_src hs10 hkI) (by simp only [maxLen]; omega) (by omega) hb10.size ?_
        intro aoz capz wz hoz hgz hliez
        have hbz : Below wa.heap.size wa wz := hb10.trans (grown_below (B := wa.heap.size) hgz (fun k hk => (ho10.lt k hk).1) hb10.size)
        simp only [Nat.zero_add, Act.put, List.getElem_toArray, List.getElem_cons_succ, List.getElem_cons_zero, List.setIfInBounds_toArray, List.set_cons_succ, List.set_cons_zero]
        refine hK7 _ _ (fun _ => (SB.keep hS0 hbz hTl4)) ?_
        clear hK7
        have hrow : rowRep intS (fun b => wa.heap.size ≤ b) wz aoz capz (p ++ [(k : Int)]) := hoz.row (fun _ h => h.elim) (fun k hk => (hoz.lt k hk).1)
        have hBz : Below w.heap.size w wz := hB4.trans (hbz.mono hz4)
        refine wpAnyK_call (i := 9) rfl (by kernel_rfl) (by kernel_rfl) fun K9 hK9 => ?_
        go_simp
        go_wp2_with fail
        have hcall := HIH.out wz aoz capz wa.heap.size (topoS.below hT hBz) hrow hbz.size
        rw [List.length_append, List.length_singleton] at hcall
        refine hcall.mono ?_
        rintro e wy ⟨aoy, capy, rfl, hry, hby⟩
        have hbay : Below wa.heap.size wa wy := hbz.trans (hby.mono hbz.size)
        have hBy : Below w.heap.size w wy := hB4.trans (hbay.mono hz4)
        have howny := oth.below hown4 hbay
        have hLr : Rr.length ≤ 16777216 := Nat.le_trans hlq hpow
        clear hcall hby
        go_wp2_with fail
        refine hK9 _ _ (fun _ => SB.keep hS0 hbay hTl4) ?_
        clear hK9
        refine wpAnyK_call (i := 10) rfl (by kernel_rfl) (by kernel_rfl) fun K10 hK10 => ?_
        refine wp_appR (sh := sliceS intS) (n := U.length) (m := Rr.length) (.tmp 38) (.tmp 47) 115 (by rfl) 26 j0 (.slice none 0 0) 24 Try.underlying115 gi gz0 gz1 gz2 rfl (by decide) (ok := oth w.heap.size wy ao) (base := w.heap.size + 1) (by rfl) howny (by rfl) rfl (oth.src hry hz4 (fun k hk => (hown4.lt k hk).2)) (by simp only [maxLen]; omega) (by omega) (by have := hbay.size; omega) ?_
        intro aof capf wf hof hgf hlief
        have hBf : Below w.heap.size w wf := hBy.trans (grown_below (B := w.heap.size) hgf (fun k hk => by have := (howny.lt k hk).1; omega) hBy.size)
        have hne4 : some w.heap.size ≠ blk ao := fun e => by have := (hown4.lt _ e.symm).1; omega
        have hTf := (hT4.under hbay).grown hgf hne4
        simp only [Nat.zero_add, Act.put, List.getElem_toArray, List.getElem_cons_succ, List.getElem_cons_zero, List.setIfInBounds_toArray, List.set_cons_succ, List.set_cons_zero]
        refine hK10 _ _ (fun _ => ⟨hTf.cells.1 0, hTf.cells.1 1⟩) ?_
        clear hK10
        have hS : SB w.heap.size t.n la t.links.length lc wf := ⟨hTf.cells.1 0, hTf.cells.1 1⟩
        refine wpAnyK_take' (i := 11) (.slice aof (U.length + Rr.length) capf) rfl (by kernel_rfl) (fun _ _ _ h => hQp _ _ _ _ h) hS (yields_value (by kernel_rfl) (by intro w0 hw0; have hw1 := hw0; simp only [SB] at hw1; go_simp)) ?_; simp only [Act.put, List.getElem_toArray, List.getElem_cons_succ, List.getElem_cons_zero, List.setIfInBounds_toArray, List.set_cons_succ, List.set_cons_zero]
        refine wpAnyK_done (by kernel_rfl) ?_ _
        refine hR _ _ ?_
        iterate 10 apply Exists.intro
        refine ⟨aof, capf, ?_, oth.grown hof hgf.size hlief, hBf, hTf⟩
        simp only [puts, Act.put, List.setIfInBounds_toArray, List.set_cons_succ, List.set_cons_zero]
        rfl
    rintro a' w9 ⟨v38, v39, v40, v41, v42, v43, v44, v45, v46, v47, ao9, cap9, rfl, ho9, hB9, hT9⟩
    simp only [puts, Act.put, List.setIfInBounds_toArray, List.set_cons_succ, List.set_cons_zero]
    clear hT3 hown3 hB3 hp3 hb03
    go_wp2
    case roundEnd =>
      go_roundw
      case rel => exact ⟨k + 1, ao9, cap9, by rw [hUV, HKK.out, List.length_append], by go_num, by omega, by rw [hUV, HKK.out, List.length_append]; exact ho9, hB9, hT9⟩
      case measure => simp [intOf]; omega

end Go.Proofs.Ytagldmdeohenjaa
