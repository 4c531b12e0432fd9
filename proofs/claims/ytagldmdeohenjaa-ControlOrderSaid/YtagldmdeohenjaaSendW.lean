/-
  The walk of control.send: orders are told, with numbers.
-/
import Derived.Test.YtagldmdeohenjaaPutR
import Derived.Test.YtagldmdeohenjaaSlices
import Derived.Test.YtagldmdeohenjaaTo
import Derived.WalkKit
import Derived.WalkSpells
import Derived.WalkLawsBesides
import Derived.Lib.Hide
import Derived.Deep.LoopGhost
import Derived.Deep.QuietTactic
import Derived.BigQuiet
import Derived.Deep.RegionWith
import Derived.Handy
set_option linter.unusedSimpArgs false
set_option linter.unusedVariables false
namespace Go.St
open Go.RowKit
/-- what is read where a number is waited for -/
def SW (cb : Nat) (wa : Option Addr) (n wc : Nat) (k : Int) (w : World) : Prop := w.cell? ⟨cb, 8, none⟩ = some (.slice wa n wc) ∧ w.cell? ⟨cb, 7, none⟩ = some (.int .i64 k)
theorem SW.of {w : World} {b : Nat} {t : TypeId} {a0 a1 a2 a3 a4 a5 a6 : Value} {wa : Option Addr} {n wc : Nat} {k : Int} (h : blockIs w b t #[a0, a1, a2, a3, a4, a5, a6, .int .i64 k, .slice wa n wc]) : SW b wa n wc k w := ⟨h.cells.1 8, h.cells.1 7⟩
/-- behind so many orders -/
structure Sent (c : Ctl) (l : List To) (i : Nat) (m : List To) (num : Int) (ws : List Int) : Prop where
  at_ : send c (l.take i) = (⟨c.stage, c.now, c.next, num, ws⟩, m.take i)
  rest : m.drop i = l.drop i
theorem Sent.start (c : Ctl) (l : List To) : Sent c l 0 l c.num c.waits := ⟨rfl, rfl⟩
theorem Sent.len {c : Ctl} {l m : List To} {i : Nat} {num : Int} {ws : List Int} (h : Sent c l i m num ws) (hi : i ≤ l.length) : m.length = l.length ∧ ws.length = c.waits.length + i := by
  have h1 := send_len c (l.take i)
  rw [h.at_] at h1
  have h2 := congrArg List.length h.rest
  simp only [List.length_take, List.length_drop] at h1 h2
  omega
theorem Sent.step {c : Ctl} {l m : List To} {i : Nat} {num : Int} {ws : List Int} (h : Sent c l i m num ws) {x : To} (hx : m[i]? = some x) : Sent c l (i + 1) (m.set i (toNum x (up num))) (up num) (ws ++ [up num]) := by
  obtain ⟨hi, hx'⟩ := List.getElem?_eq_some_iff.1 hx
  have hl : l[i]? = some x := by
    have : (m.drop i)[0]? = (l.drop i)[0]? := by rw [h.rest]
    rw [List.getElem?_drop, List.getElem?_drop] at this
    rw [← hx]; exact this.symm
  constructor
  · rw [send_take hl, h.at_, List.take_add_one]
    simp only [tell, toNum, List.getElem?_set, hi, if_true, Option.toList_some, List.take_set_of_le (Nat.le_refl i)]
  · rw [List.drop_set_of_lt (Nat.lt_succ_self i)]
    have := congrArg (List.drop 1) h.rest
    rwa [List.drop_drop, List.drop_drop] at this
theorem Sent.done {c : Ctl} {l m : List To} {i : Nat} {num : Int} {ws : List Int} (h : Sent c l i m num ws) (hi : l.length ≤ i) : send c l = (⟨c.stage, c.now, c.next, num, ws⟩, m) := by
  have h1 := h.at_
  have hm : m.length ≤ i := by
    have := congrArg List.length h.rest
    simp only [List.length_drop] at this; omega
  rwa [List.take_of_length_le hi, List.take_of_length_le hm] at h1
end Go.St
namespace Go.Proofs.Ytagldmdeohenjaa
open Go.RowKit Go.St

set_option maxRecDepth 100000 in
set_option maxHeartbeats 16000000 in
theorem send_c (c : Ctl) (l : List To) (W V : Nat → Prop) (B cb : Nat) (n0 n1 n2 x0 x1 x2 : Value) (wa : Option Addr) (wc : Nat) (la : Option Addr) (lc : Nat) (w : World)
    (hC : blockIs w cb 32 #[.int .i64 c.stage, n0, n1, n2, x0, x1, x2, .int .i64 c.num, .slice wa c.waits.length wc])
    (hW : ownR intS 3 W B w wa c.waits.length wc c.waits) (hL : ownR toS 41 V B w la l.length lc l) (hVW : ∀ b, V b → W b) (hLW : ∀ k, blk la = some k → ¬ W k) (hcb : B ≤ cb) (hcW : ¬ W cb) (hB : B ≤ w.heap.size) (hl : l.length ≤ 1000) (hwl : c.waits.length ≤ 10000000000) :
    Calls Try.prog 24 #[.pointer (some ⟨cb, 0, none⟩), .slice la l.length lc] w fun e w' => ∃ (wa' : Option Addr) (wc' : Nat), e = .returned (.slice la l.length lc) ∧
      blockIs w' cb 32 #[.int .i64 c.stage, n0, n1, n2, x0, x1, x2, .int .i64 (send c l).1.num, .slice wa' (send c l).1.waits.length wc'] ∧
      ownR intS 3 W B w' wa' (send c l).1.waits.length wc' (send c l).1.waits ∧ ownR toS 41 V B w' la l.length lc (send c l).2 ∧ Frm W B w w' := by
  obtain ⟨i0, hi, hz0, hz1, hz2⟩ := info_parts info_int
  have hst := Lib.hid (Sent.start c l)
  have HD : Hid (∀ m num ws, Sent c l l.length m num ws → send c l = (⟨c.stage, c.now, c.next, num, ws⟩, m)) := fun m num ws h => h.done (Nat.le_refl _)
  have HLN : Hid (∀ i m num ws, i ≤ l.length → Sent c l i m num ws → m.length = l.length ∧ ws.length = c.waits.length + i) := fun i m num ws h1 h2 => h2.len h1
  have HST : Hid (∀ i m num ws x, Sent c l i m num ws → m[i]? = some x → Sent c l (i + 1) (m.set i (toNum x (up num))) (up num) (ws ++ [up num])) := fun i m num ws x h1 h2 => h1.step h2
  generalize send c l = R at *
  obtain ⟨R1, R2⟩ := R
  obtain ⟨cst, cnow, cnext, cnum, cws⟩ := c
  dsimp only at *
  generalize hll : l.length = ll at *
  have HLL := Lib.hid hll
  clear hll
  generalize hcl : cws.length = cl at *
  have HCL := Lib.hid hcl
  clear hcl
  go_enter Try.func24, Try.ntmps24
  go_wp2
  go_loopw [5, 8] (fun _ idx wr => ∃ (i : Nat) (m : List To) (num : Int) (ws : List Int) (va : Option Addr) (vc vn : Nat), idx = .int .i64 i ∧ i ≤ ll ∧ Hid (Sent ⟨cst, cnow, cnext, cnum, cws⟩ l i m num ws) ∧ Hid (vn = ws.length) ∧ vn ≤ cl + i ∧ blockIs wr cb 32 #[.int .i64 cst, n0, n1, n2, x0, x1, x2, .int .i64 num, .slice va vn vc] ∧ ownR intS 3 W B wr va vn vc ws ∧ ownR toS 41 V B wr la ll lc m ∧ Frm W B w wr) (fun _ idx _ => ll - (intOf idx).toNat)
  case atStart => exact ⟨0, l, cnum, cws, wa, wc, cl, rfl, Nat.zero_le _, hst, Lib.hid HCL.out.symm, Nat.le_refl _, hC, hW, hL, Frm.refl _ _ _⟩
  case round =>
    clear hst hC hW hL
    obtain ⟨i, m, num, ws, va, vc, vn, rfl, hi1, hS, hvn, hvn2, hC, hW, hL, hF⟩ := hrel
    rename World => wo
    obtain ⟨c1, c2⟩ := hC.cells
    have hcl := hC.lt
    have hBo : B ≤ wo.heap.size := Nat.le_trans hB hF.size
    by_cases hlt : i < ll
    case neg =>
      obtain rfl : i = ll := by omega
      have HR := Lib.hid (HD.out m num ws hS.out)
      have b1 : ¬ (i : Int) < (i : Int) := by omega
      clear hS hlt
      go_wp2
      go_ret; refine ⟨rfl, va, vc, ?_⟩
      have h9 := HR.out
      injection h9 with h9 h10
      subst h9 h10
      have h11 := hvn.out
      dsimp only
      subst h11
      exact ⟨hC, hW, hL, hF⟩
    obtain ⟨hml, hwl2⟩ := HLN.out i m num ws (by omega) hS.out
    obtain ⟨x, hx⟩ : ∃ x, m[i]? = some x := ⟨_, List.getElem?_eq_getElem (by omega)⟩
    have HST1 := Lib.hid (HST.out i m num ws x hS.out hx)
    obtain ⟨g, ds, rfl, hgB, hgl, _, hdr, hdc, hdf, cur, hdh⟩ := hL.at hx
    have hgW : ¬ W g := hLW g rfl
    have hcV : ¬ V cb := fun h => hcW (hVW _ h)
    have hcg : cb ≠ g := by
      rintro rfl
      have e := hC.symm.trans hdh
      simp at e
    have hvg : blk va ≠ some g := hW.noType hdh (by decide)
    have hvc : blk va ≠ some cb := hW.noType hC (by decide)
    have hC1 := (hC.set 7 (.int .i64 (up num))).setOther (a := ⟨g, i * 6 + 1 + 1, none⟩) hcg (.int .i64 (up num))
    have hW1 := (hW.setAt (a := ⟨cb, 7, none⟩) hvc hcW (.int .i64 (up num))).setAt (a := ⟨g, i * 6 + 1 + 1, none⟩) hvg hgW (.int .i64 (up num))
    have hL0 := hL.setAt (a := ⟨cb, 7, none⟩) (by simp [blk]; exact fun e => hcg e.symm) hcV (.int .i64 (up num))
    have hL1 : ownR toS 41 V B ((wo.setCell ⟨cb, 7, none⟩ (.int .i64 (up num))).setCell ⟨g, i * 6 + 1 + 1, none⟩ (.int .i64 (up num))) (some ⟨g, 0, none⟩) ll lc (m.set i (toNum x (up num))) := hL0.put1 (o := 2) (y := toNum x (up num)) hx (by decide) (.int .i64 (up num)) (fun cs hc => toS.num hc (up_i64 num))
    have hF1 := (hF.trans (Frm.set (a := ⟨cb, 7, none⟩) hcW hcb (.int .i64 (up num)))).trans (Frm.set (a := ⟨g, i * 6 + 1 + 1, none⟩) hgW hgB (.int .i64 (up num)))
    simp only [List.setIfInBounds_toArray, List.set_cons_succ, List.set_cons_zero] at hC1
    have hd2 : wo.cell? ⟨g, i * 6 + 1 + 1, none⟩ = some (.int .i64 x.order.num) := by
      obtain ⟨es, rfl, _, oa, oc, fa, fc, rfl, _⟩ := hdr
      exact hdc 2 _ rfl
    have k0 : (0 : Int) ≤ (i : Int) := by omega
    have k1 : (i : Int) < (ll : Int) := by omega
    have hup : IntKind.i64.wrap (num + 1) = up num := rfl
    have hui := up_i64 num
    clear hS hx hdr hdc HLN hdh hml hwl2 hL0
    go_wp2
    clear c1 c2 hd2 hdf hC hW hL hF
    generalize (wo.setCell ⟨cb, 7, none⟩ (.int .i64 (up num))).setCell ⟨g, i * 6 + 1 + 1, none⟩ (.int .i64 (up num)) = w5 at *
    have hB5 : B ≤ w5.heap.size := Nat.le_trans hB hF1.size
    have hS0 : SW cb va vn vc (up num) w5.drew := SW.of hC1
    refine wp_region_to (SW cb va vn vc (up num)) 13 (fun a0 a' w' => ∃ v27 v28 v29 v30 v31 v32 v33 v34 v35 v36 v37 v38 v39, a' = puts a0 [(27, v27), (28, v28), (29, v29), (30, v30), (31, v31), (32, v32), (33, v33), (34, v34), (35, v35), (36, v36), (37, v37), (38, v38), (39, v39)] ∧ ∃ va' vc', blockIs w' cb 32 #[.int .i64 cst, n0, n1, n2, x0, x1, x2, .int .i64 (up num), .slice va' (vn + 1) vc'] ∧ ownR intS 3 W B w' va' (vn + 1) vc' (ws ++ [up num]) ∧ ownR toS 41 V B w' (some ⟨g, 0, none⟩) ll lc (m.set i (toNum x (up num))) ∧ Frm W B w w') (by kernel_rfl) ?_ ?_
    · intro Q' hR hQp
      have hb0 : Below w5.heap.size w5 w5.drew := by (repeat' (first | with_reducible exact Below.refl _ _ | with_reducible assumption | with_reducible refine Below.drew ?_ | with_reducible refine Below_drewN ?_ _ | with_reducible refine Below.alloc ?_ ?_ _ | with_reducible refine Below.setCell ?_ ?_ _ | omega | (simp; done) | (simp; omega)))
      have hS : SW cb va vn vc (up num) w5.drew := hS0
      generalize w5.drew = wa at *
      have hCa := hC1.under hb0
      have hWa := hW1.below hb0
      have hLa := hL1.below hb0
      have hFa := hF1.trans (Frm.of hb0 hB5)
      have hBa : B ≤ wa.heap.size := Nat.le_trans hB hFa.size
      obtain ⟨c1, c2⟩ := hCa.cells
      have hcl2 := hCa.lt
      refine wpAnyK_take (i := 0) _ rfl (by kernel_rfl) (fun _ _ _ h => hQp _ _ _ _ h) hS (yields_value (by kernel_rfl) (by intro w0 hw0; have hw1 := hw0; simp only [SW] at hw1; first | (go_simp; done) | (go_simp; rfl))) ?_; simp only [Act.put, List.getElem_toArray, List.getElem_cons_succ, List.getElem_cons_zero, List.setIfInBounds_toArray, List.set_cons_succ, List.set_cons_zero]
      refine wpAnyK_take (i := 1) _ rfl (by kernel_rfl) (fun _ _ _ h => hQp _ _ _ _ h) hS (yields_value (by kernel_rfl) (by intro w0 hw0; have hw1 := hw0; simp only [SW] at hw1; first | (go_simp; done) | (go_simp; rfl))) ?_; simp only [Act.put, List.getElem_toArray, List.getElem_cons_succ, List.getElem_cons_zero, List.setIfInBounds_toArray, List.set_cons_succ, List.set_cons_zero]
      refine wpAnyK_take (i := 5) _ rfl (by kernel_rfl) (fun _ _ _ h => hQp _ _ _ _ h) hS (yields_value (by kernel_rfl) (by intro w0 hw0; have hw1 := hw0; simp only [SW] at hw1; first | (go_simp; done) | (go_simp; rfl))) ?_; simp only [Act.put, List.getElem_toArray, List.getElem_cons_succ, List.getElem_cons_zero, List.setIfInBounds_toArray, List.set_cons_succ, List.set_cons_zero]
      refine wpAnyK_take (i := 2) _ rfl (by kernel_rfl) (fun _ _ _ h => hQp _ _ _ _ h) hS (yields_value (by kernel_rfl) (by intro w0 hw0; have hw1 := hw0; simp only [SW] at hw1; first | (go_simp; done) | (go_simp; rfl))) ?_; simp only [Act.put, List.getElem_toArray, List.getElem_cons_succ, List.getElem_cons_zero, List.setIfInBounds_toArray, List.set_cons_succ, List.set_cons_zero]
      refine wpAnyK_take (i := 6) _ rfl (by kernel_rfl) (fun _ _ _ h => hQp _ _ _ _ h) hS (yields_value (by kernel_rfl) (by intro w0 hw0; have hw1 := hw0; simp only [SW] at hw1; first | (go_simp; done) | (go_simp; rfl))) ?_; simp only [Act.put, List.getElem_toArray, List.getElem_cons_succ, List.getElem_cons_zero, List.setIfInBounds_toArray, List.set_cons_succ, List.set_cons_zero]
      refine wpAnyK_take (i := 3) _ rfl (by kernel_rfl) (fun _ _ _ h => hQp _ _ _ _ h) hS (yields_value (by kernel_rfl) (by intro w0 hw0; have hw1 := hw0; simp only [SW] at hw1; first | (go_simp; done) | (go_simp; rfl))) ?_; simp only [Act.put, List.getElem_toArray, List.getElem_cons_succ, List.getElem_cons_zero, List.setIfInBounds_toArray, List.set_cons_succ, List.set_cons_zero]
      refine wpAnyK_take (i := 7) _ rfl (by kernel_rfl) (fun _ _ _ h => hQp _ _ _ _ h) hS (yields_value (by kernel_rfl) (by intro w0 hw0; have hw1 := hw0; simp only [SW] at hw1; first | (go_simp; done) | (go_simp; rfl))) ?_; simp only [Act.put, List.getElem_toArray, List.getElem_cons_succ, List.getElem_cons_zero, List.setIfInBounds_toArray, List.set_cons_succ, List.set_cons_zero]
      refine wpAnyK_take (i := 4) _ rfl (by kernel_rfl) (fun _ _ _ h => hQp _ _ _ _ h) hS (yields_value (by kernel_rfl) (by intro w0 hw0; have hw1 := hw0; simp only [SW] at hw1; first | (go_simp; done) | (go_simp; rfl))) ?_; simp only [Act.put, List.getElem_toArray, List.getElem_cons_succ, List.getElem_cons_zero, List.setIfInBounds_toArray, List.set_cons_succ, List.set_cons_zero]
      refine wpAnyK_take (i := 8) _ rfl (by kernel_rfl) (fun _ _ _ h => hQp _ _ _ _ h) hS (yields_value (by kernel_rfl) (by intro w0 hw0; have hw1 := hw0; simp only [SW] at hw1; first | (go_simp; done) | (go_simp; rfl))) ?_; simp only [Act.put, List.getElem_toArray, List.getElem_cons_succ, List.getElem_cons_zero, List.setIfInBounds_toArray, List.set_cons_succ, List.set_cons_zero]
      clear hS
      refine wpAnyK_call (i := 9) rfl (by kernel_rfl) (by kernel_rfl) fun K9 hK9 => ?_
      go_simp
      go_wp2_with fail
      have hab : Below wa.heap.size wa (wa.alloc (.cells #[.int .i64 (up num)] 3)) := by (repeat' (first | with_reducible exact Below.refl _ _ | with_reducible assumption | with_reducible refine Below.drew ?_ | with_reducible refine Below_drewN ?_ _ | with_reducible refine Below.alloc ?_ ?_ _ | with_reducible refine Below.setCell ?_ ?_ _ | omega | (simp; done) | (simp; omega)))
      have hN : blockIs (wa.alloc (.cells #[.int .i64 (up num)] 3)) wa.heap.size 3 #[.int .i64 (up num)] := blockIs.new rfl
      have hCb := hCa.under hab
      have hWb := hWa.below hab
      have hLb := hLa.below hab
      have hFb := hFa.trans (Frm.of hab hBa)
      have hBb : B ≤ (wa.alloc (.cells #[.int .i64 (up num)] 3)).heap.size := Nat.le_trans hB hFb.size
      have hsrc : srcRep intS W (wa.alloc (.cells #[.int .i64 (up num)] 3)) (some ⟨wa.heap.size, 0, none⟩) [up num] := one_src hN hui
      have hS : _ := SW.of hCb
      refine hK9 _ _ (fun _ => hS) ?_
      clear hK9
      clear hS
      generalize wa.alloc (.cells #[.int .i64 (up num)] 3) = wb at *
      refine wpAnyK_call (i := 10) rfl (by kernel_rfl) (by kernel_rfl) fun K10 hK10 => ?_
      refine wp_appR (sh := intS) (n := vn) (m := 1) (.tmp 31) (.tmp 36) 26 (by rfl) 3 i0 (.int .i64 0) 8 Try.underlying26 hi hz0 hz1 hz2 rfl (by decide) (ok := W) (base := B) (by rfl) hWb (by rfl) rfl hsrc (by simp only [maxLen]; omega) (by omega) hBb ?_
      intro va' vc' wc' hWc hgc hliec
      have hvc2 : some cb ≠ blk va := fun e => hvc e.symm
      have hCc := hCb.grown hgc hvc2
      have hLc := hLb.oldGrown hgc (fun k hk => ⟨fun e => by
        have e2 : k = g := by simpa [blk] using e.symm
        subst e2
        exact hvg hk, fun h => hWb.not k hk (hVW _ h)⟩)
      have hFc := hFb.trans (Frm.grown hgc (fun k hk => ⟨hWb.not k hk, (hWb.lt k hk).1⟩) hBb)
      simp only [Act.put, List.getElem_toArray, List.getElem_cons_succ, List.getElem_cons_zero, List.setIfInBounds_toArray, List.set_cons_succ, List.set_cons_zero]
      have hS : _ := SW.of hCc
      refine hK10 _ _ (fun _ => hS) ?_
      clear hK10
      clear c1 c2
      obtain ⟨c1, c2⟩ := hCc.cells
      have hcl3 := hCc.lt
      clear hS
      refine wpAnyK_call (i := 11) rfl (by kernel_rfl) (by kernel_rfl) fun K11 hK11 => ?_
      go_simp
      go_wp2_with fail
      have hS : _ := SW.of hCc
      refine hK11 _ _ (fun _ => hS) ?_
      clear hK11
      refine wpAnyK_take (i := 12) _ rfl (by kernel_rfl) (fun _ _ _ h => hQp _ _ _ _ h) hS (yields_value (by kernel_rfl) (by intro w0 hw0; have hw1 := hw0; simp only [SW] at hw1; first | (go_simp; done) | (go_simp; rfl))) ?_; simp only [Act.put, List.getElem_toArray, List.getElem_cons_succ, List.getElem_cons_zero, List.setIfInBounds_toArray, List.set_cons_succ, List.set_cons_zero]
      have hvc3 : blk va' ≠ some cb := hWc.noType hCc (by decide)
      clear hS
      refine wpAnyK_call (i := 13) rfl (by kernel_rfl) (by kernel_rfl) fun K13 hK13 => ?_
      go_simp
      go_wp2_with fail
      refine hK13 _ _ (fun h => absurd rfl h) ?_
      clear hK13
      have hCd := hCc.set 8 (.slice va' (vn + 1) vc')
      simp only [List.setIfInBounds_toArray, List.set_cons_succ, List.set_cons_zero] at hCd
      refine wpAnyK_done (by kernel_rfl) ?_ _
      refine hR _ _ ?_
      iterate 13 apply Exists.intro
      refine ⟨?_, ⟨va', vc', hCd, hWc.setAt (a := ⟨cb, 8, none⟩) hvc3 hcW _, hLc.setAt (a := ⟨cb, 8, none⟩) (by simp [blk]; exact fun e => hcg e.symm) hcV _, hFc.trans (Frm.set (a := ⟨cb, 8, none⟩) hcW hcb _)⟩⟩
      simp only [puts, Act.put, List.setIfInBounds_toArray, List.set_cons_succ, List.set_cons_zero]
      rfl
    rintro a' w8 ⟨v27, v28, v29, v30, v31, v32, v33, v34, v35, v36, v37, v38, v39, rfl, hb8⟩
    simp only [puts, Act.put, List.setIfInBounds_toArray, List.set_cons_succ, List.set_cons_zero]
    clear hC1 hW1 hL1 hF1
    obtain ⟨va', vc', hC9, hW9, hL9, hF9⟩ := hb8
    have HVN : Hid (vn + 1 = (ws ++ [up num]).length) := by show _ = _; rw [hvn.out]; simp
    go_wp2
    case roundEnd =>
      go_roundw
      case rel => exact ⟨i + 1, _, _, _, va', vc', vn + 1, by go_num, by omega, HST1, HVN, by omega, hC9, hW9, hL9, hF9⟩
      case measure => simp [intOf] <;> omega

end Go.Proofs.Ytagldmdeohenjaa
