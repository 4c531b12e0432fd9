/-
  The walk of control.Back: an order was done.
-/
import Derived.WalkKit
import Derived.WalkSpells
import Derived.WalkLawsBesides
import Derived.Lib.Hide
import Derived.Deep.LoopGhost
import Derived.Deep.QuietTactic
import Derived.BigQuiet
import Derived.Deep.RegionWith
import Derived.Handy
import Derived.Test.YtagldmdeohenjaaPk18
import Derived.Test.YtagldmdeohenjaaPk14
import Derived.Test.YtagldmdeohenjaaPk8
import Derived.Test.YtagldmdeohenjaaPk3
import Derived.Test.YtagldmdeohenjaaPk1
set_option linter.unusedSimpArgs false
set_option linter.unusedVariables false
namespace Go.St
open Go.RowKit
/-- what a step of the control hands back -/
def ctlOut (N : Nat) (R : Ctl × List To × Int) (e : Ending) (w' : World) : Prop :=
  ∃ (ks : List Value) (oa : Option Addr) (oc : Nat), e = .returned (.tuple #[.agg ks.toArray, .slice oa R.2.1.length oc, .int .i64 R.2.2]) ∧ ctlS.rep (fun b => N ≤ b) w' ks R.1 ∧ rowRep toS (fun b => N ≤ b) w' oa oc R.2.1
theorem ctlOut.bad {N : Nat} {R : Ctl × List To × Int} {k : Int} {w' : World} (h : R = (noCtl, [], k)) :
    ctlOut N R (.returned (.tuple #[.agg #[.int .i64 0, .int .i64 0, .slice none 0 0, .slice none 0 0, .int .i64 0, .slice none 0 0, .slice none 0 0, .int .i64 0, .slice none 0 0], .slice none 0 0, .int .i64 k])) w' := by
  subst h
  exact ⟨_, none, 0, rfl, ctlS.mk_ (c := noCtl) (I64.small (by decide) (by decide)) (I64.small (by decide) (by decide)) (noPlanC _ _) (noPlanC _ _) (rowRep.nil _ _ _ _), rowRep.nil _ _ _ _⟩
theorem ctlOut.ok {N : Nat} {R : Ctl × List To × Int} {st num : Int} {now next : Plan} {ws : List Int} {sl : List To} {p0 p1 p2 q0 q1 q2 : Value} {ua oa : Option Addr} {uc oc : Nat} {w' : World} {o1 o2 o3 o4 : Nat → Prop} (h : R = (⟨st, now, next, num, ws⟩, sl, 0)) (h1 : I64 st) (h2 : I64 num)
    (h3 : planC w' o1 p0 p1 p2 now) (h4 : planC w' o2 q0 q1 q2 next) (h5 : rowRep intS o3 w' ua uc ws) (h6 : rowRep toS o4 w' oa oc sl) (k1 : ∀ b, o1 b → N ≤ b) (k2 : ∀ b, o2 b → N ≤ b) (k3 : ∀ b, o3 b → N ≤ b) (k4 : ∀ b, o4 b → N ≤ b) :
    ctlOut N R (.returned (.tuple #[.agg #[.int .i64 st, p0, p1, p2, q0, q1, q2, .int .i64 num, .slice ua ws.length uc], .slice oa sl.length oc, .int .i64 0])) w' := by
  subst h
  exact ⟨_, oa, oc, rfl, ctlS.mk_ (c := ⟨st, now, next, num, ws⟩) h1 h2 (planS.anyOk h3 fun b _ hb => k1 b hb) (planS.anyOk h4 fun b _ hb => k2 b hb) (h5.anyOk fun b _ hb => k3 b hb), h6.anyOk fun b _ hb => k4 b hb⟩
theorem steps_len (c : Ctl) (t : Topo) : (stepsOf c t).2.length ≤ t.n.toNat := by
  unfold stepsOf
  split
  · simp
  · split
    · split
      · simp
      · rw [(send_len _ _).1]; exact over_len (stampAt_len _) _
    · split
      · simp
      · split <;> simp
structure CtlSmall (c : Ctl) : Prop where
  now : PlanSmall c.now
  next : PlanSmall c.next
  waits : c.waits.length ≤ 1000000000
  rul : ∀ s : Nat, (rulesAt c.now s).length ≤ 1000000000
/-- what is read where a fault is handed back -/
def SBf (b : Nat) (k : Int) (w : World) : Prop := w.cell? ⟨b, 0, none⟩ = some (.int .i64 k)
theorem topoKept {w w' : World} {N : Nat} {ok : Nat → Prop} {ts : List Value} {t : Topo} (h : topoS.rep ok w ts t) (hN : w.heap.size = N) (hb : Below N w w') : topoS.rep (fun b => b < N) w' ts t :=
  topoS.mono h fun b hlt _ => ⟨by omega, hb.block b (by omega)⟩
end Go.St
namespace Go.Proofs.Ytagldmdeohenjaa
open Go.RowKit Go.St

set_option maxRecDepth 100000 in
set_option maxHeartbeats 16000000 in
theorem back_c (c : Ctl) (t : Topo) (num : Int) (cs ts : List Value) (okc okt : Nat → Prop) (w : World) (h : ctlS.rep okc w cs c) (ht : topoS.rep okt w ts t) (hsm : CtlSmall c) :
    Calls Try.prog 9 #[.agg cs.toArray, .agg ts.toArray, .int .i64 num] w fun e w' => ctlOut w.heap.size (ctlBack c t num) e w' ∧ Below w.heap.size w w' := by
  have hH := h
  have hT := ht
  obtain ⟨n0, n1, n2, x0, x1, x2, pa, pc, rfl, hst, hnu, hn, hx, hw⟩ := ctlS.open_ h
  obtain ⟨la, lc, rfl, htn, htr⟩ := ht
  have HE1 : Hid ((topoWrong t).1 ≠ 0 → ctlBack c t num = (noCtl, [], (topoWrong t).1)) := fun h => by unfold ctlBack; rw [if_pos h]
  have HE2 : Hid ((topoWrong t).1 = 0 → idxIn num c.waits = none → ctlBack c t num = (noCtl, [], 6)) := fun h h2 => by unfold ctlBack; rw [if_neg (fun h3 => h3 h), h2]
  have HE3 : Hid ((topoWrong t).1 = 0 → ∀ i, idxIn num c.waits = some i → ctlBack c t num = ((stepsOf ⟨c.stage, c.now, c.next, c.num, c.waits.eraseIdx i⟩ t).1, (stepsOf ⟨c.stage, c.now, c.next, c.num, c.waits.eraseIdx i⟩ t).2, 0)) := fun h i h2 => by unfold ctlBack; rw [if_neg (fun h3 => h3 h), h2]
  have HTR : Hid ((topoWrong t).1 = 0 → 0 ≤ t.n ∧ t.n ≤ 8) := fun h => by have := (topo_right h).1; omega
  generalize ctlBack c t num = R at *
  obtain ⟨cst, cnow, cnext, cnum, cws⟩ := c
  dsimp only at *
  obtain ⟨lx0, lx1, lx2⟩ := hx.one
  obtain ⟨ln0, ln1, ln2⟩ := hn.one
  have hwx := hw.len_le
  have hB0 : Below w.heap.size w (((w.alloc (.cells #[.int .i64 cst, n0, n1, n2, x0, x1, x2, .int .i64 cnum, .slice pa cws.length pc] 32)).alloc (.cells #[.int .i64 t.n, .slice la t.links.length lc] 24)).alloc (.cells #[.int .i64 0, .int .i64 0, .slice none 0 0, .slice none 0 0, .int .i64 0, .slice none 0 0, .slice none 0 0, .int .i64 0, .slice none 0 0] 32)) := by (repeat' (first | with_reducible exact Below.refl _ _ | with_reducible assumption | with_reducible refine Below.drew ?_ | with_reducible refine Below_drewN ?_ _ | with_reducible refine Below.alloc ?_ ?_ _ | with_reducible refine Below.setCell ?_ ?_ _ | omega | (simp; done) | (simp; omega)))
  have hC0 : blockIs (((w.alloc (.cells #[.int .i64 cst, n0, n1, n2, x0, x1, x2, .int .i64 cnum, .slice pa cws.length pc] 32)).alloc (.cells #[.int .i64 t.n, .slice la t.links.length lc] 24)).alloc (.cells #[.int .i64 0, .int .i64 0, .slice none 0 0, .slice none 0 0, .int .i64 0, .slice none 0 0, .slice none 0 0, .int .i64 0, .slice none 0 0] 32)) w.heap.size 32 #[.int .i64 cst, n0, n1, n2, x0, x1, x2, .int .i64 cnum, .slice pa cws.length pc] := ((blockIs.new rfl).alloc _).alloc _
  have hT0 : blockIs (((w.alloc (.cells #[.int .i64 cst, n0, n1, n2, x0, x1, x2, .int .i64 cnum, .slice pa cws.length pc] 32)).alloc (.cells #[.int .i64 t.n, .slice la t.links.length lc] 24)).alloc (.cells #[.int .i64 0, .int .i64 0, .slice none 0 0, .slice none 0 0, .int .i64 0, .slice none 0 0, .slice none 0 0, .int .i64 0, .slice none 0 0] 32)) (w.heap.size + 1) 24 #[.int .i64 t.n, .slice la t.links.length lc] := (blockIs.new (by simp)).alloc _
  have hZ0 : blockIs (((w.alloc (.cells #[.int .i64 cst, n0, n1, n2, x0, x1, x2, .int .i64 cnum, .slice pa cws.length pc] 32)).alloc (.cells #[.int .i64 t.n, .slice la t.links.length lc] 24)).alloc (.cells #[.int .i64 0, .int .i64 0, .slice none 0 0, .slice none 0 0, .int .i64 0, .slice none 0 0, .slice none 0 0, .int .i64 0, .slice none 0 0] 32)) (w.heap.size + 1 + 1) 32 #[.int .i64 0, .int .i64 0, .slice none 0 0, .slice none 0 0, .int .i64 0, .slice none 0 0, .slice none 0 0, .int .i64 0, .slice none 0 0] := blockIs.new (by simp)

  go_enter Try.func9, Try.ntmps9
  go_wp2_with fail
  generalize (((w.alloc (.cells #[.int .i64 cst, n0, n1, n2, x0, x1, x2, .int .i64 cnum, .slice pa cws.length pc] 32)).alloc (.cells #[.int .i64 t.n, .slice la t.links.length lc] 24)).alloc (.cells #[.int .i64 0, .int .i64 0, .slice none 0 0, .slice none 0 0, .int .i64 0, .slice none 0 0, .slice none 0 0, .int .i64 0, .slice none 0 0] 32)) = w0 at *
  refine (topoWrong_c t _ okt w0 (topoS.below hT hB0)).mono ?_
  rintro e w1 ⟨rfl, hb1⟩
  have hbx : Below w1.heap.size w1 (w1.alloc (.cells #[.int .i64 (topoWrong t).1, .int .i64 (topoWrong t).2] 66)) := by (repeat' (first | with_reducible exact Below.refl _ _ | with_reducible assumption | with_reducible refine Below.drew ?_ | with_reducible refine Below_drewN ?_ _ | with_reducible refine Below.alloc ?_ ?_ _ | with_reducible refine Below.setCell ?_ ?_ _ | omega | (simp; done) | (simp; omega)))
  have hB1 := hB0.trans (hb1.mono hB0.size)
  have hB2 := hB1.trans (hbx.mono hB1.size)
  have hC2 := (hC0.under hb1).under hbx
  have hT2 := (hT0.under hb1).under hbx
  have hZ2 := (hZ0.under hb1).under hbx
  have hF2 : blockIs (w1.alloc (.cells #[.int .i64 (topoWrong t).1, .int .i64 (topoWrong t).2] 66)) w1.heap.size 66 #[.int .i64 (topoWrong t).1, .int .i64 (topoWrong t).2] := blockIs.new rfl
  have hfz : w.heap.size + 1 + 1 < w1.heap.size := (hZ0.under hb1).lt
  have hC1 := hC0.under hb1
  have hT1 := hT0.under hb1
  have hZ1 := hZ0.under hb1
  clear hb1 hbx hB0 hC0 hT0 hZ0
  generalize topoWrong t = tw at *
  obtain ⟨k1, k2⟩ := tw
  dsimp only at *
  by_cases h1 : k1 = 0
  case neg =>
    have HE := Lib.hid (HE1.out h1)
    have h1' : (k1 != 0) = true := by rw [bne_iff_ne]; exact h1
    clear HE1 HE2 HE3 HTR h1 hC1 hT1 hZ1 hB1
    obtain ⟨f1, f2⟩ := hF2.cells
    go_wp2
    generalize w1.alloc (.cells #[.int .i64 k1, .int .i64 k2] 66) = w2 at *
    generalize w1.heap.size = fb at *
    clear f1 f2
    have hS0 : SBf fb k1 w2.drew := hF2.cells.1 0
    refine wp_region_to (SBf fb k1) 99 (fun a0 a' w' => ∃ v18 v19 v20, a' = puts a0 [(18, v18), (19, v19), (20, v20), (7, .slice none 0 0), (8, .int .i64 k1)] ∧ blockIs w' (w.heap.size + 1 + 1) 32 #[.int .i64 0, .int .i64 0, .slice none 0 0, .slice none 0 0, .int .i64 0, .slice none 0 0, .slice none 0 0, .int .i64 0, .slice none 0 0] ∧ Below w.heap.size w w') (by kernel_rfl) ?_ ?_
    · intro Q' hR hQp
      have hb0 : Below w2.heap.size w2 w2.drew := by (repeat' (first | with_reducible exact Below.refl _ _ | with_reducible assumption | with_reducible refine Below.drew ?_ | with_reducible refine Below_drewN ?_ _ | with_reducible refine Below.alloc ?_ ?_ _ | with_reducible refine Below.setCell ?_ ?_ _ | omega | (simp; done) | (simp; omega)))
      have hS : SBf fb k1 w2.drew := hS0
      generalize w2.drew = wa at *
      have hZa := hZ2.under hb0
      have hFa := hF2.under hb0
      have hBa := hB2.trans (hb0.mono hB2.size)
      obtain ⟨z1, z2⟩ := hZa.cells
      have hzl := hZa.lt
      refine wpAnyK_take' (i := 0) _ rfl (by kernel_rfl) (fun _ _ _ h => hQp _ _ _ _ h) hS (yields_value (by kernel_rfl) (by intro w0 hw0; have hw1 := hw0; simp only [SBf] at hw1; first | (go_simp; done) | (go_simp; rfl))) ?_; simp only [Act.put, List.getElem_toArray, List.getElem_cons_succ, List.getElem_cons_zero, List.setIfInBounds_toArray, List.set_cons_succ, List.set_cons_zero]
      refine wpAnyK_take' (i := 1) _ rfl (by kernel_rfl) (fun _ _ _ h => hQp _ _ _ _ h) hS (yields_value (by kernel_rfl) (by intro w0 hw0; have hw1 := hw0; simp only [SBf] at hw1; first | (go_simp; done) | (go_simp; rfl))) ?_; simp only [Act.put, List.getElem_toArray, List.getElem_cons_succ, List.getElem_cons_zero, List.setIfInBounds_toArray, List.set_cons_succ, List.set_cons_zero]
      refine wpAnyK_take' (i := 2) _ rfl (by kernel_rfl) (fun _ _ _ h => hQp _ _ _ _ h) hS (yields_value (by kernel_rfl) (by intro w0 hw0; have hw1 := hw0; simp only [SBf] at hw1; first | (go_simp; done) | (go_simp; rfl))) ?_; simp only [Act.put, List.getElem_toArray, List.getElem_cons_succ, List.getElem_cons_zero, List.setIfInBounds_toArray, List.set_cons_succ, List.set_cons_zero]
      clear hS
      refine wpAnyK_call (i := 3) rfl (by kernel_rfl) (by kernel_rfl) fun K3 hK3 => ?_
      go_simp
      go_wp2_with fail
      obtain ⟨G, FR⟩ := set9 hZa (fun b => b ≠ w.heap.size + 1 + 1) w.heap.size (fun h => h rfl) (by omega) (.int .i64 0) (.int .i64 0) (.slice none 0 0) (.slice none 0 0) (.int .i64 0) (.slice none 0 0) (.slice none 0 0) (.int .i64 0) (.slice none 0 0)
      have hS : _ := (FR.blk hFa (.inl (by omega))).cells.1 0
      refine hK3 _ _ (fun _ => hS) ?_
      clear hK3
      refine wpAnyK_take' (i := 4) _ rfl (by kernel_rfl) (fun _ _ _ h => hQp _ _ _ _ h) hS (yields_value (by kernel_rfl) (by intro w0 hw0; have hw1 := hw0; simp only [SBf] at hw1; first | (go_simp; done) | (go_simp; rfl))) ?_; simp only [Act.put, List.getElem_toArray, List.getElem_cons_succ, List.getElem_cons_zero, List.setIfInBounds_toArray, List.set_cons_succ, List.set_cons_zero]
      refine wpAnyK_take' (i := 5) _ rfl (by kernel_rfl) (fun _ _ _ h => hQp _ _ _ _ h) hS (yields_value (by kernel_rfl) (by intro w0 hw0; have hw1 := hw0; simp only [SBf] at hw1; first | (go_simp; done) | (go_simp; rfl))) ?_; simp only [Act.put, List.getElem_toArray, List.getElem_cons_succ, List.getElem_cons_zero, List.setIfInBounds_toArray, List.set_cons_succ, List.set_cons_zero]
      refine wpAnyK_done (by kernel_rfl) ?_ _
      refine hR _ _ ?_
      iterate 3 apply Exists.intro
      refine ⟨?_, ⟨G, hBa.trans FR.below⟩⟩
      simp only [puts, Act.put, List.setIfInBounds_toArray, List.set_cons_succ, List.set_cons_zero]
      rfl
    rintro a' w8 ⟨v18, v19, v20, rfl, hb8⟩
    simp only [puts, Act.put, List.setIfInBounds_toArray, List.set_cons_succ, List.set_cons_zero]
    obtain ⟨hZ9, hB9⟩ := hb8
    obtain ⟨g1, g2⟩ := hZ9.cells
    go_wp2_with ((with_reducible refine bodyPost_ret (v := .tuple #[.agg #[.int .i64 0, .int .i64 0, .slice none 0 0, .slice none 0 0, .int .i64 0, .slice none 0 0, .slice none 0 0, .int .i64 0, .slice none 0 0], .slice none 0 0, .int .i64 k1]) ?ra1 ?rb1 ?rc1); go_must (case ra1 => simp [results, Try.results9, go_sem, g1]); go_must (case rb1 => rfl); go_must (case rc1 => exact ⟨ctlOut.bad HE.out, hB9⟩))
  subst h1
  obtain ⟨ht0, ht8⟩ := HTR.out (by first | trivial | rfl)

  have hIX := fun (w' : World) (hb : Below w.heap.size w w') => indexI_c cws num okc pa pc w' (hw.below hb)
  have HIX := Lib.hid hIX
  clear hIX HE1 HTR hC1 hT1 hZ1 hB1
  obtain ⟨f1, f2⟩ := hF2.cells
  obtain ⟨c1, c2⟩ := hC2.cells
  go_wp2_with fail
  generalize w1.alloc (.cells #[.int .i64 0, .int .i64 k2] 66) = w2 at *
  generalize w1.heap.size = fb at *
  refine (HIX.out w2 hB2).mono ?_
  rintro e w3 ⟨rfl, rfl⟩
  clear HIX
  cases hix : idxIn num cws
  case none =>
    have HE := Lib.hid (HE2.out (by first | trivial | rfl) hix)
    have hii : idxI num cws = -1 := by unfold idxI; rw [hix]
    rw [hii]
    clear HE2 HE3 hix hii
    obtain ⟨z1, z2⟩ := hZ2.cells
    have hzl := hZ2.lt
    obtain ⟨G, FR⟩ := set9 hZ2 (fun b => b ≠ w.heap.size + 1 + 1) w.heap.size (fun h => h rfl) (by omega) (.int .i64 0) (.int .i64 0) (.slice none 0 0) (.slice none 0 0) (.int .i64 0) (.slice none 0 0) (.slice none 0 0) (.int .i64 0) (.slice none 0 0)
    obtain ⟨g1, g2⟩ := G.cells
    have hB9 := hB2.trans FR.below
    clear FR
    go_wp2_with ((with_reducible refine bodyPost_ret (v := .tuple #[.agg #[.int .i64 0, .int .i64 0, .slice none 0 0, .slice none 0 0, .int .i64 0, .slice none 0 0, .slice none 0 0, .int .i64 0, .slice none 0 0], .slice none 0 0, .int .i64 6]) ?ra2 ?rb2 ?rc2); go_must (case ra2 => simp [results, Try.results9, go_sem, g1]); go_must (case rb2 => rfl); go_must (case rc2 => exact ⟨ctlOut.bad HE.out, hB9⟩))
  case some i =>
    have HE := Lib.hid (HE3.out (by first | trivial | rfl) i hix)
    have hii : idxI num cws = (i : Int) := by unfold idxI; rw [hix]
    have hil : i < cws.length := (List.getElem?_eq_some_iff.1 (idxIn_some hix)).1
    rw [hii]
    have i1 : ¬ (i : Int) < 0 := by omega
    have i2 : IntKind.i64.wrap ((i : Int) + 1) = (i : Int) + 1 := IntWalk.i64_in _ (by omega)
    clear HE2 HE3 hix hii
    obtain ⟨s1, s2, s3, -⟩ := hsm
    dsimp only at s1 s2 s3
    go_wp2_with fail
    refine (own_c ⟨cst, cnow, cnext, cnum, cws⟩ _ okc w3 (ctlS.below hH hB2) s1 s2 (by show cws.length ≤ _; omega)).mono ?_
    rintro e w4 ⟨m0, m1, m2, y0, y1, y2, va, vc, M, rfl, hM, hvM, hN4, hX4, hV4, hb4⟩
    dsimp only at hN4 hX4 hV4
    obtain ⟨lm0, lm1, lm2⟩ := planC.st (P := Try.prog) hN4
    obtain ⟨ly0, ly1, ly2⟩ := planC.st (P := Try.prog) hX4
    obtain ⟨om0, om1, om2⟩ := planC.one hN4
    obtain ⟨oy0, oy1, oy2⟩ := planC.one hX4
    have hB4 := hB2.trans (hb4.mono hB2.size)
    have hT4 := hT2.under hb4
    have hZ4 := hZ2.under hb4
    have hz4 := hb4.size
    have hz2 := hZ2.lt
    clear hb4 hC2 hF2 f1 f2 c1 c2 hT2 hZ2
    have hbx : Below w4.heap.size w4 (w4.alloc (.cells #[.int .i64 cst, m0, m1, m2, y0, y1, y2, .int .i64 cnum, .slice va cws.length vc] 32)) := by (repeat' (first | with_reducible exact Below.refl _ _ | with_reducible assumption | with_reducible refine Below.drew ?_ | with_reducible refine Below_drewN ?_ _ | with_reducible refine Below.alloc ?_ ?_ _ | with_reducible refine Below.setCell ?_ ?_ _ | omega | (simp; done) | (simp; omega)))
    have hD5 : blockIs (w4.alloc (.cells #[.int .i64 cst, m0, m1, m2, y0, y1, y2, .int .i64 cnum, .slice va cws.length vc] 32)) w4.heap.size 32 #[.int .i64 cst, m0, m1, m2, y0, y1, y2, .int .i64 cnum, .slice va cws.length vc] := blockIs.new rfl
    have hvD : ∀ k, blk va = some k → k < w4.heap.size := fun k hk => (hV4.lt k hk).2
    go_wp2_with fail
    have hT5 := hT4.under hbx
    have hZ5 := hZ4.under hbx
    have hN5 : planC _ (fun b => M ≤ b ∧ b < w4.heap.size) m0 m1 m2 cnow := planS.below (planS.anyOk hN4 fun b hb h => ⟨h, hb⟩) hbx
    have hX5 : planC _ (fun b => M ≤ b ∧ b < w4.heap.size) y0 y1 y2 cnext := planS.below (planS.anyOk hX4 fun b hb h => ⟨h, hb⟩) hbx
    have hV5 := hV4.below hbx
    have hB5 := hB4.trans (hbx.mono hB4.size)
    have hs5 := hbx.size
    clear hbx hT4 hZ4 hN4 hX4 hV4 hB4
    generalize w4.alloc (.cells #[.int .i64 cst, m0, m1, m2, y0, y1, y2, .int .i64 cnum, .slice va cws.length vc] 32) = w5 at *
    generalize w4.heap.size = D at *
    have hel : (cws.eraseIdx i).length = cws.length - 1 := List.length_eraseIdx_of_lt hil
    have hV5' := (hV5.ints_any (ok' := fun b => b < w5.heap.size ∧ blk va ≠ some b) (fun k hk h => h.2 hk) (fun b h => h.1)).base (by omega : w.heap.size ≤ w3.heap.size)
    refine (delete1_c (fun b => b < w5.heap.size ∧ blk va ≠ some b) w.heap.size cws i va vc cws.length w5 hV5' hB5.size hil (by omega)).mono ?_
    rintro e w6 ⟨rfl, hV6, hF6⟩
    rw [← hel] at hV6 ⊢
    generalize cws.eraseIdx i = es at *
    have hle : es.length ≤ cws.length := by omega
    clear hel hil i1 i2
    have hvt : ∀ {b : Nat} {tt : TypeId} {cs : Array Value}, blockIs w5 b tt cs → 3 ≠ tt → blk va ≠ some b := fun h hne => hV5.noType h hne
    have hD6 := hF6.blk hD5 (.inl (hvt hD5 (by decide)))
    have hT6 := hF6.blk hT5 (.inl (hvt hT5 (by decide)))
    have hZ6 := hF6.blk hZ5 (.inl (hvt hZ5 (by decide)))
    have hKv : ∀ b, M ≤ b ∧ b < D → blk va ≠ some b := fun b hb e => by have := hvM b e; omega
    have hN6 := hF6.rep' hN5 (fun b hb => .inl (hKv b hb))
    have hX6 := hF6.rep' hX5 (fun b hb => .inl (hKv b hb))
    have hB6 := hB5.trans hF6.below
    have hs6 := hF6.size
    clear hF6 hvt hD5 hT5 hZ5 hN5 hX5 hV5 hV5' hB5
    have hdl := hD6.lt
    have hFx : Frm (fun b => b ≠ D) w.heap.size w6 (w6.setCell ⟨D, 8, none⟩ (.slice va es.length vc)) := Frm.set (a := ⟨D, 8, none⟩) (fun h => h rfl) (by show w.heap.size ≤ D; omega) _
    have hD7 := hD6.set 8 (.slice va es.length vc)
    simp only [List.setIfInBounds_toArray, List.set_cons_succ, List.set_cons_zero] at hD7
    have hT7 := hFx.blk hT6 (.inl (by omega))
    have hZ7 := hFx.blk hZ6 (.inl (by omega))
    have hN7 := hFx.rep' hN6 (fun b hb => .inl (by have := hb.2; omega))
    have hX7 := hFx.rep' hX6 (fun b hb => .inl (by have := hb.2; omega))
    have hV7 := (hV6.ints_any (ok' := fun _ => False) (fun _ _ h => h) (fun _ h => h.elim)).setAt (a := ⟨D, 8, none⟩) (hV6.noType hD6 (by decide)) (fun h => h) (.slice va es.length vc)
    have hB7 := hB6.trans hFx.below
    have hs7 : (w6.setCell ⟨D, 8, none⟩ (.slice va es.length vc)).heap.size = w6.heap.size := by simp
    obtain ⟨c1, c2⟩ := hD6.cells
    obtain ⟨t1, t2⟩ := hT6.cells
    go_wp2_with fail
    clear c1 c2 t1 t2 hD6 hT6 hZ6 hN6 hX6 hV6 hB6 hFx lm0 lm1 lm2 ly0 ly1 ly2 om0 om1 om2 oy0 oy1 oy2
    generalize w6.setCell ⟨D, 8, none⟩ (.slice va es.length vc) = w7 at *
    have hbT := topoKept hT rfl hB7
    have hV7' := hV7.ints_any (ok' := fun b => b < w7.heap.size ∧ blk va ≠ some b) (fun k hk h => h.2 hk) (fun b h => h.1)
    refine (steps_c ⟨cst, cnow, cnext, cnum, es⟩ t _ (fun b => b < w7.heap.size ∧ blk va ≠ some b) (fun b => M ≤ b ∧ b < D) w.heap.size m0 m1 m2 y0 y1 y2 va vc w7 (fun b hb => ⟨by have := hb.2; omega, hKv b hb⟩) hN7 hX7 hV7' hst hnu hbT ht0 ht8 s2 hB7.size (by show es.length ≤ _; omega)).mono ?_
    rintro e w8 ⟨p0, p1, p2, q0, q1, q2, ua, uc, oa, oc, rfl, hN8, hX8, hU8, hks, hkn, hO8, hF8⟩
    have hvt : ∀ {b : Nat} {tt : TypeId} {cs : Array Value}, blockIs w7 b tt cs → 3 ≠ tt → blk va ≠ some b := fun h hne => hV7.noType h hne
    have hD8 := hF8.blk hD7 (.inl ⟨hD7.lt, hvt hD7 (by decide)⟩)
    have hZ8 := hF8.blk hZ7 (.inl ⟨hZ7.lt, hvt hZ7 (by decide)⟩)
    have hB8 := hB7.trans hF8.below
    have hs8 := hF8.size
    clear hN7 hX7 hV7 hV7' hD7 hZ7 hT7 hF8 hvt hB7 hbT
    generalize stepsOf ⟨cst, cnow, cnext, cnum, es⟩ t = sr at *
    obtain ⟨⟨st2, now2, next2, num2, ws2⟩, sl⟩ := sr
    dsimp only at *
    obtain ⟨lp0, lp1, lp2⟩ := planC.st (P := Try.prog) hN8
    obtain ⟨lq0, lq1, lq2⟩ := planC.st (P := Try.prog) hX8
    obtain ⟨op0, op1, op2⟩ := planC.one hN8
    obtain ⟨oq0, oq1, oq2⟩ := planC.one hX8
    have hdl8 := hD8.lt
    have hzl8 := hZ8.lt
    obtain ⟨G1, FR1⟩ := set9 hD8 (fun b => b ≠ D) w.heap.size (fun h => h rfl) (by omega) (.int .i64 st2) p0 p1 p2 q0 q1 q2 (.int .i64 num2) (.slice ua ws2.length uc)
    have hZ9 := FR1.blk hZ8 (.inl (by omega))
    obtain ⟨G2, FR2⟩ := set9 hZ9 (fun b => b ≠ w.heap.size + 1 + 1) w.heap.size (fun h => h rfl) (by omega) (.int .i64 st2) p0 p1 p2 q0 q1 q2 (.int .i64 num2) (.slice ua ws2.length uc)
    obtain ⟨g1, g2⟩ := G2.cells
    obtain ⟨c1, c2⟩ := hD8.cells
    obtain ⟨z1, z2⟩ := hZ8.cells
    have hr1 : planC _ (fun b => M ≤ b ∧ b < D) p0 p1 p2 now2 := FR2.rep' (FR1.rep' hN8 (fun b hb => .inl (by have := hb.2; omega))) (fun b hb => .inl (by have := hb.1; omega))
    have hr2 : planC _ (fun b => M ≤ b ∧ b < D) q0 q1 q2 next2 := FR2.rep' (FR1.rep' hX8 (fun b hb => .inl (by have := hb.2; omega))) (fun b hb => .inl (by have := hb.1; omega))
    have hu0 : rowRep intS (fun b => w.heap.size ≤ b ∧ b ≠ D ∧ b ≠ w.heap.size + 1 + 1) w8 ua uc ws2 := (hU8.ints_any (ok' := fun _ => False) (fun _ _ h => h) (fun _ h => h.elim)).row (fun _ h => h.elim) (fun k hk => ⟨(hU8.lt k hk).1, fun e => hU8.noType hD8 (by decide) (e ▸ hk), fun e => hU8.noType hZ8 (by decide) (e ▸ hk)⟩)
    have hu1 := FR2.row' (FR1.row' hu0 (fun b hb => .inl hb.2.1)) (fun b hb => .inl hb.2.2)
    have ho1 := FR2.row' (FR1.row' hO8 (fun b hb => .inl (by omega))) (fun b hb => .inl (by omega))
    have hB9 := (hB8.trans FR1.below).trans FR2.below
    have hMN : w.heap.size ≤ M := by omega
    have HOUT := Lib.hid (And.intro (ctlOut.ok (N := w.heap.size) HE.out hks hkn hr1 hr2 hu1 ho1 (fun b hb => Nat.le_trans hMN hb.1) (fun b hb => Nat.le_trans hMN hb.1) (fun b hb => hb.1) (fun b hb => Nat.le_trans (by omega) hb)) hB9)
    clear hr1 hr2 hu0 hu1 ho1 hB9 FR1 FR2 hN8 hX8 hU8 hO8 hB8 hks hkn
    go_wp2_with ((with_reducible refine bodyPost_ret (v := .tuple #[.agg #[.int .i64 st2, p0, p1, p2, q0, q1, q2, .int .i64 num2, .slice ua ws2.length uc], .slice oa sl.length oc, .int .i64 0]) ?ra3 ?rb3 ?rc3); go_must (case ra3 => simp [results, Try.results9, go_sem, g1]); go_must (case rb3 => rfl); go_must (case rc3 => exact HOUT.out))

end Go.Proofs.Ytagldmdeohenjaa

/-
  A control's reading with its bulk.
-/
set_option linter.unusedSimpArgs false
set_option linter.unusedVariables false
namespace Go.St
open Go.RowKit
theorem mem_sum {α : Type} {μ : α → Nat} {x : α} : ∀ {l : List α}, x ∈ l → μ x ≤ (l.map μ).sum
  | a :: l, h => by
    simp only [List.map_cons, List.sum_cons]
    rcases List.mem_cons.1 h with rfl | h
    · omega
    · have := mem_sum (μ := μ) h; omega
theorem len_sum {α : Type} {μ : α → Nat} (hm : ∀ x, 1 ≤ μ x) : ∀ (l : List α), l.length ≤ (l.map μ).sum
  | [] => Nat.le_refl _
  | a :: l => by
    have h1 := hm a
    have := len_sum hm l
    simp only [List.map_cons, List.sum_cons, List.length_cons]
    omega
def rowBulk (l : List Int) : Nat := (l.map fun _ => 1).sum + 1
theorem rowBulk_len (l : List Int) : rowBulk l = l.length + 1 := by rw [rowBulk, ones_sum]
def flowBulk (f : Flow) : Nat := rowBulk f.via + rowBulk f.no
def flowsBulk (l : List Flow) : Nat := (l.map flowBulk).sum + 1
def ctlBulk (c : Ctl) : Nat := (flowsBulk c.now.flows + planBulk c.now.paths) + (flowsBulk c.next.flows + planBulk c.next.paths) + rowBulk c.waits
theorem planSmall_of {p : Plan} (h : flowsBulk p.flows + planBulk p.paths ≤ 10000000) : PlanSmall p := by
  refine ⟨?_, fun f hf => ?_, ?_, fun q hq => ?_⟩
  · have := len_sum (μ := flowBulk) (fun x => by unfold flowBulk; rw [rowBulk_len]; omega) p.flows
    unfold flowsBulk at h; omega
  · have := mem_sum (μ := flowBulk) hf
    unfold flowsBulk at h
    have e : flowBulk f = (f.via.length + 1) + (f.no.length + 1) := by unfold flowBulk; rw [rowBulk_len, rowBulk_len]
    constructor <;> omega
  · have := paths_len p.paths; omega
  · have := mem_sum (μ := fun q : List Int => (q.map fun _ => 1).sum + 1) hq
    rw [ones_sum] at this
    unfold planBulk at h
    omega
theorem ctlSmall_of {c : Ctl} (h : ctlBulk c ≤ 1048576) : CtlSmall c := by
  unfold ctlBulk at h
  refine ⟨planSmall_of (by omega), planSmall_of (by omega), ?_, fun s => ?_⟩
  · rw [rowBulk_len] at h; omega
  · exact Nat.le_trans rulesFrom_lenB (by omega)
end Go.St
namespace Go.Proofs.Ytagldmdeohenjaa
open Go.RowKit Go.St Go.Deep Go.ChangeShapes Go.WideShapes

theorem opens_flowB {P : Program} {t i fs : TypeId} {f0 f1 f2 f3 : Field} {μ : List Int → Nat} (ht : P.underlying t = some (.struct #[f0, f1, f2, f3])) (hc : P.cellsOf t = 4) (hi : Opens P i intS) (hl : OpensB P fs (sliceS intS) μ)
    (t0 : f0.type = i ∧ f0.offset = 0) (t1 : f1.type = i ∧ f1.offset = 1) (t2 : f2.type = fs ∧ f2.offset = 2) (t3 : f3.type = fs ∧ f3.offset = 3) : OpensB P t flowS (fun f => μ f.via + μ f.no) where
  size := by rw [hc]; rfl
  pos := by decide
  op h := by
    obtain ⟨xs, n, _, rfl, hlen', hlen, hf⟩ := DataW.trod_struct ht h
    rename_i cs _
    rw [hc] at hlen'
    match cs, hlen', xs, hlen with
    | [v0, v1, v2, v3], _, [x0, x1, x2, x3], _ =>
      have h0 := hf 0 f0 rfl
      have h1 := hf 1 f1 rfl
      have h2 := hf 2 f2 rfl
      have h3 := hf 3 f3 rfl
      rw [t0.1, t0.2, hi.size] at h0
      rw [t1.1, t1.2, hi.size] at h1
      rw [t2.1, t2.2, hl.size] at h2
      rw [t3.1, t3.2, hl.size] at h3
      obtain ⟨a, ha, ia⟩ := hi.op h0
      obtain ⟨b, hb, ib⟩ := hi.op h1
      obtain ⟨rr, ⟨ra, rc, hr1, hr2⟩, hrm⟩ := hl.op h2
      obtain ⟨ss, ⟨sa, sc, hs1, hs2⟩, hsm⟩ := hl.op h3
      simp [intS, sliceS] at ha hb hr1 hs1
      subst ha; subst hb; subst hr1; subst hs1
      refine ⟨⟨a, b, rr, ss⟩, ⟨ra, rc, sa, sc, rfl, ia, ib, hr2, hs2⟩, ?_⟩
      simp only [List.map_cons, List.map_nil, Rows.uptoBulk, Rows.uptoBulkAll] at *
      omega
theorem opens_planF {P : Program} {t i fs ps : TypeId} {f0 f1 f2 : Field} {μ : List (List Int) → Nat} {ν : List Flow → Nat} (ht : P.underlying t = some (.struct #[f0, f1, f2])) (hc : P.cellsOf t = 3) (hi : Opens P i intS) (hfl : OpensB P fs (sliceS flowS) ν) (hp : OpensB P ps (sliceS (sliceS intS)) μ)
    (t0 : f0.type = i ∧ f0.offset = 0) (t1 : f1.type = fs ∧ f1.offset = 1) (t2 : f2.type = ps ∧ f2.offset = 2) : OpensB P t planS (fun p => ν p.flows + μ p.paths) where
  size := by rw [hc]; rfl
  pos := by decide
  op h := by
    obtain ⟨xs, n, _, rfl, hl, hlen, hf⟩ := DataW.trod_struct ht h
    rename_i cs _
    rw [hc] at hl
    match cs, hl, xs, hlen with
    | [v0, v1, v2], _, [x0, x1, x2], _ =>
      have h0 := hf 0 f0 rfl
      have h1 := hf 1 f1 rfl
      have h2 := hf 2 f2 rfl
      rw [t0.1, t0.2, hi.size] at h0
      rw [t1.1, t1.2, hfl.size] at h1
      rw [t2.1, t2.2, hp.size] at h2
      obtain ⟨a, ha, ia⟩ := hi.op h0
      obtain ⟨b, ⟨ab, cb, hb, ib⟩, hn⟩ := hfl.op h1
      obtain ⟨c, ⟨ac, cc, hc', ic⟩, hm⟩ := hp.op h2
      simp [intS] at ha
      simp [sliceS] at hb hc'
      subst ha; subst hb; subst hc'
      refine ⟨⟨a, b, c⟩, ⟨ab, cb, ac, cc, rfl, ia, ib, ic⟩, ?_⟩
      simp only [List.map_cons, List.map_nil, Rows.uptoBulk, Rows.uptoBulkAll] at *
      omega
theorem opens_ctlB {P : Program} {t i ps ws : TypeId} {f0 f1 f2 f3 f4 : Field} {μ : Plan → Nat} {ν : List Int → Nat} (ht : P.underlying t = some (.struct #[f0, f1, f2, f3, f4])) (hc : P.cellsOf t = 9) (hi : Opens P i intS) (hp : OpensB P ps planS μ) (hw : OpensB P ws (sliceS intS) ν)
    (t0 : f0.type = i ∧ f0.offset = 0) (t1 : f1.type = ps ∧ f1.offset = 1) (t2 : f2.type = ps ∧ f2.offset = 4) (t3 : f3.type = i ∧ f3.offset = 7) (t4 : f4.type = ws ∧ f4.offset = 8) : OpensB P t ctlS (fun c => μ c.now + μ c.next + ν c.waits) where
  size := by rw [hc]; rfl
  pos := by decide
  op h := by
    obtain ⟨xs, n, _, rfl, hl, hlen, hf⟩ := DataW.trod_struct ht h
    rename_i cs _
    rw [hc] at hl
    match cs, hl, xs, hlen with
    | [v0, v1, v2, v3, v4, v5, v6, v7, v8], _, [x0, x1, x2, x3, x4], _ =>
      have h0 := hf 0 f0 rfl
      have h1 := hf 1 f1 rfl
      have h2 := hf 2 f2 rfl
      have h3 := hf 3 f3 rfl
      have h4 := hf 4 f4 rfl
      rw [t0.1, t0.2, hi.size] at h0
      rw [t1.1, t1.2, hp.size] at h1
      rw [t2.1, t2.2, hp.size] at h2
      rw [t3.1, t3.2, hi.size] at h3
      rw [t4.1, t4.2, hw.size] at h4
      obtain ⟨a, ha, ia⟩ := hi.op h0
      obtain ⟨b, hb, hbm⟩ := hp.op h1
      obtain ⟨c, hc', hcm⟩ := hp.op h2
      obtain ⟨d, hd, jd⟩ := hi.op h3
      obtain ⟨e, ⟨ae, ce, he, je⟩, hem⟩ := hw.op h4
      simp [intS] at ha hd
      simp [sliceS] at he
      subst ha; subst hd; subst he
      refine ⟨⟨a, b, c, d, e⟩, ⟨[v1, v2, v3], [v4, v5, v6], ae, ce, rfl, ia, jd, hb, hc', je⟩, ?_⟩
      simp only [List.map_cons, List.map_nil, Rows.uptoBulk, Rows.uptoBulkAll] at *
      omega

end Go.Proofs.Ytagldmdeohenjaa
