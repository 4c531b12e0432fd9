/-
  The walk of control.Back: an order was done.
-/
import Derived.WalkKit
import Derived.WalkSpells
import Derived.WalkLawsBesides
import Derived.Lib.Hide
import Derived.Deep.LoopGhost
import Derived.Deep.QuietTactic
import Derived.BigQuiet
import Derived.Deep.RegionWith
import Derived.Handy
import Derived.Test.YtagldmdeohenjaaPk31
import Derived.Test.YtagldmdeohenjaaPk29
import Derived.Test.YtagldmdeohenjaaPk26
import Derived.Test.YtagldmdeohenjaaPk20
import Derived.Test.YtagldmdeohenjaaPk27
import Derived.Test.YtagldmdeohenjaaPk23
import Derived.Test.YtagldmdeohenjaaPk24
import Derived.Test.YtagldmdeohenjaaPk25
set_option linter.unusedSimpArgs false
set_option linter.unusedVariables false
namespace Go.St
open Go.RowKit
/-- what a step of the control hands back -/
def ctlOut (N : Nat) (R : Ctl × List To × Int) (e : Ending) (w' : World) : Prop :=
  ∃ (ks : List Value) (oa : Option Addr) (oc : Nat), e = .returned (.tuple #[.agg ks.toArray, .slice oa R.2.1.length oc, .int .i64 R.2.2]) ∧ ctlS.rep (fun b => N ≤ b) w' ks R.1 ∧ rowRep toS (fun b => N ≤ b) w' oa oc R.2.1
theorem ctlOut.bad {N : Nat} {R : Ctl × List To × Int} {k : Int} {w' : World} (h : R = (noCtl, [], k)) :
    ctlOut N R (.returned (.tuple #[.agg #[.int .i64 0, .int .i64 0, .slice none 0 0, .slice none 0 0, .int .i64 0, .slice none 0 0, .slice none 0 0, .int .i64 0, .slice none 0 0], .slice none 0 0, .int .i64 k])) w' := by
  subst h
  exact ⟨_, none, 0, rfl, ctlS.mk_ (c := noCtl) (I64.small (by decide) (by decide)) (I64.small (by decide) (by decide)) (noPlanC _ _) (noPlanC _ _) (rowRep.nil _ _ _ _), rowRep.nil _ _ _ _⟩
theorem ctlOut.ok {N : Nat} {R : Ctl × List To × Int} {st num : Int} {now next : Plan} {ws : List Int} {sl : List To} {p0 p1 p2 q0 q1 q2 : Value} {ua oa : Option Addr} {uc oc : Nat} {w' : World} {o1 o2 o3 o4 : Nat → Prop} (h : R = (⟨st, now, next, num, ws⟩, sl, 0)) (h1 : I64 st) (h2 : I64 num)
    (h3 : planC w' o1 p0 p1 p2 now) (h4 : planC w' o2 q0 q1 q2 next) (h5 : rowRep intS o3 w' ua uc ws) (h6 : rowRep toS o4 w' oa oc sl) (k1 : ∀ b, o1 b → N ≤ b) (k2 : ∀ b, o2 b → N ≤ b) (k3 : ∀ b, o3 b → N ≤ b) (k4 : ∀ b, o4 b → N ≤ b) :
    ctlOut N R (.returned (.tuple #[.agg #[.int .i64 st, p0, p1, p2, q0, q1, q2, .int .i64 num, .slice ua ws.length uc], .slice oa sl.length oc, .int .i64 0])) w' := by
  subst h
  exact ⟨_, oa, oc, rfl, ctlS.mk_ (c := ⟨st, now, next, num, ws⟩) h1 h2 (planS.anyOk h3 fun b _ hb => k1 b hb) (planS.anyOk h4 fun b _ hb => k2 b hb) (h5.anyOk fun b _ hb => k3 b hb), h6.anyOk fun b _ hb => k4 b hb⟩
theorem steps_len (c : Ctl) (t : Topo) : (stepsOf c t).2.length ≤ t.n.toNat := by
  unfold stepsOf
  split
  · simp
  · split
    · split
      · simp
      · rw [(send_len _ _).1]; exact over_len (stampAt_len _) _
    · split
      · simp
      · split <;> simp
structure CtlSmall (c : Ctl) : Prop where
  now : PlanSmall c.now
  next : PlanSmall c.next
  waits : c.waits.length ≤ 1000000000
  rul : ∀ s : Nat, (rulesAt c.now s).length ≤ 1000000000
/-- what is read where a fault is handed back -/
def SBf (b : Nat) (k : Int) (w : World) : Prop := w.cell? ⟨b, 0, none⟩ = some (.int .i64 k)
theorem topoKept {w w' : World} {N : Nat} {ok : Nat → Prop} {ts : List Value} {t : Topo} (h : topoS.rep ok w ts t) (hN : w.heap.size = N) (hb : Below N w w') : topoS.rep (fun b => b < N) w' ts t :=
  topoS.mono h fun b hlt _ => ⟨by omega, hb.block b (by omega)⟩
end Go.St
namespace Go.Proofs.Ytagldmdeohenjaa
open Go.RowKit Go.St

set_option maxRecDepth 100000 in
set_option maxHeartbeats 16000000 in
theorem back_c (c : Ctl) (t : Topo) (num : Int) (cs ts : List Value) (okc okt : Nat → Prop) (w : World) (h : ctlS.rep okc w cs c) (ht : topoS.rep okt w ts t) (hsm : CtlSmall c) :
    Calls Try.prog 9 #[.agg cs.toArray, .agg ts.toArray, .int .i64 num] w fun e w' => ctlOut w.heap.size (ctlBack c t num) e w' ∧ Below w.heap.size w w' := by
  have hH := h
  have hT := ht
  obtain ⟨n0, n1, n2, x0, x1, x2, pa, pc, rfl, hst, hnu, hn, hx, hw⟩ := ctlS.open_ h
  obtain ⟨la, lc, rfl, htn, htr⟩ := ht
  have HE1 : Hid ((topoWrong t).1 ≠ 0 → ctlBack c t num = (noCtl, [], (topoWrong t).1)) := fun h => by unfold ctlBack; rw [if_pos h]
  have HE2 : Hid ((topoWrong t).1 = 0 → idxIn num c.waits = none → ctlBack c t num = (noCtl, [], 6)) := fun h h2 => by unfold ctlBack; rw [if_neg (fun h3 => h3 h), h2]
  have HE3 : Hid ((topoWrong t).1 = 0 → ∀ i, idxIn num c.waits = some i → ctlBack c t num = ((stepsOf ⟨c.stage, c.now, c.next, c.num, c.waits.eraseIdx i⟩ t).1, (stepsOf ⟨c.stage, c.now, c.next, c.num, c.waits.eraseIdx i⟩ t).2, 0)) := fun h i h2 => by unfold ctlBack; rw [if_neg (fun h3 => h3 h), h2]
  have HTR : Hid ((topoWrong t).1 = 0 → 0 ≤ t.n ∧ t.n ≤ 8) := fun h => by have := (topo_right h).1; omega
  generalize ctlBack c t num = R at *
  obtain ⟨cst, cnow, cnext, cnum, cws⟩ := c
  dsimp only at *
  obtain ⟨lx0, lx1, lx2⟩ := hx.one
  obtain ⟨ln0, ln1, ln2⟩ := hn.one
  have hwx := hw.len_le
  have hB0 : Below w.heap.size w (((w.alloc (.cells #[.int .i64 cst, n0, n1, n2, x0, x1, x2, .int .i64 cnum, .slice pa cws.length pc] 32)).alloc (.cells #[.int .i64 t.n, .slice la t.links.length lc] 24)).alloc (.cells #[.int .i64 0, .int .i64 0, .slice none 0 0, .slice none 0 0, .int .i64 0, .slice none 0 0, .slice none 0 0, .int .i64 0, .slice none 0 0] 32)) := by (repeat' (first | with_reducible exact Below.refl _ _ | with_reducible assumption | with_reducible refine Below.drew ?_ | with_reducible refine Below_drewN ?_ _ | with_reducible refine Below.alloc ?_ ?_ _ | with_reducible refine Below.setCell ?_ ?_ _ | omega | (simp; done) | (simp; omega)))
  have hC0 : blockIs (((w.alloc (.cells #[.int .i64 cst, n0, n1, n2, x0, x1, x2, .int .i64 cnum, .slice pa cws.length pc] 32)).alloc (.cells #[.int .i64 t.n, .slice la t.links.length lc] 24)).alloc (.cells #[.int .i64 0, .int .i64 0, .slice none 0 0, .slice none 0 0, .int .i64 0, .slice none 0 0, .slice none 0 0, .int .i64 0, .slice none 0 0] 32)) w.heap.size 32 #[.int .i64 cst, n0, n1, n2, x0, x1, x2, .int .i64 cnum, .slice pa cws.length pc] := ((blockIs.new rfl).alloc _).alloc _
  have hT0 : blockIs (((w.alloc (.cells #[.int .i64 cst, n0, n1, n2, x0, x1, x2, .int .i64 cnum, .slice pa cws.length pc] 32)).alloc (.cells #[.int .i64 t.n, .slice la t.links.length lc] 24)).alloc (.cells #[.int .i64 0, .int .i64 0, .slice none 0 0, .slice none 0 0, .int .i64 0, .slice none 0 0, .slice none 0 0, .int .i64 0, .slice none 0 0] 32)) (w.heap.size + 1) 24 #[.int .i64 t.n, .slice la t.links.length lc] := (blockIs.new (by simp)).alloc _
  have hZ0 : blockIs (((w.alloc (.cells #[.int .i64 cst, n0, n1, n2, x0, x1, x2, .int .i64 cnum, .slice pa cws.length pc] 32)).alloc (.cells #[.int .i64 t.n, .slice la t.links.length lc] 24)).alloc (.cells #[.int .i64 0, .int .i64 0, .slice none 0 0, .slice none 0 0, .int .i64 0, .slice none 0 0, .slice none 0 0, .int .i64 0, .slice none 0 0] 32)) (w.heap.size + 1 + 1) 32 #[.int .i64 0, .int .i64 0, .slice none 0 0, .slice none 0 0, .int .i64 0, .slice none 0 0, .slice none 0 0, .int .i64 0, .slice none 0 0] := blockIs.new (by simp)

  go_enter Try.func9, Try.ntmps9
  go_wp2_with fail
  generalize (((w.alloc (.cells #[.int .i64 cst, n0, n1, n2, x0, x1, x2, .int .i64 cnum, .slice pa cws.length pc] 32)).alloc (.cells #[.int .i64 t.n, .slice la t.links.length lc] 24)).alloc (.cells #[.int .i64 0, .int .i64 0, .slice none 0 0, .slice none 0 0, .int .i64 0, .slice none 0 0, .slice none 0 0, .int .i64 0, .slice none 0 0] 32)) = w0 at *
  refine (topoWrong_c t _ okt w0 (topoS.below hT hB0)).mono ?_
  rintro e w1 ⟨rfl, hb1⟩
  have hbx : Below w1.heap.size w1 (w1.alloc (.cells #[.int .i64 (topoWrong t).1, .int .i64 (topoWrong t).2] 66)) := by (repeat' (first | with_reducible exact Below.refl _ _ | with_reducible assumption | with_reducible refine Below.drew ?_ | with_reducible refine Below_drewN ?_ _ | with_reducible refine Below.alloc ?_ ?_ _ | with_reducible refine Below.setCell ?_ ?_ _ | omega | (simp; done) | (simp; omega)))
  have hB1 := hB0.trans (hb1.mono hB0.size)
  have hB2 := hB1.trans (hbx.mono hB1.size)
  have hC2 := (hC0.under hb1).under hbx
  have hT2 := (hT0.under hb1).under hbx
  have hZ2 := (hZ0.under hb1).under hbx
  have hF2 : blockIs (w1.alloc (.cells #[.int .i64 (topoWrong t).1, .int .i64 (topoWrong t).2] 66)) w1.heap.size 66 #[.int .i64 (topoWrong t).1, .int .i64 (topoWrong t).2] := blockIs.new rfl
  have hfz : w.heap.size + 1 + 1 < w1.heap.size := (hZ0.under hb1).lt
  have hC1 := hC0.under hb1
  have hT1 := hT0.under hb1
  have hZ1 := hZ0.under hb1
  clear hb1 hbx hB0 hC0 hT0 hZ0
  generalize topoWrong t = tw at *
  obtain ⟨k1, k2⟩ := tw
  dsimp only at *
  by_cases h1 : k1 = 0
  case neg =>
    have HE := Lib.hid (HE1.out h1)
    have h1' : (k1 != 0) = true := by rw [bne_iff_ne]; exact h1
    clear HE1 HE2 HE3 HTR h1 hC1 hT1 hZ1 hB1
    obtain ⟨f1, f2⟩ := hF2.cells
    go_wp2
    generalize w1.alloc (.cells #[.int .i64 k1, .int .i64 k2] 66) = w2 at *
    generalize w1.heap.size = fb at *
    clear f1 f2
    have hS0 : SBf fb k1 w2.drew := hF2.cells.1 0
    refine wp_region_to (SBf fb k1) 99 (fun a0 a' w' => ∃ v18 v19 v20, a' = puts a0 [(18, v18), (19, v19), (20, v20), (7, .slice none 0 0), (8, .int .i64 k1)] ∧ blockIs w' (w.heap.size + 1 + 1) 32 #[.int .i64 0, .int .i64 0, .slice none 0 0, .slice none 0 0, .int .i64 0, .slice none 0 0, .slice none 0 0, .int .i64 0, .slice none 0 0] ∧ Below w.heap.size w w') (by kernel_rfl) ?_ ?_
    · intro Q' hR hQp
      have hb0 : Below w2.heap.size w2 w2.drew := by (repeat' (first | with_reducible exact Below.refl _ _ | with_reducible assumption | with_reducible refine Below.drew ?_ | with_reducible refine Below_drewN ?_ _ | with_reducible refine Below.alloc ?_ ?_ _ | with_reducible refine Below.setCell ?_ ?_ _ | omega | (simp; done) | (simp; omega)))
      have hS : SBf fb k1 w2.drew := hS0
      generalize w2.drew = wa at *
      have hZa := hZ2.under hb0
      have hFa := hF2.under hb0
      have hBa := hB2.trans (hb0.mono hB2.size)
      obtain ⟨z1, z2⟩ := hZa.cells
      have hzl := hZa.lt
      refine wpAnyK_take' (i := 0) _ rfl (by kernel_rfl) (fun _ _ _ h => hQp _ _ _ _ h) hS (yields_value (by kernel_rfl) (by intro w0 hw0; have hw1 := hw0; simp only [SBf] at hw1; first | (go_simp; done) | (go_simp; rfl))) ?_; simp only [Act.put, List.getElem_toArray, List.getElem_cons_succ, List.getElem_cons_zero, List.setIfInBounds_toArray, List.set_cons_succ, List.set_cons_zero]
      refine wpAnyK_take' (i := 1) _ rfl (by kernel_rfl) (fun _ _ _ h => hQp _ _ _ _ h) hS (yields_value (by kernel_rfl) (by intro w0 hw0; have hw1 := hw0; simp only [SBf] at hw1; first | (go_simp; done) | (go_simp; rfl))) ?_; simp only [Act.put, List.getElem_toArray, List.getElem_cons_succ, List.getElem_cons_zero, List.setIfInBounds_toArray, List.set_cons_succ, List.set_cons_zero]
      refine wpAnyK_take' (i := 2) _ rfl (by kernel_rfl) (fun _ _ _ h => hQp _ _ _ _ h) hS (yields_value (by kernel_rfl) (by intro w0 hw0; have hw1 := hw0; simp only [SBf] at hw1; first | (go_simp; done) | (go_simp; rfl))) ?_; simp only [Act.put, List.getElem_toArray, List.getElem_cons_succ, List.getElem_cons_zero, List.setIfInBounds_toArray, List.set_cons_succ, List.set_cons_zero]
      clear hS
      refine wpAnyK_call (i := 3) rfl (by kernel_rfl) (by kernel_rfl) fun K3 hK3 => ?_
      go_simp
      go_wp2_with fail
      obtain ⟨G, FR⟩ := set9 hZa (fun b => b ≠ w.heap.size + 1 + 1) w.heap.size (fun h => h rfl) (by omega) (.int .i64 0) (.int .i64 0) (.slice none 0 0) (.slice none 0 0) (.int .i64 0) (.slice none 0 0) (.slice none 0 0) (.int .i64 0) (.slice none 0 0)
      have hS : _ := (FR.blk hFa (.inl (by omega))).cells.1 0
      refine hK3 _ _ (fun _ => hS) ?_
      clear hK3
      refine wpAnyK_take' (i := 4) _ rfl (by kernel_rfl) (fun _ _ _ h => hQp _ _ _ _ h) hS (yields_value (by kernel_rfl) (by intro w0 hw0; have hw1 := hw0; simp only [SBf] at hw1; first | (go_simp; done) | (go_simp; rfl))) ?_; simp only [Act.put, List.getElem_toArray, List.getElem_cons_succ, List.getElem_cons_zero, List.setIfInBounds_toArray, List.set_cons_succ, List.set_cons_zero]
      refine wpAnyK_take' (i := 5) _ rfl (by kernel_rfl) (fun _ _ _ h => hQp _ _ _ _ h) hS (yields_value (by kernel_rfl) (by intro w0 hw0; have hw1 := hw0; simp only [SBf] at hw1; first | (go_simp; done) | (go_simp; rfl))) ?_; simp only [Act.put, List.getElem_toArray, List.getElem_cons_succ, List.getElem_cons_zero, List.setIfInBounds_toArray, List.set_cons_succ, List.set_cons_zero]
      refine wpAnyK_done (by kernel_rfl) ?_ _
      refine hR _ _ ?_
      iterate 3 apply Exists.intro
      refine ⟨?_, ⟨G, hBa.trans FR.below⟩⟩
      simp only [puts, Act.put, List.setIfInBounds_toArray, List.set_cons_succ, List.set_cons_zero]
      rfl
    rintro a' w8 ⟨v18, v19, v20, rfl, hb8⟩
    simp only [puts, Act.put, List.setIfInBounds_toArray, List.set_cons_succ, List.set_cons_zero]
    obtain ⟨hZ9, hB9⟩ := hb8
    obtain ⟨g1, g2⟩ := hZ9.cells
    go_wp2_with ((with_reducible refine bodyPost_ret (v := .tuple #[.agg #[.int .i64 0, .int .i64 0, .slice none 0 0, .slice none 0 0, .int .i64 0, .slice none 0 0, .slice none 0 0, .int .i64 0, .slice none 0 0], .slice none 0 0, .int .i64 k1]) ?ra1 ?rb1 ?rc1); go_must (case ra1 => simp [results, Try.results9, go_sem, g1]); go_must (case rb1 => rfl); go_must (case rc1 => exact ⟨ctlOut.bad HE.out, hB9⟩))
  subst h1
  obtain ⟨ht0, ht8⟩ := HTR.out (by first | trivial | rfl)

  have hIX := fun (w' : World) (hb : Below w.heap.size w w') => indexI_c cws num okc pa pc w' (hw.below hb)
  have HIX := Lib.hid hIX
  clear hIX HE1 HTR hC1 hT1 hZ1 hB1
  obtain ⟨f1, f2⟩ := hF2.cells
  obtain ⟨c1, c2⟩ := hC2.cells
  go_wp2_with fail
  generalize w1.alloc (.cells #[.int .i64 0, .int .i64 k2] 66) = w2 at *
  generalize w1.heap.size = fb at *
  refine (HIX.out w2 hB2).mono ?_
  rintro e w3 ⟨rfl, rfl⟩
  clear HIX
  cases hix : idxIn num cws
  case none =>
    have HE := Lib.hid (HE2.out (by first | trivial | rfl) hix)
    have hii : idxI num cws = -1 := by unfold idxI; rw [hix]
    rw [hii]
    clear HE2 HE3 hix hii
    obtain ⟨z1, z2⟩ := hZ2.cells
    have hzl := hZ2.lt
    obtain ⟨G, FR⟩ := set9 hZ2 (fun b => b ≠ w.heap.size + 1 + 1) w.heap.size (fun h => h rfl) (by omega) (.int .i64 0) (.int .i64 0) (.slice none 0 0) (.slice none 0 0) (.int .i64 0) (.slice none 0 0) (.slice none 0 0) (.int .i64 0) (.slice none 0 0)
    obtain ⟨g1, g2⟩ := G.cells
    have hB9 := hB2.trans FR.below
    clear FR
    go_wp2_with ((with_reducible refine bodyPost_ret (v := .tuple #[.agg #[.int .i64 0, .int .i64 0, .slice none 0 0, .slice none 0 0, .int .i64 0, .slice none 0 0, .slice none 0 0, .int .i64 0, .slice none 0 0], .slice none 0 0, .int .i64 6]) ?ra2 ?rb2 ?rc2); go_must (case ra2 => simp [results, Try.results9, go_sem, g1]); go_must (case rb2 => rfl); go_must (case rc2 => exact ⟨ctlOut.bad HE.out, hB9⟩))
  case some i =>
    have HE := Lib.hid (HE3.out (by first | trivial | rfl) i hix)
    have hii : idxI num cws = (i : Int) := by unfold idxI; rw [hix]
    have hil : i < cws.length := (List.getElem?_eq_some_iff.1 (idxIn_some hix)).1
    rw [hii]
    have i1 : ¬ (i : Int) < 0 := by omega
    have i2 : IntKind.i64.wrap ((i : Int) + 1) = (i : Int) + 1 := IntWalk.i64_in _ (by omega)
    clear HE2 HE3 hix hii
    obtain ⟨s1, s2, s3, -⟩ := hsm
    dsimp only at s1 s2 s3
    go_wp2_with fail
    refine (own_c ⟨cst, cnow, cnext, cnum, cws⟩ _ okc w3 (ctlS.below hH hB2) s1 s2 (by show cws.length ≤ _; omega)).mono ?_
    rintro e w4 ⟨m0, m1, m2, y0, y1, y2, va, vc, M, rfl, hM, hvM, hN4, hX4, hV4, hb4⟩
    dsimp only at hN4 hX4 hV4
    obtain ⟨lm0, lm1, lm2⟩ := planC.st (P := Try.prog) hN4
    obtain ⟨ly0, ly1, ly2⟩ := planC.st (P := Try.prog) hX4
    obtain ⟨om0, om1, om2⟩ := planC.one hN4
    obtain ⟨oy0, oy1, oy2⟩ := planC.one hX4
    have hB4 := hB2.trans (hb4.mono hB2.size)
    have hT4 := hT2.under hb4
    have hZ4 := hZ2.under hb4
    have hz4 := hb4.size
    have hz2 := hZ2.lt
    clear hb4 hC2 hF2 f1 f2 c1 c2 hT2 hZ2
    have hbx : Below w4.heap.size w4 (w4.alloc (.cells #[.int .i64 cst, m0, m1, m2, y0, y1, y2, .int .i64 cnum, .slice va cws.length vc] 32)) := by (repeat' (first | with_reducible exact Below.refl _ _ | with_reducible assumption | with_reducible refine Below.drew ?_ | with_reducible refine Below_drewN ?_ _ | with_reducible refine Below.alloc ?_ ?_ _ | with_reducible refine Below.setCell ?_ ?_ _ | omega | (simp; done) | (simp; omega)))
    have hD5 : blockIs (w4.alloc (.cells #[.int .i64 cst, m0, m1, m2, y0, y1, y2, .int .i64 cnum, .slice va cws.length vc] 32)) w4.heap.size 32 #[.int .i64 cst, m0, m1, m2, y0, y1, y2, .int .i64 cnum, .slice va cws.length vc] := blockIs.new rfl
    have hvD : ∀ k, blk va = some k → k < w4.heap.size := fun k hk => (hV4.lt k hk).2
    go_wp2_with fail
    have hT5 := hT4.under hbx
    have hZ5 := hZ4.under hbx
    have hN5 : planC _ (fun b => M ≤ b ∧ b < w4.heap.size) m0 m1 m2 cnow := planS.below (planS.anyOk hN4 fun b hb h => ⟨h, hb⟩) hbx
    have hX5 : planC _ (fun b => M ≤ b ∧ b < w4.heap.size) y0 y1 y2 cnext := planS.below (planS.anyOk hX4 fun b hb h => ⟨h, hb⟩) hbx
    have hV5 := hV4.below hbx
    have hB5 := hB4.trans (hbx.mono hB4.size)
    have hs5 := hbx.size
    clear hbx hT4 hZ4 hN4 hX4 hV4 hB4
    generalize w4.alloc (.cells #[.int .i64 cst, m0, m1, m2, y0, y1, y2, .int .i64 cnum, .slice va cws.length vc] 32) = w5 at *
    generalize w4.heap.size = D at *
    have hel : (cws.eraseIdx i).length = cws.length - 1 := List.length_eraseIdx_of_lt hil
    have hV5' := (hV5.ints_any (ok' := fun b => b < w5.heap.size ∧ blk va ≠ some b) (fun k hk h => h.2 hk) (fun b h => h.1)).base (by omega : w.heap.size ≤ w3.heap.size)
    refine (delete1_c (fun b => b < w5.heap.size ∧ blk va ≠ some b) w.heap.size cws i va vc cws.length w5 hV5' hB5.size hil (by omega)).mono ?_
    rintro e w6 ⟨rfl, hV6, hF6⟩
    rw [← hel] at hV6 ⊢
    generalize cws.eraseIdx i = es at *
    have hle : es.length ≤ cws.length := by omega
    clear hel hil i1 i2
    have hvt : ∀ {b : Nat} {tt : TypeId} {cs : Array Value}, blockIs w5 b tt cs → 3 ≠ tt → blk va ≠ some b := fun h hne => hV5.noType h hne
    have hD6 := hF6.blk hD5 (.inl (hvt hD5 (by decide)))
    have hT6 := hF6.blk hT5 (.inl (hvt hT5 (by decide)))
    have hZ6 := hF6.blk hZ5 (.inl (hvt hZ5 (by decide)))
    have hKv : ∀ b, M ≤ b ∧ b < D → blk va ≠ some b := fun b hb e => by have := hvM b e; omega
    have hN6 := hF6.rep' hN5 (fun b hb => .inl (hKv b hb))
    have hX6 := hF6.rep' hX5 (fun b hb => .inl (hKv b hb))
    have hB6 := hB5.trans hF6.below
    have hs6 := hF6.size
    clear hF6 hvt hD5 hT5 hZ5 hN5 hX5 hV5 hV5' hB5
    have hdl := hD6.lt
    have hFx : Frm (fun b => b ≠ D) w.heap.size w6 (w6.setCell ⟨D, 8, none⟩ (.slice va es.length vc)) := Frm.set (a := ⟨D, 8, none⟩) (fun h => h rfl) (by show w.heap.size ≤ D; omega) _
    have hD7 := hD6.set 8 (.slice va es.length vc)
    simp only [List.setIfInBounds_toArray, List.set_cons_succ, List.set_cons_zero] at hD7
    have hT7 := hFx.blk hT6 (.inl (by omega))
    have hZ7 := hFx.blk hZ6 (.inl (by omega))
    have hN7 := hFx.rep' hN6 (fun b hb => .inl (by have := hb.2; omega))
    have hX7 := hFx.rep' hX6 (fun b hb => .inl (by have := hb.2; omega))
    have hV7 := (hV6.ints_any (ok' := fun _ => False) (fun _ _ h => h) (fun _ h => h.elim)).setAt (a := ⟨D, 8, none⟩) (hV6.noType hD6 (by decide)) (fun h => h) (.slice va es.length vc)
    have hB7 := hB6.trans hFx.below
    have hs7 : (w6.setCell ⟨D, 8, none⟩ (.slice va es.length vc)).heap.size = w6.heap.size := by simp
    obtain ⟨c1, c2⟩ := hD6.cells
    obtain ⟨t1, t2⟩ := hT6.cells
    go_wp2_with fail
    clear c1 c2 t1 t2 hD6 hT6 hZ6 hN6 hX6 hV6 hB6 hFx lm0 lm1 lm2 ly0 ly1 ly2 om0 om1 om2 oy0 oy1 oy2
    generalize w6.setCell ⟨D, 8, none⟩ (.slice va es.length vc) = w7 at *
    have hbT := topoKept hT rfl hB7
    have hV7' := hV7.ints_any (ok' := fun b => b < w7.heap.size ∧ blk va ≠ some b) (fun k hk h => h.2 hk) (fun b h => h.1)
    refine (steps_c ⟨cst, cnow, cnext, cnum, es⟩ t _ (fun b => b < w7.heap.size ∧ blk va ≠ some b) (fun b => M ≤ b ∧ b < D) w.heap.size m0 m1 m2 y0 y1 y2 va vc w7 (fun b hb => ⟨by have := hb.2; omega, hKv b hb⟩) hN7 hX7 hV7' hst hnu hbT ht0 ht8 s2 hB7.size (by show es.length ≤ _; omega)).mono ?_
    rintro e w8 ⟨p0, p1, p2, q0, q1, q2, ua, uc, oa, oc, rfl, hN8, hX8, hU8, hks, hkn, hO8, hF8⟩
    have hvt : ∀ {b : Nat} {tt : TypeId} {cs : Array Value}, blockIs w7 b tt cs → 3 ≠ tt → blk va ≠ some b := fun h hne => hV7.noType h hne
    have hD8 := hF8.blk hD7 (.inl ⟨hD7.lt, hvt hD7 (by decide)⟩)
    have hZ8 := hF8.blk hZ7 (.inl ⟨hZ7.lt, hvt hZ7 (by decide)⟩)
    have hB8 := hB7.trans hF8.below
    have hs8 := hF8.size
    clear hN7 hX7 hV7 hV7' hD7 hZ7 hT7 hF8 hvt hB7 hbT
    generalize stepsOf ⟨cst, cnow, cnext, cnum, es⟩ t = sr at *
    obtain ⟨⟨st2, now2, next2, num2, ws2⟩, sl⟩ := sr
    dsimp only at *
    obtain ⟨lp0, lp1, lp2⟩ := planC.st (P := Try.prog) hN8
    obtain ⟨lq0, lq1, lq2⟩ := planC.st (P := Try.prog) hX8
    obtain ⟨op0, op1, op2⟩ := planC.one hN8
    obtain ⟨oq0, oq1, oq2⟩ := planC.one hX8
    have hdl8 := hD8.lt
    have hzl8 := hZ8.lt
    obtain ⟨G1, FR1⟩ := set9 hD8 (fun b => b ≠ D) w.heap.size (fun h => h rfl) (by omega) (.int .i64 st2) p0 p1 p2 q0 q1 q2 (.int .i64 num2) (.slice ua ws2.length uc)
    have hZ9 := FR1.blk hZ8 (.inl (by omega))
    obtain ⟨G2, FR2⟩ := set9 hZ9 (fun b => b ≠ w.heap.size + 1 + 1) w.heap.size (fun h => h rfl) (by omega) (.int .i64 st2) p0 p1 p2 q0 q1 q2 (.int .i64 num2) (.slice ua ws2.length uc)
    obtain ⟨g1, g2⟩ := G2.cells
    obtain ⟨c1, c2⟩ := hD8.cells
    obtain ⟨z1, z2⟩ := hZ8.cells
    have hr1 : planC _ (fun b => M ≤ b ∧ b < D) p0 p1 p2 now2 := FR2.rep' (FR1.rep' hN8 (fun b hb => .inl (by have := hb.2; omega))) (fun b hb => .inl (by have := hb.1; omega))
    have hr2 : planC _ (fun b => M ≤ b ∧ b < D) q0 q1 q2 next2 := FR2.rep' (FR1.rep' hX8 (fun b hb => .inl (by have := hb.2; omega))) (fun b hb => .inl (by have := hb.1; omega))
    have hu0 : rowRep intS (fun b => w.heap.size ≤ b ∧ b ≠ D ∧ b ≠ w.heap.size + 1 + 1) w8 ua uc ws2 := (hU8.ints_any (ok' := fun _ => False) (fun _ _ h => h) (fun _ h => h.elim)).row (fun _ h => h.elim) (fun k hk => ⟨(hU8.lt k hk).1, fun e => hU8.noType hD8 (by decide) (e ▸ hk), fun e => hU8.noType hZ8 (by decide) (e ▸ hk)⟩)
    have hu1 := FR2.row' (FR1.row' hu0 (fun b hb => .inl hb.2.1)) (fun b hb => .inl hb.2.2)
    have ho1 := FR2.row' (FR1.row' hO8 (fun b hb => .inl (by omega))) (fun b hb => .inl (by omega))
    have hB9 := (hB8.trans FR1.below).trans FR2.below
    have hMN : w.heap.size ≤ M := by omega
    have HOUT := Lib.hid (And.intro (ctlOut.ok (N := w.heap.size) HE.out hks hkn hr1 hr2 hu1 ho1 (fun b hb => Nat.le_trans hMN hb.1) (fun b hb => Nat.le_trans hMN hb.1) (fun b hb => hb.1) (fun b hb => Nat.le_trans (by omega) hb)) hB9)
    clear hr1 hr2 hu0 hu1 ho1 hB9 FR1 FR2 hN8 hX8 hU8 hO8 hB8 hks hkn
    go_wp2_with ((with_reducible refine bodyPost_ret (v := .tuple #[.agg #[.int .i64 st2, p0, p1, p2, q0, q1, q2, .int .i64 num2, .slice ua ws2.length uc], .slice oa sl.length oc, .int .i64 0]) ?ra3 ?rb3 ?rc3); go_must (case ra3 => simp [results, Try.results9, go_sem, g1]); go_must (case rb3 => rfl); go_must (case rc3 => exact HOUT.out))

end Go.Proofs.Ytagldmdeohenjaa

/-
  The walk of the document's Find.
-/
set_option linter.unusedSimpArgs false
set_option linter.unusedVariables false
namespace Go.St
open Go.RowKit
/-- a block of one datum as a row -/
theorem one_row {α : Type} {sh : Shape α} {ok : Nat → Prop} {w : World} {b : Nat} {e : TypeId} {cs : List Value} {x : α} (h : blockIs w b e cs.toArray) (hx : sh.rep ok w cs x) (hok : ok b) : rowRep sh ok w (some ⟨b, 0, none⟩) 1 [x] := by
  refine ⟨Nat.le_refl _, by decide, .inr ⟨b, 0, rfl, hok, h.lt, fun i y hy => ?_⟩⟩
  match i, hy with
  | 0, hy =>
    obtain rfl : x = y := by simpa using hy
    refine ⟨_, hx, fun j c hc => ?_⟩
    simp only [Nat.zero_mul, Nat.zero_add]
    rw [h.cells.1 j]
    simpa using hc
  | i + 1, hy => simp at hy
theorem better_no {t : Topo} {f : Flow} {b p : List Int} (h : servesB t f p = false) : better t f b p = b := by unfold better; rw [if_neg (by simp [h])]
theorem better_first {t : Topo} {f : Flow} {p : List Int} (h : servesB t f p = true) : better t f [] p = p := by unfold better; rw [if_pos ⟨h, .inl rfl⟩]
theorem better_less {t : Topo} {f : Flow} {b p : List Int} (h : servesB t f p = true) (h2 : (lengthOf t p).1 < (lengthOf t b).1) : better t f b p = p := by unfold better; rw [if_pos ⟨h, .inr h2⟩]
theorem better_not {t : Topo} {f : Flow} {b p : List Int} (hb : b ≠ []) (h2 : ¬ (lengthOf t p).1 < (lengthOf t b).1) : better t f b p = b := by unfold better; rw [if_neg (by simp [hb, h2])]
theorem rowRep.some {α : Type} {s : Shape α} {ok : Nat → Prop} {w : World} {ao : Option Addr} {cap : Nat} {xs : List α} (h : rowRep s ok w ao cap xs) (hx : xs ≠ []) : ∃ b o, ao = some ⟨b, o, none⟩ := by
  obtain ⟨_, _, h | ⟨b, off, rfl, _⟩⟩ := h
  · exact absurd h hx
  · exact ⟨b, off, rfl⟩
end Go.St
namespace Go.Proofs.Ytagldmdeohenjaa
open Go.RowKit Go.St

set_option maxRecDepth 100000 in
set_option maxHeartbeats 16000000 in
theorem refFind_s (t : Topo) (f : Flow) (cs ds : List Value) (ok ok' : Nat → Prop) (w : World) (h : topoS.rep ok w cs t) (hf : flowS.rep ok' w ds f) :
    Calls Try.prog 43 #[.agg cs.toArray, .agg ds.toArray] w fun e w' => ∃ ao cap, e = .returned (.tuple #[.slice ao (findOf t f).1.length cap, .int .i64 (findOf t f).2]) ∧ rowRep intS (fun b => w.heap.size ≤ b) w' ao cap (findOf t f).1 ∧ Below w.heap.size w w' := by
  have hT := h
  obtain ⟨la, lc, rfl, hn, hr⟩ := h
  have hF := hf
  obtain ⟨va, vc, na, nc, rfl, hs, hd, hv, hno⟩ := id hf
  have hnil := fun (w : World) (a : Option Addr) (l c : Nat) => run_eql_nil (P := Try.prog) 26 3 Try.underlying26 w a l c
  generalize hFO : findOf t f = R at *
  have hsp := Lib.hid hFO
  clear hFO
  go_enter Try.func43, Try.ntmps43
  go_wp2_with fail
  refine (refWrong_c t _ ok _ (topoS.below hT (by (repeat' (first | with_reducible exact Below.refl _ _ | with_reducible assumption | with_reducible refine Below.drew ?_ | with_reducible refine Below_drewN ?_ _ | with_reducible refine Below.alloc ?_ ?_ _ | with_reducible refine Below.setCell ?_ ?_ _ | omega | (simp; done) | (simp; omega)))))).mono ?_
  rintro e w1 ⟨rfl, hb1⟩
  have hB1 : Below w.heap.size w w1 := Below.trans (by (repeat' (first | with_reducible exact Below.refl _ _ | with_reducible assumption | with_reducible refine Below.drew ?_ | with_reducible refine Below_drewN ?_ _ | with_reducible refine Below.alloc ?_ ?_ _ | with_reducible refine Below.setCell ?_ ?_ _ | omega | (simp; done) | (simp; omega)))) (hb1.mono (by first | omega | (simp; done) | (simp; omega)))
  have hT1 : blockIs w1 w.heap.size 24 #[.int .i64 t.n, .slice la t.links.length lc] := ((blockIs.new rfl).alloc _).under hb1
  have hF1 : blockIs w1 (w.heap.size + 1) 64 #[.int .i64 f.src, .int .i64 f.dst, .slice va f.via.length vc, .slice na f.no.length nc] := (blockIs.new (by simp)).under hb1
  clear hb1
  obtain ⟨t1, t2⟩ := hT1.cells
  obtain ⟨f1, f2⟩ := hF1.cells
  have hz1 := hF1.lt
  have hz0 := hT1.lt
  by_cases h1 : (topoWrong t).1 = 0
  case neg =>
    have hR : R = ([], (topoWrong t).1) := by rw [← hsp.out]; unfold findOf; rw [if_pos h1]
    have HN := Lib.hid hR
    have h1' : ((topoWrong t).1 != 0) = true := by rw [bne_iff_ne]; exact h1
    clear h1 hR hsp
    generalize topoWrong t = we at *
    go_wp2
    go_quiet (fail)
    go_wp2
    refine bodyPost_ret (v := .tuple #[.slice none 0 0, .int .i64 we.1]) (by simp [results, Try.results43, go_sem]) rfl ⟨none, 0, by rw [HN.out]; rfl, by rw [HN.out]; exact rowRep.nil _ _ _ _, by (repeat' (first | with_reducible exact Below.refl _ _ | with_reducible assumption | with_reducible refine Below.drew ?_ | with_reducible refine Below_drewN ?_ _ | with_reducible refine Below.alloc ?_ ?_ _ | with_reducible refine Below.setCell ?_ ?_ _ | omega | (simp; done) | (simp; omega)))⟩
  have hFW := fun w' (hw' : rowRep flowS (fun _ => True) w' (some ⟨w1.heap.size + 1, 0, none⟩) 1 [f]) => refFlowsWrong_c [f] t.n (fun _ => True) (some ⟨w1.heap.size + 1, 0, none⟩) 1 w' hw'
  have h1s := h1
  rw [h1]
  clear h1
  generalize hwe : topoWrong t = we at *
  have hW2 : blockIs ((w1.alloc (.cells #[.int .i64 0, .int .i64 we.2] 66)).alloc (.cells #[.int .i64 f.src, .int .i64 f.dst, .slice va f.via.length vc, .slice na f.no.length nc] 64)) (w1.heap.size + 1) 64 #[.int .i64 f.src, .int .i64 f.dst, .slice va f.via.length vc, .slice na f.no.length nc] := blockIs.new (by simp)
  have hB2 : Below w.heap.size w ((w1.alloc (.cells #[.int .i64 0, .int .i64 we.2] 66)).alloc (.cells #[.int .i64 f.src, .int .i64 f.dst, .slice va f.via.length vc, .slice na f.no.length nc] 64)) := by (repeat' (first | with_reducible exact Below.refl _ _ | with_reducible assumption | with_reducible refine Below.drew ?_ | with_reducible refine Below_drewN ?_ _ | with_reducible refine Below.alloc ?_ ?_ _ | with_reducible refine Below.setCell ?_ ?_ _ | omega | (simp; done) | (simp; omega)))
  have hrow : rowRep flowS (fun _ => True) ((w1.alloc (.cells #[.int .i64 0, .int .i64 we.2] 66)).alloc (.cells #[.int .i64 f.src, .int .i64 f.dst, .slice va f.via.length vc, .slice na f.no.length nc] 64)) (some ⟨w1.heap.size + 1, 0, none⟩) 1 [f] :=
    one_row (cs := [.int .i64 f.src, .int .i64 f.dst, .slice va f.via.length vc, .slice na f.no.length nc]) hW2 (flowS.mono (flowS.below hF hB2) fun b _ _ => ⟨trivial, rfl⟩) trivial
  have hT2 := (hT1.alloc (.cells #[.int .i64 0, .int .i64 we.2] 66)).alloc (.cells #[.int .i64 f.src, .int .i64 f.dst, .slice va f.via.length vc, .slice na f.no.length nc] 64)
  have hF2 := (hF1.alloc (.cells #[.int .i64 0, .int .i64 we.2] 66)).alloc (.cells #[.int .i64 f.src, .int .i64 f.dst, .slice va f.via.length vc, .slice na f.no.length nc] 64)
  go_wp2_with fail
  generalize (w1.alloc (.cells #[.int .i64 0, .int .i64 we.2] 66)).alloc (.cells #[.int .i64 f.src, .int .i64 f.dst, .slice va f.via.length vc, .slice na f.no.length nc] 64) = w2 at *
  clear t1 t2 f1 f2
  refine (hFW _ hrow).mono ?_
  rintro e w3 ⟨rfl, hb3⟩
  have hB3 : Below w.heap.size w w3 := hB2.trans (hb3.mono hB2.size)
  have hT3 := hT2.under hb3
  have hF3 := hF2.under hb3
  clear hb3 hrow hW2 hT2 hF2 hFW
  obtain ⟨t1, t2⟩ := hT3.cells
  obtain ⟨f1, f2⟩ := hF3.cells
  have hz31 := hF3.lt
  have hz30 := hT3.lt
  by_cases h2 : (flowsWrong [f] t.n).1 = 0
  case neg =>
    have hR : R = ([], (flowsWrong [f] t.n).1) := by rw [← hsp.out]; unfold findOf; rw [if_neg (by rw [hwe]; simp [h1s]), if_pos h2]
    have HN := Lib.hid hR
    have h2' : ((flowsWrong [f] t.n).1 != 0) = true := by rw [bne_iff_ne]; exact h2
    clear h2 hR hsp
    generalize flowsWrong [f] t.n = fe at *
    go_wp2
    go_quiet (fail)
    go_wp2
    refine bodyPost_ret (v := .tuple #[.slice none 0 0, .int .i64 fe.1]) (by simp [results, Try.results43, go_sem]) rfl ⟨none, 0, by rw [HN.out]; rfl, by rw [HN.out]; exact rowRep.nil _ _ _ _, by (repeat' (first | with_reducible exact Below.refl _ _ | with_reducible assumption | with_reducible refine Below.drew ?_ | with_reducible refine Below_drewN ?_ _ | with_reducible refine Below.alloc ?_ ?_ _ | with_reducible refine Below.setCell ?_ ?_ _ | omega | (simp; done) | (simp; omega)))⟩
  have ht : (topoWrong t).1 = 0 := by rw [hwe]; exact h1s
  have htr := (topo_right ht).1
  have hfo := flowBad_zero (flows1 ▸ h2)
  have HB := fun b => Lib.hid (fun h => (find_best (b := b) ht h2 h).symm.trans hsp.out)
  rw [h2]
  clear h2 h1s hsp ht hwe
  generalize flowsWrong [f] t.n = fe at *
  have hs0 := hfo.s0
  have hs1 := hfo.s1
  clear hfo
  have hpI : rowRep intS (fun b => w3.heap.size + 1 ≤ b) ((w3.alloc (.cells #[.int .i64 0, .int .i64 fe.2] 66)).alloc (.cells #[.int .i64 f.src] 3)) (some ⟨w3.heap.size + 1, 0, none⟩) 1 [f.src] := int_row (xs := [f.src]) (blockIs.new (by simp)) (by simpa using hs) (Nat.le_refl _) (by simp [maxLen])
  have hB4 : Below w.heap.size w ((w3.alloc (.cells #[.int .i64 0, .int .i64 fe.2] 66)).alloc (.cells #[.int .i64 f.src] 3)) := by have := hB3.size; (repeat' (first | with_reducible exact Below.refl _ _ | with_reducible assumption | with_reducible refine Below.drew ?_ | with_reducible refine Below_drewN ?_ _ | with_reducible refine Below.alloc ?_ ?_ _ | with_reducible refine Below.setCell ?_ ?_ _ | omega | (simp; done) | (simp; omega)))
  have hT4 := (hT3.alloc (.cells #[.int .i64 0, .int .i64 fe.2] 66)).alloc (.cells #[.int .i64 f.src] 3)
  have hF4 := (hF3.alloc (.cells #[.int .i64 0, .int .i64 fe.2] 66)).alloc (.cells #[.int .i64 f.src] 3)
  have hz4 : w3.heap.size + 1 ≤ ((w3.alloc (.cells #[.int .i64 0, .int .i64 fe.2] 66)).alloc (.cells #[.int .i64 f.src] 3)).heap.size := by simp
  go_wp2_with fail
  generalize (w3.alloc (.cells #[.int .i64 0, .int .i64 fe.2] 66)).alloc (.cells #[.int .i64 f.src] 3) = w4 at *
  clear t1 t2 f1 f2 hT3 hF3
  refine (all_c t _ ok htr.2.1 f.dst hd 8 [f.src] w4 _ 1 _ (topoS.below hT hB4) hpI hz4 (by simp) (by simp) (by intro s hs'; simp at hs'; rw [hs']; exact ⟨hs0, hs1⟩) (by simp)).mono ?_
  rintro e w5 ⟨la5, lc5, rfl, hr5, hb5⟩
  have hB5 : Below w.heap.size w w5 := hB4.trans (hb5.mono hB4.size)
  have hT5 := hT4.under hb5
  have hF5 := hF4.under hb5
  clear hb5 hpI hT4 hF4
  have HNE := Lib.hid (fun p (hp : p ∈ allP t f.dst 8 [f.src]) => all_ne hp)
  have HBF := Lib.hid (fun j p q (hp : (allP t f.dst 8 [f.src])[j]? = some p) (hq : q ∈ (allP t f.dst 8 [f.src]).take j) => all_before hp hq)
  have hlL := hr5.len_le
  generalize allP t f.dst 8 [f.src] = L at *
  have hz5 := hB5.size
  go_wp2
  go_loopw [8, 10, 11, 12, 13, 14, 40] (fun best _ _ _ _ _ idx wr => ∃ (j : Nat) (b : List Int) (ab : Option Addr) (cb : Nat), best = .slice ab b.length cb ∧ idx = .int .i64 j ∧ j ≤ L.length ∧ Hid (BestR t f (L.take j) b) ∧ (b = [] → ab = none ∧ cb = 0) ∧ rowRep intS (fun b => w.heap.size ≤ b) wr ab cb b ∧ Below w5.heap.size w5 wr) (fun _ _ _ _ _ _ idx _ => L.length - (intOf idx).toNat)
  case atStart => exact ⟨0, [], none, 0, rfl, rfl, Nat.zero_le _, Lib.hid (BestR.start t f L), fun _ => ⟨rfl, rfl⟩, rowRep.nil _ _ _ _, by (repeat' (first | with_reducible exact Below.refl _ _ | with_reducible assumption | with_reducible refine Below.drew ?_ | with_reducible refine Below_drewN ?_ _ | with_reducible refine Below.alloc ?_ ?_ _ | with_reducible refine Below.setCell ?_ ?_ _ | omega | (simp; done) | (simp; omega)))⟩
  case round =>
    obtain ⟨j, b, ab, cb, rfl, rfl, hj, hbest, hbn, hbr, hb⟩ := hrel
    have hT6 := hT5.under hb
    have hF6 := hF5.under hb
    have hB6 : Below w.heap.size w wr := hB5.trans (hb.mono hz5)
    have hz56 := hb.size
    obtain ⟨t1, t2⟩ := hT6.cells
    obtain ⟨f1, f2⟩ := hF6.cells
    by_cases hlt : j < L.length
    case neg =>
      have hbe := hbest.out
      rw [List.take_of_length_le (by omega)] at hbe
      have HN := Lib.hid ((HB b).out hbe)
      have d1 : ¬ (j : Int) < (L.length : Int) := by omega
      clear hbest hbe HB HNE HBF
      by_cases hb0 : b = []
      · subst hb0
        obtain ⟨rfl, rfl⟩ := hbn rfl
        clear hbn
        go_wp2
        refine bodyPost_ret (v := .tuple #[.slice none 0 0, .int .i64 9]) (by simp [results, Try.results43, go_sem]) rfl ⟨none, 0, by rw [← HN.out]; rfl, by rw [← HN.out]; exact rowRep.nil _ _ _ _, by (repeat' (first | with_reducible exact Below.refl _ _ | with_reducible assumption | with_reducible refine Below.drew ?_ | with_reducible refine Below_drewN ?_ _ | with_reducible refine Below.alloc ?_ ?_ _ | with_reducible refine Below.setCell ?_ ?_ _ | omega | (simp; done) | (simp; omega)))⟩
      · obtain ⟨g, o, rfl⟩ := hbr.some hb0
        have HN' := HN.out
        rw [if_neg hb0] at HN'
        have HN2 := Lib.hid HN'
        clear HN HN' hbn hb0
        go_wp2
        refine bodyPost_ret (v := .tuple #[.slice (some ⟨g, o, none⟩) b.length cb, .int .i64 0]) (by simp [results, Try.results43, go_sem]) rfl ⟨_, _, by rw [← HN2.out], by rw [← HN2.out]; exact hbr.below (by (repeat' (first | with_reducible exact Below.refl _ _ | with_reducible assumption | with_reducible refine Below.drew ?_ | with_reducible refine Below_drewN ?_ _ | with_reducible refine Below.alloc ?_ ?_ _ | with_reducible refine Below.setCell ?_ ?_ _ | omega | (simp; done) | (simp; omega)))), by (repeat' (first | with_reducible exact Below.refl _ _ | with_reducible assumption | with_reducible refine Below.drew ?_ | with_reducible refine Below_drewN ?_ _ | with_reducible refine Below.alloc ?_ ?_ _ | with_reducible refine Below.setCell ?_ ?_ _ | omega | (simp; done) | (simp; omega)))⟩
    obtain ⟨p, hp⟩ : ∃ p, L[j]? = some p := ⟨_, List.getElem?_eq_getElem hlt⟩
    have htk : L.take (j + 1) = L.take j ++ [p] := by
      obtain ⟨h', rfl⟩ := List.getElem?_eq_some_iff.1 hp
      exact List.take_succ_eq_append_getElem h'
    have hst := hbest.out.step (p := p) (HNE.out p (List.mem_of_getElem? hp)) (fun q hq => HBF.out j p q hp hq)
    rw [← htk] at hst
    have HST := Lib.hid hst
    obtain ⟨lb, lo, rfl, _, hlb, cs1, ⟨pa, pc, rfl, hprow⟩, hce⟩ := (hr5.below hb).get hp
    have e0 := hce 0 _ rfl
    simp only [sliceS, Nat.add_zero, Nat.mul_one] at e0
    have d1 : (j : Int) < (L.length : Int) := by omega
    have hpne := HNE.out p (List.mem_of_getElem? hp)
    clear hce hp htk hst hbest
    go_wp2_with fail
    refine (serves_c t f p _ _ ok ok' _ pa pc _ (topoS.below hT (hB6.trans (by (repeat' (first | with_reducible exact Below.refl _ _ | with_reducible assumption | with_reducible refine Below.drew ?_ | with_reducible refine Below_drewN ?_ _ | with_reducible refine Below.alloc ?_ ?_ _ | with_reducible refine Below.setCell ?_ ?_ _ | omega | (simp; done) | (simp; omega)))))) (flowS.below hF (hB6.trans (by (repeat' (first | with_reducible exact Below.refl _ _ | with_reducible assumption | with_reducible refine Below.drew ?_ | with_reducible refine Below_drewN ?_ _ | with_reducible refine Below.alloc ?_ ?_ _ | with_reducible refine Below.setCell ?_ ?_ _ | omega | (simp; done) | (simp; omega)))))) (hprow.below (by (repeat' (first | with_reducible exact Below.refl _ _ | with_reducible assumption | with_reducible refine Below.drew ?_ | with_reducible refine Below_drewN ?_ _ | with_reducible refine Below.alloc ?_ ?_ _ | with_reducible refine Below.setCell ?_ ?_ _ | omega | (simp; done) | (simp; omega)))))).mono ?_
    rintro e w7 ⟨rfl, hb7⟩
    have hb67 : Below wr.heap.size wr w7 := Below.trans (by (repeat' (first | with_reducible exact Below.refl _ _ | with_reducible assumption | with_reducible refine Below.drew ?_ | with_reducible refine Below_drewN ?_ _ | with_reducible refine Below.alloc ?_ ?_ _ | with_reducible refine Below.setCell ?_ ?_ _ | omega | (simp; done) | (simp; omega)))) (hb7.mono (by first | omega | (simp; done) | (simp; omega)))
    have hB7 : Below w.heap.size w w7 := hB6.trans (hb67.mono hB6.size)
    have hb57 : Below w5.heap.size w5 w7 := hb.trans (hb67.mono hz56)
    have hT7 := hT6.under hb67
    have hprow7 := hprow.below hb67
    have hbr7 := hbr.below hb67
    clear t1 t2 f1 f2 hb7 hb67 hprow hbr hb hB6 e0
    obtain ⟨t1, t2⟩ := hT7.cells
    have hz7 := hB7.size
    have hz57 := hb57.size
    cases m1 : servesB t f p with
    | false =>
      have HC := HST.out
      rw [better_no m1] at HC
      have HCC := Lib.hid HC
      clear HC HST m1
      go_wp2
      case roundEnd =>
        go_roundw
        case rel => exact ⟨j + 1, b, ab, cb, rfl, by go_num, by omega, HCC, hbn, hbr7, hb57⟩
        case measure => simp [intOf]; omega
    | true =>
    go_wp2_with fail
    refine (refLength_c t p _ ok _ pa pc _ (topoS.below hT (hB7.trans (by (repeat' (first | with_reducible exact Below.refl _ _ | with_reducible assumption | with_reducible refine Below.drew ?_ | with_reducible refine Below_drewN ?_ _ | with_reducible refine Below.alloc ?_ ?_ _ | with_reducible refine Below.setCell ?_ ?_ _ | omega | (simp; done) | (simp; omega)))))) (hprow7.below (by (repeat' (first | with_reducible exact Below.refl _ _ | with_reducible assumption | with_reducible refine Below.drew ?_ | with_reducible refine Below_drewN ?_ _ | with_reducible refine Below.alloc ?_ ?_ _ | with_reducible refine Below.setCell ?_ ?_ _ | omega | (simp; done) | (simp; omega)))))).mono ?_
    rintro e w8 ⟨rfl, hb8⟩
    have hb78 : Below w7.heap.size w7 w8 := Below.trans (by (repeat' (first | with_reducible exact Below.refl _ _ | with_reducible assumption | with_reducible refine Below.drew ?_ | with_reducible refine Below_drewN ?_ _ | with_reducible refine Below.alloc ?_ ?_ _ | with_reducible refine Below.setCell ?_ ?_ _ | omega | (simp; done) | (simp; omega)))) (hb8.mono (by first | omega | (simp; done) | (simp; omega)))
    have hB8 : Below w.heap.size w w8 := hB7.trans (hb78.mono hz7)
    have hb58 : Below w5.heap.size w5 w8 := hb57.trans (hb78.mono hz57)
    have hT8 := hT7.under hb78
    have hprow8 := hprow7.below hb78
    have hbr8 := hbr7.below hb78
    clear t1 t2 hb8 hb78 hprow7 hbr7 hb57 hB7
    obtain ⟨t1, t2⟩ := hT8.cells
    have hz8 := hB8.size
    have hz58 := hb58.size
    go_wp2_with fail
    refine (refLength_c t b _ ok _ ab cb _ (topoS.below hT (hB8.trans (by (repeat' (first | with_reducible exact Below.refl _ _ | with_reducible assumption | with_reducible refine Below.drew ?_ | with_reducible refine Below_drewN ?_ _ | with_reducible refine Below.alloc ?_ ?_ _ | with_reducible refine Below.setCell ?_ ?_ _ | omega | (simp; done) | (simp; omega)))))) (hbr8.below (by (repeat' (first | with_reducible exact Below.refl _ _ | with_reducible assumption | with_reducible refine Below.drew ?_ | with_reducible refine Below_drewN ?_ _ | with_reducible refine Below.alloc ?_ ?_ _ | with_reducible refine Below.setCell ?_ ?_ _ | omega | (simp; done) | (simp; omega)))))).mono ?_
    rintro e w9 ⟨rfl, hb9⟩
    have hb89 : Below w8.heap.size w8 w9 := Below.trans (by (repeat' (first | with_reducible exact Below.refl _ _ | with_reducible assumption | with_reducible refine Below.drew ?_ | with_reducible refine Below_drewN ?_ _ | with_reducible refine Below.alloc ?_ ?_ _ | with_reducible refine Below.setCell ?_ ?_ _ | omega | (simp; done) | (simp; omega)))) (hb9.mono (by first | omega | (simp; done) | (simp; omega)))
    have hb59 : Below w5.heap.size w5 w9 := hb58.trans (hb89.mono hz58)
    have hprow9 := hprow8.below hb89
    have hbr9 := hbr8.below hb89
    clear t1 t2 hb9 hb89 hprow8 hbr8 hb58 hB8
    have hpr9 : rowRep intS (fun b => w.heap.size ≤ b) w9 pa pc p := hprow9.mono (fun b _ hk => ⟨by have hk' : w3.heap.size + 1 ≤ b := hk; omega, rfl⟩)
    by_cases hb0 : b = []
    · subst hb0
      obtain ⟨rfl, rfl⟩ := hbn rfl
      have HC := HST.out
      rw [better_first m1] at HC
      have HCC := Lib.hid HC
      clear HC HST m1 hbn
      generalize lengthOf t p = lp at *
      generalize lengthOf t [] = lq at *
      go_wp2
      case roundEnd =>
        go_roundw
        case rel => exact ⟨j + 1, p, pa, pc, rfl, by go_num, by omega, HCC, fun h => absurd h hpne, hpr9, hb59⟩
        case measure => simp [intOf]; omega
    obtain ⟨g, o, rfl⟩ := hbr9.some hb0
    by_cases hl : (lengthOf t p).1 < (lengthOf t b).1
    · have HC := HST.out
      rw [better_less m1 hl] at HC
      have HCC := Lib.hid HC
      clear HC HST m1 hbn hb0
      generalize lengthOf t p = lp at *
      generalize lengthOf t b = lq at *
      go_wp2
      case roundEnd =>
        go_roundw
        case rel => exact ⟨j + 1, p, pa, pc, rfl, by go_num, by omega, HCC, fun h => absurd h hpne, hpr9, hb59⟩
        case measure => simp [intOf]; omega
    · have HC := HST.out
      rw [better_not hb0 hl] at HC
      have HCC := Lib.hid HC
      clear HC HST m1 hbn
      have HB0 := Lib.hid hb0
      clear hb0
      generalize lengthOf t p = lp at *
      generalize lengthOf t b = lq at *
      go_wp2
      case roundEnd =>
        go_roundw
        case rel => exact ⟨j + 1, b, _, cb, rfl, by go_num, by omega, HCC, fun h => absurd h HB0.out, hbr9, hb59⟩
        case measure => simp [intOf]; omega

end Go.Proofs.Ytagldmdeohenjaa
