/-
  The walk of the law ControlSettles.
-/
import Derived.Test.YtagldmdeohenjaaCtlV
import Derived.Test.YtagldmdeohenjaaDrpC
import Derived.Deep.Cut
import Derived.WalkKit
import Derived.WalkSpells
import Derived.WalkLawsBesides
import Derived.Lib.Hide
import Derived.Deep.LoopGhost
import Derived.Deep.QuietTactic
import Derived.BigQuiet
import Derived.Deep.RegionWith
import Derived.Handy
set_option linter.unusedSimpArgs false
set_option linter.unusedVariables false
namespace Go.St
open Go.RowKit
theorem rowRep.nilAny {α : Type} {S : Shape α} {ok ok' : Nat → Prop} {w w' : World} {ao : Option Addr} {c : Nat} (h : rowRep S ok w ao c []) : rowRep S ok' w' ao c [] := ⟨h.1, h.2.1, .inl rfl⟩
end Go.St
namespace Go.Proofs.Ytagldmdeohenjaa
open Go.RowKit Go.St

set_option maxRecDepth 100000 in
set_option maxHeartbeats 16000000 in
theorem controlSettles_c (w : World) (t : Topo) (ts : List Value) (okt : Nat → Prop) (h : topoS.rep okt w ts t) (l : List Flow) (fa : Option Addr) (fc : Nat) (okl : Nat → Prop) (hl : rowRep flowS okl w fa fc l) (m : List Flow) (ma : Option Addr) (mc : Nat) (okm : Nat → Prop) (hm : rowRep flowS okm w ma mc m) (ps : List Int) (pa : Option Addr) (pc : Nat) (okp : Nat → Prop) (hpk : rowRep intS okp w pa pc ps) :
    Calls Try.prog 5 #[.agg ts.toArray, .slice fa l.length fc, .slice ma m.length mc, .slice pa ps.length pc] w fun e w' => e = .returned (.bool true) ∧ Below w.heap.size w w' := by
  have hT := h
  obtain ⟨la, lc, rfl, htn, htr⟩ := h
  have hlx := hl.len_le
  have hmx := hm.len_le
  have hpx := hpk.len_le
  have hb0 : Below w.heap.size w (w.alloc (.cells #[.int .i64 t.n, .slice la t.links.length lc] 24)) := by (repeat' (first | with_reducible exact Below.refl _ _ | with_reducible assumption | with_reducible refine Below.drew ?_ | with_reducible refine Below_drewN ?_ _ | with_reducible refine Below.alloc ?_ ?_ _ | with_reducible refine Below.setCell ?_ ?_ _ | omega | (simp; done) | (simp; omega)))
  have hT0 : blockIs (w.alloc (.cells #[.int .i64 t.n, .slice la t.links.length lc] 24)) w.heap.size 24 #[.int .i64 t.n, .slice la t.links.length lc] := blockIs.new rfl
  go_enter Try.func5, Try.ntmps5
  go_wp2_with fail
  generalize w.alloc (.cells #[.int .i64 t.n, .slice la t.links.length lc] 24) = w0 at *
  refine (alive7_c _).mono ?_
  rintro e w1 ⟨rfl, hb1⟩
  have hB1 := hb0.trans (hb1.mono hb0.size)
  have hT1 := hT0.under hb1
  have htl1 := hT1.lt
  clear hb1 hT0 hb0
  have hbx : Below w1.heap.size w1 ((w1.alloc (.cells #[.int .i64 0, .int .i64 0, .slice none 0 0, .slice none 0 0, .int .i64 0, .slice none 0 0, .slice none 0 0, .int .i64 0, .slice none 0 0] 32)).alloc (.cells #[.slice fa l.length fc, .slice ma m.length mc] 25)) := by (repeat' (first | with_reducible exact Below.refl _ _ | with_reducible assumption | with_reducible refine Below.drew ?_ | with_reducible refine Below_drewN ?_ _ | with_reducible refine Below.alloc ?_ ?_ _ | with_reducible refine Below.setCell ?_ ?_ _ | omega | (simp; done) | (simp; omega)))
  have hC2 : blockIs ((w1.alloc (.cells #[.int .i64 0, .int .i64 0, .slice none 0 0, .slice none 0 0, .int .i64 0, .slice none 0 0, .slice none 0 0, .int .i64 0, .slice none 0 0] 32)).alloc (.cells #[.slice fa l.length fc, .slice ma m.length mc] 25)) w1.heap.size 32 #[.int .i64 0, .int .i64 0, .slice none 0 0, .slice none 0 0, .int .i64 0, .slice none 0 0, .slice none 0 0, .int .i64 0, .slice none 0 0] := (blockIs.new rfl).alloc _
  have hR2 : blockIs ((w1.alloc (.cells #[.int .i64 0, .int .i64 0, .slice none 0 0, .slice none 0 0, .int .i64 0, .slice none 0 0, .slice none 0 0, .int .i64 0, .slice none 0 0] 32)).alloc (.cells #[.slice fa l.length fc, .slice ma m.length mc] 25)) (w1.heap.size + 1) 25 #[.slice fa l.length fc, .slice ma m.length mc] := blockIs.new (by simp)
  have hT2 := hT1.under hbx
  have hB2 := hB1.trans (hbx.mono hB1.size)
  have hC0 := Lib.hid (Calm0.start t)
  clear hbx hT1
  go_wp2
  generalize ((w1.alloc (.cells #[.int .i64 0, .int .i64 0, .slice none 0 0, .slice none 0 0, .int .i64 0, .slice none 0 0, .slice none 0 0, .int .i64 0, .slice none 0 0] 32)).alloc (.cells #[.slice fa l.length fc, .slice ma m.length mc] 25)) = w2 at *
  --CUT1
  go_loopw [11, 12, 13, 14, 15, 16, 17, 18, 25] (fun _ _ _ _ _ _ _ _ idx wr => ∃ (j : Nat) (c : Ctl) (u0 u1 u2 v0 v1 v2 : Value) (za : Option Addr) (zc : Nat), idx = .int .i64 j ∧ j ≤ 2 ∧ Hid (Calm0 t j c) ∧ blockIs wr w1.heap.size 32 #[.int .i64 c.stage, u0, u1, u2, v0, v1, v2, .int .i64 c.num, .slice za c.waits.length zc] ∧ I64 c.stage ∧ I64 c.num ∧ planC wr (fun b => b ≠ w1.heap.size) u0 u1 u2 c.now ∧ planC wr (fun b => b ≠ w1.heap.size) v0 v1 v2 c.next ∧ rowRep intS (fun b => b ≠ w1.heap.size) wr za zc c.waits ∧ blockIs wr (w1.heap.size + 1) 25 #[.slice fa l.length fc, .slice ma m.length mc] ∧ blockIs wr w.heap.size 24 #[.int .i64 t.n, .slice la t.links.length lc] ∧ Below w.heap.size w wr) (fun _ _ _ _ _ _ _ _ idx _ => 2 - (intOf idx).toNat)
  case atStart => exact ⟨0, noCtl, _, _, _, _, _, _, none, 0, rfl, Nat.zero_le _, hC0, hC2, I64.small (by decide) (by decide), I64.small (by decide) (by decide), noPlanC _ _, noPlanC _ _, rowRep.nil _ _ _ _, hR2, hT2, hB2⟩
  case round =>
    clear hC0 hC2 hR2 hT2 hB2
    obtain ⟨j, c, u0, u1, u2, v0, v1, v2, za, zc, rfl, hj, hcalm, hC, hcs, hcn, hnC, hxC, hwC, hR, hTo, hBo⟩ := hrel
    rename World => wo
    by_cases hlt : j < 2
    case neg =>
      have b1 : ¬ (j : Int) < 2 := by omega
      clear hcalm hC hnC hxC hwC hR hTo
      go_wp2
      go_ret; exact ⟨rfl, hBo⟩
    have b1 : (j : Int) < 2 := by omega
    have b0 : (0 : Int) ≤ (j : Int) := by omega
    obtain ⟨f, hf⟩ : ∃ f, [l, m][j]? = some f := ⟨_, List.getElem?_eq_getElem (by simpa using hlt)⟩
    obtain ⟨rb, ro, ga, gc, hrb, _, hfr, hce⟩ := sliceRow_get (row2 (ok := fun _ => True) hR ((hl.below hBo).anyOk (fun _ _ _ => trivial)) ((hm.below hBo).anyOk (fun _ _ _ => trivial)) trivial) hf
    have e9 := hce wo (Below.refl _ _)
    obtain ⟨rfl, rfl⟩ : w1.heap.size + 1 = rb ∧ 0 = ro := by simpa using hrb
    rw [Nat.zero_add] at e9
    have hkC := ctlS.mk_ hcs hcn hnC hxC hwC
    have hAK := ask_c c t f _ _ _ okt _ ga gc wo hkC (topoS.below hT hBo) hfr hcalm.out.good.small
    have hS1 : (ctlAsk c t f).2.2 = 0 → Step1 t j c f (ctlAsk c t f) := fun h => step1 hcalm.out hj h
    have hwz : c.waits = [] := hcalm.out.waits
    have hxz : c.next = noPlan := hcalm.out.next
    obtain ⟨rfl, hnv⟩ := hnC.ver
    generalize hRR : ctlAsk c t f = R at *
    clear hRR
    obtain ⟨cst, cnow, cnext, cnum, cws⟩ := c
    dsimp only at *
    subst hwz hxz
    obtain rfl : v0 = .int .i64 0 := hxC.ver.1
    obtain ⟨R1, out, ee⟩ := R
    have HSA := Lib.hid hS1
    have HAK := Lib.hid hAK
    clear hS1 hAK hf hce hrb hfr hkC
    dsimp only at *
    simp only [List.length_nil] at hC
    obtain ⟨c1, c2⟩ := hC.cells
    obtain ⟨t1, t2⟩ := hTo.cells
    have hcl := hC.lt
    have htl := hTo.lt
    have hrl := hR.lt
    go_wp2_with fail
    --CUT2
    refine HAK.out.mono ?_
    rintro e w4 ⟨⟨ks, oa, oc, rfl, hk, ho⟩, hb4⟩
    dsimp only at hk ho ⊢
    obtain ⟨n0, n1, n2, x0, x1, x2, wa, wc, rfl, hst, hnu, hnR, hxR, hw⟩ := ctlS.open_ hk
    obtain ⟨rst, rnow, p, rnum, rws⟩ := R1
    dsimp only at *
    obtain ⟨lpr0, lpr1, lpr2⟩ := planC.st (P := Try.prog) hnR
    obtain ⟨lqr0, lqr1, lqr2⟩ := planC.st (P := Try.prog) hxR
    obtain ⟨lmr0, lmr1, lmr2⟩ := planC.one hnR
    obtain ⟨lyr0, lyr1, lyr2⟩ := planC.one hxR
    have hb5 : Below w4.heap.size w4 (w4.alloc (.cells #[.int .i64 rst, n0, n1, n2, x0, x1, x2, .int .i64 rnum, .slice wa rws.length wc] 32)) := by (repeat' (first | with_reducible exact Below.refl _ _ | with_reducible assumption | with_reducible refine Below.drew ?_ | with_reducible refine Below_drewN ?_ _ | with_reducible refine Below.alloc ?_ ?_ _ | with_reducible refine Below.setCell ?_ ?_ _ | omega | (simp; done) | (simp; omega)))
    have hD5 : blockIs (w4.alloc (.cells #[.int .i64 rst, n0, n1, n2, x0, x1, x2, .int .i64 rnum, .slice wa rws.length wc] 32)) w4.heap.size 32 #[.int .i64 rst, n0, n1, n2, x0, x1, x2, .int .i64 rnum, .slice wa rws.length wc] := blockIs.new rfl
    have hs4 := hb4.size
    have hC5 := (hC.under hb4).under hb5
    have hT5 := (hTo.under hb4).under hb5
    have hR5 := (hR.under hb4).under hb5
    have hn5 : planC _ (fun b => b ≠ w1.heap.size) (.int .i64 cnow.ver) u1 u2 cnow := planS.below (planS.below hnC hb4) hb5
    have hx5 : planC _ (fun b => b ≠ w1.heap.size) (.int .i64 0) v1 v2 noPlan := planS.below (planS.below hxC hb4) hb5
    have hCD : w1.heap.size + 1 < w4.heap.size := by have := hb4.size; omega
    have hB5 := (hBo.trans (hb4.mono hBo.size)).trans (hb5.mono (by have := hBo.size; omega))
    have hk5 := ctlS.below (ctlS.anyOk hk (ok' := fun b => b ≠ w1.heap.size ∧ b ≠ w4.heap.size) (fun b hl hh => by omega)) hb5
    have hs5 : (w4.alloc (.cells #[.int .i64 rst, n0, n1, n2, x0, x1, x2, .int .i64 rnum, .slice wa rws.length wc] 32)).heap.size = w4.heap.size + 1 := by simp
    clear HAK hk hnR hxR hw hb4 hb5 hC hTo hR hnC hxC hBo ho c1 c2 t1 t2
    by_cases he : ee = 0
    case neg =>
      have he' : (ee != 0) = true := by rw [bne_iff_ne]; exact he
      have hcm := Lib.hid hcalm.out.more
      clear he HSA hk5 hD5 hcalm
      go_wp2
      case roundEnd =>
        go_roundw
        case rel => exact ⟨j + 1, ⟨cst, cnow, noPlan, cnum, []⟩, .int .i64 cnow.ver, u1, u2, .int .i64 0, v1, v2, za, zc, by go_num, by omega, hcm, hC5, hcs, hcn, hn5, hx5, hwC.nilAny, hR5, hT5, hB5⟩
        case measure => simp [intOf] <;> omega
    subst he
    have HS1 := Lib.hid (HSA.out (by first | trivial | rfl))
    clear HSA
    obtain ⟨A, hA8, hG, hRo⟩ := HS1.out.rounds hcalm.out hj
    have hp := HS1.out.ok
    dsimp only at hG hRo hp
    have HG := Lib.hid hG
    have HRo := Lib.hid hRo
    have HP := Lib.hid hp
    clear hG hRo hp
    obtain ⟨d1, d2⟩ := hD5.cells
    obtain ⟨t1, t2⟩ := hT5.cells
    have hdl5 := hD5.lt
    have htl5 := hT5.lt
    --CUT3
    go_wp2_with fail
    generalize w4.alloc (.cells #[.int .i64 rst, n0, n1, n2, x0, x1, x2, .int .i64 rnum, .slice wa rws.length wc] 32) = w5 at *
    clear lpr0 lpr1 lpr2 lqr0 lqr1 lqr2 lmr0 lmr1 lmr2 lyr0 lyr1 lyr2
    generalize hDD : w4.heap.size = D at *
    refine (settle_c _ t HRo.out w5 ⟨rst, rnow, p, rnum, rws⟩ _ _ hk5 _ okt (topoS.below hT hB5) ps pa pc okp (hpk.below hB5) ⟨HG.out, Nat.zero_le _⟩).mono ?_
    rintro e w6 ⟨i, d, o, ks, oa2, oc2, rfl, ⟨hgo, hi17⟩, hdw, hkd, hod, hb6⟩
    obtain ⟨m0, m1, m2, y0, y1, y2, ua, uc, rfl, hst6, hnu6, hnD, hxD, hwD⟩ := ctlS.open_ hkd
    have HS2 := Lib.hid (step2 HS1.out hgo hi17 hdw)
    dsimp only at HS2
    have q1 := HS2.out.stage
    have q2 := HS2.out.now
    have q3 := HS2.out.next
    obtain ⟨rfl, hnv6⟩ := hnD.ver
    obtain ⟨rfl, hxv6⟩ := hxD.ver
    obtain ⟨dst, dnow, dnext, dnum, dws⟩ := d
    dsimp only at *
    have q2 := q2.symm
    have q3 := q3.symm
    subst q1 q2 q3 hdw
    simp only [List.length_nil]
    --CUT4
    have hC6 := hC5.under hb6
    have hT6 := hT5.under hb6
    have hR6 := hR5.under hb6
    have hD6 := hD5.under hb6
    have hB6 := hB5.trans (hb6.mono hB5.size)
    have hs6 := hb6.size
    have hdl6 := hD6.lt
    clear hC5 hT5 hR5 hD5 hn5 hx5 hb6 hkd hod hk5 hgo d1 d2 t1 t2
    obtain ⟨lpd0, lpd1, lpd2⟩ := planC.st (P := Try.prog) hnD
    obtain ⟨lqd0, lqd1, lqd2⟩ := planC.st (P := Try.prog) hxD
    obtain ⟨lmd0, lmd1, lmd2⟩ := planC.one hnD
    obtain ⟨lyd0, lyd1, lyd2⟩ := planC.one hxD
    obtain ⟨hD7, FR7⟩ := set9 hD6 (fun b => b ≠ D) w.heap.size (fun h => h rfl) (by omega) (.int .i64 3) (.int .i64 cnow.ver) (m1) (m2) (.int .i64 p.ver) (y1) (y2) (.int .i64 dnum) (.slice ua 0 uc)
    have hnD6 : planC w6 (fun b => b ≠ w1.heap.size ∧ b ≠ D) (.int .i64 cnow.ver) m1 m2 cnow := planS.anyOk hnD (fun b hl hh => by omega)
    have hxD6 : planC w6 (fun b => b ≠ w1.heap.size ∧ b ≠ D) (.int .i64 p.ver) y1 y2 p := planS.anyOk hxD (fun b hl hh => by omega)
    have hnD7 := FR7.rep' hnD6 (fun b hb => .inl hb.2)
    have hxD7 := FR7.rep' hxD6 (fun b hb => .inl hb.2)
    have hC7 := FR7.blk hC6 (.inl (by omega))
    have hT7 := FR7.blk hT6 (.inl (by omega))
    have hR7 := FR7.blk hR6 (.inl (by omega))
    have hB7 := hB6.trans FR7.below
    have hs7 : (((((((((w6.setCell ⟨D, 0, none⟩ (.int .i64 3)).setCell ⟨D, 1, none⟩ (.int .i64 cnow.ver)).setCell ⟨D, 2, none⟩ (m1)).setCell ⟨D, 3, none⟩ (m2)).setCell ⟨D, 4, none⟩ (.int .i64 p.ver)).setCell ⟨D, 5, none⟩ (y1)).setCell ⟨D, 6, none⟩ (y2)).setCell ⟨D, 7, none⟩ (.int .i64 dnum)).setCell ⟨D, 8, none⟩ (.slice ua 0 uc)).heap.size = w6.heap.size := by simp
    have hk7 := ctlS.mk_ (c := ⟨3, cnow, p, dnum, []⟩) hst6 hnu6 hnD7 hxD7 hwD.nilAny
    simp only [List.length_nil] at hk7
    obtain ⟨c1, c2⟩ := hC6.cells
    obtain ⟨d1, d2⟩ := hD6.cells
    obtain ⟨t1, t2⟩ := hT6.cells
    have hpv : IntKind.i64.wrap (cnow.ver + 1) = p.ver := HP.out.ver.symm
    have hDC : D ≠ w1.heap.size := by omega
    have hDT : D ≠ w.heap.size := by omega
    have hcl6 : w1.heap.size < w6.heap.size := by omega
    have htl6 : w.heap.size < w6.heap.size := by omega
    clear FR7 hC6 hT6 hR6 hD6 hnD hxD hnD6 hxD6 hwD
    go_wp2_with fail
    --CUT5
    clear c1 c2 d1 d2 t1 t2 lpd0 lpd1 lpd2 lqd0 lqd1 lqd2 lmd0 lmd1 lmd2 lyd0 lyd1 lyd2
    generalize (((((((((w6.setCell ⟨D, 0, none⟩ (.int .i64 3)).setCell ⟨D, 1, none⟩ (.int .i64 cnow.ver)).setCell ⟨D, 2, none⟩ (m1)).setCell ⟨D, 3, none⟩ (m2)).setCell ⟨D, 4, none⟩ (.int .i64 p.ver)).setCell ⟨D, 5, none⟩ (y1)).setCell ⟨D, 6, none⟩ (y2)).setCell ⟨D, 7, none⟩ (.int .i64 dnum)).setCell ⟨D, 8, none⟩ (.slice ua 0 uc)) = w7 at *
    have hDr := ctlDrop_c ⟨3, cnow, p, dnum, []⟩ t _ _ _ okt w7 hk7 (topoS.below hT hB7) (CtlGood.mk (c := ⟨3, cnow, p, dnum, []⟩) hcalm.out.held.good HP.out.gd (by simp)).small
    have hS3 := step3 hcalm.out hj HP.out HS2.out
    generalize ctlDrop ⟨3, cnow, p, dnum, []⟩ t = X3 at *
    obtain ⟨⟨xst, xnow, xnext, xnum, xws⟩, xo, xe⟩ := X3
    have HS3 := Lib.hid hS3
    clear hS3
    refine hDr.mono ?_
    rintro e w8 ⟨ho, hb8⟩
    have herr := HS3.out.err
    obtain ⟨e0, e1, e2, g0, g1, g2, ea, ec, oa3, oc3, rfl, hxs, hxn, hnX, hxX, hwX, _⟩ := ho.open_ herr
    dsimp only at hxs hxn hnX hxX hwX ⊢
    clear hDr ho herr
    obtain ⟨lpx0, lpx1, lpx2⟩ := planC.st (P := Try.prog) hnX
    obtain ⟨lqx0, lqx1, lqx2⟩ := planC.st (P := Try.prog) hxX
    obtain ⟨lmx0, lmx1, lmx2⟩ := planC.one hnX
    obtain ⟨lyx0, lyx1, lyx2⟩ := planC.one hxX
    have hb9 : Below w8.heap.size w8 (w8.alloc (.cells #[.int .i64 xst, e0, e1, e2, g0, g1, g2, .int .i64 xnum, .slice ea xws.length ec] 32)) := by (repeat' (first | with_reducible exact Below.refl _ _ | with_reducible assumption | with_reducible refine Below.drew ?_ | with_reducible refine Below_drewN ?_ _ | with_reducible refine Below.alloc ?_ ?_ _ | with_reducible refine Below.setCell ?_ ?_ _ | omega | (simp; done) | (simp; omega)))
    have hX9 : blockIs (w8.alloc (.cells #[.int .i64 xst, e0, e1, e2, g0, g1, g2, .int .i64 xnum, .slice ea xws.length ec] 32)) w8.heap.size 32 #[.int .i64 xst, e0, e1, e2, g0, g1, g2, .int .i64 xnum, .slice ea xws.length ec] := blockIs.new rfl
    have hC9 := (hC7.under hb8).under hb9
    have hD9 := (hD7.under hb8).under hb9
    have hT9 := (hT7.under hb8).under hb9
    have hR9 := (hR7.under hb8).under hb9
    have hs8 := hb8.size
    have hdl7 := hD7.lt
    have hB9 := (hB7.trans (hb8.mono hB7.size)).trans (hb9.mono (by have := hB7.size; omega))
    have hk9 := ctlS.below (ctlS.anyOk (ctlS.mk_ (c := ⟨xst, xnow, xnext, xnum, xws⟩) hxs hxn hnX hxX hwX) (ok' := fun b => b ≠ w1.heap.size ∧ b ≠ D ∧ b ≠ w8.heap.size) (fun b hl hh => by omega)) hb9
    have hs9 : (w8.alloc (.cells #[.int .i64 xst, e0, e1, e2, g0, g1, g2, .int .i64 xnum, .slice ea xws.length ec] 32)).heap.size = w8.heap.size + 1 := by simp
    have hDX : D < w8.heap.size := by omega
    obtain ⟨d1, d2⟩ := hD9.cells
    obtain ⟨x1', x2'⟩ := hX9.cells
    obtain ⟨t1, t2⟩ := hT9.cells
    have hxl9 := hX9.lt
    have htl9 := hT9.lt
    have hRo2 := falling_rounds (a := xnum) HP.out.topo hcalm.out.held.good HP.out.gd
    have HRo2 := Lib.hid hRo2
    dsimp only at HRo2
    clear hC7 hD7 hT7 hR7 hk7 hb8 hb9 hnX hxX hwX hB7 hRo2
    go_wp2_with fail
    --CUT6
    generalize w8.alloc (.cells #[.int .i64 xst, e0, e1, e2, g0, g1, g2, .int .i64 xnum, .slice ea xws.length ec] 32) = w9 at *
    clear lpx0 lpx1 lpx2 lqx0 lqx1 lqx2 lmx0 lmx1 lmx2 lyx0 lyx1 lyx2 d1 d2 x1' x2' t1 t2
    generalize hXX : w8.heap.size = X at *
    refine (settle_c _ t HRo2.out w9 ⟨xst, xnow, xnext, xnum, xws⟩ _ _ hk9 _ okt (topoS.below hT hB9) ps pa pc okp (hpk.below hB9) ⟨HS3.out.fall, Nat.zero_le _⟩).mono ?_
    rintro e w10 ⟨i2, y, o2, ks2, oa4, oc4, rfl, ⟨hfa, hi2⟩, hyw, hky, hoy, hb10⟩
    obtain ⟨r0, r1, r2, s0, s1, s2, ra, rc, rfl, hsty, hnuy, hnY, hxY, hwY⟩ := ctlS.open_ hky
    have HS4 := Lib.hid (step4 HP.out HS2.out HS3.out hfa hi2 hyw)
    have q1 := HS4.out.stage
    have q2 := HS4.out.now.symm
    have q3 := HS4.out.calm.next
    obtain ⟨rfl, hnvy⟩ := hnY.ver
    obtain ⟨yst, ynow, ynext, ynum, yws⟩ := y
    dsimp only at *
    subst q1 q2 q3 hyw
    obtain rfl : s0 = .int .i64 0 := hxY.ver.1
    simp only [List.length_nil]
    have hC10 := hC9.under hb10
    have hD10 := hD9.under hb10
    have hT10 := hT9.under hb10
    have hR10 := hR9.under hb10
    have hX10 := hX9.under hb10
    have hB10 := hB9.trans (hb10.mono hB9.size)
    have hs10 := hb10.size
    have hxl := hX10.lt
    have HC4 := Lib.hid HS4.out.calm
    obtain ⟨lpy0, lpy1, lpy2⟩ := planC.st (P := Try.prog) hnY
    obtain ⟨lqy0, lqy1, lqy2⟩ := planC.st (P := Try.prog) hxY
    obtain ⟨lmy0, lmy1, lmy2⟩ := planC.one hnY
    obtain ⟨lyy0, lyy1, lyy2⟩ := planC.one hxY
    obtain ⟨hX11, FR11⟩ := set9 hX10 (fun b => b ≠ X) w.heap.size (fun h => h rfl) (by omega) (.int .i64 0) (.int .i64 p.ver) (r1) (r2) (.int .i64 0) (s1) (s2) (.int .i64 ynum) (.slice ra 0 rc)
    have hnY10 : planC w10 (fun b => b ≠ w1.heap.size ∧ b ≠ X) (.int .i64 p.ver) r1 r2 p := planS.anyOk hnY (fun b hl hh => by omega)
    have hxY10 : planC w10 (fun b => b ≠ w1.heap.size ∧ b ≠ X) (.int .i64 0) s1 s2 noPlan := planS.anyOk hxY (fun b hl hh => by omega)
    have hnY11 := FR11.rep' hnY10 (fun b hb => .inl hb.2)
    have hxY11 := FR11.rep' hxY10 (fun b hb => .inl hb.2)
    have hC11 := FR11.blk hC10 (.inl (by omega))
    have hT11 := FR11.blk hT10 (.inl (by omega))
    have hR11 := FR11.blk hR10 (.inl (by omega))
    have hB11 := hB10.trans FR11.below
    have hD11 := FR11.blk hD10 (.inl (by omega))
    obtain ⟨c1, c2⟩ := hC10.cells
    obtain ⟨d1, d2⟩ := hD10.cells
    obtain ⟨x1', x2'⟩ := hX10.cells
    have hXC : X ≠ w1.heap.size := by omega
    have hXC' : w1.heap.size ≠ X := by omega
    have hXD : X ≠ D := by omega
    have hXD' : D ≠ X := by omega
    have hcl10 : w1.heap.size < w10.heap.size := by omega
    have hdl10 := hD10.lt
    clear hfa HS4 hky hoy hb10 hnY hxY hnY10 hxY10 hC9 hD9 hT9 hR9 hX9 hB9 hC10 hT10 hR10 hD10 hX10 hB10 FR11 HRo2 HRo HS3 HS2 HG hk9 HP HS1 hcalm
    go_upto_region 16 with fail
    --CUT7
    clear c1 c2 d1 d2 x1' x2' lpy0 lpy1 lpy2 lqy0 lqy1 lqy2 hcl10 hdl10 hxl
    generalize (((((((((w10.setCell ⟨X, 0, none⟩ (.int .i64 0)).setCell ⟨X, 1, none⟩ (.int .i64 p.ver)).setCell ⟨X, 2, none⟩ (r1)).setCell ⟨X, 3, none⟩ (r2)).setCell ⟨X, 4, none⟩ (.int .i64 0)).setCell ⟨X, 5, none⟩ (s1)).setCell ⟨X, 6, none⟩ (s2)).setCell ⟨X, 7, none⟩ (.int .i64 ynum)).setCell ⟨X, 8, none⟩ (.slice ra 0 rc)) = w11 at *
    have hcl11 := hC11.lt
    have hxl11 := hX11.lt
    have hdl11 := hD11.lt
    obtain ⟨hC12, FR12⟩ := set9 hC11 (fun b => b ≠ w1.heap.size) w.heap.size (fun h => h rfl) (by omega) (.int .i64 0) (.int .i64 p.ver) (r1) (r2) (.int .i64 0) (s1) (s2) (.int .i64 ynum) (.slice ra 0 rc)
    have hnY12 : planC _ (fun b => b ≠ w1.heap.size) (.int .i64 p.ver) r1 r2 p := planS.anyOk (FR12.rep' hnY11 (fun b hb => .inl hb.1)) (fun b _ hh => hh.1)
    have hxY12 : planC _ (fun b => b ≠ w1.heap.size) (.int .i64 0) s1 s2 noPlan := planS.anyOk (FR12.rep' hxY11 (fun b hb => .inl hb.1)) (fun b _ hh => hh.1)
    have hT12 := FR12.blk hT11 (.inl (by omega))
    have hR12 := FR12.blk hR11 (.inl (by omega))
    have hB12 := hB11.trans FR12.below
    obtain ⟨c1, c2⟩ := hC11.cells
    obtain ⟨d1, d2⟩ := hD11.cells
    obtain ⟨x1', x2'⟩ := hX11.cells
    have hny11 := hnY11
    have hxy11 := hxY11
    obtain ⟨lpy0, lpy1, lpy2⟩ := planC.st (P := Try.prog) hny11
    obtain ⟨lqy0, lqy1, lqy2⟩ := planC.st (P := Try.prog) hxy11
    clear hC11 hD11 hX11 hT11 hR11 hB11 FR12 hnY11 hxY11 hny11 hxy11
    clear hs4 hs5 hs6 hs7 hs8 hs9 hs10 hDD hXX hDX hCD
    --CUT8
    go_upto_region 18 with fail
    --CUT9
    go_wp2
    --CUTA
    case roundEnd =>
      go_roundw
      case rel => exact ⟨j + 1, ⟨0, p, noPlan, ynum, []⟩, .int .i64 p.ver, r1, r2, .int .i64 0, s1, s2, ra, rc, by go_num, by omega, HC4, hC12, hsty, hnuy, hnY12, hxY12, hwY.nilAny, hR12, hT12, hB12⟩
      case measure => simp [intOf] <;> omega

end Go.Proofs.Ytagldmdeohenjaa
