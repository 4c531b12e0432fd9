/-
  The walk of the law ControlRight.
-/
import Derived.Test.YtagldmdeohenjaaCtlV
import Derived.Test.YtagldmdeohenjaaHadW
import Derived.Test.YtagldmdeohenjaaDrpC
import Derived.Deep.Cut
import Derived.WalkKit
import Derived.WalkSpells
import Derived.WalkLawsBesides
import Derived.Lib.Hide
import Derived.Deep.LoopGhost
import Derived.Deep.QuietTactic
import Derived.BigQuiet
import Derived.Deep.RegionWith
import Derived.Handy
set_option linter.unusedSimpArgs false
set_option linter.unusedVariables false
namespace Go.St
open Go.RowKit
theorem mapIs.allocR {κ : Type} {enc : κ → Value} {w : World} {r : Nat} {ents : List (κ × Value)} (h : mapIs enc w r ents) (o : Obj) : mapIs enc (w.alloc o) r ents := h.keep (((Below.refl w.heap.size w).alloc (Nat.le_refl _) o).block r h.lt)
theorem mapIs.underR {κ : Type} {enc : κ → Value} {w w' : World} {r : Nat} {ents : List (κ × Value)} (h : mapIs enc w r ents) (hb : Below w.heap.size w w') : mapIs enc w' r ents := h.below hb h.lt
theorem ownR.frmR {α : Type} {sh : Shape α} {e : TypeId} {ok W : Nat → Prop} {base B : Nat} {w w' : World} {ao : Option Addr} {n cap : Nat} {xs : List α} (h : ownR sh e ok base w ao n cap xs) (F : Frm W B w w') (hW : ∀ k, (blk ao = some k ∨ ok k) → W k ∨ k < B) : ownR sh e ok base w' ao n cap xs :=
  h.keep F.size fun k hk => by
    have hl : k < w.heap.size := by
      rcases hk with hk | hk
      · exact (h.lt k hk).2
      · obtain ⟨_, _, _, _, _, h5⟩ := h; exact h5 k hk
    rcases hW k hk with hw | hw
    · exact F.keep k hl hw
    · exact F.below.block k hw
theorem flat_at {t : Topo} {a b : Int} {O : List (List To)} (h : Go.St.Told t a b O.flatten) : ∃ N : Nat → Int, N 0 = a ∧ (∀ q, N q ≤ b) ∧ (∀ q, a ≤ N q) ∧ (∀ q, N q ≤ N (q + 1)) ∧ ∀ (q : Nat) (k : List To), O[q]? = some k → Go.St.Told t (N q) (N (q + 1)) k := by
  have hn := h.num
  refine ⟨fun q => a + ((O.take q).flatten.length : Int), by simp, fun q => ?_, fun q => by dsimp only; omega, fun q => ?_, fun q k hk => ?_⟩
  · have : (O.take q).flatten.length ≤ O.flatten.length := by
      have e : O.flatten = (O.take q).flatten ++ (O.drop q).flatten := by rw [← List.flatten_append, List.take_append_drop]
      rw [e, List.length_append]; omega
    dsimp only; omega
  · have : (O.take q).flatten.length ≤ (O.take (q + 1)).flatten.length := by rw [List.take_add_one, List.flatten_append, List.length_append]; omega
    dsimp only; omega
  · have hq := (List.getElem?_eq_some_iff.1 hk).1
    have e2 : (O.take (q + 1)).flatten = (O.take q).flatten ++ k := by rw [List.take_add_one, hk]; simp
    have e : O.flatten = (O.take q).flatten ++ k ++ (O.drop (q + 1)).flatten := by rw [← e2, ← List.flatten_append, List.take_append_drop]
    refine ⟨fun i x hx => ?_, by dsimp only; rw [e2, List.length_append]; omega, fun x hx => h.ok x (by rw [e]; simp [hx])⟩
    have hi := (List.getElem?_eq_some_iff.1 hx).1
    have := h.run ((O.take q).flatten.length + i) x (by rw [e, List.append_assoc, List.getElem?_append_right (by omega), Nat.add_sub_cancel_left, List.getElem?_append_left hi]; exact hx)
    dsimp only; omega
theorem rowRep.nilAny {α : Type} {S : Shape α} {ok ok' : Nat → Prop} {w w' : World} {ao : Option Addr} {c : Nat} (h : rowRep S ok w ao c []) : rowRep S ok' w' ao c [] := ⟨h.1, h.2.1, .inl rfl⟩
end Go.St
namespace Go.Proofs.Ytagldmdeohenjaa
open Go.RowKit Go.St

set_option maxRecDepth 100000 in
set_option maxHeartbeats 16000000 in
theorem controlRight_c (w : World) (t : Topo) (ts : List Value) (okt : Nat → Prop) (h : topoS.rep okt w ts t) (l : List Flow) (fa : Option Addr) (fc : Nat) (okl : Nat → Prop) (hl : rowRep flowS okl w fa fc l) (m : List Flow) (ma : Option Addr) (mc : Nat) (okm : Nat → Prop) (hm : rowRep flowS okm w ma mc m) (ps : List Int) (pa : Option Addr) (pc : Nat) (okp : Nat → Prop) (hpk : rowRep intS okp w pa pc ps) :
    Calls Try.prog 6 #[.agg ts.toArray, .slice fa l.length fc, .slice ma m.length mc, .slice pa ps.length pc] w fun e w' => e = .returned (.bool true) ∧ Below w.heap.size w w' := by
  have hT := h
  obtain ⟨la, lc, rfl, htn, htr⟩ := h
  have hlx := hl.len_le
  have hmx := hm.len_le
  have hpx := hpk.len_le
  have hb0 : Below w.heap.size w (w.alloc (.cells #[.int .i64 t.n, .slice la t.links.length lc] 24)) := by (repeat' (first | with_reducible exact Below.refl _ _ | with_reducible assumption | with_reducible refine Below.drew ?_ | with_reducible refine Below_drewN ?_ _ | with_reducible refine Below.alloc ?_ ?_ _ | with_reducible refine Below.setCell ?_ ?_ _ | omega | (simp; done) | (simp; omega)))
  have hT0 : blockIs (w.alloc (.cells #[.int .i64 t.n, .slice la t.links.length lc] 24)) w.heap.size 24 #[.int .i64 t.n, .slice la t.links.length lc] := blockIs.new rfl
  have hmm := @run_makeMap Try.prog
  go_enter Try.func6, Try.ntmps6
  go_wp2_with fail
  generalize w.alloc (.cells #[.int .i64 t.n, .slice la t.links.length lc] 24) = w0 at *
  refine (alive7_c _).mono ?_
  rintro e w1 ⟨rfl, hb1⟩
  have hB1 := hb0.trans (hb1.mono hb0.size)
  have hT1 := hT0.under hb1
  have htl1 := hT1.lt
  clear hb1 hT0 hb0
  have hbx : Below w1.heap.size w1 ((((w1.alloc (.cells #[.int .i64 0, .int .i64 0, .slice none 0 0, .slice none 0 0, .int .i64 0, .slice none 0 0, .slice none 0 0, .int .i64 0, .slice none 0 0] 32)).alloc (.map #[] 0)).alloc (.cells #[.map (some (w1.heap.size + 1))] 59)).alloc (.cells #[.slice fa l.length fc, .slice ma m.length mc] 25)) := by (repeat' (first | with_reducible exact Below.refl _ _ | with_reducible assumption | with_reducible refine Below.drew ?_ | with_reducible refine Below_drewN ?_ _ | with_reducible refine Below.alloc ?_ ?_ _ | with_reducible refine Below.setCell ?_ ?_ _ | omega | (simp; done) | (simp; omega)))
  have hC2 : blockIs ((((w1.alloc (.cells #[.int .i64 0, .int .i64 0, .slice none 0 0, .slice none 0 0, .int .i64 0, .slice none 0 0, .slice none 0 0, .int .i64 0, .slice none 0 0] 32)).alloc (.map #[] 0)).alloc (.cells #[.map (some (w1.heap.size + 1))] 59)).alloc (.cells #[.slice fa l.length fc, .slice ma m.length mc] 25)) w1.heap.size 32 #[.int .i64 0, .int .i64 0, .slice none 0 0, .slice none 0 0, .int .i64 0, .slice none 0 0, .slice none 0 0, .int .i64 0, .slice none 0 0] := (((blockIs.new rfl).alloc _).alloc _).alloc _
  have hM2 : mapIs (Value.int .i64) ((((w1.alloc (.cells #[.int .i64 0, .int .i64 0, .slice none 0 0, .slice none 0 0, .int .i64 0, .slice none 0 0, .slice none 0 0, .int .i64 0, .slice none 0 0] 32)).alloc (.map #[] 0)).alloc (.cells #[.map (some (w1.heap.size + 1))] 59)).alloc (.cells #[.slice fa l.length fc, .slice ma m.length mc] 25)) (w1.heap.size + 1) [] := ((mapIs.made' _ _ _ (by simp)).allocR _).allocR _
  have hH2 : blockIs ((((w1.alloc (.cells #[.int .i64 0, .int .i64 0, .slice none 0 0, .slice none 0 0, .int .i64 0, .slice none 0 0, .slice none 0 0, .int .i64 0, .slice none 0 0] 32)).alloc (.map #[] 0)).alloc (.cells #[.map (some (w1.heap.size + 1))] 59)).alloc (.cells #[.slice fa l.length fc, .slice ma m.length mc] 25)) (w1.heap.size + 2) 59 #[.map (some (w1.heap.size + 1))] := (blockIs.new (by simp)).alloc _
  have hR2 : blockIs ((((w1.alloc (.cells #[.int .i64 0, .int .i64 0, .slice none 0 0, .slice none 0 0, .int .i64 0, .slice none 0 0, .slice none 0 0, .int .i64 0, .slice none 0 0] 32)).alloc (.map #[] 0)).alloc (.cells #[.map (some (w1.heap.size + 1))] 59)).alloc (.cells #[.slice fa l.length fc, .slice ma m.length mc] 25)) (w1.heap.size + 3) 25 #[.slice fa l.length fc, .slice ma m.length mc] := blockIs.new (by simp)
  have hE0 : Hid (∀ e ∈ ([] : List (Int × Value)), e.1 ≤ noCtl.num) := fun e he => by simp at he
  have hT2 := hT1.under hbx
  have hB2 := hB1.trans (hbx.mono hB1.size)
  have hC0 := Lib.hid (Calm0.start t)
  clear hbx hT1
  go_wp2
  generalize ((((w1.alloc (.cells #[.int .i64 0, .int .i64 0, .slice none 0 0, .slice none 0 0, .int .i64 0, .slice none 0 0, .slice none 0 0, .int .i64 0, .slice none 0 0] 32)).alloc (.map #[] 0)).alloc (.cells #[.map (some (w1.heap.size + 1))] 59)).alloc (.cells #[.slice fa l.length fc, .slice ma m.length mc] 25)) = w2 at *
  --CUT1
  go_loopw [13, 14, 15, 16, 17, 18, 19, 20, 21, 23, 32] (fun _ _ _ _ _ _ _ _ _ _ idx wr => ∃ (j : Nat) (ents : List (Int × Value)) (c : Ctl) (u0 u1 u2 v0 v1 v2 : Value) (za : Option Addr) (zc : Nat), idx = .int .i64 j ∧ j ≤ 2 ∧ Hid (Calm0 t j c) ∧ blockIs wr w1.heap.size 32 #[.int .i64 c.stage, u0, u1, u2, v0, v1, v2, .int .i64 c.num, .slice za c.waits.length zc] ∧ I64 c.stage ∧ I64 c.num ∧ planC wr (fun b => b ≠ w1.heap.size ∧ b ≠ w1.heap.size + 1) u0 u1 u2 c.now ∧ planC wr (fun b => b ≠ w1.heap.size ∧ b ≠ w1.heap.size + 1) v0 v1 v2 c.next ∧ rowRep intS (fun b => b ≠ w1.heap.size ∧ b ≠ w1.heap.size + 1) wr za zc c.waits ∧ mapIs (Value.int .i64) wr (w1.heap.size + 1) ents ∧ Hid (∀ e ∈ ents, e.1 ≤ c.num) ∧ blockIs wr (w1.heap.size + 2) 59 #[.map (some (w1.heap.size + 1))] ∧ blockIs wr (w1.heap.size + 3) 25 #[.slice fa l.length fc, .slice ma m.length mc] ∧ blockIs wr w.heap.size 24 #[.int .i64 t.n, .slice la t.links.length lc] ∧ Below w.heap.size w wr) (fun _ _ _ _ _ _ _ _ _ _ idx _ => 2 - (intOf idx).toNat)
  case atStart => exact ⟨0, [], noCtl, _, _, _, _, _, _, none, 0, rfl, Nat.zero_le _, hC0, hC2, I64.small (by decide) (by decide), I64.small (by decide) (by decide), noPlanC _ _, noPlanC _ _, rowRep.nil _ _ _ _, hM2, hE0, hH2, hR2, hT2, hB2⟩
  case round =>
    clear hC0 hC2 hR2 hT2 hB2 hM2 hH2 hE0
    obtain ⟨j, ents, c, u0, u1, u2, v0, v1, v2, za, zc, rfl, hj, hcalm, hC, hcs, hcn, hnC, hxC, hwC, hM, hE, hH, hR, hTo, hBo⟩ := hrel
    rename World => wo
    by_cases hlt : j < 2
    case neg =>
      have b1 : ¬ (j : Int) < 2 := by omega
      clear hcalm hC hnC hxC hwC hR hTo hM hE hH
      go_wp2
      go_ret; exact ⟨rfl, hBo⟩
    have b1 : (j : Int) < 2 := by omega
    have b0 : (0 : Int) ≤ (j : Int) := by omega
    obtain ⟨f, hf⟩ : ∃ f, [l, m][j]? = some f := ⟨_, List.getElem?_eq_getElem (by simpa using hlt)⟩
    obtain ⟨rb, ro, ga, gc, hrb, _, hfr, hce⟩ := sliceRow_get (row2 (ok := fun _ => True) hR ((hl.below hBo).anyOk (fun _ _ _ => trivial)) ((hm.below hBo).anyOk (fun _ _ _ => trivial)) trivial) hf
    have e9 := hce wo (Below.refl _ _)
    obtain ⟨rfl, rfl⟩ : w1.heap.size + 3 = rb ∧ 0 = ro := by simpa using hrb
    rw [Nat.zero_add] at e9
    have hkC := ctlS.mk_ hcs hcn hnC hxC hwC
    have hAK := ask_c c t f _ _ _ okt _ ga gc wo hkC (topoS.below hT hBo) hfr hcalm.out.good.small
    have hS1 : (ctlAsk c t f).2.2 = 0 → Step1 t j c f (ctlAsk c t f) := fun h => step1 hcalm.out hj h
    have hwz : c.waits = [] := hcalm.out.waits
    have hxz : c.next = noPlan := hcalm.out.next
    obtain ⟨rfl, hnv⟩ := hnC.ver
    generalize hRR : ctlAsk c t f = R at *
    clear hRR
    obtain ⟨cst, cnow, cnext, cnum, cws⟩ := c
    dsimp only at *
    subst hwz hxz
    obtain rfl : v0 = .int .i64 0 := hxC.ver.1
    obtain ⟨R1, out, ee⟩ := R
    have HSA := Lib.hid hS1
    have HAK := Lib.hid hAK
    clear hS1 hAK hf hce hrb hfr hkC
    dsimp only at *
    simp only [List.length_nil] at hC
    obtain ⟨c1, c2⟩ := hC.cells
    obtain ⟨t1, t2⟩ := hTo.cells
    have hcl := hC.lt
    have htl := hTo.lt
    have hrl := hR.lt
    go_wp2_with fail
    have hml := hM.lt
    have hhl := hH.lt
    --CUT2
    refine HAK.out.mono ?_
    rintro e w4 ⟨⟨ks, oa, oc, rfl, hk, ho⟩, hb4⟩
    dsimp only at hk ho ⊢
    obtain ⟨n0, n1, n2, x0, x1, x2, wa, wc, rfl, hst, hnu, hnR, hxR, hw⟩ := ctlS.open_ hk
    obtain ⟨rst, rnow, p, rnum, rws⟩ := R1
    dsimp only at *
    obtain ⟨lpr0, lpr1, lpr2⟩ := planC.st (P := Try.prog) hnR
    obtain ⟨lqr0, lqr1, lqr2⟩ := planC.st (P := Try.prog) hxR
    obtain ⟨lmr0, lmr1, lmr2⟩ := planC.one hnR
    obtain ⟨lyr0, lyr1, lyr2⟩ := planC.one hxR
    have hb5 : Below w4.heap.size w4 (w4.alloc (.cells #[.int .i64 rst, n0, n1, n2, x0, x1, x2, .int .i64 rnum, .slice wa rws.length wc] 32)) := by (repeat' (first | with_reducible exact Below.refl _ _ | with_reducible assumption | with_reducible refine Below.drew ?_ | with_reducible refine Below_drewN ?_ _ | with_reducible refine Below.alloc ?_ ?_ _ | with_reducible refine Below.setCell ?_ ?_ _ | omega | (simp; done) | (simp; omega)))
    have hD5 : blockIs (w4.alloc (.cells #[.int .i64 rst, n0, n1, n2, x0, x1, x2, .int .i64 rnum, .slice wa rws.length wc] 32)) w4.heap.size 32 #[.int .i64 rst, n0, n1, n2, x0, x1, x2, .int .i64 rnum, .slice wa rws.length wc] := blockIs.new rfl
    have hs4 := hb4.size
    have hC5 := (hC.under hb4).under hb5
    have hT5 := (hTo.under hb4).under hb5
    have hR5 := (hR.under hb4).under hb5
    have hH5 := (hH.under hb4).under hb5
    have hM5 := (hM.underR hb4).underR hb5
    have hn5 : planC _ (fun b => b ≠ w1.heap.size ∧ b ≠ w1.heap.size + 1) (.int .i64 cnow.ver) u1 u2 cnow := planS.below (planS.below hnC hb4) hb5
    have hx5 : planC _ (fun b => b ≠ w1.heap.size ∧ b ≠ w1.heap.size + 1) (.int .i64 0) v1 v2 noPlan := planS.below (planS.below hxC hb4) hb5
    have hCD : w1.heap.size + 3 < w4.heap.size := by have := hb4.size; omega
    have hO5 := (ho.anyOk (ok' := fun b => w1.heap.size + 3 < b ∧ b < w4.heap.size) (fun b hl hh => by omega)).below hb5
    have hB5 := (hBo.trans (hb4.mono hBo.size)).trans (hb5.mono (by have := hBo.size; omega))
    have hk5 := ctlS.below (ctlS.anyOk hk (ok' := fun b => w1.heap.size + 3 < b ∧ b ≠ w4.heap.size) (fun b hl hh => by omega)) hb5
    have hs5 : (w4.alloc (.cells #[.int .i64 rst, n0, n1, n2, x0, x1, x2, .int .i64 rnum, .slice wa rws.length wc] 32)).heap.size = w4.heap.size + 1 := by simp
    clear HAK hk hnR hxR hw hb4 hb5 hC hTo hR hnC hxC hBo ho c1 c2 t1 t2 hM hH hml hhl
    by_cases he : ee = 0
    case neg =>
      have he' : (ee != 0) = true := by rw [bne_iff_ne]; exact he
      have hcm := Lib.hid hcalm.out.more
      clear he HSA hk5 hD5 hcalm hO5
      go_wp2
      case roundEnd =>
        go_roundw
        case rel => exact ⟨j + 1, ents, ⟨cst, cnow, noPlan, cnum, []⟩, .int .i64 cnow.ver, u1, u2, .int .i64 0, v1, v2, za, zc, by go_num, by omega, hcm, hC5, hcs, hcn, hn5, hx5, hwC.nilAny, hM5, hE, hH5, hR5, hT5, hB5⟩
        case measure => simp [intOf] <;> omega
    subst he
    have HS1 := Lib.hid (HSA.out (by first | trivial | rfl))
    clear HSA
    obtain ⟨A, hA8, hG, hRo⟩ := HS1.out.rounds hcalm.out hj
    have hp := HS1.out.ok
    dsimp only at hG hRo hp
    have HG := Lib.hid hG
    have HRo := Lib.hid hRo
    have HP := Lib.hid hp
    clear hG hRo hp
    obtain ⟨d1, d2⟩ := hD5.cells
    obtain ⟨t1, t2⟩ := hT5.cells
    have hdl5 := hD5.lt
    have htl5 := hT5.lt
    --CUT3
    go_wp2_with fail
    generalize w4.alloc (.cells #[.int .i64 rst, n0, n1, n2, x0, x1, x2, .int .i64 rnum, .slice wa rws.length wc] 32) = w5 at *
    clear lpr0 lpr1 lpr2 lqr0 lqr1 lqr2 lmr0 lmr1 lmr2 lyr0 lyr1 lyr2
    generalize hDD : w4.heap.size = D at *
    refine (settle_c _ t HRo.out w5 ⟨rst, rnow, p, rnum, rws⟩ _ _ hk5 _ okt (topoS.below hT hB5) ps pa pc okp (hpk.below hB5) ⟨HG.out, Nat.zero_le _⟩).mono ?_
    rintro e w6 ⟨i, d, o, ks, oa2, oc2, rfl, ⟨hgo, hi17⟩, hdw, hkd, hod6, hb6⟩
    obtain ⟨m0, m1, m2, y0, y1, y2, ua, uc, rfl, hst6, hnu6, hnD, hxD, hwD⟩ := ctlS.open_ hkd
    have HS2 := Lib.hid (step2 HS1.out hgo hi17 hdw)
    dsimp only at HS2
    have q1 := HS2.out.stage
    have q2 := HS2.out.now
    have q3 := HS2.out.next
    have hol : o.length ≤ 17 := HS2.out.len
    obtain ⟨rfl, hnv6⟩ := hnD.ver
    obtain ⟨rfl, hxv6⟩ := hxD.ver
    obtain ⟨dst, dnow, dnext, dnum, dws⟩ := d
    dsimp only at *
    have q2 := q2.symm
    have q3 := q3.symm
    subst q1 q2 q3 hdw
    simp only [List.length_nil]
    --CUT4
    have hC6 := hC5.under hb6
    have hT6 := hT5.under hb6
    have hR6 := hR5.under hb6
    have hH6 := hH5.under hb6
    have hM6 := hM5.underR hb6
    have hO6 := hO5.below hb6
    have hD6 := hD5.under hb6
    have hB6 := hB5.trans (hb6.mono hB5.size)
    have hs6 := hb6.size
    have hdl6 := hD6.lt
    have hoa2 : ∀ k, blk oa2 = some k → w5.heap.size ≤ k ∧ k < w6.heap.size := hod6.lt
    clear hC5 hT5 hR5 hD5 hn5 hx5 hb6 hkd hk5 hgo d1 d2 t1 t2 hH5 hM5 hO5
    obtain ⟨lpd0, lpd1, lpd2⟩ := planC.st (P := Try.prog) hnD
    obtain ⟨lqd0, lqd1, lqd2⟩ := planC.st (P := Try.prog) hxD
    obtain ⟨lmd0, lmd1, lmd2⟩ := planC.one hnD
    obtain ⟨lyd0, lyd1, lyd2⟩ := planC.one hxD
    obtain ⟨hD7, FR7⟩ := set9 hD6 (fun b => b ≠ D) w.heap.size (fun h => h rfl) (by omega) (.int .i64 3) (.int .i64 cnow.ver) (m1) (m2) (.int .i64 p.ver) (y1) (y2) (.int .i64 dnum) (.slice ua 0 uc)
    have hnD6 : planC w6 (fun b => w1.heap.size + 3 < b ∧ b ≠ D) (.int .i64 cnow.ver) m1 m2 cnow := planS.anyOk hnD (fun b hl hh => by omega)
    have hxD6 : planC w6 (fun b => w1.heap.size + 3 < b ∧ b ≠ D) (.int .i64 p.ver) y1 y2 p := planS.anyOk hxD (fun b hl hh => by omega)
    have hnD7 := FR7.rep' hnD6 (fun b hb => .inl hb.2)
    have hxD7 := FR7.rep' hxD6 (fun b hb => .inl hb.2)
    have hC7 := FR7.blk hC6 (.inl (by omega))
    have hT7 := FR7.blk hT6 (.inl (by omega))
    have hR7 := FR7.blk hR6 (.inl (by omega))
    have hH7 := FR7.blk hH6 (.inl (by omega))
    have hM7 := hM6.keep (FR7.keep _ hM6.lt (by omega))
    have hO7 := FR7.row' hO6 (fun b hb => .inl (by omega))
    have hod7 := hod6.frmR FR7 (fun k hk => .inl (by
      rcases hk with hk | hk
      · have := hoa2 k hk; omega
      · have := hk.1; omega))
    have hB7 := hB6.trans FR7.below
    have hs7 : (((((((((w6.setCell ⟨D, 0, none⟩ (.int .i64 3)).setCell ⟨D, 1, none⟩ (.int .i64 cnow.ver)).setCell ⟨D, 2, none⟩ (m1)).setCell ⟨D, 3, none⟩ (m2)).setCell ⟨D, 4, none⟩ (.int .i64 p.ver)).setCell ⟨D, 5, none⟩ (y1)).setCell ⟨D, 6, none⟩ (y2)).setCell ⟨D, 7, none⟩ (.int .i64 dnum)).setCell ⟨D, 8, none⟩ (.slice ua 0 uc)).heap.size = w6.heap.size := by simp
    have hk7 := ctlS.mk_ (c := ⟨3, cnow, p, dnum, []⟩) hst6 hnu6 hnD7 hxD7 hwD.nilAny
    simp only [List.length_nil] at hk7
    obtain ⟨d1, d2⟩ := hD6.cells
    obtain ⟨t1, t2⟩ := hT6.cells
    have hDC : D ≠ w1.heap.size := by omega
    have hDT : D ≠ w.heap.size := by omega
    have hcl6 : w1.heap.size < w6.heap.size := by omega
    have htl6 : w.heap.size < w6.heap.size := by omega
    clear FR7 hC6 hT6 hR6 hD6 hnD hxD hnD6 hxD6 hwD hH6 hM6 hO6 hod6
    go_wp2_with fail
    --CUT5
    clear d1 d2 t1 t2 lpd0 lpd1 lpd2 lqd0 lqd1 lqd2 lmd0 lmd1 lmd2 lyd0 lyd1 lyd2
    generalize (((((((((w6.setCell ⟨D, 0, none⟩ (.int .i64 3)).setCell ⟨D, 1, none⟩ (.int .i64 cnow.ver)).setCell ⟨D, 2, none⟩ (m1)).setCell ⟨D, 3, none⟩ (m2)).setCell ⟨D, 4, none⟩ (.int .i64 p.ver)).setCell ⟨D, 5, none⟩ (y1)).setCell ⟨D, 6, none⟩ (y2)).setCell ⟨D, 7, none⟩ (.int .i64 dnum)).setCell ⟨D, 8, none⟩ (.slice ua 0 uc)) = w7 at *
    have hDr := ctlDrop_c ⟨3, cnow, p, dnum, []⟩ t _ _ _ okt w7 hk7 (topoS.below hT hB7) (CtlGood.mk (c := ⟨3, cnow, p, dnum, []⟩) hcalm.out.held.good HP.out.gd (by simp)).small
    have hS3 := step3 hcalm.out hj HP.out HS2.out
    generalize ctlDrop ⟨3, cnow, p, dnum, []⟩ t = X3 at *
    obtain ⟨⟨xst, xnow, xnext, xnum, xws⟩, xo, xe⟩ := X3
    have HS3 := Lib.hid hS3
    clear hS3
    refine hDr.mono ?_
    rintro e w8 ⟨ho, hb8⟩
    have herr := HS3.out.err
    obtain ⟨e0, e1, e2, g0, g1, g2, ea, ec, oa3, oc3, rfl, hxs, hxn, hnX, hxX, hwX, hdr⟩ := ho.open_ herr
    dsimp only at hxs hxn hnX hxX hwX hdr ⊢
    clear hDr ho herr
    obtain ⟨lpx0, lpx1, lpx2⟩ := planC.st (P := Try.prog) hnX
    obtain ⟨lqx0, lqx1, lqx2⟩ := planC.st (P := Try.prog) hxX
    obtain ⟨lmx0, lmx1, lmx2⟩ := planC.one hnX
    obtain ⟨lyx0, lyx1, lyx2⟩ := planC.one hxX
    have hb9 : Below w8.heap.size w8 (w8.alloc (.cells #[.int .i64 xst, e0, e1, e2, g0, g1, g2, .int .i64 xnum, .slice ea xws.length ec] 32)) := by (repeat' (first | with_reducible exact Below.refl _ _ | with_reducible assumption | with_reducible refine Below.drew ?_ | with_reducible refine Below_drewN ?_ _ | with_reducible refine Below.alloc ?_ ?_ _ | with_reducible refine Below.setCell ?_ ?_ _ | omega | (simp; done) | (simp; omega)))
    have hX9 : blockIs (w8.alloc (.cells #[.int .i64 xst, e0, e1, e2, g0, g1, g2, .int .i64 xnum, .slice ea xws.length ec] 32)) w8.heap.size 32 #[.int .i64 xst, e0, e1, e2, g0, g1, g2, .int .i64 xnum, .slice ea xws.length ec] := blockIs.new rfl
    have hC9 := (hC7.under hb8).under hb9
    have hT9 := (hT7.under hb8).under hb9
    have hR9 := (hR7.under hb8).under hb9
    have hH9 := (hH7.under hb8).under hb9
    have hM9 := (hM7.underR hb8).underR hb9
    have hO9 := (hO7.below hb8).below hb9
    have hod9 := (hod7.below hb8).below hb9
    have hs8 := hb8.size
    have hdl7 := hD7.lt
    have hB9 := (hB7.trans (hb8.mono hB7.size)).trans (hb9.mono (by have := hB7.size; omega))
    have hk9 := ctlS.below (ctlS.anyOk (ctlS.mk_ (c := ⟨xst, xnow, xnext, xnum, xws⟩) hxs hxn hnX hxX hwX) (ok' := fun b => w7.heap.size ≤ b ∧ b ≠ w8.heap.size) (fun b hl hh => by omega)) hb9
    have hdr9 := hdr.below hb9
    have hs9 : (w8.alloc (.cells #[.int .i64 xst, e0, e1, e2, g0, g1, g2, .int .i64 xnum, .slice ea xws.length ec] 32)).heap.size = w8.heap.size + 1 := by simp
    have hDX : D < w8.heap.size := by omega
    obtain ⟨t1, t2⟩ := hT9.cells
    have htl9 := hT9.lt
    have hRo2 := falling_rounds (a := xnum) HP.out.topo hcalm.out.held.good HP.out.gd
    have HRo2 := Lib.hid hRo2
    dsimp only at HRo2
    clear hC7 hD7 hT7 hR7 hk7 hb8 hb9 hnX hxX hwX hB7 hRo2 hH7 hM7 hO7 hod7 hdr
    go_wp2_with fail
    --CUT6
    generalize w8.alloc (.cells #[.int .i64 xst, e0, e1, e2, g0, g1, g2, .int .i64 xnum, .slice ea xws.length ec] 32) = w9 at *
    clear lpx0 lpx1 lpx2 lqx0 lqx1 lqx2 lmx0 lmx1 lmx2 lyx0 lyx1 lyx2 t1 t2
    generalize hXX : w8.heap.size = X at *
    have hr0 : 0 ≤ cnum := hcalm.out.lo
    have hr1 : rnum ≤ 32 * (j : Int) + 16 := HS1.out.hi
    have hr2 : cnum ≤ rnum := by have h : rnum = cnum + (out.length : Int) := HS1.out.told.num; omega
    have hr3 : rnum ≤ dnum := by have h : dnum = rnum + (o.flatten.length : Int) := HS2.out.told.num; omega
    have hr4 : xnum ≤ 32 * (j : Int) + 32 := HS3.out.hi
    have hr5 : dnum ≤ 32 * (j : Int) + 24 := HS2.out.hi
    have hr6 : dnum ≤ xnum := by have h : xnum = dnum + (xo.length : Int) := HS3.out.told.num; omega
    have hh1 : HadBut cnum rnum ents := fun e he => .inl (hE.out e he)
    have hxl9 := hX9.lt
    refine (had_c t cnum rnum out HS1.out.told hr0 (by omega) w9 oa oc w.heap.size (w1.heap.size + 1 + 1) (w1.heap.size + 1) la _ lc ents (hO9.anyOk (fun b _ hh => by omega)) hT9 hH9 hM9 hh1 (by omega) (by omega)).mono ?_
    rintro e wa ⟨rfl, ⟨ents1, hMa, hE1⟩, FRa⟩
    have hCa := FRa.blk hC9 (.inl (by omega))
    have hTa := FRa.blk hT9 (.inl (by omega))
    have hRa := FRa.blk hR9 (.inl (by omega))
    have hHa := FRa.blk hH9 (.inl (by omega))
    have hXa := FRa.blk hX9 (.inl (by omega))
    have hka := FRa.rep' hk9 (fun b hb => .inl (by omega))
    have hdra := FRa.row' hdr9 (fun b hb => .inl (by omega))
    have hoda := hod9.frmR FRa (fun k hk => .inl (by
      rcases hk with hk | hk
      · have := hoa2 k hk; omega
      · have := hk.1; omega))
    have hBa := hB9.trans (FRa.below.mono (by omega : w.heap.size ≤ w1.heap.size + 1))
    have hsa := FRa.size
    have hEE1 : Hid (∀ e ∈ ents1, e.1 ≤ rnum) := fun e he => by
      rcases hE1 e he with h | ⟨_, h⟩
      · have := hE.out e h; omega
      · exact h
    clear hC9 hT9 hR9 hH9 hX9 hk9 hdr9 hod9 hB9 hO9 hM9 hh1 FRa hE1
    go_wp2_with fail
    --CUT7
    have hh2 : HadBut dnum xnum ents1 := fun e he => .inl (by have := hEE1.out e he; omega)
    refine (had_c t dnum xnum xo HS3.out.told (by omega) (by omega) wa oa3 oc3 w.heap.size (w1.heap.size + 1 + 1) (w1.heap.size + 1) la _ lc ents1 (hdra.anyOk (fun b _ hh => by omega)) hTa hHa hMa hh2 (by omega) (by omega)).mono ?_
    rintro e wb ⟨rfl, ⟨ents2, hMb, hE2⟩, FRb⟩
    have hCb := FRb.blk hCa (.inl (by omega))
    have hTb := FRb.blk hTa (.inl (by omega))
    have hRb := FRb.blk hRa (.inl (by omega))
    have hHb := FRb.blk hHa (.inl (by omega))
    have hXb := FRb.blk hXa (.inl (by omega))
    have hkb := FRb.rep' hka (fun b hb => .inl (by omega))
    have hodb := hoda.frmR FRb (fun k hk => .inl (by
      rcases hk with hk | hk
      · have := hoa2 k hk; omega
      · have := hk.1; omega))
    have hBb := hBa.trans (FRb.below.mono (by omega : w.heap.size ≤ w1.heap.size + 1))
    have hsb := FRb.size
    have hEE2 : Hid (∀ e ∈ ents2, e.1 ≤ rnum ∨ (dnum < e.1 ∧ e.1 ≤ xnum)) := fun e he => by
      rcases hE2 e he with h | h
      · exact .inl (hEE1.out e h)
      · exact .inr h
    clear hCa hTa hRa hHa hXa hka hdra hoda hBa hMa hh2 FRb hE2
    obtain ⟨x1', x2'⟩ := hXb.cells
    obtain ⟨t1, t2⟩ := hTb.cells
    have hxlb := hXb.lt
    have htlb := hTb.lt
    have HE1 := hEE1
    clear HE1
    go_wp2_with fail
    --CUT8
    clear x1' x2' t1 t2
    refine (settle_c _ t HRo2.out wb ⟨xst, xnow, xnext, xnum, xws⟩ _ _ hkb _ okt (topoS.below hT hBb) ps pa pc okp (hpk.below hBb) ⟨HS3.out.fall, Nat.zero_le _⟩).mono ?_
    rintro e w10 ⟨i2, y, o2, ks2, oa4, oc4, rfl, ⟨hfa, hi2⟩, hyw, hky, hoy, hb10⟩
    obtain ⟨r0, r1, r2, s0, s1, s2, ra, rc, rfl, hsty, hnuy, hnY, hxY, hwY⟩ := ctlS.open_ hky
    have HS4 := Lib.hid (step4 HP.out HS2.out HS3.out hfa hi2 hyw)
    have q1 := HS4.out.stage
    have q2 := HS4.out.now.symm
    have q3 := HS4.out.calm.next
    have hol2 : o2.length ≤ 17 := HS4.out.len
    have hyn : xnum = y.num := hfa.num.symm
    obtain ⟨rfl, hnvy⟩ := hnY.ver
    obtain ⟨yst, ynow, ynext, ynum, yws⟩ := y
    dsimp only at *
    subst q1 q2 q3 hyw
    obtain rfl : s0 = .int .i64 0 := hxY.ver.1
    have HYN := Lib.hid hyn
    clear hyn
    simp only [List.length_nil]
    have hC10 := hCb.under hb10
    have hT10 := hTb.under hb10
    have hR10 := hRb.under hb10
    have hH10 := hHb.under hb10
    have hX10 := hXb.under hb10
    have hM10 := hMb.underR hb10
    have hod10 := hodb.below hb10
    have hB10 := hBb.trans (hb10.mono hBb.size)
    have hs10 := hb10.size
    have hxl := hX10.lt
    have HC4 := Lib.hid HS4.out.calm
    have HNL := flat_at (show Go.St.Told t rnum dnum (o ++ o2).flatten by rw [List.flatten_append, HS4.out.still, List.append_nil]; exact HS2.out.told)
    obtain ⟨N, hN0, hNb, hNa, hNm, hNs⟩ := HNL
    have HNm := Lib.hid hNm
    have HN := Lib.hid hNs
    have HNb := Lib.hid hNb
    have HNa := Lib.hid hNa
    have HEE : Hid (∀ e ∈ ents2, e.1 ≤ N 0 ∨ (dnum < e.1 ∧ e.1 ≤ xnum)) := by rw [hN0]; exact hEE2
    clear hNs hNb hNa hN0 hNm hEE1 hEE2
    have hl10 := hoy.row (ok' := fun b => wb.heap.size ≤ b) (fun b hb => hb.1) (fun k hk => (hoy.lt k hk).1)
    obtain ⟨lpy0, lpy1, lpy2⟩ := planC.st (P := Try.prog) hnY
    obtain ⟨lqy0, lqy1, lqy2⟩ := planC.st (P := Try.prog) hxY
    obtain ⟨lmy0, lmy1, lmy2⟩ := planC.one hnY
    obtain ⟨lyy0, lyy1, lyy2⟩ := planC.one hxY
    obtain ⟨hX11, FR11⟩ := set9 hX10 (fun b => b ≠ X) w.heap.size (fun h => h rfl) (by omega) (.int .i64 0) (.int .i64 p.ver) (r1) (r2) (.int .i64 0) (s1) (s2) (.int .i64 ynum) (.slice ra 0 rc)
    have hnY10 : planC w10 (fun b => w7.heap.size ≤ b ∧ b ≠ X) (.int .i64 p.ver) r1 r2 p := planS.anyOk hnY (fun b hl hh => by omega)
    have hxY10 : planC w10 (fun b => w7.heap.size ≤ b ∧ b ≠ X) (.int .i64 0) s1 s2 noPlan := planS.anyOk hxY (fun b hl hh => by omega)
    have hnY11 := FR11.rep' hnY10 (fun b hb => .inl hb.2)
    have hxY11 := FR11.rep' hxY10 (fun b hb => .inl hb.2)
    have hC11 := FR11.blk hC10 (.inl (by omega))
    have hT11 := FR11.blk hT10 (.inl (by omega))
    have hR11 := FR11.blk hR10 (.inl (by omega))
    have hH11 := FR11.blk hH10 (.inl (by omega))
    have hM11 := hM10.keep (FR11.keep _ hM10.lt (by omega))
    have hl11 := FR11.row' hl10 (fun b hb => .inl (by omega))
    have hod11 := hod10.frmR FR11 (fun k hk => .inl (by
      rcases hk with hk | hk
      · have := hoa2 k hk; omega
      · have := hk.2.1; omega))
    have hB11 := hB10.trans FR11.below
    have hsz11 : (((((((((w10.setCell ⟨X, 0, none⟩ (.int .i64 0)).setCell ⟨X, 1, none⟩ (.int .i64 p.ver)).setCell ⟨X, 2, none⟩ (r1)).setCell ⟨X, 3, none⟩ (r2)).setCell ⟨X, 4, none⟩ (.int .i64 0)).setCell ⟨X, 5, none⟩ (s1)).setCell ⟨X, 6, none⟩ (s2)).setCell ⟨X, 7, none⟩ (.int .i64 ynum)).setCell ⟨X, 8, none⟩ (.slice ra 0 rc)).heap.size = w10.heap.size := by simp
    obtain ⟨x1', x2'⟩ := hX10.cells
    clear hfa HS4 hky hoy hb10 hnY hxY hnY10 hxY10 hCb hTb hRb hHb hXb hMb hBb hodb hC10 hT10 hR10 hX10 hB10 hH10 hM10 hod10 hl10 FR11 HRo2 HRo HS3 HS2 HG hkb HP HS1 hcalm hE
    --CUT8b
    go_upto_region 16 with fail
    --CUT9
    clear x1' x2' lpy0 lpy1 lpy2 lqy0 lqy1 lqy2 hxl
    generalize (((((((((w10.setCell ⟨X, 0, none⟩ (.int .i64 0)).setCell ⟨X, 1, none⟩ (.int .i64 p.ver)).setCell ⟨X, 2, none⟩ (r1)).setCell ⟨X, 3, none⟩ (r2)).setCell ⟨X, 4, none⟩ (.int .i64 0)).setCell ⟨X, 5, none⟩ (s1)).setCell ⟨X, 6, none⟩ (s2)).setCell ⟨X, 7, none⟩ (.int .i64 ynum)).setCell ⟨X, 8, none⟩ (.slice ra 0 rc)) = w11 at *
    obtain ⟨j0, gi, gz0, gz1, gz2⟩ := info_parts tos_info
    have hodE := hod11.weaken (ok' := oth w5.heap.size w11 oa2) (fun b h => ⟨h.1, by have := h.2.1; omega, h.2.2⟩) (fun k hk h => h.2.2 hk) (fun b h => h.2.1)
    have hsrc : srcRep (sliceS toS) (oth w5.heap.size w11 oa2) w11 oa4 o2 := (hl11.anyOk (fun b hb hh => ⟨by omega, hb, fun e => by have := hoa2 b e; omega⟩)).src
    have hbase : w5.heap.size ≤ w11.heap.size := by omega
    clear hod11 hl11
    go_wp2_with (at_builtin; go_must (refine wpList_appR (sh := sliceS toS) (base := w5.heap.size) (n := o.length) (m := o2.length) rfl _ _ 55 rfl 33 j0 (.slice none 0 0) 24 Try.underlying55 gi gz0 gz1 gz2 rfl (by decide) rfl hodE rfl rfl hsrc (by simp only [maxLen]; omega) (by omega) hbase ?_); go_must (intro oaF ocF w12 hownF hgF hdF))
    --CUT10
    have hrF : rowRep (sliceS toS) (fun b => b ≠ w1.heap.size + 1) w12 oaF ocF (o ++ o2) := hownF.row (fun b hb => by have := hb.1; omega) (fun k hk => by have := (hownF.lt k hk).1; omega)
    have hnY12 : planC w12 (fun b => w7.heap.size ≤ b) (.int .i64 p.ver) r1 r2 p := planS.mono hnY11 (fun b hb hh => ⟨hh.1, hgF.block b hb (fun e => by have := hoa2 b e.symm; omega)⟩)
    have hxY12 : planC w12 (fun b => w7.heap.size ≤ b) (.int .i64 0) s1 s2 noPlan := planS.mono hxY11 (fun b hb hh => ⟨hh.1, hgF.block b hb (fun e => by have := hoa2 b e.symm; omega)⟩)
    have hC12 := hC11.grown hgF (fun e => by have := hoa2 _ e.symm; omega)
    have hT12 := hT11.grown hgF (fun e => by have := hoa2 _ e.symm; omega)
    have hR12 := hR11.grown hgF (fun e => by have := hoa2 _ e.symm; omega)
    have hH12 := hH11.grown hgF (fun e => by have := hoa2 _ e.symm; omega)
    have hX12 := hX11.grown hgF (fun e => by have := hoa2 _ e.symm; omega)
    have hM12 := hM11.keep (hgF.block _ hM11.lt (fun e => by have := hoa2 _ e.symm; omega))
    have hB12 := hB11.trans (grown_below (B := w.heap.size) hgF (fun k hk => by have := hoa2 k hk; omega) (by omega))
    have hs12 := hgF.size
    have hOl : Hid ((o ++ o2).length = o.length + o2.length) := List.length_append
    generalize hOO : o ++ o2 = O at *
    generalize hol9 : o.length = n1 at *
    generalize hol8 : o2.length = n2 at *
    clear hOO hownF hgF hdF hodE hsrc hbase hnY11 hxY11 hC11 hT11 hR11 hH11 hX11 hM11 hB11 hol9 hol8
    go_loopw [23, 91] (fun _ idx wr => ∃ (q : Nat) (es : List (Int × Value)), idx = .int .i64 q ∧ q ≤ n1 + n2 ∧ mapIs (Value.int .i64) wr (w1.heap.size + 1) es ∧ Hid (∀ e ∈ es, e.1 ≤ N q ∨ (dnum < e.1 ∧ e.1 ≤ xnum)) ∧ Frm (fun b => b ≠ w1.heap.size + 1) (w1.heap.size + 1) w12 wr) (fun _ idx _ => (n1 + n2) - (intOf idx).toNat)
    case atStart => exact ⟨0, ents2, rfl, Nat.zero_le _, hM12, HEE, Frm.refl _ _ _⟩
    case round =>
      clear HEE hM12
      obtain ⟨q, es, rfl, hq, hMi, hEi, hF⟩ := hrel
      rename World => wi
      have hsi := hF.size
      have hTi := hF.blk hT12 (.inl (by omega))
      have hHi := hF.blk hH12 (.inl (by omega))
      by_cases hql : q < n1 + n2
      · have c1 : (q : Int) < (n1 : Int) + (n2 : Int) := by omega
        have c0 : (0 : Int) ≤ (q : Int) := by omega
        obtain ⟨k, hk⟩ : ∃ k, O[q]? = some k := ⟨_, List.getElem?_eq_getElem (by rw [hOl.out]; exact hql)⟩
        obtain ⟨fb, fo, ka, kc, rfl, hfl, hkr, hce⟩ := sliceRow_get (hF.row hrF) hk
        have e9 := hce wi (Below.refl _ _)
        have hTk := HN.out q k hk
        have hNq := HNb.out (q + 1)
        have hNq0 := HNa.out q
        have hhq : HadBut (N q) (N (q + 1)) es := fun e he => by
          rcases hEi.out e he with h | h
          · exact .inl h
          · right; omega
        have hHC := had_c t (N q) (N (q + 1)) k hTk (by omega) (by omega) wi ka kc w.heap.size (w1.heap.size + 1 + 1) (w1.heap.size + 1) la _ lc es hkr hTi hHi hMi hhq (by omega) (by omega)
        have HHC := Lib.hid hHC
        clear hce hk hTk hhq hHC hkr
        go_wp2_with fail
        refine HHC.out.mono ?_
        rintro e wn ⟨rfl, ⟨es', hMn, hEn⟩, FRn⟩
        have hE' : Hid (∀ e ∈ es', e.1 ≤ N (q + 1) ∨ (dnum < e.1 ∧ e.1 ≤ xnum)) := fun e he => by
          rcases hEn e he with h | h
          · rcases hEi.out e h with h | h
            · left
              have := HNm.out q
              omega
            · exact .inr h
          · exact .inl h.2
        clear HHC
        go_wp2
        case roundEnd =>
          go_roundw
          case rel => exact ⟨q + 1, es', by go_num, by omega, hMn, hE', hF.trans FRn⟩
          case measure => simp [intOf] <;> omega
      --CUT12
      have c1 : ¬ (q : Int) < (n1 : Int) + (n2 : Int) := by omega
      have hCi := hF.blk hC12 (.inl (by omega))
      have hXi := hF.blk hX12 (.inl (by omega))
      have hRi := hF.blk hR12 (.inl (by omega))
      have hnYi := hF.rep' hnY12 (fun b hb => .inl (by omega))
      have hxYi := hF.rep' hxY12 (fun b hb => .inl (by omega))
      have hBi := hB12.trans (hF.below.mono (by omega : w.heap.size ≤ w1.heap.size + 1))
      have hXC : X ≠ w1.heap.size := by omega
      have hXC' : w1.heap.size ≠ X := by omega
      have hcli := hCi.lt
      have hxli := hXi.lt
      obtain ⟨hCE, FRE⟩ := set9 hCi (fun b => b ≠ w1.heap.size) w.heap.size (fun h => h rfl) (by omega) (.int .i64 0) (.int .i64 p.ver) (r1) (r2) (.int .i64 0) (s1) (s2) (.int .i64 ynum) (.slice ra 0 rc)
      have hnYE : planC _ (fun b => b ≠ w1.heap.size ∧ b ≠ w1.heap.size + 1) (.int .i64 p.ver) r1 r2 p := planS.anyOk (FRE.rep' hnYi (fun b hb => .inl (by omega))) (fun b _ hh => by omega)
      have hxYE : planC _ (fun b => b ≠ w1.heap.size ∧ b ≠ w1.heap.size + 1) (.int .i64 0) s1 s2 noPlan := planS.anyOk (FRE.rep' hxYi (fun b hb => .inl (by omega))) (fun b _ hh => by omega)
      have hTE := FRE.blk hTi (.inl (by omega))
      have hRE := FRE.blk hRi (.inl (by omega))
      have hHE := FRE.blk hHi (.inl (by omega))
      have hME := hMi.keep (FRE.keep _ hMi.lt (by omega))
      have hBE := hBi.trans FRE.below
      have hEY : Hid (∀ e ∈ es, e.1 ≤ ynum) := fun e he => by
        rw [← HYN.out]
        rcases hEi.out e he with h | h
        · have := HNb.out q; omega
        · exact h.2
      obtain ⟨lpy0, lpy1, lpy2⟩ := planC.st (P := Try.prog) hnYi
      obtain ⟨lqy0, lqy1, lqy2⟩ := planC.st (P := Try.prog) hxYi
      obtain ⟨k1', k2'⟩ := hCi.cells
      obtain ⟨x1', x2'⟩ := hXi.cells
      clear hCi hXi hRi hnYi hxYi hBi hTi hHi hMi FRE hC12 hX12 hR12 hnY12 hxY12 hB12 hT12 hH12 hEi hrF hF hs4 hs5 hs6 hs7 hs8 hs9 hs10 hDD hXX hDX hsa hsb hs12 hsz11
      --CUT13
      go_wp2
      case roundEnd =>
        go_roundw
        case rel => exact ⟨j + 1, es, ⟨0, p, noPlan, ynum, []⟩, .int .i64 p.ver, r1, r2, .int .i64 0, s1, s2, ra, rc, by go_num, by omega, HC4, hCE, hsty, hnuy, hnYE, hxYE, hwY.nilAny, hME, hEY, hHE, hRE, hTE, hBE⟩
        case measure => simp [intOf] <;> omega

end Go.Proofs.Ytagldmdeohenjaa
