/-
  The walk of control.stamps: the orders of the second step.
-/
import Derived.Test.YtagldmdeohenjaaBeganW
import Derived.Test.YtagldmdeohenjaaPutR
import Derived.Test.YtagldmdeohenjaaCopyW
import Derived.Test.YtagldmdeohenjaaSlices
import Derived.WalkKit
import Derived.WalkSpells
import Derived.WalkLawsBesides
import Derived.Lib.Hide
import Derived.Deep.LoopGhost
import Derived.Deep.QuietTactic
import Derived.BigQuiet
import Derived.Deep.RegionWith
import Derived.Handy
set_option linter.unusedSimpArgs false
set_option linter.unusedVariables false
namespace Go.St
open Go.RowKit
theorem idxs_step {s : Int} {l : List Flow} {j : Nat} {f : Flow} (h : l[j]? = some f) : idxFrom s (j : Int) (l.drop j) = (if f.src = s then [(j : Int)] else []) ++ idxFrom s ((j + 1 : Nat) : Int) (l.drop (j + 1)) := by
  obtain ⟨h1, rfl⟩ := List.getElem?_eq_some_iff.1 h
  rw [List.drop_eq_getElem_cons h1, idxFrom]; rfl
theorem idxs_end {s : Int} {l : List Flow} {j : Nat} (h : l.length ≤ j) : idxFrom s (j : Int) (l.drop j) = [] := by
  rw [List.drop_of_length_le h]; rfl
/-- an order in its cells as a source -/
theorem to_src {w : World} {b : Nat} {e : TypeId} {x : To} {ra fa : Option Addr} {rc fc : Nat} {ok : Nat → Prop} (h : blockIs w b e #[.int .i64 x.sw, .int .i64 x.order.kind, .int .i64 x.order.num, .int .i64 x.order.ver, .slice ra x.order.rules.length rc, .slice fa x.order.flows.length fc])
    (h1 : I64 x.sw) (h2 : I64 x.order.kind) (h3 : I64 x.order.num) (h4 : I64 x.order.ver) (hr : rowRep ruleS ok w ra rc x.order.rules) (hf : rowRep intS ok w fa fc x.order.flows) : srcRep toS ok w (some ⟨b, 0, none⟩) [x] := by
  refine .inr ⟨b, 0, rfl, fun i y hy => ?_⟩
  match i, hy with
  | 0, hy =>
    obtain rfl : x = y := by simpa using hy
    refine ⟨_, ⟨_, rfl, h1, ra, rc, fa, fc, rfl, h2, h3, h4, hr, hf⟩, fun j c hc => ?_⟩
    simp only [Nat.zero_mul, Nat.zero_add]
    rw [h.cells.1 j]
    simpa using hc
  | i + 1, hy => simp at hy
/-- what is read where an order of stamps is made -/
def SS (p cb o : Nat) (s : Int) (x : Value) (w : World) : Prop := w.cell? ⟨p, 0, none⟩ = some (.int .i64 s) ∧ w.cell? ⟨cb, o, none⟩ = some x
theorem SS.under {p cb o N : Nat} {s : Int} {x : Value} {w w' : World} (h : SS p cb o s x w) (h1 : p < N) (h2 : cb < N) (hb : Below N w w') : SS p cb o s x w' := ⟨cell_at hb h1 h.1, cell_at hb h2 h.2⟩
theorem SS.of {w : World} {p cb : Nat} {tp tc : TypeId} {s : Int} {a0 a1 a2 a3 a4 a5 a6 a7 a8 : Value} (hK : blockIs w p tp #[.int .i64 s]) (hC : blockIs w cb tc #[a0, a1, a2, a3, a4, a5, a6, a7, a8]) : SS p cb 4 s a4 w := ⟨hK.cells.1 0, hC.cells.1 4⟩
theorem oth.inner {α : Type} {sh : Shape α} {lo M : Nat} {w : World} {ao ax : Option Addr} {cap : Nat} {xs : List α} (h : rowRep sh (fun b => M ≤ b) w ax cap xs) (hB : lo ≤ M) (hk : ∀ k, blk ao = some k → k < M) : rowRep sh (oth lo w ao) w ax cap xs :=
  h.mono (fun b hb hh => ⟨⟨Nat.le_trans hB hh, hb, fun e => by have hh' : M ≤ b := hh; have := hk b e; omega⟩, rfl⟩)
end Go.St
namespace Go.Proofs.Ytagldmdeohenjaa
open Go.RowKit Go.St

theorem info_to : (Try.prog.info? 41).map (fun i => (i.zero, i.size, i.bytes)) = some (some (.agg #[.int .i64 0, .int .i64 0, .int .i64 0, .int .i64 0, .slice none 0 0, .slice none 0 0]), 6, 80) := by kernel_rfl

set_option maxRecDepth 100000 in
set_option maxHeartbeats 16000000 in
theorem stamps_c (c : Ctl) (t : Topo) (ts : List Value) (ok okt : Nat → Prop) (cb : Nat) (n0 n1 n2 x0 x1 x2 : Value) (wa : Option Addr) (wl wc : Nat) (st num : Int) (w : World)
    (hC : blockIs w cb 32 #[.int .i64 st, n0, n1, n2, x0, x1, x2, .int .i64 num, .slice wa wl wc]) (hn : planC w ok n0 n1 n2 c.now) (hx : planC w ok x0 x1 x2 c.next) (ht : topoS.rep okt w ts t) (ht0 : 0 ≤ t.n) (ht8 : t.n ≤ 8) (hsm : PlanSmall c.next) :
    Calls Try.prog 41 #[.pointer (some ⟨cb, 0, none⟩), .agg ts.toArray] w fun e w' => ∃ (oa : Option Addr) (oc : Nat), e = .returned (.slice oa (stampsOf c t).length oc) ∧
      ownR toS 41 (oth (w.heap.size + 1) w' oa) (w.heap.size + 1) w' oa (stampsOf c t).length oc (stampsOf c t) ∧ Below w.heap.size w w' := by
  obtain ⟨la, lc, rfl, htn, htr⟩ := ht
  obtain ⟨fa, fc, pa, pc, hxe, hxv, hxf, hxp⟩ := hx
  injection hxe with e1 hxe; subst e1
  injection hxe with e1 hxe; subst e1
  injection hxe with e1 hxe; subst e1
  clear hxe
  obtain ⟨ga, gc, qa, qc, hne, hnv, hnf, hnp⟩ := hn
  injection hne with e1 hne; subst e1
  injection hne with e1 hne; subst e1
  injection hne with e1 hne; subst e1
  clear hne
  obtain ⟨n, htN⟩ : ∃ n : Nat, t.n = (n : Int) := ⟨t.n.toNat, by omega⟩
  have hso : stampsOf c t = over (stampAt c) n := by unfold stampsOf; rw [htN]; rfl
  have HSO : Hid (∀ os, os = over (stampAt c) n → stampsOf c t = os) := fun os h => by rw [h]; exact hso
  generalize stampsOf c t = R at *
  clear hso
  have hlf := hsm.fls
  clear hsm
  obtain ⟨tn, tl⟩ := t
  obtain ⟨cst, cnow, cnext, cnum, cws⟩ := c
  obtain ⟨nv, gls, nps⟩ := cnow
  obtain ⟨xv, fls, xps⟩ := cnext
  dsimp only at *
  subst htN
  have HSA : Hid (∀ s : Nat, stampAt ⟨cst, ⟨nv, gls, nps⟩, ⟨xv, fls, xps⟩, cnum, cws⟩ s = if idxFrom s 0 fls = [] ∧ began s gls = false then [] else [⟨s, ⟨2, 0, xv, [], idxFrom s 0 fls⟩⟩]) := fun s => rfl
  have HOZ : Hid (([] : List To) = over (stampAt ⟨cst, ⟨nv, gls, nps⟩, ⟨xv, fls, xps⟩, cnum, cws⟩) 0) := rfl
  have HOS : Hid (∀ (s : Nat) os, os = over (stampAt ⟨cst, ⟨nv, gls, nps⟩, ⟨xv, fls, xps⟩, cnum, cws⟩) s → ∀ q, stampAt ⟨cst, ⟨nv, gls, nps⟩, ⟨xv, fls, xps⟩, cnum, cws⟩ s = q → os ++ q = over (stampAt ⟨cst, ⟨nv, gls, nps⟩, ⟨xv, fls, xps⟩, cnum, cws⟩) (s + 1)) := fun s os h q hq => by rw [h, ← hq, over_succ]
  have HOL : Hid (∀ (s : Nat) os, os = over (stampAt ⟨cst, ⟨nv, gls, nps⟩, ⟨xv, fls, xps⟩, cnum, cws⟩) s → os.length ≤ s) := fun s os h => by rw [h]; exact over_len (stampAt_len _) s
  generalize over (stampAt ⟨cst, ⟨nv, gls, nps⟩, ⟨xv, fls, xps⟩, cnum, cws⟩) = OV at *
  generalize stampAt ⟨cst, ⟨nv, gls, nps⟩, ⟨xv, fls, xps⟩, cnum, cws⟩ = SA at *
  obtain ⟨i0, hi, hz0, hz1, hz2⟩ := info_parts info_int
  obtain ⟨j0, gi, gz0, gz1, gz2⟩ := info_parts info_to
  have hcl := hC.lt
  have hfx := hxf.len_le
  have hgx := hnf.len_le
  go_enter Try.func41, Try.ntmps41
  go_wp2
  have hB0 : Below w.heap.size w (w.alloc (.cells #[.int .i64 n, .slice la tl.length lc] 24)) := by (repeat' (first | with_reducible exact Below.refl _ _ | with_reducible assumption | with_reducible refine Below.drew ?_ | with_reducible refine Below_drewN ?_ _ | with_reducible refine Below.alloc ?_ ?_ _ | with_reducible refine Below.setCell ?_ ?_ _ | omega | (simp; done) | (simp; omega)))
  have hs0 : w.heap.size + 1 ≤ (w.alloc (.cells #[.int .i64 n, .slice la tl.length lc] 24)).heap.size := by simp
  generalize w.alloc (.cells #[.int .i64 n, .slice la tl.length lc] 24) = w0 at *
  go_loopw [5, 6, 7, 8, 9, 10, 13] (fun out _ _ _ _ _ idx wr => ∃ (s : Nat) (oa : Option Addr) (oc : Nat) (os : List To), out = .slice oa os.length oc ∧ idx = .int .i64 s ∧ s ≤ n ∧ Hid (os = OV s) ∧ ownR toS 41 (oth (w.heap.size + 1) wr oa) (w.heap.size + 1) wr oa os.length oc os ∧ Below w.heap.size w wr ∧ w.heap.size + 1 ≤ wr.heap.size) (fun _ _ _ _ _ _ idx _ => n - (intOf idx).toNat)
  case atStart => exact ⟨0, none, 0, [], rfl, rfl, Nat.zero_le _, HOZ, oth.nil _ _ _ _ _, hB0, hs0⟩
  case round =>
    clear HOZ hB0 hs0
    obtain ⟨s, oa, oc, os, rfl, rfl, hs, hos, hO, hb, hs1⟩ := hrel
    rename World => wo
    have hon := HOL.out s os hos.out
    by_cases hlt : s < n
    case neg =>
      obtain rfl : s = n := by omega
      have HR := Lib.hid (HSO.out os hos.out)
      have b1 : ¬ (s : Int) < (s : Int) := by omega
      clear hos hlt
      go_wp2
      obtain rfl := HR.out
      go_ret; exact ⟨oa, oc, rfl, hO, hb⟩
    have b0 : (0 : Int) ≤ (s : Int) := by omega
    have b1 : (s : Int) < (n : Int) := by omega
    have hC1 := hC.below hb hcl
    obtain ⟨c1, c2⟩ := hC1.cells
    have hcl1 := hC1.lt
    have hob : Below wo.heap.size wo (wo.alloc (.cells #[.int .i64 s] 3)) := by (repeat' (first | with_reducible exact Below.refl _ _ | with_reducible assumption | with_reducible refine Below.drew ?_ | with_reducible refine Below_drewN ?_ _ | with_reducible refine Below.alloc ?_ ?_ _ | with_reducible refine Below.setCell ?_ ?_ _ | omega | (simp; done) | (simp; omega)))
    have hK : blockIs (wo.alloc (.cells #[.int .i64 s] 3)) wo.heap.size 3 #[.int .i64 s] := blockIs.new rfl
    have hC2 := hC1.under hob
    have hO2 := oth.below hO hob
    have hb2 := hb.trans (hob.mono hb.size)
    have hoz : ∀ k, blk oa = some k → k < wo.heap.size := fun k hk => (hO.lt k hk).2
    have hpz : wo.heap.size < (wo.alloc (.cells #[.int .i64 s] 3)).heap.size := by simp
    clear hO c1 c2 hC1 hcl1
    obtain ⟨c1, c2⟩ := hC2.cells
    obtain ⟨k1, k2⟩ := hK.cells
    go_wp2
    generalize wo.alloc (.cells #[.int .i64 s] 3) = w6 at *
    generalize hp : wo.heap.size = p at *
    have hcl2 := hC2.lt
    clear hp hob hb
    have hst : Hid (([] : List Int) ++ idxFrom s ((0 : Nat) : Int) (fls.drop 0) = idxFrom s 0 fls) := rfl
    go_loopw [7, 8, 9, 22] (fun lv _ _ idx wr => ∃ (j : Nat) (va : Option Addr) (vc : Nat) (ls : List Int), lv = .slice va ls.length vc ∧ idx = .int .i64 j ∧ j ≤ fls.length ∧ Hid (ls ++ idxFrom s (j : Int) (fls.drop j) = idxFrom s 0 fls) ∧ ls.length ≤ j ∧ ownR intS 3 (fun _ => False) w6.heap.size wr va ls.length vc ls ∧ Below w6.heap.size w6 wr) (fun _ _ _ idx _ => fls.length - (intOf idx).toNat)
    case atStart => exact ⟨0, none, 0, [], rfl, rfl, Nat.zero_le _, hst, Nat.zero_le _, ownR.nil' _ _ _ _, Below.refl _ _⟩
    case round =>
    clear hst
    obtain ⟨j, va, vc, ls, rfl, rfl, hj, hS, hln, hV, hb3⟩ := hrel
    rename World => wi
    have hwi := hb3.size
    by_cases hjl : j < fls.length
    case neg =>
      have HI0 : Hid (idxFrom s 0 fls = ls) := by show _ = _; have := hS.out; rw [idxs_end (by omega), List.append_nil] at this; exact this.symm
      have g1 : ¬ (j : Int) < (fls.length : Int) := by omega
      have hC3 := hC2.under hb3
      have hK3 := hK.under hb3
      have hO3 := oth.below hO2 hb3
      have hb4 := hb2.trans (hb3.mono hb2.size)
      have HSA1 := Lib.hid (HSA.out s)
      have HOS1 := Lib.hid (HOS.out s os hos.out)
      have hCF := containsFrom_c gls s p ok ga gc wi (hnf.below hb4) (hK3.cells.1 0) hK3.lt
      have HCF := Lib.hid hCF
      clear hS hjl hCF HSA HOS hos c1 c2 k1 k2
      obtain ⟨c1, c2⟩ := hC3.cells
      obtain ⟨k1, k2⟩ := hK3.cells
      have hcl3 := hC3.lt
      have hkl3 := hK3.lt
      go_wp2_with fail
      refine HCF.out.mono ?_
      rintro e w4 ⟨rfl, hb5⟩
      have hC4 := hC3.under hb5
      have hK4 := hK3.under hb5
      have hO4 := oth.below hO3 hb5
      have hV4 := hV.below hb5
      have hb6 := hb4.trans (hb5.mono hb4.size)
      have hw4 := hb5.size
      clear hC3 hK3 hO3 hV hb4 hb5 HCF c1 c2 k1 k2 hC2 hK hO2 hb2 hb3 hcl3 hkl3
      obtain ⟨c1, c2⟩ := hC4.cells
      obtain ⟨k1, k2⟩ := hK4.cells
      have hcl3 := hC4.lt
      have hkl3 := hK4.lt
      by_cases hno : ls = [] ∧ began s gls = false
      case pos =>
        obtain ⟨rfl, h2⟩ := hno
        have HE := Lib.hid (HOS1.out [] (by rw [HSA1.out, HI0.out]; exact if_pos ⟨rfl, h2⟩))
        rw [h2]
        clear h2
        go_wp2
        case roundEnd =>
          go_roundw
          case rel => exact ⟨s + 1, oa, oc, os, rfl, by go_num, by omega, by have := HE.out; rw [List.append_nil] at this; exact this, hO4, hb6, by omega⟩
          case measure => simp [intOf] <;> omega
      have HE := Lib.hid (HOS1.out [⟨s, ⟨2, 0, xv, [], ls⟩⟩] (by rw [HSA1.out, HI0.out]; exact if_neg hno))
      have hsI : I64 (s : Int) := ⟨by omega, by omega⟩
      have htail : ∀ (Q : Exit → Act → World → Prop), True := fun _ => trivial
      clear htail HOS1 HSA1 HI0
      by_cases hl0 : ls = []
      case' neg =>
        have hl1 : decide ((ls.length : Int) > 0) = true := by rw [decide_eq_true_iff]; have := List.length_pos_iff.2 hl0; omega
        have hl2 : (0 : Int) < (ls.length : Int) := by have := List.length_pos_iff.2 hl0; omega
        have hl3 : 0 < ls.length := List.length_pos_iff.2 hl0
      case' pos =>
        have hbg : began s gls = true := by
          cases hq : began s gls
          · exact absurd ⟨hl0, hq⟩ hno
          · rfl
        rw [hbg]
        subst hl0
        clear hbg
        have hV4 : ownR intS 3 (fun _ => False) w6.heap.size w4 va 0 vc [] := hV4
      · clear hno
        go_wp2
        have hS0 : SS p cb 4 s (.int .i64 xv) w4.drew := ⟨hK4.cells.1 0, hC4.cells.1 4⟩
        refine wp_region_to (SS p cb 4 s (.int .i64 xv)) 99 (fun a0 a' w' => ∃ v5 v49 v50 v51 v52 v53 v54 v55 v56 v57 v58 v59 v60, a' = puts a0 [(5, v5), (49, v49), (50, v50), (51, v51), (52, v52), (53, v53), (54, v54), (55, v55), (56, v56), (57, v57), (58, v58), (59, v59), (60, v60)] ∧ ∃ oa' oc', v5 = .slice oa' (os.length + 1) oc' ∧ ownR toS 41 (oth (w.heap.size + 1) w' oa') (w.heap.size + 1) w' oa' (os.length + 1) oc' (os ++ [⟨s, ⟨2, 0, xv, [], []⟩⟩]) ∧ Below w.heap.size w w' ∧ w.heap.size + 1 ≤ w'.heap.size) (by kernel_rfl) ?_ ?_
        · intro Q' hR hQp
          have hb0 : Below w4.heap.size w4 w4.drew := by (repeat' (first | with_reducible exact Below.refl _ _ | with_reducible assumption | with_reducible refine Below.drew ?_ | with_reducible refine Below_drewN ?_ _ | with_reducible refine Below.alloc ?_ ?_ _ | with_reducible refine Below.setCell ?_ ?_ _ | omega | (simp; done) | (simp; omega)))
          have hS : SS p cb 4 s (.int .i64 xv) w4.drew := hS0
          generalize w4.drew = wa at *
          have hCa := hC4.under hb0
          have hKa := hK4.under hb0
          have hOa := oth.below hO4 hb0
          have hVa := hV4.below hb0
          have hBa := hb6.trans (hb0.mono hb6.size)
          have hsa := hb0.size
          refine wpAnyK_take' (i := 0) _ rfl (by kernel_rfl) (fun _ _ _ h => hQp _ _ _ _ h) hS (yields_value (by kernel_rfl) (by intro w0 hw0; have hw1 := hw0; simp only [SS] at hw1; first | (go_simp; done) | (go_simp; rfl))) ?_; simp only [Act.put, List.getElem_toArray, List.getElem_cons_succ, List.getElem_cons_zero, List.setIfInBounds_toArray, List.set_cons_succ, List.set_cons_zero]
          refine wpAnyK_take' (i := 1) _ rfl (by kernel_rfl) (fun _ _ _ h => hQp _ _ _ _ h) hS (yields_value (by kernel_rfl) (by intro w0 hw0; have hw1 := hw0; simp only [SS] at hw1; first | (go_simp; done) | (go_simp; rfl))) ?_; simp only [Act.put, List.getElem_toArray, List.getElem_cons_succ, List.getElem_cons_zero, List.setIfInBounds_toArray, List.set_cons_succ, List.set_cons_zero]
          refine wpAnyK_take' (i := 2) _ rfl (by kernel_rfl) (fun _ _ _ h => hQp _ _ _ _ h) hS (yields_value (by kernel_rfl) (by intro w0 hw0; have hw1 := hw0; simp only [SS] at hw1; first | (go_simp; done) | (go_simp; rfl))) ?_; simp only [Act.put, List.getElem_toArray, List.getElem_cons_succ, List.getElem_cons_zero, List.setIfInBounds_toArray, List.set_cons_succ, List.set_cons_zero]
          refine wpAnyK_take' (i := 7) _ rfl (by kernel_rfl) (fun _ _ _ h => hQp _ _ _ _ h) hS (yields_value (by kernel_rfl) (by intro w0 hw0; have hw1 := hw0; simp only [SS] at hw1; first | (go_simp; done) | (go_simp; rfl))) ?_; simp only [Act.put, List.getElem_toArray, List.getElem_cons_succ, List.getElem_cons_zero, List.setIfInBounds_toArray, List.set_cons_succ, List.set_cons_zero]
          refine wpAnyK_take' (i := 3) _ rfl (by kernel_rfl) (fun _ _ _ h => hQp _ _ _ _ h) hS (yields_value (by kernel_rfl) (by intro w0 hw0; have hw1 := hw0; simp only [SS] at hw1; first | (go_simp; done) | (go_simp; rfl))) ?_; simp only [Act.put, List.getElem_toArray, List.getElem_cons_succ, List.getElem_cons_zero, List.setIfInBounds_toArray, List.set_cons_succ, List.set_cons_zero]
          refine wpAnyK_take' (i := 4) _ rfl (by kernel_rfl) (fun _ _ _ h => hQp _ _ _ _ h) hS (yields_value (by kernel_rfl) (by intro w0 hw0; have hw1 := hw0; simp only [SS] at hw1; first | (go_simp; done) | (go_simp; rfl))) ?_; simp only [Act.put, List.getElem_toArray, List.getElem_cons_succ, List.getElem_cons_zero, List.setIfInBounds_toArray, List.set_cons_succ, List.set_cons_zero]
          refine wpAnyK_take' (i := 5) _ rfl (by kernel_rfl) (fun _ _ _ h => hQp _ _ _ _ h) hS (yields_value (by kernel_rfl) (by intro w0 hw0; have hw1 := hw0; simp only [SS] at hw1; first | (go_simp; done) | (go_simp; rfl))) ?_; simp only [Act.put, List.getElem_toArray, List.getElem_cons_succ, List.getElem_cons_zero, List.setIfInBounds_toArray, List.set_cons_succ, List.set_cons_zero]
          refine wpAnyK_take' (i := 6) _ rfl (by kernel_rfl) (fun _ _ _ h => hQp _ _ _ _ h) hS (yields_value (by kernel_rfl) (by intro w0 hw0; have hw1 := hw0; simp only [SS] at hw1; first | (go_simp; done) | (go_simp; rfl))) ?_; simp only [Act.put, List.getElem_toArray, List.getElem_cons_succ, List.getElem_cons_zero, List.setIfInBounds_toArray, List.set_cons_succ, List.set_cons_zero]
          refine wpAnyK_take' (i := 8) _ rfl (by kernel_rfl) (fun _ _ _ h => hQp _ _ _ _ h) hS (yields_value (by kernel_rfl) (by intro w0 hw0; have hw1 := hw0; simp only [SS] at hw1; first | (go_simp; done) | (go_simp; rfl))) ?_; simp only [Act.put, List.getElem_toArray, List.getElem_cons_succ, List.getElem_cons_zero, List.setIfInBounds_toArray, List.set_cons_succ, List.set_cons_zero]
          refine wpAnyK_take' (i := 9) _ rfl (by kernel_rfl) (fun _ _ _ h => hQp _ _ _ _ h) hS (yields_value (by kernel_rfl) (by intro w0 hw0; have hw1 := hw0; simp only [SS] at hw1; first | (go_simp; done) | (go_simp; rfl))) ?_; simp only [Act.put, List.getElem_toArray, List.getElem_cons_succ, List.getElem_cons_zero, List.setIfInBounds_toArray, List.set_cons_succ, List.set_cons_zero]
          clear hS
          refine wpAnyK_call (i := 10) rfl (by kernel_rfl) (by kernel_rfl) fun K10 hK10 => ?_
          go_simp
          go_wp2_with fail
          have hab : Below wa.heap.size wa (wa.alloc (.cells #[.int .i64 s, .int .i64 2, .int .i64 0, .int .i64 xv, .slice none 0 0, .slice va 0 vc] 41)) := by (repeat' (first | with_reducible exact Below.refl _ _ | with_reducible assumption | with_reducible refine Below.drew ?_ | with_reducible refine Below_drewN ?_ _ | with_reducible refine Below.alloc ?_ ?_ _ | with_reducible refine Below.setCell ?_ ?_ _ | omega | (simp; done) | (simp; omega)))
          have hN : blockIs (wa.alloc (.cells #[.int .i64 s, .int .i64 2, .int .i64 0, .int .i64 xv, .slice none 0 0, .slice va 0 vc] 41)) wa.heap.size 41 #[.int .i64 s, .int .i64 2, .int .i64 0, .int .i64 xv, .slice none 0 0, .slice va 0 vc] := blockIs.new rfl
          have hCb := hCa.under hab
          have hKb := hKa.under hab
          have hOb := oth.below hOa hab
          have hVb := hVa.below hab
          have hBb := hBa.trans (hab.mono hBa.size)
          have hbz : w.heap.size + 1 ≤ (wa.alloc (.cells #[.int .i64 s, .int .i64 2, .int .i64 0, .int .i64 xv, .slice none 0 0, .slice va 0 vc] 41)).heap.size := by have := hab.size; omega
          have hS : _ := SS.of hKb hCb
          refine hK10 _ _ (fun _ => hS) ?_
          clear hK10
          clear hS
          generalize wa.alloc (.cells #[.int .i64 s, .int .i64 2, .int .i64 0, .int .i64 xv, .slice none 0 0, .slice va 0 vc] 41) = wb at *
          have hsrc : srcRep toS (oth (w.heap.size + 1) wb oa) wb (some ⟨wa.heap.size, 0, none⟩) [⟨s, ⟨2, 0, xv, [], []⟩⟩] := to_src hN hsI (show I64 2 from I64.small (by decide) (by decide)) (show I64 0 from I64.small (by decide) (by decide)) hxv (rowRep.nil _ _ _ _) (oth.inner (hVb.row (fun _ h => h.elim) (fun k hk => (hVb.lt k hk).1)) (by omega) (fun k hk => by have := hoz k hk; omega))
          refine wpAnyK_call (i := 11) rfl (by kernel_rfl) (by kernel_rfl) fun K11 hK11 => ?_
          refine wp_appR (sh := toS) (n := os.length) (m := 1) (.tmp 49) (.tmp 59) 33 (by rfl) 41 j0 (.agg #[.int .i64 0, .int .i64 0, .int .i64 0, .int .i64 0, .slice none 0 0, .slice none 0 0]) 80 Try.underlying33 gi gz0 gz1 gz2 rfl (by decide) (ok := oth (w.heap.size + 1) wb oa) (base := w.heap.size + 1) (by rfl) hOb (by rfl) rfl hsrc (by simp only [maxLen]; omega) (by omega) hbz ?_
          intro oa' oc' wc' hOc hgc hliec
          have hCc := hCb.grown hgc (fun e => by have := (hOb.lt _ e.symm).1; omega)
          have hKc := hKb.grown hgc (fun e => by have := hoz _ e.symm; omega)
          have hBc : Below w.heap.size w wc' := hBb.trans (grown_below (B := w.heap.size) hgc (fun k hk => by have := (hOb.lt k hk).1; omega) hBb.size)
          have hOd := oth.grown hOc hgc.size hliec
          have hcz : w.heap.size + 1 ≤ wc'.heap.size := Nat.le_trans hbz hgc.size
          simp only [Act.put, List.getElem_toArray, List.getElem_cons_succ, List.getElem_cons_zero, List.setIfInBounds_toArray, List.set_cons_succ, List.set_cons_zero]
          have hS : _ := SS.of hKc hCc
          refine hK11 _ _ (fun _ => hS) ?_
          clear hK11
          refine wpAnyK_take' (i := 12) _ rfl (by kernel_rfl) (fun _ _ _ h => hQp _ _ _ _ h) hS (yields_value (by kernel_rfl) (by intro w0 hw0; have hw1 := hw0; simp only [SS] at hw1; first | (go_simp; done) | (go_simp; rfl))) ?_; simp only [Act.put, List.getElem_toArray, List.getElem_cons_succ, List.getElem_cons_zero, List.setIfInBounds_toArray, List.set_cons_succ, List.set_cons_zero]
          refine wpAnyK_done (by kernel_rfl) ?_ _
          refine hR _ _ ?_
          iterate 13 apply Exists.intro
          refine ⟨?_, ⟨oa', oc', rfl, hOd, hBc, hcz⟩⟩
          simp only [puts, Act.put, List.setIfInBounds_toArray, List.set_cons_succ, List.set_cons_zero]
          rfl
        rintro a' w8 ⟨v5, v49, v50, v51, v52, v53, v54, v55, v56, v57, v58, v59, v60, rfl, hb8⟩
        simp only [puts, Act.put, List.setIfInBounds_toArray, List.set_cons_succ, List.set_cons_zero]
        clear hC4 hK4 hO4 hV4 hb6 c1 c2 k1 k2
        obtain ⟨oa', oc', rfl, hO9, hB9, hz9⟩ := hb8
        have hln : (os ++ [(⟨s, ⟨2, 0, xv, [], []⟩⟩ : To)]).length = os.length + 1 := by simp
        have hr : Value.slice oa' (os.length + 1) oc' = .slice oa' (os ++ [(⟨s, ⟨2, 0, xv, [], []⟩⟩ : To)]).length oc' := by rw [hln]
        rw [← hln] at hO9
        have HV := Lib.hid hr
        clear hln hr
        go_wp2
        case roundEnd =>
          go_roundw
          case rel => exact ⟨s + 1, oa', oc', _, HV.out, by go_num, by omega, HE, hO9, hB9, hz9⟩
          case measure => simp [intOf] <;> omega
      · clear hno
        go_wp2
        have hS0 : SS p cb 4 s (.int .i64 xv) w4.drew := ⟨hK4.cells.1 0, hC4.cells.1 4⟩
        refine wp_region_to (SS p cb 4 s (.int .i64 xv)) 99 (fun a0 a' w' => ∃ v5 v49 v50 v51 v52 v53 v54 v55 v56 v57 v58 v59 v60, a' = puts a0 [(5, v5), (49, v49), (50, v50), (51, v51), (52, v52), (53, v53), (54, v54), (55, v55), (56, v56), (57, v57), (58, v58), (59, v59), (60, v60)] ∧ ∃ oa' oc', v5 = .slice oa' (os.length + 1) oc' ∧ ownR toS 41 (oth (w.heap.size + 1) w' oa') (w.heap.size + 1) w' oa' (os.length + 1) oc' (os ++ [⟨s, ⟨2, 0, xv, [], ls⟩⟩]) ∧ Below w.heap.size w w' ∧ w.heap.size + 1 ≤ w'.heap.size) (by kernel_rfl) ?_ ?_
        · intro Q' hR hQp
          have hb0 : Below w4.heap.size w4 w4.drew := by (repeat' (first | with_reducible exact Below.refl _ _ | with_reducible assumption | with_reducible refine Below.drew ?_ | with_reducible refine Below_drewN ?_ _ | with_reducible refine Below.alloc ?_ ?_ _ | with_reducible refine Below.setCell ?_ ?_ _ | omega | (simp; done) | (simp; omega)))
          have hS : SS p cb 4 s (.int .i64 xv) w4.drew := hS0
          generalize w4.drew = wa at *
          have hCa := hC4.under hb0
          have hKa := hK4.under hb0
          have hOa := oth.below hO4 hb0
          have hVa := hV4.below hb0
          have hBa := hb6.trans (hb0.mono hb6.size)
          have hsa := hb0.size
          refine wpAnyK_take' (i := 0) _ rfl (by kernel_rfl) (fun _ _ _ h => hQp _ _ _ _ h) hS (yields_value (by kernel_rfl) (by intro w0 hw0; have hw1 := hw0; simp only [SS] at hw1; first | (go_simp; done) | (go_simp; rfl))) ?_; simp only [Act.put, List.getElem_toArray, List.getElem_cons_succ, List.getElem_cons_zero, List.setIfInBounds_toArray, List.set_cons_succ, List.set_cons_zero]
          refine wpAnyK_take' (i := 1) _ rfl (by kernel_rfl) (fun _ _ _ h => hQp _ _ _ _ h) hS (yields_value (by kernel_rfl) (by intro w0 hw0; have hw1 := hw0; simp only [SS] at hw1; first | (go_simp; done) | (go_simp; rfl))) ?_; simp only [Act.put, List.getElem_toArray, List.getElem_cons_succ, List.getElem_cons_zero, List.setIfInBounds_toArray, List.set_cons_succ, List.set_cons_zero]
          refine wpAnyK_take' (i := 2) _ rfl (by kernel_rfl) (fun _ _ _ h => hQp _ _ _ _ h) hS (yields_value (by kernel_rfl) (by intro w0 hw0; have hw1 := hw0; simp only [SS] at hw1; first | (go_simp; done) | (go_simp; rfl))) ?_; simp only [Act.put, List.getElem_toArray, List.getElem_cons_succ, List.getElem_cons_zero, List.setIfInBounds_toArray, List.set_cons_succ, List.set_cons_zero]
          refine wpAnyK_take' (i := 7) _ rfl (by kernel_rfl) (fun _ _ _ h => hQp _ _ _ _ h) hS (yields_value (by kernel_rfl) (by intro w0 hw0; have hw1 := hw0; simp only [SS] at hw1; first | (go_simp; done) | (go_simp; rfl))) ?_; simp only [Act.put, List.getElem_toArray, List.getElem_cons_succ, List.getElem_cons_zero, List.setIfInBounds_toArray, List.set_cons_succ, List.set_cons_zero]
          refine wpAnyK_take' (i := 3) _ rfl (by kernel_rfl) (fun _ _ _ h => hQp _ _ _ _ h) hS (yields_value (by kernel_rfl) (by intro w0 hw0; have hw1 := hw0; simp only [SS] at hw1; first | (go_simp; done) | (go_simp; rfl))) ?_; simp only [Act.put, List.getElem_toArray, List.getElem_cons_succ, List.getElem_cons_zero, List.setIfInBounds_toArray, List.set_cons_succ, List.set_cons_zero]
          refine wpAnyK_take' (i := 4) _ rfl (by kernel_rfl) (fun _ _ _ h => hQp _ _ _ _ h) hS (yields_value (by kernel_rfl) (by intro w0 hw0; have hw1 := hw0; simp only [SS] at hw1; first | (go_simp; done) | (go_simp; rfl))) ?_; simp only [Act.put, List.getElem_toArray, List.getElem_cons_succ, List.getElem_cons_zero, List.setIfInBounds_toArray, List.set_cons_succ, List.set_cons_zero]
          refine wpAnyK_take' (i := 5) _ rfl (by kernel_rfl) (fun _ _ _ h => hQp _ _ _ _ h) hS (yields_value (by kernel_rfl) (by intro w0 hw0; have hw1 := hw0; simp only [SS] at hw1; first | (go_simp; done) | (go_simp; rfl))) ?_; simp only [Act.put, List.getElem_toArray, List.getElem_cons_succ, List.getElem_cons_zero, List.setIfInBounds_toArray, List.set_cons_succ, List.set_cons_zero]
          refine wpAnyK_take' (i := 6) _ rfl (by kernel_rfl) (fun _ _ _ h => hQp _ _ _ _ h) hS (yields_value (by kernel_rfl) (by intro w0 hw0; have hw1 := hw0; simp only [SS] at hw1; first | (go_simp; done) | (go_simp; rfl))) ?_; simp only [Act.put, List.getElem_toArray, List.getElem_cons_succ, List.getElem_cons_zero, List.setIfInBounds_toArray, List.set_cons_succ, List.set_cons_zero]
          refine wpAnyK_take' (i := 8) _ rfl (by kernel_rfl) (fun _ _ _ h => hQp _ _ _ _ h) hS (yields_value (by kernel_rfl) (by intro w0 hw0; have hw1 := hw0; simp only [SS] at hw1; first | (go_simp; done) | (go_simp; rfl))) ?_; simp only [Act.put, List.getElem_toArray, List.getElem_cons_succ, List.getElem_cons_zero, List.setIfInBounds_toArray, List.set_cons_succ, List.set_cons_zero]
          refine wpAnyK_take' (i := 9) _ rfl (by kernel_rfl) (fun _ _ _ h => hQp _ _ _ _ h) hS (yields_value (by kernel_rfl) (by intro w0 hw0; have hw1 := hw0; simp only [SS] at hw1; first | (go_simp; done) | (go_simp; rfl))) ?_; simp only [Act.put, List.getElem_toArray, List.getElem_cons_succ, List.getElem_cons_zero, List.setIfInBounds_toArray, List.set_cons_succ, List.set_cons_zero]
          clear hS
          refine wpAnyK_call (i := 10) rfl (by kernel_rfl) (by kernel_rfl) fun K10 hK10 => ?_
          go_simp
          go_wp2_with fail
          have hab : Below wa.heap.size wa (wa.alloc (.cells #[.int .i64 s, .int .i64 2, .int .i64 0, .int .i64 xv, .slice none 0 0, .slice va ls.length vc] 41)) := by (repeat' (first | with_reducible exact Below.refl _ _ | with_reducible assumption | with_reducible refine Below.drew ?_ | with_reducible refine Below_drewN ?_ _ | with_reducible refine Below.alloc ?_ ?_ _ | with_reducible refine Below.setCell ?_ ?_ _ | omega | (simp; done) | (simp; omega)))
          have hN : blockIs (wa.alloc (.cells #[.int .i64 s, .int .i64 2, .int .i64 0, .int .i64 xv, .slice none 0 0, .slice va ls.length vc] 41)) wa.heap.size 41 #[.int .i64 s, .int .i64 2, .int .i64 0, .int .i64 xv, .slice none 0 0, .slice va ls.length vc] := blockIs.new rfl
          have hCb := hCa.under hab
          have hKb := hKa.under hab
          have hOb := oth.below hOa hab
          have hVb := hVa.below hab
          have hBb := hBa.trans (hab.mono hBa.size)
          have hbz : w.heap.size + 1 ≤ (wa.alloc (.cells #[.int .i64 s, .int .i64 2, .int .i64 0, .int .i64 xv, .slice none 0 0, .slice va ls.length vc] 41)).heap.size := by have := hab.size; omega
          have hS : _ := SS.of hKb hCb
          refine hK10 _ _ (fun _ => hS) ?_
          clear hK10
          clear hS
          generalize wa.alloc (.cells #[.int .i64 s, .int .i64 2, .int .i64 0, .int .i64 xv, .slice none 0 0, .slice va ls.length vc] 41) = wb at *
          have hsrc : srcRep toS (oth (w.heap.size + 1) wb oa) wb (some ⟨wa.heap.size, 0, none⟩) [⟨s, ⟨2, 0, xv, [], ls⟩⟩] := to_src hN hsI (show I64 2 from I64.small (by decide) (by decide)) (show I64 0 from I64.small (by decide) (by decide)) hxv (rowRep.nil _ _ _ _) (oth.inner (hVb.row (fun _ h => h.elim) (fun k hk => (hVb.lt k hk).1)) (by omega) (fun k hk => by have := hoz k hk; omega))
          refine wpAnyK_call (i := 11) rfl (by kernel_rfl) (by kernel_rfl) fun K11 hK11 => ?_
          refine wp_appR (sh := toS) (n := os.length) (m := 1) (.tmp 49) (.tmp 59) 33 (by rfl) 41 j0 (.agg #[.int .i64 0, .int .i64 0, .int .i64 0, .int .i64 0, .slice none 0 0, .slice none 0 0]) 80 Try.underlying33 gi gz0 gz1 gz2 rfl (by decide) (ok := oth (w.heap.size + 1) wb oa) (base := w.heap.size + 1) (by rfl) hOb (by rfl) rfl hsrc (by simp only [maxLen]; omega) (by omega) hbz ?_
          intro oa' oc' wc' hOc hgc hliec
          have hCc := hCb.grown hgc (fun e => by have := (hOb.lt _ e.symm).1; omega)
          have hKc := hKb.grown hgc (fun e => by have := hoz _ e.symm; omega)
          have hBc : Below w.heap.size w wc' := hBb.trans (grown_below (B := w.heap.size) hgc (fun k hk => by have := (hOb.lt k hk).1; omega) hBb.size)
          have hOd := oth.grown hOc hgc.size hliec
          have hcz : w.heap.size + 1 ≤ wc'.heap.size := Nat.le_trans hbz hgc.size
          simp only [Act.put, List.getElem_toArray, List.getElem_cons_succ, List.getElem_cons_zero, List.setIfInBounds_toArray, List.set_cons_succ, List.set_cons_zero]
          have hS : _ := SS.of hKc hCc
          refine hK11 _ _ (fun _ => hS) ?_
          clear hK11
          refine wpAnyK_take' (i := 12) _ rfl (by kernel_rfl) (fun _ _ _ h => hQp _ _ _ _ h) hS (yields_value (by kernel_rfl) (by intro w0 hw0; have hw1 := hw0; simp only [SS] at hw1; first | (go_simp; done) | (go_simp; rfl))) ?_; simp only [Act.put, List.getElem_toArray, List.getElem_cons_succ, List.getElem_cons_zero, List.setIfInBounds_toArray, List.set_cons_succ, List.set_cons_zero]
          refine wpAnyK_done (by kernel_rfl) ?_ _
          refine hR _ _ ?_
          iterate 13 apply Exists.intro
          refine ⟨?_, ⟨oa', oc', rfl, hOd, hBc, hcz⟩⟩
          simp only [puts, Act.put, List.setIfInBounds_toArray, List.set_cons_succ, List.set_cons_zero]
          rfl
        rintro a' w8 ⟨v5, v49, v50, v51, v52, v53, v54, v55, v56, v57, v58, v59, v60, rfl, hb8⟩
        simp only [puts, Act.put, List.setIfInBounds_toArray, List.set_cons_succ, List.set_cons_zero]
        clear hC4 hK4 hO4 hV4 hb6 c1 c2 k1 k2
        obtain ⟨oa', oc', rfl, hO9, hB9, hz9⟩ := hb8
        have hln : (os ++ [(⟨s, ⟨2, 0, xv, [], ls⟩⟩ : To)]).length = os.length + 1 := by simp
        have hr : Value.slice oa' (os.length + 1) oc' = .slice oa' (os ++ [(⟨s, ⟨2, 0, xv, [], ls⟩⟩ : To)]).length oc' := by rw [hln]
        rw [← hln] at hO9
        have HV := Lib.hid hr
        clear hln hr
        go_wp2
        case roundEnd =>
          go_roundw
          case rel => exact ⟨s + 1, oa', oc', _, HV.out, by go_num, by omega, HE, hO9, hB9, hz9⟩
          case measure => simp [intOf] <;> omega
    have g0 : (0 : Int) ≤ (j : Int) := by omega
    have g1 : (j : Int) < (fls.length : Int) := by omega
    obtain ⟨f, hf⟩ : ∃ f, fls[j]? = some f := ⟨_, List.getElem?_eq_getElem hjl⟩
    obtain ⟨g, off, va', vc', na, nc, rfl, hgl, hfs, hfd, _, _, hce⟩ := flowRow_get hxf hf
    obtain ⟨e0, e1, e2, e3⟩ := hce wi (hb2.trans (hb3.mono hb2.size))
    have HID := Lib.hid (idxs_step (s := s) hf)
    have hgl2 : g < wi.heap.size := by have := hb2.size; omega
    have hK3 := hK.under hb3
    obtain ⟨k3, k4⟩ := hK3.cells
    have hkl3 := hK3.lt
    have hbx : Below wi.heap.size wi (wi.alloc (.cells #[.int .i64 f.src, .int .i64 f.dst, .slice va' f.via.length vc', .slice na f.no.length nc] 64)) := by (repeat' (first | with_reducible exact Below.refl _ _ | with_reducible assumption | with_reducible refine Below.drew ?_ | with_reducible refine Below_drewN ?_ _ | with_reducible refine Below.alloc ?_ ?_ _ | with_reducible refine Below.setCell ?_ ?_ _ | omega | (simp; done) | (simp; omega)))
    have hX : blockIs (wi.alloc (.cells #[.int .i64 f.src, .int .i64 f.dst, .slice va' f.via.length vc', .slice na f.no.length nc] 64)) wi.heap.size 64 #[.int .i64 f.src, .int .i64 f.dst, .slice va' f.via.length vc', .slice na f.no.length nc] := blockIs.new rfl
    have hV5 := hV.below hbx
    have hb5 := hb3.trans (hbx.mono hb3.size)
    have hjI : I64 (j : Int) := ⟨by omega, by omega⟩
    clear hce hf hos HSO HOS HOL HSA c1 c2 hC2 hO2 hb2
    by_cases hfs2 : f.src = (s : Int)
    case neg =>
      have hf2 : (f.src == (s : Int)) = false := by rw [beq_eq_false_iff_ne]; exact hfs2
      have HS2 : Hid (ls ++ idxFrom s ((j + 1 : Nat) : Int) (fls.drop (j + 1)) = idxFrom s 0 fls) := by show _ = _; have := hS.out; rw [HID.out, if_neg hfs2, List.nil_append] at this; exact this
      clear hS HID hfs2
      go_wp2
      case roundEnd =>
        go_roundw
        case rel => exact ⟨j + 1, va, vc, ls, rfl, by go_num, by omega, HS2, by omega, hV5, hb5⟩
        case measure => simp [intOf] <;> omega
    have HS2 : Hid ((ls ++ [(j : Int)]) ++ idxFrom s ((j + 1 : Nat) : Int) (fls.drop (j + 1)) = idxFrom s 0 fls) := by show _ = _; have := hS.out; rw [HID.out, if_pos hfs2] at this; rw [List.append_assoc]; exact this
    rw [hfs2] at e0 hbx hX hV5 hb5
    clear hS HID hfs2
    have hFL : Value.agg #[.int .i64 (s : Int), .int .i64 f.dst, .slice va' f.via.length vc', .slice na f.no.length nc] = Value.agg #[.int .i64 (s : Int), .int .i64 f.dst, .slice va' f.via.length vc', .slice na f.no.length nc] := rfl
    clear hFL
    have hV6 := hV5.alloc (.cells #[.int .i64 j] 3)
    have hsz5 : (wi.alloc (.cells #[.int .i64 s, .int .i64 f.dst, .slice va' f.via.length vc', .slice na f.no.length nc] 64)).heap.size = wi.heap.size + 1 := by simp
    have hsrc : srcRep intS (fun _ => False) ((wi.alloc (.cells #[.int .i64 s, .int .i64 f.dst, .slice va' f.via.length vc', .slice na f.no.length nc] 64)).alloc (.cells #[.int .i64 j] 3)) (some ⟨wi.heap.size + 1, 0, none⟩) [(j : Int)] := srcRep.ints [(j : Int)] hsz5 (by intro x hx; obtain rfl : x = (j : Int) := (by simpa using hx); exact hjI)
    have hbF : Below w6.heap.size w6 ((wi.alloc (.cells #[.int .i64 s, .int .i64 f.dst, .slice va' f.via.length vc', .slice na f.no.length nc] 64)).alloc (.cells #[.int .i64 j] 3)) := hb5.trans (by have := hb5.size; (repeat' (first | with_reducible exact Below.refl _ _ | with_reducible assumption | with_reducible refine Below.drew ?_ | with_reducible refine Below_drewN ?_ _ | with_reducible refine Below.alloc ?_ ?_ _ | with_reducible refine Below.setCell ?_ ?_ _ | omega | (simp; done) | (simp; omega))))
    clear hb5 hV5 hX hbx hsz5
    go_wp2_with (at_builtin; go_must (refine wpList_appR (sh := intS) (base := w6.heap.size) (n := ls.length) (m := 1) rfl _ _ 26 rfl 3 i0 (.int .i64 0) 8 Try.underlying26 hi hz0 hz1 hz2 rfl (by decide) rfl hV6 rfl rfl hsrc (by simp only [maxLen]; omega) (by omega) hbF.size ?_); go_must (intro va9 vc9 w9 hV9 hg9 hd9; have hb9 := hbF.trans (grown_below (B := w6.heap.size) hg9 (fun k hk => (hV6.lt k hk).1) hbF.size)))
    case roundEnd =>
      have hln2 : (ls ++ [(j : Int)]).length = ls.length + 1 := by simp
      have HV : Hid (Value.slice va9 (ls.length + 1) vc9 = .slice va9 (ls ++ [(j : Int)]).length vc9) := by show _ = _; rw [hln2]
      have hV9' : ownR intS 3 (fun _ => False) w6.heap.size w9 va9 (ls ++ [(j : Int)]).length vc9 (ls ++ [(j : Int)]) := by rw [hln2]; exact hV9
      go_roundw
      case rel => exact ⟨j + 1, va9, vc9, ls ++ [(j : Int)], HV.out, by go_num, by omega, HS2, by rw [hln2]; omega, hV9', hb9⟩
      case measure => simp [intOf] <;> omega

end Go.Proofs.Ytagldmdeohenjaa
