/-
  The walk of the law ControlOrder.
-/
import Derived.Test.YtagldmdeohenjaaAlive7
import Derived.Test.YtagldmdeohenjaaCtlG
import Derived.WalkKit
import Derived.WalkSpells
import Derived.WalkLawsBesides
import Derived.Lib.Hide
import Derived.Deep.LoopGhost
import Derived.Deep.QuietTactic
import Derived.BigQuiet
import Derived.Deep.RegionWith
import Derived.Handy
set_option linter.unusedSimpArgs false
set_option linter.unusedVariables false
namespace Go.St
open Go.RowKit
theorem toRow_get {ok : Nat → Prop} {w : World} {ao : Option Addr} {cap : Nat} {l : List To} (h : rowRep toS ok w ao cap l) {j : Nat} {x : To} (hx : l[j]? = some x) :
    ∃ g off ra rc fb fd, ao = some ⟨g, off, none⟩ ∧ g < w.heap.size ∧ I64 x.sw ∧ orderS.rep ok w [.int .i64 x.order.kind, .int .i64 x.order.num, .int .i64 x.order.ver, .slice ra x.order.rules.length rc, .slice fb x.order.flows.length fd] x.order ∧ ∀ w', Below w.heap.size w w' →
      w'.cell? ⟨g, off + j * 6, none⟩ = some (.int .i64 x.sw) ∧ w'.cell? ⟨g, off + j * 6 + 1, none⟩ = some (.int .i64 x.order.kind) ∧ w'.cell? ⟨g, off + j * 6 + 2, none⟩ = some (.int .i64 x.order.num) ∧ w'.cell? ⟨g, off + j * 6 + 3, none⟩ = some (.int .i64 x.order.ver) ∧ w'.cell? ⟨g, off + j * 6 + 4, none⟩ = some (.slice ra x.order.rules.length rc) ∧ w'.cell? ⟨g, off + j * 6 + 5, none⟩ = some (.slice fb x.order.flows.length fd) := by
  obtain ⟨g, off, rfl, _, hbl, cs, hcs, hce⟩ := h.get hx
  obtain ⟨ds, rfl, hsw, ho⟩ := hcs
  have ho' := ho
  obtain ⟨ra, rc, fa, fc, rfl, _⟩ := ho
  refine ⟨g, off, ra, rc, fa, fc, rfl, hbl, hsw, ho', fun w' hb => ⟨?_, ?_, ?_, ?_, ?_, ?_⟩⟩
  · have := cell_at hb hbl (hce 0 _ rfl); simpa only [toS, Nat.add_zero] using this
  · exact cell_at hb hbl (hce 1 _ rfl)
  · exact cell_at hb hbl (hce 2 _ rfl)
  · exact cell_at hb hbl (hce 3 _ rfl)
  · exact cell_at hb hbl (hce 4 _ rfl)
  · exact cell_at hb hbl (hce 5 _ rfl)
def SO7 (b t q o : Nat) (cs ts : Array Value) (n : Int) (w : World) : Prop := (∀ o, w.cell? ⟨b, o, none⟩ = cs[o]?) ∧ (∀ o, w.cell? ⟨t, o, none⟩ = ts[o]?) ∧ w.cell? ⟨q, o, none⟩ = some (.int .i64 n)
theorem SO7.under {b t q o : Nat} {cs ts : Array Value} {n : Int} {w w' : World} (h : SO7 b t q o cs ts n w) (h1 : b < w.heap.size) (h2 : t < w.heap.size) (h3 : q < w.heap.size) (hb : Below w.heap.size w w') : SO7 b t q o cs ts n w' :=
  ⟨fun i => (cell_same hb h1).trans (h.1 i), fun i => (cell_same hb h2).trans (h.2.1 i), (cell_same hb h3).trans h.2.2⟩
theorem addsIn_take {l : List To} {j : Nat} {x : To} (h : l[j]? = some x) : addsIn (l.take (j + 1)) = addsIn (l.take j) + (if x.order.kind = 1 then 1 else 0) := by
  unfold addsIn
  rw [List.take_add_one, h]
  simp only [Option.toList_some, List.filter_append, List.length_append]
  by_cases hk : x.order.kind = 1 <;> simp [hk]
theorem addsIn_le (l : List To) : addsIn l ≤ l.length := List.length_filter_le _ _
/-- behind a step back of a change under way -/
theorem Under.out {N : Nat} {p0 p : Plan} {t : Topo} {A i : Nat} {c : Ctl} {n : Int} {e : Ending} {w' : World} (ht : (topoWrong t).1 = 0) (h8 : t.n ≤ 8) (h : Under p0 p A i c) (hn : n ∈ c.waits) (ho : ctlOut N (ctlBack c t n) e w') :
    ∃ (d : Ctl) (m : List To) (m0 m1 m2 y0 y1 y2 : Value) (ua : Option Addr) (uc : Nat) (oa : Option Addr) (oc : Nat), e = .returned (.tuple #[.agg #[.int .i64 d.stage, m0, m1, m2, y0, y1, y2, .int .i64 d.num, .slice ua d.waits.length uc], .slice oa m.length oc, .int .i64 0]) ∧
      Under p0 p A (i + 1) d ∧ (∀ x ∈ m, x.order.kind = 2 ∧ A ≤ i + 1) ∧ I64 d.stage ∧ I64 d.num ∧ planC w' (fun b => N ≤ b) m0 m1 m2 d.now ∧ planC w' (fun b => N ≤ b) y0 y1 y2 d.next ∧ rowRep intS (fun b => N ≤ b) w' ua uc d.waits ∧ rowRep toS (fun b => N ≤ b) w' oa oc m := by
  obtain ⟨k1, k2, k3⟩ := h.back ht h8 hn
  generalize ctlBack c t n = R at *
  obtain ⟨d, m, ee⟩ := R
  dsimp only at *
  subst k1
  obtain ⟨ks, oa, oc, rfl, hk, hm⟩ := ho
  obtain ⟨m0, m1, m2, y0, y1, y2, ua, uc, rfl, h1, h2, h3, h4, h5⟩ := ctlS.open_ hk
  exact ⟨d, m, m0, m1, m2, y0, y1, y2, ua, uc, oa, oc, rfl, k2, k3, h1, h2, h3, h4, h5, hm⟩
end Go.St
namespace Go.Proofs.Ytagldmdeohenjaa
open Go.RowKit Go.St

set_option maxRecDepth 100000 in
set_option maxHeartbeats 16000000 in
theorem ctlOrder_c (w : World) (t : Topo) (ts : List Value) (okt : Nat → Prop) (h : topoS.rep okt w ts t) (l : List Flow) (fa : Option Addr) (fc : Nat) (okl : Nat → Prop) (hl : rowRep flowS okl w fa fc l) (pa : Option Addr) (pl pc : Nat) :
    Calls Try.prog 3 #[.agg ts.toArray, .slice fa l.length fc, .slice pa pl pc] w fun e w' => e = .returned (.bool true) ∧ Below w.heap.size w w' := by
  have hT := h
  obtain ⟨la, lc, rfl, htn, htr⟩ := h
  have hAs : (ctlAsk noCtl t l).2.2 = 0 → Asked noCtl t l := fun h => ask_ok h rfl
  have hAK := fun (w' : World) (hb : Below w.heap.size w w') => ask_c noCtl t l _ _ (fun _ => True) okt okl fa fc w' noCtl_rep (topoS.below hT hb) (hl.below hb) noCtl_small
  have HA : Hid ((ctlAsk noCtl t l).2.2 = 0 → (topoWrong t).1 = 0 ∧ t.n ≤ 8 ∧ Under noPlan (ctlAsk noCtl t l).1.next (addsIn (ctlAsk noCtl t l).2.1) 0 (ctlAsk noCtl t l).1 ∧ addsIn (ctlAsk noCtl t l).2.1 ≤ 8 ∧ PlanGood (ctlAsk noCtl t l).1.next ∧ (0 < addsIn (ctlAsk noCtl t l).2.1 → ∀ x ∈ (ctlAsk noCtl t l).2.1, x.order.kind ≠ 2)) :=
    fun h => ⟨(hAs h).topo, (hAs h).n8, (hAs h).under, (hAs h).adds, (hAs h).ok.gd, (hAs h).kinds⟩
  clear hAs
  generalize ctlAsk noCtl t l = R at *
  obtain ⟨c, out, ee⟩ := R
  dsimp only at *
  have HAK := Lib.hid hAK
  clear hAK
  have hb0 : Below w.heap.size w (w.alloc (.cells #[.int .i64 t.n, .slice la t.links.length lc] 24)) := by (repeat' (first | with_reducible exact Below.refl _ _ | with_reducible assumption | with_reducible refine Below.drew ?_ | with_reducible refine Below_drewN ?_ _ | with_reducible refine Below.alloc ?_ ?_ _ | with_reducible refine Below.setCell ?_ ?_ _ | omega | (simp; done) | (simp; omega)))
  have hT0 : blockIs (w.alloc (.cells #[.int .i64 t.n, .slice la t.links.length lc] 24)) w.heap.size 24 #[.int .i64 t.n, .slice la t.links.length lc] := blockIs.new rfl
  go_enter Try.func3, Try.ntmps3
  go_wp2_with fail
  generalize w.alloc (.cells #[.int .i64 t.n, .slice la t.links.length lc] 24) = w0 at *
  refine (alive7_c _).mono ?_
  rintro e w1 ⟨rfl, hb1⟩
  have hB1 := hb0.trans (hb1.mono hb0.size)
  have hT1 := hT0.under hb1
  have htl1 := hT1.lt
  obtain ⟨t1, t2⟩ := hT1.cells
  clear hb1 hT0 hb0
  go_wp2_with fail
  refine (HAK.out w1 hB1).mono ?_
  rintro e w2 ⟨⟨ks, oa, oc, rfl, hk, hm⟩, hb2⟩
  dsimp only at hk hm ⊢
  obtain ⟨n0, n1, n2, x0, x1, x2, wa, wc, rfl, hst, hnu, hn, hx, hw⟩ := ctlS.open_ hk
  obtain ⟨st, now, next, num, ws⟩ := c
  dsimp only at *
  obtain ⟨lx0, lx1, lx2⟩ := hx.one
  obtain ⟨ln0, ln1, ln2⟩ := hn.one
  obtain ⟨lp0, lp1, lp2⟩ := planC.st (P := Try.prog) hn
  obtain ⟨lq0, lq1, lq2⟩ := planC.st (P := Try.prog) hx
  have hB2 := hB1.trans (hb2.mono hB1.size)
  have hT2 := hT1.under hb2
  have htl2 := hT2.lt
  clear t1 t2 hT1 HAK
  by_cases he : ee = 0
  case neg =>
    have he' : (ee != 0) = true := by rw [bne_iff_ne]; exact he
    clear he HA
    go_wp2
    go_ret; exact ⟨rfl, by (repeat' (first | with_reducible exact Below.refl _ _ | with_reducible assumption | with_reducible refine Below.drew ?_ | with_reducible refine Below_drewN ?_ _ | with_reducible refine Below.alloc ?_ ?_ _ | with_reducible refine Below.setCell ?_ ?_ _ | omega | (simp; done) | (simp; omega)))⟩
  subst he
  obtain ⟨htw, h8, hU, hA8, hpg, hkk⟩ := HA.out (by first | trivial | rfl)
  clear HA
  have hox := hm.len_le
  have hC3 : blockIs (w2.alloc (.cells #[.int .i64 st, n0, n1, n2, x0, x1, x2, .int .i64 num, .slice wa ws.length wc] 32)) w2.heap.size 32 #[.int .i64 st, n0, n1, n2, x0, x1, x2, .int .i64 num, .slice wa ws.length wc] := blockIs.new rfl
  have hb3 : Below w2.heap.size w2 (w2.alloc (.cells #[.int .i64 st, n0, n1, n2, x0, x1, x2, .int .i64 num, .slice wa ws.length wc] 32)) := by (repeat' (first | with_reducible exact Below.refl _ _ | with_reducible assumption | with_reducible refine Below.drew ?_ | with_reducible refine Below_drewN ?_ _ | with_reducible refine Below.alloc ?_ ?_ _ | with_reducible refine Below.setCell ?_ ?_ _ | omega | (simp; done) | (simp; omega)))
  have hT3 := hT2.under hb3
  have hm3 := hm.below hb3
  have hn3 : planC _ (fun b => b ≠ w2.heap.size) n0 n1 n2 now := planS.below (planS.anyOk hn (ok' := fun b => b ≠ w2.heap.size) fun b hl _ => Nat.ne_of_lt hl) hb3
  have hx3 : planC _ (fun b => b ≠ w2.heap.size) x0 x1 x2 next := planS.below (planS.anyOk hx (ok' := fun b => b ≠ w2.heap.size) fun b hl _ => Nat.ne_of_lt hl) hb3
  have hw3 := (hw.anyOk (ok' := fun b => b ≠ w2.heap.size) fun b hl _ => Nat.ne_of_lt hl).below hb3
  have hB3 := hB2.trans (hb3.mono hB2.size)
  clear hm hn hx hw hk hb2 hb3 hT2
  have HK := Lib.hid hkk
  have hadd0 : Hid (addsIn (out.take 0) = 0) := by simp [Hid, addsIn]
  have HU := Lib.hid hU
  clear hkk hU
  go_wp2
  generalize w2.alloc (.cells #[.int .i64 st, n0, n1, n2, x0, x1, x2, .int .i64 num, .slice wa ws.length wc] 32) = w3 at *
  clear lp0 lp1 lp2 lq0 lq1 lq2
  go_loopw [10, 11, 13, 34] (fun ad sm _ idx wr => ∃ (j : Nat) (a : Nat) (b : Bool), ad = .int .i64 a ∧ sm = .bool b ∧ idx = .int .i64 j ∧ j ≤ out.length ∧ Hid (a = addsIn (out.take j)) ∧ Hid (b = true → ∃ x ∈ out, x.order.kind = 2) ∧ Below w3.heap.size w3 wr) (fun _ _ _ idx _ => out.length - (intOf idx).toNat)
  case atStart => exact ⟨0, 0, false, rfl, rfl, rfl, Nat.zero_le _, hadd0.out.symm, fun h => by simp at h, Below.refl _ _⟩
  case round =>
    clear hadd0
    obtain ⟨j, a, b, rfl, rfl, rfl, hj, ha, hbb, hb⟩ := hrel
    rename World => wo
    have ha8 : a ≤ j := by have := ha.out; have := addsIn_le (out.take j); rw [List.length_take] at this; omega
    by_cases hlt : j < out.length
    · have b1 : (j : Int) < (out.length : Int) := by omega
      have b0 : (0 : Int) ≤ (j : Int) := by omega
      obtain ⟨x, hxj⟩ : ∃ x, out[j]? = some x := ⟨_, List.getElem?_eq_getElem hlt⟩
      obtain ⟨g, off, ra, rc, fb, fd, rfl, hgl, hsw, hor, hce⟩ := toRow_get hm3 hxj
      obtain ⟨e0, e1, e2, e3, e4, e5⟩ := hce wo hb
      have hA1 := addsIn_take hxj
      have hxm := List.mem_of_getElem? hxj
      obtain ⟨xs, ⟨xk, xn, xv, xr, xf⟩⟩ := x
      dsimp only at hsw hor e0 e1 e2 e3 e4 e5 hA1
      have hbx : Below w3.heap.size w3 (wo.alloc (.cells #[.int .i64 xs, .int .i64 xk, .int .i64 xn, .int .i64 xv, .slice ra xr.length rc, .slice fb xf.length fd] 41)) := hb.alloc hb.size _
      by_cases k1 : xk = 1
      · subst k1
        have hA2 : Hid (a + 1 = addsIn (out.take (j + 1))) := by show a + 1 = _; rw [hA1, if_pos rfl, ← ha.out]
        clear hce hxj hxm ha hA1
        cases b
        · go_wp2
          case roundEnd =>
            go_roundw
            case rel => exact ⟨j + 1, a + 1, false, by go_num, rfl, by go_num, by omega, hA2, fun h => by simp at h, hbx⟩
            case measure => simp [intOf] <;> omega
        · go_wp2
          case roundEnd =>
            go_roundw
            case rel => exact ⟨j + 1, a + 1, true, by go_num, rfl, by go_num, by omega, hA2, hbb, hbx⟩
            case measure => simp [intOf] <;> omega
      · have k1' : (xk == 1) = false := by rw [beq_eq_false_iff_ne]; exact k1
        have hA2 : Hid (a = addsIn (out.take (j + 1))) := by show a = _; rw [hA1, if_neg k1, ← ha.out]; rfl
        have hB2 : Hid (b = true ∨ (xk == 2) = true → ∃ x ∈ out, x.order.kind = 2) := fun h => by
          rcases h with h | h
          · exact hbb.out h
          · exact ⟨_, hxm, by rwa [beq_iff_eq] at h⟩
        clear hce hxj hxm ha hbb k1 hA1
        generalize hk2 : (xk == 2) = k2 at *
        cases b
        · go_wp2
          case roundEnd =>
            go_roundw
            case rel => exact ⟨j + 1, a, k2, rfl, rfl, by go_num, by omega, hA2, fun h => hB2.out (.inr h), hbx⟩
            case measure => simp [intOf] <;> omega
        · go_wp2
          case roundEnd =>
            go_roundw
            case rel => exact ⟨j + 1, a, true, rfl, rfl, by go_num, by omega, hA2, fun _ => hB2.out (.inl rfl), hbx⟩
            case measure => simp [intOf] <;> omega
    have b1 : ¬ (j : Int) < (out.length : Int) := by omega
    have hA2 : Hid (a = addsIn out) := by have := ha.out; rwa [List.take_of_length_le (by omega)] at this
    have hA3 : a ≤ 8 := by rw [hA2.out]; exact hA8
    have hAB : Hid (¬ (0 < a ∧ b = true)) := fun h => by
      obtain ⟨x, hx, hk⟩ := hbb.out h.2
      exact HK.out (by rw [← hA2.out]; exact h.1) x hx hk
    have HU2 : Hid (Under noPlan next a 0 ⟨st, now, next, num, ws⟩) := by rw [hA2.out]; exact HU.out
    clear ha hbb HK HU hA8 hlt hj
    generalize hOL : out.length = ol at *
    clear hOL hA2
    have hB4 := hB3.trans (hb.mono hB3.size)
    have hC4 := hC3.under hb
    have hT4 := hT3.under hb
    have hn4 : planC _ (fun b => b ≠ w2.heap.size) n0 n1 n2 now := planS.below hn3 hb
    have hx4 : planC _ (fun b => b ≠ w2.heap.size) x0 x1 x2 next := planS.below hx3 hb
    have hw4 := hw3.below hb
    clear hm3 hn3 hx3 hw3 hC3 hT3 hb hB3
    --CUT1
    have hcs : (0 < a ∧ b = false) ∨ ¬ 0 < a := by
      by_cases h : 0 < a
      · left; refine ⟨h, ?_⟩
        cases b
        · rfl
        · exact absurd ⟨h, rfl⟩ hAB.out
      · right; exact h
    clear hAB
    rcases hcs with ⟨hcs, rfl⟩ | hcs
    all_goals
      have o0 : ¬ ((a : Int) < 0) := by omega
      first | (have o1 : (0 : Int) < (a : Int) := by omega) | (have o1 : ¬ (0 : Int) < (a : Int) := by omega)
      have hcl4 := hC4.lt
      have htl4 := hT4.lt
      clear hcs
      go_wp2
      go_loopw [14, 15, 16, 17, 19] (fun iv _ _ _ _ wr => ∃ (i : Nat) (c : Ctl) (m0 m1 m2 y0 y1 y2 : Value) (ua : Option Addr) (uc : Nat), iv = .int .i64 i ∧ Hid (Under noPlan next a i c) ∧ blockIs wr w2.heap.size 32 #[.int .i64 c.stage, m0, m1, m2, y0, y1, y2, .int .i64 c.num, .slice ua c.waits.length uc] ∧ I64 c.stage ∧ I64 c.num ∧ planC wr (fun b => b ≠ w2.heap.size) m0 m1 m2 c.now ∧ planC wr (fun b => b ≠ w2.heap.size) y0 y1 y2 c.next ∧ rowRep intS (fun b => b ≠ w2.heap.size) wr ua uc c.waits ∧ blockIs wr w.heap.size 24 #[.int .i64 t.n, .slice la t.links.length lc] ∧ Below w.heap.size w wr) (fun iv _ _ _ _ _ => 200 - (intOf iv).toNat)
      case atStart => exact ⟨0, ⟨st, now, next, num, ws⟩, n0, n1, n2, x0, x1, x2, wa, wc, rfl, HU2, hC4, hst, hnu, hn4, hx4, hw4, hT4, hB4⟩
      case round =>
        clear hC4 hn4 hx4 hw4 hT4 hB4 HU2 hcl4 htl4
        obtain ⟨i, c, u0, u1, u2, v0, v1, v2, za, zc, rfl, hU, hC, hcs, hcn, hp, hq, hws, hTo, hBo⟩ := hrel
        rename World => wo
        have hlen := hU.out.ord.len hA3
        have HG := Lib.hid (hU.out.good hA3 PlanGood.none hpg)
        have hkc := ctlS.mk_ hcs hcn hp hq hws
        obtain ⟨cst, cnow, cnext, cnum, cws⟩ := c
        dsimp only at hC hws hcs hcn hp hq hlen hkc
        obtain ⟨lm0, lm1, lm2⟩ := hp.one
        obtain ⟨ly0, ly1, ly2⟩ := hq.one
        obtain ⟨c1, c2⟩ := hC.cells
        obtain ⟨t1, t2⟩ := hTo.cells
        have hcl := hC.lt
        have htl := hTo.lt
        by_cases hz : cws = []
        · subst hz
          clear HG hU hkc
          simp only [List.length_nil] at c1
          go_wp2
          go_ret; exact ⟨rfl, hBo⟩
        obtain ⟨L, hL⟩ : ∃ L, cws.length = L + 1 := ⟨cws.length - 1, by have := List.length_pos_iff.2 hz; omega⟩
        have hi16 := hlen.2 hz
        obtain ⟨n, hn⟩ : ∃ n, cws[L]? = some n := ⟨_, List.getElem?_eq_getElem (by omega)⟩
        obtain ⟨qb, qo, rfl, hql, hni, hcq⟩ := intRow_get hws hn
        have q0 := hcq wo (Below.refl _ _)
        have HB : Hid (∀ w', Below wo.heap.size wo w' → Calls Try.prog 9 #[.agg #[.int .i64 cst, u0, u1, u2, v0, v1, v2, .int .i64 cnum, .slice (some ⟨qb, qo, none⟩) (L + 1) zc], .agg #[.int .i64 t.n, .slice la t.links.length lc], .int .i64 n] w' fun e w'' => (∃ (d : Ctl) (m : List To) (m0 m1 m2 y0 y1 y2 : Value) (ua : Option Addr) (uc : Nat) (oa : Option Addr) (oc : Nat), e = .returned (.tuple #[.agg #[.int .i64 d.stage, m0, m1, m2, y0, y1, y2, .int .i64 d.num, .slice ua d.waits.length uc], .slice oa m.length oc, .int .i64 0]) ∧
            Under noPlan next a (i + 1) d ∧ (∀ x ∈ m, x.order.kind = 2 ∧ a ≤ i + 1) ∧ I64 d.stage ∧ I64 d.num ∧ planC w'' (fun b => w'.heap.size ≤ b) m0 m1 m2 d.now ∧ planC w'' (fun b => w'.heap.size ≤ b) y0 y1 y2 d.next ∧ rowRep intS (fun b => w'.heap.size ≤ b) w'' ua uc d.waits ∧ rowRep toS (fun b => w'.heap.size ≤ b) w'' oa oc m) ∧ Below w'.heap.size w' w'') := fun w' hb => by
          rw [hL] at hkc
          refine (back_c _ t n _ _ _ okt w' (ctlS.below hkc hb) (topoS.below hT (hBo.trans (hb.mono hBo.size))) HG.out.small).mono ?_
          rintro e w'' ⟨ho, hb2⟩
          exact ⟨hU.out.out htw h8 (List.mem_of_getElem? hn) ho, hb2⟩
        rw [hL] at hC c1
        have b1 : (0 : Int) < ((L : Int) + 1) := by omega
        have b2 : (i : Int) < 100 := by omega
        have b3 : L < L + 1 := by omega
        have b4 : L + 1 ≤ 1000 := by omega
        have b5 : (0 : Int) ≤ (L : Int) := by omega
        have b6 : (L : Int) < (L : Int) + 1 := by omega
        have b7 : IntKind.i64.wrap (L : Int) = L := IntWalk.i64_in _ (by omega)
        have hS4 : SO7 w2.heap.size w.heap.size qb (qo + L) #[.int .i64 cst, u0, u1, u2, v0, v1, v2, .int .i64 cnum, .slice (some ⟨qb, qo, none⟩) (L + 1) zc] #[.int .i64 t.n, .slice la t.links.length lc] n wo := ⟨hC.cells.1, hTo.cells.1, q0⟩
        have hS0 : SO7 w2.heap.size w.heap.size qb (qo + L) #[.int .i64 cst, u0, u1, u2, v0, v1, v2, .int .i64 cnum, .slice (some ⟨qb, qo, none⟩) (L + 1) zc] #[.int .i64 t.n, .slice la t.links.length lc] n wo.drew := hS4
        clear HG hkc hn hws hcq hz hlen hU hp hq hcs hcn c1 c2 t1 t2 lm0 lm1 lm2 ly0 ly1 ly2
        have hC' := hC
        clear hC
        obtain ⟨c1, c2⟩ := hC'.cells
        go_wp2
        clear c1 c2
        --CUT2
        refine wp_region_to (SO7 w2.heap.size w.heap.size qb (qo + L) #[.int .i64 cst, u0, u1, u2, v0, v1, v2, .int .i64 cnum, .slice (some ⟨qb, qo, none⟩) (L + 1) zc] #[.int .i64 t.n, .slice la t.links.length lc] n) 99 (fun a0 a' w' => ∃ v15 v16 v67 v68 v69 v70 v71 v72 v73 v74 v75 v76 v77 v78 v79 v80 v81, a' = puts a0 [(15, v15), (16, v16), (67, v67), (68, v68), (69, v69), (70, v70), (71, v71), (72, v72), (73, v73), (74, v74), (75, v75), (76, v76), (77, v77), (78, v78), (79, v79), (80, v80), (81, v81), (17, .int .i64 0)] ∧ ∃ D d m m0 m1 m2 y0 y1 y2 ua uc oa9 oc9, v15 = .pointer (some ⟨D, 0, none⟩) ∧ v16 = .slice oa9 (List.length m) oc9 ∧ wo.heap.size ≤ D ∧ blockIs w' D 32 #[.int .i64 d.stage, m0, m1, m2, y0, y1, y2, .int .i64 d.num, .slice ua d.waits.length uc] ∧ Hid (Under noPlan next a (i + 1) d) ∧ Hid (∀ x ∈ m, x.order.kind = 2 ∧ a ≤ i + 1) ∧ I64 d.stage ∧ I64 d.num ∧ planC w' (fun b => b ≠ w2.heap.size) m0 m1 m2 d.now ∧ planC w' (fun b => b ≠ w2.heap.size) y0 y1 y2 d.next ∧ rowRep intS (fun b => b ≠ w2.heap.size) w' ua uc d.waits ∧ rowRep toS (fun b => b ≠ w2.heap.size) w' oa9 oc9 m ∧ Below wo.heap.size wo w') (by kernel_rfl) ?_ ?_
        · intro Q' hR hQp
          have hb0 : Below wo.heap.size wo wo.drew := by (repeat' (first | with_reducible exact Below.refl _ _ | with_reducible assumption | with_reducible refine Below.drew ?_ | with_reducible refine Below_drewN ?_ _ | with_reducible refine Below.alloc ?_ ?_ _ | with_reducible refine Below.setCell ?_ ?_ _ | omega | (simp; done) | (simp; omega)))
          have hS : SO7 w2.heap.size w.heap.size qb (qo + L) #[.int .i64 cst, u0, u1, u2, v0, v1, v2, .int .i64 cnum, .slice (some ⟨qb, qo, none⟩) (L + 1) zc] #[.int .i64 t.n, .slice la t.links.length lc] n wo.drew := hS0
          generalize wo.drew = wa at *
          --CUT3a
          refine wpAnyK_take' (i := 0) _ rfl (by kernel_rfl) (fun _ _ _ h => hQp _ _ _ _ h) hS (yields_value (by kernel_rfl) (by intro w0 hw0; have hw1 := hw0; simp only [SO7] at hw1; first | (go_simp; done) | (go_simp; rfl))) ?_; simp only [Act.put, List.getElem_toArray, List.getElem_cons_succ, List.getElem_cons_zero, List.setIfInBounds_toArray, List.set_cons_succ, List.set_cons_zero]
          refine wpAnyK_take' (i := 1) _ rfl (by kernel_rfl) (fun _ _ _ h => hQp _ _ _ _ h) hS (yields_value (by kernel_rfl) (by intro w0 hw0; have hw1 := hw0; simp only [SO7] at hw1; first | (go_simp; done) | (go_simp; rfl))) ?_; simp only [Act.put, List.getElem_toArray, List.getElem_cons_succ, List.getElem_cons_zero, List.setIfInBounds_toArray, List.set_cons_succ, List.set_cons_zero]
          refine wpAnyK_take' (i := 2) _ rfl (by kernel_rfl) (fun _ _ _ h => hQp _ _ _ _ h) hS (yields_value (by kernel_rfl) (by intro w0 hw0; have hw1 := hw0; simp only [SO7] at hw1; first | (go_simp; done) | (go_simp; rfl))) ?_; simp only [Act.put, List.getElem_toArray, List.getElem_cons_succ, List.getElem_cons_zero, List.setIfInBounds_toArray, List.set_cons_succ, List.set_cons_zero]
          refine wpAnyK_take' (i := 4) _ rfl (by kernel_rfl) (fun _ _ _ h => hQp _ _ _ _ h) hS (yields_value (by kernel_rfl) (by intro w0 hw0; have hw1 := hw0; simp only [SO7] at hw1; first | (go_simp; done) | (go_simp; rfl))) ?_; simp only [Act.put, List.getElem_toArray, List.getElem_cons_succ, List.getElem_cons_zero, List.setIfInBounds_toArray, List.set_cons_succ, List.set_cons_zero]
          refine wpAnyK_take' (i := 3) _ rfl (by kernel_rfl) (fun _ _ _ h => hQp _ _ _ _ h) hS (yields_value (by kernel_rfl) (by intro w0 hw0; have hw1 := hw0; simp only [SO7] at hw1; first | (go_simp; done) | (go_simp; rfl))) ?_; simp only [Act.put, List.getElem_toArray, List.getElem_cons_succ, List.getElem_cons_zero, List.setIfInBounds_toArray, List.set_cons_succ, List.set_cons_zero]
          refine wpAnyK_take' (i := 5) _ rfl (by kernel_rfl) (fun _ _ _ h => hQp _ _ _ _ h) hS (yields_value (by kernel_rfl) (by intro w0 hw0; have hw1 := hw0; simp only [SO7] at hw1; first | (go_simp; done) | (go_simp; rfl))) ?_; simp only [Act.put, List.getElem_toArray, List.getElem_cons_succ, List.getElem_cons_zero, List.setIfInBounds_toArray, List.set_cons_succ, List.set_cons_zero]
          refine wpAnyK_take' (i := 6) _ rfl (by kernel_rfl) (fun _ _ _ h => hQp _ _ _ _ h) hS (yields_value (by kernel_rfl) (by intro w0 hw0; have hw1 := hw0; simp only [SO7] at hw1; first | (go_simp; done) | (go_simp; rfl))) ?_; simp only [Act.put, List.getElem_toArray, List.getElem_cons_succ, List.getElem_cons_zero, List.setIfInBounds_toArray, List.set_cons_succ, List.set_cons_zero]
          refine wpAnyK_take' (i := 7) _ rfl (by kernel_rfl) (fun _ _ _ h => hQp _ _ _ _ h) hS (yields_value (by kernel_rfl) (by intro w0 hw0; have hw1 := hw0; simp only [SO7] at hw1; first | (go_simp; done) | (go_simp; rfl))) ?_; simp only [Act.put, List.getElem_toArray, List.getElem_cons_succ, List.getElem_cons_zero, List.setIfInBounds_toArray, List.set_cons_succ, List.set_cons_zero]
          refine wpAnyK_take' (i := 8) _ rfl (by kernel_rfl) (fun _ _ _ h => hQp _ _ _ _ h) hS (yields_value (by kernel_rfl) (by intro w0 hw0; have hw1 := hw0; simp only [SO7] at hw1; first | (go_simp; done) | (go_simp; rfl))) ?_; simp only [Act.put, List.getElem_toArray, List.getElem_cons_succ, List.getElem_cons_zero, List.setIfInBounds_toArray, List.set_cons_succ, List.set_cons_zero]
          refine wpAnyK_take' (i := 9) _ rfl (by kernel_rfl) (fun _ _ _ h => hQp _ _ _ _ h) hS (yields_value (by kernel_rfl) (by intro w0 hw0; have hw1 := hw0; simp only [SO7] at hw1; first | (go_simp; done) | (go_simp; rfl))) ?_; simp only [Act.put, List.getElem_toArray, List.getElem_cons_succ, List.getElem_cons_zero, List.setIfInBounds_toArray, List.set_cons_succ, List.set_cons_zero]
          --CUT3b
          refine wpAnyK_two (i := 10) (j := 15) rfl rfl (by kernel_rfl) (by kernel_rfl) (by kernel_rfl) (fun K10 hK10 => ?_) (fun K15 hK15 => ?_)
          · skip
            go_simp
            go_wp2_with fail
            refine (HB.out _ hb0).mono ?_
            rintro e wk ⟨⟨d, m, m0, m1, m2, y0, y1, y2, ua, uc, oa9, oc9, rfl, hU, hk2, hcs, hcn, hp, hq, hws, hm⟩, hbk⟩
            go_wp2_with fail
            have hwz : wo.heap.size ≤ wa.heap.size := hb0.size
            have hb := hb0.trans (hbk.mono hb0.size)
            have hS : SO7 w2.heap.size w.heap.size qb (qo + L) #[.int .i64 cst, u0, u1, u2, v0, v1, v2, .int .i64 cnum, .slice (some ⟨qb, qo, none⟩) (L + 1) zc] #[.int .i64 t.n, .slice la t.links.length lc] n wk := SO7.under hS4 hcl htl hql hb
            obtain ⟨lp0, lp1, lp2⟩ := planC.st (P := Try.prog) hp
            obtain ⟨lq0, lq1, lq2⟩ := planC.st (P := Try.prog) hq
            obtain ⟨lm0, lm1, lm2⟩ := planC.one hp
            obtain ⟨ly0, ly1, ly2⟩ := planC.one hq
            --CUT4
            refine hK10 _ _ (fun _ => hS) ?_
            clear hK10
            refine wpAnyK_take' (i := 11) _ rfl (by kernel_rfl) (fun _ _ _ h => hQp _ _ _ _ h) hS (yields_value (by kernel_rfl) (by intro w0 hw0; have hw1 := hw0; simp only [SO7] at hw1; first | (go_simp; done) | (go_simp; rfl))) ?_; simp only [Act.put, List.getElem_toArray, List.getElem_cons_succ, List.getElem_cons_zero, List.setIfInBounds_toArray, List.set_cons_succ, List.set_cons_zero]
            refine wpAnyK_take' (i := 12) _ rfl (by kernel_rfl) (fun _ _ _ h => hQp _ _ _ _ h) hS (yields_value (by kernel_rfl) (by intro w0 hw0; have hw1 := hw0; simp only [SO7] at hw1; first | (go_simp; done) | (go_simp; rfl))) ?_; simp only [Act.put, List.getElem_toArray, List.getElem_cons_succ, List.getElem_cons_zero, List.setIfInBounds_toArray, List.set_cons_succ, List.set_cons_zero]
            refine wpAnyK_take' (i := 13) _ rfl (by kernel_rfl) (fun _ _ _ h => hQp _ _ _ _ h) hS (yields_value (by kernel_rfl) (by intro w0 hw0; have hw1 := hw0; simp only [SO7] at hw1; first | (go_simp; done) | (go_simp; rfl))) ?_; simp only [Act.put, List.getElem_toArray, List.getElem_cons_succ, List.getElem_cons_zero, List.setIfInBounds_toArray, List.set_cons_succ, List.set_cons_zero]
            refine wpAnyK_take' (i := 14) _ rfl (by kernel_rfl) (fun _ _ _ h => hQp _ _ _ _ h) hS (yields_value (by kernel_rfl) (by intro w0 hw0; have hw1 := hw0; simp only [SO7] at hw1; first | (go_simp; done) | (go_simp; rfl))) ?_; simp only [Act.put, List.getElem_toArray, List.getElem_cons_succ, List.getElem_cons_zero, List.setIfInBounds_toArray, List.set_cons_succ, List.set_cons_zero]
            --CUT5
            clear hS
            refine wpAnyK_call (i := 15) rfl (by kernel_rfl) (by kernel_rfl) fun K15 hK15 => ?_
            go_simp
            go_wp2_with fail
            have hD : blockIs (wk.alloc (.cells #[.int .i64 0, .int .i64 0, .slice none 0 0, .slice none 0 0, .int .i64 0, .slice none 0 0, .slice none 0 0, .int .i64 0, .slice none 0 0] 32)) wk.heap.size 32 #[.int .i64 0, .int .i64 0, .slice none 0 0, .slice none 0 0, .int .i64 0, .slice none 0 0, .slice none 0 0, .int .i64 0, .slice none 0 0] := blockIs.new rfl
            have hbA : Below wk.heap.size wk (wk.alloc (.cells #[.int .i64 0, .int .i64 0, .slice none 0 0, .slice none 0 0, .int .i64 0, .slice none 0 0, .slice none 0 0, .int .i64 0, .slice none 0 0] 32)) := by (repeat' (first | with_reducible exact Below.refl _ _ | with_reducible assumption | with_reducible refine Below.drew ?_ | with_reducible refine Below_drewN ?_ _ | with_reducible refine Below.alloc ?_ ?_ _ | with_reducible refine Below.setCell ?_ ?_ _ | omega | (simp; done) | (simp; omega)))
            have hDs : wo.heap.size ≤ wk.heap.size := hb.size
            have hb := hb.trans (hbA.mono hb.size)
            have hp := planS.below (planS.anyOk hp (ok' := fun b => wo.heap.size ≤ b ∧ b ≠ wk.heap.size) (fun b hl hh => by omega)) hbA
            have hq := planS.below (planS.anyOk hq (ok' := fun b => wo.heap.size ≤ b ∧ b ≠ wk.heap.size) (fun b hl hh => by omega)) hbA
            have hws := (hws.anyOk (ok' := fun b => wo.heap.size ≤ b ∧ b ≠ wk.heap.size) (fun b hl hh => by omega)).below hbA
            have hm := (hm.anyOk (ok' := fun b => wo.heap.size ≤ b ∧ b ≠ wk.heap.size) (fun b hl hh => by omega)).below hbA
            generalize (wk.alloc (.cells #[.int .i64 0, .int .i64 0, .slice none 0 0, .slice none 0 0, .int .i64 0, .slice none 0 0, .slice none 0 0, .int .i64 0, .slice none 0 0] 32)) = wA at *
            have hS : SO7 w2.heap.size w.heap.size qb (qo + L) #[.int .i64 cst, u0, u1, u2, v0, v1, v2, .int .i64 cnum, .slice (some ⟨qb, qo, none⟩) (L + 1) zc] #[.int .i64 t.n, .slice la t.links.length lc] n wA := SO7.under hS4 hcl htl hql hb
            --CUT6
            refine hK15 _ _ (fun _ => hS) ?_
            clear hK15
            --CUT7
            generalize hDD : wk.heap.size = D at *
            clear hS
            obtain ⟨d1, d2⟩ := hD.cells
            have hDl := hD.lt
            --CUT8
            clear hS
            refine wpAnyK_call (i := 16) rfl (by kernel_rfl) (by kernel_rfl) fun K16 hK16 => ?_
            go_simp
            go_wp2_with fail
            --CUT9
            obtain ⟨hDE, FRE⟩ := set9 hD (fun b => b ≠ D) wo.heap.size (fun h => h rfl) hDs (.int .i64 d.stage) m0 m1 m2 y0 y1 y2 (.int .i64 d.num) (.slice ua d.waits.length uc)
            have hpE := planS.anyOk (FRE.rep' hp (fun b hb => .inl hb.2)) (ok' := fun b => b ≠ w2.heap.size) (fun b _ hh => by omega)
            have hqE := planS.anyOk (FRE.rep' hq (fun b hb => .inl hb.2)) (ok' := fun b => b ≠ w2.heap.size) (fun b _ hh => by omega)
            have hwE := (FRE.row' hws (fun b hb => .inl hb.2)).anyOk (ok' := fun b => b ≠ w2.heap.size) (fun b _ hh => by omega)
            have hmE := (FRE.row' hm (fun b hb => .inl hb.2)).anyOk (ok' := fun b => b ≠ w2.heap.size) (fun b _ hh => by omega)
            have hbE := (Frm.of (W := fun b => b ≠ D) hb (Nat.le_refl _)).trans FRE
            have hS : SO7 w2.heap.size w.heap.size qb (qo + L) #[.int .i64 cst, u0, u1, u2, v0, v1, v2, .int .i64 cnum, .slice (some ⟨qb, qo, none⟩) (L + 1) zc] #[.int .i64 t.n, .slice la t.links.length lc] n _ := SO7.under hS4 hcl htl hql hbE.below
            refine hK16 _ _ (fun _ => hS) ?_
            clear hK16 d1 d2
            refine wpAnyK_take' (i := 17) _ rfl (by kernel_rfl) (fun _ _ _ h => hQp _ _ _ _ h) hS (yields_value (by kernel_rfl) (by intro w0 hw0; have hw1 := hw0; simp only [SO7] at hw1; first | (go_simp; done) | (go_simp; rfl))) ?_; simp only [Act.put, List.getElem_toArray, List.getElem_cons_succ, List.getElem_cons_zero, List.setIfInBounds_toArray, List.set_cons_succ, List.set_cons_zero]
            refine wpAnyK_take' (i := 18) _ rfl (by kernel_rfl) (fun _ _ _ h => hQp _ _ _ _ h) hS (yields_value (by kernel_rfl) (by intro w0 hw0; have hw1 := hw0; simp only [SO7] at hw1; first | (go_simp; done) | (go_simp; rfl))) ?_; simp only [Act.put, List.getElem_toArray, List.getElem_cons_succ, List.getElem_cons_zero, List.setIfInBounds_toArray, List.set_cons_succ, List.set_cons_zero]
            refine wpAnyK_done (by kernel_rfl) ?_ _
            refine hR _ _ ?_
            iterate 17 apply Exists.intro
            refine ⟨?_, ⟨D, d, m, m0, m1, m2, y0, y1, y2, ua, uc, oa9, oc9, rfl, rfl, hDs, hDE, hU, hk2, hcs, hcn, hpE, hqE, hwE, hmE, hbE.below⟩⟩
            simp only [puts, Act.put, List.setIfInBounds_toArray, List.set_cons_succ, List.set_cons_zero]
            rfl
          · skip
            go_simp
            go_wp2_with fail
            have hD : blockIs (wa.alloc (.cells #[.int .i64 0, .int .i64 0, .slice none 0 0, .slice none 0 0, .int .i64 0, .slice none 0 0, .slice none 0 0, .int .i64 0, .slice none 0 0] 32)) wa.heap.size 32 #[.int .i64 0, .int .i64 0, .slice none 0 0, .slice none 0 0, .int .i64 0, .slice none 0 0, .slice none 0 0, .int .i64 0, .slice none 0 0] := blockIs.new rfl
            have hbA : Below wa.heap.size wa (wa.alloc (.cells #[.int .i64 0, .int .i64 0, .slice none 0 0, .slice none 0 0, .int .i64 0, .slice none 0 0, .slice none 0 0, .int .i64 0, .slice none 0 0] 32)) := by (repeat' (first | with_reducible exact Below.refl _ _ | with_reducible assumption | with_reducible refine Below.drew ?_ | with_reducible refine Below_drewN ?_ _ | with_reducible refine Below.alloc ?_ ?_ _ | with_reducible refine Below.setCell ?_ ?_ _ | omega | (simp; done) | (simp; omega)))
            have hDs : wo.heap.size ≤ wa.heap.size := hb0.size
            have hb := hb0.trans (hbA.mono hb0.size)
            generalize (wa.alloc (.cells #[.int .i64 0, .int .i64 0, .slice none 0 0, .slice none 0 0, .int .i64 0, .slice none 0 0, .slice none 0 0, .int .i64 0, .slice none 0 0] 32)) = wA at *
            have hS : SO7 w2.heap.size w.heap.size qb (qo + L) #[.int .i64 cst, u0, u1, u2, v0, v1, v2, .int .i64 cnum, .slice (some ⟨qb, qo, none⟩) (L + 1) zc] #[.int .i64 t.n, .slice la t.links.length lc] n wA := SO7.under hS4 hcl htl hql hb
            refine hK15 _ _ (fun _ => hS) ?_
            clear hK15
            generalize hDD : wa.heap.size = D at *
            clear hS
            refine wpAnyK_call (i := 10) rfl (by kernel_rfl) (by kernel_rfl) fun K10 hK10 => ?_
            go_simp
            go_wp2_with fail
            refine (HB.out _ hb).mono ?_
            rintro e wk ⟨⟨d, m, m0, m1, m2, y0, y1, y2, ua, uc, oa9, oc9, rfl, hU, hk2, hcs, hcn, hp, hq, hws, hm⟩, hbk⟩
            go_wp2_with fail
            have hbs := hb.size
            have hDl := hD.lt
            have hD := hD.under hbk
            have hp := planS.anyOk hp (ok' := fun b => wo.heap.size ≤ b ∧ b ≠ D) (fun b hl hh => by omega)
            have hq := planS.anyOk hq (ok' := fun b => wo.heap.size ≤ b ∧ b ≠ D) (fun b hl hh => by omega)
            have hws := hws.anyOk (ok' := fun b => wo.heap.size ≤ b ∧ b ≠ D) (fun b hl hh => by omega)
            have hm := hm.anyOk (ok' := fun b => wo.heap.size ≤ b ∧ b ≠ D) (fun b hl hh => by omega)
            have hb := hb.trans (hbk.mono hb.size)
            have hS : SO7 w2.heap.size w.heap.size qb (qo + L) #[.int .i64 cst, u0, u1, u2, v0, v1, v2, .int .i64 cnum, .slice (some ⟨qb, qo, none⟩) (L + 1) zc] #[.int .i64 t.n, .slice la t.links.length lc] n wk := SO7.under hS4 hcl htl hql hb
            obtain ⟨lp0, lp1, lp2⟩ := planC.st (P := Try.prog) hp
            obtain ⟨lq0, lq1, lq2⟩ := planC.st (P := Try.prog) hq
            obtain ⟨lm0, lm1, lm2⟩ := planC.one hp
            obtain ⟨ly0, ly1, ly2⟩ := planC.one hq
            refine hK10 _ _ (fun _ => hS) ?_
            clear hK10
            refine wpAnyK_take' (i := 11) _ rfl (by kernel_rfl) (fun _ _ _ h => hQp _ _ _ _ h) hS (yields_value (by kernel_rfl) (by intro w0 hw0; have hw1 := hw0; simp only [SO7] at hw1; first | (go_simp; done) | (go_simp; rfl))) ?_; simp only [Act.put, List.getElem_toArray, List.getElem_cons_succ, List.getElem_cons_zero, List.setIfInBounds_toArray, List.set_cons_succ, List.set_cons_zero]
            refine wpAnyK_take' (i := 12) _ rfl (by kernel_rfl) (fun _ _ _ h => hQp _ _ _ _ h) hS (yields_value (by kernel_rfl) (by intro w0 hw0; have hw1 := hw0; simp only [SO7] at hw1; first | (go_simp; done) | (go_simp; rfl))) ?_; simp only [Act.put, List.getElem_toArray, List.getElem_cons_succ, List.getElem_cons_zero, List.setIfInBounds_toArray, List.set_cons_succ, List.set_cons_zero]
            refine wpAnyK_take' (i := 13) _ rfl (by kernel_rfl) (fun _ _ _ h => hQp _ _ _ _ h) hS (yields_value (by kernel_rfl) (by intro w0 hw0; have hw1 := hw0; simp only [SO7] at hw1; first | (go_simp; done) | (go_simp; rfl))) ?_; simp only [Act.put, List.getElem_toArray, List.getElem_cons_succ, List.getElem_cons_zero, List.setIfInBounds_toArray, List.set_cons_succ, List.set_cons_zero]
            refine wpAnyK_take' (i := 14) _ rfl (by kernel_rfl) (fun _ _ _ h => hQp _ _ _ _ h) hS (yields_value (by kernel_rfl) (by intro w0 hw0; have hw1 := hw0; simp only [SO7] at hw1; first | (go_simp; done) | (go_simp; rfl))) ?_; simp only [Act.put, List.getElem_toArray, List.getElem_cons_succ, List.getElem_cons_zero, List.setIfInBounds_toArray, List.set_cons_succ, List.set_cons_zero]
            clear hS
            obtain ⟨d1, d2⟩ := hD.cells
            have hDl := hD.lt
            --CUT8
            clear hS
            refine wpAnyK_call (i := 16) rfl (by kernel_rfl) (by kernel_rfl) fun K16 hK16 => ?_
            go_simp
            go_wp2_with fail
            --CUT9
            obtain ⟨hDE, FRE⟩ := set9 hD (fun b => b ≠ D) wo.heap.size (fun h => h rfl) hDs (.int .i64 d.stage) m0 m1 m2 y0 y1 y2 (.int .i64 d.num) (.slice ua d.waits.length uc)
            have hpE := planS.anyOk (FRE.rep' hp (fun b hb => .inl hb.2)) (ok' := fun b => b ≠ w2.heap.size) (fun b _ hh => by omega)
            have hqE := planS.anyOk (FRE.rep' hq (fun b hb => .inl hb.2)) (ok' := fun b => b ≠ w2.heap.size) (fun b _ hh => by omega)
            have hwE := (FRE.row' hws (fun b hb => .inl hb.2)).anyOk (ok' := fun b => b ≠ w2.heap.size) (fun b _ hh => by omega)
            have hmE := (FRE.row' hm (fun b hb => .inl hb.2)).anyOk (ok' := fun b => b ≠ w2.heap.size) (fun b _ hh => by omega)
            have hbE := (Frm.of (W := fun b => b ≠ D) hb (Nat.le_refl _)).trans FRE
            have hS : SO7 w2.heap.size w.heap.size qb (qo + L) #[.int .i64 cst, u0, u1, u2, v0, v1, v2, .int .i64 cnum, .slice (some ⟨qb, qo, none⟩) (L + 1) zc] #[.int .i64 t.n, .slice la t.links.length lc] n _ := SO7.under hS4 hcl htl hql hbE.below
            refine hK16 _ _ (fun _ => hS) ?_
            clear hK16 d1 d2
            refine wpAnyK_take' (i := 17) _ rfl (by kernel_rfl) (fun _ _ _ h => hQp _ _ _ _ h) hS (yields_value (by kernel_rfl) (by intro w0 hw0; have hw1 := hw0; simp only [SO7] at hw1; first | (go_simp; done) | (go_simp; rfl))) ?_; simp only [Act.put, List.getElem_toArray, List.getElem_cons_succ, List.getElem_cons_zero, List.setIfInBounds_toArray, List.set_cons_succ, List.set_cons_zero]
            refine wpAnyK_take' (i := 18) _ rfl (by kernel_rfl) (fun _ _ _ h => hQp _ _ _ _ h) hS (yields_value (by kernel_rfl) (by intro w0 hw0; have hw1 := hw0; simp only [SO7] at hw1; first | (go_simp; done) | (go_simp; rfl))) ?_; simp only [Act.put, List.getElem_toArray, List.getElem_cons_succ, List.getElem_cons_zero, List.setIfInBounds_toArray, List.set_cons_succ, List.set_cons_zero]
            refine wpAnyK_done (by kernel_rfl) ?_ _
            refine hR _ _ ?_
            iterate 17 apply Exists.intro
            refine ⟨?_, ⟨D, d, m, m0, m1, m2, y0, y1, y2, ua, uc, oa9, oc9, rfl, rfl, hDs, hDE, hU, hk2, hcs, hcn, hpE, hqE, hwE, hmE, hbE.below⟩⟩
            simp only [puts, Act.put, List.setIfInBounds_toArray, List.set_cons_succ, List.set_cons_zero]
            rfl
        rintro a' w8 ⟨v15, v16, v67, v68, v69, v70, v71, v72, v73, v74, v75, v76, v77, v78, v79, v80, v81, rfl, hb8⟩
        simp only [puts, Act.put, List.setIfInBounds_toArray, List.set_cons_succ, List.set_cons_zero]
        --CUTA
        obtain ⟨D, d, m, m0, m1, m2, y0, y1, y2, ua, uc, oa9, oc9, rfl, rfl, hDs, hD, hU, hk2, hcs, hcn, hp, hq, hws, hm, hb9⟩ := hb8
        have hC8 := hC'.under hb9
        have hT8 := hTo.under hb9
        have hB8 := hBo.trans (hb9.mono hBo.size)
        have hmx := hm.len_le
        have hDl := hD.lt
        clear hS0 hS4 HB hb9 hC' hTo hBo q0
        go_wp2
        go_loopw [19, 86] (fun _ idx wr => ∃ j : Nat, idx = .int .i64 j ∧ j ≤ m.length ∧ Below w8.heap.size w8 wr) (fun _ idx _ => m.length - (intOf idx).toNat)
        case atStart => exact ⟨0, rfl, Nat.zero_le _, Below.refl _ _⟩
        case round =>
          obtain ⟨j, rfl, hj, hb⟩ := hrel
          rename World => wi
          by_cases hlt : j < m.length
          · have b1 : (j : Int) < (m.length : Int) := by omega
            have b0 : (0 : Int) ≤ (j : Int) := by omega
            obtain ⟨x, hxj⟩ : ∃ x, m[j]? = some x := ⟨_, List.getElem?_eq_getElem hlt⟩
            obtain ⟨g, off, ra, rc, fb, fd, rfl, hgl, hsw, hor, hce⟩ := toRow_get hm hxj
            obtain ⟨e0, e1, e2, e3, e4, e5⟩ := hce wi hb
            obtain ⟨k1, k2⟩ := hk2.out x (List.mem_of_getElem? hxj)
            have b5 : ¬ ((i : Int) + 1 < (a : Int)) := by omega
            clear hce hxj k2
            obtain ⟨xs, ⟨xk, xn, xv, xr, xf⟩⟩ := x
            dsimp only at hsw hor e0 e1 e2 e3 e4 e5 k1
            subst k1
            have hbx : Below w8.heap.size w8 (wi.alloc (.cells #[.int .i64 xs, .int .i64 2, .int .i64 xn, .int .i64 xv, .slice ra xr.length rc, .slice fb xf.length fd] 41)) := hb.alloc hb.size _
            go_wp2
            case roundEnd =>
              go_roundw
              case rel => exact ⟨j + 1, by go_num, by omega, hbx⟩
              case measure => simp [intOf] <;> omega
          --CUTB
          have b1 : ¬ (j : Int) < (m.length : Int) := by omega
          have hp := planS.below hp hb
          have hq := planS.below hq hb
          have hws := hws.below hb
          have hD := hD.under hb
          have hC := hC8.under hb
          have hTi := hT8.under hb
          have hBi := hB8.trans (hb.mono hB8.size)
          obtain ⟨lp0, lp1, lp2⟩ := planC.st (P := Try.prog) hp
          obtain ⟨lq0, lq1, lq2⟩ := planC.st (P := Try.prog) hq
          obtain ⟨lm0, lm1, lm2⟩ := planC.one hp
          obtain ⟨ly0, ly1, ly2⟩ := planC.one hq
          have hcl := hC.lt
          have htl := hTi.lt
          obtain ⟨hCE, FRE⟩ := set9 hC (fun b => b ≠ w2.heap.size) w.heap.size (fun h => h rfl) (by omega) (.int .i64 d.stage) m0 m1 m2 y0 y1 y2 (.int .i64 d.num) (.slice ua d.waits.length uc)
          have hpE := FRE.rep' hp (fun b hb => .inl hb)
          have hqE := FRE.rep' hq (fun b hb => .inl hb)
          have hwE := FRE.row' hws (fun b hb => .inl hb)
          have hTE := FRE.blk hTi (.inl (by omega))
          have hBE := hBi.trans FRE.below
          obtain ⟨c1, c2⟩ := hC.cells
          obtain ⟨d1, d2⟩ := hD.cells
          have hDC : D ≠ w2.heap.size := by omega
          have hDC' : w2.heap.size ≠ D := by omega
          clear hC hD hp hq hws hTi hBi hm hk2 FRE
          go_wp2
          case roundEnd =>
            go_roundw
            case rel => exact ⟨i + 1, d, m0, m1, m2, y0, y1, y2, ua, uc, by go_num, hU, hCE, hcs, hcn, hpE, hqE, hwE, hTE, hBE⟩
            case measure => simp [intOf] <;> omega

theorem controlOrder_c (w : World) (t : Topo) (ts : List Value) (okt : Nat → Prop) (h : topoS.rep okt w ts t) (l : List Flow) (fa : Option Addr) (fc : Nat) (okl : Nat → Prop) (hl : rowRep flowS okl w fa fc l) (ps : List Int) (pa : Option Addr) (pc : Nat) (okp : Nat → Prop) (hp : rowRep intS okp w pa pc ps) :
    Calls Try.prog 3 #[.agg ts.toArray, .slice fa l.length fc, .slice pa ps.length pc] w fun e w' => e = .returned (.bool true) ∧ Below w.heap.size w w' := ctlOrder_c w t ts okt h l fa fc okl hl pa ps.length pc
end Go.Proofs.Ytagldmdeohenjaa
