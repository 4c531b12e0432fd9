/-
  The walk of the law's alive (control).
-/
import Derived.WalkKit
import Derived.WalkSpells
import Derived.WalkLawsBesides
import Derived.Lib.Hide
import Derived.Deep.LoopGhost
import Derived.Deep.QuietTactic
import Derived.BigQuiet
import Derived.Deep.RegionWith
import Derived.Handy
import Derived.Test.YtagldmdeohenjaaPk37
import Derived.Test.YtagldmdeohenjaaPk38
import Derived.Test.YtagldmdeohenjaaPk26
set_option linter.unusedSimpArgs false
set_option linter.unusedVariables false
namespace Go.St
open Go.RowKit
def twoT : Topo := ⟨2, [⟨0, 1, 1⟩]⟩
theorem link_row7 {w : World} {b : Nat} {e : TypeId} {x : Link} {ok : Nat → Prop} (h : blockIs w b e #[.int .i64 x.a, .int .i64 x.b, .int .i64 x.cost]) (h1 : I64 x.a) (h2 : I64 x.b) (h3 : I64 x.cost) (hok : ok b) : rowRep linkS ok w (some ⟨b, 0, none⟩) 1 [x] := by
  refine ⟨Nat.le_refl _, by decide, .inr ⟨b, 0, rfl, hok, h.lt, fun i y hy => ?_⟩⟩
  match i, hy with
  | 0, hy =>
    obtain rfl : x = y := by simpa using hy
    refine ⟨_, ⟨rfl, h1, h2, h3⟩, fun j c hc => ?_⟩
    simp only [Nat.zero_mul, Nat.zero_add]
    rw [h.cells.1 j]
    simpa using hc
  | i + 1, hy => simp at hy
theorem flow_row1 {w : World} {b : Nat} {e : TypeId} {f : Flow} {ok : Nat → Prop} (h : blockIs w b e #[.int .i64 f.src, .int .i64 f.dst, .slice none 0 0, .slice none 0 0]) (hv : f.via = []) (hn : f.no = []) (h1 : I64 f.src) (h2 : I64 f.dst) (hok : ok b) : rowRep flowS ok w (some ⟨b, 0, none⟩) 1 [f] := by
  refine ⟨Nat.le_refl _, by decide, .inr ⟨b, 0, rfl, hok, h.lt, fun i y hy => ?_⟩⟩
  match i, hy with
  | 0, hy =>
    obtain rfl : f = y := by simpa using hy
    refine ⟨_, ⟨none, 0, none, 0, rfl, h1, h2, by rw [hv]; exact rowRep.nil _ _ _ _, by rw [hn]; exact rowRep.nil _ _ _ _⟩, fun j c hc => ?_⟩
    simp only [Nat.zero_mul, Nat.zero_add]
    rw [h.cells.1 j]
    rw [hv, hn] at hc
    simpa using hc
  | i + 1, hy => simp at hy
theorem cellRow1 {w : World} {ok : Nat → Prop} {wa : Option Addr} {wc : Nat} {x : Int} (h : rowRep intS ok w wa wc [x]) : ∃ b o, wa = some ⟨b, o, none⟩ ∧ w.cell? ⟨b, o, none⟩ = some (.int .i64 x) ∧ b < w.heap.size ∧ 1 ≤ wc := by
  obtain ⟨hc, _, h⟩ := h
  rcases h with h | ⟨b, o, rfl, hok, hlt, h⟩
  · simp at h
  · obtain ⟨cs, ⟨rfl, hI⟩, hcs⟩ := h 0 x rfl
    have := hcs 0 _ rfl
    refine ⟨b, o, rfl, ?_, hlt, hc⟩
    simpa using this
def SA7 (b : Nat) (cs : Array Value) (q o : Nat) (w : World) : Prop := (∀ o, w.cell? ⟨b, o, none⟩ = cs[o]?) ∧ w.cell? ⟨q, o, none⟩ = some (.int .i64 1)
theorem cell_same {w w' : World} {b o : Nat} (hb : Below w.heap.size w w') (h : b < w.heap.size) : w'.cell? ⟨b, o, none⟩ = w.cell? ⟨b, o, none⟩ := by
  simp only [World.cell?, hb.block b h]
theorem SA7.under {b q o : Nat} {cs : Array Value} {w w' : World} (h : SA7 b cs q o w) (h1 : b < w.heap.size) (h2 : q < w.heap.size) (hb : Below w.heap.size w w') : SA7 b cs q o w' :=
  ⟨fun i => (cell_same hb h1).trans (h.1 i), (cell_same hb h2).trans h.2⟩
theorem kindRow1 {w : World} {ok : Nat → Prop} {oa : Option Addr} {oc : Nat} {x : To} (h : rowRep toS ok w oa oc [x]) : ∃ b o, oa = some ⟨b, o, none⟩ ∧ w.cell? ⟨b, o + 1, none⟩ = some (.int .i64 x.order.kind) ∧ b < w.heap.size ∧ 1 ≤ oc := by
  obtain ⟨hc, _, h⟩ := h
  rcases h with h | ⟨b, o, rfl, hok, hlt, h⟩
  · simp at h
  · obtain ⟨cs, hr, hcs⟩ := h 0 x rfl
    obtain ⟨_, rfl, _, ra, rc, fa, fc, rfl, _⟩ := hr
    have := hcs 1 _ rfl
    refine ⟨b, o, rfl, ?_, hlt, hc⟩
    simpa using this
theorem toRow_get {ok : Nat → Prop} {w : World} {ao : Option Addr} {cap : Nat} {l : List To} (h : rowRep toS ok w ao cap l) {j : Nat} {x : To} (hx : l[j]? = some x) :
    ∃ g off ra rc fb fd, ao = some ⟨g, off, none⟩ ∧ g < w.heap.size ∧ I64 x.sw ∧ orderS.rep ok w [.int .i64 x.order.kind, .int .i64 x.order.num, .int .i64 x.order.ver, .slice ra x.order.rules.length rc, .slice fb x.order.flows.length fd] x.order ∧ ∀ w', Below w.heap.size w w' →
      w'.cell? ⟨g, off + j * 6, none⟩ = some (.int .i64 x.sw) ∧ w'.cell? ⟨g, off + j * 6 + 1, none⟩ = some (.int .i64 x.order.kind) ∧ w'.cell? ⟨g, off + j * 6 + 2, none⟩ = some (.int .i64 x.order.num) ∧ w'.cell? ⟨g, off + j * 6 + 3, none⟩ = some (.int .i64 x.order.ver) ∧ w'.cell? ⟨g, off + j * 6 + 4, none⟩ = some (.slice ra x.order.rules.length rc) ∧ w'.cell? ⟨g, off + j * 6 + 5, none⟩ = some (.slice fb x.order.flows.length fd) := by
  obtain ⟨g, off, rfl, _, hbl, cs, hcs, hce⟩ := h.get hx
  obtain ⟨ds, rfl, hsw, ho⟩ := hcs
  have ho' := ho
  obtain ⟨ra, rc, fa, fc, rfl, _⟩ := ho
  refine ⟨g, off, ra, rc, fa, fc, rfl, hbl, hsw, ho', fun w' hb => ⟨?_, ?_, ?_, ?_, ?_, ?_⟩⟩
  · have := cell_at hb hbl (hce 0 _ rfl); simpa only [toS, Nat.add_zero] using this
  · exact cell_at hb hbl (hce 1 _ rfl)
  · exact cell_at hb hbl (hce 2 _ rfl)
  · exact cell_at hb hbl (hce 3 _ rfl)
  · exact cell_at hb hbl (hce 4 _ rfl)
  · exact cell_at hb hbl (hce 5 _ rfl)
def SO7 (b t q o : Nat) (cs ts : Array Value) (n : Int) (w : World) : Prop := (∀ o, w.cell? ⟨b, o, none⟩ = cs[o]?) ∧ (∀ o, w.cell? ⟨t, o, none⟩ = ts[o]?) ∧ w.cell? ⟨q, o, none⟩ = some (.int .i64 n)
theorem SO7.under {b t q o : Nat} {cs ts : Array Value} {n : Int} {w w' : World} (h : SO7 b t q o cs ts n w) (h1 : b < w.heap.size) (h2 : t < w.heap.size) (h3 : q < w.heap.size) (hb : Below w.heap.size w w') : SO7 b t q o cs ts n w' :=
  ⟨fun i => (cell_same hb h1).trans (h.1 i), fun i => (cell_same hb h2).trans (h.2.1 i), (cell_same hb h3).trans h.2.2⟩
theorem alive7_ask : (ctlAsk noCtl twoT [⟨0, 1, [], []⟩]).2.2 = 0 ∧ (ctlAsk noCtl twoT [⟨0, 1, [], []⟩]).2.1.length = 1 ∧ (ctlAsk noCtl twoT [⟨0, 1, [], []⟩]).1.stage = 1 ∧ (ctlAsk noCtl twoT [⟨0, 1, [], []⟩]).1.waits = [1] := by decide +kernel
theorem alive7_back : (ctlBack (ctlAsk noCtl twoT [⟨0, 1, [], []⟩]).1 twoT 1).2.2 = 0 ∧ (ctlBack (ctlAsk noCtl twoT [⟨0, 1, [], []⟩]).1 twoT 1).1.stage = 2 ∧ (ctlBack (ctlAsk noCtl twoT [⟨0, 1, [], []⟩]).1 twoT 1).2.1.map (fun x => x.order.kind) = [2] := by decide +kernel
theorem noCtl_small : CtlSmall noCtl := ⟨PlanSmall.none, PlanSmall.none, by decide, fun s => by simp [noCtl, noPlan, rulesAt, rulesFrom]⟩
theorem noCtl_rep {ok : Nat → Prop} {w : World} : ctlS.rep ok w [.int .i64 0, .int .i64 0, .slice none 0 0, .slice none 0 0, .int .i64 0, .slice none 0 0, .slice none 0 0, .int .i64 0, .slice none 0 0] noCtl :=
  ctlS.mk_ (c := noCtl) (I64.small (by decide) (by decide)) (I64.small (by decide) (by decide)) (noPlanC _ _) (noPlanC _ _) (rowRep.nil _ _ _ _)
theorem alive7_ctl : (ctlAsk noCtl twoT [⟨0, 1, [], []⟩]).1.now = noPlan ∧ (ctlAsk noCtl twoT [⟨0, 1, [], []⟩]).1.next = ⟨1, [⟨0, 1, [], []⟩], [[0, 1]]⟩ := by decide +kernel
theorem alive7_small : CtlSmall (ctlAsk noCtl twoT [⟨0, 1, [], []⟩]).1 := by
  refine ⟨?_, ?_, ?_, fun s => ?_⟩
  · rw [alive7_ctl.1]; exact PlanSmall.none
  · rw [alive7_ctl.2]; exact ⟨by simp, by simp, by simp, by simp⟩
  · rw [alive7_ask.2.2.2]; simp
  · rw [alive7_ctl.1]; simp [noPlan, rulesAt, rulesFrom]
end Go.St
namespace Go.Proofs.Ytagldmdeohenjaa
open Go.RowKit Go.St

set_option maxRecDepth 100000 in
set_option maxHeartbeats 4000000 in
theorem two7_c (w : World) : Calls Try.prog 20 #[] w fun e w' => ∃ la : Option Addr, e = .returned (.agg #[.int .i64 2, .slice la 1 1]) ∧ topoS.rep (fun b => w.heap.size ≤ b) w' [.int .i64 2, .slice la 1 1] twoT ∧ Below w.heap.size w w' := by
  have hB : Below w.heap.size w ((w.alloc (.cells #[.int .i64 2, .slice (some ⟨w.heap.size + 1, 0, none⟩) 1 1] 24)).alloc (.cells #[.int .i64 0, .int .i64 1, .int .i64 1] 90)) := by (repeat' (first | with_reducible exact Below.refl _ _ | with_reducible assumption | with_reducible refine Below.drew ?_ | with_reducible refine Below_drewN ?_ _ | with_reducible refine Below.alloc ?_ ?_ _ | with_reducible refine Below.setCell ?_ ?_ _ | omega | (simp; done) | (simp; omega)))
  have hT : blockIs ((w.alloc (.cells #[.int .i64 2, .slice (some ⟨w.heap.size + 1, 0, none⟩) 1 1] 24)).alloc (.cells #[.int .i64 0, .int .i64 1, .int .i64 1] 90)) w.heap.size 24 #[.int .i64 2, .slice (some ⟨w.heap.size + 1, 0, none⟩) 1 1] := (blockIs.new rfl).alloc _
  have hL : blockIs ((w.alloc (.cells #[.int .i64 2, .slice (some ⟨w.heap.size + 1, 0, none⟩) 1 1] 24)).alloc (.cells #[.int .i64 0, .int .i64 1, .int .i64 1] 90)) (w.heap.size + 1) 90 #[.int .i64 0, .int .i64 1, .int .i64 1] := blockIs.new (by simp)
  have hR : topoS.rep (fun b => w.heap.size ≤ b) ((w.alloc (.cells #[.int .i64 2, .slice (some ⟨w.heap.size + 1, 0, none⟩) 1 1] 24)).alloc (.cells #[.int .i64 0, .int .i64 1, .int .i64 1] 90)) [.int .i64 2, .slice (some ⟨w.heap.size + 1, 0, none⟩) 1 1] twoT :=
    ⟨_, 1, rfl, I64.small (by decide) (by decide), link_row7 (x := ⟨0, 1, 1⟩) hL (I64.small (by decide) (by decide)) (I64.small (by decide) (by decide)) (I64.small (by decide) (by decide)) (by omega)⟩
  obtain ⟨g1, g2⟩ := hT.cells
  go_enter Try.func20, Try.ntmps20
  go_wp2_with ((with_reducible refine bodyPost_ret (v := .agg #[.int .i64 2, .slice (some ⟨w.heap.size + 1, 0, none⟩) 1 1]) ?ra1 ?rb1 ?rc1); go_must (case ra1 => simp [results, Try.results20, go_sem, g1]); go_must (case rb1 => rfl); go_must (case rc1 => exact ⟨_, rfl, hR, hB⟩))

set_option maxRecDepth 100000 in
set_option maxHeartbeats 4000000 in
theorem back7_c (c : Ctl) (cs ts : List Value) (okc okt : Nat → Prop) (w : World) (h : ctlS.rep okc w cs c) (ht : topoS.rep okt w ts twoT) (hsm : CtlSmall c) (b1 : (ctlBack c twoT 1).2.2 = 0) (b2 : (ctlBack c twoT 1).1.stage = 2) (b3 : (ctlBack c twoT 1).2.1.map (fun x => x.order.kind) = [2]) :
    Calls Try.prog 9 #[.agg cs.toArray, .agg ts.toArray, .int .i64 1] w fun e w' => ∃ n0 n1 n2 x0 x1 x2 num wa wl wc oa oc, e = .returned (.tuple #[.agg #[.int .i64 2, n0, n1, n2, x0, x1, x2, .int .i64 num, .slice wa wl wc], .slice oa 1 oc, .int .i64 0]) ∧ (∃ p q, planC w' (fun _ => True) n0 n1 n2 p ∧ planC w' (fun _ => True) x0 x1 x2 q) ∧ (∃ x, rowRep toS (fun b => w.heap.size ≤ b) w' oa oc [x] ∧ x.order.kind = 2) ∧ Below w.heap.size w w' := by
  refine (back_c c twoT 1 cs ts okc okt w h ht hsm).mono ?_
  rintro e w' ⟨⟨ks, oa, oc, rfl, hk, hm⟩, hb⟩
  obtain ⟨n0, n1, n2, x0, x1, x2, wa, wc, rfl, hst, hnu, hn, hx, hw⟩ := ctlS.open_ hk
  generalize ctlBack c twoT 1 = R at *
  obtain ⟨⟨st, now, next, num, ws⟩, ll, ee⟩ := R
  dsimp only at *
  subst b1 b2
  obtain ⟨x, rfl⟩ : ∃ x, ll = [x] := by
    match ll, b3 with
    | [], h => simp at h
    | [x], _ => exact ⟨x, rfl⟩
    | _ :: _ :: _, h => simp at h
  exact ⟨n0, n1, n2, x0, x1, x2, num, wa, ws.length, wc, oa, oc, rfl, ⟨now, next, planS.anyOk hn fun _ _ _ => trivial, planS.anyOk hx fun _ _ _ => trivial⟩, ⟨x, hm, by simpa using b3⟩, hb⟩

set_option maxRecDepth 100000 in
set_option maxHeartbeats 16000000 in
theorem alive7_c (w : World) : Calls Try.prog 7 #[] w fun e w' => e = .returned (.bool true) ∧ Below w.heap.size w w' := by
  go_enter Try.func7, Try.ntmps7
  go_wp2_with fail
  refine (two7_c _).mono ?_
  rintro e w1 ⟨la, rfl, ht1, hb1⟩
  go_wp2_with fail
  have hF : blockIs (w1.alloc (.cells #[.int .i64 0, .int .i64 1, .slice none 0 0, .slice none 0 0] 64)) w1.heap.size 64 #[.int .i64 0, .int .i64 1, .slice none 0 0, .slice none 0 0] := blockIs.new rfl
  have hb2 : Below w1.heap.size w1 (w1.alloc (.cells #[.int .i64 0, .int .i64 1, .slice none 0 0, .slice none 0 0] 64)) := by (repeat' (first | with_reducible exact Below.refl _ _ | with_reducible assumption | with_reducible refine Below.drew ?_ | with_reducible refine Below_drewN ?_ _ | with_reducible refine Below.alloc ?_ ?_ _ | with_reducible refine Below.setCell ?_ ?_ _ | omega | (simp; done) | (simp; omega)))
  have ht2 := topoS.below ht1 hb2
  have hB2 := hb1.trans (hb2.mono hb1.size)
  generalize (w1.alloc (.cells #[.int .i64 0, .int .i64 1, .slice none 0 0, .slice none 0 0] 64)) = w2 at *
  have hfl := flow_row1 (f := ⟨0, 1, [], []⟩) (ok := fun _ => True) hF rfl rfl (I64.small (by decide) (by decide)) (I64.small (by decide) (by decide)) trivial
  have hA := ask_c noCtl twoT [⟨0, 1, [], []⟩] _ _ (fun _ => True) _ _ _ 1 w2 noCtl_rep ht2 hfl noCtl_small
  obtain ⟨a1, a2, a3, a4⟩ := alive7_ask
  obtain ⟨b1, b2, b3⟩ := alive7_back
  have hsm := alive7_small
  generalize ctlAsk noCtl twoT [⟨0, 1, [], []⟩] = R at *
  obtain ⟨⟨st, now, next, num, ws⟩, ll, ee⟩ := R
  dsimp only at *
  subst a1 a3 a4
  refine hA.mono ?_
  rintro e w3 ⟨⟨ks, oa, oc, rfl, hk, hm⟩, hb3⟩
  obtain ⟨n0, n1, n2, x0, x1, x2, wa, wc, rfl, hst, hnu, hn, hx, hw⟩ := ctlS.open_ hk
  dsimp only at *
  rw [a2]
  obtain ⟨lx0, lx1, lx2⟩ := hx.one
  obtain ⟨ln0, ln1, ln2⟩ := hn.one
  have hB3 := hB2.trans (hb3.mono hB2.size)
  obtain ⟨lp0, lp1, lp2⟩ := planC.st (P := Try.prog) hn
  obtain ⟨lq0, lq1, lq2⟩ := planC.st (P := Try.prog) hx
  go_wp2_with fail
  --CUT
  clear lp0 lp1 lp2 lq0 lq1 lq2 hA
  obtain ⟨q, o, rfl, hqc, hql3, hcap⟩ := cellRow1 hw
  have hZ4 : blockIs (w3.alloc (.cells #[.int .i64 1, n0, n1, n2, x0, x1, x2, .int .i64 num, .slice (some ⟨q, o, none⟩) 1 wc] 32)) w3.heap.size 32 #[.int .i64 1, n0, n1, n2, x0, x1, x2, .int .i64 num, .slice (some ⟨q, o, none⟩) 1 wc] := blockIs.new rfl
  have hb4 : Below w3.heap.size w3 (w3.alloc (.cells #[.int .i64 1, n0, n1, n2, x0, x1, x2, .int .i64 num, .slice (some ⟨q, o, none⟩) 1 wc] 32)) := by (repeat' (first | with_reducible exact Below.refl _ _ | with_reducible assumption | with_reducible refine Below.drew ?_ | with_reducible refine Below_drewN ?_ _ | with_reducible refine Below.alloc ?_ ?_ _ | with_reducible refine Below.setCell ?_ ?_ _ | omega | (simp; done) | (simp; omega)))
  have hk4 := ctlS.below hk hb4
  have hqc4 : (w3.alloc (.cells #[.int .i64 1, n0, n1, n2, x0, x1, x2, .int .i64 num, .slice (some ⟨q, o, none⟩) 1 wc] 32)).cell? ⟨q, o, none⟩ = some (.int .i64 1) := (cell_same hb4 hql3).trans hqc
  have hB4 := hB3.trans (hb4.mono hB3.size)
  have hql := Nat.lt_of_lt_of_le hql3 hb4.size
  generalize (w3.alloc (.cells #[.int .i64 1, n0, n1, n2, x0, x1, x2, .int .i64 num, .slice (some ⟨q, o, none⟩) 1 wc] 32)) = w4 at *
  have hzl := hZ4.lt
  have hS4 : SA7 w3.heap.size #[.int .i64 1, n0, n1, n2, x0, x1, x2, .int .i64 num, .slice (some ⟨q, o, none⟩) 1 wc] q o w4 := ⟨hZ4.cells.1, hqc4⟩
  have hS0 : SA7 w3.heap.size #[.int .i64 1, n0, n1, n2, x0, x1, x2, .int .i64 num, .slice (some ⟨q, o, none⟩) 1 wc] q o w4.drew := hS4
  have HB := Lib.hid (fun (w' : World) (ts : List Value) (okt : Nat → Prop) (hb : Below w4.heap.size w4 w') (ht : topoS.rep okt w' ts twoT) => back7_c _ _ ts _ okt w' (ctlS.below hk4 hb) ht hsm b1 b2 b3)
  clear hk4 hk hn hx hw hm hfl ht1 ht2 hF hqc hZ4 hqc4
  refine wp_region_to (SA7 w3.heap.size #[.int .i64 1, n0, n1, n2, x0, x1, x2, .int .i64 num, .slice (some ⟨q, o, none⟩) 1 wc] q o) 99 (fun a0 a' w' => ∃ v4 v5 v33 v34 v35 v36 v37 v38 v39 v40 v41 v42 v43, a' = puts a0 [(4, v4), (5, v5), (33, v33), (34, v34), (35, v35), (36, v36), (37, v37), (38, v38), (39, v39), (40, v40), (41, v41), (42, v42), (43, v43), (3, .int .i64 0)] ∧ ∃ D m0 m1 m2 y0 y1 y2 mu ua ul uc oa9 oc9 xx, v4 = .pointer (some ⟨D, 0, none⟩) ∧ v5 = .slice oa9 1 oc9 ∧ w4.heap.size ≤ D ∧ blockIs w' D 32 #[.int .i64 2, m0, m1, m2, y0, y1, y2, .int .i64 mu, .slice ua ul uc] ∧ rowRep toS (fun _ => True) w' oa9 oc9 [xx] ∧ xx.order.kind = 2 ∧ Below w4.heap.size w4 w') (by kernel_rfl) ?_ ?_
  · intro Q' hR hQp
    have hb0 : Below w4.heap.size w4 w4.drew := by (repeat' (first | with_reducible exact Below.refl _ _ | with_reducible assumption | with_reducible refine Below.drew ?_ | with_reducible refine Below_drewN ?_ _ | with_reducible refine Below.alloc ?_ ?_ _ | with_reducible refine Below.setCell ?_ ?_ _ | omega | (simp; done) | (simp; omega)))
    have hS : SA7 w3.heap.size #[.int .i64 1, n0, n1, n2, x0, x1, x2, .int .i64 num, .slice (some ⟨q, o, none⟩) 1 wc] q o w4.drew := hS0
    generalize w4.drew = wa at *
    refine wpAnyK_take' (i := 0) _ rfl (by kernel_rfl) (fun _ _ _ h => hQp _ _ _ _ h) hS (yields_value (by kernel_rfl) (by intro w0 hw0; have hw1 := hw0; simp only [SA7] at hw1; first | (go_simp; done) | (go_simp; rfl))) ?_; simp only [Act.put, List.getElem_toArray, List.getElem_cons_succ, List.getElem_cons_zero, List.setIfInBounds_toArray, List.set_cons_succ, List.set_cons_zero]
    refine wpAnyK_take' (i := 2) _ rfl (by kernel_rfl) (fun _ _ _ h => hQp _ _ _ _ h) hS (yields_value (by kernel_rfl) (by intro w0 hw0; have hw1 := hw0; simp only [SA7] at hw1; first | (go_simp; done) | (go_simp; rfl))) ?_; simp only [Act.put, List.getElem_toArray, List.getElem_cons_succ, List.getElem_cons_zero, List.setIfInBounds_toArray, List.set_cons_succ, List.set_cons_zero]
    refine wpAnyK_take' (i := 3) _ rfl (by kernel_rfl) (fun _ _ _ h => hQp _ _ _ _ h) hS (yields_value (by kernel_rfl) (by intro w0 hw0; have hw1 := hw0; simp only [SA7] at hw1; first | (go_simp; done) | (go_simp; rfl))) ?_; simp only [Act.put, List.getElem_toArray, List.getElem_cons_succ, List.getElem_cons_zero, List.setIfInBounds_toArray, List.set_cons_succ, List.set_cons_zero]
    refine wpAnyK_take' (i := 4) _ rfl (by kernel_rfl) (fun _ _ _ h => hQp _ _ _ _ h) hS (yields_value (by kernel_rfl) (by intro w0 hw0; have hw1 := hw0; simp only [SA7] at hw1; first | (go_simp; done) | (go_simp; rfl))) ?_; simp only [Act.put, List.getElem_toArray, List.getElem_cons_succ, List.getElem_cons_zero, List.setIfInBounds_toArray, List.set_cons_succ, List.set_cons_zero]
    refine wpAnyK_take' (i := 5) _ rfl (by kernel_rfl) (fun _ _ _ h => hQp _ _ _ _ h) hS (yields_value (by kernel_rfl) (by intro w0 hw0; have hw1 := hw0; simp only [SA7] at hw1; first | (go_simp; done) | (go_simp; rfl))) ?_; simp only [Act.put, List.getElem_toArray, List.getElem_cons_succ, List.getElem_cons_zero, List.setIfInBounds_toArray, List.set_cons_succ, List.set_cons_zero]
    refine wpAnyK_two (i := 1) (j := 11) rfl rfl (by kernel_rfl) (by kernel_rfl) (by kernel_rfl) (fun K1 hK1 => ?_) (fun K11 hK11 => ?_)
    · skip
      go_simp
      go_wp2_with fail
      refine (two7_c _).mono ?_
      rintro e wt ⟨lt, rfl, htt, hbt⟩
      go_wp2_with fail
      have hb := hb0.trans (hbt.mono hb0.size)
      have hS : SA7 w3.heap.size #[.int .i64 1, n0, n1, n2, x0, x1, x2, .int .i64 num, .slice (some ⟨q, o, none⟩) 1 wc] q o wt := SA7.under hS4 hzl hql hb
      refine hK1 _ _ (fun _ => hS) ?_
      clear hK1
      refine wpAnyK_two (i := 6) (j := 11) rfl rfl (by kernel_rfl) (by kernel_rfl) (by kernel_rfl) (fun K6 hK6 => ?_) (fun K11 hK11 => ?_)
      · skip
        go_simp
        go_wp2_with fail
        refine (HB.out _ _ _ hb htt).mono ?_
        rintro e wk ⟨m0, m1, m2, y0, y1, y2, mu, ua, ul, uc, oa9, oc9, rfl, ⟨pp, qq, hpp, hqq⟩, ⟨xx, hm, hxx⟩, hbk⟩
        go_wp2_with fail
        have hbs := hb.size
        have hb := hb.trans (hbk.mono hb.size)
        have hS : SA7 w3.heap.size #[.int .i64 1, n0, n1, n2, x0, x1, x2, .int .i64 num, .slice (some ⟨q, o, none⟩) 1 wc] q o wk := SA7.under hS4 hzl hql hb
        obtain ⟨lp0, lp1, lp2⟩ := planC.st (P := Try.prog) hpp
        obtain ⟨lq0, lq1, lq2⟩ := planC.st (P := Try.prog) hqq
        obtain ⟨lm0, lm1, lm2⟩ := planC.one hpp
        obtain ⟨ly0, ly1, ly2⟩ := planC.one hqq
        refine hK6 _ _ (fun _ => hS) ?_
        clear hK6
        refine wpAnyK_take' (i := 7) _ rfl (by kernel_rfl) (fun _ _ _ h => hQp _ _ _ _ h) hS (yields_value (by kernel_rfl) (by intro w0 hw0; have hw1 := hw0; simp only [SA7] at hw1; first | (go_simp; done) | (go_simp; rfl))) ?_; simp only [Act.put, List.getElem_toArray, List.getElem_cons_succ, List.getElem_cons_zero, List.setIfInBounds_toArray, List.set_cons_succ, List.set_cons_zero]
        refine wpAnyK_take' (i := 8) _ rfl (by kernel_rfl) (fun _ _ _ h => hQp _ _ _ _ h) hS (yields_value (by kernel_rfl) (by intro w0 hw0; have hw1 := hw0; simp only [SA7] at hw1; first | (go_simp; done) | (go_simp; rfl))) ?_; simp only [Act.put, List.getElem_toArray, List.getElem_cons_succ, List.getElem_cons_zero, List.setIfInBounds_toArray, List.set_cons_succ, List.set_cons_zero]
        refine wpAnyK_take' (i := 9) _ rfl (by kernel_rfl) (fun _ _ _ h => hQp _ _ _ _ h) hS (yields_value (by kernel_rfl) (by intro w0 hw0; have hw1 := hw0; simp only [SA7] at hw1; first | (go_simp; done) | (go_simp; rfl))) ?_; simp only [Act.put, List.getElem_toArray, List.getElem_cons_succ, List.getElem_cons_zero, List.setIfInBounds_toArray, List.set_cons_succ, List.set_cons_zero]
        refine wpAnyK_take' (i := 10) _ rfl (by kernel_rfl) (fun _ _ _ h => hQp _ _ _ _ h) hS (yields_value (by kernel_rfl) (by intro w0 hw0; have hw1 := hw0; simp only [SA7] at hw1; first | (go_simp; done) | (go_simp; rfl))) ?_; simp only [Act.put, List.getElem_toArray, List.getElem_cons_succ, List.getElem_cons_zero, List.setIfInBounds_toArray, List.set_cons_succ, List.set_cons_zero]
        clear hS
        refine wpAnyK_call (i := 11) rfl (by kernel_rfl) (by kernel_rfl) fun K11 hK11 => ?_
        go_simp
        go_wp2_with fail
        have hD : blockIs (wk.alloc (.cells #[.int .i64 0, .int .i64 0, .slice none 0 0, .slice none 0 0, .int .i64 0, .slice none 0 0, .slice none 0 0, .int .i64 0, .slice none 0 0] 32)) wk.heap.size 32 #[.int .i64 0, .int .i64 0, .slice none 0 0, .slice none 0 0, .int .i64 0, .slice none 0 0, .slice none 0 0, .int .i64 0, .slice none 0 0] := blockIs.new rfl
        have hbA : Below wk.heap.size wk (wk.alloc (.cells #[.int .i64 0, .int .i64 0, .slice none 0 0, .slice none 0 0, .int .i64 0, .slice none 0 0, .slice none 0 0, .int .i64 0, .slice none 0 0] 32)) := by (repeat' (first | with_reducible exact Below.refl _ _ | with_reducible assumption | with_reducible refine Below.drew ?_ | with_reducible refine Below_drewN ?_ _ | with_reducible refine Below.alloc ?_ ?_ _ | with_reducible refine Below.setCell ?_ ?_ _ | omega | (simp; done) | (simp; omega)))
        have hDs : w4.heap.size ≤ wk.heap.size := hb.size
        have hb := hb.trans (hbA.mono hb.size)
        have hm := hm.mono (w' := wk.alloc (.cells #[.int .i64 0, .int .i64 0, .slice none 0 0, .slice none 0 0, .int .i64 0, .slice none 0 0, .slice none 0 0, .int .i64 0, .slice none 0 0] 32)) (ok' := fun b => b ≠ wk.heap.size) (fun b hl _ => ⟨by omega, hbA.block b hl⟩)
        generalize (wk.alloc (.cells #[.int .i64 0, .int .i64 0, .slice none 0 0, .slice none 0 0, .int .i64 0, .slice none 0 0, .slice none 0 0, .int .i64 0, .slice none 0 0] 32)) = wA at *
        have hS : SA7 w3.heap.size #[.int .i64 1, n0, n1, n2, x0, x1, x2, .int .i64 num, .slice (some ⟨q, o, none⟩) 1 wc] q o wA := SA7.under hS4 hzl hql hb
        refine hK11 _ _ (fun _ => hS) ?_
        clear hK11
        generalize hDD : wk.heap.size = D at *
        clear hS
        obtain ⟨d1, d2⟩ := hD.cells
        have hDl := hD.lt
        clear hS
        refine wpAnyK_call (i := 12) rfl (by kernel_rfl) (by kernel_rfl) fun K12 hK12 => ?_
        go_simp
        go_wp2_with fail
        obtain ⟨hDE, FRE⟩ := set9 hD (fun b => b ≠ D) w4.heap.size (fun h => h rfl) hDs (.int .i64 2) m0 m1 m2 y0 y1 y2 (.int .i64 mu) (.slice ua ul uc)
        have hmE := FRE.row' hm (fun b hb => .inl hb)
        have hbE := (Frm.of (W := fun b => b ≠ D) hb (Nat.le_refl _)).trans FRE
        have hS : SA7 w3.heap.size #[.int .i64 1, n0, n1, n2, x0, x1, x2, .int .i64 num, .slice (some ⟨q, o, none⟩) 1 wc] q o _ := SA7.under hS4 hzl hql hbE.below
        refine hK12 _ _ (fun _ => hS) ?_
        clear hK12 d1 d2
        refine wpAnyK_take' (i := 13) _ rfl (by kernel_rfl) (fun _ _ _ h => hQp _ _ _ _ h) hS (yields_value (by kernel_rfl) (by intro w0 hw0; have hw1 := hw0; simp only [SA7] at hw1; first | (go_simp; done) | (go_simp; rfl))) ?_; simp only [Act.put, List.getElem_toArray, List.getElem_cons_succ, List.getElem_cons_zero, List.setIfInBounds_toArray, List.set_cons_succ, List.set_cons_zero]
        refine wpAnyK_take' (i := 14) _ rfl (by kernel_rfl) (fun _ _ _ h => hQp _ _ _ _ h) hS (yields_value (by kernel_rfl) (by intro w0 hw0; have hw1 := hw0; simp only [SA7] at hw1; first | (go_simp; done) | (go_simp; rfl))) ?_; simp only [Act.put, List.getElem_toArray, List.getElem_cons_succ, List.getElem_cons_zero, List.setIfInBounds_toArray, List.set_cons_succ, List.set_cons_zero]
        refine wpAnyK_done (by kernel_rfl) ?_ _
        refine hR _ _ ?_
        iterate 13 apply Exists.intro
        refine ⟨?_, ⟨D, m0, m1, m2, y0, y1, y2, mu, ua, ul, uc, oa9, oc9, xx, rfl, rfl, hDs, hDE, hmE.anyOk (fun _ _ _ => trivial), hxx, hbE.below⟩⟩
        simp only [puts, Act.put, List.setIfInBounds_toArray, List.set_cons_succ, List.set_cons_zero]
        rfl
      · skip
        go_simp
        go_wp2_with fail
        have hD : blockIs (wt.alloc (.cells #[.int .i64 0, .int .i64 0, .slice none 0 0, .slice none 0 0, .int .i64 0, .slice none 0 0, .slice none 0 0, .int .i64 0, .slice none 0 0] 32)) wt.heap.size 32 #[.int .i64 0, .int .i64 0, .slice none 0 0, .slice none 0 0, .int .i64 0, .slice none 0 0, .slice none 0 0, .int .i64 0, .slice none 0 0] := blockIs.new rfl
        have hbA : Below wt.heap.size wt (wt.alloc (.cells #[.int .i64 0, .int .i64 0, .slice none 0 0, .slice none 0 0, .int .i64 0, .slice none 0 0, .slice none 0 0, .int .i64 0, .slice none 0 0] 32)) := by (repeat' (first | with_reducible exact Below.refl _ _ | with_reducible assumption | with_reducible refine Below.drew ?_ | with_reducible refine Below_drewN ?_ _ | with_reducible refine Below.alloc ?_ ?_ _ | with_reducible refine Below.setCell ?_ ?_ _ | omega | (simp; done) | (simp; omega)))
        have hDs : w4.heap.size ≤ wt.heap.size := hb.size
        have hb := hb.trans (hbA.mono hb.size)
        have htt := topoS.below htt hbA
        generalize (wt.alloc (.cells #[.int .i64 0, .int .i64 0, .slice none 0 0, .slice none 0 0, .int .i64 0, .slice none 0 0, .slice none 0 0, .int .i64 0, .slice none 0 0] 32)) = wA at *
        have hS : SA7 w3.heap.size #[.int .i64 1, n0, n1, n2, x0, x1, x2, .int .i64 num, .slice (some ⟨q, o, none⟩) 1 wc] q o wA := SA7.under hS4 hzl hql hb
        refine hK11 _ _ (fun _ => hS) ?_
        clear hK11
        generalize hDD : wt.heap.size = D at *
        clear hS
        refine wpAnyK_call (i := 6) rfl (by kernel_rfl) (by kernel_rfl) fun K6 hK6 => ?_
        go_simp
        go_wp2_with fail
        refine (HB.out _ _ _ hb htt).mono ?_
        rintro e wk ⟨m0, m1, m2, y0, y1, y2, mu, ua, ul, uc, oa9, oc9, rfl, ⟨pp, qq, hpp, hqq⟩, ⟨xx, hm, hxx⟩, hbk⟩
        go_wp2_with fail
        have hbs := hb.size
        have hDl := hD.lt
        have hD := hD.under hbk
        have hm := hm.anyOk (ok' := fun b => b ≠ D) (fun b _ hh => by omega)
        have hb := hb.trans (hbk.mono hb.size)
        have hS : SA7 w3.heap.size #[.int .i64 1, n0, n1, n2, x0, x1, x2, .int .i64 num, .slice (some ⟨q, o, none⟩) 1 wc] q o wk := SA7.under hS4 hzl hql hb
        obtain ⟨lp0, lp1, lp2⟩ := planC.st (P := Try.prog) hpp
        obtain ⟨lq0, lq1, lq2⟩ := planC.st (P := Try.prog) hqq
        obtain ⟨lm0, lm1, lm2⟩ := planC.one hpp
        obtain ⟨ly0, ly1, ly2⟩ := planC.one hqq
        refine hK6 _ _ (fun _ => hS) ?_
        clear hK6
        refine wpAnyK_take' (i := 7) _ rfl (by kernel_rfl) (fun _ _ _ h => hQp _ _ _ _ h) hS (yields_value (by kernel_rfl) (by intro w0 hw0; have hw1 := hw0; simp only [SA7] at hw1; first | (go_simp; done) | (go_simp; rfl))) ?_; simp only [Act.put, List.getElem_toArray, List.getElem_cons_succ, List.getElem_cons_zero, List.setIfInBounds_toArray, List.set_cons_succ, List.set_cons_zero]
        refine wpAnyK_take' (i := 8) _ rfl (by kernel_rfl) (fun _ _ _ h => hQp _ _ _ _ h) hS (yields_value (by kernel_rfl) (by intro w0 hw0; have hw1 := hw0; simp only [SA7] at hw1; first | (go_simp; done) | (go_simp; rfl))) ?_; simp only [Act.put, List.getElem_toArray, List.getElem_cons_succ, List.getElem_cons_zero, List.setIfInBounds_toArray, List.set_cons_succ, List.set_cons_zero]
        refine wpAnyK_take' (i := 9) _ rfl (by kernel_rfl) (fun _ _ _ h => hQp _ _ _ _ h) hS (yields_value (by kernel_rfl) (by intro w0 hw0; have hw1 := hw0; simp only [SA7] at hw1; first | (go_simp; done) | (go_simp; rfl))) ?_; simp only [Act.put, List.getElem_toArray, List.getElem_cons_succ, List.getElem_cons_zero, List.setIfInBounds_toArray, List.set_cons_succ, List.set_cons_zero]
        refine wpAnyK_take' (i := 10) _ rfl (by kernel_rfl) (fun _ _ _ h => hQp _ _ _ _ h) hS (yields_value (by kernel_rfl) (by intro w0 hw0; have hw1 := hw0; simp only [SA7] at hw1; first | (go_simp; done) | (go_simp; rfl))) ?_; simp only [Act.put, List.getElem_toArray, List.getElem_cons_succ, List.getElem_cons_zero, List.setIfInBounds_toArray, List.set_cons_succ, List.set_cons_zero]
        clear hS
        obtain ⟨d1, d2⟩ := hD.cells
        have hDl := hD.lt
        clear hS
        refine wpAnyK_call (i := 12) rfl (by kernel_rfl) (by kernel_rfl) fun K12 hK12 => ?_
        go_simp
        go_wp2_with fail
        obtain ⟨hDE, FRE⟩ := set9 hD (fun b => b ≠ D) w4.heap.size (fun h => h rfl) hDs (.int .i64 2) m0 m1 m2 y0 y1 y2 (.int .i64 mu) (.slice ua ul uc)
        have hmE := FRE.row' hm (fun b hb => .inl hb)
        have hbE := (Frm.of (W := fun b => b ≠ D) hb (Nat.le_refl _)).trans FRE
        have hS : SA7 w3.heap.size #[.int .i64 1, n0, n1, n2, x0, x1, x2, .int .i64 num, .slice (some ⟨q, o, none⟩) 1 wc] q o _ := SA7.under hS4 hzl hql hbE.below
        refine hK12 _ _ (fun _ => hS) ?_
        clear hK12 d1 d2
        refine wpAnyK_take' (i := 13) _ rfl (by kernel_rfl) (fun _ _ _ h => hQp _ _ _ _ h) hS (yields_value (by kernel_rfl) (by intro w0 hw0; have hw1 := hw0; simp only [SA7] at hw1; first | (go_simp; done) | (go_simp; rfl))) ?_; simp only [Act.put, List.getElem_toArray, List.getElem_cons_succ, List.getElem_cons_zero, List.setIfInBounds_toArray, List.set_cons_succ, List.set_cons_zero]
        refine wpAnyK_take' (i := 14) _ rfl (by kernel_rfl) (fun _ _ _ h => hQp _ _ _ _ h) hS (yields_value (by kernel_rfl) (by intro w0 hw0; have hw1 := hw0; simp only [SA7] at hw1; first | (go_simp; done) | (go_simp; rfl))) ?_; simp only [Act.put, List.getElem_toArray, List.getElem_cons_succ, List.getElem_cons_zero, List.setIfInBounds_toArray, List.set_cons_succ, List.set_cons_zero]
        refine wpAnyK_done (by kernel_rfl) ?_ _
        refine hR _ _ ?_
        iterate 13 apply Exists.intro
        refine ⟨?_, ⟨D, m0, m1, m2, y0, y1, y2, mu, ua, ul, uc, oa9, oc9, xx, rfl, rfl, hDs, hDE, hmE.anyOk (fun _ _ _ => trivial), hxx, hbE.below⟩⟩
        simp only [puts, Act.put, List.setIfInBounds_toArray, List.set_cons_succ, List.set_cons_zero]
        rfl
    · skip
      go_simp
      go_wp2_with fail
      have hD : blockIs (wa.alloc (.cells #[.int .i64 0, .int .i64 0, .slice none 0 0, .slice none 0 0, .int .i64 0, .slice none 0 0, .slice none 0 0, .int .i64 0, .slice none 0 0] 32)) wa.heap.size 32 #[.int .i64 0, .int .i64 0, .slice none 0 0, .slice none 0 0, .int .i64 0, .slice none 0 0, .slice none 0 0, .int .i64 0, .slice none 0 0] := blockIs.new rfl
      have hbA : Below wa.heap.size wa (wa.alloc (.cells #[.int .i64 0, .int .i64 0, .slice none 0 0, .slice none 0 0, .int .i64 0, .slice none 0 0, .slice none 0 0, .int .i64 0, .slice none 0 0] 32)) := by (repeat' (first | with_reducible exact Below.refl _ _ | with_reducible assumption | with_reducible refine Below.drew ?_ | with_reducible refine Below_drewN ?_ _ | with_reducible refine Below.alloc ?_ ?_ _ | with_reducible refine Below.setCell ?_ ?_ _ | omega | (simp; done) | (simp; omega)))
      have hDs : w4.heap.size ≤ wa.heap.size := hb0.size
      have hb := hb0.trans (hbA.mono hb0.size)
      generalize (wa.alloc (.cells #[.int .i64 0, .int .i64 0, .slice none 0 0, .slice none 0 0, .int .i64 0, .slice none 0 0, .slice none 0 0, .int .i64 0, .slice none 0 0] 32)) = wA at *
      have hS : SA7 w3.heap.size #[.int .i64 1, n0, n1, n2, x0, x1, x2, .int .i64 num, .slice (some ⟨q, o, none⟩) 1 wc] q o wA := SA7.under hS4 hzl hql hb
      refine hK11 _ _ (fun _ => hS) ?_
      clear hK11
      generalize hDD : wa.heap.size = D at *
      clear hS
      refine wpAnyK_call (i := 1) rfl (by kernel_rfl) (by kernel_rfl) fun K1 hK1 => ?_
      go_simp
      go_wp2_with fail
      refine (two7_c _).mono ?_
      rintro e wt ⟨lt, rfl, htt, hbt⟩
      go_wp2_with fail
      have hb := hb.trans (hbt.mono hb.size)
      have hD := hD.under hbt
      have hS : SA7 w3.heap.size #[.int .i64 1, n0, n1, n2, x0, x1, x2, .int .i64 num, .slice (some ⟨q, o, none⟩) 1 wc] q o wt := SA7.under hS4 hzl hql hb
      refine hK1 _ _ (fun _ => hS) ?_
      clear hK1
      clear hS
      refine wpAnyK_call (i := 6) rfl (by kernel_rfl) (by kernel_rfl) fun K6 hK6 => ?_
      go_simp
      go_wp2_with fail
      refine (HB.out _ _ _ hb htt).mono ?_
      rintro e wk ⟨m0, m1, m2, y0, y1, y2, mu, ua, ul, uc, oa9, oc9, rfl, ⟨pp, qq, hpp, hqq⟩, ⟨xx, hm, hxx⟩, hbk⟩
      go_wp2_with fail
      have hbs := hb.size
      have hDl := hD.lt
      have hD := hD.under hbk
      have hm := hm.anyOk (ok' := fun b => b ≠ D) (fun b _ hh => by omega)
      have hb := hb.trans (hbk.mono hb.size)
      have hS : SA7 w3.heap.size #[.int .i64 1, n0, n1, n2, x0, x1, x2, .int .i64 num, .slice (some ⟨q, o, none⟩) 1 wc] q o wk := SA7.under hS4 hzl hql hb
      obtain ⟨lp0, lp1, lp2⟩ := planC.st (P := Try.prog) hpp
      obtain ⟨lq0, lq1, lq2⟩ := planC.st (P := Try.prog) hqq
      obtain ⟨lm0, lm1, lm2⟩ := planC.one hpp
      obtain ⟨ly0, ly1, ly2⟩ := planC.one hqq
      refine hK6 _ _ (fun _ => hS) ?_
      clear hK6
      refine wpAnyK_take' (i := 7) _ rfl (by kernel_rfl) (fun _ _ _ h => hQp _ _ _ _ h) hS (yields_value (by kernel_rfl) (by intro w0 hw0; have hw1 := hw0; simp only [SA7] at hw1; first | (go_simp; done) | (go_simp; rfl))) ?_; simp only [Act.put, List.getElem_toArray, List.getElem_cons_succ, List.getElem_cons_zero, List.setIfInBounds_toArray, List.set_cons_succ, List.set_cons_zero]
      refine wpAnyK_take' (i := 8) _ rfl (by kernel_rfl) (fun _ _ _ h => hQp _ _ _ _ h) hS (yields_value (by kernel_rfl) (by intro w0 hw0; have hw1 := hw0; simp only [SA7] at hw1; first | (go_simp; done) | (go_simp; rfl))) ?_; simp only [Act.put, List.getElem_toArray, List.getElem_cons_succ, List.getElem_cons_zero, List.setIfInBounds_toArray, List.set_cons_succ, List.set_cons_zero]
      refine wpAnyK_take' (i := 9) _ rfl (by kernel_rfl) (fun _ _ _ h => hQp _ _ _ _ h) hS (yields_value (by kernel_rfl) (by intro w0 hw0; have hw1 := hw0; simp only [SA7] at hw1; first | (go_simp; done) | (go_simp; rfl))) ?_; simp only [Act.put, List.getElem_toArray, List.getElem_cons_succ, List.getElem_cons_zero, List.setIfInBounds_toArray, List.set_cons_succ, List.set_cons_zero]
      refine wpAnyK_take' (i := 10) _ rfl (by kernel_rfl) (fun _ _ _ h => hQp _ _ _ _ h) hS (yields_value (by kernel_rfl) (by intro w0 hw0; have hw1 := hw0; simp only [SA7] at hw1; first | (go_simp; done) | (go_simp; rfl))) ?_; simp only [Act.put, List.getElem_toArray, List.getElem_cons_succ, List.getElem_cons_zero, List.setIfInBounds_toArray, List.set_cons_succ, List.set_cons_zero]
      clear hS
      obtain ⟨d1, d2⟩ := hD.cells
      have hDl := hD.lt
      clear hS
      refine wpAnyK_call (i := 12) rfl (by kernel_rfl) (by kernel_rfl) fun K12 hK12 => ?_
      go_simp
      go_wp2_with fail
      obtain ⟨hDE, FRE⟩ := set9 hD (fun b => b ≠ D) w4.heap.size (fun h => h rfl) hDs (.int .i64 2) m0 m1 m2 y0 y1 y2 (.int .i64 mu) (.slice ua ul uc)
      have hmE := FRE.row' hm (fun b hb => .inl hb)
      have hbE := (Frm.of (W := fun b => b ≠ D) hb (Nat.le_refl _)).trans FRE
      have hS : SA7 w3.heap.size #[.int .i64 1, n0, n1, n2, x0, x1, x2, .int .i64 num, .slice (some ⟨q, o, none⟩) 1 wc] q o _ := SA7.under hS4 hzl hql hbE.below
      refine hK12 _ _ (fun _ => hS) ?_
      clear hK12 d1 d2
      refine wpAnyK_take' (i := 13) _ rfl (by kernel_rfl) (fun _ _ _ h => hQp _ _ _ _ h) hS (yields_value (by kernel_rfl) (by intro w0 hw0; have hw1 := hw0; simp only [SA7] at hw1; first | (go_simp; done) | (go_simp; rfl))) ?_; simp only [Act.put, List.getElem_toArray, List.getElem_cons_succ, List.getElem_cons_zero, List.setIfInBounds_toArray, List.set_cons_succ, List.set_cons_zero]
      refine wpAnyK_take' (i := 14) _ rfl (by kernel_rfl) (fun _ _ _ h => hQp _ _ _ _ h) hS (yields_value (by kernel_rfl) (by intro w0 hw0; have hw1 := hw0; simp only [SA7] at hw1; first | (go_simp; done) | (go_simp; rfl))) ?_; simp only [Act.put, List.getElem_toArray, List.getElem_cons_succ, List.getElem_cons_zero, List.setIfInBounds_toArray, List.set_cons_succ, List.set_cons_zero]
      refine wpAnyK_done (by kernel_rfl) ?_ _
      refine hR _ _ ?_
      iterate 13 apply Exists.intro
      refine ⟨?_, ⟨D, m0, m1, m2, y0, y1, y2, mu, ua, ul, uc, oa9, oc9, xx, rfl, rfl, hDs, hDE, hmE.anyOk (fun _ _ _ => trivial), hxx, hbE.below⟩⟩
      simp only [puts, Act.put, List.setIfInBounds_toArray, List.set_cons_succ, List.set_cons_zero]
      rfl
  rintro a' w8 ⟨v4, v5, v33, v34, v35, v36, v37, v38, v39, v40, v41, v42, v43, rfl, hb8⟩
  simp only [puts, Act.put, List.setIfInBounds_toArray, List.set_cons_succ, List.set_cons_zero]
  obtain ⟨D, m0, m1, m2, y0, y1, y2, mu, ua, ul, uc, oa9, oc9, xx, rfl, rfl, hDs, hD, hm, hxx, hb9⟩ := hb8
  have hBE := hB4.trans (hb9.mono hB4.size)
  obtain ⟨d1, d2⟩ := hD.cells
  have hDl := hD.lt
  clear hS0 hS4 HB hb9 hB4
  obtain ⟨q2, o2, rfl, hkc, hq2, hc2⟩ := kindRow1 hm
  rw [hxx] at hkc
  go_wp2
  go_ret; exact ⟨rfl, hBE⟩

end Go.Proofs.Ytagldmdeohenjaa
