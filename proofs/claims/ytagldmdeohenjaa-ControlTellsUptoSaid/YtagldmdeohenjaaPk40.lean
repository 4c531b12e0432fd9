/-
  The walk of the law's settle: all answers come, one by one.
-/
import Derived.Deep.Cut
import Derived.WalkKit
import Derived.WalkSpells
import Derived.WalkLawsBesides
import Derived.Lib.Hide
import Derived.Deep.LoopGhost
import Derived.Deep.QuietTactic
import Derived.BigQuiet
import Derived.Deep.RegionWith
import Derived.Handy
import Derived.Test.YtagldmdeohenjaaPk39
import Derived.Test.YtagldmdeohenjaaPk38
import Derived.Test.YtagldmdeohenjaaPk8
set_option linter.unusedSimpArgs false
set_option linter.unusedVariables false
namespace Go.St
open Go.RowKit
/-- a caller's blocks, or new ones behind three boxes -/
def okS (ok : Nat → Prop) (N : Nat) : Nat → Prop := fun b => (ok b ∧ b < N) ∨ N + 3 ≤ b
theorem okS.ne {ok : Nat → Prop} {N b : Nat} (h : okS ok N b) : b ≠ N ∧ b ≠ N + 1 ∧ b ≠ N + 2 := by
  rcases h with ⟨_, h⟩ | h <;> omega
theorem okS.far {ok : Nat → Prop} {N b : Nat} (h : N + 3 ≤ b) : okS ok N b := .inr h
theorem okS.out {ok : Nat → Prop} {N b : Nat} (h : okS ok N b) : ok b ∨ N ≤ b := by
  rcases h with ⟨h, _⟩ | h
  · exact .inl h
  · right; omega
theorem oth.frm {α : Type} {sh : Shape α} {e : TypeId} {lo base B : Nat} {W : Nat → Prop} {w w' : World} {ao : Option Addr} {n cap : Nat} {xs : List α} (h : ownR sh e (oth lo w ao) base w ao n cap xs) (F : Frm W B w w') (hW : ∀ b, (lo ≤ b ∨ base ≤ b) → W b ∨ b < B) : ownR sh e (oth lo w' ao) base w' ao n cap xs :=
  (h.keep F.size fun k hk => by
    have hl : k < w.heap.size ∧ (lo ≤ k ∨ base ≤ k) := by
      rcases hk with hk | hk
      · exact ⟨(h.lt k hk).2, .inr (h.lt k hk).1⟩
      · exact ⟨hk.2.1, .inl hk.1⟩
    rcases hW k hl.2 with hw | hw
    · exact F.keep k hl.1 hw
    · exact F.below.block k hw).weaken (fun b ⟨h1, h2, h3⟩ => ⟨h1, Nat.lt_of_lt_of_le h2 F.size, h3⟩) (fun k hk h => h.2.2 hk) (fun b h => h.2.1)
/-- a block of one row as a source -/
theorem row_src1 {α : Type} {S : Shape α} {w : World} {b : Nat} {e : TypeId} {ao : Option Addr} {cap : Nat} {xs : List α} {ok : Nat → Prop} (h : blockIs w b e #[.slice ao xs.length cap]) (hx : rowRep S ok w ao cap xs) : srcRep (sliceS S) ok w (some ⟨b, 0, none⟩) [xs] := by
  refine .inr ⟨b, 0, rfl, fun i y hy => ?_⟩
  match i, hy with
  | 0, hy =>
    obtain rfl : xs = y := by simpa using hy
    refine ⟨_, ⟨ao, cap, rfl, hx⟩, fun j c hc => ?_⟩
    simp only [Nat.zero_mul, Nat.zero_add]
    rw [h.cells.1 j]
    simpa using hc
  | i + 1, hy => simp at hy
/-- a result without an error, opened -/
theorem ctlOut.open_ {N : Nat} {R : Ctl × List To × Int} {e : Ending} {w' : World} (ho : ctlOut N R e w') (h0 : R.2.2 = 0) :
    ∃ (m0 m1 m2 y0 y1 y2 : Value) (ua : Option Addr) (uc : Nat) (oa : Option Addr) (oc : Nat), e = .returned (.tuple #[.agg #[.int .i64 R.1.stage, m0, m1, m2, y0, y1, y2, .int .i64 R.1.num, .slice ua R.1.waits.length uc], .slice oa R.2.1.length oc, .int .i64 0]) ∧
      I64 R.1.stage ∧ I64 R.1.num ∧ planC w' (fun b => N ≤ b) m0 m1 m2 R.1.now ∧ planC w' (fun b => N ≤ b) y0 y1 y2 R.1.next ∧ rowRep intS (fun b => N ≤ b) w' ua uc R.1.waits ∧ rowRep toS (fun b => N ≤ b) w' oa oc R.2.1 := by
  obtain ⟨ks, oa, oc, rfl, hk, hm⟩ := ho
  obtain ⟨m0, m1, m2, y0, y1, y2, ua, uc, rfl, h1, h2, h3, h4, h5⟩ := ctlS.open_ hk
  rw [h0]
  exact ⟨m0, m1, m2, y0, y1, y2, ua, uc, oa, oc, rfl, h1, h2, h3, h4, h5, hm⟩
def SPk (q : Nat) (o : Nat) (x : Int) (b : Nat) (cs : Array Value) (w : World) : Prop := w.cell? ⟨q, o, none⟩ = some (.int .i64 x) ∧ ∀ o, w.cell? ⟨b, o, none⟩ = cs[o]?
/-- a place among so many -/
def AtK (N : Nat) (wo : World) (v : Value) (w' : World) : Prop := ∃ kk : Nat, v = .int .i64 kk ∧ kk < N ∧ Below wo.heap.size wo w'
/-- where the ways to the place meet again -/
def Met11 (N : Nat) (wo : World) (a0 a' : Act) (w' : World) : Prop := ∃ v11 v28 v29 v30 v31 v32 v33 v34 v35 v36 v37 v38 v39 v40 v41 v42 v43 v44 v45, a' = puts a0 [(11, v11), (28, v28), (29, v29), (30, v30), (31, v31), (32, v32), (33, v33), (34, v34), (35, v35), (36, v36), (37, v37), (38, v38), (39, v39), (40, v40), (41, v41), (42, v42), (43, v43), (44, v44), (45, v45)] ∧ AtK N wo v11 w'
/-- what a round needs -/
structure Rounds (t : Topo) (I : Nat → Ctl → List (List To) → Prop) : Prop where
  good : ∀ i c o, I i c o → CtlGood c
  len : ∀ i c o, I i c o → o.length = i
  most : ∀ i c o, I i c o → i ≤ 1000
  few : ∀ i c o, I i c o → c.waits ≠ [] → i ≤ 100
  back : ∀ i c o n, I i c o → n ∈ c.waits → (ctlBack c t n).2.2 = 0 ∧ I (i + 1) (ctlBack c t n).1 (o ++ [(ctlBack c t n).2.1])
end Go.St
namespace Go.Proofs.Ytagldmdeohenjaa
open Go.RowKit Go.St
theorem tos_info : (Try.prog.info? 33).map (fun i => (i.zero, i.size, i.bytes)) = some (some (.slice none 0 0), 1, 24) := by kernel_rfl

set_option maxRecDepth 100000 in
set_option maxHeartbeats 16000000 in
theorem settle_c (I : Nat → Ctl → List (List To) → Prop) (t : Topo) (hI : Rounds t I) (w : World) (c : Ctl) (cs : List Value) (okc : Nat → Prop) (hc : ctlS.rep okc w cs c) (ts : List Value) (okt : Nat → Prop) (ht : topoS.rep okt w ts t) (ps : List Int) (pa : Option Addr) (pc : Nat) (okp : Nat → Prop) (hpk : rowRep intS okp w pa pc ps) (h0 : I 0 c []) :
    Calls Try.prog 17 #[.agg cs.toArray, .agg ts.toArray, .slice pa ps.length pc] w fun e w' => ∃ (i : Nat) (d : Ctl) (o : List (List To)) (ks : List Value) (oa : Option Addr) (oc : Nat), e = .returned (.tuple #[.agg ks.toArray, .slice oa o.length oc, .bool true]) ∧ I i d o ∧ d.waits = [] ∧ ctlS.rep (fun b => okc b ∨ w.heap.size ≤ b) w' ks d ∧
      ownR (sliceS toS) 33 (oth w.heap.size w' oa) w.heap.size w' oa o.length oc o ∧ Below w.heap.size w w' := by
  have hT := ht
  have HI := Lib.hid hI
  have HI0 := Lib.hid h0
  clear hI h0
  obtain ⟨la, lc, rfl, htn, htr⟩ := ht
  obtain ⟨n0, n1, n2, x0, x1, x2, wa, wc, rfl, hst, hnu, hn, hx, hw⟩ := ctlS.open_ hc
  have hps := hpk.len_le
  have hcg := HI.out.good _ _ _ HI0.out
  obtain ⟨cst, cnow, cnext, cnum, cws⟩ := c
  dsimp only at *
  obtain ⟨lx0, lx1, lx2⟩ := hx.one
  obtain ⟨ln0, ln1, ln2⟩ := hn.one
  have hB0 : Below w.heap.size w (((w.alloc (.cells #[.int .i64 cst, n0, n1, n2, x0, x1, x2, .int .i64 cnum, .slice wa cws.length wc] 32)).alloc (.cells #[.int .i64 t.n, .slice la t.links.length lc] 24)).alloc (.cells #[.int .i64 0, .int .i64 0, .slice none 0 0, .slice none 0 0, .int .i64 0, .slice none 0 0, .slice none 0 0, .int .i64 0, .slice none 0 0] 32)) := by (repeat' (first | with_reducible exact Below.refl _ _ | with_reducible assumption | with_reducible refine Below.drew ?_ | with_reducible refine Below_drewN ?_ _ | with_reducible refine Below.alloc ?_ ?_ _ | with_reducible refine Below.setCell ?_ ?_ _ | omega | (simp; done) | (simp; omega)))
  have hC0 : blockIs (((w.alloc (.cells #[.int .i64 cst, n0, n1, n2, x0, x1, x2, .int .i64 cnum, .slice wa cws.length wc] 32)).alloc (.cells #[.int .i64 t.n, .slice la t.links.length lc] 24)).alloc (.cells #[.int .i64 0, .int .i64 0, .slice none 0 0, .slice none 0 0, .int .i64 0, .slice none 0 0, .slice none 0 0, .int .i64 0, .slice none 0 0] 32)) w.heap.size 32 #[.int .i64 cst, n0, n1, n2, x0, x1, x2, .int .i64 cnum, .slice wa cws.length wc] := ((blockIs.new rfl).alloc _).alloc _
  have hT0 : blockIs (((w.alloc (.cells #[.int .i64 cst, n0, n1, n2, x0, x1, x2, .int .i64 cnum, .slice wa cws.length wc] 32)).alloc (.cells #[.int .i64 t.n, .slice la t.links.length lc] 24)).alloc (.cells #[.int .i64 0, .int .i64 0, .slice none 0 0, .slice none 0 0, .int .i64 0, .slice none 0 0, .slice none 0 0, .int .i64 0, .slice none 0 0] 32)) (w.heap.size + 1) 24 #[.int .i64 t.n, .slice la t.links.length lc] := (blockIs.new (by simp)).alloc _
  have hZ0 : blockIs (((w.alloc (.cells #[.int .i64 cst, n0, n1, n2, x0, x1, x2, .int .i64 cnum, .slice wa cws.length wc] 32)).alloc (.cells #[.int .i64 t.n, .slice la t.links.length lc] 24)).alloc (.cells #[.int .i64 0, .int .i64 0, .slice none 0 0, .slice none 0 0, .int .i64 0, .slice none 0 0, .slice none 0 0, .int .i64 0, .slice none 0 0] 32)) (w.heap.size + 2) 32 #[.int .i64 0, .int .i64 0, .slice none 0 0, .slice none 0 0, .int .i64 0, .slice none 0 0, .slice none 0 0, .int .i64 0, .slice none 0 0] := blockIs.new (by simp)
  have hn0 : planC (((w.alloc (.cells #[.int .i64 cst, n0, n1, n2, x0, x1, x2, .int .i64 cnum, .slice wa cws.length wc] 32)).alloc (.cells #[.int .i64 t.n, .slice la t.links.length lc] 24)).alloc (.cells #[.int .i64 0, .int .i64 0, .slice none 0 0, .slice none 0 0, .int .i64 0, .slice none 0 0, .slice none 0 0, .int .i64 0, .slice none 0 0] 32)) (okS okc w.heap.size) n0 n1 n2 cnow := planS.below (planS.anyOk hn (fun b hl h => .inl ⟨h, hl⟩)) hB0
  have hx0 : planC (((w.alloc (.cells #[.int .i64 cst, n0, n1, n2, x0, x1, x2, .int .i64 cnum, .slice wa cws.length wc] 32)).alloc (.cells #[.int .i64 t.n, .slice la t.links.length lc] 24)).alloc (.cells #[.int .i64 0, .int .i64 0, .slice none 0 0, .slice none 0 0, .int .i64 0, .slice none 0 0, .slice none 0 0, .int .i64 0, .slice none 0 0] 32)) (okS okc w.heap.size) x0 x1 x2 cnext := planS.below (planS.anyOk hx (fun b hl h => .inl ⟨h, hl⟩)) hB0
  have hw0 : rowRep intS (okS okc w.heap.size) (((w.alloc (.cells #[.int .i64 cst, n0, n1, n2, x0, x1, x2, .int .i64 cnum, .slice wa cws.length wc] 32)).alloc (.cells #[.int .i64 t.n, .slice la t.links.length lc] 24)).alloc (.cells #[.int .i64 0, .int .i64 0, .slice none 0 0, .slice none 0 0, .int .i64 0, .slice none 0 0, .slice none 0 0, .int .i64 0, .slice none 0 0] 32)) wa wc cws := (hw.anyOk (fun b hl h => .inl ⟨h, hl⟩)).below hB0
  have hO0 : ownR (sliceS toS) 33 (oth (w.heap.size + 3) (((w.alloc (.cells #[.int .i64 cst, n0, n1, n2, x0, x1, x2, .int .i64 cnum, .slice wa cws.length wc] 32)).alloc (.cells #[.int .i64 t.n, .slice la t.links.length lc] 24)).alloc (.cells #[.int .i64 0, .int .i64 0, .slice none 0 0, .slice none 0 0, .int .i64 0, .slice none 0 0, .slice none 0 0, .int .i64 0, .slice none 0 0] 32)) none) (w.heap.size + 3) (((w.alloc (.cells #[.int .i64 cst, n0, n1, n2, x0, x1, x2, .int .i64 cnum, .slice wa cws.length wc] 32)).alloc (.cells #[.int .i64 t.n, .slice la t.links.length lc] 24)).alloc (.cells #[.int .i64 0, .int .i64 0, .slice none 0 0, .slice none 0 0, .int .i64 0, .slice none 0 0, .slice none 0 0, .int .i64 0, .slice none 0 0] 32)) none 0 0 [] := oth.nil _ _ _ _ _
  clear hcg
  go_enter Try.func17, Try.ntmps17
  go_wp2
  generalize (((w.alloc (.cells #[.int .i64 cst, n0, n1, n2, x0, x1, x2, .int .i64 cnum, .slice wa cws.length wc] 32)).alloc (.cells #[.int .i64 t.n, .slice la t.links.length lc] 24)).alloc (.cells #[.int .i64 0, .int .i64 0, .slice none 0 0, .slice none 0 0, .int .i64 0, .slice none 0 0, .slice none 0 0, .int .i64 0, .slice none 0 0] 32)) = w0 at *
  clear lx0 lx1 lx2 ln0 ln1 ln2 hn hx hw hc
  go_loopw [9, 10, 11, 12, 13, 14] (fun ov iv _ _ _ _ wr => ∃ (i : Nat) (c : Ctl) (o : List (List To)) (m0 m1 m2 y0 y1 y2 : Value) (ua : Option Addr) (uc : Nat) (oa : Option Addr) (oc : Nat), ov = .slice oa o.length oc ∧ iv = .int .i64 i ∧ Hid (I i c o) ∧ blockIs wr w.heap.size 32 #[.int .i64 c.stage, m0, m1, m2, y0, y1, y2, .int .i64 c.num, .slice ua c.waits.length uc] ∧ I64 c.stage ∧ I64 c.num ∧ planC wr (okS okc w.heap.size) m0 m1 m2 c.now ∧ planC wr (okS okc w.heap.size) y0 y1 y2 c.next ∧ rowRep intS (okS okc w.heap.size) wr ua uc c.waits ∧ blockIs wr (w.heap.size + 1) 24 #[.int .i64 t.n, .slice la t.links.length lc] ∧ blockIs wr (w.heap.size + 2) 32 #[.int .i64 0, .int .i64 0, .slice none 0 0, .slice none 0 0, .int .i64 0, .slice none 0 0, .slice none 0 0, .int .i64 0, .slice none 0 0] ∧ ownR (sliceS toS) 33 (oth (w.heap.size + 3) wr oa) (w.heap.size + 3) wr oa o.length oc o ∧ Below w.heap.size w wr) (fun _ iv _ _ _ _ _ => 2000 - (intOf iv).toNat)
  case atStart => exact ⟨0, ⟨cst, cnow, cnext, cnum, cws⟩, [], n0, n1, n2, x0, x1, x2, wa, wc, none, 0, rfl, rfl, HI0, hC0, hst, hnu, hn0, hx0, hw0, hT0, hZ0, hO0, hB0⟩
  case round =>
    clear hC0 hst hnu hn0 hx0 hw0 hT0 hZ0 hO0 hB0 HI0
    obtain ⟨i, c, o, u0, u1, u2, v0, v1, v2, za, zc, oa, oc, rfl, rfl, hIc, hC, hcs, hcn, hp, hq, hws, hTo, hZo, hO, hBo⟩ := hrel
    rename World => wo
    have HG := Lib.hid (HI.out.good _ _ _ hIc.out)
    have hi1 := HI.out.most _ _ _ hIc.out
    have hol : o.length ≤ 1000 := by have := HI.out.len _ _ _ hIc.out; omega
    have hi2 := HI.out.few _ _ _ hIc.out
    have hkc := ctlS.mk_ hcs hcn hp hq hws
    have hwl := HG.out.waits
    obtain ⟨cst, cnow, cnext, cnum, cws⟩ := c
    dsimp only at hC hws hcs hcn hp hq hkc hi2 hwl
    obtain ⟨c1, c2⟩ := hC.cells
    obtain ⟨t1, t2⟩ := hTo.cells
    have hcl := hC.lt
    have htl := hTo.lt
    have hzl := hZo.lt
    --CUT1
    by_cases hz : cws = []
    · subst hz
      obtain ⟨lp0, lp1, lp2⟩ := planC.st (P := Try.prog) hp
      obtain ⟨lq0, lq1, lq2⟩ := planC.st (P := Try.prog) hq
      obtain ⟨lm0, lm1, lm2⟩ := planC.one hp
      obtain ⟨ly0, ly1, ly2⟩ := planC.one hq
      simp only [List.length_nil] at c1
      obtain ⟨z1, z2⟩ := hZo.cells
      obtain ⟨hZE, FRE⟩ := set9 hZo (fun b => b ≠ w.heap.size + 2) w.heap.size (fun h => h rfl) (by omega) (.int .i64 cst) u0 u1 u2 v0 v1 v2 (.int .i64 cnum) (.slice za 0 zc)
      obtain ⟨g1, g2⟩ := hZE.cells
      have hkE := (ctlS.anyOk (FRE.rep' hkc (fun b hb => .inl (okS.ne hb).2.2)) (ok' := fun b => okc b ∨ w.heap.size ≤ b) (fun b _ hh => hh.out))
      have hOE := (oth.frm hO FRE (fun b hb => .inl (by omega))).base (by omega : w.heap.size ≤ w.heap.size + 3)
      have hOF := hOE.weaken (ok' := oth w.heap.size _ oa) (fun b hb => ⟨by have := hb.1; omega, hb.2⟩) (fun k hk h => h.2.2 hk) (fun b hb => hb.2.1)
      have hBE := hBo.trans FRE.below
      clear HG hkc hO hOE FRE
      go_wp2_with ((with_reducible refine bodyPost_ret (v := .tuple #[.agg #[.int .i64 cst, u0, u1, u2, v0, v1, v2, .int .i64 cnum, .slice za 0 zc], .slice oa o.length oc, .bool true]) ?ra1 ?rb1 ?rc1); go_must (case ra1 => simp [results, Try.results17, go_sem, g1]); go_must (case rb1 => rfl); go_must (case rc1 => exact ⟨i, _, o, _, oa, oc, rfl, hIc.out, rfl, hkE, hOF, hBE⟩))
    --CUT2
    obtain ⟨L, hL⟩ : ∃ L, cws.length = L + 1 := ⟨cws.length - 1, by have := List.length_pos_iff.2 hz; omega⟩
    have hi16 := hi2 hz
    rw [hL] at hC c1 hkc hwl
    have b1 : (0 : Int) < ((L : Int) + 1) := by omega
    have b2 : ¬ (200 : Int) < (i : Int) := by omega
    have hkn : ∀ k : Nat, k < L + 1 → ∃ n, cws[k]? = some n := fun k hk => ⟨_, List.getElem?_eq_getElem (by omega)⟩
    go_upto_if 27 with fail
    --CUT3
    refine wp_join (Met11 (L + 1) wo) ?_ ?_
    · by_cases hpz : ps = []
      · subst hpz
        go_wp2
        first | refine ⟨rfl, ?_⟩ | skip
        unfold Met11
        iterate 19 apply Exists.intro
        refine ⟨?_, ⟨0, rfl, by omega, Below.refl _ _⟩⟩
        simp only [puts, Act.put, List.setIfInBounds_toArray, List.set_cons_succ, List.set_cons_zero]
        rfl
      have hpl : 0 < ps.length := List.length_pos_iff.2 hpz
      obtain ⟨x, hxk⟩ : ∃ x, ps[i % ps.length]? = some x := ⟨_, List.getElem?_eq_getElem (Nat.mod_lt _ hpl)⟩
      obtain ⟨qb, qo, rfl, hql, hxi, hcq⟩ := intRow_get hpk hxk
      have q0 := hcq wo hBo
      have hmlt := Nat.mod_lt i hpl
      generalize hml : i % ps.length = ml at *
      generalize hPL : ps.length = pl at *
      have p1 : (0 : Int) < (pl : Int) := by omega
      have p2 : (ml : Int) < (pl : Int) := by omega
      have p3 : (0 : Int) ≤ (ml : Int) := by omega
      have p4 : Int.tmod (i : Int) (pl : Int) = (ml : Int) := by rw [← hml]; rfl
      have p5 : (i : Int) % (pl : Int) = (ml : Int) := by rw [← hml]; rfl
      have p6 : IntKind.i64.wrap (ml : Int) = ml := IntWalk.i64_in _ (by omega)
      have p7 : ¬ (pl : Int) = 0 := by omega
      have p7n : ¬ pl = 0 := by omega
      have hr1 := Int.tmod_lt_of_pos x (show (0 : Int) < (L : Int) + 1 by omega)
      have hr2 := Int.lt_tmod_of_pos x (show (0 : Int) < (L : Int) + 1 by omega)
      have p8 : ¬ ((L : Int) + 1) = 0 := by omega
      go_wp2
      have hS0 : SPk qb (qo + ml) x w.heap.size #[.int .i64 cst, u0, u1, u2, v0, v1, v2, .int .i64 cnum, .slice za (L + 1) zc] wo.drew := ⟨q0, hC.cells.1⟩
      --CUT4
      refine wp_region_to (SPk qb (qo + ml) x w.heap.size #[.int .i64 cst, u0, u1, u2, v0, v1, v2, .int .i64 cnum, .slice za (L + 1) zc]) 99 (fun a0 a' w' => ∃ v28 v29 v30 v31 v32 v33 v34 v35 v36 v37 v38, a' = puts a0 [(28, v28), (29, v29), (30, v30), (31, v31), (32, v32), (33, v33), (34, v34), (35, v35), (36, v36), (37, v37), (38, v38), (11, .int .i64 (Int.tmod x ((L : Int) + 1)))] ∧ Below wo.heap.size wo w') (by kernel_rfl) ?_ ?_
      · intro Q' hR hQp
        have hb0 : Below wo.heap.size wo wo.drew := by (repeat' (first | with_reducible exact Below.refl _ _ | with_reducible assumption | with_reducible refine Below.drew ?_ | with_reducible refine Below_drewN ?_ _ | with_reducible refine Below.alloc ?_ ?_ _ | with_reducible refine Below.setCell ?_ ?_ _ | omega | (simp; done) | (simp; omega)))
        have hS : SPk qb (qo + ml) x w.heap.size #[.int .i64 cst, u0, u1, u2, v0, v1, v2, .int .i64 cnum, .slice za (L + 1) zc] wo.drew := hS0
        generalize wo.drew = wa at *
        refine wpAnyK_take' (i := 0) _ rfl (by kernel_rfl) (fun _ _ _ h => hQp _ _ _ _ h) hS (yields_value (by kernel_rfl) (by intro w0 hw0; have hw1 := hw0; simp only [SPk] at hw1; first | (go_simp; done) | (go_simp; rfl))) ?_; simp only [Act.put, List.getElem_toArray, List.getElem_cons_succ, List.getElem_cons_zero, List.setIfInBounds_toArray, List.set_cons_succ, List.set_cons_zero]
        refine wpAnyK_take' (i := 1) _ rfl (by kernel_rfl) (fun _ _ _ h => hQp _ _ _ _ h) hS (yields_value (by kernel_rfl) (by intro w0 hw0; have hw1 := hw0; simp only [SPk] at hw1; first | (go_simp; done) | (go_simp; rfl))) ?_; simp only [Act.put, List.getElem_toArray, List.getElem_cons_succ, List.getElem_cons_zero, List.setIfInBounds_toArray, List.set_cons_succ, List.set_cons_zero]
        refine wpAnyK_take' (i := 2) _ rfl (by kernel_rfl) (fun _ _ _ h => hQp _ _ _ _ h) hS (yields_value (by kernel_rfl) (by intro w0 hw0; have hw1 := hw0; simp only [SPk] at hw1; first | (go_simp; done) | (go_simp; rfl))) ?_; simp only [Act.put, List.getElem_toArray, List.getElem_cons_succ, List.getElem_cons_zero, List.setIfInBounds_toArray, List.set_cons_succ, List.set_cons_zero]
        refine wpAnyK_take' (i := 7) _ rfl (by kernel_rfl) (fun _ _ _ h => hQp _ _ _ _ h) hS (yields_value (by kernel_rfl) (by intro w0 hw0; have hw1 := hw0; simp only [SPk] at hw1; first | (go_simp; done) | (go_simp; rfl))) ?_; simp only [Act.put, List.getElem_toArray, List.getElem_cons_succ, List.getElem_cons_zero, List.setIfInBounds_toArray, List.set_cons_succ, List.set_cons_zero]
        refine wpAnyK_take' (i := 3) _ rfl (by kernel_rfl) (fun _ _ _ h => hQp _ _ _ _ h) hS (yields_value (by kernel_rfl) (by intro w0 hw0; have hw1 := hw0; simp only [SPk] at hw1; first | (go_simp; done) | (go_simp; rfl))) ?_; simp only [Act.put, List.getElem_toArray, List.getElem_cons_succ, List.getElem_cons_zero, List.setIfInBounds_toArray, List.set_cons_succ, List.set_cons_zero]
        refine wpAnyK_take' (i := 8) _ rfl (by kernel_rfl) (fun _ _ _ h => hQp _ _ _ _ h) hS (yields_value (by kernel_rfl) (by intro w0 hw0; have hw1 := hw0; simp only [SPk] at hw1; first | (go_simp; done) | (go_simp; rfl))) ?_; simp only [Act.put, List.getElem_toArray, List.getElem_cons_succ, List.getElem_cons_zero, List.setIfInBounds_toArray, List.set_cons_succ, List.set_cons_zero]
        refine wpAnyK_take' (i := 4) _ rfl (by kernel_rfl) (fun _ _ _ h => hQp _ _ _ _ h) hS (yields_value (by kernel_rfl) (by intro w0 hw0; have hw1 := hw0; simp only [SPk] at hw1; first | (go_simp; done) | (go_simp; rfl))) ?_; simp only [Act.put, List.getElem_toArray, List.getElem_cons_succ, List.getElem_cons_zero, List.setIfInBounds_toArray, List.set_cons_succ, List.set_cons_zero]
        refine wpAnyK_take' (i := 9) _ rfl (by kernel_rfl) (fun _ _ _ h => hQp _ _ _ _ h) hS (yields_value (by kernel_rfl) (by intro w0 hw0; have hw1 := hw0; simp only [SPk] at hw1; first | (go_simp; done) | (go_simp; rfl))) ?_; simp only [Act.put, List.getElem_toArray, List.getElem_cons_succ, List.getElem_cons_zero, List.setIfInBounds_toArray, List.set_cons_succ, List.set_cons_zero]
        refine wpAnyK_take' (i := 5) _ rfl (by kernel_rfl) (fun _ _ _ h => hQp _ _ _ _ h) hS (yields_value (by kernel_rfl) (by intro w0 hw0; have hw1 := hw0; simp only [SPk] at hw1; first | (go_simp; done) | (go_simp; rfl))) ?_; simp only [Act.put, List.getElem_toArray, List.getElem_cons_succ, List.getElem_cons_zero, List.setIfInBounds_toArray, List.set_cons_succ, List.set_cons_zero]
        refine wpAnyK_take' (i := 6) _ rfl (by kernel_rfl) (fun _ _ _ h => hQp _ _ _ _ h) hS (yields_value (by kernel_rfl) (by intro w0 hw0; have hw1 := hw0; simp only [SPk] at hw1; first | (go_simp; done) | (go_simp; rfl))) ?_; simp only [Act.put, List.getElem_toArray, List.getElem_cons_succ, List.getElem_cons_zero, List.setIfInBounds_toArray, List.set_cons_succ, List.set_cons_zero]
        refine wpAnyK_take' (i := 10) _ rfl (by kernel_rfl) (fun _ _ _ h => hQp _ _ _ _ h) hS (yields_value (by kernel_rfl) (by intro w0 hw0; have hw1 := hw0; simp only [SPk] at hw1; first | (go_simp; done) | (go_simp; rfl))) ?_; simp only [Act.put, List.getElem_toArray, List.getElem_cons_succ, List.getElem_cons_zero, List.setIfInBounds_toArray, List.set_cons_succ, List.set_cons_zero]
        refine wpAnyK_take' (i := 11) _ rfl (by kernel_rfl) (fun _ _ _ h => hQp _ _ _ _ h) hS (yields_value (by kernel_rfl) (by intro w0 hw0; have hw1 := hw0; simp only [SPk] at hw1; first | (go_simp; done) | (go_simp; rfl))) ?_; simp only [Act.put, List.getElem_toArray, List.getElem_cons_succ, List.getElem_cons_zero, List.setIfInBounds_toArray, List.set_cons_succ, List.set_cons_zero]
        refine wpAnyK_done (by kernel_rfl) ?_ _
        refine hR _ _ ?_
        iterate 11 apply Exists.intro
        refine ⟨?_, hb0⟩
        simp only [puts, Act.put, List.setIfInBounds_toArray, List.set_cons_succ, List.set_cons_zero]
        rfl
      rintro a' w8 ⟨v28, v29, v30, v31, v32, v33, v34, v35, v36, v37, v38, rfl, hb8⟩
      simp only [puts, Act.put, List.setIfInBounds_toArray, List.set_cons_succ, List.set_cons_zero]
      --CUT4b
      generalize hr : Int.tmod x ((L : Int) + 1) = r at *
      by_cases hneg : r < 0
      · obtain ⟨kk, hkk⟩ : ∃ kk : Nat, r + ((L : Int) + 1) = kk := ⟨(r + ((L : Int) + 1)).toNat, by omega⟩
        have c1' : w8.cell? ⟨w.heap.size, 8, none⟩ = some (.slice za (L + 1) zc) := by rw [cell_at hb8 hcl (c1 8)]; rfl
        have p9 : IntKind.i64.wrap (kk : Int) = kk := IntWalk.i64_in _ (by omega)
        go_wp2
        --CUT4c
        first | refine ⟨rfl, ?_⟩ | skip
        unfold Met11
        iterate 19 apply Exists.intro
        refine ⟨?_, ⟨kk, rfl, by omega, hb8⟩⟩
        simp only [puts, Act.put, List.setIfInBounds_toArray, List.set_cons_succ, List.set_cons_zero]
        rfl
      · obtain ⟨kk, rfl⟩ : ∃ kk : Nat, r = kk := ⟨r.toNat, by omega⟩
        go_wp2
        first | refine ⟨rfl, ?_⟩ | skip
        unfold Met11
        iterate 19 apply Exists.intro
        refine ⟨?_, ⟨kk, rfl, by omega, hb8⟩⟩
        simp only [puts, Act.put, List.setIfInBounds_toArray, List.set_cons_succ, List.set_cons_zero]
        rfl
    rintro a' wj ⟨v11, v28, v29, v30, v31, v32, v33, v34, v35, v36, v37, v38, v39, v40, v41, v42, v43, v44, v45, rfl, hb8⟩
    simp only [puts, Act.put, List.setIfInBounds_toArray, List.set_cons_succ, List.set_cons_zero]
    obtain ⟨kk, rfl, hkk, hbj⟩ := hb8
    --CUT5
    obtain ⟨n, hn⟩ := hkn kk hkk
    have hnm := List.mem_of_getElem? hn
    obtain ⟨qb, qo, rfl, hql0, hni, hcq⟩ := intRow_get hws hn
    have q0 := hcq wj hbj
    have hCj := hC.under hbj
    have hTj := hTo.under hbj
    have hZj := hZo.under hbj
    have hOj := oth.below hO hbj
    have hBj := hBo.trans (hbj.mono hBo.size)
    have hkj := ctlS.below hkc hbj
    have hoa : ∀ k, blk oa = some k → w.heap.size + 3 ≤ k ∧ k < wj.heap.size := fun k hk => ⟨(hOj.lt k hk).1, (hOj.lt k hk).2⟩
    have hbk := HI.out.back _ _ _ n hIc.out hnm
    have HB0 : ∀ w', Below wj.heap.size wj w' → Calls Try.prog 9 #[.agg #[.int .i64 cst, u0, u1, u2, v0, v1, v2, .int .i64 cnum, .slice (some ⟨qb, qo, none⟩) (L + 1) zc], .agg #[.int .i64 t.n, .slice la t.links.length lc], .int .i64 n] w' fun e w'' => (∃ (m0 m1 m2 y0 y1 y2 : Value) (ua : Option Addr) (uc : Nat) (oa : Option Addr) (oc : Nat), e = .returned (.tuple #[.agg #[.int .i64 (ctlBack ⟨cst, cnow, cnext, cnum, cws⟩ t n).1.stage, m0, m1, m2, y0, y1, y2, .int .i64 (ctlBack ⟨cst, cnow, cnext, cnum, cws⟩ t n).1.num, .slice ua (ctlBack ⟨cst, cnow, cnext, cnum, cws⟩ t n).1.waits.length uc], .slice oa (ctlBack ⟨cst, cnow, cnext, cnum, cws⟩ t n).2.1.length oc, .int .i64 0]) ∧
        I64 (ctlBack ⟨cst, cnow, cnext, cnum, cws⟩ t n).1.stage ∧ I64 (ctlBack ⟨cst, cnow, cnext, cnum, cws⟩ t n).1.num ∧ planC w'' (fun b => w'.heap.size ≤ b) m0 m1 m2 (ctlBack ⟨cst, cnow, cnext, cnum, cws⟩ t n).1.now ∧ planC w'' (fun b => w'.heap.size ≤ b) y0 y1 y2 (ctlBack ⟨cst, cnow, cnext, cnum, cws⟩ t n).1.next ∧ rowRep intS (fun b => w'.heap.size ≤ b) w'' ua uc (ctlBack ⟨cst, cnow, cnext, cnum, cws⟩ t n).1.waits ∧ rowRep toS (fun b => w'.heap.size ≤ b) w'' oa oc (ctlBack ⟨cst, cnow, cnext, cnum, cws⟩ t n).2.1) ∧ Below w'.heap.size w' w'' := fun w' hb => by
      refine (back_c _ t n _ _ _ okt w' (ctlS.below hkj hb) (topoS.below hT (hBj.trans (hb.mono hBj.size))) HG.out.small).mono ?_
      rintro e w'' ⟨ho, hb2⟩
      exact ⟨ho.open_ hbk.1, hb2⟩
    have hq2 := hbk.2
    clear hbk
    generalize ctlBack ⟨cst, cnow, cnext, cnum, cws⟩ t n = R at *
    obtain ⟨d, m, ee⟩ := R
    dsimp only at HB0 hq2
    have HB := Lib.hid HB0
    have HIn := Lib.hid hq2
    clear HB0 hq2 hn hnm hcq hC hTo hZo hO hBo hkc hkj HG hkn hws hp hq hcs hcn c1 c2 t1 t2 hcl htl hz hi2
    have hcl := hCj.lt
    have htl := hTj.lt
    have hzl := hZj.lt
    have hql := Nat.lt_of_lt_of_le hql0 hbj.size
    have b5 : (0 : Int) ≤ (kk : Int) := by omega
    have b6 : (kk : Int) < (L : Int) + 1 := by omega
    have b7 : IntKind.i64.wrap (kk : Int) = kk := IntWalk.i64_in _ (by omega)
    have hS4 : SO7 w.heap.size (w.heap.size + 1) qb (qo + kk) #[.int .i64 cst, u0, u1, u2, v0, v1, v2, .int .i64 cnum, .slice (some ⟨qb, qo, none⟩) (L + 1) zc] #[.int .i64 t.n, .slice la t.links.length lc] n wj := ⟨hCj.cells.1, hTj.cells.1, q0⟩
    have hS0 : SO7 w.heap.size (w.heap.size + 1) qb (qo + kk) #[.int .i64 cst, u0, u1, u2, v0, v1, v2, .int .i64 cnum, .slice (some ⟨qb, qo, none⟩) (L + 1) zc] #[.int .i64 t.n, .slice la t.links.length lc] n wj.drew := hS4
    go_wp2
    --CUT6
    refine wp_region_to (SO7 w.heap.size (w.heap.size + 1) qb (qo + kk) #[.int .i64 cst, u0, u1, u2, v0, v1, v2, .int .i64 cnum, .slice (some ⟨qb, qo, none⟩) (L + 1) zc] #[.int .i64 t.n, .slice la t.links.length lc] n) 99 (fun a0 a' w' => ∃ v12 v13 v46 v47 v48 v49 v50 v51 v52 v53 v54 v55 v56 v57, a' = puts a0 [(12, v12), (13, v13), (46, v46), (47, v47), (48, v48), (49, v49), (50, v50), (51, v51), (52, v52), (53, v53), (54, v54), (55, v55), (56, v56), (57, v57), (14, .int .i64 0)] ∧ ∃ D m0 m1 m2 y0 y1 y2 ua uc oa9 oc9, v12 = .pointer (some ⟨D, 0, none⟩) ∧ v13 = .slice oa9 (List.length m) oc9 ∧ wj.heap.size ≤ D ∧ blockIs w' D 32 #[.int .i64 d.stage, m0, m1, m2, y0, y1, y2, .int .i64 d.num, .slice ua d.waits.length uc] ∧ I64 d.stage ∧ I64 d.num ∧ planC w' (fun b => wj.heap.size ≤ b) m0 m1 m2 d.now ∧ planC w' (fun b => wj.heap.size ≤ b) y0 y1 y2 d.next ∧ rowRep intS (fun b => wj.heap.size ≤ b) w' ua uc d.waits ∧ rowRep toS (fun b => wj.heap.size ≤ b) w' oa9 oc9 m ∧ Below wj.heap.size wj w') (by kernel_rfl) ?_ ?_
    · intro Q' hR hQp
      have hb0 : Below wj.heap.size wj wj.drew := by (repeat' (first | with_reducible exact Below.refl _ _ | with_reducible assumption | with_reducible refine Below.drew ?_ | with_reducible refine Below_drewN ?_ _ | with_reducible refine Below.alloc ?_ ?_ _ | with_reducible refine Below.setCell ?_ ?_ _ | omega | (simp; done) | (simp; omega)))
      have hS : SO7 w.heap.size (w.heap.size + 1) qb (qo + kk) #[.int .i64 cst, u0, u1, u2, v0, v1, v2, .int .i64 cnum, .slice (some ⟨qb, qo, none⟩) (L + 1) zc] #[.int .i64 t.n, .slice la t.links.length lc] n wj.drew := hS0
      generalize wj.drew = wa at *
      refine wpAnyK_take' (i := 0) _ rfl (by kernel_rfl) (fun _ _ _ h => hQp _ _ _ _ h) hS (yields_value (by kernel_rfl) (by intro w0 hw0; have hw1 := hw0; simp only [SO7] at hw1; first | (go_simp; done) | (go_simp; rfl))) ?_; simp only [Act.put, List.getElem_toArray, List.getElem_cons_succ, List.getElem_cons_zero, List.setIfInBounds_toArray, List.set_cons_succ, List.set_cons_zero]
      refine wpAnyK_take' (i := 1) _ rfl (by kernel_rfl) (fun _ _ _ h => hQp _ _ _ _ h) hS (yields_value (by kernel_rfl) (by intro w0 hw0; have hw1 := hw0; simp only [SO7] at hw1; first | (go_simp; done) | (go_simp; rfl))) ?_; simp only [Act.put, List.getElem_toArray, List.getElem_cons_succ, List.getElem_cons_zero, List.setIfInBounds_toArray, List.set_cons_succ, List.set_cons_zero]
      refine wpAnyK_take' (i := 2) _ rfl (by kernel_rfl) (fun _ _ _ h => hQp _ _ _ _ h) hS (yields_value (by kernel_rfl) (by intro w0 hw0; have hw1 := hw0; simp only [SO7] at hw1; first | (go_simp; done) | (go_simp; rfl))) ?_; simp only [Act.put, List.getElem_toArray, List.getElem_cons_succ, List.getElem_cons_zero, List.setIfInBounds_toArray, List.set_cons_succ, List.set_cons_zero]
      refine wpAnyK_take' (i := 4) _ rfl (by kernel_rfl) (fun _ _ _ h => hQp _ _ _ _ h) hS (yields_value (by kernel_rfl) (by intro w0 hw0; have hw1 := hw0; simp only [SO7] at hw1; first | (go_simp; done) | (go_simp; rfl))) ?_; simp only [Act.put, List.getElem_toArray, List.getElem_cons_succ, List.getElem_cons_zero, List.setIfInBounds_toArray, List.set_cons_succ, List.set_cons_zero]
      refine wpAnyK_take' (i := 3) _ rfl (by kernel_rfl) (fun _ _ _ h => hQp _ _ _ _ h) hS (yields_value (by kernel_rfl) (by intro w0 hw0; have hw1 := hw0; simp only [SO7] at hw1; first | (go_simp; done) | (go_simp; rfl))) ?_; simp only [Act.put, List.getElem_toArray, List.getElem_cons_succ, List.getElem_cons_zero, List.setIfInBounds_toArray, List.set_cons_succ, List.set_cons_zero]
      refine wpAnyK_take' (i := 5) _ rfl (by kernel_rfl) (fun _ _ _ h => hQp _ _ _ _ h) hS (yields_value (by kernel_rfl) (by intro w0 hw0; have hw1 := hw0; simp only [SO7] at hw1; first | (go_simp; done) | (go_simp; rfl))) ?_; simp only [Act.put, List.getElem_toArray, List.getElem_cons_succ, List.getElem_cons_zero, List.setIfInBounds_toArray, List.set_cons_succ, List.set_cons_zero]
      refine wpAnyK_take' (i := 6) _ rfl (by kernel_rfl) (fun _ _ _ h => hQp _ _ _ _ h) hS (yields_value (by kernel_rfl) (by intro w0 hw0; have hw1 := hw0; simp only [SO7] at hw1; first | (go_simp; done) | (go_simp; rfl))) ?_; simp only [Act.put, List.getElem_toArray, List.getElem_cons_succ, List.getElem_cons_zero, List.setIfInBounds_toArray, List.set_cons_succ, List.set_cons_zero]
      refine wpAnyK_two (i := 7) (j := 12) rfl rfl (by kernel_rfl) (by kernel_rfl) (by kernel_rfl) (fun K7 hK7 => ?_) (fun K12 hK12 => ?_)
      · skip
        go_simp
        go_wp2_with fail
        refine (HB.out _ hb0).mono ?_
        rintro e wk ⟨⟨m0, m1, m2, y0, y1, y2, ua, uc, oa9, oc9, rfl, hcs, hcn, hp, hq, hws, hm⟩, hbk⟩
        go_wp2_with fail
        have hwz : wj.heap.size ≤ wa.heap.size := hb0.size
        have hb := hb0.trans (hbk.mono hb0.size)
        have hS : SO7 w.heap.size (w.heap.size + 1) qb (qo + kk) #[.int .i64 cst, u0, u1, u2, v0, v1, v2, .int .i64 cnum, .slice (some ⟨qb, qo, none⟩) (L + 1) zc] #[.int .i64 t.n, .slice la t.links.length lc] n wk := SO7.under hS4 hcl htl hql hb
        obtain ⟨lp0, lp1, lp2⟩ := planC.st (P := Try.prog) hp
        obtain ⟨lq0, lq1, lq2⟩ := planC.st (P := Try.prog) hq
        obtain ⟨lm0, lm1, lm2⟩ := planC.one hp
        obtain ⟨ly0, ly1, ly2⟩ := planC.one hq
        refine hK7 _ _ (fun _ => hS) ?_
        clear hK7
        refine wpAnyK_take' (i := 8) _ rfl (by kernel_rfl) (fun _ _ _ h => hQp _ _ _ _ h) hS (yields_value (by kernel_rfl) (by intro w0 hw0; have hw1 := hw0; simp only [SO7] at hw1; first | (go_simp; done) | (go_simp; rfl))) ?_; simp only [Act.put, List.getElem_toArray, List.getElem_cons_succ, List.getElem_cons_zero, List.setIfInBounds_toArray, List.set_cons_succ, List.set_cons_zero]
        refine wpAnyK_take' (i := 9) _ rfl (by kernel_rfl) (fun _ _ _ h => hQp _ _ _ _ h) hS (yields_value (by kernel_rfl) (by intro w0 hw0; have hw1 := hw0; simp only [SO7] at hw1; first | (go_simp; done) | (go_simp; rfl))) ?_; simp only [Act.put, List.getElem_toArray, List.getElem_cons_succ, List.getElem_cons_zero, List.setIfInBounds_toArray, List.set_cons_succ, List.set_cons_zero]
        refine wpAnyK_take' (i := 10) _ rfl (by kernel_rfl) (fun _ _ _ h => hQp _ _ _ _ h) hS (yields_value (by kernel_rfl) (by intro w0 hw0; have hw1 := hw0; simp only [SO7] at hw1; first | (go_simp; done) | (go_simp; rfl))) ?_; simp only [Act.put, List.getElem_toArray, List.getElem_cons_succ, List.getElem_cons_zero, List.setIfInBounds_toArray, List.set_cons_succ, List.set_cons_zero]
        refine wpAnyK_take' (i := 11) _ rfl (by kernel_rfl) (fun _ _ _ h => hQp _ _ _ _ h) hS (yields_value (by kernel_rfl) (by intro w0 hw0; have hw1 := hw0; simp only [SO7] at hw1; first | (go_simp; done) | (go_simp; rfl))) ?_; simp only [Act.put, List.getElem_toArray, List.getElem_cons_succ, List.getElem_cons_zero, List.setIfInBounds_toArray, List.set_cons_succ, List.set_cons_zero]
        clear hS
        refine wpAnyK_call (i := 12) rfl (by kernel_rfl) (by kernel_rfl) fun K12 hK12 => ?_
        go_simp
        go_wp2_with fail
        have hD : blockIs (wk.alloc (.cells #[.int .i64 0, .int .i64 0, .slice none 0 0, .slice none 0 0, .int .i64 0, .slice none 0 0, .slice none 0 0, .int .i64 0, .slice none 0 0] 32)) wk.heap.size 32 #[.int .i64 0, .int .i64 0, .slice none 0 0, .slice none 0 0, .int .i64 0, .slice none 0 0, .slice none 0 0, .int .i64 0, .slice none 0 0] := blockIs.new rfl
        have hbA : Below wk.heap.size wk (wk.alloc (.cells #[.int .i64 0, .int .i64 0, .slice none 0 0, .slice none 0 0, .int .i64 0, .slice none 0 0, .slice none 0 0, .int .i64 0, .slice none 0 0] 32)) := by (repeat' (first | with_reducible exact Below.refl _ _ | with_reducible assumption | with_reducible refine Below.drew ?_ | with_reducible refine Below_drewN ?_ _ | with_reducible refine Below.alloc ?_ ?_ _ | with_reducible refine Below.setCell ?_ ?_ _ | omega | (simp; done) | (simp; omega)))
        have hDs : wj.heap.size ≤ wk.heap.size := hb.size
        have hb := hb.trans (hbA.mono hb.size)
        have hp := planS.below (planS.anyOk hp (ok' := fun b => wj.heap.size ≤ b ∧ b ≠ wk.heap.size) (fun b hl hh => by omega)) hbA
        have hq := planS.below (planS.anyOk hq (ok' := fun b => wj.heap.size ≤ b ∧ b ≠ wk.heap.size) (fun b hl hh => by omega)) hbA
        have hws := (hws.anyOk (ok' := fun b => wj.heap.size ≤ b ∧ b ≠ wk.heap.size) (fun b hl hh => by omega)).below hbA
        have hm := (hm.anyOk (ok' := fun b => wj.heap.size ≤ b ∧ b ≠ wk.heap.size) (fun b hl hh => by omega)).below hbA
        generalize (wk.alloc (.cells #[.int .i64 0, .int .i64 0, .slice none 0 0, .slice none 0 0, .int .i64 0, .slice none 0 0, .slice none 0 0, .int .i64 0, .slice none 0 0] 32)) = wA at *
        have hS : SO7 w.heap.size (w.heap.size + 1) qb (qo + kk) #[.int .i64 cst, u0, u1, u2, v0, v1, v2, .int .i64 cnum, .slice (some ⟨qb, qo, none⟩) (L + 1) zc] #[.int .i64 t.n, .slice la t.links.length lc] n wA := SO7.under hS4 hcl htl hql hb
        refine hK12 _ _ (fun _ => hS) ?_
        clear hK12
        generalize hDD : wk.heap.size = D at *
        clear hS
        obtain ⟨d1, d2⟩ := hD.cells
        have hDl := hD.lt
        clear hS
        refine wpAnyK_call (i := 13) rfl (by kernel_rfl) (by kernel_rfl) fun K13 hK13 => ?_
        go_simp
        go_wp2_with fail
        obtain ⟨hDE, FRE⟩ := set9 hD (fun b => b ≠ D) wj.heap.size (fun h => h rfl) hDs (.int .i64 d.stage) m0 m1 m2 y0 y1 y2 (.int .i64 d.num) (.slice ua d.waits.length uc)
        have hpE := planS.anyOk (FRE.rep' hp (fun b hb => .inl hb.2)) (ok' := fun b => wj.heap.size ≤ b) (fun b _ hh => hh.1)
        have hqE := planS.anyOk (FRE.rep' hq (fun b hb => .inl hb.2)) (ok' := fun b => wj.heap.size ≤ b) (fun b _ hh => hh.1)
        have hwE := (FRE.row' hws (fun b hb => .inl hb.2)).anyOk (ok' := fun b => wj.heap.size ≤ b) (fun b _ hh => hh.1)
        have hmE := (FRE.row' hm (fun b hb => .inl hb.2)).anyOk (ok' := fun b => wj.heap.size ≤ b) (fun b _ hh => hh.1)
        have hbE := (Frm.of (W := fun b => b ≠ D) hb (Nat.le_refl _)).trans FRE
        have hS : SO7 w.heap.size (w.heap.size + 1) qb (qo + kk) #[.int .i64 cst, u0, u1, u2, v0, v1, v2, .int .i64 cnum, .slice (some ⟨qb, qo, none⟩) (L + 1) zc] #[.int .i64 t.n, .slice la t.links.length lc] n _ := SO7.under hS4 hcl htl hql hbE.below
        refine hK13 _ _ (fun _ => hS) ?_
        clear hK13 d1 d2
        refine wpAnyK_take' (i := 14) _ rfl (by kernel_rfl) (fun _ _ _ h => hQp _ _ _ _ h) hS (yields_value (by kernel_rfl) (by intro w0 hw0; have hw1 := hw0; simp only [SO7] at hw1; first | (go_simp; done) | (go_simp; rfl))) ?_; simp only [Act.put, List.getElem_toArray, List.getElem_cons_succ, List.getElem_cons_zero, List.setIfInBounds_toArray, List.set_cons_succ, List.set_cons_zero]
        refine wpAnyK_take' (i := 15) _ rfl (by kernel_rfl) (fun _ _ _ h => hQp _ _ _ _ h) hS (yields_value (by kernel_rfl) (by intro w0 hw0; have hw1 := hw0; simp only [SO7] at hw1; first | (go_simp; done) | (go_simp; rfl))) ?_; simp only [Act.put, List.getElem_toArray, List.getElem_cons_succ, List.getElem_cons_zero, List.setIfInBounds_toArray, List.set_cons_succ, List.set_cons_zero]
        refine wpAnyK_done (by kernel_rfl) ?_ _
        refine hR _ _ ?_
        iterate 14 apply Exists.intro
        refine ⟨?_, ⟨D, m0, m1, m2, y0, y1, y2, ua, uc, oa9, oc9, rfl, rfl, hDs, hDE, hcs, hcn, hpE, hqE, hwE, hmE, hbE.below⟩⟩
        simp only [puts, Act.put, List.setIfInBounds_toArray, List.set_cons_succ, List.set_cons_zero]
        rfl
      · skip
        go_simp
        go_wp2_with fail
        have hD : blockIs (wa.alloc (.cells #[.int .i64 0, .int .i64 0, .slice none 0 0, .slice none 0 0, .int .i64 0, .slice none 0 0, .slice none 0 0, .int .i64 0, .slice none 0 0] 32)) wa.heap.size 32 #[.int .i64 0, .int .i64 0, .slice none 0 0, .slice none 0 0, .int .i64 0, .slice none 0 0, .slice none 0 0, .int .i64 0, .slice none 0 0] := blockIs.new rfl
        have hbA : Below wa.heap.size wa (wa.alloc (.cells #[.int .i64 0, .int .i64 0, .slice none 0 0, .slice none 0 0, .int .i64 0, .slice none 0 0, .slice none 0 0, .int .i64 0, .slice none 0 0] 32)) := by (repeat' (first | with_reducible exact Below.refl _ _ | with_reducible assumption | with_reducible refine Below.drew ?_ | with_reducible refine Below_drewN ?_ _ | with_reducible refine Below.alloc ?_ ?_ _ | with_reducible refine Below.setCell ?_ ?_ _ | omega | (simp; done) | (simp; omega)))
        have hDs : wj.heap.size ≤ wa.heap.size := hb0.size
        have hb := hb0.trans (hbA.mono hb0.size)
        generalize (wa.alloc (.cells #[.int .i64 0, .int .i64 0, .slice none 0 0, .slice none 0 0, .int .i64 0, .slice none 0 0, .slice none 0 0, .int .i64 0, .slice none 0 0] 32)) = wA at *
        have hS : SO7 w.heap.size (w.heap.size + 1) qb (qo + kk) #[.int .i64 cst, u0, u1, u2, v0, v1, v2, .int .i64 cnum, .slice (some ⟨qb, qo, none⟩) (L + 1) zc] #[.int .i64 t.n, .slice la t.links.length lc] n wA := SO7.under hS4 hcl htl hql hb
        refine hK12 _ _ (fun _ => hS) ?_
        clear hK12
        generalize hDD : wa.heap.size = D at *
        clear hS
        refine wpAnyK_call (i := 7) rfl (by kernel_rfl) (by kernel_rfl) fun K7 hK7 => ?_
        go_simp
        go_wp2_with fail
        refine (HB.out _ hb).mono ?_
        rintro e wk ⟨⟨m0, m1, m2, y0, y1, y2, ua, uc, oa9, oc9, rfl, hcs, hcn, hp, hq, hws, hm⟩, hbk⟩
        go_wp2_with fail
        have hbs := hb.size
        have hDl := hD.lt
        have hD := hD.under hbk
        have hp := planS.anyOk hp (ok' := fun b => wj.heap.size ≤ b ∧ b ≠ D) (fun b hl hh => by omega)
        have hq := planS.anyOk hq (ok' := fun b => wj.heap.size ≤ b ∧ b ≠ D) (fun b hl hh => by omega)
        have hws := hws.anyOk (ok' := fun b => wj.heap.size ≤ b ∧ b ≠ D) (fun b hl hh => by omega)
        have hm := hm.anyOk (ok' := fun b => wj.heap.size ≤ b ∧ b ≠ D) (fun b hl hh => by omega)
        have hb := hb.trans (hbk.mono hb.size)
        have hS : SO7 w.heap.size (w.heap.size + 1) qb (qo + kk) #[.int .i64 cst, u0, u1, u2, v0, v1, v2, .int .i64 cnum, .slice (some ⟨qb, qo, none⟩) (L + 1) zc] #[.int .i64 t.n, .slice la t.links.length lc] n wk := SO7.under hS4 hcl htl hql hb
        obtain ⟨lp0, lp1, lp2⟩ := planC.st (P := Try.prog) hp
        obtain ⟨lq0, lq1, lq2⟩ := planC.st (P := Try.prog) hq
        obtain ⟨lm0, lm1, lm2⟩ := planC.one hp
        obtain ⟨ly0, ly1, ly2⟩ := planC.one hq
        refine hK7 _ _ (fun _ => hS) ?_
        clear hK7
        refine wpAnyK_take' (i := 8) _ rfl (by kernel_rfl) (fun _ _ _ h => hQp _ _ _ _ h) hS (yields_value (by kernel_rfl) (by intro w0 hw0; have hw1 := hw0; simp only [SO7] at hw1; first | (go_simp; done) | (go_simp; rfl))) ?_; simp only [Act.put, List.getElem_toArray, List.getElem_cons_succ, List.getElem_cons_zero, List.setIfInBounds_toArray, List.set_cons_succ, List.set_cons_zero]
        refine wpAnyK_take' (i := 9) _ rfl (by kernel_rfl) (fun _ _ _ h => hQp _ _ _ _ h) hS (yields_value (by kernel_rfl) (by intro w0 hw0; have hw1 := hw0; simp only [SO7] at hw1; first | (go_simp; done) | (go_simp; rfl))) ?_; simp only [Act.put, List.getElem_toArray, List.getElem_cons_succ, List.getElem_cons_zero, List.setIfInBounds_toArray, List.set_cons_succ, List.set_cons_zero]
        refine wpAnyK_take' (i := 10) _ rfl (by kernel_rfl) (fun _ _ _ h => hQp _ _ _ _ h) hS (yields_value (by kernel_rfl) (by intro w0 hw0; have hw1 := hw0; simp only [SO7] at hw1; first | (go_simp; done) | (go_simp; rfl))) ?_; simp only [Act.put, List.getElem_toArray, List.getElem_cons_succ, List.getElem_cons_zero, List.setIfInBounds_toArray, List.set_cons_succ, List.set_cons_zero]
        refine wpAnyK_take' (i := 11) _ rfl (by kernel_rfl) (fun _ _ _ h => hQp _ _ _ _ h) hS (yields_value (by kernel_rfl) (by intro w0 hw0; have hw1 := hw0; simp only [SO7] at hw1; first | (go_simp; done) | (go_simp; rfl))) ?_; simp only [Act.put, List.getElem_toArray, List.getElem_cons_succ, List.getElem_cons_zero, List.setIfInBounds_toArray, List.set_cons_succ, List.set_cons_zero]
        clear hS
        obtain ⟨d1, d2⟩ := hD.cells
        have hDl := hD.lt
        clear hS
        refine wpAnyK_call (i := 13) rfl (by kernel_rfl) (by kernel_rfl) fun K13 hK13 => ?_
        go_simp
        go_wp2_with fail
        obtain ⟨hDE, FRE⟩ := set9 hD (fun b => b ≠ D) wj.heap.size (fun h => h rfl) hDs (.int .i64 d.stage) m0 m1 m2 y0 y1 y2 (.int .i64 d.num) (.slice ua d.waits.length uc)
        have hpE := planS.anyOk (FRE.rep' hp (fun b hb => .inl hb.2)) (ok' := fun b => wj.heap.size ≤ b) (fun b _ hh => hh.1)
        have hqE := planS.anyOk (FRE.rep' hq (fun b hb => .inl hb.2)) (ok' := fun b => wj.heap.size ≤ b) (fun b _ hh => hh.1)
        have hwE := (FRE.row' hws (fun b hb => .inl hb.2)).anyOk (ok' := fun b => wj.heap.size ≤ b) (fun b _ hh => hh.1)
        have hmE := (FRE.row' hm (fun b hb => .inl hb.2)).anyOk (ok' := fun b => wj.heap.size ≤ b) (fun b _ hh => hh.1)
        have hbE := (Frm.of (W := fun b => b ≠ D) hb (Nat.le_refl _)).trans FRE
        have hS : SO7 w.heap.size (w.heap.size + 1) qb (qo + kk) #[.int .i64 cst, u0, u1, u2, v0, v1, v2, .int .i64 cnum, .slice (some ⟨qb, qo, none⟩) (L + 1) zc] #[.int .i64 t.n, .slice la t.links.length lc] n _ := SO7.under hS4 hcl htl hql hbE.below
        refine hK13 _ _ (fun _ => hS) ?_
        clear hK13 d1 d2
        refine wpAnyK_take' (i := 14) _ rfl (by kernel_rfl) (fun _ _ _ h => hQp _ _ _ _ h) hS (yields_value (by kernel_rfl) (by intro w0 hw0; have hw1 := hw0; simp only [SO7] at hw1; first | (go_simp; done) | (go_simp; rfl))) ?_; simp only [Act.put, List.getElem_toArray, List.getElem_cons_succ, List.getElem_cons_zero, List.setIfInBounds_toArray, List.set_cons_succ, List.set_cons_zero]
        refine wpAnyK_take' (i := 15) _ rfl (by kernel_rfl) (fun _ _ _ h => hQp _ _ _ _ h) hS (yields_value (by kernel_rfl) (by intro w0 hw0; have hw1 := hw0; simp only [SO7] at hw1; first | (go_simp; done) | (go_simp; rfl))) ?_; simp only [Act.put, List.getElem_toArray, List.getElem_cons_succ, List.getElem_cons_zero, List.setIfInBounds_toArray, List.set_cons_succ, List.set_cons_zero]
        refine wpAnyK_done (by kernel_rfl) ?_ _
        refine hR _ _ ?_
        iterate 14 apply Exists.intro
        refine ⟨?_, ⟨D, m0, m1, m2, y0, y1, y2, ua, uc, oa9, oc9, rfl, rfl, hDs, hDE, hcs, hcn, hpE, hqE, hwE, hmE, hbE.below⟩⟩
        simp only [puts, Act.put, List.setIfInBounds_toArray, List.set_cons_succ, List.set_cons_zero]
        rfl
    rintro a' w8 ⟨v12, v13, v46, v47, v48, v49, v50, v51, v52, v53, v54, v55, v56, v57, rfl, hb8⟩
    simp only [puts, Act.put, List.setIfInBounds_toArray, List.set_cons_succ, List.set_cons_zero]
    --CUT7
    obtain ⟨D, m0, m1, m2, y0, y1, y2, ua, uc, oa9, oc9, rfl, rfl, hDs, hD, hcs, hcn, hp, hq, hws, hm, hb9⟩ := hb8
    have hC9 := hCj.under hb9
    have hT9 := hTj.under hb9
    have hZ9 := hZj.under hb9
    have hO9 := oth.below hOj hb9
    have hB9 := hBj.trans (hb9.mono hBj.size)
    have hs9 := hb9.size
    have hDl := hD.lt
    have hmx := hm.len_le
    clear hS0 hS4 HB hb9 hCj hTj hZj hOj hBj q0 hql hql0 hbj
    obtain ⟨lp0, lp1, lp2⟩ := planC.st (P := Try.prog) hp
    obtain ⟨lq0, lq1, lq2⟩ := planC.st (P := Try.prog) hq
    obtain ⟨lm0, lm1, lm2⟩ := planC.one hp
    obtain ⟨ly0, ly1, ly2⟩ := planC.one hq
    obtain ⟨hCE, FRE⟩ := set9 hC9 (fun b => b ≠ w.heap.size) w.heap.size (fun h => h rfl) (by omega) (.int .i64 d.stage) m0 m1 m2 y0 y1 y2 (.int .i64 d.num) (.slice ua d.waits.length uc)
    have hpE := FRE.rep' hp (fun b hb => .inl (by omega))
    have hqE := FRE.rep' hq (fun b hb => .inl (by omega))
    have hwE := FRE.row' hws (fun b hb => .inl (by omega))
    have hmE := FRE.row' hm (fun b hb => .inl (by omega))
    have hTE := FRE.blk hT9 (.inl (by omega))
    have hZE := FRE.blk hZ9 (.inl (by omega))
    have hOE := oth.frm hO9 FRE (fun b hb => .inl (by omega))
    have hBE := hB9.trans FRE.below
    obtain ⟨c1, c2⟩ := hC9.cells
    obtain ⟨d1, d2⟩ := hD.cells
    have hsE : (((((((((w8.setCell ⟨w.heap.size, 0, none⟩ (.int .i64 d.stage)).setCell ⟨w.heap.size, 1, none⟩ m0).setCell ⟨w.heap.size, 2, none⟩ m1).setCell ⟨w.heap.size, 3, none⟩ m2).setCell ⟨w.heap.size, 4, none⟩ y0).setCell ⟨w.heap.size, 5, none⟩ y1).setCell ⟨w.heap.size, 6, none⟩ y2).setCell ⟨w.heap.size, 7, none⟩ (.int .i64 d.num)).setCell ⟨w.heap.size, 8, none⟩ (.slice ua d.waits.length uc)).heap.size = w8.heap.size := by simp
    have hbx : Below (((((((((w8.setCell ⟨w.heap.size, 0, none⟩ (.int .i64 d.stage)).setCell ⟨w.heap.size, 1, none⟩ m0).setCell ⟨w.heap.size, 2, none⟩ m1).setCell ⟨w.heap.size, 3, none⟩ m2).setCell ⟨w.heap.size, 4, none⟩ y0).setCell ⟨w.heap.size, 5, none⟩ y1).setCell ⟨w.heap.size, 6, none⟩ y2).setCell ⟨w.heap.size, 7, none⟩ (.int .i64 d.num)).setCell ⟨w.heap.size, 8, none⟩ (.slice ua d.waits.length uc)).heap.size (((((((((w8.setCell ⟨w.heap.size, 0, none⟩ (.int .i64 d.stage)).setCell ⟨w.heap.size, 1, none⟩ m0).setCell ⟨w.heap.size, 2, none⟩ m1).setCell ⟨w.heap.size, 3, none⟩ m2).setCell ⟨w.heap.size, 4, none⟩ y0).setCell ⟨w.heap.size, 5, none⟩ y1).setCell ⟨w.heap.size, 6, none⟩ y2).setCell ⟨w.heap.size, 7, none⟩ (.int .i64 d.num)).setCell ⟨w.heap.size, 8, none⟩ (.slice ua d.waits.length uc)) ((((((((((w8.setCell ⟨w.heap.size, 0, none⟩ (.int .i64 d.stage)).setCell ⟨w.heap.size, 1, none⟩ m0).setCell ⟨w.heap.size, 2, none⟩ m1).setCell ⟨w.heap.size, 3, none⟩ m2).setCell ⟨w.heap.size, 4, none⟩ y0).setCell ⟨w.heap.size, 5, none⟩ y1).setCell ⟨w.heap.size, 6, none⟩ y2).setCell ⟨w.heap.size, 7, none⟩ (.int .i64 d.num)).setCell ⟨w.heap.size, 8, none⟩ (.slice ua d.waits.length uc)).alloc (.cells #[.slice oa9 m.length oc9] 33)) := (Below.refl _ _).alloc (Nat.le_refl _) _
    have hN : blockIs ((((((((((w8.setCell ⟨w.heap.size, 0, none⟩ (.int .i64 d.stage)).setCell ⟨w.heap.size, 1, none⟩ m0).setCell ⟨w.heap.size, 2, none⟩ m1).setCell ⟨w.heap.size, 3, none⟩ m2).setCell ⟨w.heap.size, 4, none⟩ y0).setCell ⟨w.heap.size, 5, none⟩ y1).setCell ⟨w.heap.size, 6, none⟩ y2).setCell ⟨w.heap.size, 7, none⟩ (.int .i64 d.num)).setCell ⟨w.heap.size, 8, none⟩ (.slice ua d.waits.length uc)).alloc (.cells #[.slice oa9 m.length oc9] 33)) w8.heap.size 33 #[.slice oa9 m.length oc9] := blockIs.new (by simp)
    have hCF := hCE.under hbx
    have hTF := hTE.under hbx
    have hZF := hZE.under hbx
    have hOF := oth.below hOE hbx
    have hBF := hBE.trans (hbx.mono (by rw [hsE]; exact hB9.size))
    have hpF := planS.below hpE hbx
    have hqF := planS.below hqE hbx
    have hwF := hwE.below hbx
    have hmF := hmE.below hbx
    have hsF : ((((((((((w8.setCell ⟨w.heap.size, 0, none⟩ (.int .i64 d.stage)).setCell ⟨w.heap.size, 1, none⟩ m0).setCell ⟨w.heap.size, 2, none⟩ m1).setCell ⟨w.heap.size, 3, none⟩ m2).setCell ⟨w.heap.size, 4, none⟩ y0).setCell ⟨w.heap.size, 5, none⟩ y1).setCell ⟨w.heap.size, 6, none⟩ y2).setCell ⟨w.heap.size, 7, none⟩ (.int .i64 d.num)).setCell ⟨w.heap.size, 8, none⟩ (.slice ua d.waits.length uc)).alloc (.cells #[.slice oa9 m.length oc9] 33)).heap.size = w8.heap.size + 1 := by simp
    have hsrc := row_src1 (ok := oth (w.heap.size + 3) ((((((((((w8.setCell ⟨w.heap.size, 0, none⟩ (.int .i64 d.stage)).setCell ⟨w.heap.size, 1, none⟩ m0).setCell ⟨w.heap.size, 2, none⟩ m1).setCell ⟨w.heap.size, 3, none⟩ m2).setCell ⟨w.heap.size, 4, none⟩ y0).setCell ⟨w.heap.size, 5, none⟩ y1).setCell ⟨w.heap.size, 6, none⟩ y2).setCell ⟨w.heap.size, 7, none⟩ (.int .i64 d.num)).setCell ⟨w.heap.size, 8, none⟩ (.slice ua d.waits.length uc)).alloc (.cells #[.slice oa9 m.length oc9] 33)) oa) hN (hmF.mono (fun b hb hh => ⟨⟨by omega, hb, fun e => by have := hoa b e; omega⟩, rfl⟩))
    have hbase : w.heap.size + 3 ≤ ((((((((((w8.setCell ⟨w.heap.size, 0, none⟩ (.int .i64 d.stage)).setCell ⟨w.heap.size, 1, none⟩ m0).setCell ⟨w.heap.size, 2, none⟩ m1).setCell ⟨w.heap.size, 3, none⟩ m2).setCell ⟨w.heap.size, 4, none⟩ y0).setCell ⟨w.heap.size, 5, none⟩ y1).setCell ⟨w.heap.size, 6, none⟩ y2).setCell ⟨w.heap.size, 7, none⟩ (.int .i64 d.num)).setCell ⟨w.heap.size, 8, none⟩ (.slice ua d.waits.length uc)).alloc (.cells #[.slice oa9 m.length oc9] 33)).heap.size := by rw [hsF]; omega
    have hDC : D ≠ w.heap.size := by omega
    have hDC' : w.heap.size ≠ D := by omega
    have hln : (o ++ [m]).length = o.length + 1 := by simp
    obtain ⟨j0, gi, gz0, gz1, gz2⟩ := info_parts tos_info
    clear hD hp hq hws hm hT9 hZ9 hO9 hB9 hC9 hpE hqE hwE hmE hTE hZE hOE hBE hCE FRE hbx hN hmF hsE
    --CUT8
    go_wp2_with (at_builtin; go_must (refine wpList_appR (sh := sliceS toS) (base := w.heap.size + 3) (n := o.length) (m := 1) rfl _ _ 55 rfl 33 j0 (.slice none 0 0) 24 Try.underlying55 gi gz0 gz1 gz2 rfl (by decide) rfl hOF rfl rfl hsrc (by simp only [maxLen]; omega) (by omega) hbase ?_); go_must (intro oaG ocG wG hOG hgG hdG; have hbG := grown_below (B := w.heap.size + 3) hgG (fun k hk => (hOF.lt k hk).1) hbase))
    --CUT9
    case roundEnd =>
      go_roundw
      case rel =>
        exact ⟨i + 1, d, o ++ [m], m0, m1, m2, y0, y1, y2, ua, uc, oaG, ocG, by rw [hln], by go_num, HIn, hCF.below hbG (by omega), hcs, hcn,
          planS.mono hpF (fun b hb hh => ⟨okS.far (by omega), hgG.block b hb (fun e => by have := hoa b e.symm; omega)⟩),
          planS.mono hqF (fun b hb hh => ⟨okS.far (by omega), hgG.block b hb (fun e => by have := hoa b e.symm; omega)⟩),
          hwF.mono (fun b hb hh => ⟨okS.far (by omega), hgG.block b hb (fun e => by have := hoa b e.symm; omega)⟩),
          hTF.below hbG (by omega), hZF.below hbG (by omega), by rw [hln]; exact oth.grown hOG hgG.size hdG, hBF.trans (hbG.mono (by omega))⟩
      case measure => simp [intOf] <;> omega

end Go.Proofs.Ytagldmdeohenjaa
