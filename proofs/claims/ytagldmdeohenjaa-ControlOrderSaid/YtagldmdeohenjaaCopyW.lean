/-
  The walk of control.plan: a plan is copied.
-/
import Derived.Test.YtagldmdeohenjaaCloneW
import Derived.Test.YtagldmdeohenjaaTwo
import Derived.Test.YtagldmdeohenjaaPlanW
import Derived.Test.YtagldmdeohenjaaOfS
import Derived.WalkKit
import Derived.WalkSpells
import Derived.WalkLawsBesides
import Derived.Lib.Hide
import Derived.Deep.LoopGhost
import Derived.Deep.QuietTactic
import Derived.BigQuiet
import Derived.Deep.RegionWith
import Derived.Handy
set_option linter.unusedSimpArgs false
set_option linter.unusedVariables false
namespace Go.St
open Go.RowKit
/-- a plan whose rows are not longer than they may be to be copied -/
structure PlanSmall (p : Plan) : Prop where
  fls : p.flows.length ≤ 10000000
  via : ∀ f ∈ p.flows, f.via.length ≤ 10000000 ∧ f.no.length ≤ 10000000
  pts : p.paths.length ≤ 10000000
  len : ∀ q ∈ p.paths, q.length ≤ 10000000
theorem PlanSmall.none : PlanSmall noPlan := ⟨by simp [noPlan], by simp [noPlan], by simp [noPlan], by simp [noPlan]⟩
/-- what is read where a path is put behind -/
def SQ (ob : Nat) (ap : Option Addr) (j cp : Nat) (w : World) : Prop := w.cell? ⟨ob, 2, none⟩ = some (.slice ap j cp)
theorem SQ.of {ob : Nat} {ap : Option Addr} {j cp : Nat} {w : World} {tp : TypeId} {x0 x1 : Value} (h : blockIs w ob tp #[x0, x1, .slice ap j cp]) : SQ ob ap j cp w := h.cells.1 2
end Go.St
namespace Go.Proofs.Ytagldmdeohenjaa
open Go.RowKit Go.St

set_option maxRecDepth 100000 in
set_option maxHeartbeats 16000000 in
theorem planCopy_c (p : Plan) (cs : List Value) (ok : Nat → Prop) (w : World) (h : planS.rep ok w cs p) (hs : PlanSmall p) :
    Calls Try.prog 40 #[.agg cs.toArray] w fun e w' => ∃ pcs : List Value, e = .returned (.agg pcs.toArray) ∧ planS.rep (fun b => w.heap.size ≤ b) w' pcs p ∧ Below w.heap.size w w' := by
  obtain ⟨fa, fc, pa, pc, rfl, hv, hfl, hps⟩ := h
  obtain ⟨q1, q2, q3, q4⟩ := hs
  obtain ⟨v, fls, ps⟩ := p
  dsimp only at *
  have HQ2 := Lib.hid q2
  have HQ4 := Lib.hid q4
  clear q2 q4
  obtain ⟨i0, hi, hz0, hz1', hzz2⟩ := info_parts path_info'
  obtain ⟨j0, gi, gz0, gz1, gz2⟩ := info_parts flow_info
  have hlx := hfl.len_le
  have hpx := hps.len_le
  go_enter Try.func40, Try.ntmps40
  go_wp2
  have hB0 : Below w.heap.size w (((w.alloc (.cells #[.int .i64 v, .slice fa fls.length fc, .slice pa ps.length pc] 30)).alloc (.cells #[.int .i64 0, .slice none 0 0, .slice none 0 0] 30)).alloc (.cells #[.int .i64 v, .slice none 0 0, .slice none 0 0] 30)) := by (repeat' (first | with_reducible exact Below.refl _ _ | with_reducible assumption | with_reducible refine Below.drew ?_ | with_reducible refine Below_drewN ?_ _ | with_reducible refine Below.alloc ?_ ?_ _ | with_reducible refine Below.setCell ?_ ?_ _ | omega | (simp; done) | (simp; omega)))
  have hP0 : blockIs (((w.alloc (.cells #[.int .i64 v, .slice fa fls.length fc, .slice pa ps.length pc] 30)).alloc (.cells #[.int .i64 0, .slice none 0 0, .slice none 0 0] 30)).alloc (.cells #[.int .i64 v, .slice none 0 0, .slice none 0 0] 30)) w.heap.size 30 #[.int .i64 v, .slice fa fls.length fc, .slice pa ps.length pc] := ((blockIs.new rfl).alloc _).alloc _
  have hR0 : blockIs (((w.alloc (.cells #[.int .i64 v, .slice fa fls.length fc, .slice pa ps.length pc] 30)).alloc (.cells #[.int .i64 0, .slice none 0 0, .slice none 0 0] 30)).alloc (.cells #[.int .i64 v, .slice none 0 0, .slice none 0 0] 30)) (w.heap.size + 1) 30 #[.int .i64 0, .slice none 0 0, .slice none 0 0] := (blockIs.new (by simp)).alloc _
  have hO0 : blockIs (((w.alloc (.cells #[.int .i64 v, .slice fa fls.length fc, .slice pa ps.length pc] 30)).alloc (.cells #[.int .i64 0, .slice none 0 0, .slice none 0 0] 30)).alloc (.cells #[.int .i64 v, .slice none 0 0, .slice none 0 0] 30)) (w.heap.size + 1 + 1) 30 #[.int .i64 v, .slice none 0 0, .slice none 0 0] := blockIs.new (by simp)
  generalize ((w.alloc (.cells #[.int .i64 v, .slice fa fls.length fc, .slice pa ps.length pc] 30)).alloc (.cells #[.int .i64 0, .slice none 0 0, .slice none 0 0] 30)).alloc (.cells #[.int .i64 v, .slice none 0 0, .slice none 0 0] 30) = w0 at *
  go_loopw [5, 14] (fun _ idx wr => ∃ (j : Nat) (af : Option Addr) (cf : Nat), idx = .int .i64 j ∧ j ≤ fls.length ∧ blockIs wr (w.heap.size + 1 + 1) 30 #[.int .i64 v, .slice af j cf, .slice none 0 0] ∧ two flowS 64 (sliceS intS) 92 (w.heap.size + 3) wr af j cf (fls.take j) none 0 0 [] ∧ Below w.heap.size w wr ∧ blockIs wr w.heap.size 30 #[.int .i64 v, .slice fa fls.length fc, .slice pa ps.length pc] ∧ blockIs wr (w.heap.size + 1) 30 #[.int .i64 0, .slice none 0 0, .slice none 0 0]) (fun _ idx _ => fls.length - (intOf idx).toNat)
  case atStart => exact ⟨0, none, 0, rfl, Nat.zero_le _, hO0, two.nil _ _ _ _ _ _, hB0, hP0, hR0⟩
  case round =>
    clear hO0 hB0 hP0 hR0
    obtain ⟨j, af, cf, rfl, hj, hO, htwo, hb, hP, hZ⟩ := hrel
    rename World => wo
    have s0 := hO.lt
    obtain ⟨p1, p2⟩ := hP.cells
    obtain ⟨o1, o2⟩ := hO.cells
    have s2 := hb.size
    by_cases hlt : j < fls.length
    case neg =>
      have HJ := Lib.hid (show j = fls.length by omega)
      have b1 : ¬ (j : Int) < (fls.length : Int) := by omega
      have htk : fls.take j = fls := List.take_of_length_le (by omega)
      rw [htk] at htwo
      clear htk
      go_wp2
      clear hlt
      go_loopw [7, 38] (fun _ idx wr => ∃ (k : Nat) (ap : Option Addr) (cp : Nat), idx = .int .i64 k ∧ k ≤ ps.length ∧ blockIs wr (w.heap.size + 1 + 1) 30 #[.int .i64 v, .slice af j cf, .slice ap k cp] ∧ two flowS 64 (sliceS intS) 92 (w.heap.size + 3) wr af j cf fls ap k cp (ps.take k) ∧ Below w.heap.size w wr ∧ blockIs wr w.heap.size 30 #[.int .i64 v, .slice fa fls.length fc, .slice pa ps.length pc] ∧ blockIs wr (w.heap.size + 1) 30 #[.int .i64 0, .slice none 0 0, .slice none 0 0]) (fun _ idx _ => ps.length - (intOf idx).toNat)
      case atStart => exact ⟨0, none, 0, rfl, Nat.zero_le _, hO, htwo, hb, hP, hZ⟩
      case round =>
        clear hO hb hP hZ htwo s0 s2 p1 p2 o1 o2
        obtain ⟨k, ap, cp, rfl, hk, hO, htwo, hb, hP, hZ⟩ := hrel
        rename World => wi
        have s0 := hO.lt
        obtain ⟨p1, p2⟩ := hP.cells
        obtain ⟨o1, o2⟩ := hO.cells
        have s2 := hb.size
        by_cases hlt : k < ps.length
        case neg =>
          have HK := Lib.hid (show k = ps.length by omega)
          have b2 : ¬ (k : Int) < (ps.length : Int) := by omega
          have htk : ps.take k = ps := List.take_of_length_le (by omega)
          rw [htk] at htwo
          have s1 := hZ.lt
          obtain ⟨r1, r2⟩ := hZ.cells
          have G1 := ((hZ.set 0 (.int .i64 v)).set 1 (.slice af j cf)).set 2 (.slice ap k cp)
          obtain ⟨z1, z2⟩ := G1.cells
          have hof := ((htwo.setOther (ob := w.heap.size + 1) (o := 0) (v := .int .i64 v) (by omega)).setOther (ob := w.heap.size + 1) (o := 1) (v := .slice af j cf) (by omega)).setOther (ob := w.heap.size + 1) (o := 2) (v := .slice ap k cp) (by omega)
          have hr1 := hof.1.row (ok' := fun b => w.heap.size ≤ b) (fun b hh => by have := hh.1; omega) (fun k hk => by have := (hof.1.lt k hk).1; omega)
          have hr2 := hof.2.1.row (ok' := fun b => w.heap.size ≤ b) (fun b hh => by have := hh.1; omega) (fun k hk => by have := (hof.2.1.lt k hk).1; omega)
          have hbf : Below w.heap.size w (((wi.setCell ⟨w.heap.size + 1, 0, none⟩ (.int .i64 v)).setCell ⟨w.heap.size + 1, 1, none⟩ (.slice af j cf)).setCell ⟨w.heap.size + 1, 2, none⟩ (.slice ap k cp)) := by (repeat' (first | with_reducible exact Below.refl _ _ | with_reducible assumption | with_reducible refine Below.drew ?_ | with_reducible refine Below_drewN ?_ _ | with_reducible refine Below.alloc ?_ ?_ _ | with_reducible refine Below.setCell ?_ ?_ _ | omega | (simp; done) | (simp; omega)))
          have HZ : Hid (planS.rep (fun b => w.heap.size ≤ b) (((wi.setCell ⟨w.heap.size + 1, 0, none⟩ (.int .i64 v)).setCell ⟨w.heap.size + 1, 1, none⟩ (.slice af j cf)).setCell ⟨w.heap.size + 1, 2, none⟩ (.slice ap k cp)) [.int .i64 v, .slice af j cf, .slice ap k cp] ⟨v, fls, ps⟩) := ⟨af, cf, ap, cp, by rw [HJ.out, HK.out], hv, hr1, hr2⟩
          clear htk hlt hr1 hr2 hof htwo
          go_wp2_with ((with_reducible refine bodyPost_ret (v := .agg #[.int .i64 v, .slice af j cf, .slice ap k cp]) ?ra1 ?rb1 ?rc1); go_must (case ra1 => simp [results, Try.results40, go_sem, z1]); go_must (case rb1 => rfl); go_must (case rc1 => exact ⟨_, rfl, HZ.out, hbf⟩))
        obtain ⟨q, hq⟩ : ∃ q, ps[k]? = some q := ⟨_, List.getElem?_eq_getElem hlt⟩
        have htk : ps.take (k + 1) = ps.take k ++ [q] := by rw [List.take_add_one, hq]; rfl
        have HTK := Lib.hid htk
        have hql := HQ4.out q (List.mem_of_getElem? hq)
        obtain ⟨gb, go, qa, qc, rfl, hgl, hqr, hce⟩ := sliceRow_get hps hq
        have e0 := hce _ hb
        have b0 : (0 : Int) ≤ (k : Int) := by omega
        have b1 : (k : Int) < (ps.length : Int) := by omega
        clear hce htk hq
        go_wp2
        have hS0 : SQ (w.heap.size + 1 + 1) ap k cp wi.drew := SQ.of hO
        refine wp_region_to (SQ (w.heap.size + 1 + 1) ap k cp) 7 (fun a0 a' w' => ∃ v42 v43 v44 v45 v46 v47 v48 v49, a' = puts a0 [(42, v42), (43, v43), (44, v44), (45, v45), (46, v46), (47, v47), (48, v48), (49, v49)] ∧ ∃ ap' cp', two flowS 64 (sliceS intS) 92 (w.heap.size + 3) w' af j cf fls ap' (k + 1) cp' (ps.take k ++ [q]) ∧ blockIs w' (w.heap.size + 1 + 1) 30 #[.int .i64 v, .slice af j cf, .slice ap' (k + 1) cp'] ∧ Below w.heap.size w w' ∧ blockIs w' w.heap.size 30 #[.int .i64 v, .slice (fa) fls.length fc, .slice (some ⟨gb, go, none⟩) ps.length pc] ∧ blockIs w' (w.heap.size + 1) 30 #[.int .i64 0, .slice none 0 0, .slice none 0 0]) (by kernel_rfl) ?_ ?_
        · intro Q' hR hQp
          have hb0 : Below wi.heap.size wi wi.drew := by (repeat' (first | with_reducible exact Below.refl _ _ | with_reducible assumption | with_reducible refine Below.drew ?_ | with_reducible refine Below_drewN ?_ _ | with_reducible refine Below.alloc ?_ ?_ _ | with_reducible refine Below.setCell ?_ ?_ _ | omega | (simp; done) | (simp; omega)))
          have hS : SQ (w.heap.size + 1 + 1) ap k cp wi.drew := hS0
          generalize wi.drew = wa at *
          have hO1 := hO.under hb0
          have hP1 := hP.under hb0
          have hR1 := hZ.under hb0
          have htwo1 := htwo.below hb0
          have hb1 : Below w.heap.size w wa := hb.trans (hb0.mono hb.size)
          refine wpAnyK_take (i := 0) _ rfl (by kernel_rfl) (fun _ _ _ h => hQp _ _ _ _ h) hS (yields_value (by kernel_rfl) (by intro w0 hw0; have hw1 := hw0; simp only [SQ] at hw1; first | (go_simp; done) | (go_simp; rfl))) ?_; simp only [Act.put, List.getElem_toArray, List.getElem_cons_succ, List.getElem_cons_zero, List.setIfInBounds_toArray, List.set_cons_succ, List.set_cons_zero]
          refine wpAnyK_take (i := 1) _ rfl (by kernel_rfl) (fun _ _ _ h => hQp _ _ _ _ h) hS (yields_value (by kernel_rfl) (by intro w0 hw0; have hw1 := hw0; simp only [SQ] at hw1; first | (go_simp; done) | (go_simp; rfl))) ?_; simp only [Act.put, List.getElem_toArray, List.getElem_cons_succ, List.getElem_cons_zero, List.setIfInBounds_toArray, List.set_cons_succ, List.set_cons_zero]
          refine wpAnyK_take (i := 2) _ rfl (by kernel_rfl) (fun _ _ _ h => hQp _ _ _ _ h) hS (yields_value (by kernel_rfl) (by intro w0 hw0; have hw1 := hw0; simp only [SQ] at hw1; first | (go_simp; done) | (go_simp; rfl))) ?_; simp only [Act.put, List.getElem_toArray, List.getElem_cons_succ, List.getElem_cons_zero, List.setIfInBounds_toArray, List.set_cons_succ, List.set_cons_zero]
          clear hS
          refine wpAnyK_call (i := 3) rfl (by kernel_rfl) (by kernel_rfl) fun K3 hK3 => ?_
          go_simp
          go_wp2_with fail
          refine (cloneP_o q _ qa qc wa (hqr.below hb1) (by omega)).mono ?_
          rintro e wb ⟨a1, c1, rfl, hr1, hab⟩
          have hb2 : Below w.heap.size w wb := hb1.trans (hab.mono hb1.size)
          go_wp2_with fail
          have hS : _ := SQ.of (hO1.under hab)
          refine hK3 _ _ (fun _ => hS) ?_
          clear hK3
          clear hS
          have hlf' : ∀ k, blk af = some k → k < wa.heap.size := fun k hk => (htwo1.1.lt k hk).2
          have hlp' : ∀ k, blk ap = some k → k < wa.heap.size := fun k hk => (htwo1.2.1.lt k hk).2
          refine wpAnyK_call (i := 4) rfl (by kernel_rfl) (by kernel_rfl) fun K4 hK4 => ?_
          go_simp
          go_wp2_with fail
          have hbc : Below wb.heap.size wb (wb.alloc (.cells #[.slice a1 q.length c1] 92)) := by (repeat' (first | with_reducible exact Below.refl _ _ | with_reducible assumption | with_reducible refine Below.drew ?_ | with_reducible refine Below_drewN ?_ _ | with_reducible refine Below.alloc ?_ ?_ _ | with_reducible refine Below.setCell ?_ ?_ _ | omega | (simp; done) | (simp; omega)))
          have hac := hab.trans (hbc.mono hab.size)
          have hN : blockIs (wb.alloc (.cells #[.slice a1 q.length c1] 92)) wb.heap.size 92 #[.slice a1 q.length c1] := blockIs.new rfl
          have hr2 := hr1.fresh.below hbc
          have hb3 := hb2.trans (hbc.mono hb2.size)
          have hS : _ := SQ.of (hO1.under hac)
          refine hK4 _ _ (fun _ => hS) ?_
          clear hK4
          clear hS
          have hsz3 := hac.size
          generalize wb.alloc (.cells #[.slice a1 q.length c1] 92) = wc at *
          generalize wb.heap.size = nb at *
          have htwo3 := htwo1.below hac
          have hsrc := row_one_src hN (two.okof (lo := w.heap.size + 3) (ao := af) (bo := ap) hr2 (by have := hb1.size; have := hO1.lt; omega) hlf' hlp')
          refine wpAnyK_call (i := 5) rfl (by kernel_rfl) (by kernel_rfl) fun K5 hK5 => ?_
          refine wp_appR (sh := sliceS intS) (n := k) (m := 1) (.tmp 43) (.tmp 46) 28 (by rfl) 92 i0 (.slice none 0 0) 24 Try.underlying28 hi hz0 hz1' hzz2 rfl (by decide) (ok := twn (w.heap.size + 3) wc af ap) (base := w.heap.size + 3) (by rfl) htwo3.2.1 (by rfl) rfl hsrc (by simp only [maxLen]; omega) (by omega) (by have := hO1.lt; omega) ?_
          intro ap' cp' wd hop hgp hliep
          have hne : ∀ b, b ≤ w.heap.size + 2 → some b ≠ blk ap := fun b hbb e => by have := (htwo3.2.1.lt _ e.symm).1; omega
          have hO4 := (hO1.under hac).grown hgp (hne _ (by omega))
          have hP4 := (hP1.under hac).grown hgp (hne _ (by omega))
          have hR4 := (hR1.under hac).grown hgp (hne _ (by omega))
          have hb4 : Below w.heap.size w wd := hb3.trans (grown_below (B := w.heap.size) hgp (fun k hk => by have := (htwo3.2.1.lt k hk).1; omega) hb3.size)
          have htwo4 := htwo3.grownB hop hgp hliep
          simp only [Act.put, List.getElem_toArray, List.getElem_cons_succ, List.getElem_cons_zero, List.setIfInBounds_toArray, List.set_cons_succ, List.set_cons_zero]
          have hS : _ := SQ.of hO4
          refine hK5 _ _ (fun _ => hS) ?_
          clear hK5
          clear hop hsrc htwo3 hgp
          refine wpAnyK_take (i := 6) _ rfl (by kernel_rfl) (fun _ _ _ h => hQp _ _ _ _ h) hS (yields_value (by kernel_rfl) (by intro w0 hw0; have hw1 := hw0; simp only [SQ] at hw1; first | (go_simp; done) | (go_simp; rfl))) ?_; simp only [Act.put, List.getElem_toArray, List.getElem_cons_succ, List.getElem_cons_zero, List.setIfInBounds_toArray, List.set_cons_succ, List.set_cons_zero]
          clear hS
          refine wpAnyK_call (i := 7) rfl (by kernel_rfl) (by kernel_rfl) fun K7 hK7 => ?_
          obtain ⟨o1, o2⟩ := hO4.cells
          have hofl := hO4.lt
          go_simp
          go_wp2_with fail
          refine hK7 _ _ (fun h => absurd rfl h) ?_
          clear hK7
          refine wpAnyK_done (by kernel_rfl) ?_ _
          refine hR _ _ ?_
          iterate 8 apply Exists.intro
          refine ⟨?_, ⟨ap', cp', htwo4.setOther (by omega), hO4.set 2 (.slice ap' (k + 1) cp'), by (repeat' (first | with_reducible exact Below.refl _ _ | with_reducible assumption | with_reducible refine Below.drew ?_ | with_reducible refine Below_drewN ?_ _ | with_reducible refine Below.alloc ?_ ?_ _ | with_reducible refine Below.setCell ?_ ?_ _ | omega | (simp; done) | (simp; omega))), hP4.setOther (by first | (simp; done) | (simp; omega)) _, hR4.setOther (by first | (simp; done) | (simp; omega)) _⟩⟩
          simp only [puts, Act.put, List.setIfInBounds_toArray, List.set_cons_succ, List.set_cons_zero]
          rfl
        rintro a' w8 ⟨v42, v43, v44, v45, v46, v47, v48, v49, rfl, hb8⟩
        simp only [puts, Act.put, List.setIfInBounds_toArray, List.set_cons_succ, List.set_cons_zero]
        clear hO hP hZ htwo hb p1 p2 o1 o2 s0 s2
        obtain ⟨ap', cp', htwo9, hO9, hb9, hP9, hR9⟩ := hb8
        go_wp2
        case roundEnd =>
          go_roundw
          case rel => exact ⟨k + 1, ap', cp', by go_num, by omega, hO9, by rw [HTK.out]; exact htwo9, hb9, hP9, hR9⟩
          case measure => simp [intOf] <;> omega
    obtain ⟨f, hf⟩ : ∃ f, fls[j]? = some f := ⟨_, List.getElem?_eq_getElem hlt⟩
    have htk : fls.take (j + 1) = fls.take j ++ [f] := by rw [List.take_add_one, hf]; rfl
    have HTK := Lib.hid htk
    obtain ⟨hvl, hnl⟩ := HQ2.out f (List.mem_of_getElem? hf)
    obtain ⟨g, off, rfl, _, hbl, cs, hcs, hce⟩ := hfl.get hf
    obtain ⟨va, vc, na, nc, rfl, hsi, hdi, hvi, hni⟩ := hcs
    have e0 := cell_at hb hbl (hce 0 _ rfl)
    have e1 := cell_at hb hbl (hce 1 _ rfl)
    have e2 := cell_at hb hbl (hce 2 _ rfl)
    have e3 := cell_at hb hbl (hce 3 _ rfl)
    clear hce htk hf
    simp only [flowS, Nat.add_zero] at e0 e1 e2 e3
    have b0 : (0 : Int) ≤ (j : Int) := by omega
    have b1 : (j : Int) < (fls.length : Int) := by omega
    have hgl : g < wo.heap.size := by omega
    have hob6 : Below wo.heap.size wo (wo.alloc (.cells #[.int .i64 f.src, .int .i64 f.dst, .slice va f.via.length vc, .slice na f.no.length nc] 64)) := by (repeat' (first | with_reducible exact Below.refl _ _ | with_reducible assumption | with_reducible refine Below.drew ?_ | with_reducible refine Below_drewN ?_ _ | with_reducible refine Below.alloc ?_ ?_ _ | with_reducible refine Below.setCell ?_ ?_ _ | omega | (simp; done) | (simp; omega)))
    have hX6 : blockIs (wo.alloc (.cells #[.int .i64 f.src, .int .i64 f.dst, .slice va f.via.length vc, .slice na f.no.length nc] 64)) wo.heap.size 64 #[.int .i64 f.src, .int .i64 f.dst, .slice va f.via.length vc, .slice na f.no.length nc] := blockIs.new rfl
    have hO6 := hO.under hob6
    have hP6 := hP.under hob6
    have hR6 := hZ.under hob6
    have htwo6 := htwo.below hob6
    have hb6 : Below w.heap.size w (wo.alloc (.cells #[.int .i64 f.src, .int .i64 f.dst, .slice va f.via.length vc, .slice na f.no.length nc] 64)) := hb.trans (hob6.mono hb.size)
    have hlf : ∀ k, blk af = some k → k < wo.heap.size := fun k hk => (htwo.1.lt k hk).2
    have hwo6 : wo.heap.size < (wo.alloc (.cells #[.int .i64 f.src, .int .i64 f.dst, .slice va f.via.length vc, .slice na f.no.length nc] 64)).heap.size := by simp
    go_wp2
    generalize wo.alloc (.cells #[.int .i64 f.src, .int .i64 f.dst, .slice va f.via.length vc, .slice na f.no.length nc] 64) = w6 at *
    clear p1 p2 o1 o2 e0 e1 e2 e3 hO hP hZ htwo hob6
    generalize wo.heap.size = fb at *
    have hS0 : SP (w.heap.size + 1 + 1) fb af j cf f va vc na nc w6.drew := SP.of hO6 hX6
    refine wp_region_to (SP (w.heap.size + 1 + 1) fb af j cf f va vc na nc) 16 (fun a0 a' w' => ∃ v18 v19 v20 v21 v22 v23 v24 v25 v26 v27 v28 v29 v30 v31 v32 v33, a' = puts a0 [(18, v18), (19, v19), (20, v20), (21, v21), (22, v22), (23, v23), (24, v24), (25, v25), (26, v26), (27, v27), (28, v28), (29, v29), (30, v30), (31, v31), (32, v32), (33, v33)] ∧ ∃ af' cf', two flowS 64 (sliceS intS) 92 (w.heap.size + 3) w' af' (j + 1) cf' (fls.take j ++ [f]) none 0 0 [] ∧ blockIs w' (w.heap.size + 1 + 1) 30 #[.int .i64 v, .slice af' (j + 1) cf', .slice none 0 0] ∧ Below w.heap.size w w' ∧ blockIs w' w.heap.size 30 #[.int .i64 v, .slice (some ⟨g, off, none⟩) fls.length fc, .slice pa ps.length pc] ∧ blockIs w' (w.heap.size + 1) 30 #[.int .i64 0, .slice none 0 0, .slice none 0 0]) (by kernel_rfl) ?_ ?_
    · intro Q' hR hQp
      have hb0 : Below w6.heap.size w6 w6.drew := by (repeat' (first | with_reducible exact Below.refl _ _ | with_reducible assumption | with_reducible refine Below.drew ?_ | with_reducible refine Below_drewN ?_ _ | with_reducible refine Below.alloc ?_ ?_ _ | with_reducible refine Below.setCell ?_ ?_ _ | omega | (simp; done) | (simp; omega)))
      have hS : SP (w.heap.size + 1 + 1) fb af j cf f va vc na nc w6.drew := hS0
      generalize w6.drew = wa at *
      have hO8 := hO6.under hb0
      have hP8 := hP6.under hb0
      have hR8 := hR6.under hb0
      have hX8 := hX6.under hb0
      have htwo8 := htwo6.below hb0
      have hb8 : Below w.heap.size w wa := hb6.trans (hb0.mono hb6.size)
      refine wpAnyK_take (i := 0) _ rfl (by kernel_rfl) (fun _ _ _ h => hQp _ _ _ _ h) hS (yields_value (by kernel_rfl) (by intro w0 hw0; have hw1 := hw0; simp only [SP] at hw1; first | (go_simp; done) | (go_simp; rfl))) ?_; simp only [Act.put, List.getElem_toArray, List.getElem_cons_succ, List.getElem_cons_zero, List.setIfInBounds_toArray, List.set_cons_succ, List.set_cons_zero]
      refine wpAnyK_take (i := 1) _ rfl (by kernel_rfl) (fun _ _ _ h => hQp _ _ _ _ h) hS (yields_value (by kernel_rfl) (by intro w0 hw0; have hw1 := hw0; simp only [SP] at hw1; first | (go_simp; done) | (go_simp; rfl))) ?_; simp only [Act.put, List.getElem_toArray, List.getElem_cons_succ, List.getElem_cons_zero, List.setIfInBounds_toArray, List.set_cons_succ, List.set_cons_zero]
      refine wpAnyK_take (i := 2) _ rfl (by kernel_rfl) (fun _ _ _ h => hQp _ _ _ _ h) hS (yields_value (by kernel_rfl) (by intro w0 hw0; have hw1 := hw0; simp only [SP] at hw1; first | (go_simp; done) | (go_simp; rfl))) ?_; simp only [Act.put, List.getElem_toArray, List.getElem_cons_succ, List.getElem_cons_zero, List.setIfInBounds_toArray, List.set_cons_succ, List.set_cons_zero]
      refine wpAnyK_take (i := 3) _ rfl (by kernel_rfl) (fun _ _ _ h => hQp _ _ _ _ h) hS (yields_value (by kernel_rfl) (by intro w0 hw0; have hw1 := hw0; simp only [SP] at hw1; first | (go_simp; done) | (go_simp; rfl))) ?_; simp only [Act.put, List.getElem_toArray, List.getElem_cons_succ, List.getElem_cons_zero, List.setIfInBounds_toArray, List.set_cons_succ, List.set_cons_zero]
      refine wpAnyK_take (i := 4) _ rfl (by kernel_rfl) (fun _ _ _ h => hQp _ _ _ _ h) hS (yields_value (by kernel_rfl) (by intro w0 hw0; have hw1 := hw0; simp only [SP] at hw1; first | (go_simp; done) | (go_simp; rfl))) ?_; simp only [Act.put, List.getElem_toArray, List.getElem_cons_succ, List.getElem_cons_zero, List.setIfInBounds_toArray, List.set_cons_succ, List.set_cons_zero]
      refine wpAnyK_take (i := 5) _ rfl (by kernel_rfl) (fun _ _ _ h => hQp _ _ _ _ h) hS (yields_value (by kernel_rfl) (by intro w0 hw0; have hw1 := hw0; simp only [SP] at hw1; first | (go_simp; done) | (go_simp; rfl))) ?_; simp only [Act.put, List.getElem_toArray, List.getElem_cons_succ, List.getElem_cons_zero, List.setIfInBounds_toArray, List.set_cons_succ, List.set_cons_zero]
      refine wpAnyK_take (i := 6) _ rfl (by kernel_rfl) (fun _ _ _ h => hQp _ _ _ _ h) hS (yields_value (by kernel_rfl) (by intro w0 hw0; have hw1 := hw0; simp only [SP] at hw1; first | (go_simp; done) | (go_simp; rfl))) ?_; simp only [Act.put, List.getElem_toArray, List.getElem_cons_succ, List.getElem_cons_zero, List.setIfInBounds_toArray, List.set_cons_succ, List.set_cons_zero]
      refine wpAnyK_take (i := 7) _ rfl (by kernel_rfl) (fun _ _ _ h => hQp _ _ _ _ h) hS (yields_value (by kernel_rfl) (by intro w0 hw0; have hw1 := hw0; simp only [SP] at hw1; first | (go_simp; done) | (go_simp; rfl))) ?_; simp only [Act.put, List.getElem_toArray, List.getElem_cons_succ, List.getElem_cons_zero, List.setIfInBounds_toArray, List.set_cons_succ, List.set_cons_zero]
      refine wpAnyK_take (i := 9) _ rfl (by kernel_rfl) (fun _ _ _ h => hQp _ _ _ _ h) hS (yields_value (by kernel_rfl) (by intro w0 hw0; have hw1 := hw0; simp only [SP] at hw1; first | (go_simp; done) | (go_simp; rfl))) ?_; simp only [Act.put, List.getElem_toArray, List.getElem_cons_succ, List.getElem_cons_zero, List.setIfInBounds_toArray, List.set_cons_succ, List.set_cons_zero]
      refine wpAnyK_take (i := 10) _ rfl (by kernel_rfl) (fun _ _ _ h => hQp _ _ _ _ h) hS (yields_value (by kernel_rfl) (by intro w0 hw0; have hw1 := hw0; simp only [SP] at hw1; first | (go_simp; done) | (go_simp; rfl))) ?_; simp only [Act.put, List.getElem_toArray, List.getElem_cons_succ, List.getElem_cons_zero, List.setIfInBounds_toArray, List.set_cons_succ, List.set_cons_zero]
      clear hS
      refine wpAnyK_call (i := 8) rfl (by kernel_rfl) (by kernel_rfl) fun K8 hK8 => ?_
      go_simp
      go_wp2_with fail
      refine (cloneI_o f.via _ va vc wa (hvi.below hb8) (by omega)).mono ?_
      rintro e wb ⟨a1, c1, rfl, hr1, hab⟩
      have hb9 : Below w.heap.size w wb := hb8.trans (hab.mono hb8.size)
      go_wp2_with fail
      have hS : _ := SP.of (hO8.under hab) (hX8.under hab)
      refine hK8 _ _ (fun _ => hS) ?_
      clear hK8
      clear hS
      refine wpAnyK_call (i := 11) rfl (by kernel_rfl) (by kernel_rfl) fun K11 hK11 => ?_
      go_simp
      go_wp2_with fail
      refine (cloneI_o f.no _ na nc wb (hni.below hb9) (by omega)).mono ?_
      rintro e wc ⟨a2, c2, rfl, hr2, hbc⟩
      have hac : Below wa.heap.size wa wc := hab.trans (hbc.mono hab.size)
      have hr1' := (hr1.fresh.below hbc).mono (ok' := fun b => wa.heap.size ≤ b) (fun b _ h => ⟨h, rfl⟩)
      have hr2' := hr2.fresh.mono (ok' := fun b => wa.heap.size ≤ b) (fun b _ (h : wb.heap.size ≤ b) => ⟨Nat.le_trans hab.size h, rfl⟩)
      have hb10 : Below w.heap.size w wc := hb8.trans (hac.mono hb8.size)
      go_wp2_with fail
      have hS : _ := SP.of (hO8.under hac) (hX8.under hac)
      refine hK11 _ _ (fun _ => hS) ?_
      clear hK11
      clear hr1 hr2 hb9
      refine wpAnyK_take (i := 12) _ rfl (by kernel_rfl) (fun _ _ _ h => hQp _ _ _ _ h) hS (yields_value (by kernel_rfl) (by intro w0 hw0; have hw1 := hw0; simp only [SP] at hw1; first | (go_simp; done) | (go_simp; rfl))) ?_; simp only [Act.put, List.getElem_toArray, List.getElem_cons_succ, List.getElem_cons_zero, List.setIfInBounds_toArray, List.set_cons_succ, List.set_cons_zero]
      clear hS
      refine wpAnyK_call (i := 13) rfl (by kernel_rfl) (by kernel_rfl) fun K13 hK13 => ?_
      go_simp
      go_wp2_with fail
      have hcd : Below wc.heap.size wc (wc.alloc (.cells #[.int .i64 f.src, .int .i64 f.dst, .slice a1 f.via.length c1, .slice a2 f.no.length c2] 64)) := by (repeat' (first | with_reducible exact Below.refl _ _ | with_reducible assumption | with_reducible refine Below.drew ?_ | with_reducible refine Below_drewN ?_ _ | with_reducible refine Below.alloc ?_ ?_ _ | with_reducible refine Below.setCell ?_ ?_ _ | omega | (simp; done) | (simp; omega)))
      have had := hac.trans (hcd.mono hac.size)
      have hN : blockIs (wc.alloc (.cells #[.int .i64 f.src, .int .i64 f.dst, .slice a1 f.via.length c1, .slice a2 f.no.length c2] 64)) wc.heap.size 64 #[.int .i64 f.src, .int .i64 f.dst, .slice a1 f.via.length c1, .slice a2 f.no.length c2] := blockIs.new rfl
      have hNl := hN.lt
      have hr1'' := hr1'.below hcd
      have hr2'' := hr2'.below hcd
      have hb11 := hb8.trans (had.mono hb8.size)
      have hS : _ := SP.of (hO8.under had) (hX8.under had)
      refine hK13 _ _ (fun _ => hS) ?_
      clear hK13
      clear hr1' hr2' hb10 hcd hS
      have hacz := hac.size
      generalize wc.alloc (.cells #[.int .i64 f.src, .int .i64 f.dst, .slice a1 f.via.length c1, .slice a2 f.no.length c2] 64) = wd at *
      generalize wc.heap.size = nb at *
      have htwo9 := htwo8.below had
      have hla' : ∀ k, blk af = some k → k < wa.heap.size := fun k hk => (htwo8.1.lt k hk).2
      have hwas := hb0.size
      have hsrc := flow_one_src hN hsi hdi (two.okof (lo := w.heap.size + 3) (ao := af) (bo := none) hr1'' (by have := hO8.lt; omega) hla' (by simp [blk])) (two.okof (lo := w.heap.size + 3) (ao := af) (bo := none) hr2'' (by have := hO8.lt; omega) hla' (by simp [blk]))
      refine wpAnyK_call (i := 14) rfl (by kernel_rfl) (by kernel_rfl) fun K14 hK14 => ?_
      refine wp_appR (sh := flowS) (n := j) (m := 1) (.tmp 19) (.tmp 31) 25 (by rfl) 64 j0 (.agg #[.int .i64 0, .int .i64 0, .slice none 0 0, .slice none 0 0]) 64 Try.underlying25 gi gz0 gz1 gz2 rfl (by decide) (ok := twn (w.heap.size + 3) wd af none) (base := w.heap.size + 3) (by rfl) htwo9.1 (by rfl) rfl hsrc (by simp only [maxLen]; omega) (by omega) (by have := had.size; have := hO8.lt; omega) ?_
      intro af' cf' we' hof hgf hlief
      have hne : ∀ b, b ≤ w.heap.size + 2 → some b ≠ blk af := fun b hbb e => by have := (htwo9.1.lt _ e.symm).1; omega
      have hOf := (hO8.under had).grown hgf (hne _ (by omega))
      have hPf := (hP8.under had).grown hgf (hne _ (by omega))
      have hRf := (hR8.under had).grown hgf (hne _ (by omega))
      have hXf := (hX8.under had).grown hgf (fun e => by have := hlf _ e.symm; omega)
      have hbf : Below w.heap.size w we' := hb11.trans (grown_below (B := w.heap.size) hgf (fun k hk => by have := (htwo9.1.lt k hk).1; omega) hb11.size)
      have htwof := htwo9.grownA hof hgf hlief
      simp only [Act.put, List.getElem_toArray, List.getElem_cons_succ, List.getElem_cons_zero, List.setIfInBounds_toArray, List.set_cons_succ, List.set_cons_zero]
      have hS : _ := SP.of hOf hXf
      refine hK14 _ _ (fun _ => hS) ?_
      clear hK14
      clear hof hsrc htwo9 hgf
      refine wpAnyK_take (i := 15) _ rfl (by kernel_rfl) (fun _ _ _ h => hQp _ _ _ _ h) hS (yields_value (by kernel_rfl) (by intro w0 hw0; have hw1 := hw0; simp only [SP] at hw1; first | (go_simp; done) | (go_simp; rfl))) ?_; simp only [Act.put, List.getElem_toArray, List.getElem_cons_succ, List.getElem_cons_zero, List.setIfInBounds_toArray, List.set_cons_succ, List.set_cons_zero]
      clear hS
      refine wpAnyK_call (i := 16) rfl (by kernel_rfl) (by kernel_rfl) fun K16 hK16 => ?_
      obtain ⟨o1, o2⟩ := hOf.cells
      have hofl := hOf.lt
      go_simp
      go_wp2_with fail
      refine hK16 _ _ (fun h => absurd rfl h) ?_
      clear hK16
      refine wpAnyK_done (by kernel_rfl) ?_ _
      refine hR _ _ ?_
      iterate 16 apply Exists.intro
      refine ⟨?_, ⟨af', cf', htwof.setOther (by omega), hOf.set 1 (.slice af' (j + 1) cf'), by (repeat' (first | with_reducible exact Below.refl _ _ | with_reducible assumption | with_reducible refine Below.drew ?_ | with_reducible refine Below_drewN ?_ _ | with_reducible refine Below.alloc ?_ ?_ _ | with_reducible refine Below.setCell ?_ ?_ _ | omega | (simp; done) | (simp; omega))), hPf.setOther (by first | (simp; done) | (simp; omega)) _, hRf.setOther (by first | (simp; done) | (simp; omega)) _⟩⟩
      simp only [puts, Act.put, List.setIfInBounds_toArray, List.set_cons_succ, List.set_cons_zero]
      rfl
    rintro a' w8 ⟨v18, v19, v20, v21, v22, v23, v24, v25, v26, v27, v28, v29, v30, v31, v32, v33, rfl, hb8⟩
    simp only [puts, Act.put, List.setIfInBounds_toArray, List.set_cons_succ, List.set_cons_zero]
    clear hO6 hP6 hR6 htwo6 hb6 hX6 hb s2
    obtain ⟨af', cf', htwo9, hO9, hb9, hP9, hR9⟩ := hb8
    go_wp2
    case roundEnd =>
      go_roundw
      case rel => exact ⟨j + 1, af', cf', by go_num, by omega, hO9, by rw [HTK.out]; exact htwo9, hb9, hP9, hR9⟩
      case measure => simp [intOf] <;> omega

end Go.Proofs.Ytagldmdeohenjaa
