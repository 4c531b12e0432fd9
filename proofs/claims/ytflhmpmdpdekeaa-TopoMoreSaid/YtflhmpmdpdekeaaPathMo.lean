/-
  The walk of PathMore.
-/
import Derived.Test.YtflhmpmdpdekeaaPathA
import Derived.Test.YtflhmpmdpdekeaaPathPS
import Derived.Test.YtflhmpmdpdekeaaTopoL
import Derived.Test.YtflhmpmdpdekeaaTopoW
import Derived.Test.YtflhmpmdpdekeaaMoreS
import Derived.Test.YtflhmpmdpdekeaaFork
import Derived.WalkKit
import Derived.WalkSpells
import Derived.WalkLawsBesides
import Derived.Lib.Hide
import Derived.Deep.LoopGhost
import Derived.Deep.QuietTactic
import Derived.BigQuiet
import Derived.Deep.RegionWith
import Derived.Handy
set_option linter.unusedSimpArgs false
set_option linter.unusedVariables false
namespace Go.Proofs.Ytflhmpmdpdekeaa
open Go.RowKit Go.St

/-- the cells of a net and of a link -/
def SM (tb lb : Nat) (n : Int) (la : Option Addr) (ll lc : Nat) (l : Link) (w : World) : Prop :=
  w.cell? ⟨tb, 0, none⟩ = some (.int .i64 n) ∧ w.cell? ⟨tb, 1, none⟩ = some (.slice la ll lc) ∧ w.cell? ⟨lb, 0, none⟩ = some (.int .i64 l.a) ∧ w.cell? ⟨lb, 1, none⟩ = some (.int .i64 l.b) ∧ w.cell? ⟨lb, 2, none⟩ = some (.int .i64 l.cost)
theorem SM.of {w : World} {tb lb : Nat} {n : Int} {la : Option Addr} {ll lc : Nat} {l : Link} {e e' : TypeId} (h : blockIs w tb e #[.int .i64 n, .slice la ll lc]) (h' : blockIs w lb e' #[.int .i64 l.a, .int .i64 l.b, .int .i64 l.cost]) : SM tb lb n la ll lc l w :=
  ⟨h.cells.1 0, h.cells.1 1, h'.cells.1 0, h'.cells.1 1, h'.cells.1 2⟩
theorem link_src {w : World} {b : Nat} {e : TypeId} {l : Link} {ok : Nat → Prop} (h : blockIs w b e #[.int .i64 l.a, .int .i64 l.b, .int .i64 l.cost]) (h1 : I64 l.a) (h2 : I64 l.b) (h3 : I64 l.cost) : srcRep linkS ok w (some ⟨b, 0, none⟩) [l] := by
  refine .inr ⟨b, 0, rfl, fun i x hx => ?_⟩
  match i, hx with
  | 0, hx =>
    obtain rfl : l = x := by simpa using hx
    refine ⟨_, ⟨rfl, h1, h2, h3⟩, fun j c hc => ?_⟩
    simp only [Nat.zero_mul, Nat.zero_add]
    rw [h.cells.1 j]
    simpa using hc
  | i + 1, hx => simp at hx
theorem links_src {w : World} {ok ok' : Nat → Prop} {ao : Option Addr} {ys : List Link} (h : srcRep linkS ok w ao ys) : srcRep linkS ok' w ao ys := h.flat fun h => h
theorem link_info : (Try.prog.info? 38).map (fun i => (i.zero, i.size, i.bytes)) = some (some (.agg #[.int .i64 0, .int .i64 0, .int .i64 0]), 3, 24) := by kernel_rfl

set_option maxRecDepth 100000 in
theorem fault_err (a b : Value) (w : World) : (Instr.field 40 (.agg #[a, b]) 0).run Try.prog w = .ok a w := by first | rfl | kernel_rfl | (simp [Instr.field]; done)

set_option maxRecDepth 100000 in
set_option maxHeartbeats 16000000 in
theorem pathMore_c (w : World) (t : Topo) (cs : List Value) (ok : Nat → Prop) (h : topoS.rep ok w cs t) (hsz : t.links.length * 24 ≤ 140737488351232) (f : Flow) (fs : List Value) (ok' : Nat → Prop) (hf : flowS.rep ok' w fs f) (l : Link) (ls : List Value) (ok'' : Nat → Prop) (hl : linkS.rep ok'' w ls l) :
    Calls Try.prog 5 #[.agg cs.toArray, .agg fs.toArray, .agg ls.toArray] w fun e w' => e = .returned (.bool true) ∧ Below w.heap.size w w' := by
  have hT := h
  obtain ⟨la, lc, rfl, hn, hr⟩ := h
  have hF := hf
  obtain ⟨va, vc, na, nc, rfl, hsrc, hdst, hv, hno⟩ := hf
  obtain ⟨rfl, hl1, hl2, hl3⟩ := hl
  obtain ⟨i0, hi, hz0, hz1', hz2⟩ := info_parts link_info
  have hfd := fault_err
  go_enter Try.func5, Try.ntmps5
  go_wp2_with fail
  refine (alive_c _).mono ?_
  rintro e w1 ⟨rfl, hb1⟩
  have hB1 : Below w.heap.size w w1 := Below.trans (by (repeat' (first | with_reducible exact Below.refl _ _ | with_reducible assumption | with_reducible refine Below.drew ?_ | with_reducible refine Below_drewN ?_ _ | with_reducible refine Below.alloc ?_ ?_ _ | with_reducible refine Below.setCell ?_ ?_ _ | omega | (simp; done) | (simp; omega)))) (hb1.mono (by simp; omega))
  have hT1 : blockIs w1 w.heap.size 24 #[.int .i64 t.n, .slice la t.links.length lc] := (((blockIs.new rfl).alloc _).alloc _).under hb1
  have hF1 : blockIs w1 (w.heap.size + 1) 27 #[.int .i64 f.src, .int .i64 f.dst, .slice va f.via.length vc, .slice na f.no.length nc] := ((blockIs.new (by simp)).alloc _).under hb1
  have hL1 : blockIs w1 (w.heap.size + 2) 38 #[.int .i64 l.a, .int .i64 l.b, .int .i64 l.cost] := (blockIs.new (by simp)).under hb1
  obtain ⟨t1, t2⟩ := hT1.cells
  have hz1 := hL1.lt
  clear hb1
  go_wp2
  clear t1 t2
  have hT2 := (hT1.alloc (.cells #[.int .i64 t.n, .slice la t.links.length lc] 24)).drew
  have hF2 := (hF1.alloc (.cells #[.int .i64 t.n, .slice la t.links.length lc] 24)).drew
  have hL2 := (hL1.alloc (.cells #[.int .i64 t.n, .slice la t.links.length lc] 24)).drew
  have hU2 : blockIs (w1.alloc (.cells #[.int .i64 t.n, .slice la t.links.length lc] 24)).drew w1.heap.size 24 #[.int .i64 t.n, .slice la t.links.length lc] := (blockIs.new rfl).drew
  have hB2 : Below w.heap.size w (w1.alloc (.cells #[.int .i64 t.n, .slice la t.links.length lc] 24)).drew := by have := hB1.size; (repeat' (first | with_reducible exact Below.refl _ _ | with_reducible assumption | with_reducible refine Below.drew ?_ | with_reducible refine Below_drewN ?_ _ | with_reducible refine Below.alloc ?_ ?_ _ | with_reducible refine Below.setCell ?_ ?_ _ | omega | (simp; done) | (simp; omega)))
  refine wp_region_K (SM w.heap.size (w.heap.size + 1 + 1) t.n la t.links.length lc l) 8 (by kernel_rfl) ?_
  clear hB1 hT1 hF1 hL1
  generalize (w1.alloc (.cells #[.int .i64 t.n, .slice la t.links.length lc] 24)).drew = wa at *
  have hS : SM w.heap.size (w.heap.size + 1 + 1) t.n la t.links.length lc l wa := SM.of hT2 hL2
  refine wpAnyK_take (i := 1) (.pointer (some ⟨w.heap.size, 1, none⟩)) rfl (by kernel_rfl) (fun _ _ _ h => h) hS (yields_value (by kernel_rfl) (by intro w0 hw0; have hw1 := hw0; simp only [SM] at hw1; go_simp)) ?_; simp only [Act.put, List.getElem_toArray, List.getElem_cons_succ, List.getElem_cons_zero, List.setIfInBounds_toArray, List.set_cons_succ, List.set_cons_zero]
  refine wpAnyK_take (i := 2) (.slice la t.links.length lc) rfl (by kernel_rfl) (fun _ _ _ h => h) hS (yields_value (by kernel_rfl) (by intro w0 hw0; have hw1 := hw0; simp only [SM] at hw1; go_simp)) ?_; simp only [Act.put, List.getElem_toArray, List.getElem_cons_succ, List.getElem_cons_zero, List.setIfInBounds_toArray, List.set_cons_succ, List.set_cons_zero]
  refine wpAnyK_take (i := 4) (.agg #[.int .i64 l.a, .int .i64 l.b, .int .i64 l.cost]) rfl (by kernel_rfl) (fun _ _ _ h => h) hS (yields_value (by kernel_rfl) (by intro w0 hw0; have hw1 := hw0; simp only [SM] at hw1; go_simp)) ?_; simp only [Act.put, List.getElem_toArray, List.getElem_cons_succ, List.getElem_cons_zero, List.setIfInBounds_toArray, List.set_cons_succ, List.set_cons_zero]
  clear hS
  have hb : Below wa.heap.size wa wa := Below.refl _ _
  have hR2 := hr.below hB2
  have hTl := hT2.lt
  have hLl := hL2.lt
  have hUl := hU2.lt
  have hFl := hF2.lt
  refine wpAnyK_two (i := 0) (j := 5) rfl rfl (by kernel_rfl) (by kernel_rfl) (by kernel_rfl) (fun K0 hK0 => ?_) (fun K5 hK5 => ?_)
  · go_simp
    go_wp2_with fail
    have hb1 : Below wa.heap.size wa (wa.alloc (.cells #[] 38)) := hb.trans (by have := hb.size; (repeat' (first | with_reducible exact Below.refl _ _ | with_reducible assumption | with_reducible refine Below.drew ?_ | with_reducible refine Below_drewN ?_ _ | with_reducible refine Below.alloc ?_ ?_ _ | with_reducible refine Below.setCell ?_ ?_ _ | omega | (simp; done) | (simp; omega))))
    have ho1 : ownR linkS 38 (fun _ => False) wa.heap.size (wa.alloc (.cells #[] 38)) (some ⟨wa.heap.size, 0, none⟩) 0 0 [] := ownR.lit (cs := []) rfl rfl (hb.size) (by simp only [maxLen]; omega) (by simp) (fun _ h => h.elim)
    refine hK0 _ _ (fun _ => (SM.of (hT2.below hb1 hTl) (hL2.below hb1 hLl))) ?_
    clear hK0
    generalize wa.alloc (.cells #[] 38) = wx1 at *
    refine wpAnyK_two (i := 3) (j := 5) rfl rfl (by kernel_rfl) (by kernel_rfl) (by kernel_rfl) (fun K3 hK3 => ?_) (fun K5 hK5 => ?_)
    · refine wp_appR (sh := linkS) (.tmp 19) (.tmp 21) 22 (by rfl) 38 i0 (.agg #[.int .i64 0, .int .i64 0, .int .i64 0]) 24 Try.underlying22 hi hz0 hz1' hz2 rfl (by decide) (ok := fun _ => False) (base := wa.heap.size) (by rfl) ho1 (by rfl) rfl (links_src (hR2.below hb1).src) (by simp only [maxLen]; omega) (by omega) hb1.size ?_
      intro ao2 cap2 wx2 ho2 hg2 hlie2
      have hb2 : Below wa.heap.size wa wx2 := hb1.trans (grown_below (B := wa.heap.size) hg2 (fun k hk => (ho1.lt k hk).1) hb1.size)
      simp only [Nat.zero_add, List.nil_append] at ho2
      simp only [Nat.zero_add, Act.put, List.getElem_toArray, List.getElem_cons_succ, List.getElem_cons_zero, List.setIfInBounds_toArray, List.set_cons_succ, List.set_cons_zero]
      refine hK3 _ _ (fun _ => (SM.of (hT2.below hb2 hTl) (hL2.below hb2 hLl))) ?_
      clear hK3
      refine wpAnyK_call (i := 5) rfl (by kernel_rfl) (by kernel_rfl) fun K5 hK5 => ?_
      go_simp
      go_wp2_with fail
      have hb3 : Below wa.heap.size wa (wx2.alloc (.cells #[.int .i64 l.a, .int .i64 l.b, .int .i64 l.cost] 38)) := hb2.trans (by have := hb2.size; (repeat' (first | with_reducible exact Below.refl _ _ | with_reducible assumption | with_reducible refine Below.drew ?_ | with_reducible refine Below_drewN ?_ _ | with_reducible refine Below.alloc ?_ ?_ _ | with_reducible refine Below.setCell ?_ ?_ _ | omega | (simp; done) | (simp; omega))))
      have hs3 : blockIs (wx2.alloc (.cells #[.int .i64 l.a, .int .i64 l.b, .int .i64 l.cost] 38)) wx2.heap.size 38 #[.int .i64 l.a, .int .i64 l.b, .int .i64 l.cost] := blockIs.new rfl
      have hd3 := ho2.alloc (.cells #[.int .i64 l.a, .int .i64 l.b, .int .i64 l.cost] 38)
      have hx3 : some wx2.heap.size ≠ blk ao2 := fun e => by have := (ho2.lt _ e.symm).2; omega
      refine hK5 _ _ (fun _ => (SM.of (hT2.below hb3 hTl) (hL2.below hb3 hLl))) ?_
      clear hK5
      generalize wx2.alloc (.cells #[.int .i64 l.a, .int .i64 l.b, .int .i64 l.cost] 38) = wx3 at *
      refine wpAnyK_call (i := 6) rfl (by kernel_rfl) (by kernel_rfl) fun K6 hK6 => ?_
      refine wp_appR (sh := linkS) (n := t.links.length) (m := 1) (.tmp 22) (.tmp 24) 22 (by rfl) 38 i0 (.agg #[.int .i64 0, .int .i64 0, .int .i64 0]) 24 Try.underlying22 hi hz0 hz1' hz2 rfl (by decide) (ok := fun _ => False) (base := wa.heap.size) (by rfl) hd3 (by rfl) rfl (link_src hs3 hl1 hl2 hl3) (by simp only [maxLen]; omega) (by omega) hb3.size ?_
      intro aoz capz wz hoz hgz hliez
      have hbz : Below wa.heap.size wa wz := hb3.trans (grown_below (B := wa.heap.size) hgz (fun k hk => (hd3.lt k hk).1) hb3.size)
      simp only [Nat.zero_add, Act.put, List.getElem_toArray, List.getElem_cons_succ, List.getElem_cons_zero, List.setIfInBounds_toArray, List.set_cons_succ, List.set_cons_zero]
      refine hK6 _ _ (fun _ => (SM.of (hT2.below hbz hTl) (hL2.below hbz hLl))) ?_
      clear hK6
      have hS := (SM.of (hT2.below hbz hTl) (hL2.below hbz hLl))
      refine wpAnyK_take (i := 7) (.pointer (some ⟨w1.heap.size, 1, none⟩)) rfl (by kernel_rfl) (fun _ _ _ h => h) hS (yields_value (by kernel_rfl) (by intro w0 hw0; have hw1 := hw0; simp only [SM] at hw1; go_simp)) ?_; simp only [Act.put, List.getElem_toArray, List.getElem_cons_succ, List.getElem_cons_zero, List.setIfInBounds_toArray, List.set_cons_succ, List.set_cons_zero]
      refine wpAnyK_call (i := 8) rfl (by kernel_rfl) (by kernel_rfl) fun K8 hK8 => ?_
      obtain ⟨u1, u2⟩ := (hU2.below hbz hUl).cells
      clear hS hliez
      go_simp
      go_wp2_with fail
      refine hK8 _ _ (fun h => absurd rfl h) ?_
      refine wpAnyK_done (by kernel_rfl) ?_ _
      clear u1 u2 hK8
      have hB4 : Below w.heap.size w (wz.setCell ⟨w1.heap.size, 1, none⟩ (.slice aoz (t.links.length + 1) capz)) := (hB2.trans (hbz.mono (by omega))).setCell (by simp; omega) _
      have hU4 : blockIs (wz.setCell ⟨w1.heap.size, 1, none⟩ (.slice aoz (t.links.length + 1) capz)) w1.heap.size 24 #[.int .i64 t.n, .slice aoz (t.links.length + 1) capz] := (hU2.below hbz hUl).set 1 _
      have hT4 : blockIs (wz.setCell ⟨w1.heap.size, 1, none⟩ (.slice aoz (t.links.length + 1) capz)) w.heap.size 24 #[.int .i64 t.n, .slice la t.links.length lc] := (hT2.below hbz hTl).setOther (by simp; omega) _
      have hF4 : blockIs (wz.setCell ⟨w1.heap.size, 1, none⟩ (.slice aoz (t.links.length + 1) capz)) (w.heap.size + 1) 27 #[.int .i64 f.src, .int .i64 f.dst, .slice va f.via.length vc, .slice na f.no.length nc] := (hF2.below hbz hFl).setOther (by simp; omega) _
      have hR4 : topoS.rep (fun _ => True) (wz.setCell ⟨w1.heap.size, 1, none⟩ (.slice aoz (t.links.length + 1) capz)) [.int .i64 t.n, .slice aoz (t.links.length + 1) capz] ⟨t.n, t.links ++ [l]⟩ := ⟨aoz, capz, by simp, hn, (hoz.keep (by simp [World.setCell]) (fun k hk => Below.heap_setCell _ _ _ _ (Nat.ne_of_gt (Nat.lt_of_lt_of_le hUl (hoz.lt k (hk.resolve_right id)).1)))).row (fun _ h => h.elim) (fun _ _ => trivial)⟩
      generalize wz.setCell ⟨w1.heap.size, 1, none⟩ (.slice aoz (t.links.length + 1) capz) = w4 at *
      clear hbz hoz hgz  hb hR2 hT2 hL2 hF2 hU2 hB2 hTl hLl hUl hFl
      obtain ⟨t1, t2⟩ := hT4.cells
      obtain ⟨f1, f2⟩ := hF4.cells
      have hUl := hU4.lt
      have hz4 := hB4.size
      go_wp2_with fail
      refine (find_c t f _ _ ok ok' _ (topoS.below hT (hB4.trans (by (repeat' (first | with_reducible exact Below.refl _ _ | with_reducible assumption | with_reducible refine Below.drew ?_ | with_reducible refine Below_drewN ?_ _ | with_reducible refine Below.alloc ?_ ?_ _ | with_reducible refine Below.setCell ?_ ?_ _ | omega | (simp; done) | (simp; omega)))))) (flowS.below hF (hB4.trans (by (repeat' (first | with_reducible exact Below.refl _ _ | with_reducible assumption | with_reducible refine Below.drew ?_ | with_reducible refine Below_drewN ?_ _ | with_reducible refine Below.alloc ?_ ?_ _ | with_reducible refine Below.setCell ?_ ?_ _ | omega | (simp; done) | (simp; omega))))))).mono ?_
      rintro e w5 ⟨ao5, cap5, rfl, hp5, hb5⟩
      have hB5 : Below w.heap.size w w5 := hB4.trans (hb5.mono (by omega))
      have hU5 := hU4.under hb5
      have hT5 := hT4.under hb5
      have hF5 := hF4.under hb5
      have hR5 := topoS.below hR4 hb5
      clear t1 t2 f1 f2 hb5 hU4 hT4 hF4 hR4 hB4
      obtain ⟨u1, u2⟩ := hU5.cells
      obtain ⟨f1, f2⟩ := hF5.cells
      have hz5 := hB5.size
      have hUl5 := hU5.lt
      go_wp2_with fail
      refine (find_c ⟨t.n, t.links ++ [l]⟩ f _ _ (fun _ => True) ok' _ hR5 (flowS.below hF (hB5.trans (by (repeat' (first | with_reducible exact Below.refl _ _ | with_reducible assumption | with_reducible refine Below.drew ?_ | with_reducible refine Below_drewN ?_ _ | with_reducible refine Below.alloc ?_ ?_ _ | with_reducible refine Below.setCell ?_ ?_ _ | omega | (simp; done) | (simp; omega))))))).mono ?_
      rintro e w6 ⟨ao6, cap6, rfl, hp6, hb6⟩
      have hB6 : Below w.heap.size w w6 := hB5.trans (hb6.mono (by omega))
      have hU6 := hU5.under hb6
      have hT6 := hT5.under hb6
      have hR6 := topoS.below hR5 hb6
      have hp56 := hp5.below hb6
      clear f1 f2 u1 u2 hb6 hU5 hT5 hF5 hR5 hp5 hB5
      obtain ⟨u1, u2⟩ := hU6.cells
      obtain ⟨t1, t2⟩ := hT6.cells
      have hz6 := hB6.size
      by_cases h2 : (findOf t f).2 = 0
      case neg =>
        have h2' : ((findOf t f).2 != 0) = true := by rw [bne_iff_ne]; exact h2
        clear h2 hp56 hp6
        generalize findOf t f = pe at *
        generalize findOf ⟨t.n, t.links ++ [l]⟩ f = qe at *
        go_wp2
        go_ret; exact ⟨rfl, by (repeat' (first | with_reducible exact Below.refl _ _ | with_reducible assumption | with_reducible refine Below.drew ?_ | with_reducible refine Below_drewN ?_ _ | with_reducible refine Below.alloc ?_ ?_ _ | with_reducible refine Below.setCell ?_ ?_ _ | omega | (simp; done) | (simp; omega)))⟩
      by_cases h3 : (topoWrong ⟨t.n, t.links ++ [l]⟩).1 = 0
      case neg =>
        rw [h2]
        have h3' : ((topoWrong ⟨t.n, t.links ++ [l]⟩).1 != 0) = true := by rw [bne_iff_ne]; exact h3
        clear h2 h3 hp56 hp6
        generalize findOf t f = pe at *
        generalize findOf ⟨t.n, t.links ++ [l]⟩ f = qe at *
        go_wp2_with fail
        refine (topoWrong_c ⟨t.n, t.links ++ [l]⟩ _ (fun _ => True) _ hR6).mono ?_
        rintro e w7 ⟨rfl, hb7⟩
        have hB7 : Below w.heap.size w w7 := hB6.trans (hb7.mono (by omega))
        clear u1 u2 t1 t2 hb7 hR6
        generalize topoWrong ⟨t.n, t.links ++ [l]⟩ = we at *
        go_wp2
        go_ret; exact ⟨rfl, by (repeat' (first | with_reducible exact Below.refl _ _ | with_reducible assumption | with_reducible refine Below.drew ?_ | with_reducible refine Below_drewN ?_ _ | with_reducible refine Below.alloc ?_ ?_ _ | with_reducible refine Below.setCell ?_ ?_ _ | omega | (simp; done) | (simp; omega)))⟩
      obtain ⟨m1, m2, m3, m4⟩ := more_cost l h2 h3
      rw [h2, m1]
      generalize hu : (⟨t.n, t.links ++ [l]⟩ : Topo) = u at *
      generalize (findOf t f).1 = p at *
      generalize (findOf u f).1 = q at *
      generalize pathCost t p = a at *
      generalize pathCost u q = b at *
      have hP1 := Lib.hid m2
      have hP2 := Lib.hid m3
      have hP3 := Lib.hid h3
      have hUU := Lib.hid hu
      clear h2 h3 m1 m2 m3 hu
      go_wp2_with fail
      refine (topoWrong_c u _ (fun _ => True) _ hR6).mono ?_
      rintro e w7 ⟨rfl, hb7⟩
      rw [hP3.out]
      have hB7 : Below w.heap.size w w7 := hB6.trans (hb7.mono (by omega))
      have hT7 := hT6.under hb7
      have hU7 := hU6.under hb7
      have hR7 := topoS.below hR6 hb7
      have hp57 := hp56.below hb7
      have hp7 := hp6.below hb7
      clear u1 u2 t1 t2 hb7 hR6 hT6 hU6 hp56 hp6 hB6
      obtain ⟨t1, t2⟩ := hT7.cells
      have hz7 := hB7.size
      go_wp2_with fail
      refine (length_c t p _ ok (fun _ => True) ao5 cap5 _ (topoS.below hT (hB7.trans (by (repeat' (first | with_reducible exact Below.refl _ _ | with_reducible assumption | with_reducible refine Below.drew ?_ | with_reducible refine Below_drewN ?_ _ | with_reducible refine Below.alloc ?_ ?_ _ | with_reducible refine Below.setCell ?_ ?_ _ | omega | (simp; done) | (simp; omega)))))) (hp57.below (by (repeat' (first | with_reducible exact Below.refl _ _ | with_reducible assumption | with_reducible refine Below.drew ?_ | with_reducible refine Below_drewN ?_ _ | with_reducible refine Below.alloc ?_ ?_ _ | with_reducible refine Below.setCell ?_ ?_ _ | omega | (simp; done) | (simp; omega)))))).mono ?_
      rw [hP1.out]
      rintro e w8 ⟨rfl, hb8⟩
      have hB8 : Below w.heap.size w w8 := hB7.trans (hb8.mono (by first | omega | (simp; done) | (simp; omega)))
      have hb78 : Below w7.heap.size w7 w8 := hb8.mono (by first | omega | (simp; done) | (simp; omega))
      have hU8 := hU7.under hb78
      have hR8 := topoS.below hR7 hb78
      have hp8 := hp7.below hb78
      clear t1 t2 hb8 hb78 hR7 hT7 hU7 hp57 hp7 hB7
      obtain ⟨u1, u2⟩ := hU8.cells
      have hz8 := hB8.size
      go_wp2_with fail
      refine (length_c u q _ (fun _ => True) (fun _ => True) ao6 cap6 _ hR8 hp8).mono ?_
      rw [hP2.out]
      rintro e w9 ⟨rfl, hb9⟩
      have hB9 : Below w.heap.size w w9 := hB8.trans (hb9.mono (by omega))
      clear u1 u2 hb9 hR8 hU8 hp8 hB8
      go_wp2
      go_ret; exact ⟨by first | rfl | exact ret_bool (by simp; omega), by (repeat' (first | with_reducible exact Below.refl _ _ | with_reducible assumption | with_reducible refine Below.drew ?_ | with_reducible refine Below_drewN ?_ _ | with_reducible refine Below.alloc ?_ ?_ _ | with_reducible refine Below.setCell ?_ ?_ _ | omega | (simp; done) | (simp; omega)))⟩
    · go_simp
      go_wp2_with fail
      have hb5 : Below wa.heap.size wa (wx1.alloc (.cells #[.int .i64 l.a, .int .i64 l.b, .int .i64 l.cost] 38)) := hb1.trans (by have := hb1.size; (repeat' (first | with_reducible exact Below.refl _ _ | with_reducible assumption | with_reducible refine Below.drew ?_ | with_reducible refine Below_drewN ?_ _ | with_reducible refine Below.alloc ?_ ?_ _ | with_reducible refine Below.setCell ?_ ?_ _ | omega | (simp; done) | (simp; omega))))
      have hs5 : blockIs (wx1.alloc (.cells #[.int .i64 l.a, .int .i64 l.b, .int .i64 l.cost] 38)) wx1.heap.size 38 #[.int .i64 l.a, .int .i64 l.b, .int .i64 l.cost] := blockIs.new rfl
      have hd5 := ho1.alloc (.cells #[.int .i64 l.a, .int .i64 l.b, .int .i64 l.cost] 38)
      have hx5 : some wx1.heap.size ≠ blk (some ⟨wa.heap.size, 0, none⟩) := fun e => by have := (ho1.lt _ e.symm).2; omega
      refine hK5 _ _ (fun _ => (SM.of (hT2.below hb5 hTl) (hL2.below hb5 hLl))) ?_
      clear hK5
      generalize wx1.alloc (.cells #[.int .i64 l.a, .int .i64 l.b, .int .i64 l.cost] 38) = wx5 at *
      refine wpAnyK_call (i := 3) rfl (by kernel_rfl) (by kernel_rfl) fun K3 hK3 => ?_
      refine wp_appR (sh := linkS) (.tmp 19) (.tmp 21) 22 (by rfl) 38 i0 (.agg #[.int .i64 0, .int .i64 0, .int .i64 0]) 24 Try.underlying22 hi hz0 hz1' hz2 rfl (by decide) (ok := fun _ => False) (base := wa.heap.size) (by rfl) hd5 (by rfl) rfl (links_src (hR2.below hb5).src) (by simp only [maxLen]; omega) (by omega) hb5.size ?_
      intro ao6 cap6 wx6 ho6 hg6 hlie6
      have hb6 : Below wa.heap.size wa wx6 := hb5.trans (grown_below (B := wa.heap.size) hg6 (fun k hk => (hd5.lt k hk).1) hb5.size)
      simp only [Nat.zero_add, List.nil_append] at ho6
      have hs6 := hs5.grown hg6 hx5
      have hx6 : some wx1.heap.size ≠ blk ao6 := fun e => by rcases hlie6 with h | h <;> rw [h] at e; exact hx5 e; exact absurd hs5.lt (by simp at e; omega)
      simp only [Nat.zero_add, Act.put, List.getElem_toArray, List.getElem_cons_succ, List.getElem_cons_zero, List.setIfInBounds_toArray, List.set_cons_succ, List.set_cons_zero]
      refine hK3 _ _ (fun _ => (SM.of (hT2.below hb6 hTl) (hL2.below hb6 hLl))) ?_
      clear hK3
      refine wpAnyK_call (i := 6) rfl (by kernel_rfl) (by kernel_rfl) fun K6 hK6 => ?_
      refine wp_appR (sh := linkS) (n := t.links.length) (m := 1) (.tmp 22) (.tmp 24) 22 (by rfl) 38 i0 (.agg #[.int .i64 0, .int .i64 0, .int .i64 0]) 24 Try.underlying22 hi hz0 hz1' hz2 rfl (by decide) (ok := fun _ => False) (base := wa.heap.size) (by rfl) ho6 (by rfl) rfl (link_src hs6 hl1 hl2 hl3) (by simp only [maxLen]; omega) (by omega) hb6.size ?_
      intro aoz capz wz hoz hgz hliez
      have hbz : Below wa.heap.size wa wz := hb6.trans (grown_below (B := wa.heap.size) hgz (fun k hk => (ho6.lt k hk).1) hb6.size)
      simp only [Nat.zero_add, Act.put, List.getElem_toArray, List.getElem_cons_succ, List.getElem_cons_zero, List.setIfInBounds_toArray, List.set_cons_succ, List.set_cons_zero]
      refine hK6 _ _ (fun _ => (SM.of (hT2.below hbz hTl) (hL2.below hbz hLl))) ?_
      clear hK6
      have hS := (SM.of (hT2.below hbz hTl) (hL2.below hbz hLl))
      refine wpAnyK_take (i := 7) (.pointer (some ⟨w1.heap.size, 1, none⟩)) rfl (by kernel_rfl) (fun _ _ _ h => h) hS (yields_value (by kernel_rfl) (by intro w0 hw0; have hw1 := hw0; simp only [SM] at hw1; go_simp)) ?_; simp only [Act.put, List.getElem_toArray, List.getElem_cons_succ, List.getElem_cons_zero, List.setIfInBounds_toArray, List.set_cons_succ, List.set_cons_zero]
      refine wpAnyK_call (i := 8) rfl (by kernel_rfl) (by kernel_rfl) fun K8 hK8 => ?_
      obtain ⟨u1, u2⟩ := (hU2.below hbz hUl).cells
      clear hS hliez
      go_simp
      go_wp2_with fail
      refine hK8 _ _ (fun h => absurd rfl h) ?_
      refine wpAnyK_done (by kernel_rfl) ?_ _
      clear u1 u2 hK8
      have hB4 : Below w.heap.size w (wz.setCell ⟨w1.heap.size, 1, none⟩ (.slice aoz (t.links.length + 1) capz)) := (hB2.trans (hbz.mono (by omega))).setCell (by simp; omega) _
      have hU4 : blockIs (wz.setCell ⟨w1.heap.size, 1, none⟩ (.slice aoz (t.links.length + 1) capz)) w1.heap.size 24 #[.int .i64 t.n, .slice aoz (t.links.length + 1) capz] := (hU2.below hbz hUl).set 1 _
      have hT4 : blockIs (wz.setCell ⟨w1.heap.size, 1, none⟩ (.slice aoz (t.links.length + 1) capz)) w.heap.size 24 #[.int .i64 t.n, .slice la t.links.length lc] := (hT2.below hbz hTl).setOther (by simp; omega) _
      have hF4 : blockIs (wz.setCell ⟨w1.heap.size, 1, none⟩ (.slice aoz (t.links.length + 1) capz)) (w.heap.size + 1) 27 #[.int .i64 f.src, .int .i64 f.dst, .slice va f.via.length vc, .slice na f.no.length nc] := (hF2.below hbz hFl).setOther (by simp; omega) _
      have hR4 : topoS.rep (fun _ => True) (wz.setCell ⟨w1.heap.size, 1, none⟩ (.slice aoz (t.links.length + 1) capz)) [.int .i64 t.n, .slice aoz (t.links.length + 1) capz] ⟨t.n, t.links ++ [l]⟩ := ⟨aoz, capz, by simp, hn, (hoz.keep (by simp [World.setCell]) (fun k hk => Below.heap_setCell _ _ _ _ (Nat.ne_of_gt (Nat.lt_of_lt_of_le hUl (hoz.lt k (hk.resolve_right id)).1)))).row (fun _ h => h.elim) (fun _ _ => trivial)⟩
      generalize wz.setCell ⟨w1.heap.size, 1, none⟩ (.slice aoz (t.links.length + 1) capz) = w4 at *
      clear hbz hoz hgz  hb hR2 hT2 hL2 hF2 hU2 hB2 hTl hLl hUl hFl
      obtain ⟨t1, t2⟩ := hT4.cells
      obtain ⟨f1, f2⟩ := hF4.cells
      have hUl := hU4.lt
      have hz4 := hB4.size
      go_wp2_with fail
      refine (find_c t f _ _ ok ok' _ (topoS.below hT (hB4.trans (by (repeat' (first | with_reducible exact Below.refl _ _ | with_reducible assumption | with_reducible refine Below.drew ?_ | with_reducible refine Below_drewN ?_ _ | with_reducible refine Below.alloc ?_ ?_ _ | with_reducible refine Below.setCell ?_ ?_ _ | omega | (simp; done) | (simp; omega)))))) (flowS.below hF (hB4.trans (by (repeat' (first | with_reducible exact Below.refl _ _ | with_reducible assumption | with_reducible refine Below.drew ?_ | with_reducible refine Below_drewN ?_ _ | with_reducible refine Below.alloc ?_ ?_ _ | with_reducible refine Below.setCell ?_ ?_ _ | omega | (simp; done) | (simp; omega))))))).mono ?_
      rintro e w5 ⟨ao5, cap5, rfl, hp5, hb5⟩
      have hB5 : Below w.heap.size w w5 := hB4.trans (hb5.mono (by omega))
      have hU5 := hU4.under hb5
      have hT5 := hT4.under hb5
      have hF5 := hF4.under hb5
      have hR5 := topoS.below hR4 hb5
      clear t1 t2 f1 f2 hb5 hU4 hT4 hF4 hR4 hB4
      obtain ⟨u1, u2⟩ := hU5.cells
      obtain ⟨f1, f2⟩ := hF5.cells
      have hz5 := hB5.size
      have hUl5 := hU5.lt
      go_wp2_with fail
      refine (find_c ⟨t.n, t.links ++ [l]⟩ f _ _ (fun _ => True) ok' _ hR5 (flowS.below hF (hB5.trans (by (repeat' (first | with_reducible exact Below.refl _ _ | with_reducible assumption | with_reducible refine Below.drew ?_ | with_reducible refine Below_drewN ?_ _ | with_reducible refine Below.alloc ?_ ?_ _ | with_reducible refine Below.setCell ?_ ?_ _ | omega | (simp; done) | (simp; omega))))))).mono ?_
      rintro e w6 ⟨ao6, cap6, rfl, hp6, hb6⟩
      have hB6 : Below w.heap.size w w6 := hB5.trans (hb6.mono (by omega))
      have hU6 := hU5.under hb6
      have hT6 := hT5.under hb6
      have hR6 := topoS.below hR5 hb6
      have hp56 := hp5.below hb6
      clear f1 f2 u1 u2 hb6 hU5 hT5 hF5 hR5 hp5 hB5
      obtain ⟨u1, u2⟩ := hU6.cells
      obtain ⟨t1, t2⟩ := hT6.cells
      have hz6 := hB6.size
      by_cases h2 : (findOf t f).2 = 0
      case neg =>
        have h2' : ((findOf t f).2 != 0) = true := by rw [bne_iff_ne]; exact h2
        clear h2 hp56 hp6
        generalize findOf t f = pe at *
        generalize findOf ⟨t.n, t.links ++ [l]⟩ f = qe at *
        go_wp2
        go_ret; exact ⟨rfl, by (repeat' (first | with_reducible exact Below.refl _ _ | with_reducible assumption | with_reducible refine Below.drew ?_ | with_reducible refine Below_drewN ?_ _ | with_reducible refine Below.alloc ?_ ?_ _ | with_reducible refine Below.setCell ?_ ?_ _ | omega | (simp; done) | (simp; omega)))⟩
      by_cases h3 : (topoWrong ⟨t.n, t.links ++ [l]⟩).1 = 0
      case neg =>
        rw [h2]
        have h3' : ((topoWrong ⟨t.n, t.links ++ [l]⟩).1 != 0) = true := by rw [bne_iff_ne]; exact h3
        clear h2 h3 hp56 hp6
        generalize findOf t f = pe at *
        generalize findOf ⟨t.n, t.links ++ [l]⟩ f = qe at *
        go_wp2_with fail
        refine (topoWrong_c ⟨t.n, t.links ++ [l]⟩ _ (fun _ => True) _ hR6).mono ?_
        rintro e w7 ⟨rfl, hb7⟩
        have hB7 : Below w.heap.size w w7 := hB6.trans (hb7.mono (by omega))
        clear u1 u2 t1 t2 hb7 hR6
        generalize topoWrong ⟨t.n, t.links ++ [l]⟩ = we at *
        go_wp2
        go_ret; exact ⟨rfl, by (repeat' (first | with_reducible exact Below.refl _ _ | with_reducible assumption | with_reducible refine Below.drew ?_ | with_reducible refine Below_drewN ?_ _ | with_reducible refine Below.alloc ?_ ?_ _ | with_reducible refine Below.setCell ?_ ?_ _ | omega | (simp; done) | (simp; omega)))⟩
      obtain ⟨m1, m2, m3, m4⟩ := more_cost l h2 h3
      rw [h2, m1]
      generalize hu : (⟨t.n, t.links ++ [l]⟩ : Topo) = u at *
      generalize (findOf t f).1 = p at *
      generalize (findOf u f).1 = q at *
      generalize pathCost t p = a at *
      generalize pathCost u q = b at *
      have hP1 := Lib.hid m2
      have hP2 := Lib.hid m3
      have hP3 := Lib.hid h3
      have hUU := Lib.hid hu
      clear h2 h3 m1 m2 m3 hu
      go_wp2_with fail
      refine (topoWrong_c u _ (fun _ => True) _ hR6).mono ?_
      rintro e w7 ⟨rfl, hb7⟩
      rw [hP3.out]
      have hB7 : Below w.heap.size w w7 := hB6.trans (hb7.mono (by omega))
      have hT7 := hT6.under hb7
      have hU7 := hU6.under hb7
      have hR7 := topoS.below hR6 hb7
      have hp57 := hp56.below hb7
      have hp7 := hp6.below hb7
      clear u1 u2 t1 t2 hb7 hR6 hT6 hU6 hp56 hp6 hB6
      obtain ⟨t1, t2⟩ := hT7.cells
      have hz7 := hB7.size
      go_wp2_with fail
      refine (length_c t p _ ok (fun _ => True) ao5 cap5 _ (topoS.below hT (hB7.trans (by (repeat' (first | with_reducible exact Below.refl _ _ | with_reducible assumption | with_reducible refine Below.drew ?_ | with_reducible refine Below_drewN ?_ _ | with_reducible refine Below.alloc ?_ ?_ _ | with_reducible refine Below.setCell ?_ ?_ _ | omega | (simp; done) | (simp; omega)))))) (hp57.below (by (repeat' (first | with_reducible exact Below.refl _ _ | with_reducible assumption | with_reducible refine Below.drew ?_ | with_reducible refine Below_drewN ?_ _ | with_reducible refine Below.alloc ?_ ?_ _ | with_reducible refine Below.setCell ?_ ?_ _ | omega | (simp; done) | (simp; omega)))))).mono ?_
      rw [hP1.out]
      rintro e w8 ⟨rfl, hb8⟩
      have hB8 : Below w.heap.size w w8 := hB7.trans (hb8.mono (by first | omega | (simp; done) | (simp; omega)))
      have hb78 : Below w7.heap.size w7 w8 := hb8.mono (by first | omega | (simp; done) | (simp; omega))
      have hU8 := hU7.under hb78
      have hR8 := topoS.below hR7 hb78
      have hp8 := hp7.below hb78
      clear t1 t2 hb8 hb78 hR7 hT7 hU7 hp57 hp7 hB7
      obtain ⟨u1, u2⟩ := hU8.cells
      have hz8 := hB8.size
      go_wp2_with fail
      refine (length_c u q _ (fun _ => True) (fun _ => True) ao6 cap6 _ hR8 hp8).mono ?_
      rw [hP2.out]
      rintro e w9 ⟨rfl, hb9⟩
      have hB9 : Below w.heap.size w w9 := hB8.trans (hb9.mono (by omega))
      clear u1 u2 hb9 hR8 hU8 hp8 hB8
      go_wp2
      go_ret; exact ⟨by first | rfl | exact ret_bool (by simp; omega), by (repeat' (first | with_reducible exact Below.refl _ _ | with_reducible assumption | with_reducible refine Below.drew ?_ | with_reducible refine Below_drewN ?_ _ | with_reducible refine Below.alloc ?_ ?_ _ | with_reducible refine Below.setCell ?_ ?_ _ | omega | (simp; done) | (simp; omega)))⟩
  · go_simp
    go_wp2_with fail
    have hb8 : Below wa.heap.size wa (wa.alloc (.cells #[.int .i64 l.a, .int .i64 l.b, .int .i64 l.cost] 38)) := hb.trans (by have := hb.size; (repeat' (first | with_reducible exact Below.refl _ _ | with_reducible assumption | with_reducible refine Below.drew ?_ | with_reducible refine Below_drewN ?_ _ | with_reducible refine Below.alloc ?_ ?_ _ | with_reducible refine Below.setCell ?_ ?_ _ | omega | (simp; done) | (simp; omega))))
    have hs8 : blockIs (wa.alloc (.cells #[.int .i64 l.a, .int .i64 l.b, .int .i64 l.cost] 38)) wa.heap.size 38 #[.int .i64 l.a, .int .i64 l.b, .int .i64 l.cost] := blockIs.new rfl
    refine hK5 _ _ (fun _ => (SM.of (hT2.below hb8 hTl) (hL2.below hb8 hLl))) ?_
    clear hK5
    generalize wa.alloc (.cells #[.int .i64 l.a, .int .i64 l.b, .int .i64 l.cost] 38) = wx8 at *
    refine wpAnyK_call (i := 0) rfl (by kernel_rfl) (by kernel_rfl) fun K0 hK0 => ?_
    go_simp
    go_wp2_with fail
    have hb9 : Below wa.heap.size wa (wx8.alloc (.cells #[] 38)) := hb8.trans (by have := hb8.size; (repeat' (first | with_reducible exact Below.refl _ _ | with_reducible assumption | with_reducible refine Below.drew ?_ | with_reducible refine Below_drewN ?_ _ | with_reducible refine Below.alloc ?_ ?_ _ | with_reducible refine Below.setCell ?_ ?_ _ | omega | (simp; done) | (simp; omega))))
    have ho9 : ownR linkS 38 (fun _ => False) wa.heap.size (wx8.alloc (.cells #[] 38)) (some ⟨wx8.heap.size, 0, none⟩) 0 0 [] := ownR.lit (cs := []) rfl rfl (hb8.size) (by simp only [maxLen]; omega) (by simp) (fun _ h => h.elim)
    have hs9 := hs8.alloc (.cells #[] 38)
    have hx9 : some wa.heap.size ≠ blk (some ⟨wx8.heap.size, 0, none⟩) := fun e => by have := hs8.lt; simp [blk] at e; omega
    refine hK0 _ _ (fun _ => (SM.of (hT2.below hb9 hTl) (hL2.below hb9 hLl))) ?_
    clear hK0
    generalize wx8.alloc (.cells #[] 38) = wx9 at *
    refine wpAnyK_call (i := 3) rfl (by kernel_rfl) (by kernel_rfl) fun K3 hK3 => ?_
    refine wp_appR (sh := linkS) (.tmp 19) (.tmp 21) 22 (by rfl) 38 i0 (.agg #[.int .i64 0, .int .i64 0, .int .i64 0]) 24 Try.underlying22 hi hz0 hz1' hz2 rfl (by decide) (ok := fun _ => False) (base := wa.heap.size) (by rfl) ho9 (by rfl) rfl (links_src (hR2.below hb9).src) (by simp only [maxLen]; omega) (by omega) hb9.size ?_
    intro ao10 cap10 wx10 ho10 hg10 hlie10
    have hb10 : Below wa.heap.size wa wx10 := hb9.trans (grown_below (B := wa.heap.size) hg10 (fun k hk => (ho9.lt k hk).1) hb9.size)
    simp only [Nat.zero_add, List.nil_append] at ho10
    have hs10 := hs9.grown hg10 hx9
    have hx10 : some wa.heap.size ≠ blk ao10 := fun e => by rcases hlie10 with h | h <;> rw [h] at e; exact hx9 e; exact absurd hs9.lt (by simp at e; omega)
    simp only [Nat.zero_add, Act.put, List.getElem_toArray, List.getElem_cons_succ, List.getElem_cons_zero, List.setIfInBounds_toArray, List.set_cons_succ, List.set_cons_zero]
    refine hK3 _ _ (fun _ => (SM.of (hT2.below hb10 hTl) (hL2.below hb10 hLl))) ?_
    clear hK3
    refine wpAnyK_call (i := 6) rfl (by kernel_rfl) (by kernel_rfl) fun K6 hK6 => ?_
    refine wp_appR (sh := linkS) (n := t.links.length) (m := 1) (.tmp 22) (.tmp 24) 22 (by rfl) 38 i0 (.agg #[.int .i64 0, .int .i64 0, .int .i64 0]) 24 Try.underlying22 hi hz0 hz1' hz2 rfl (by decide) (ok := fun _ => False) (base := wa.heap.size) (by rfl) ho10 (by rfl) rfl (link_src hs10 hl1 hl2 hl3) (by simp only [maxLen]; omega) (by omega) hb10.size ?_
    intro aoz capz wz hoz hgz hliez
    have hbz : Below wa.heap.size wa wz := hb10.trans (grown_below (B := wa.heap.size) hgz (fun k hk => (ho10.lt k hk).1) hb10.size)
    simp only [Nat.zero_add, Act.put, List.getElem_toArray, List.getElem_cons_succ, List.getElem_cons_zero, List.setIfInBounds_toArray, List.set_cons_succ, List.set_cons_zero]
    refine hK6 _ _ (fun _ => (SM.of (hT2.below hbz hTl) (hL2.below hbz hLl))) ?_
    clear hK6
    have hS := (SM.of (hT2.below hbz hTl) (hL2.below hbz hLl))
    refine wpAnyK_take (i := 7) (.pointer (some ⟨w1.heap.size, 1, none⟩)) rfl (by kernel_rfl) (fun _ _ _ h => h) hS (yields_value (by kernel_rfl) (by intro w0 hw0; have hw1 := hw0; simp only [SM] at hw1; go_simp)) ?_; simp only [Act.put, List.getElem_toArray, List.getElem_cons_succ, List.getElem_cons_zero, List.setIfInBounds_toArray, List.set_cons_succ, List.set_cons_zero]
    refine wpAnyK_call (i := 8) rfl (by kernel_rfl) (by kernel_rfl) fun K8 hK8 => ?_
    obtain ⟨u1, u2⟩ := (hU2.below hbz hUl).cells
    clear hS hliez
    go_simp
    go_wp2_with fail
    refine hK8 _ _ (fun h => absurd rfl h) ?_
    refine wpAnyK_done (by kernel_rfl) ?_ _
    clear u1 u2 hK8
    have hB4 : Below w.heap.size w (wz.setCell ⟨w1.heap.size, 1, none⟩ (.slice aoz (t.links.length + 1) capz)) := (hB2.trans (hbz.mono (by omega))).setCell (by simp; omega) _
    have hU4 : blockIs (wz.setCell ⟨w1.heap.size, 1, none⟩ (.slice aoz (t.links.length + 1) capz)) w1.heap.size 24 #[.int .i64 t.n, .slice aoz (t.links.length + 1) capz] := (hU2.below hbz hUl).set 1 _
    have hT4 : blockIs (wz.setCell ⟨w1.heap.size, 1, none⟩ (.slice aoz (t.links.length + 1) capz)) w.heap.size 24 #[.int .i64 t.n, .slice la t.links.length lc] := (hT2.below hbz hTl).setOther (by simp; omega) _
    have hF4 : blockIs (wz.setCell ⟨w1.heap.size, 1, none⟩ (.slice aoz (t.links.length + 1) capz)) (w.heap.size + 1) 27 #[.int .i64 f.src, .int .i64 f.dst, .slice va f.via.length vc, .slice na f.no.length nc] := (hF2.below hbz hFl).setOther (by simp; omega) _
    have hR4 : topoS.rep (fun _ => True) (wz.setCell ⟨w1.heap.size, 1, none⟩ (.slice aoz (t.links.length + 1) capz)) [.int .i64 t.n, .slice aoz (t.links.length + 1) capz] ⟨t.n, t.links ++ [l]⟩ := ⟨aoz, capz, by simp, hn, (hoz.keep (by simp [World.setCell]) (fun k hk => Below.heap_setCell _ _ _ _ (Nat.ne_of_gt (Nat.lt_of_lt_of_le hUl (hoz.lt k (hk.resolve_right id)).1)))).row (fun _ h => h.elim) (fun _ _ => trivial)⟩
    generalize wz.setCell ⟨w1.heap.size, 1, none⟩ (.slice aoz (t.links.length + 1) capz) = w4 at *
    clear hbz hoz hgz  hb hR2 hT2 hL2 hF2 hU2 hB2 hTl hLl hUl hFl
    obtain ⟨t1, t2⟩ := hT4.cells
    obtain ⟨f1, f2⟩ := hF4.cells
    have hUl := hU4.lt
    have hz4 := hB4.size
    go_wp2_with fail
    refine (find_c t f _ _ ok ok' _ (topoS.below hT (hB4.trans (by (repeat' (first | with_reducible exact Below.refl _ _ | with_reducible assumption | with_reducible refine Below.drew ?_ | with_reducible refine Below_drewN ?_ _ | with_reducible refine Below.alloc ?_ ?_ _ | with_reducible refine Below.setCell ?_ ?_ _ | omega | (simp; done) | (simp; omega)))))) (flowS.below hF (hB4.trans (by (repeat' (first | with_reducible exact Below.refl _ _ | with_reducible assumption | with_reducible refine Below.drew ?_ | with_reducible refine Below_drewN ?_ _ | with_reducible refine Below.alloc ?_ ?_ _ | with_reducible refine Below.setCell ?_ ?_ _ | omega | (simp; done) | (simp; omega))))))).mono ?_
    rintro e w5 ⟨ao5, cap5, rfl, hp5, hb5⟩
    have hB5 : Below w.heap.size w w5 := hB4.trans (hb5.mono (by omega))
    have hU5 := hU4.under hb5
    have hT5 := hT4.under hb5
    have hF5 := hF4.under hb5
    have hR5 := topoS.below hR4 hb5
    clear t1 t2 f1 f2 hb5 hU4 hT4 hF4 hR4 hB4
    obtain ⟨u1, u2⟩ := hU5.cells
    obtain ⟨f1, f2⟩ := hF5.cells
    have hz5 := hB5.size
    have hUl5 := hU5.lt
    go_wp2_with fail
    refine (find_c ⟨t.n, t.links ++ [l]⟩ f _ _ (fun _ => True) ok' _ hR5 (flowS.below hF (hB5.trans (by (repeat' (first | with_reducible exact Below.refl _ _ | with_reducible assumption | with_reducible refine Below.drew ?_ | with_reducible refine Below_drewN ?_ _ | with_reducible refine Below.alloc ?_ ?_ _ | with_reducible refine Below.setCell ?_ ?_ _ | omega | (simp; done) | (simp; omega))))))).mono ?_
    rintro e w6 ⟨ao6, cap6, rfl, hp6, hb6⟩
    have hB6 : Below w.heap.size w w6 := hB5.trans (hb6.mono (by omega))
    have hU6 := hU5.under hb6
    have hT6 := hT5.under hb6
    have hR6 := topoS.below hR5 hb6
    have hp56 := hp5.below hb6
    clear f1 f2 u1 u2 hb6 hU5 hT5 hF5 hR5 hp5 hB5
    obtain ⟨u1, u2⟩ := hU6.cells
    obtain ⟨t1, t2⟩ := hT6.cells
    have hz6 := hB6.size
    by_cases h2 : (findOf t f).2 = 0
    case neg =>
      have h2' : ((findOf t f).2 != 0) = true := by rw [bne_iff_ne]; exact h2
      clear h2 hp56 hp6
      generalize findOf t f = pe at *
      generalize findOf ⟨t.n, t.links ++ [l]⟩ f = qe at *
      go_wp2
      go_ret; exact ⟨rfl, by (repeat' (first | with_reducible exact Below.refl _ _ | with_reducible assumption | with_reducible refine Below.drew ?_ | with_reducible refine Below_drewN ?_ _ | with_reducible refine Below.alloc ?_ ?_ _ | with_reducible refine Below.setCell ?_ ?_ _ | omega | (simp; done) | (simp; omega)))⟩
    by_cases h3 : (topoWrong ⟨t.n, t.links ++ [l]⟩).1 = 0
    case neg =>
      rw [h2]
      have h3' : ((topoWrong ⟨t.n, t.links ++ [l]⟩).1 != 0) = true := by rw [bne_iff_ne]; exact h3
      clear h2 h3 hp56 hp6
      generalize findOf t f = pe at *
      generalize findOf ⟨t.n, t.links ++ [l]⟩ f = qe at *
      go_wp2_with fail
      refine (topoWrong_c ⟨t.n, t.links ++ [l]⟩ _ (fun _ => True) _ hR6).mono ?_
      rintro e w7 ⟨rfl, hb7⟩
      have hB7 : Below w.heap.size w w7 := hB6.trans (hb7.mono (by omega))
      clear u1 u2 t1 t2 hb7 hR6
      generalize topoWrong ⟨t.n, t.links ++ [l]⟩ = we at *
      go_wp2
      go_ret; exact ⟨rfl, by (repeat' (first | with_reducible exact Below.refl _ _ | with_reducible assumption | with_reducible refine Below.drew ?_ | with_reducible refine Below_drewN ?_ _ | with_reducible refine Below.alloc ?_ ?_ _ | with_reducible refine Below.setCell ?_ ?_ _ | omega | (simp; done) | (simp; omega)))⟩
    obtain ⟨m1, m2, m3, m4⟩ := more_cost l h2 h3
    rw [h2, m1]
    generalize hu : (⟨t.n, t.links ++ [l]⟩ : Topo) = u at *
    generalize (findOf t f).1 = p at *
    generalize (findOf u f).1 = q at *
    generalize pathCost t p = a at *
    generalize pathCost u q = b at *
    have hP1 := Lib.hid m2
    have hP2 := Lib.hid m3
    have hP3 := Lib.hid h3
    have hUU := Lib.hid hu
    clear h2 h3 m1 m2 m3 hu
    go_wp2_with fail
    refine (topoWrong_c u _ (fun _ => True) _ hR6).mono ?_
    rintro e w7 ⟨rfl, hb7⟩
    rw [hP3.out]
    have hB7 : Below w.heap.size w w7 := hB6.trans (hb7.mono (by omega))
    have hT7 := hT6.under hb7
    have hU7 := hU6.under hb7
    have hR7 := topoS.below hR6 hb7
    have hp57 := hp56.below hb7
    have hp7 := hp6.below hb7
    clear u1 u2 t1 t2 hb7 hR6 hT6 hU6 hp56 hp6 hB6
    obtain ⟨t1, t2⟩ := hT7.cells
    have hz7 := hB7.size
    go_wp2_with fail
    refine (length_c t p _ ok (fun _ => True) ao5 cap5 _ (topoS.below hT (hB7.trans (by (repeat' (first | with_reducible exact Below.refl _ _ | with_reducible assumption | with_reducible refine Below.drew ?_ | with_reducible refine Below_drewN ?_ _ | with_reducible refine Below.alloc ?_ ?_ _ | with_reducible refine Below.setCell ?_ ?_ _ | omega | (simp; done) | (simp; omega)))))) (hp57.below (by (repeat' (first | with_reducible exact Below.refl _ _ | with_reducible assumption | with_reducible refine Below.drew ?_ | with_reducible refine Below_drewN ?_ _ | with_reducible refine Below.alloc ?_ ?_ _ | with_reducible refine Below.setCell ?_ ?_ _ | omega | (simp; done) | (simp; omega)))))).mono ?_
    rw [hP1.out]
    rintro e w8 ⟨rfl, hb8⟩
    have hB8 : Below w.heap.size w w8 := hB7.trans (hb8.mono (by first | omega | (simp; done) | (simp; omega)))
    have hb78 : Below w7.heap.size w7 w8 := hb8.mono (by first | omega | (simp; done) | (simp; omega))
    have hU8 := hU7.under hb78
    have hR8 := topoS.below hR7 hb78
    have hp8 := hp7.below hb78
    clear t1 t2 hb8 hb78 hR7 hT7 hU7 hp57 hp7 hB7
    obtain ⟨u1, u2⟩ := hU8.cells
    have hz8 := hB8.size
    go_wp2_with fail
    refine (length_c u q _ (fun _ => True) (fun _ => True) ao6 cap6 _ hR8 hp8).mono ?_
    rw [hP2.out]
    rintro e w9 ⟨rfl, hb9⟩
    have hB9 : Below w.heap.size w w9 := hB8.trans (hb9.mono (by omega))
    clear u1 u2 hb9 hR8 hU8 hp8 hB8
    go_wp2
    go_ret; exact ⟨by first | rfl | exact ret_bool (by simp; omega), by (repeat' (first | with_reducible exact Below.refl _ _ | with_reducible assumption | with_reducible refine Below.drew ?_ | with_reducible refine Below_drewN ?_ _ | with_reducible refine Below.alloc ?_ ?_ _ | with_reducible refine Below.setCell ?_ ?_ _ | omega | (simp; done) | (simp; omega)))⟩
end Go.Proofs.Ytflhmpmdpdekeaa
