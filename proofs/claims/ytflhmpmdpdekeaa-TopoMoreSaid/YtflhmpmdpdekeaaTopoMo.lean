/-
  The walk of TopoMore.
-/
import Derived.Test.YtflhmpmdpdekeaaAlive1
import Derived.Test.YtflhmpmdpdekeaaTopoBk
import Derived.Test.YtflhmpmdpdekeaaMoreR
import Derived.Test.YtflhmpmdpdekeaaPathMo
import Derived.Test.YtflhmpmdpdekeaaTopoIn
import Derived.Test.YtflhmpmdpdekeaaTo
import Derived.WalkKit
import Derived.WalkSpells
import Derived.WalkLawsBesides
import Derived.Lib.Hide
import Derived.Deep.LoopGhost
import Derived.Deep.QuietTactic
import Derived.BigQuiet
import Derived.Deep.RegionWith
import Derived.Handy
set_option linter.unusedSimpArgs false
set_option linter.unusedVariables false
namespace Go.St
open Go.RowKit
/-- the cells of two nets -/
def SB2 (tb ub : Nat) (n : Int) (la : Option Addr) (ll lc : Nat) (ua : Option Addr) (ul uc : Nat) (w : World) : Prop :=
  w.cell? ⟨tb, 0, none⟩ = some (.int .i64 n) ∧ w.cell? ⟨tb, 1, none⟩ = some (.slice la ll lc) ∧ w.cell? ⟨ub, 0, none⟩ = some (.int .i64 n) ∧ w.cell? ⟨ub, 1, none⟩ = some (.slice ua ul uc)
theorem SB2.of {w : World} {tb ub : Nat} {n : Int} {la : Option Addr} {ll lc : Nat} {ua : Option Addr} {ul uc : Nat} {e e' : TypeId} (h : blockIs w tb e #[.int .i64 n, .slice la ll lc]) (h' : blockIs w ub e' #[.int .i64 n, .slice ua ul uc]) : SB2 tb ub n la ll lc ua ul uc w :=
  ⟨h.cells.1 0, h.cells.1 1, h'.cells.1 0, h'.cells.1 1⟩
end Go.St
namespace Go.Proofs.Ytflhmpmdpdekeaa
open Go.RowKit Go.St

set_option maxRecDepth 100000 in
set_option maxHeartbeats 16000000 in
theorem topoMore_c (w : World) (t : Topo) (cs : List Value) (ok : Nat → Prop) (h : topoS.rep ok w cs t) (hsz : t.links.length * 24 ≤ 140737488351232) (l : Link) (ls : List Value) (ok'' : Nat → Prop) (hl : linkS.rep ok'' w ls l) :
    Calls Try.prog 11 #[.agg cs.toArray, .agg ls.toArray] w fun e w' => e = .returned (.bool true) ∧ Below w.heap.size w w' := by
  have hT := h
  obtain ⟨la, lc, rfl, hn, hr⟩ := h
  obtain ⟨rfl, hl1, hl2, hl3⟩ := hl
  obtain ⟨i0, hi, hz0, hz1', hz2⟩ := info_parts link_info
  have hfd := fault_err0
  go_enter Try.func11, Try.ntmps11
  go_wp2_with fail
  refine (alive1_c _).mono ?_
  rintro e w1 ⟨rfl, hb1⟩
  have hB1 : Below w.heap.size w w1 := Below.trans (by (repeat' (first | with_reducible exact Below.refl _ _ | with_reducible assumption | with_reducible refine Below.drew ?_ | with_reducible refine Below_drewN ?_ _ | with_reducible refine Below.alloc ?_ ?_ _ | with_reducible refine Below.setCell ?_ ?_ _ | omega | (simp; done) | (simp; omega)))) (hb1.mono (by simp; omega))
  have hT1 : blockIs w1 w.heap.size 24 #[.int .i64 t.n, .slice la t.links.length lc] := ((blockIs.new rfl).alloc _).under hb1
  have hL1 : blockIs w1 (w.heap.size + 1) 38 #[.int .i64 l.a, .int .i64 l.b, .int .i64 l.cost] := (blockIs.new (by simp)).under hb1
  obtain ⟨t1, t2⟩ := hT1.cells
  have hz1 := hL1.lt
  clear hb1
  go_wp2
  clear t1 t2
  have hT2 := (hT1.alloc (.cells #[.int .i64 t.n, .slice la t.links.length lc] 24)).drew
  have hL2 := (hL1.alloc (.cells #[.int .i64 t.n, .slice la t.links.length lc] 24)).drew
  have hU2 : blockIs (w1.alloc (.cells #[.int .i64 t.n, .slice la t.links.length lc] 24)).drew w1.heap.size 24 #[.int .i64 t.n, .slice la t.links.length lc] := (blockIs.new rfl).drew
  have hB2 : Below w.heap.size w (w1.alloc (.cells #[.int .i64 t.n, .slice la t.links.length lc] 24)).drew := by have := hB1.size; (repeat' (first | with_reducible exact Below.refl _ _ | with_reducible assumption | with_reducible refine Below.drew ?_ | with_reducible refine Below_drewN ?_ _ | with_reducible refine Below.alloc ?_ ?_ _ | with_reducible refine Below.setCell ?_ ?_ _ | omega | (simp; done) | (simp; omega)))
  refine wp_region_to (SM w.heap.size (w.heap.size + 1) t.n la t.links.length lc l) 8 (fun a a' w' => ∃ v15 v16 v17 v18 v19 v20 v21 v22 aoz capz, a' = puts a [(15, v15), (16, v16), (17, v17), (18, v18), (19, v19), (20, v20), (21, v21), (22, v22)] ∧ Below w.heap.size w w' ∧ blockIs w' w1.heap.size 24 #[.int .i64 t.n, .slice aoz (t.links.length + 1) capz] ∧ blockIs w' w.heap.size 24 #[.int .i64 t.n, .slice la t.links.length lc] ∧ blockIs w' (w.heap.size + 1) 38 #[.int .i64 l.a, .int .i64 l.b, .int .i64 l.cost] ∧ topoS.rep (fun _ => True) w' [.int .i64 t.n, .slice aoz (t.links.length + 1) capz] ⟨t.n, t.links ++ [l]⟩) (by kernel_rfl) ?_ ?_
  · clear hB1 hT1 hL1
    intro Q' hR hQp
    generalize (w1.alloc (.cells #[.int .i64 t.n, .slice la t.links.length lc] 24)).drew = wa at *
    have hS : SM w.heap.size (w.heap.size + 1) t.n la t.links.length lc l wa := SM.of hT2 hL2
    refine wpAnyK_take (i := 1) (.pointer (some ⟨w.heap.size, 1, none⟩)) rfl (by kernel_rfl) (fun _ _ _ h => hQp _ _ _ _ h) hS (yields_value (by kernel_rfl) (by intro w0 hw0; have hw1 := hw0; simp only [SM] at hw1; go_simp)) ?_; simp only [Act.put, List.getElem_toArray, List.getElem_cons_succ, List.getElem_cons_zero, List.setIfInBounds_toArray, List.set_cons_succ, List.set_cons_zero]
    refine wpAnyK_take (i := 2) (.slice la t.links.length lc) rfl (by kernel_rfl) (fun _ _ _ h => hQp _ _ _ _ h) hS (yields_value (by kernel_rfl) (by intro w0 hw0; have hw1 := hw0; simp only [SM] at hw1; go_simp)) ?_; simp only [Act.put, List.getElem_toArray, List.getElem_cons_succ, List.getElem_cons_zero, List.setIfInBounds_toArray, List.set_cons_succ, List.set_cons_zero]
    refine wpAnyK_take (i := 4) (.agg #[.int .i64 l.a, .int .i64 l.b, .int .i64 l.cost]) rfl (by kernel_rfl) (fun _ _ _ h => hQp _ _ _ _ h) hS (yields_value (by kernel_rfl) (by intro w0 hw0; have hw1 := hw0; simp only [SM] at hw1; go_simp)) ?_; simp only [Act.put, List.getElem_toArray, List.getElem_cons_succ, List.getElem_cons_zero, List.setIfInBounds_toArray, List.set_cons_succ, List.set_cons_zero]
    clear hS
    have hb : Below wa.heap.size wa wa := Below.refl _ _
    have hR2 := hr.below hB2
    have hTl := hT2.lt
    have hLl := hL2.lt
    have hUl := hU2.lt
    refine wpAnyK_two (i := 0) (j := 5) rfl rfl (by kernel_rfl) (by kernel_rfl) (by kernel_rfl) (fun K0 hK0 => ?_) (fun K5 hK5 => ?_)
    · go_simp
      go_wp2_with fail
      have hb1 : Below wa.heap.size wa (wa.alloc (.cells #[] 38)) := hb.trans (by have := hb.size; (repeat' (first | with_reducible exact Below.refl _ _ | with_reducible assumption | with_reducible refine Below.drew ?_ | with_reducible refine Below_drewN ?_ _ | with_reducible refine Below.alloc ?_ ?_ _ | with_reducible refine Below.setCell ?_ ?_ _ | omega | (simp; done) | (simp; omega))))
      have ho1 : ownR linkS 38 (fun _ => False) wa.heap.size (wa.alloc (.cells #[] 38)) (some ⟨wa.heap.size, 0, none⟩) 0 0 [] := ownR.lit (cs := []) rfl rfl (hb.size) (by simp only [maxLen]; omega) (by simp) (fun _ h => h.elim)
      refine hK0 _ _ (fun _ => (SM.of (hT2.below hb1 hTl) (hL2.below hb1 hLl))) ?_
      clear hK0
      generalize wa.alloc (.cells #[] 38) = wx1 at *
      refine wpAnyK_two (i := 3) (j := 5) rfl rfl (by kernel_rfl) (by kernel_rfl) (by kernel_rfl) (fun K3 hK3 => ?_) (fun K5 hK5 => ?_)
      · refine wp_appR (sh := linkS) (.tmp 15) (.tmp 17) 22 (by rfl) 38 i0 (.agg #[.int .i64 0, .int .i64 0, .int .i64 0]) 24 Try.underlying22 hi hz0 hz1' hz2 rfl (by decide) (ok := fun _ => False) (base := wa.heap.size) (by rfl) ho1 (by rfl) rfl (links_src (hR2.below hb1).src) (by simp only [maxLen]; omega) (by omega) hb1.size ?_
        intro ao2 cap2 wx2 ho2 hg2 hlie2
        have hb2 : Below wa.heap.size wa wx2 := hb1.trans (grown_below (B := wa.heap.size) hg2 (fun k hk => (ho1.lt k hk).1) hb1.size)
        simp only [Nat.zero_add, List.nil_append] at ho2
        simp only [Nat.zero_add, Act.put, List.getElem_toArray, List.getElem_cons_succ, List.getElem_cons_zero, List.setIfInBounds_toArray, List.set_cons_succ, List.set_cons_zero]
        refine hK3 _ _ (fun _ => (SM.of (hT2.below hb2 hTl) (hL2.below hb2 hLl))) ?_
        clear hK3
        refine wpAnyK_call (i := 5) rfl (by kernel_rfl) (by kernel_rfl) fun K5 hK5 => ?_
        go_simp
        go_wp2_with fail
        have hb3 : Below wa.heap.size wa (wx2.alloc (.cells #[.int .i64 l.a, .int .i64 l.b, .int .i64 l.cost] 38)) := hb2.trans (by have := hb2.size; (repeat' (first | with_reducible exact Below.refl _ _ | with_reducible assumption | with_reducible refine Below.drew ?_ | with_reducible refine Below_drewN ?_ _ | with_reducible refine Below.alloc ?_ ?_ _ | with_reducible refine Below.setCell ?_ ?_ _ | omega | (simp; done) | (simp; omega))))
        have hs3 : blockIs (wx2.alloc (.cells #[.int .i64 l.a, .int .i64 l.b, .int .i64 l.cost] 38)) wx2.heap.size 38 #[.int .i64 l.a, .int .i64 l.b, .int .i64 l.cost] := blockIs.new rfl
        have hd3 := ho2.alloc (.cells #[.int .i64 l.a, .int .i64 l.b, .int .i64 l.cost] 38)
        have hx3 : some wx2.heap.size ≠ blk ao2 := fun e => by have := (ho2.lt _ e.symm).2; omega
        refine hK5 _ _ (fun _ => (SM.of (hT2.below hb3 hTl) (hL2.below hb3 hLl))) ?_
        clear hK5
        generalize wx2.alloc (.cells #[.int .i64 l.a, .int .i64 l.b, .int .i64 l.cost] 38) = wx3 at *
        refine wpAnyK_call (i := 6) rfl (by kernel_rfl) (by kernel_rfl) fun K6 hK6 => ?_
        refine wp_appR (sh := linkS) (n := t.links.length) (m := 1) (.tmp 18) (.tmp 20) 22 (by rfl) 38 i0 (.agg #[.int .i64 0, .int .i64 0, .int .i64 0]) 24 Try.underlying22 hi hz0 hz1' hz2 rfl (by decide) (ok := fun _ => False) (base := wa.heap.size) (by rfl) hd3 (by rfl) rfl (link_src hs3 hl1 hl2 hl3) (by simp only [maxLen]; omega) (by omega) hb3.size ?_
        intro aoz capz wz hoz hgz hliez
        have hbz : Below wa.heap.size wa wz := hb3.trans (grown_below (B := wa.heap.size) hgz (fun k hk => (hd3.lt k hk).1) hb3.size)
        simp only [Nat.zero_add, Act.put, List.getElem_toArray, List.getElem_cons_succ, List.getElem_cons_zero, List.setIfInBounds_toArray, List.set_cons_succ, List.set_cons_zero]
        refine hK6 _ _ (fun _ => (SM.of (hT2.below hbz hTl) (hL2.below hbz hLl))) ?_
        clear hK6
        have hS := (SM.of (hT2.below hbz hTl) (hL2.below hbz hLl))
        refine wpAnyK_take (i := 7) (.pointer (some ⟨w1.heap.size, 1, none⟩)) rfl (by kernel_rfl) (fun _ _ _ h => hQp _ _ _ _ h) hS (yields_value (by kernel_rfl) (by intro w0 hw0; have hw1 := hw0; simp only [SM] at hw1; go_simp)) ?_; simp only [Act.put, List.getElem_toArray, List.getElem_cons_succ, List.getElem_cons_zero, List.setIfInBounds_toArray, List.set_cons_succ, List.set_cons_zero]
        refine wpAnyK_call (i := 8) rfl (by kernel_rfl) (by kernel_rfl) fun K8 hK8 => ?_
        obtain ⟨u1, u2⟩ := (hU2.below hbz hUl).cells
        clear hS hliez
        go_simp
        go_wp2_with fail
        refine hK8 _ _ (fun h => absurd rfl h) ?_
        refine wpAnyK_done (by kernel_rfl) ?_ _
        refine hR _ _ ?_
        iterate 8 apply Exists.intro
        refine ⟨aoz, capz, ?_, (hB2.trans (hbz.mono (by omega))).setCell (by simp; omega) _, (hU2.below hbz hUl).set 1 _, (hT2.below hbz hTl).setOther (by simp; omega) _, (hL2.below hbz hLl).setOther (by simp; omega) _, ⟨aoz, capz, by simp, hn, (hoz.keep (by simp [World.setCell]) (fun k hk => Below.heap_setCell _ _ _ _ (Nat.ne_of_gt (Nat.lt_of_lt_of_le hUl (hoz.lt k (hk.resolve_right id)).1)))).row (fun _ h => h.elim) (fun _ _ => trivial)⟩⟩
        simp only [puts, Act.put, List.setIfInBounds_toArray, List.set_cons_succ, List.set_cons_zero]
        rfl
      · go_simp
        go_wp2_with fail
        have hb5 : Below wa.heap.size wa (wx1.alloc (.cells #[.int .i64 l.a, .int .i64 l.b, .int .i64 l.cost] 38)) := hb1.trans (by have := hb1.size; (repeat' (first | with_reducible exact Below.refl _ _ | with_reducible assumption | with_reducible refine Below.drew ?_ | with_reducible refine Below_drewN ?_ _ | with_reducible refine Below.alloc ?_ ?_ _ | with_reducible refine Below.setCell ?_ ?_ _ | omega | (simp; done) | (simp; omega))))
        have hs5 : blockIs (wx1.alloc (.cells #[.int .i64 l.a, .int .i64 l.b, .int .i64 l.cost] 38)) wx1.heap.size 38 #[.int .i64 l.a, .int .i64 l.b, .int .i64 l.cost] := blockIs.new rfl
        have hd5 := ho1.alloc (.cells #[.int .i64 l.a, .int .i64 l.b, .int .i64 l.cost] 38)
        have hx5 : some wx1.heap.size ≠ blk (some ⟨wa.heap.size, 0, none⟩) := fun e => by have := (ho1.lt _ e.symm).2; omega
        refine hK5 _ _ (fun _ => (SM.of (hT2.below hb5 hTl) (hL2.below hb5 hLl))) ?_
        clear hK5
        generalize wx1.alloc (.cells #[.int .i64 l.a, .int .i64 l.b, .int .i64 l.cost] 38) = wx5 at *
        refine wpAnyK_call (i := 3) rfl (by kernel_rfl) (by kernel_rfl) fun K3 hK3 => ?_
        refine wp_appR (sh := linkS) (.tmp 15) (.tmp 17) 22 (by rfl) 38 i0 (.agg #[.int .i64 0, .int .i64 0, .int .i64 0]) 24 Try.underlying22 hi hz0 hz1' hz2 rfl (by decide) (ok := fun _ => False) (base := wa.heap.size) (by rfl) hd5 (by rfl) rfl (links_src (hR2.below hb5).src) (by simp only [maxLen]; omega) (by omega) hb5.size ?_
        intro ao6 cap6 wx6 ho6 hg6 hlie6
        have hb6 : Below wa.heap.size wa wx6 := hb5.trans (grown_below (B := wa.heap.size) hg6 (fun k hk => (hd5.lt k hk).1) hb5.size)
        simp only [Nat.zero_add, List.nil_append] at ho6
        have hs6 := hs5.grown hg6 hx5
        have hx6 : some wx1.heap.size ≠ blk ao6 := fun e => by rcases hlie6 with h | h <;> rw [h] at e; exact hx5 e; exact absurd hs5.lt (by simp at e; omega)
        simp only [Nat.zero_add, Act.put, List.getElem_toArray, List.getElem_cons_succ, List.getElem_cons_zero, List.setIfInBounds_toArray, List.set_cons_succ, List.set_cons_zero]
        refine hK3 _ _ (fun _ => (SM.of (hT2.below hb6 hTl) (hL2.below hb6 hLl))) ?_
        clear hK3
        refine wpAnyK_call (i := 6) rfl (by kernel_rfl) (by kernel_rfl) fun K6 hK6 => ?_
        refine wp_appR (sh := linkS) (n := t.links.length) (m := 1) (.tmp 18) (.tmp 20) 22 (by rfl) 38 i0 (.agg #[.int .i64 0, .int .i64 0, .int .i64 0]) 24 Try.underlying22 hi hz0 hz1' hz2 rfl (by decide) (ok := fun _ => False) (base := wa.heap.size) (by rfl) ho6 (by rfl) rfl (link_src hs6 hl1 hl2 hl3) (by simp only [maxLen]; omega) (by omega) hb6.size ?_
        intro aoz capz wz hoz hgz hliez
        have hbz : Below wa.heap.size wa wz := hb6.trans (grown_below (B := wa.heap.size) hgz (fun k hk => (ho6.lt k hk).1) hb6.size)
        simp only [Nat.zero_add, Act.put, List.getElem_toArray, List.getElem_cons_succ, List.getElem_cons_zero, List.setIfInBounds_toArray, List.set_cons_succ, List.set_cons_zero]
        refine hK6 _ _ (fun _ => (SM.of (hT2.below hbz hTl) (hL2.below hbz hLl))) ?_
        clear hK6
        have hS := (SM.of (hT2.below hbz hTl) (hL2.below hbz hLl))
        refine wpAnyK_take (i := 7) (.pointer (some ⟨w1.heap.size, 1, none⟩)) rfl (by kernel_rfl) (fun _ _ _ h => hQp _ _ _ _ h) hS (yields_value (by kernel_rfl) (by intro w0 hw0; have hw1 := hw0; simp only [SM] at hw1; go_simp)) ?_; simp only [Act.put, List.getElem_toArray, List.getElem_cons_succ, List.getElem_cons_zero, List.setIfInBounds_toArray, List.set_cons_succ, List.set_cons_zero]
        refine wpAnyK_call (i := 8) rfl (by kernel_rfl) (by kernel_rfl) fun K8 hK8 => ?_
        obtain ⟨u1, u2⟩ := (hU2.below hbz hUl).cells
        clear hS hliez
        go_simp
        go_wp2_with fail
        refine hK8 _ _ (fun h => absurd rfl h) ?_
        refine wpAnyK_done (by kernel_rfl) ?_ _
        refine hR _ _ ?_
        iterate 8 apply Exists.intro
        refine ⟨aoz, capz, ?_, (hB2.trans (hbz.mono (by omega))).setCell (by simp; omega) _, (hU2.below hbz hUl).set 1 _, (hT2.below hbz hTl).setOther (by simp; omega) _, (hL2.below hbz hLl).setOther (by simp; omega) _, ⟨aoz, capz, by simp, hn, (hoz.keep (by simp [World.setCell]) (fun k hk => Below.heap_setCell _ _ _ _ (Nat.ne_of_gt (Nat.lt_of_lt_of_le hUl (hoz.lt k (hk.resolve_right id)).1)))).row (fun _ h => h.elim) (fun _ _ => trivial)⟩⟩
        simp only [puts, Act.put, List.setIfInBounds_toArray, List.set_cons_succ, List.set_cons_zero]
        rfl
    · go_simp
      go_wp2_with fail
      have hb8 : Below wa.heap.size wa (wa.alloc (.cells #[.int .i64 l.a, .int .i64 l.b, .int .i64 l.cost] 38)) := hb.trans (by have := hb.size; (repeat' (first | with_reducible exact Below.refl _ _ | with_reducible assumption | with_reducible refine Below.drew ?_ | with_reducible refine Below_drewN ?_ _ | with_reducible refine Below.alloc ?_ ?_ _ | with_reducible refine Below.setCell ?_ ?_ _ | omega | (simp; done) | (simp; omega))))
      have hs8 : blockIs (wa.alloc (.cells #[.int .i64 l.a, .int .i64 l.b, .int .i64 l.cost] 38)) wa.heap.size 38 #[.int .i64 l.a, .int .i64 l.b, .int .i64 l.cost] := blockIs.new rfl
      refine hK5 _ _ (fun _ => (SM.of (hT2.below hb8 hTl) (hL2.below hb8 hLl))) ?_
      clear hK5
      generalize wa.alloc (.cells #[.int .i64 l.a, .int .i64 l.b, .int .i64 l.cost] 38) = wx8 at *
      refine wpAnyK_call (i := 0) rfl (by kernel_rfl) (by kernel_rfl) fun K0 hK0 => ?_
      go_simp
      go_wp2_with fail
      have hb9 : Below wa.heap.size wa (wx8.alloc (.cells #[] 38)) := hb8.trans (by have := hb8.size; (repeat' (first | with_reducible exact Below.refl _ _ | with_reducible assumption | with_reducible refine Below.drew ?_ | with_reducible refine Below_drewN ?_ _ | with_reducible refine Below.alloc ?_ ?_ _ | with_reducible refine Below.setCell ?_ ?_ _ | omega | (simp; done) | (simp; omega))))
      have ho9 : ownR linkS 38 (fun _ => False) wa.heap.size (wx8.alloc (.cells #[] 38)) (some ⟨wx8.heap.size, 0, none⟩) 0 0 [] := ownR.lit (cs := []) rfl rfl (hb8.size) (by simp only [maxLen]; omega) (by simp) (fun _ h => h.elim)
      have hs9 := hs8.alloc (.cells #[] 38)
      have hx9 : some wa.heap.size ≠ blk (some ⟨wx8.heap.size, 0, none⟩) := fun e => by have := hs8.lt; simp [blk] at e; omega
      refine hK0 _ _ (fun _ => (SM.of (hT2.below hb9 hTl) (hL2.below hb9 hLl))) ?_
      clear hK0
      generalize wx8.alloc (.cells #[] 38) = wx9 at *
      refine wpAnyK_call (i := 3) rfl (by kernel_rfl) (by kernel_rfl) fun K3 hK3 => ?_
      refine wp_appR (sh := linkS) (.tmp 15) (.tmp 17) 22 (by rfl) 38 i0 (.agg #[.int .i64 0, .int .i64 0, .int .i64 0]) 24 Try.underlying22 hi hz0 hz1' hz2 rfl (by decide) (ok := fun _ => False) (base := wa.heap.size) (by rfl) ho9 (by rfl) rfl (links_src (hR2.below hb9).src) (by simp only [maxLen]; omega) (by omega) hb9.size ?_
      intro ao10 cap10 wx10 ho10 hg10 hlie10
      have hb10 : Below wa.heap.size wa wx10 := hb9.trans (grown_below (B := wa.heap.size) hg10 (fun k hk => (ho9.lt k hk).1) hb9.size)
      simp only [Nat.zero_add, List.nil_append] at ho10
      have hs10 := hs9.grown hg10 hx9
      have hx10 : some wa.heap.size ≠ blk ao10 := fun e => by rcases hlie10 with h | h <;> rw [h] at e; exact hx9 e; exact absurd hs9.lt (by simp at e; omega)
      simp only [Nat.zero_add, Act.put, List.getElem_toArray, List.getElem_cons_succ, List.getElem_cons_zero, List.setIfInBounds_toArray, List.set_cons_succ, List.set_cons_zero]
      refine hK3 _ _ (fun _ => (SM.of (hT2.below hb10 hTl) (hL2.below hb10 hLl))) ?_
      clear hK3
      refine wpAnyK_call (i := 6) rfl (by kernel_rfl) (by kernel_rfl) fun K6 hK6 => ?_
      refine wp_appR (sh := linkS) (n := t.links.length) (m := 1) (.tmp 18) (.tmp 20) 22 (by rfl) 38 i0 (.agg #[.int .i64 0, .int .i64 0, .int .i64 0]) 24 Try.underlying22 hi hz0 hz1' hz2 rfl (by decide) (ok := fun _ => False) (base := wa.heap.size) (by rfl) ho10 (by rfl) rfl (link_src hs10 hl1 hl2 hl3) (by simp only [maxLen]; omega) (by omega) hb10.size ?_
      intro aoz capz wz hoz hgz hliez
      have hbz : Below wa.heap.size wa wz := hb10.trans (grown_below (B := wa.heap.size) hgz (fun k hk => (ho10.lt k hk).1) hb10.size)
      simp only [Nat.zero_add, Act.put, List.getElem_toArray, List.getElem_cons_succ, List.getElem_cons_zero, List.setIfInBounds_toArray, List.set_cons_succ, List.set_cons_zero]
      refine hK6 _ _ (fun _ => (SM.of (hT2.below hbz hTl) (hL2.below hbz hLl))) ?_
      clear hK6
      have hS := (SM.of (hT2.below hbz hTl) (hL2.below hbz hLl))
      refine wpAnyK_take (i := 7) (.pointer (some ⟨w1.heap.size, 1, none⟩)) rfl (by kernel_rfl) (fun _ _ _ h => hQp _ _ _ _ h) hS (yields_value (by kernel_rfl) (by intro w0 hw0; have hw1 := hw0; simp only [SM] at hw1; go_simp)) ?_; simp only [Act.put, List.getElem_toArray, List.getElem_cons_succ, List.getElem_cons_zero, List.setIfInBounds_toArray, List.set_cons_succ, List.set_cons_zero]
      refine wpAnyK_call (i := 8) rfl (by kernel_rfl) (by kernel_rfl) fun K8 hK8 => ?_
      obtain ⟨u1, u2⟩ := (hU2.below hbz hUl).cells
      clear hS hliez
      go_simp
      go_wp2_with fail
      refine hK8 _ _ (fun h => absurd rfl h) ?_
      refine wpAnyK_done (by kernel_rfl) ?_ _
      refine hR _ _ ?_
      iterate 8 apply Exists.intro
      refine ⟨aoz, capz, ?_, (hB2.trans (hbz.mono (by omega))).setCell (by simp; omega) _, (hU2.below hbz hUl).set 1 _, (hT2.below hbz hTl).setOther (by simp; omega) _, (hL2.below hbz hLl).setOther (by simp; omega) _, ⟨aoz, capz, by simp, hn, (hoz.keep (by simp [World.setCell]) (fun k hk => Below.heap_setCell _ _ _ _ (Nat.ne_of_gt (Nat.lt_of_lt_of_le hUl (hoz.lt k (hk.resolve_right id)).1)))).row (fun _ h => h.elim) (fun _ _ => trivial)⟩⟩
      simp only [puts, Act.put, List.setIfInBounds_toArray, List.set_cons_succ, List.set_cons_zero]
      rfl
  clear hT1 hL1 hT2 hL2 hU2 hB2
  rintro a' w4 ⟨v15, v16, v17, v18, v19, v20, v21, v22, aoz, capz, rfl, hB4, hU4, hT4, hL4, hR4⟩
  simp only [puts, Act.put, List.setIfInBounds_toArray, List.set_cons_succ, List.set_cons_zero]
  obtain ⟨t1, t2⟩ := hT4.cells
  have hz4 := hB4.size
  have hUl4 := hU4.lt
  go_wp2_with fail
  refine (topoWrong_c t _ ok _ (topoS.below hT hB4)).mono ?_
  rintro e w5 ⟨rfl, hb5⟩
  have hB5 : Below w.heap.size w w5 := hB4.trans (hb5.mono (by omega))
  have hU5 := hU4.under hb5
  have hT5 := hT4.under hb5
  have hL5 := hL4.under hb5
  have hR5 := topoS.below hR4 hb5
  clear t1 t2 hb5 hU4 hT4 hL4 hR4 hB4
  obtain ⟨u1, u2⟩ := hU5.cells
  have hz5 := hB5.size
  have hUl5 := hU5.lt
  by_cases h1 : (topoWrong t).1 = 0
  case neg =>
    have h1' : ((topoWrong t).1 != 0) = true := by rw [bne_iff_ne]; exact h1
    clear h1
    generalize topoWrong t = we at *
    go_wp2
    go_ret; exact ⟨rfl, by (repeat' (first | with_reducible exact Below.refl _ _ | with_reducible assumption | with_reducible refine Below.drew ?_ | with_reducible refine Below_drewN ?_ _ | with_reducible refine Below.alloc ?_ ?_ _ | with_reducible refine Below.setCell ?_ ?_ _ | omega | (simp; done) | (simp; omega)))⟩
  rw [h1]
  have hWt : (topoWrong t).1 = 0 := h1
  clear h1
  generalize hwe : topoWrong t = we at *
  go_wp2_with fail
  refine (topoWrong_c ⟨t.n, t.links ++ [l]⟩ _ (fun _ => True) _ hR5).mono ?_
  rintro e w6 ⟨rfl, hb6⟩
  have hB6 : Below w.heap.size w w6 := hB5.trans (hb6.mono (by omega))
  have hU6 := hU5.under hb6
  have hT6 := hT5.under hb6
  have hL6 := hL5.under hb6
  have hR6 := topoS.below hR5 hb6
  clear u1 u2 hb6 hU5 hT5 hL5 hR5 hB5
  have hz6 := hB6.size
  have hUl6 := hU6.lt
  by_cases h2 : (topoWrong ⟨t.n, t.links ++ [l]⟩).1 = 0
  case neg =>
    have h2' : ((topoWrong ⟨t.n, t.links ++ [l]⟩).1 != 0) = true := by rw [bne_iff_ne]; exact h2
    clear h2
    generalize topoWrong ⟨t.n, t.links ++ [l]⟩ = ue at *
    go_wp2
    go_ret; exact ⟨rfl, by (repeat' (first | with_reducible exact Below.refl _ _ | with_reducible assumption | with_reducible refine Below.drew ?_ | with_reducible refine Below_drewN ?_ _ | with_reducible refine Below.alloc ?_ ?_ _ | with_reducible refine Below.setCell ?_ ?_ _ | omega | (simp; done) | (simp; omega)))⟩
  rw [h2]
  have htr := (topo_right (hwe ▸ hWt : (topoWrong t).1 = 0)).1
  have HM := fun (a b : Int) (ha : 0 ≤ a ∧ a < t.n) => Lib.hid (reach_more (l := l) (hwe ▸ hWt : (topoWrong t).1 = 0) h2 (a := a) (b := b) ha)
  clear h2 hwe hWt
  generalize topoWrong ⟨t.n, t.links ++ [l]⟩ = ue at *
  obtain ⟨t1, t2⟩ := hT6.cells
  have hnn : ((t.n.toNat : Nat) : Int) = t.n := by omega
  have htl : t.n.toNat ≤ 8 := by omega
  go_wp2
  go_loopw [7, 8, 9, 10, 11, 35] (fun _ _ _ _ _ idx wr => ∃ k : Nat, idx = .int .i64 k ∧ k ≤ t.n.toNat ∧ Below w6.heap.size w6 wr) (fun _ _ _ _ _ idx _ => t.n.toNat - (intOf idx).toNat)
  case atStart => exact ⟨0, rfl, Nat.zero_le _, by (repeat' (first | with_reducible exact Below.refl _ _ | with_reducible assumption | with_reducible refine Below.drew ?_ | with_reducible refine Below_drewN ?_ _ | with_reducible refine Below.alloc ?_ ?_ _ | with_reducible refine Below.setCell ?_ ?_ _ | omega | (simp; done) | (simp; omega)))⟩
  case round =>
    obtain ⟨k, rfl, hk, hb7⟩ := hrel
    clear t1 t2
    have hB7 : Below w.heap.size w wr := hB6.trans (hb7.mono hz6)
    have hT7 := hT6.under hb7
    have hU7 := hU6.under hb7
    have hL7 := hL6.under hb7
    have hR7 := topoS.below hR6 hb7
    have hz7 := hb7.size
    by_cases hkn : k < t.n.toNat
    case neg =>
      have d1 : ¬ (k : Int) < t.n := by omega
      go_wp2
      go_ret; exact ⟨rfl, by (repeat' (first | with_reducible exact Below.refl _ _ | with_reducible assumption | with_reducible refine Below.drew ?_ | with_reducible refine Below_drewN ?_ _ | with_reducible refine Below.alloc ?_ ?_ _ | with_reducible refine Below.setCell ?_ ?_ _ | omega | (simp; done) | (simp; omega)))⟩
    have d1 : (k : Int) < t.n := by omega
    have hkI : I64 (k : Int) := by simp only [I64]; omega
    go_wp2
    refine wp_region_to (SB2 w.heap.size w1.heap.size t.n la t.links.length lc aoz (t.links.length + 1) capz) 99 (fun a a' w' => ∃ v38 v39 v41 v42 ao1 c1 ao2 c2, a' = puts a [(38, v38), (39, v39), (40, .slice ao1 (reaches t k).length c1), (41, v41), (42, v42), (43, .slice ao2 (reaches ⟨t.n, t.links ++ [l]⟩ k).length c2), (8, .slice ao1 (reaches t k).length c1), (9, .slice ao2 (reaches ⟨t.n, t.links ++ [l]⟩ k).length c2)] ∧ rowRep intS (fun _ => True) w' ao1 c1 (reaches t k) ∧ rowRep intS (fun _ => True) w' ao2 c2 (reaches ⟨t.n, t.links ++ [l]⟩ k) ∧ Below wr.heap.size wr w') (by kernel_rfl) ?_ ?_
    · clear HM
      intro Q' hR hQp
      have hS : SB2 w.heap.size w1.heap.size t.n la t.links.length lc aoz (t.links.length + 1) capz wr.drew := SB2.of hT7.drew hU7.drew
      have hz7d : wr.drew.heap.size = wr.heap.size := by simp
      have hbd : Below wr.heap.size wr wr.drew := by (repeat' (first | with_reducible exact Below.refl _ _ | with_reducible assumption | with_reducible refine Below.drew ?_ | with_reducible refine Below_drewN ?_ _ | with_reducible refine Below.alloc ?_ ?_ _ | with_reducible refine Below.setCell ?_ ?_ _ | omega | (simp; done) | (simp; omega)))
      have hTl := hT7.lt
      have hUl := hU7.lt
      refine wpAnyK_take' (i := 0) (.agg #[.int .i64 t.n, .slice la t.links.length lc]) rfl (by kernel_rfl) (fun _ _ _ h => hQp _ _ _ _ h) hS (yields_value (by kernel_rfl) (by intro w0 hw0; have hw1 := hw0; simp only [SB2] at hw1; go_simp)) ?_; simp only [Act.put, List.getElem_toArray, List.getElem_cons_succ, List.getElem_cons_zero, List.setIfInBounds_toArray, List.set_cons_succ, List.set_cons_zero]
      refine wpAnyK_take' (i := 1) (.int .i64 k) rfl (by kernel_rfl) (fun _ _ _ h => hQp _ _ _ _ h) hS (yields_value (by kernel_rfl) (by intro w0 hw0; have hw1 := hw0; simp only [SB2] at hw1; go_simp)) ?_; simp only [Act.put, List.getElem_toArray, List.getElem_cons_succ, List.getElem_cons_zero, List.setIfInBounds_toArray, List.set_cons_succ, List.set_cons_zero]
      refine wpAnyK_take' (i := 3) (.agg #[.int .i64 t.n, .slice aoz (t.links.length + 1) capz]) rfl (by kernel_rfl) (fun _ _ _ h => hQp _ _ _ _ h) hS (yields_value (by kernel_rfl) (by intro w0 hw0; have hw1 := hw0; simp only [SB2] at hw1; go_simp)) ?_; simp only [Act.put, List.getElem_toArray, List.getElem_cons_succ, List.getElem_cons_zero, List.setIfInBounds_toArray, List.set_cons_succ, List.set_cons_zero]
      refine wpAnyK_take' (i := 4) (.int .i64 k) rfl (by kernel_rfl) (fun _ _ _ h => hQp _ _ _ _ h) hS (yields_value (by kernel_rfl) (by intro w0 hw0; have hw1 := hw0; simp only [SB2] at hw1; go_simp)) ?_; simp only [Act.put, List.getElem_toArray, List.getElem_cons_succ, List.getElem_cons_zero, List.setIfInBounds_toArray, List.set_cons_succ, List.set_cons_zero]
      clear hS
      refine wpAnyK_call (i := 2) rfl (by kernel_rfl) (by kernel_rfl) fun K2 hK2 => ?_
      go_simp
      go_wp2_with fail
      refine (reaches_c t _ ok k hkI _ (topoS.below hT (hB7.trans (hbd.mono hB7.size)))).mono ?_
      rintro e wt ⟨ao1, c1, rfl, hr1, hbt⟩
      have hbt' : Below wr.heap.size wr wt := hbd.trans (hbt.mono (by have := hbd.size; omega))
      go_wp2_with fail
      refine hK2 _ _ (fun _ => SB2.of (hT7.below hbt' hTl) (hU7.below hbt' hUl)) ?_
      have hS := SB2.of (hT7.below hbt' hTl) (hU7.below hbt' hUl)
      clear hK2
      clear hS
      refine wpAnyK_call (i := 5) rfl (by kernel_rfl) (by kernel_rfl) fun K5 hK5 => ?_
      go_simp
      go_wp2_with fail
      refine (reaches_c ⟨t.n, t.links ++ [l]⟩ _ (fun _ => True) k hkI _ (topoS.below hR7 hbt')).mono ?_
      rintro e wu ⟨ao2, c2, rfl, hr2, hbu⟩
      have hbu' : Below wr.heap.size wr wu := hbt'.trans (hbu.mono (by have := hbt'.size; omega))
      go_wp2_with fail
      refine hK5 _ _ (fun _ => SB2.of (hT7.below hbu' hTl) (hU7.below hbu' hUl)) ?_
      have hS := SB2.of (hT7.below hbu' hTl) (hU7.below hbu' hUl)
      clear hK5
      refine wpAnyK_take' (i := 6) (.slice ao1 (reaches t k).length c1) rfl (by kernel_rfl) (fun _ _ _ h => hQp _ _ _ _ h) hS (yields_value (by kernel_rfl) (by intro w0 hw0; have hw1 := hw0; simp only [SB2] at hw1; go_simp)) ?_; simp only [Act.put, List.getElem_toArray, List.getElem_cons_succ, List.getElem_cons_zero, List.setIfInBounds_toArray, List.set_cons_succ, List.set_cons_zero]
      refine wpAnyK_take' (i := 7) (.slice ao2 (reaches ⟨t.n, t.links ++ [l]⟩ k).length c2) rfl (by kernel_rfl) (fun _ _ _ h => hQp _ _ _ _ h) hS (yields_value (by kernel_rfl) (by intro w0 hw0; have hw1 := hw0; simp only [SB2] at hw1; go_simp)) ?_; simp only [Act.put, List.getElem_toArray, List.getElem_cons_succ, List.getElem_cons_zero, List.setIfInBounds_toArray, List.set_cons_succ, List.set_cons_zero]
      refine wpAnyK_done (by kernel_rfl) ?_ _
      refine hR _ _ ?_
      iterate 4 apply Exists.intro
      refine ⟨ao1, c1, ao2, c2, ?_, (hr1.below hbu).mono (fun b _ _ => ⟨trivial, rfl⟩), hr2.mono (fun b _ _ => ⟨trivial, rfl⟩), hbu'⟩
      simp only [puts, Act.put, List.setIfInBounds_toArray, List.set_cons_succ, List.set_cons_zero]
      rfl
    rintro a' w8 ⟨v38, v39, v41, v42, ao1, c1, ao2, c2, rfl, hr1, hr2, hb8⟩
    simp only [puts, Act.put, List.setIfInBounds_toArray, List.set_cons_succ, List.set_cons_zero]
    have HMk := fun b => HM k b ⟨by omega, d1⟩
    have hB8 : Below w.heap.size w w8 := hB7.trans (hb8.mono hB7.size)
    have hT8 := hT7.under hb8
    have hL8 := hL7.under hb8
    have hz8 := hB8.size
    have hb68 : Below w6.heap.size w6 w8 := hb7.trans (hb8.mono hz7)
    clear HM hb8 hT7 hU7 hL7 hR7 hb7 hB7 hz7
    have hlu := hr2.len_le
    have hlo := hr1.len_le
    generalize reaches ⟨t.n, t.links ++ [l]⟩ k = now at *
    generalize reaches t k = old at *
    obtain ⟨t1, t2⟩ := hT8.cells
    have hz68 := hb68.size
    go_wp2
    go_loopw [10, 11, 46] (fun _ _ idx wr2 => ∃ m : Nat, idx = .int .i64 m ∧ m ≤ t.n.toNat ∧ Below w8.heap.size w8 wr2) (fun _ _ idx _ => t.n.toNat - (intOf idx).toNat)
    case atStart => exact ⟨0, rfl, Nat.zero_le _, by (repeat' (first | with_reducible exact Below.refl _ _ | with_reducible assumption | with_reducible refine Below.drew ?_ | with_reducible refine Below_drewN ?_ _ | with_reducible refine Below.alloc ?_ ?_ _ | with_reducible refine Below.setCell ?_ ?_ _ | omega | (simp; done) | (simp; omega)))⟩
    case round =>
      obtain ⟨m, rfl, hm, hb9⟩ := hrel
      clear t1 t2
      have hB9 : Below w.heap.size w wr := hB8.trans (hb9.mono hz8)
      have hT9 := hT8.under hb9
      have hL9 := hL8.under hb9
      have hz9 := hB9.size
      have hz89 := hb9.size
      by_cases hmn : m < t.n.toNat
      case neg =>
        have d2 : ¬ (m : Int) < t.n := by omega
        go_wp2
        case roundEnd =>
          go_roundw
          case rel => exact ⟨k + 1, by go_num, by omega, hb68.trans (hb9.mono hz68)⟩
          case measure => simp [intOf] <;> omega
      have d2 : (m : Int) < t.n := by omega
      have M := HMk m
      have H1 : ∀ x v, decide (x ∈ old) = v → ∀ w', Below w8.heap.size w8 w' → Calls Try.prog 30 #[.slice ao1 old.length c1, .int .i64 x] w' fun e w'' => e = .returned (.bool v) ∧ w'' = w' := fun x v hv w' hw' => by rw [← hv]; exact tin_c old x _ ao1 c1 w' (hr1.below hw')
      have H2 : ∀ x v, decide (x ∈ now) = v → ∀ w', Below w8.heap.size w8 w' → Calls Try.prog 30 #[.slice ao2 now.length c2, .int .i64 x] w' fun e w'' => e = .returned (.bool v) ∧ w'' = w' := fun x v hv w' hw' => by rw [← hv]; exact tin_c now x _ ao2 c2 w' (hr2.below hw')
      have H3 := fun x hx w' (hw' : Below w.heap.size w w') => reaches_c t [.int .i64 t.n, .slice la t.links.length lc] ok x hx w' (topoS.below hT hw')
      clear hr1 hr2 HMk
      obtain ⟨r1, r2⟩ := hT9.cells
      obtain ⟨q1, q2⟩ := hL9.cells
      by_cases c1 : (m : Int) ∈ old
      · go_wp2_with fail
        refine (H1 m true (decide_eq_true c1) _ (hb9.trans (by (repeat' (first | with_reducible exact Below.refl _ _ | with_reducible assumption | with_reducible refine Below.drew ?_ | with_reducible refine Below_drewN ?_ _ | with_reducible refine Below.alloc ?_ ?_ _ | with_reducible refine Below.setCell ?_ ?_ _ | omega | (simp; done) | (simp; omega)))))).mono ?_
        rintro e wq ⟨rfl, rfl⟩
        have hnow : decide ((m : Int) ∈ now) = true := decide_eq_true (M.out.2 (.inl c1))
        go_wp2_with fail
        refine (H2 m true hnow _ (hb9.trans (by (repeat' (first | with_reducible exact Below.refl _ _ | with_reducible assumption | with_reducible refine Below.drew ?_ | with_reducible refine Below_drewN ?_ _ | with_reducible refine Below.alloc ?_ ?_ _ | with_reducible refine Below.setCell ?_ ?_ _ | omega | (simp; done) | (simp; omega)))))).mono ?_
        rintro e wq ⟨rfl, rfl⟩
        go_wp2
        case roundEnd =>
          go_roundw
          case rel => exact ⟨m + 1, by go_num, by omega, hb9.trans (by (repeat' (first | with_reducible exact Below.refl _ _ | with_reducible assumption | with_reducible refine Below.drew ?_ | with_reducible refine Below_drewN ?_ _ | with_reducible refine Below.alloc ?_ ?_ _ | with_reducible refine Below.setCell ?_ ?_ _ | omega | (simp; done) | (simp; omega))))⟩
          case measure => simp [intOf] <;> omega
      · go_wp2_with fail
        refine (H1 m false (decide_eq_false c1) _ (hb9.trans (by (repeat' (first | with_reducible exact Below.refl _ _ | with_reducible assumption | with_reducible refine Below.drew ?_ | with_reducible refine Below_drewN ?_ _ | with_reducible refine Below.alloc ?_ ?_ _ | with_reducible refine Below.setCell ?_ ?_ _ | omega | (simp; done) | (simp; omega)))))).mono ?_
        rintro e wq ⟨rfl, rfl⟩
        by_cases cA : l.a ∈ old
        · go_wp2_with fail
          refine (H1 l.a true (decide_eq_true cA) _ (hb9.trans (by (repeat' (first | with_reducible exact Below.refl _ _ | with_reducible assumption | with_reducible refine Below.drew ?_ | with_reducible refine Below_drewN ?_ _ | with_reducible refine Below.alloc ?_ ?_ _ | with_reducible refine Below.setCell ?_ ?_ _ | omega | (simp; done) | (simp; omega)))))).mono ?_
          rintro e wq ⟨rfl, rfl⟩
          go_wp2_with fail
          refine (H3 l.b hl2 _ (hB9.trans (by (repeat' (first | with_reducible exact Below.refl _ _ | with_reducible assumption | with_reducible refine Below.drew ?_ | with_reducible refine Below_drewN ?_ _ | with_reducible refine Below.alloc ?_ ?_ _ | with_reducible refine Below.setCell ?_ ?_ _ | omega | (simp; done) | (simp; omega)))))).mono ?_
          rintro e wb ⟨aob, cb, rfl, hrB, hbb⟩
          have hb8b : Below w8.heap.size w8 wb := Below.trans (hb9.trans (by (repeat' (first | with_reducible exact Below.refl _ _ | with_reducible assumption | with_reducible refine Below.drew ?_ | with_reducible refine Below_drewN ?_ _ | with_reducible refine Below.alloc ?_ ?_ _ | with_reducible refine Below.setCell ?_ ?_ _ | omega | (simp; done) | (simp; omega))))) (hbb.mono (by first | omega | (simp; done) | (simp; omega)))
          have hBb : Below w.heap.size w wb := hB8.trans (hb8b.mono hz8)
          have hz8b := hb8b.size
          clear hbb r1 r2 q1 q2
          obtain ⟨r1, r2⟩ := (hT8.under hb8b).cells
          obtain ⟨q1, q2⟩ := (hL8.under hb8b).cells
          have hrBx := fun v (hv : decide ((m : Int) ∈ reaches t l.b) = v) w' (hw' : Below wb.heap.size wb w') => (hv ▸ tin_c _ m _ aob cb w' (hrB.below hw') : Calls Try.prog 30 #[.slice aob (reaches t l.b).length cb, .int .i64 m] w' fun e w'' => e = .returned (.bool v) ∧ w'' = w')
          have hrBl := hrB.len_le
          clear hrB
          generalize reaches t l.b = RB at *
          by_cases dB : (m : Int) ∈ RB
          · go_wp2_with fail
            refine (hrBx true (decide_eq_true dB) _ (by (repeat' (first | with_reducible exact Below.refl _ _ | with_reducible assumption | with_reducible refine Below.drew ?_ | with_reducible refine Below_drewN ?_ _ | with_reducible refine Below.alloc ?_ ?_ _ | with_reducible refine Below.setCell ?_ ?_ _ | omega | (simp; done) | (simp; omega))))).mono ?_
            rintro e wq ⟨rfl, rfl⟩
            have hnow : decide ((m : Int) ∈ now) = true := decide_eq_true (M.out.2 (.inr (.inl ⟨cA, dB⟩)))
            go_wp2_with fail
            refine (H2 m true hnow _ (hb8b.trans (by (repeat' (first | with_reducible exact Below.refl _ _ | with_reducible assumption | with_reducible refine Below.drew ?_ | with_reducible refine Below_drewN ?_ _ | with_reducible refine Below.alloc ?_ ?_ _ | with_reducible refine Below.setCell ?_ ?_ _ | omega | (simp; done) | (simp; omega)))))).mono ?_
            rintro e wq ⟨rfl, rfl⟩
            go_wp2
            case roundEnd =>
              go_roundw
              case rel => exact ⟨m + 1, by go_num, by omega, hb8b.trans (by (repeat' (first | with_reducible exact Below.refl _ _ | with_reducible assumption | with_reducible refine Below.drew ?_ | with_reducible refine Below_drewN ?_ _ | with_reducible refine Below.alloc ?_ ?_ _ | with_reducible refine Below.setCell ?_ ?_ _ | omega | (simp; done) | (simp; omega))))⟩
              case measure => simp [intOf] <;> omega
          · go_wp2_with fail
            refine (hrBx false (decide_eq_false dB) _ (by (repeat' (first | with_reducible exact Below.refl _ _ | with_reducible assumption | with_reducible refine Below.drew ?_ | with_reducible refine Below_drewN ?_ _ | with_reducible refine Below.alloc ?_ ?_ _ | with_reducible refine Below.setCell ?_ ?_ _ | omega | (simp; done) | (simp; omega))))).mono ?_
            rintro e wq ⟨rfl, rfl⟩
            by_cases cB : l.b ∈ old
            · go_wp2_with fail
              refine (H1 l.b true (decide_eq_true cB) _ (hb8b.trans (by (repeat' (first | with_reducible exact Below.refl _ _ | with_reducible assumption | with_reducible refine Below.drew ?_ | with_reducible refine Below_drewN ?_ _ | with_reducible refine Below.alloc ?_ ?_ _ | with_reducible refine Below.setCell ?_ ?_ _ | omega | (simp; done) | (simp; omega)))))).mono ?_
              rintro e wq ⟨rfl, rfl⟩
              go_wp2_with fail
              refine (H3 l.a hl1 _ (hBb.trans (by (repeat' (first | with_reducible exact Below.refl _ _ | with_reducible assumption | with_reducible refine Below.drew ?_ | with_reducible refine Below_drewN ?_ _ | with_reducible refine Below.alloc ?_ ?_ _ | with_reducible refine Below.setCell ?_ ?_ _ | omega | (simp; done) | (simp; omega)))))).mono ?_
              rintro e wa ⟨aoa, ca, rfl, hrA, hba⟩
              have hb8a : Below w8.heap.size w8 wa := Below.trans (hb8b.trans (by (repeat' (first | with_reducible exact Below.refl _ _ | with_reducible assumption | with_reducible refine Below.drew ?_ | with_reducible refine Below_drewN ?_ _ | with_reducible refine Below.alloc ?_ ?_ _ | with_reducible refine Below.setCell ?_ ?_ _ | omega | (simp; done) | (simp; omega))))) (hba.mono (by first | omega | (simp; done) | (simp; omega)))
              have hBa : Below w.heap.size w wa := hB8.trans (hb8a.mono hz8)
              have hz8a := hb8a.size
              clear hba r1 r2 q1 q2
              obtain ⟨r1, r2⟩ := (hT8.under hb8a).cells
              obtain ⟨q1, q2⟩ := (hL8.under hb8a).cells
              have hrAx := fun v (hv : decide ((m : Int) ∈ reaches t l.a) = v) w' (hw' : Below wa.heap.size wa w') => (hv ▸ tin_c _ m _ aoa ca w' (hrA.below hw') : Calls Try.prog 30 #[.slice aoa (reaches t l.a).length ca, .int .i64 m] w' fun e w'' => e = .returned (.bool v) ∧ w'' = w')
              have hrAl := hrA.len_le
              clear hrA
              generalize reaches t l.a = RA at *
              by_cases dA : (m : Int) ∈ RA
              · go_wp2_with fail
                refine (hrAx true (decide_eq_true dA) _ (by (repeat' (first | with_reducible exact Below.refl _ _ | with_reducible assumption | with_reducible refine Below.drew ?_ | with_reducible refine Below_drewN ?_ _ | with_reducible refine Below.alloc ?_ ?_ _ | with_reducible refine Below.setCell ?_ ?_ _ | omega | (simp; done) | (simp; omega))))).mono ?_
                rintro e wq ⟨rfl, rfl⟩
                have hnow : decide ((m : Int) ∈ now) = true := by first | exact decide_eq_true (M.out.2 (by simp [*])) | exact decide_eq_false (fun hh => by have := M.out.1 hh; simp_all)
                clear M
                go_wp2_with fail
                refine (H2 m true hnow _ (hb8a.trans (by (repeat' (first | with_reducible exact Below.refl _ _ | with_reducible assumption | with_reducible refine Below.drew ?_ | with_reducible refine Below_drewN ?_ _ | with_reducible refine Below.alloc ?_ ?_ _ | with_reducible refine Below.setCell ?_ ?_ _ | omega | (simp; done) | (simp; omega)))))).mono ?_
                rintro e wq ⟨rfl, rfl⟩
                go_wp2
                case roundEnd =>
                  go_roundw
                  case rel => exact ⟨m + 1, by go_num, by omega, hb8a.trans (by (repeat' (first | with_reducible exact Below.refl _ _ | with_reducible assumption | with_reducible refine Below.drew ?_ | with_reducible refine Below_drewN ?_ _ | with_reducible refine Below.alloc ?_ ?_ _ | with_reducible refine Below.setCell ?_ ?_ _ | omega | (simp; done) | (simp; omega))))⟩
                  case measure => simp [intOf] <;> omega
              · go_wp2_with fail
                refine (hrAx false (decide_eq_false dA) _ (by (repeat' (first | with_reducible exact Below.refl _ _ | with_reducible assumption | with_reducible refine Below.drew ?_ | with_reducible refine Below_drewN ?_ _ | with_reducible refine Below.alloc ?_ ?_ _ | with_reducible refine Below.setCell ?_ ?_ _ | omega | (simp; done) | (simp; omega))))).mono ?_
                rintro e wq ⟨rfl, rfl⟩
                have hnow : decide ((m : Int) ∈ now) = false := by first | exact decide_eq_true (M.out.2 (by simp [*])) | exact decide_eq_false (fun hh => by have := M.out.1 hh; simp_all)
                clear M
                go_wp2_with fail
                refine (H2 m false hnow _ (hb8a.trans (by (repeat' (first | with_reducible exact Below.refl _ _ | with_reducible assumption | with_reducible refine Below.drew ?_ | with_reducible refine Below_drewN ?_ _ | with_reducible refine Below.alloc ?_ ?_ _ | with_reducible refine Below.setCell ?_ ?_ _ | omega | (simp; done) | (simp; omega)))))).mono ?_
                rintro e wq ⟨rfl, rfl⟩
                go_wp2
                case roundEnd =>
                  go_roundw
                  case rel => exact ⟨m + 1, by go_num, by omega, hb8a.trans (by (repeat' (first | with_reducible exact Below.refl _ _ | with_reducible assumption | with_reducible refine Below.drew ?_ | with_reducible refine Below_drewN ?_ _ | with_reducible refine Below.alloc ?_ ?_ _ | with_reducible refine Below.setCell ?_ ?_ _ | omega | (simp; done) | (simp; omega))))⟩
                  case measure => simp [intOf] <;> omega
            · go_wp2_with fail
              refine (H1 l.b false (decide_eq_false cB) _ (hb8b.trans (by (repeat' (first | with_reducible exact Below.refl _ _ | with_reducible assumption | with_reducible refine Below.drew ?_ | with_reducible refine Below_drewN ?_ _ | with_reducible refine Below.alloc ?_ ?_ _ | with_reducible refine Below.setCell ?_ ?_ _ | omega | (simp; done) | (simp; omega)))))).mono ?_
              rintro e wq ⟨rfl, rfl⟩
              have hnow : decide ((m : Int) ∈ now) = false := decide_eq_false (fun hh => by have := M.out.1 hh; simp_all)
              clear M
              go_wp2_with fail
              refine (H2 m false hnow _ (hb8b.trans (by (repeat' (first | with_reducible exact Below.refl _ _ | with_reducible assumption | with_reducible refine Below.drew ?_ | with_reducible refine Below_drewN ?_ _ | with_reducible refine Below.alloc ?_ ?_ _ | with_reducible refine Below.setCell ?_ ?_ _ | omega | (simp; done) | (simp; omega)))))).mono ?_
              rintro e wq ⟨rfl, rfl⟩
              go_wp2
              case roundEnd =>
                go_roundw
                case rel => exact ⟨m + 1, by go_num, by omega, hb8b.trans (by (repeat' (first | with_reducible exact Below.refl _ _ | with_reducible assumption | with_reducible refine Below.drew ?_ | with_reducible refine Below_drewN ?_ _ | with_reducible refine Below.alloc ?_ ?_ _ | with_reducible refine Below.setCell ?_ ?_ _ | omega | (simp; done) | (simp; omega))))⟩
                case measure => simp [intOf] <;> omega
        · go_wp2_with fail
          refine (H1 l.a false (decide_eq_false cA) _ (hb9.trans (by (repeat' (first | with_reducible exact Below.refl _ _ | with_reducible assumption | with_reducible refine Below.drew ?_ | with_reducible refine Below_drewN ?_ _ | with_reducible refine Below.alloc ?_ ?_ _ | with_reducible refine Below.setCell ?_ ?_ _ | omega | (simp; done) | (simp; omega)))))).mono ?_
          rintro e wq ⟨rfl, rfl⟩
          by_cases cB : l.b ∈ old
          · go_wp2_with fail
            refine (H1 l.b true (decide_eq_true cB) _ (hb9.trans (by (repeat' (first | with_reducible exact Below.refl _ _ | with_reducible assumption | with_reducible refine Below.drew ?_ | with_reducible refine Below_drewN ?_ _ | with_reducible refine Below.alloc ?_ ?_ _ | with_reducible refine Below.setCell ?_ ?_ _ | omega | (simp; done) | (simp; omega)))))).mono ?_
            rintro e wq ⟨rfl, rfl⟩
            go_wp2_with fail
            refine (H3 l.a hl1 _ (hB9.trans (by (repeat' (first | with_reducible exact Below.refl _ _ | with_reducible assumption | with_reducible refine Below.drew ?_ | with_reducible refine Below_drewN ?_ _ | with_reducible refine Below.alloc ?_ ?_ _ | with_reducible refine Below.setCell ?_ ?_ _ | omega | (simp; done) | (simp; omega)))))).mono ?_
            rintro e wa ⟨aoa, ca, rfl, hrA, hba⟩
            have hb8a : Below w8.heap.size w8 wa := Below.trans (hb9.trans (by (repeat' (first | with_reducible exact Below.refl _ _ | with_reducible assumption | with_reducible refine Below.drew ?_ | with_reducible refine Below_drewN ?_ _ | with_reducible refine Below.alloc ?_ ?_ _ | with_reducible refine Below.setCell ?_ ?_ _ | omega | (simp; done) | (simp; omega))))) (hba.mono (by first | omega | (simp; done) | (simp; omega)))
            have hBa : Below w.heap.size w wa := hB8.trans (hb8a.mono hz8)
            have hz8a := hb8a.size
            clear hba r1 r2 q1 q2
            obtain ⟨r1, r2⟩ := (hT8.under hb8a).cells
            obtain ⟨q1, q2⟩ := (hL8.under hb8a).cells
            have hrAx := fun v (hv : decide ((m : Int) ∈ reaches t l.a) = v) w' (hw' : Below wa.heap.size wa w') => (hv ▸ tin_c _ m _ aoa ca w' (hrA.below hw') : Calls Try.prog 30 #[.slice aoa (reaches t l.a).length ca, .int .i64 m] w' fun e w'' => e = .returned (.bool v) ∧ w'' = w')
            have hrAl := hrA.len_le
            clear hrA
            generalize reaches t l.a = RA at *
            by_cases dA : (m : Int) ∈ RA
            · go_wp2_with fail
              refine (hrAx true (decide_eq_true dA) _ (by (repeat' (first | with_reducible exact Below.refl _ _ | with_reducible assumption | with_reducible refine Below.drew ?_ | with_reducible refine Below_drewN ?_ _ | with_reducible refine Below.alloc ?_ ?_ _ | with_reducible refine Below.setCell ?_ ?_ _ | omega | (simp; done) | (simp; omega))))).mono ?_
              rintro e wq ⟨rfl, rfl⟩
              have hnow : decide ((m : Int) ∈ now) = true := by first | exact decide_eq_true (M.out.2 (by simp [*])) | exact decide_eq_false (fun hh => by have := M.out.1 hh; simp_all)
              clear M
              go_wp2_with fail
              refine (H2 m true hnow _ (hb8a.trans (by (repeat' (first | with_reducible exact Below.refl _ _ | with_reducible assumption | with_reducible refine Below.drew ?_ | with_reducible refine Below_drewN ?_ _ | with_reducible refine Below.alloc ?_ ?_ _ | with_reducible refine Below.setCell ?_ ?_ _ | omega | (simp; done) | (simp; omega)))))).mono ?_
              rintro e wq ⟨rfl, rfl⟩
              go_wp2
              case roundEnd =>
                go_roundw
                case rel => exact ⟨m + 1, by go_num, by omega, hb8a.trans (by (repeat' (first | with_reducible exact Below.refl _ _ | with_reducible assumption | with_reducible refine Below.drew ?_ | with_reducible refine Below_drewN ?_ _ | with_reducible refine Below.alloc ?_ ?_ _ | with_reducible refine Below.setCell ?_ ?_ _ | omega | (simp; done) | (simp; omega))))⟩
                case measure => simp [intOf] <;> omega
            · go_wp2_with fail
              refine (hrAx false (decide_eq_false dA) _ (by (repeat' (first | with_reducible exact Below.refl _ _ | with_reducible assumption | with_reducible refine Below.drew ?_ | with_reducible refine Below_drewN ?_ _ | with_reducible refine Below.alloc ?_ ?_ _ | with_reducible refine Below.setCell ?_ ?_ _ | omega | (simp; done) | (simp; omega))))).mono ?_
              rintro e wq ⟨rfl, rfl⟩
              have hnow : decide ((m : Int) ∈ now) = false := by first | exact decide_eq_true (M.out.2 (by simp [*])) | exact decide_eq_false (fun hh => by have := M.out.1 hh; simp_all)
              clear M
              go_wp2_with fail
              refine (H2 m false hnow _ (hb8a.trans (by (repeat' (first | with_reducible exact Below.refl _ _ | with_reducible assumption | with_reducible refine Below.drew ?_ | with_reducible refine Below_drewN ?_ _ | with_reducible refine Below.alloc ?_ ?_ _ | with_reducible refine Below.setCell ?_ ?_ _ | omega | (simp; done) | (simp; omega)))))).mono ?_
              rintro e wq ⟨rfl, rfl⟩
              go_wp2
              case roundEnd =>
                go_roundw
                case rel => exact ⟨m + 1, by go_num, by omega, hb8a.trans (by (repeat' (first | with_reducible exact Below.refl _ _ | with_reducible assumption | with_reducible refine Below.drew ?_ | with_reducible refine Below_drewN ?_ _ | with_reducible refine Below.alloc ?_ ?_ _ | with_reducible refine Below.setCell ?_ ?_ _ | omega | (simp; done) | (simp; omega))))⟩
                case measure => simp [intOf] <;> omega
          · go_wp2_with fail
            refine (H1 l.b false (decide_eq_false cB) _ (hb9.trans (by (repeat' (first | with_reducible exact Below.refl _ _ | with_reducible assumption | with_reducible refine Below.drew ?_ | with_reducible refine Below_drewN ?_ _ | with_reducible refine Below.alloc ?_ ?_ _ | with_reducible refine Below.setCell ?_ ?_ _ | omega | (simp; done) | (simp; omega)))))).mono ?_
            rintro e wq ⟨rfl, rfl⟩
            have hnow : decide ((m : Int) ∈ now) = false := decide_eq_false (fun hh => by have := M.out.1 hh; simp_all)
            clear M
            go_wp2_with fail
            refine (H2 m false hnow _ (hb9.trans (by (repeat' (first | with_reducible exact Below.refl _ _ | with_reducible assumption | with_reducible refine Below.drew ?_ | with_reducible refine Below_drewN ?_ _ | with_reducible refine Below.alloc ?_ ?_ _ | with_reducible refine Below.setCell ?_ ?_ _ | omega | (simp; done) | (simp; omega)))))).mono ?_
            rintro e wq ⟨rfl, rfl⟩
            go_wp2
            case roundEnd =>
              go_roundw
              case rel => exact ⟨m + 1, by go_num, by omega, hb9.trans (by (repeat' (first | with_reducible exact Below.refl _ _ | with_reducible assumption | with_reducible refine Below.drew ?_ | with_reducible refine Below_drewN ?_ _ | with_reducible refine Below.alloc ?_ ?_ _ | with_reducible refine Below.setCell ?_ ?_ _ | omega | (simp; done) | (simp; omega))))⟩
              case measure => simp [intOf] <;> omega

end Go.Proofs.Ytflhmpmdpdekeaa
