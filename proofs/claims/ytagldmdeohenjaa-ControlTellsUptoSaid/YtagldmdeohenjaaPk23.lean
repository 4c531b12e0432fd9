/-
  The walk of the document's Wrong.
-/
import Derived.WalkKit
import Derived.WalkSpells
import Derived.WalkLawsBesides
import Derived.Lib.Hide
import Derived.Deep.LoopGhost
import Derived.Deep.QuietTactic
import Derived.BigQuiet
import Derived.Deep.RegionWith
import Derived.Handy
import Derived.Test.YtagldmdeohenjaaPk20
import Derived.Test.YtagldmdeohenjaaPk22
set_option linter.unusedSimpArgs false
set_option linter.unusedVariables false
namespace Go.St
open Go.RowKit

theorem pair_is (l k : Link) : linkPair l = linkPair k ↔ linkIs l.a l.b k = true := by
  simp only [linkPair, linkIs, Prod.mk.injEq, Bool.or_eq_true, Bool.and_eq_true, beq_iff_eq]
  omega
theorem pair_in (l : Link) (ls : List Link) : linkPair l ∈ ls.map linkPair ↔ ls.any (fun k => linkIs l.a l.b k) = true := by
  simp only [List.mem_map, List.any_eq_true]
  constructor
  · rintro ⟨k, h1, h2⟩; exact ⟨k, h1, (pair_is l k).1 h2.symm⟩
  · rintro ⟨k, h1, h2⟩; exact ⟨k, h1, ((pair_is l k).2 h2).symm⟩
theorem any_next {p : Link → Bool} {ls : List Link} {m : Nat} {k : Link} (h : (ls.take m).any p = false) (hk : ls[m]? = some k) : (ls.take (m + 1)).any p = p k := by
  obtain ⟨hm, rfl⟩ := List.getElem?_eq_some_iff.1 hk
  rw [List.take_succ_eq_append_getElem hm, List.any_append, h]
  simp
theorem any_more {p : Link → Bool} {ls : List Link} {m j : Nat} (hm : m ≤ j) (h : (ls.take m).any p = true) : (ls.take j).any p = true := by
  obtain ⟨x, hx, hp⟩ := List.any_eq_true.1 h
  refine List.any_eq_true.2 ⟨x, ?_, hp⟩
  have : ls.take m <+: ls.take j := List.take_prefix_take_left hm
  exact this.subset hx
end Go.St
namespace Go.Proofs.Ytagldmdeohenjaa
open Go.RowKit Go.St

set_option maxRecDepth 100000 in
set_option maxHeartbeats 8000000 in
theorem refWrong_c (t : Topo) (cs : List Value) (ok : Nat → Prop) (w : World) (h : topoS.rep ok w cs t) :
    Calls Try.prog 36 #[.agg cs.toArray] w fun e w' => e = .returned (.agg #[.int .i64 (topoWrong t).1, .int .i64 (topoWrong t).2]) ∧ Below w.heap.size w w' := by
  obtain ⟨la, lc, rfl, hn, hr⟩ := h
  obtain ⟨n, ls⟩ := t
  dsimp only at *
  have hlx := hr.len_le
  by_cases h0 : n < 1 ∨ 8 < n ∨ 28 < ls.length
  · have hw : topoWrong ⟨n, ls⟩ = (5, 0) := by unfold topoWrong; rw [if_pos h0]
    rw [hw]
    clear hw
    by_cases p1 : n < 1
    · go_enter Try.func36, Try.ntmps36
      go_wp2
      refine bodyPost_ret (v := .agg #[.int .i64 5, .int .i64 0]) (by simp [results, Try.results36, go_sem]) rfl ⟨rfl, by (repeat' (first | with_reducible exact Below.refl _ _ | with_reducible assumption | with_reducible refine Below.drew ?_ | with_reducible refine Below_drewN ?_ _ | with_reducible refine Below.alloc ?_ ?_ _ | with_reducible refine Below.setCell ?_ ?_ _ | omega | (simp; done) | (simp; omega)))⟩
    by_cases p2 : 8 < n
    · go_enter Try.func36, Try.ntmps36
      go_wp2
      refine bodyPost_ret (v := .agg #[.int .i64 5, .int .i64 0]) (by simp [results, Try.results36, go_sem]) rfl ⟨rfl, by (repeat' (first | with_reducible exact Below.refl _ _ | with_reducible assumption | with_reducible refine Below.drew ?_ | with_reducible refine Below_drewN ?_ _ | with_reducible refine Below.alloc ?_ ?_ _ | with_reducible refine Below.setCell ?_ ?_ _ | omega | (simp; done) | (simp; omega)))⟩
    have p3 : (28 : Int) < (ls.length : Int) := by omega
    clear h0
    go_enter Try.func36, Try.ntmps36
    go_wp2
    refine bodyPost_ret (v := .agg #[.int .i64 5, .int .i64 0]) (by simp [results, Try.results36, go_sem]) rfl ⟨rfl, by (repeat' (first | with_reducible exact Below.refl _ _ | with_reducible assumption | with_reducible refine Below.drew ?_ | with_reducible refine Below_drewN ?_ _ | with_reducible refine Below.alloc ?_ ?_ _ | with_reducible refine Below.setCell ?_ ?_ _ | omega | (simp; done) | (simp; omega)))⟩
  have hw : topoWrong ⟨n, ls⟩ = linksBad n [] 0 ls := by unfold topoWrong; rw [if_neg h0]
  have hst : Hid (topoWrong ⟨n, ls⟩ = linksBad n ((ls.take 0).map linkPair) ((0 : Nat) : Int) (ls.drop 0)) := hw
  generalize topoWrong ⟨n, ls⟩ = c at *
  clear hw
  have p1 : ¬ n < 1 := by omega
  have p2 : ¬ 8 < n := by omega
  have p3 : ¬ (28 : Int) < (ls.length : Int) := by omega
  have hl28 : ls.length ≤ 28 := by omega
  clear h0
  go_enter Try.func36, Try.ntmps36
  go_wp2
  go_loopw [3, 4, 5, 7, 26] (fun _ _ _ _ i wr => ∃ j : Nat, j ≤ ls.length ∧ i = .int .i64 j ∧ Hid (c = linksBad n ((ls.take j).map linkPair) j (ls.drop j)) ∧ Below w.heap.size w wr ∧
      blockIs wr w.heap.size 24 #[.int .i64 n, .slice la ls.length lc] ∧ blockIs wr (w.heap.size + 1) 66 #[.int .i64 0, .int .i64 0]) (fun _ _ _ _ i _ => ls.length - (intOf i).toNat)
  case atStart => exact ⟨0, Nat.zero_le _, rfl, hst, by (repeat' (first | with_reducible exact Below.refl _ _ | with_reducible assumption | with_reducible refine Below.drew ?_ | with_reducible refine Below_drewN ?_ _ | with_reducible refine Below.alloc ?_ ?_ _ | with_reducible refine Below.setCell ?_ ?_ _ | omega | (simp; done) | (simp; omega))), (blockIs.new rfl).alloc _, (blockIs.new (by simp))⟩
  case round =>
    obtain ⟨j, hj, rfl, hall, hb, hT, hF⟩ := hrel
    rename World => wo
    obtain ⟨r1, r2⟩ := hT.cells
    obtain ⟨r3, r4⟩ := hF.cells
    have hsz := hF.lt
    by_cases hlt : j < ls.length
    · obtain ⟨g, off, rfl, _, hbl, cs, hcs, hce⟩ := hr.get (List.getElem?_eq_getElem hlt)
      obtain ⟨rfl, _⟩ := hcs
      have e0 := cell_at hb hbl (hce 0 _ rfl)
      have e1 := cell_at hb hbl (hce 1 _ rfl)
      have e2 := cell_at hb hbl (hce 2 _ rfl)
      clear hce
      simp only [linkS, Nat.add_zero] at e0 e1 e2
      have b0 : (0 : Int) ≤ (j : Int) := by omega
      have b1 : (j : Int) < (ls.length : Int) := by omega
      have hz1 : w.heap.size + 1 < wo.heap.size := by omega
      have hz0 : w.heap.size < wo.heap.size := by omega
      have hgo := bad_go (c := c) hlt hall.out
      have hhit := @bad_hit n ls c j hlt hall.out
      generalize hx : ls[j] = x at *
      simp only [linkBad, pair_in] at hgo hhit
      obtain ⟨xa, xb, xc⟩ := x
      dsimp only at *
      clear hall
      by_cases q1 : xa < 0
      · have HH := Lib.hid (hhit (e := 6) (by rw [if_pos (by omega)]) (by decide))
        clear hgo hhit
        go_wp2
        have G := ((((hF.set 0 (.int .i64 6)).set 1 (.int .i64 j)).alloc (.cells #[.int .i64 j] 3)).alloc (.cells #[.int .i64 xa, .int .i64 xb, .int .i64 xc] 90)).alloc (.cells #[.int .i64 6, .int .i64 j] 66)
        obtain ⟨z1, z2⟩ := G.cells
        refine bodyPost_ret (v := .agg #[.int .i64 6, .int .i64 j]) (by simp [results, Try.results36, go_sem, z1]) rfl ⟨by rw [HH.out], by (repeat' (first | with_reducible exact Below.refl _ _ | with_reducible assumption | with_reducible refine Below.drew ?_ | with_reducible refine Below_drewN ?_ _ | with_reducible refine Below.alloc ?_ ?_ _ | with_reducible refine Below.setCell ?_ ?_ _ | omega | (simp; done) | (simp; omega)))⟩
      by_cases q2 : xb < 0
      · have HH := Lib.hid (hhit (e := 6) (by rw [if_pos (by omega)]) (by decide))
        clear hgo hhit
        go_wp2
        have G := ((((hF.set 0 (.int .i64 6)).set 1 (.int .i64 j)).alloc (.cells #[.int .i64 j] 3)).alloc (.cells #[.int .i64 xa, .int .i64 xb, .int .i64 xc] 90)).alloc (.cells #[.int .i64 6, .int .i64 j] 66)
        obtain ⟨z1, z2⟩ := G.cells
        refine bodyPost_ret (v := .agg #[.int .i64 6, .int .i64 j]) (by simp [results, Try.results36, go_sem, z1]) rfl ⟨by rw [HH.out], by (repeat' (first | with_reducible exact Below.refl _ _ | with_reducible assumption | with_reducible refine Below.drew ?_ | with_reducible refine Below_drewN ?_ _ | with_reducible refine Below.alloc ?_ ?_ _ | with_reducible refine Below.setCell ?_ ?_ _ | omega | (simp; done) | (simp; omega)))⟩
      by_cases q3 : n ≤ xa
      · have HH := Lib.hid (hhit (e := 6) (by rw [if_pos (by omega)]) (by decide))
        clear hgo hhit
        go_wp2
        have G := ((((hF.set 0 (.int .i64 6)).set 1 (.int .i64 j)).alloc (.cells #[.int .i64 j] 3)).alloc (.cells #[.int .i64 xa, .int .i64 xb, .int .i64 xc] 90)).alloc (.cells #[.int .i64 6, .int .i64 j] 66)
        obtain ⟨z1, z2⟩ := G.cells
        refine bodyPost_ret (v := .agg #[.int .i64 6, .int .i64 j]) (by simp [results, Try.results36, go_sem, z1]) rfl ⟨by rw [HH.out], by (repeat' (first | with_reducible exact Below.refl _ _ | with_reducible assumption | with_reducible refine Below.drew ?_ | with_reducible refine Below_drewN ?_ _ | with_reducible refine Below.alloc ?_ ?_ _ | with_reducible refine Below.setCell ?_ ?_ _ | omega | (simp; done) | (simp; omega)))⟩
      by_cases q4 : n ≤ xb
      · have HH := Lib.hid (hhit (e := 6) (by rw [if_pos (by omega)]) (by decide))
        clear hgo hhit
        go_wp2
        have G := ((((hF.set 0 (.int .i64 6)).set 1 (.int .i64 j)).alloc (.cells #[.int .i64 j] 3)).alloc (.cells #[.int .i64 xa, .int .i64 xb, .int .i64 xc] 90)).alloc (.cells #[.int .i64 6, .int .i64 j] 66)
        obtain ⟨z1, z2⟩ := G.cells
        refine bodyPost_ret (v := .agg #[.int .i64 6, .int .i64 j]) (by simp [results, Try.results36, go_sem, z1]) rfl ⟨by rw [HH.out], by (repeat' (first | with_reducible exact Below.refl _ _ | with_reducible assumption | with_reducible refine Below.drew ?_ | with_reducible refine Below_drewN ?_ _ | with_reducible refine Below.alloc ?_ ?_ _ | with_reducible refine Below.setCell ?_ ?_ _ | omega | (simp; done) | (simp; omega)))⟩
      have q0 : ¬ (min xa xb < 0 ∨ n ≤ max xa xb) := by omega
      rw [if_neg q0] at hgo
      have hhit' := fun e => by have := @hhit e; rwa [if_neg q0] at this
      clear hhit q0
      have hhit := hhit'
      clear hhit'
      by_cases q5 : xa = xb
      · have q5' : (xa == xb) = true := by rw [q5]; simp
        have HH := Lib.hid (hhit (e := 8) (by rw [if_pos q5]) (by decide))
        clear q5
        clear hgo hhit
        go_wp2
        have G := ((((hF.set 0 (.int .i64 8)).set 1 (.int .i64 j)).alloc (.cells #[.int .i64 j] 3)).alloc (.cells #[.int .i64 xa, .int .i64 xb, .int .i64 xc] 90)).alloc (.cells #[.int .i64 8, .int .i64 j] 66)
        obtain ⟨z1, z2⟩ := G.cells
        refine bodyPost_ret (v := .agg #[.int .i64 8, .int .i64 j]) (by simp [results, Try.results36, go_sem, z1]) rfl ⟨by rw [HH.out], by (repeat' (first | with_reducible exact Below.refl _ _ | with_reducible assumption | with_reducible refine Below.drew ?_ | with_reducible refine Below_drewN ?_ _ | with_reducible refine Below.alloc ?_ ?_ _ | with_reducible refine Below.setCell ?_ ?_ _ | omega | (simp; done) | (simp; omega)))⟩
      have q5' : (xa == xb) = false := by simpa using q5
      rw [if_neg q5] at hgo
      have hhit' := fun e => by have := @hhit e; rwa [if_neg q5] at this
      clear hhit q5
      have hhit := hhit'
      clear hhit'
      by_cases q6 : xc < 1
      · have HH := Lib.hid (hhit (e := 3) (by rw [if_pos (by omega)]) (by decide))
        clear hgo hhit
        go_wp2
        have G := ((((hF.set 0 (.int .i64 3)).set 1 (.int .i64 j)).alloc (.cells #[.int .i64 j] 3)).alloc (.cells #[.int .i64 xa, .int .i64 xb, .int .i64 xc] 90)).alloc (.cells #[.int .i64 3, .int .i64 j] 66)
        obtain ⟨z1, z2⟩ := G.cells
        refine bodyPost_ret (v := .agg #[.int .i64 3, .int .i64 j]) (by simp [results, Try.results36, go_sem, z1]) rfl ⟨by rw [HH.out], by (repeat' (first | with_reducible exact Below.refl _ _ | with_reducible assumption | with_reducible refine Below.drew ?_ | with_reducible refine Below_drewN ?_ _ | with_reducible refine Below.alloc ?_ ?_ _ | with_reducible refine Below.setCell ?_ ?_ _ | omega | (simp; done) | (simp; omega)))⟩
      by_cases q7 : 1000 < xc
      · have HH := Lib.hid (hhit (e := 3) (by rw [if_pos (by omega)]) (by decide))
        clear hgo hhit
        go_wp2
        have G := ((((hF.set 0 (.int .i64 3)).set 1 (.int .i64 j)).alloc (.cells #[.int .i64 j] 3)).alloc (.cells #[.int .i64 xa, .int .i64 xb, .int .i64 xc] 90)).alloc (.cells #[.int .i64 3, .int .i64 j] 66)
        obtain ⟨z1, z2⟩ := G.cells
        refine bodyPost_ret (v := .agg #[.int .i64 3, .int .i64 j]) (by simp [results, Try.results36, go_sem, z1]) rfl ⟨by rw [HH.out], by (repeat' (first | with_reducible exact Below.refl _ _ | with_reducible assumption | with_reducible refine Below.drew ?_ | with_reducible refine Below_drewN ?_ _ | with_reducible refine Below.alloc ?_ ?_ _ | with_reducible refine Below.setCell ?_ ?_ _ | omega | (simp; done) | (simp; omega)))⟩
      have q0 : ¬ (xc < 1 ∨ 1000 < xc) := by omega
      rw [if_neg q0] at hgo
      have hhit' : (ls.take j).any (fun k => linkIs xa xb k) = true → c = (7, (j : Int)) := fun h7 => hhit 7 (by rw [if_neg q0, if_pos h7]) (by decide)
      have hgo' : (ls.take j).any (fun k => linkIs xa xb k) = false → c = linksBad n ((ls.take (j + 1)).map linkPair) ((j + 1 : Nat) : Int) (ls.drop (j + 1)) := fun h0 => hgo (by rw [if_neg (by rw [h0]; simp)])
      have HG := Lib.hid hgo'
      have HH := Lib.hid hhit'
      clear hhit hgo q0 hhit' hgo' hx
      have d2 : (j : Int) ≤ (lc : Int) := by have := hr.1; omega
      have d3 : (j : Int) ≤ (ls.length : Int) := by omega
      have d4 : ((j : Int)).toNat = j := by omega
      have d5 : ((lc : Int)).toNat = lc := by omega
      have hT2 := (hT.alloc (.cells #[.int .i64 j] 3)).alloc (.cells #[.int .i64 xa, .int .i64 xb, .int .i64 xc] 90)
      have hF2 := (hF.alloc (.cells #[.int .i64 j] 3)).alloc (.cells #[.int .i64 xa, .int .i64 xb, .int .i64 xc] 90)
      have hI2 : blockIs ((wo.alloc (.cells #[.int .i64 j] 3)).alloc (.cells #[.int .i64 xa, .int .i64 xb, .int .i64 xc] 90)) wo.heap.size 3 #[.int .i64 j] := (blockIs.new rfl).alloc _
      have hL2 : blockIs ((wo.alloc (.cells #[.int .i64 j] 3)).alloc (.cells #[.int .i64 xa, .int .i64 xb, .int .i64 xc] 90)) (wo.heap.size + 1) 90 #[.int .i64 xa, .int .i64 xb, .int .i64 xc] := blockIs.new (by simp)
      clear hst hn hlx b0
      go_wp2
      clear e0 e1 e2 r1 r2 r3 r4 p1 p2 p3 d2 d3 d4 d5 q1 q2 q3 q4 q6 q7
      go_loopw [7, 78] (fun _ i wr => ∃ m : Nat, m ≤ j ∧ i = .int .i64 m ∧ Hid ((ls.take m).any (fun k => linkIs xa xb k) = false) ∧ Below w.heap.size w wr ∧ blockIs wr w.heap.size 24 #[.int .i64 n, .slice (some ⟨g, off, none⟩) ls.length lc] ∧ blockIs wr (w.heap.size + 1) 66 #[.int .i64 0, .int .i64 0] ∧ blockIs wr wo.heap.size 3 #[.int .i64 j] ∧ blockIs wr (wo.heap.size + 1) 90 #[.int .i64 xa, .int .i64 xb, .int .i64 xc]) (fun _ i _ => j - (intOf i).toNat)
      case atStart => exact ⟨0, Nat.zero_le _, rfl, Lib.hid (by simp), by (repeat' (first | with_reducible exact Below.refl _ _ | with_reducible assumption | with_reducible refine Below.drew ?_ | with_reducible refine Below_drewN ?_ _ | with_reducible refine Below.alloc ?_ ?_ _ | with_reducible refine Below.setCell ?_ ?_ _ | omega | (simp; done) | (simp; omega))), hT2, hF2, hI2, hL2⟩
      case round =>
        obtain ⟨m, hm, rfl, hany, hb3, hT3, hF3, hI3, hL3⟩ := hrel
        clear hT2 hF2 hI2 hL2
        obtain ⟨s1, s2⟩ := hI3.cells
        obtain ⟨s3, s4⟩ := hL3.cells
        obtain ⟨s5, s6⟩ := hF3.cells
        have hs7 := hL3.lt
        have hs8 : wo.heap.size < wr.heap.size := by omega
        have hs9 : w.heap.size + 1 < wr.heap.size := by omega
        have hs10 : w.heap.size < wr.heap.size := by omega
        by_cases hmj : m < j
        case neg =>
          obtain rfl : m = j := by omega
          have HGG := Lib.hid (HG.out hany.out)
          have hml' : m + 1 ≤ ls.length := by omega
          clear HG HH
          go_wp2
          case roundEnd =>
            go_roundw
            case rel => exact ⟨m + 1, hml', by go_num, HGG, hb3, hT3, hF3⟩
            case measure => simp [intOf]; omega
        have hml : m < ls.length := by omega
        obtain ⟨k, hk⟩ : ∃ k, ls[m]? = some k := ⟨_, List.getElem?_eq_getElem hml⟩
        have hrr := hr
        clear hr
        obtain ⟨g', off', hgg, _, hbl', cs, hcs, hce⟩ := hrr.get hk
        obtain ⟨rfl, rfl⟩ : g = g' ∧ off = off' := by simpa using hgg
        obtain ⟨rfl, _⟩ := hcs
        have f0 := cell_at hb3 hbl' (hce 0 _ rfl)
        have f1 := cell_at hb3 hbl' (hce 1 _ rfl)
        have f2 := cell_at hb3 hbl' (hce 2 _ rfl)
        clear hce hgg
        simp only [linkS, Nat.add_zero] at f0 f1 f2
        have HN := any_next hany.out hk
        obtain ⟨ka, kb, kc⟩ := k
        simp only [linkIs] at HN
        dsimp only at *
        have b2 : (m : Int) < (j : Int) := by omega
        clear hk
        cases k1 : (ka == xa) with
        | true =>
          cases k2 : (kb == xb) with
          | true =>
            simp only [k1, k2, Bool.true_and, Bool.false_and, Bool.and_false, Bool.and_true, Bool.or_false, Bool.false_or, Bool.true_or, Bool.or_true, Bool.and_self, Bool.or_self] at HN
            have HT := Lib.hid (HH.out (any_more (show m + 1 ≤ j by omega) (show (ls.take (m + 1)).any (fun k => linkIs xa xb k) = true from HN)))
            clear HN HG HH hlt hmj hml hrr
            go_wp2
            obtain ⟨z1, z2⟩ := ((((hF3.set 0 (.int .i64 7)).set 1 (.int .i64 j)).alloc (.cells #[.int .i64 ka, .int .i64 kb, .int .i64 kc] 90)).alloc (.cells #[.int .i64 7, .int .i64 j] 66)).cells
            refine bodyPost_ret (v := .agg #[.int .i64 7, .int .i64 j]) (by simp [results, Try.results36, go_sem, z1]) rfl ⟨by rw [HT.out], by (repeat' (first | with_reducible exact Below.refl _ _ | with_reducible assumption | with_reducible refine Below.drew ?_ | with_reducible refine Below_drewN ?_ _ | with_reducible refine Below.alloc ?_ ?_ _ | with_reducible refine Below.setCell ?_ ?_ _ | omega | (simp; done) | (simp; omega)))⟩
          | false =>
            cases k3 : (ka == xb) with
            | true =>
              cases k4 : (kb == xa) with
              | true =>
                simp only [k1, k2, k3, k4, Bool.true_and, Bool.false_and, Bool.and_false, Bool.and_true, Bool.or_false, Bool.false_or, Bool.true_or, Bool.or_true, Bool.and_self, Bool.or_self] at HN
                have HT := Lib.hid (HH.out (any_more (show m + 1 ≤ j by omega) (show (ls.take (m + 1)).any (fun k => linkIs xa xb k) = true from HN)))
                clear HN HG HH hlt hmj hml hrr
                go_wp2
                obtain ⟨z1, z2⟩ := ((((hF3.set 0 (.int .i64 7)).set 1 (.int .i64 j)).alloc (.cells #[.int .i64 ka, .int .i64 kb, .int .i64 kc] 90)).alloc (.cells #[.int .i64 7, .int .i64 j] 66)).cells
                refine bodyPost_ret (v := .agg #[.int .i64 7, .int .i64 j]) (by simp [results, Try.results36, go_sem, z1]) rfl ⟨by rw [HT.out], by (repeat' (first | with_reducible exact Below.refl _ _ | with_reducible assumption | with_reducible refine Below.drew ?_ | with_reducible refine Below_drewN ?_ _ | with_reducible refine Below.alloc ?_ ?_ _ | with_reducible refine Below.setCell ?_ ?_ _ | omega | (simp; done) | (simp; omega)))⟩
              | false =>
                simp only [k1, k2, k3, k4, Bool.true_and, Bool.false_and, Bool.and_false, Bool.and_true, Bool.or_false, Bool.false_or, Bool.true_or, Bool.or_true, Bool.and_self, Bool.or_self] at HN
                have HF := Lib.hid (show (ls.take (m + 1)).any (fun k => linkIs xa xb k) = false from HN)
                clear HN HG HH hlt hml hrr
                go_wp2
                case roundEnd =>
                  go_roundw
                  case rel => exact ⟨m + 1, by omega, by go_num, HF, by (repeat' (first | with_reducible exact Below.refl _ _ | with_reducible assumption | with_reducible refine Below.drew ?_ | with_reducible refine Below_drewN ?_ _ | with_reducible refine Below.alloc ?_ ?_ _ | with_reducible refine Below.setCell ?_ ?_ _ | omega | (simp; done) | (simp; omega))), hT3.alloc _, hF3.alloc _, hI3.alloc _, hL3.alloc _⟩
                  case measure => simp [intOf]; omega
            | false =>
              simp only [k1, k2, k3, Bool.true_and, Bool.false_and, Bool.and_false, Bool.and_true, Bool.or_false, Bool.false_or, Bool.true_or, Bool.or_true, Bool.and_self, Bool.or_self] at HN
              have HF := Lib.hid (show (ls.take (m + 1)).any (fun k => linkIs xa xb k) = false from HN)
              clear HN HG HH hlt hml hrr
              go_wp2
              case roundEnd =>
                go_roundw
                case rel => exact ⟨m + 1, by omega, by go_num, HF, by (repeat' (first | with_reducible exact Below.refl _ _ | with_reducible assumption | with_reducible refine Below.drew ?_ | with_reducible refine Below_drewN ?_ _ | with_reducible refine Below.alloc ?_ ?_ _ | with_reducible refine Below.setCell ?_ ?_ _ | omega | (simp; done) | (simp; omega))), hT3.alloc _, hF3.alloc _, hI3.alloc _, hL3.alloc _⟩
                case measure => simp [intOf]; omega
        | false =>
          cases k3 : (ka == xb) with
          | true =>
            cases k4 : (kb == xa) with
            | true =>
              simp only [k1, k3, k4, Bool.true_and, Bool.false_and, Bool.and_false, Bool.and_true, Bool.or_false, Bool.false_or, Bool.true_or, Bool.or_true, Bool.and_self, Bool.or_self] at HN
              have HT := Lib.hid (HH.out (any_more (show m + 1 ≤ j by omega) (show (ls.take (m + 1)).any (fun k => linkIs xa xb k) = true from HN)))
              clear HN HG HH hlt hmj hml hrr
              go_wp2
              obtain ⟨z1, z2⟩ := ((((hF3.set 0 (.int .i64 7)).set 1 (.int .i64 j)).alloc (.cells #[.int .i64 ka, .int .i64 kb, .int .i64 kc] 90)).alloc (.cells #[.int .i64 7, .int .i64 j] 66)).cells
              refine bodyPost_ret (v := .agg #[.int .i64 7, .int .i64 j]) (by simp [results, Try.results36, go_sem, z1]) rfl ⟨by rw [HT.out], by (repeat' (first | with_reducible exact Below.refl _ _ | with_reducible assumption | with_reducible refine Below.drew ?_ | with_reducible refine Below_drewN ?_ _ | with_reducible refine Below.alloc ?_ ?_ _ | with_reducible refine Below.setCell ?_ ?_ _ | omega | (simp; done) | (simp; omega)))⟩
            | false =>
              simp only [k1, k3, k4, Bool.true_and, Bool.false_and, Bool.and_false, Bool.and_true, Bool.or_false, Bool.false_or, Bool.true_or, Bool.or_true, Bool.and_self, Bool.or_self] at HN
              have HF := Lib.hid (show (ls.take (m + 1)).any (fun k => linkIs xa xb k) = false from HN)
              clear HN HG HH hlt hml hrr
              go_wp2
              case roundEnd =>
                go_roundw
                case rel => exact ⟨m + 1, by omega, by go_num, HF, by (repeat' (first | with_reducible exact Below.refl _ _ | with_reducible assumption | with_reducible refine Below.drew ?_ | with_reducible refine Below_drewN ?_ _ | with_reducible refine Below.alloc ?_ ?_ _ | with_reducible refine Below.setCell ?_ ?_ _ | omega | (simp; done) | (simp; omega))), hT3.alloc _, hF3.alloc _, hI3.alloc _, hL3.alloc _⟩
                case measure => simp [intOf]; omega
          | false =>
            simp only [k1, k3, Bool.true_and, Bool.false_and, Bool.and_false, Bool.and_true, Bool.or_false, Bool.false_or, Bool.true_or, Bool.or_true, Bool.and_self, Bool.or_self] at HN
            have HF := Lib.hid (show (ls.take (m + 1)).any (fun k => linkIs xa xb k) = false from HN)
            clear HN HG HH hlt hml hrr
            go_wp2
            case roundEnd =>
              go_roundw
              case rel => exact ⟨m + 1, by omega, by go_num, HF, by (repeat' (first | with_reducible exact Below.refl _ _ | with_reducible assumption | with_reducible refine Below.drew ?_ | with_reducible refine Below_drewN ?_ _ | with_reducible refine Below.alloc ?_ ?_ _ | with_reducible refine Below.setCell ?_ ?_ _ | omega | (simp; done) | (simp; omega))), hT3.alloc _, hF3.alloc _, hI3.alloc _, hL3.alloc _⟩
              case measure => simp [intOf]; omega
    · have HE := Lib.hid (bad_end hlt hall.out)
      have b1 : ¬ (j : Int) < (ls.length : Int) := by omega
      clear hall
      go_wp2
      have G := ((hF.set 0 (.int .i64 0)).set 1 (.int .i64 0))
      obtain ⟨z1, z2⟩ := G.cells
      refine bodyPost_ret (v := .agg #[.int .i64 0, .int .i64 0]) (by simp [results, Try.results36, go_sem, z1]) rfl ⟨by rw [HE.out], by (repeat' (first | with_reducible exact Below.refl _ _ | with_reducible assumption | with_reducible refine Below.drew ?_ | with_reducible refine Below_drewN ?_ _ | with_reducible refine Below.alloc ?_ ?_ _ | with_reducible refine Below.setCell ?_ ?_ _ | omega | (simp; done) | (simp; omega)))⟩

end Go.Proofs.Ytagldmdeohenjaa
