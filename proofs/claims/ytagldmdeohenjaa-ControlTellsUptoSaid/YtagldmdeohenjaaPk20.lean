/-
  The walk of package topo's Wrong.
-/
import Derived.WalkKit
import Derived.WalkSpells
import Derived.WalkLawsBesides
import Derived.Lib.Hide
import Derived.Deep.LoopGhost
import Derived.Deep.QuietTactic
import Derived.BigQuiet
import Derived.Deep.RegionWith
import Derived.Handy
import Derived.Test.YtagldmdeohenjaaPk17
import Derived.Test.YtagldmdeohenjaaPk7
set_option linter.unusedSimpArgs false
set_option linter.unusedVariables false
namespace Go.St
theorem bad_go {n : Int} {ls : List Link} {c : Int × Int} {j : Nat} (hj : j < ls.length) (h : c = linksBad n ((ls.take j).map linkPair) j (ls.drop j)) (hl : linkBad n ((ls.take j).map linkPair) ls[j] = 0) :
    c = linksBad n ((ls.take (j + 1)).map linkPair) ((j + 1 : Nat) : Int) (ls.drop (j + 1)) := by
  rw [h, List.drop_eq_getElem_cons hj, linksBad, if_pos hl, List.take_succ_eq_append_getElem hj, List.map_append]
  rfl
theorem bad_hit {n : Int} {ls : List Link} {c : Int × Int} {j : Nat} (hj : j < ls.length) (h : c = linksBad n ((ls.take j).map linkPair) j (ls.drop j)) {e : Int} (hl : linkBad n ((ls.take j).map linkPair) ls[j] = e) (he : e ≠ 0) : c = (e, (j : Int)) := by
  rw [h, List.drop_eq_getElem_cons hj, linksBad, hl, if_neg he]
theorem bad_end {n : Int} {ls : List Link} {c : Int × Int} {j : Nat} (hj : ¬ j < ls.length) (h : c = linksBad n ((ls.take j).map linkPair) j (ls.drop j)) : c = (0, 0) := by
  rw [h, List.drop_of_length_le (by omega)]; rfl
theorem getE_nil {κ : Type} [DecidableEq κ] (k : κ) : getE k [] = none := rfl
theorem findE_at {κ : Type} [DecidableEq κ] (k : κ) : ∀ (l : List (κ × Value)) (i j : Nat), (findE k l i).map (·.2) = (findE k l j).map (·.2)
  | [], _, _ => rfl
  | (a, v) :: r, i, j => by
    simp only [findE]
    by_cases h : k = a
    · simp [h]
    · simp only [if_neg h]; exact findE_at k r _ _
theorem getE_cons {κ : Type} [DecidableEq κ] (k a : κ) (v : Value) (r : List (κ × Value)) : getE k ((a, v) :: r) = if k = a then some v else getE k r := by
  unfold getE
  simp only [findE]
  by_cases h : k = a
  · simp [h]
  · simp only [if_neg h]; exact findE_at k r _ _
theorem getE_setE {κ : Type} [DecidableEq κ] (k p : κ) (v : Value) : ∀ l : List (κ × Value), getE p (setE k v l) = if p = k then some v else getE p l
  | [] => by simp [setE, getE_cons, getE_nil]
  | (a, u) :: r => by
    simp only [setE]
    by_cases h : k = a
    · subst h
      rw [if_pos rfl, getE_cons, getE_cons]
      by_cases h2 : p = k <;> simp [h2]
    · rw [if_neg h, getE_cons, getE_cons, getE_setE k p v r]
      by_cases h2 : p = a
      · subst h2
        have : ¬ p = k := fun e => h e.symm
        simp [this]
      · simp [h2]
/-- a map that holds true at just those keys -/
def trueAt (ents : List ((Int × Int) × Value)) (had : List (Int × Int)) : Prop := ∀ p, (getE p ents).getD (.bool false) = .bool (decide (p ∈ had))
theorem trueAt.nil : trueAt [] [] := fun p => by simp [getE_nil]
theorem trueAt.set {ents : List ((Int × Int) × Value)} {had : List (Int × Int)} (h : trueAt ents had) (k : Int × Int) : trueAt (setE k (.bool true) ents) (had ++ [k]) := by
  intro p
  rw [getE_setE]
  by_cases hp : p = k
  · simp [hp]
  · rw [if_neg hp, h p]; simp [hp]
end Go.St
namespace Go.Proofs.Ytagldmdeohenjaa
open Go.RowKit Go.St

theorem FZ : Hid (∀ w, (zeroValue 4).run Try.prog w = .ok (.bool false) w) := fun w => by kernel_rfl

set_option maxRecDepth 100000 in
set_option maxHeartbeats 8000000 in
theorem topoWrong_c (t : Topo) (cs : List Value) (ok : Nat → Prop) (w : World) (h : topoS.rep ok w cs t) :
    Calls Try.prog 26 #[.agg cs.toArray] w fun e w' => e = .returned (.agg #[.int .i64 (topoWrong t).1, .int .i64 (topoWrong t).2]) ∧ Below w.heap.size w w' := by
  obtain ⟨la, lc, rfl, hn, hr⟩ := h
  obtain ⟨n, ls⟩ := t
  dsimp only at *
  have hlx := hr.len_le
  have hmm := @run_makeMap Try.prog
  by_cases h0 : n < 1 ∨ 8 < n ∨ 28 < ls.length
  · have hw : topoWrong ⟨n, ls⟩ = (5, 0) := by unfold topoWrong; rw [if_pos h0]
    rw [hw]
    clear hw
    by_cases p1 : n < 1
    · go_enter Try.func26, Try.ntmps26
      go_wp2
      refine bodyPost_ret (v := .agg #[.int .i64 5, .int .i64 0]) (by simp [results, Try.results26, go_sem]) rfl ⟨rfl, by (repeat' (first | with_reducible exact Below.refl _ _ | with_reducible assumption | with_reducible refine Below.drew ?_ | with_reducible refine Below_drewN ?_ _ | with_reducible refine Below.alloc ?_ ?_ _ | with_reducible refine Below.setCell ?_ ?_ _ | omega | (simp; done) | (simp; omega)))⟩
    by_cases p2 : 8 < n
    · go_enter Try.func26, Try.ntmps26
      go_wp2
      refine bodyPost_ret (v := .agg #[.int .i64 5, .int .i64 0]) (by simp [results, Try.results26, go_sem]) rfl ⟨rfl, by (repeat' (first | with_reducible exact Below.refl _ _ | with_reducible assumption | with_reducible refine Below.drew ?_ | with_reducible refine Below_drewN ?_ _ | with_reducible refine Below.alloc ?_ ?_ _ | with_reducible refine Below.setCell ?_ ?_ _ | omega | (simp; done) | (simp; omega)))⟩
    have p3 : (28 : Int) < (ls.length : Int) := by omega
    clear h0
    go_enter Try.func26, Try.ntmps26
    go_wp2
    refine bodyPost_ret (v := .agg #[.int .i64 5, .int .i64 0]) (by simp [results, Try.results26, go_sem]) rfl ⟨rfl, by (repeat' (first | with_reducible exact Below.refl _ _ | with_reducible assumption | with_reducible refine Below.drew ?_ | with_reducible refine Below_drewN ?_ _ | with_reducible refine Below.alloc ?_ ?_ _ | with_reducible refine Below.setCell ?_ ?_ _ | omega | (simp; done) | (simp; omega)))⟩
  have hw : topoWrong ⟨n, ls⟩ = linksBad n [] 0 ls := by unfold topoWrong; rw [if_neg h0]
  have hst : Hid (topoWrong ⟨n, ls⟩ = linksBad n ((ls.take 0).map linkPair) ((0 : Nat) : Int) (ls.drop 0)) := hw
  generalize topoWrong ⟨n, ls⟩ = c at *
  clear hw
  have p1 : ¬ n < 1 := by omega
  have p2 : ¬ 8 < n := by omega
  have p3 : ¬ (28 : Int) < (ls.length : Int) := by omega
  clear h0
  go_enter Try.func26, Try.ntmps26
  go_wp2
  go_loopw [4, 5, 6, 26] (fun _ _ _ i wr => ∃ (j : Nat) (ents : List ((Int × Int) × Value)), j ≤ ls.length ∧ i = .int .i64 j ∧ Hid (c = linksBad n ((ls.take j).map linkPair) j (ls.drop j)) ∧ Hid (trueAt ents ((ls.take j).map linkPair)) ∧ mapIs encP wr (w.heap.size + 2) ents ∧ Below w.heap.size w wr ∧
      blockIs wr w.heap.size 24 #[.int .i64 n, .slice la ls.length lc] ∧ blockIs wr (w.heap.size + 1) 66 #[.int .i64 0, .int .i64 0]) (fun _ _ _ i _ => ls.length - (intOf i).toNat)
  case atStart => exact ⟨0, [], Nat.zero_le _, rfl, hst, trueAt.nil, mapIs.made' _ _ _ (by simp), by (repeat' (first | with_reducible exact Below.refl _ _ | with_reducible assumption | with_reducible refine Below.drew ?_ | with_reducible refine Below_drewN ?_ _ | with_reducible refine Below.alloc ?_ ?_ _ | with_reducible refine Below.setCell ?_ ?_ _ | omega | (simp; done) | (simp; omega))), ((blockIs.new rfl).alloc _).alloc _, (blockIs.new (by simp)).alloc _⟩
  case round =>
    obtain ⟨j, ents, hj, rfl, hall, hents, hmap, hb, hT, hF⟩ := hrel
    have hsz := hmap.lt
    obtain ⟨r1, r2⟩ := hT.cells
    obtain ⟨r3, r4⟩ := hF.cells
    by_cases hlt : j < ls.length
    · obtain ⟨g, off, rfl, _, hbl, cs, hcs, hce⟩ := hr.get (List.getElem?_eq_getElem hlt)
      obtain ⟨rfl, _⟩ := hcs
      have e0 := cell_at hb hbl (hce 0 _ rfl)
      have e1 := cell_at hb hbl (hce 1 _ rfl)
      have e2 := cell_at hb hbl (hce 2 _ rfl)
      clear hce
      simp only [linkS, Nat.add_zero] at e0 e1 e2
      have b0 : (0 : Int) ≤ (j : Int) := by omega
      have b1 : (j : Int) < (ls.length : Int) := by omega
      have hz1 : w.heap.size + 1 < wr.heap.size := by omega
      have hz0 : w.heap.size < wr.heap.size := by omega
      have hgo := bad_go (c := c) hlt hall.out
      have hhit := @bad_hit n ls c j hlt hall.out
      generalize hx : ls[j] = x at *
      have htk : Hid (ls.take (j + 1) = ls.take j ++ [x]) := by show _ = _; rw [List.take_succ_eq_append_getElem hlt, hx]
      obtain ⟨xa, xb, xc⟩ := x
      dsimp only at *
      clear hx hall
      rcases Int.lt_trichotomy xa xb with o1 | o1 | o1
      · have o2 : ¬ xb < xa := by omega
        have hmin : min xa xb = xa := by omega
        have hmax : max xa xb = xb := by omega
        simp only [linkBad, linkPair, hmin, hmax] at hgo hhit
        by_cases q1 : xa < 0
        · have HH := Lib.hid (hhit (e := 6) (by simp [q1]) (by decide))
          clear hgo hhit
          go_wp2
          have G := (((hF.set 0 (.int .i64 6)).set 1 (.int .i64 j)).alloc (.cells #[.int .i64 xa, .int .i64 xb, .int .i64 xc] 90)).alloc (.cells #[.int .i64 xa, .int .i64 xb] 99)
          obtain ⟨z1, z2⟩ := G.cells
          refine bodyPost_ret (v := .agg #[.int .i64 6, .int .i64 j]) (by simp [results, Try.results26, go_sem, z1]) rfl ⟨by rw [HH.out], by (repeat' (first | with_reducible exact Below.refl _ _ | with_reducible assumption | with_reducible refine Below.drew ?_ | with_reducible refine Below_drewN ?_ _ | with_reducible refine Below.alloc ?_ ?_ _ | with_reducible refine Below.setCell ?_ ?_ _ | omega | (simp; done) | (simp; omega)))⟩
        by_cases q2 : n ≤ xb
        · have HH := Lib.hid (hhit (e := 6) (by simp [q2]) (by decide))
          clear hgo hhit
          go_wp2
          have G := (((hF.set 0 (.int .i64 6)).set 1 (.int .i64 j)).alloc (.cells #[.int .i64 xa, .int .i64 xb, .int .i64 xc] 90)).alloc (.cells #[.int .i64 xa, .int .i64 xb] 99)
          obtain ⟨z1, z2⟩ := G.cells
          refine bodyPost_ret (v := .agg #[.int .i64 6, .int .i64 j]) (by simp [results, Try.results26, go_sem, z1]) rfl ⟨by rw [HH.out], by (repeat' (first | with_reducible exact Below.refl _ _ | with_reducible assumption | with_reducible refine Below.drew ?_ | with_reducible refine Below_drewN ?_ _ | with_reducible refine Below.alloc ?_ ?_ _ | with_reducible refine Below.setCell ?_ ?_ _ | omega | (simp; done) | (simp; omega)))⟩
        have q0 : (xa == xb) = false := by rw [beq_eq_false_iff_ne]; omega
        have q0' : ¬ xa = xb := by omega
        by_cases q3 : xc < 1
        · have HH := Lib.hid (hhit (e := 3) (by simp [q1, q2, q0', q3]) (by decide))
          clear hgo hhit
          go_wp2
          have G := (((hF.set 0 (.int .i64 3)).set 1 (.int .i64 j)).alloc (.cells #[.int .i64 xa, .int .i64 xb, .int .i64 xc] 90)).alloc (.cells #[.int .i64 xa, .int .i64 xb] 99)
          obtain ⟨z1, z2⟩ := G.cells
          refine bodyPost_ret (v := .agg #[.int .i64 3, .int .i64 j]) (by simp [results, Try.results26, go_sem, z1]) rfl ⟨by rw [HH.out], by (repeat' (first | with_reducible exact Below.refl _ _ | with_reducible assumption | with_reducible refine Below.drew ?_ | with_reducible refine Below_drewN ?_ _ | with_reducible refine Below.alloc ?_ ?_ _ | with_reducible refine Below.setCell ?_ ?_ _ | omega | (simp; done) | (simp; omega)))⟩
        by_cases q4 : 1000 < xc
        · have HH := Lib.hid (hhit (e := 3) (by simp [q1, q2, q0', q4]) (by decide))
          clear hgo hhit
          go_wp2
          have G := (((hF.set 0 (.int .i64 3)).set 1 (.int .i64 j)).alloc (.cells #[.int .i64 xa, .int .i64 xb, .int .i64 xc] 90)).alloc (.cells #[.int .i64 xa, .int .i64 xb] 99)
          obtain ⟨z1, z2⟩ := G.cells
          refine bodyPost_ret (v := .agg #[.int .i64 3, .int .i64 j]) (by simp [results, Try.results26, go_sem, z1]) rfl ⟨by rw [HH.out], by (repeat' (first | with_reducible exact Below.refl _ _ | with_reducible assumption | with_reducible refine Below.drew ?_ | with_reducible refine Below_drewN ?_ _ | with_reducible refine Below.alloc ?_ ?_ _ | with_reducible refine Below.setCell ?_ ?_ _ | omega | (simp; done) | (simp; omega)))⟩
        by_cases q5 : (xa, xb) ∈ (ls.take j).map linkPair
        · have HH := Lib.hid (hhit (e := 7) (by simp only [if_neg q0', if_pos q5]; simp [q1, q2, q3, q4]) (by decide))
          have hget : (getE (xa, xb) ents).getD (.bool false) = .bool true := by rw [hents.out]; simp only [q5, decide_true]
          clear hgo hhit q5
          go_wp2_with (refine wpList_lookupM (enc := encP) rfl _ _ 98 rfl 99 4 Try.underlying98 pair_law (hmap.below (B := w.heap.size + 3) (by (repeat' (first | with_reducible exact Below.refl _ _ | with_reducible assumption | with_reducible refine Below.drew ?_ | with_reducible refine Below_drewN ?_ _ | with_reducible refine Below.alloc ?_ ?_ _ | with_reducible refine Below.setCell ?_ ?_ _ | omega | (simp; done) | (simp; omega)))) (by omega)) (xa, xb) (.bool false) FZ.out rfl rfl ?_; rw [hget])
          have G := (((hF.set 0 (.int .i64 7)).set 1 (.int .i64 j)).alloc (.cells #[.int .i64 xa, .int .i64 xb, .int .i64 xc] 90)).alloc (.cells #[.int .i64 xa, .int .i64 xb] 99)
          obtain ⟨z1, z2⟩ := G.cells
          refine bodyPost_ret (v := .agg #[.int .i64 7, .int .i64 j]) (by simp [results, Try.results26, go_sem, z1]) rfl ⟨by rw [HH.out], by (repeat' (first | with_reducible exact Below.refl _ _ | with_reducible assumption | with_reducible refine Below.drew ?_ | with_reducible refine Below_drewN ?_ _ | with_reducible refine Below.alloc ?_ ?_ _ | with_reducible refine Below.setCell ?_ ?_ _ | omega | (simp; done) | (simp; omega)))⟩
        have HG := Lib.hid (hgo (by simp only [if_neg q0', if_neg q5]; simp [q1, q2, q3, q4]))
        have hget : (getE (xa, xb) ents).getD (.bool false) = .bool false := by rw [hents.out]; simp only [q5, decide_false]
        have HTT : Hid (trueAt (setE (xa, xb) (.bool true) ents) ((ls.take (j + 1)).map linkPair)) := by
          show trueAt _ _
          rw [htk.out, List.map_append, List.map_cons, List.map_nil, linkPair, hmin, hmax]
          exact hents.out.set _
        clear hgo hhit q5
        go_wp2_with (first
          | (refine wpList_lookupM (enc := encP) rfl _ _ 98 rfl 99 4 Try.underlying98 pair_law (hmap.below (B := w.heap.size + 3) (by (repeat' (first | with_reducible exact Below.refl _ _ | with_reducible assumption | with_reducible refine Below.drew ?_ | with_reducible refine Below_drewN ?_ _ | with_reducible refine Below.alloc ?_ ?_ _ | with_reducible refine Below.setCell ?_ ?_ _ | omega | (simp; done) | (simp; omega)))) (by omega)) (xa, xb) (.bool false) FZ.out rfl rfl ?_; rw [hget])
          | (refine wpList_insertM (enc := encP) rfl _ _ _ 98 (by first | exact Or.inl rfl | exact Or.inr rfl) 99 4 Try.underlying98 pair_law (hmap.below (B := w.heap.size + 3) (by (repeat' (first | with_reducible exact Below.refl _ _ | with_reducible assumption | with_reducible refine Below.drew ?_ | with_reducible refine Below_drewN ?_ _ | with_reducible refine Below.alloc ?_ ?_ _ | with_reducible refine Below.setCell ?_ ?_ _ | omega | (simp; done) | (simp; omega)))) (by omega)) (xa, xb) (.bool true) rfl rfl rfl ?_; go_must (
              intro w3 hm3 hg3
              have hb3 := grown_below (B := w.heap.size + 2) hg3 (fun k hk => by simp at hk; omega) (by simp; omega)
              have G0 : blockIs w3 w.heap.size 24 _ := ((hT.alloc (.cells #[.int .i64 xa, .int .i64 xb, .int .i64 xc] 90)).alloc (.cells #[.int .i64 xa, .int .i64 xb] 99)).below hb3 (by omega)
              have G1 : blockIs w3 (w.heap.size + 1) 66 _ := ((hF.alloc (.cells #[.int .i64 xa, .int .i64 xb, .int .i64 xc] 90)).alloc (.cells #[.int .i64 xa, .int .i64 xb] 99)).below hb3 (by omega)
              have hB3 : Below w.heap.size w w3 := Below.trans (by (repeat' (first | with_reducible exact Below.refl _ _ | with_reducible assumption | with_reducible refine Below.drew ?_ | with_reducible refine Below_drewN ?_ _ | with_reducible refine Below.alloc ?_ ?_ _ | with_reducible refine Below.setCell ?_ ?_ _ | omega | (simp; done) | (simp; omega)))) (hb3.mono (by omega))))
          | fail)
        case roundEnd =>
          go_roundw
          case rel => exact ⟨j + 1, _, by omega, by go_num, HG, HTT, hm3, hB3, G0, G1⟩
          case measure => simp [intOf]; omega
      · subst o1
        have o2 : ¬ xa < xa := by omega
        have hmin : min xa xa = xa := by omega
        have hmax : max xa xa = xa := by omega
        simp only [linkBad, linkPair, hmin, hmax] at hgo hhit
        by_cases q1 : xa < 0
        · have HH := Lib.hid (hhit (e := 6) (by simp [q1]) (by decide))
          clear hgo hhit
          go_wp2
          have G := (((hF.set 0 (.int .i64 6)).set 1 (.int .i64 j)).alloc (.cells #[.int .i64 xa, .int .i64 xa, .int .i64 xc] 90)).alloc (.cells #[.int .i64 xa, .int .i64 xa] 99)
          obtain ⟨z1, z2⟩ := G.cells
          refine bodyPost_ret (v := .agg #[.int .i64 6, .int .i64 j]) (by simp [results, Try.results26, go_sem, z1]) rfl ⟨by rw [HH.out], by (repeat' (first | with_reducible exact Below.refl _ _ | with_reducible assumption | with_reducible refine Below.drew ?_ | with_reducible refine Below_drewN ?_ _ | with_reducible refine Below.alloc ?_ ?_ _ | with_reducible refine Below.setCell ?_ ?_ _ | omega | (simp; done) | (simp; omega)))⟩
        by_cases q2 : n ≤ xa
        · have HH := Lib.hid (hhit (e := 6) (by simp [q2]) (by decide))
          clear hgo hhit
          go_wp2
          have G := (((hF.set 0 (.int .i64 6)).set 1 (.int .i64 j)).alloc (.cells #[.int .i64 xa, .int .i64 xa, .int .i64 xc] 90)).alloc (.cells #[.int .i64 xa, .int .i64 xa] 99)
          obtain ⟨z1, z2⟩ := G.cells
          refine bodyPost_ret (v := .agg #[.int .i64 6, .int .i64 j]) (by simp [results, Try.results26, go_sem, z1]) rfl ⟨by rw [HH.out], by (repeat' (first | with_reducible exact Below.refl _ _ | with_reducible assumption | with_reducible refine Below.drew ?_ | with_reducible refine Below_drewN ?_ _ | with_reducible refine Below.alloc ?_ ?_ _ | with_reducible refine Below.setCell ?_ ?_ _ | omega | (simp; done) | (simp; omega)))⟩
        have HH := Lib.hid (hhit (e := 8) (by simp [q1, q2]) (by decide))
        clear hgo hhit
        go_wp2
        have G := (((hF.set 0 (.int .i64 8)).set 1 (.int .i64 j)).alloc (.cells #[.int .i64 xa, .int .i64 xa, .int .i64 xc] 90)).alloc (.cells #[.int .i64 xa, .int .i64 xa] 99)
        obtain ⟨z1, z2⟩ := G.cells
        refine bodyPost_ret (v := .agg #[.int .i64 8, .int .i64 j]) (by simp [results, Try.results26, go_sem, z1]) rfl ⟨by rw [HH.out], by (repeat' (first | with_reducible exact Below.refl _ _ | with_reducible assumption | with_reducible refine Below.drew ?_ | with_reducible refine Below_drewN ?_ _ | with_reducible refine Below.alloc ?_ ?_ _ | with_reducible refine Below.setCell ?_ ?_ _ | omega | (simp; done) | (simp; omega)))⟩
      · have o2 : ¬ xa < xb := by omega
        have hmin : min xa xb = xb := by omega
        have hmax : max xa xb = xa := by omega
        simp only [linkBad, linkPair, hmin, hmax] at hgo hhit
        by_cases q1 : xb < 0
        · have HH := Lib.hid (hhit (e := 6) (by simp [q1]) (by decide))
          clear hgo hhit
          go_wp2
          have G := (((hF.set 0 (.int .i64 6)).set 1 (.int .i64 j)).alloc (.cells #[.int .i64 xa, .int .i64 xb, .int .i64 xc] 90)).alloc (.cells #[.int .i64 xb, .int .i64 xa] 99)
          obtain ⟨z1, z2⟩ := G.cells
          refine bodyPost_ret (v := .agg #[.int .i64 6, .int .i64 j]) (by simp [results, Try.results26, go_sem, z1]) rfl ⟨by rw [HH.out], by (repeat' (first | with_reducible exact Below.refl _ _ | with_reducible assumption | with_reducible refine Below.drew ?_ | with_reducible refine Below_drewN ?_ _ | with_reducible refine Below.alloc ?_ ?_ _ | with_reducible refine Below.setCell ?_ ?_ _ | omega | (simp; done) | (simp; omega)))⟩
        by_cases q2 : n ≤ xa
        · have HH := Lib.hid (hhit (e := 6) (by simp [q2]) (by decide))
          clear hgo hhit
          go_wp2
          have G := (((hF.set 0 (.int .i64 6)).set 1 (.int .i64 j)).alloc (.cells #[.int .i64 xa, .int .i64 xb, .int .i64 xc] 90)).alloc (.cells #[.int .i64 xb, .int .i64 xa] 99)
          obtain ⟨z1, z2⟩ := G.cells
          refine bodyPost_ret (v := .agg #[.int .i64 6, .int .i64 j]) (by simp [results, Try.results26, go_sem, z1]) rfl ⟨by rw [HH.out], by (repeat' (first | with_reducible exact Below.refl _ _ | with_reducible assumption | with_reducible refine Below.drew ?_ | with_reducible refine Below_drewN ?_ _ | with_reducible refine Below.alloc ?_ ?_ _ | with_reducible refine Below.setCell ?_ ?_ _ | omega | (simp; done) | (simp; omega)))⟩
        have q0 : (xa == xb) = false := by rw [beq_eq_false_iff_ne]; omega
        have q0' : ¬ xa = xb := by omega
        by_cases q3 : xc < 1
        · have HH := Lib.hid (hhit (e := 3) (by simp [q1, q2, q0', q3]) (by decide))
          clear hgo hhit
          go_wp2
          have G := (((hF.set 0 (.int .i64 3)).set 1 (.int .i64 j)).alloc (.cells #[.int .i64 xa, .int .i64 xb, .int .i64 xc] 90)).alloc (.cells #[.int .i64 xb, .int .i64 xa] 99)
          obtain ⟨z1, z2⟩ := G.cells
          refine bodyPost_ret (v := .agg #[.int .i64 3, .int .i64 j]) (by simp [results, Try.results26, go_sem, z1]) rfl ⟨by rw [HH.out], by (repeat' (first | with_reducible exact Below.refl _ _ | with_reducible assumption | with_reducible refine Below.drew ?_ | with_reducible refine Below_drewN ?_ _ | with_reducible refine Below.alloc ?_ ?_ _ | with_reducible refine Below.setCell ?_ ?_ _ | omega | (simp; done) | (simp; omega)))⟩
        by_cases q4 : 1000 < xc
        · have HH := Lib.hid (hhit (e := 3) (by simp [q1, q2, q0', q4]) (by decide))
          clear hgo hhit
          go_wp2
          have G := (((hF.set 0 (.int .i64 3)).set 1 (.int .i64 j)).alloc (.cells #[.int .i64 xa, .int .i64 xb, .int .i64 xc] 90)).alloc (.cells #[.int .i64 xb, .int .i64 xa] 99)
          obtain ⟨z1, z2⟩ := G.cells
          refine bodyPost_ret (v := .agg #[.int .i64 3, .int .i64 j]) (by simp [results, Try.results26, go_sem, z1]) rfl ⟨by rw [HH.out], by (repeat' (first | with_reducible exact Below.refl _ _ | with_reducible assumption | with_reducible refine Below.drew ?_ | with_reducible refine Below_drewN ?_ _ | with_reducible refine Below.alloc ?_ ?_ _ | with_reducible refine Below.setCell ?_ ?_ _ | omega | (simp; done) | (simp; omega)))⟩
        by_cases q5 : (xb, xa) ∈ (ls.take j).map linkPair
        · have HH := Lib.hid (hhit (e := 7) (by simp only [if_neg q0', if_pos q5]; simp [q1, q2, q3, q4]) (by decide))
          have hget : (getE (xb, xa) ents).getD (.bool false) = .bool true := by rw [hents.out]; simp only [q5, decide_true]
          clear hgo hhit q5
          go_wp2_with (refine wpList_lookupM (enc := encP) rfl _ _ 98 rfl 99 4 Try.underlying98 pair_law (hmap.below (B := w.heap.size + 3) (by (repeat' (first | with_reducible exact Below.refl _ _ | with_reducible assumption | with_reducible refine Below.drew ?_ | with_reducible refine Below_drewN ?_ _ | with_reducible refine Below.alloc ?_ ?_ _ | with_reducible refine Below.setCell ?_ ?_ _ | omega | (simp; done) | (simp; omega)))) (by omega)) (xb, xa) (.bool false) FZ.out rfl rfl ?_; rw [hget])
          have G := (((hF.set 0 (.int .i64 7)).set 1 (.int .i64 j)).alloc (.cells #[.int .i64 xa, .int .i64 xb, .int .i64 xc] 90)).alloc (.cells #[.int .i64 xb, .int .i64 xa] 99)
          obtain ⟨z1, z2⟩ := G.cells
          refine bodyPost_ret (v := .agg #[.int .i64 7, .int .i64 j]) (by simp [results, Try.results26, go_sem, z1]) rfl ⟨by rw [HH.out], by (repeat' (first | with_reducible exact Below.refl _ _ | with_reducible assumption | with_reducible refine Below.drew ?_ | with_reducible refine Below_drewN ?_ _ | with_reducible refine Below.alloc ?_ ?_ _ | with_reducible refine Below.setCell ?_ ?_ _ | omega | (simp; done) | (simp; omega)))⟩
        have HG := Lib.hid (hgo (by simp only [if_neg q0', if_neg q5]; simp [q1, q2, q3, q4]))
        have hget : (getE (xb, xa) ents).getD (.bool false) = .bool false := by rw [hents.out]; simp only [q5, decide_false]
        have HTT : Hid (trueAt (setE (xb, xa) (.bool true) ents) ((ls.take (j + 1)).map linkPair)) := by
          show trueAt _ _
          rw [htk.out, List.map_append, List.map_cons, List.map_nil, linkPair, hmin, hmax]
          exact hents.out.set _
        clear hgo hhit q5
        go_wp2_with (first
          | (refine wpList_lookupM (enc := encP) rfl _ _ 98 rfl 99 4 Try.underlying98 pair_law (hmap.below (B := w.heap.size + 3) (by (repeat' (first | with_reducible exact Below.refl _ _ | with_reducible assumption | with_reducible refine Below.drew ?_ | with_reducible refine Below_drewN ?_ _ | with_reducible refine Below.alloc ?_ ?_ _ | with_reducible refine Below.setCell ?_ ?_ _ | omega | (simp; done) | (simp; omega)))) (by omega)) (xb, xa) (.bool false) FZ.out rfl rfl ?_; rw [hget])
          | (refine wpList_insertM (enc := encP) rfl _ _ _ 98 (by first | exact Or.inl rfl | exact Or.inr rfl) 99 4 Try.underlying98 pair_law (hmap.below (B := w.heap.size + 3) (by (repeat' (first | with_reducible exact Below.refl _ _ | with_reducible assumption | with_reducible refine Below.drew ?_ | with_reducible refine Below_drewN ?_ _ | with_reducible refine Below.alloc ?_ ?_ _ | with_reducible refine Below.setCell ?_ ?_ _ | omega | (simp; done) | (simp; omega)))) (by omega)) (xb, xa) (.bool true) rfl rfl rfl ?_; go_must (
              intro w3 hm3 hg3
              have hb3 := grown_below (B := w.heap.size + 2) hg3 (fun k hk => by simp at hk; omega) (by simp; omega)
              have G0 : blockIs w3 w.heap.size 24 _ := ((hT.alloc (.cells #[.int .i64 xa, .int .i64 xb, .int .i64 xc] 90)).alloc (.cells #[.int .i64 xb, .int .i64 xa] 99)).below hb3 (by omega)
              have G1 : blockIs w3 (w.heap.size + 1) 66 _ := ((hF.alloc (.cells #[.int .i64 xa, .int .i64 xb, .int .i64 xc] 90)).alloc (.cells #[.int .i64 xb, .int .i64 xa] 99)).below hb3 (by omega)
              have hB3 : Below w.heap.size w w3 := Below.trans (by (repeat' (first | with_reducible exact Below.refl _ _ | with_reducible assumption | with_reducible refine Below.drew ?_ | with_reducible refine Below_drewN ?_ _ | with_reducible refine Below.alloc ?_ ?_ _ | with_reducible refine Below.setCell ?_ ?_ _ | omega | (simp; done) | (simp; omega)))) (hb3.mono (by omega))))
          | fail)
        case roundEnd =>
          go_roundw
          case rel => exact ⟨j + 1, _, by omega, by go_num, HG, HTT, hm3, hB3, G0, G1⟩
          case measure => simp [intOf]; omega
    · have HE := Lib.hid (bad_end hlt hall.out)
      have b1 : ¬ (j : Int) < (ls.length : Int) := by omega
      have hz1 : w.heap.size + 1 < wr.heap.size := by omega
      clear hall
      go_wp2
      have G := hF.set 0 (.int .i64 0) |>.set 1 (.int .i64 0)
      obtain ⟨z1, z2⟩ := G.cells
      refine bodyPost_ret (v := .agg #[.int .i64 0, .int .i64 0]) (by simp [results, Try.results26, go_sem, z1]) rfl ⟨by rw [HE.out], by (repeat' (first | with_reducible exact Below.refl _ _ | with_reducible assumption | with_reducible refine Below.drew ?_ | with_reducible refine Below_drewN ?_ _ | with_reducible refine Below.alloc ?_ ?_ _ | with_reducible refine Below.setCell ?_ ?_ _ | omega | (simp; done) | (simp; omega)))⟩

end Go.Proofs.Ytagldmdeohenjaa
