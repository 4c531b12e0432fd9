/-
  The walk of the document's WrongFlows.
-/
import Derived.Test.YtpfapfgfchenoaaDoorFlowW
import Derived.Test.YtpfapfgfchenoaaDoorRefK
import Derived.WalkKit
import Derived.WalkSpells
import Derived.WalkLawsBesides
import Derived.Lib.Hide
import Derived.Deep.LoopGhost
import Derived.Deep.QuietTactic
import Derived.BigQuiet
import Derived.Deep.RegionWith
import Derived.Handy
set_option linter.unusedSimpArgs false
set_option linter.unusedVariables false
namespace Go.St
theorem flow_rest {n src dst : Int} {via no : List Int} {c : Int × Int} {j : Nat} {D : Int × Int} (q1 : ¬ (src < 0 ∨ n ≤ src ∨ dst < 0 ∨ n ≤ dst)) (q2 : ¬ src = dst)
    (g0 : flowBad n ⟨src, dst, via, no⟩ = 0 → c = D) (g1 : ∀ {e : Int}, flowBad n ⟨src, dst, via, no⟩ = e → e ≠ 0 → c = (e, (j : Int))) :
    (∀ e, listBad n src dst [] via = e → e ≠ 0 → c = (e, (j : Int))) ∧ (listBad n src dst [] via = 0 → ∀ e, listBad n src dst [] no = e → e ≠ 0 → c = (e, (j : Int))) ∧
      (listBad n src dst [] via = 0 → listBad n src dst [] no = 0 → via.any (fun s => decide (s ∈ no)) = true → c = (8, (j : Int))) ∧
      (listBad n src dst [] via = 0 → listBad n src dst [] no = 0 → via.any (fun s => decide (s ∈ no)) = false → c = D) := by
  unfold flowBad at g0 g1
  dsimp only at g0 g1
  rw [if_neg q1, if_neg q2] at g0
  simp only [if_neg q1, if_neg q2] at g1
  refine ⟨fun e h he => g1 (by rw [if_pos (by rw [h]; exact he)]; exact h) he, fun h0 e h he => g1 (by rw [if_neg (by simp [h0]), if_pos (by rw [h]; exact he)]; exact h) he,
    fun h0 h1 h2 => g1 (by rw [if_neg (by simp [h0]), if_neg (by simp [h1]), if_pos h2]) (by decide), fun h0 h1 h2 => g0 (by rw [if_neg (by simp [h0]), if_neg (by simp [h1]), if_neg (by simp [h2])])⟩
end Go.St
namespace Go.Proofs.YtpfapfgfchenoaaDoor
open Go.RowKit Go.St

set_option maxRecDepth 100000 in
set_option maxHeartbeats 16000000 in
theorem refFlowsWrong_c (l : List Flow) (n : Int) (ok : Nat → Prop) (ax : Option Addr) (cx : Nat) (w : World) (hx : rowRep flowS ok w ax cx l) :
    Calls Tryd.prog 10 #[.slice ax l.length cx, .int .i64 n] w fun e w' => e = .returned (.agg #[.int .i64 (flowsWrong l n).1, .int .i64 (flowsWrong l n).2]) ∧ Below w.heap.size w w' := by
  have hlx := hx.len_le
  by_cases h0 : 12 < l.length
  · have hw : flowsWrong l n = (5, 0) := by unfold flowsWrong; rw [if_pos h0]
    rw [hw]
    have p3 : (12 : Int) < (l.length : Int) := by omega
    clear hw h0
    go_enter Tryd.func10, Tryd.ntmps10
    go_wp2
    refine bodyPost_ret (v := .agg #[.int .i64 5, .int .i64 0]) (by simp [results, Tryd.results10, go_sem]) rfl ⟨rfl, by (repeat' (first | with_reducible (first | exact Below.refl _ _ | assumption | refine Below.drew ?_ | refine Below_drewN ?_ _ | refine Below.alloc ?_ ?_ _ | refine Below.setCell ?_ ?_ _) | omega | (simp; done) | (simp; omega)))⟩
  have hst : Hid (flowsWrong l n = flowsBad n ((0 : Nat) : Int) (l.drop 0)) := by show _ = _; unfold flowsWrong; rw [if_neg h0]; rfl
  generalize flowsWrong l n = c at *
  have p0 : ¬ (12 : Int) < (l.length : Int) := by omega
  have hl12 : l.length ≤ 12 := by omega
  clear h0 hlx
  go_enter Tryd.func10, Tryd.ntmps10
  go_wp2
  clear p0
  go_loopw [5, 6, 7, 9, 10, 11, 13, 20] (fun _ _ _ _ _ _ _ i wr => ∃ j : Nat, j ≤ l.length ∧ i = .int .i64 j ∧ Hid (c = flowsBad n j (l.drop j)) ∧ Below w.heap.size w wr ∧ blockIs wr w.heap.size 25 #[.int .i64 0, .int .i64 0]) (fun _ _ _ _ _ _ _ i _ => l.length - (intOf i).toNat)
  case atStart => exact ⟨0, Nat.zero_le _, rfl, hst, by (repeat' (first | with_reducible (first | exact Below.refl _ _ | assumption | refine Below.drew ?_ | refine Below_drewN ?_ _ | refine Below.alloc ?_ ?_ _ | refine Below.setCell ?_ ?_ _) | omega | (simp; done) | (simp; omega))), blockIs.new rfl⟩
  case round =>
    obtain ⟨j, hj, rfl, hall, hb, hF⟩ := hrel
    rename World => wo
    clear hst
    have hsz := hF.lt
    obtain ⟨r3, r4⟩ := hF.cells
    by_cases hlt : j < l.length
    case neg =>
      have HE := Lib.hid (fls_end hlt hall.out)
      have b1 : ¬ (j : Int) < (l.length : Int) := by omega
      clear hall
      go_wp2
      have G := (hF.set 0 (.int .i64 0)).set 1 (.int .i64 0)
      obtain ⟨z1, z2⟩ := G.cells
      refine bodyPost_ret (v := .agg #[.int .i64 0, .int .i64 0]) (by simp [results, Tryd.results10, go_sem, z1]) rfl ⟨by rw [HE.out], by (repeat' (first | with_reducible (first | exact Below.refl _ _ | assumption | refine Below.drew ?_ | refine Below_drewN ?_ _ | refine Below.alloc ?_ ?_ _ | refine Below.setCell ?_ ?_ _) | omega | (simp; done) | (simp; omega)))⟩
    obtain ⟨g, off, rfl, _, hbl, cs, hcs, hce⟩ := hx.get (List.getElem?_eq_getElem hlt)
    obtain ⟨va, vc, na, nc, rfl, _, _, hv, hn⟩ := hcs
    have g0 := fls_go (n := n) (c := c) hlt hall.out
    have g1 := @fls_hit n l c j hlt hall.out
    clear hall
    generalize l[j] = x at *
    obtain ⟨src, dst, via, no⟩ := x
    dsimp only at *
    have e0 := cell_at hb hbl (hce 0 _ rfl)
    have e1 := cell_at hb hbl (hce 1 _ rfl)
    have e2 := cell_at hb hbl (hce 2 _ rfl)
    have e3 := cell_at hb hbl (hce 3 _ rfl)
    clear hce
    simp only [flowS, Nat.add_zero] at e0 e1 e2 e3
    have b1 : (j : Int) < (l.length : Int) := by omega
    have hv' := hv.below hb
    have hn' := hn.below hb
    have hvl := hv.len_le
    have hnl := hn.len_le
    have hgl : g < wo.heap.size := by omega
    have hz5 : w.heap.size ≤ wo.heap.size := by omega
    have hz6 : w.heap.size ≤ wo.heap.size + 1 := by omega
    have hz7 : w.heap.size ≤ wo.heap.size + 1 + 1 := by omega
    have hz8 : w.heap.size < wo.heap.size + 1 := by omega
    have hz9 : w.heap.size < wo.heap.size + 1 + 1 := by omega
    clear hv hn hx
    by_cases q1 : src < 0
    · have HH := Lib.hid (g1 (e := 6) (by unfold flowBad; rw [if_pos (by dsimp only; omega)]) (by decide))
      clear g0 g1 hv' hn'
      go_wp2
      have G := (((((hF.set 0 (.int .i64 6)).set 1 (.int .i64 j)).alloc (.cells #[.int .i64 j] 3)).alloc (.cells #[.int .i64 src, .int .i64 dst, .slice va via.length vc, .slice na no.length nc] 40)).alloc (.cells #[.int .i64 6, .int .i64 j] 25))
      obtain ⟨z1, z2⟩ := G.cells
      refine bodyPost_ret (v := .agg #[.int .i64 6, .int .i64 j]) (by simp [results, Tryd.results10, go_sem, z1]) rfl ⟨by rw [HH.out], by (repeat' (first | with_reducible (first | exact Below.refl _ _ | assumption | refine Below.drew ?_ | refine Below_drewN ?_ _ | refine Below.alloc ?_ ?_ _ | refine Below.setCell ?_ ?_ _) | omega | (simp; done) | (simp; omega)))⟩
    by_cases q2 : dst < 0
    · have HH := Lib.hid (g1 (e := 6) (by unfold flowBad; rw [if_pos (by dsimp only; omega)]) (by decide))
      clear g0 g1 hv' hn'
      go_wp2
      have G := (((((hF.set 0 (.int .i64 6)).set 1 (.int .i64 j)).alloc (.cells #[.int .i64 j] 3)).alloc (.cells #[.int .i64 src, .int .i64 dst, .slice va via.length vc, .slice na no.length nc] 40)).alloc (.cells #[.int .i64 6, .int .i64 j] 25))
      obtain ⟨z1, z2⟩ := G.cells
      refine bodyPost_ret (v := .agg #[.int .i64 6, .int .i64 j]) (by simp [results, Tryd.results10, go_sem, z1]) rfl ⟨by rw [HH.out], by (repeat' (first | with_reducible (first | exact Below.refl _ _ | assumption | refine Below.drew ?_ | refine Below_drewN ?_ _ | refine Below.alloc ?_ ?_ _ | refine Below.setCell ?_ ?_ _) | omega | (simp; done) | (simp; omega)))⟩
    by_cases q3 : n ≤ src
    · have HH := Lib.hid (g1 (e := 6) (by unfold flowBad; rw [if_pos (by dsimp only; omega)]) (by decide))
      clear g0 g1 hv' hn'
      go_wp2
      have G := (((((hF.set 0 (.int .i64 6)).set 1 (.int .i64 j)).alloc (.cells #[.int .i64 j] 3)).alloc (.cells #[.int .i64 src, .int .i64 dst, .slice va via.length vc, .slice na no.length nc] 40)).alloc (.cells #[.int .i64 6, .int .i64 j] 25))
      obtain ⟨z1, z2⟩ := G.cells
      refine bodyPost_ret (v := .agg #[.int .i64 6, .int .i64 j]) (by simp [results, Tryd.results10, go_sem, z1]) rfl ⟨by rw [HH.out], by (repeat' (first | with_reducible (first | exact Below.refl _ _ | assumption | refine Below.drew ?_ | refine Below_drewN ?_ _ | refine Below.alloc ?_ ?_ _ | refine Below.setCell ?_ ?_ _) | omega | (simp; done) | (simp; omega)))⟩
    by_cases q4 : n ≤ dst
    · have HH := Lib.hid (g1 (e := 6) (by unfold flowBad; rw [if_pos (by dsimp only; omega)]) (by decide))
      clear g0 g1 hv' hn'
      go_wp2
      have G := (((((hF.set 0 (.int .i64 6)).set 1 (.int .i64 j)).alloc (.cells #[.int .i64 j] 3)).alloc (.cells #[.int .i64 src, .int .i64 dst, .slice va via.length vc, .slice na no.length nc] 40)).alloc (.cells #[.int .i64 6, .int .i64 j] 25))
      obtain ⟨z1, z2⟩ := G.cells
      refine bodyPost_ret (v := .agg #[.int .i64 6, .int .i64 j]) (by simp [results, Tryd.results10, go_sem, z1]) rfl ⟨by rw [HH.out], by (repeat' (first | with_reducible (first | exact Below.refl _ _ | assumption | refine Below.drew ?_ | refine Below_drewN ?_ _ | refine Below.alloc ?_ ?_ _ | refine Below.setCell ?_ ?_ _) | omega | (simp; done) | (simp; omega)))⟩
    by_cases q5 : src = dst
    · have q5' : (src == dst) = true := by rw [q5]; simp
      have HH := Lib.hid (g1 (e := 8) (by unfold flowBad; rw [if_neg (by dsimp only; omega), if_pos q5]) (by decide))
      clear g0 g1 hv' hn' q5
      go_wp2
      have G := (((((hF.set 0 (.int .i64 8)).set 1 (.int .i64 j)).alloc (.cells #[.int .i64 j] 3)).alloc (.cells #[.int .i64 src, .int .i64 dst, .slice va via.length vc, .slice na no.length nc] 40)).alloc (.cells #[.int .i64 8, .int .i64 j] 25))
      obtain ⟨z1, z2⟩ := G.cells
      refine bodyPost_ret (v := .agg #[.int .i64 8, .int .i64 j]) (by simp [results, Tryd.results10, go_sem, z1]) rfl ⟨by rw [HH.out], by (repeat' (first | with_reducible (first | exact Below.refl _ _ | assumption | refine Below.drew ?_ | refine Below_drewN ?_ _ | refine Below.alloc ?_ ?_ _ | refine Below.setCell ?_ ?_ _) | omega | (simp; done) | (simp; omega)))⟩
    have q5' : (src == dst) = false := by simpa using q5
    obtain ⟨A1, A2, A3, A4⟩ := flow_rest (by omega) q5 g0 g1
    have B1 := Lib.hid A1
    have B2 := Lib.hid A2
    have B3 := Lib.hid A3
    have B4 := Lib.hid A4
    clear A1 A2 A3 A4 g0 g1 q5
    have hF2 : blockIs (((wo.alloc (.cells #[.int .i64 j] 3)).alloc (.cells #[.int .i64 src, .int .i64 dst, .slice va via.length vc, .slice na no.length nc] 40)).alloc (.cells #[.slice va via.length vc, .slice na no.length nc] 38)) w.heap.size 25 #[.int .i64 0, .int .i64 0] := ((hF.alloc _).alloc _).alloc _
    have hI2 : blockIs (((wo.alloc (.cells #[.int .i64 j] 3)).alloc (.cells #[.int .i64 src, .int .i64 dst, .slice va via.length vc, .slice na no.length nc] 40)).alloc (.cells #[.slice va via.length vc, .slice na no.length nc] 38)) wo.heap.size 3 #[.int .i64 j] := ((blockIs.new rfl).alloc _).alloc _
    have hX2 : blockIs (((wo.alloc (.cells #[.int .i64 j] 3)).alloc (.cells #[.int .i64 src, .int .i64 dst, .slice va via.length vc, .slice na no.length nc] 40)).alloc (.cells #[.slice va via.length vc, .slice na no.length nc] 38)) (wo.heap.size + 1) 40 #[.int .i64 src, .int .i64 dst, .slice va via.length vc, .slice na no.length nc] := (blockIs.new (by simp)).alloc _
    have hK2 : blockIs (((wo.alloc (.cells #[.int .i64 j] 3)).alloc (.cells #[.int .i64 src, .int .i64 dst, .slice va via.length vc, .slice na no.length nc] 40)).alloc (.cells #[.slice va via.length vc, .slice na no.length nc] 38)) (wo.heap.size + 1 + 1) 38 #[.slice va via.length vc, .slice na no.length nc] := blockIs.new (by simp)
    have hB2 : Below w.heap.size w (((wo.alloc (.cells #[.int .i64 j] 3)).alloc (.cells #[.int .i64 src, .int .i64 dst, .slice va via.length vc, .slice na no.length nc] 40)).alloc (.cells #[.slice va via.length vc, .slice na no.length nc] 38)) := by (repeat' (first | with_reducible (first | exact Below.refl _ _ | assumption | refine Below.drew ?_ | refine Below_drewN ?_ _ | refine Below.alloc ?_ ?_ _ | refine Below.setCell ?_ ?_ _) | omega | (simp; done) | (simp; omega)))
    have hv2 := hv'.below (w' := (((wo.alloc (.cells #[.int .i64 j] 3)).alloc (.cells #[.int .i64 src, .int .i64 dst, .slice va via.length vc, .slice na no.length nc] 40)).alloc (.cells #[.slice va via.length vc, .slice na no.length nc] 38))) (by (repeat' (first | with_reducible (first | exact Below.refl _ _ | assumption | refine Below.drew ?_ | refine Below_drewN ?_ _ | refine Below.alloc ?_ ?_ _ | refine Below.setCell ?_ ?_ _) | omega | (simp; done) | (simp; omega))))
    have hn2 := hn'.below (w' := (((wo.alloc (.cells #[.int .i64 j] 3)).alloc (.cells #[.int .i64 src, .int .i64 dst, .slice va via.length vc, .slice na no.length nc] 40)).alloc (.cells #[.slice va via.length vc, .slice na no.length nc] 38))) (by (repeat' (first | with_reducible (first | exact Below.refl _ _ | assumption | refine Below.drew ?_ | refine Below_drewN ?_ _ | refine Below.alloc ?_ ?_ _ | refine Below.setCell ?_ ?_ _) | omega | (simp; done) | (simp; omega))))
    go_wp2
    clear hv' hn' e0 e1 e2 e3 r3 r4 q1 q2 q3 q4 q5' hF hb b1
    generalize (((wo.alloc (.cells #[.int .i64 j] 3)).alloc (.cells #[.int .i64 src, .int .i64 dst, .slice va via.length vc, .slice na no.length nc] 40)).alloc (.cells #[.slice va via.length vc, .slice na no.length nc] 38)) = wk at *
    obtain ⟨f1, f2⟩ := hF2.cells
    obtain ⟨i1, i2⟩ := hI2.cells
    obtain ⟨x1, x2⟩ := hX2.cells
    obtain ⟨k1, k2⟩ := hK2.cells
    have s1 := hK2.lt
    have s2 : wo.heap.size + 1 < wk.heap.size := by omega
    have s3 : wo.heap.size < wk.heap.size := by omega
    have s4 : w.heap.size < wk.heap.size := by omega
    go_loop [9, 10, 11, 61] (fun _ _ _ i => ∃ m : Nat, m ≤ 2 ∧ i = .int .i64 m ∧ Hid ((1 ≤ m → listBad n src dst [] via = 0) ∧ (2 ≤ m → listBad n src dst [] no = 0))) (fun _ _ _ i => 2 - (intOf i).toNat)
    case atStart => exact ⟨0, by omega, rfl, Lib.hid ⟨fun h => absurd h (by omega), fun h => absurd h (by omega)⟩⟩
    case round =>
      obtain ⟨m, hm, rfl, HG⟩ := hrel
      by_cases hm2 : m < 2
      case neg =>
        obtain rfl : m = 2 := by omega
        have hg := HG.out
        have C3 := Lib.hid (B3.out (hg.1 (by omega)) (hg.2 (by omega)))
        have C4 := Lib.hid (B4.out (hg.1 (by omega)) (hg.2 (by omega)))
        clear hg HG B1 B2 B3 B4 k1 k2
        go_wp2
        go_loop [13, 105] (fun _ i => ∃ q : Nat, q ≤ via.length ∧ i = .int .i64 q ∧ Hid (∀ x ∈ via.take q, x ∉ no)) (fun _ i => via.length - (intOf i).toNat)
        case atStart => exact ⟨0, Nat.zero_le _, rfl, Lib.hid (by simp)⟩
        case round =>
          obtain ⟨q, hq, rfl, HA⟩ := hrel
          by_cases hql : q < via.length
          case neg =>
            have HE := Lib.hid (C4.out (any_end hql HA.out))
            have d1 : ¬ (q : Int) < (via.length : Int) := by omega
            clear C3 C4 HA
            go_wp2
            case roundEnd =>
              go_roundw
              case rel => exact ⟨j + 1, by omega, by go_num, HE, hB2, hF2⟩
              case measure => simp [intOf] <;> omega
          obtain ⟨g', off', rfl, _, _, cs, hcs, hce⟩ := hv2.get (List.getElem?_eq_getElem hql)
          obtain ⟨rfl, _⟩ := hcs
          have e0 := hce 0 _ rfl
          simp only [intS, Nat.add_zero, Nat.mul_one] at e0
          clear hce
          have hgo := any_go hql HA.out
          have hht := any_hit (no := no) hql
          generalize via[q] = s at *
          have d1 : (q : Int) < (via.length : Int) := by omega
          have hin := in_c no s ok na nc wk hn2
          by_cases hs : s ∈ no
          · have HC := Lib.hid (C3.out (hht hs))
            rw [decide_eq_true hs] at hin
            have hin' := Lib.hid hin
            clear hin hgo hht C3 C4 HA hs
            go_wp2_with fail
            refine hin'.out.mono ?_
            rintro e w' ⟨rfl, rfl⟩
            clear hin'
            have HH := Lib.hid (HC.out)
            go_wp2
            have G := (((hF2.set 0 (.int .i64 8)).set 1 (.int .i64 j)).alloc (.cells #[.int .i64 8, .int .i64 j] 25))
            obtain ⟨z1, z2⟩ := G.cells
            refine bodyPost_ret (v := .agg #[.int .i64 8, .int .i64 j]) (by simp [results, Tryd.results10, go_sem, z1]) rfl ⟨by rw [HH.out], by (repeat' (first | with_reducible (first | exact Below.refl _ _ | assumption | refine Below.drew ?_ | refine Below_drewN ?_ _ | refine Below.alloc ?_ ?_ _ | refine Below.setCell ?_ ?_ _) | omega | (simp; done) | (simp; omega)))⟩
          · have HG2 := Lib.hid (hgo hs)
            rw [decide_eq_false hs] at hin
            have hin' := Lib.hid hin
            clear hin hgo hht hs
            go_wp2_with fail
            refine hin'.out.mono ?_
            rintro e w' ⟨rfl, rfl⟩
            clear hin'
            go_wp2
            case roundEnd =>
              go_round
              case rel => exact ⟨q + 1, by omega, by go_num, HG2⟩
              case measure => simp [intOf]; omega
      obtain ⟨x, xa, xc, kc, krow, kbad, knext⟩ : ∃ (x : List Int) (xa : Option Addr) (xc : Nat), wk.cell? ⟨wo.heap.size + 1 + 1, m, none⟩ = some (.slice xa x.length xc) ∧ rowRep intS ok wk xa xc x ∧ (∀ e, listBad n src dst [] x = e → e ≠ 0 → c = (e, (j : Int))) ∧ (listBad n src dst [] x = 0 → (1 ≤ m + 1 → listBad n src dst [] via = 0) ∧ (2 ≤ m + 1 → listBad n src dst [] no = 0)) := by
        match m, hm2 with
        | 0, _ => exact ⟨via, va, vc, k1 0, hv2, B1.out, fun h => ⟨fun _ => h, fun h => absurd h (by omega)⟩⟩
        | 1, _ => exact ⟨no, na, nc, k1 1, hn2, B2.out (HG.out.1 (by omega)), fun h => ⟨fun _ => HG.out.1 (by omega), fun _ => h⟩⟩
      have KB := Lib.hid kbad
      have KN := Lib.hid knext
      have d2 : (m : Int) < 2 := by omega
      have hxl := krow.len_le
      clear kbad knext HG B1 B2 B3 B4 k1 hvl hnl
      have hst : Hid (listBad n src dst [] x = listBad n src dst (x.take 0) (x.drop 0)) := rfl
      go_wp2
      generalize hlb : listBad n src dst [] x = lb at *
      go_loop [10, 11, 67] (fun _ _ i => ∃ q : Nat, q ≤ x.length ∧ i = .int .i64 q ∧ Hid (lb = listBad n src dst (x.take q) (x.drop q))) (fun _ _ i => x.length - (intOf i).toNat)
      case atStart => exact ⟨0, Nat.zero_le _, rfl, hst⟩
      case round =>
        clear hst kc
        obtain ⟨q, hq, rfl, HA⟩ := hrel
        by_cases hql : q < x.length
        case neg =>
          have HE := Lib.hid (KN.out (lst_end hql HA.out))
          have d1 : ¬ (q : Int) < (x.length : Int) := by omega
          clear HA KB KN hlb
          go_wp2
          case roundEnd =>
            go_round
            case rel => exact ⟨m + 1, by omega, by go_num, HE⟩
            case measure => simp [intOf] <;> omega
        obtain ⟨g', off', rfl, _, _, cs, hcs, hce⟩ := krow.get (List.getElem?_eq_getElem hql)
        obtain ⟨rfl, _⟩ := hcs
        have e0 := hce 0 _ rfl
        simp only [intS, Nat.add_zero, Nat.mul_one] at e0
        clear hce
        have l0 := fun h1 h2 h3 => lst_go (n := n) (src := src) (dst := dst) (c := lb) hql HA.out h1 h2 h3
        have l1 := fun h1 => lst_1 (n := n) (src := src) (dst := dst) (c := lb) hql HA.out h1
        have l2 := fun h1 h2 => lst_2 (n := n) (src := src) (dst := dst) (c := lb) hql HA.out h1 h2
        have l3 := fun h1 h2 h3 => lst_3 (n := n) (src := src) (dst := dst) (c := lb) hql HA.out h1 h2 h3
        clear HA
        have htk := krow.take q
        generalize x[q] = s at *
        have d1 : (q : Int) < (x.length : Int) := by omega
        have d0 : (0 : Int) ≤ (q : Int) := by omega
        have d3 : (q : Int) ≤ (xc : Int) := by have := krow.1; omega
        have hin := in_c (x.take q) s ok _ xc wk htk
        rw [show (x.take q).length = q by simp; omega] at hin
        have hin' := Lib.hid hin
        clear hin htk krow
        by_cases u1 : s < 0
        · have HC := Lib.hid (KB.out 6 (l1 (.inl u1)) (by decide))
          clear l0 l1 l2 l3 KB KN hin'
          have HH := Lib.hid (HC.out)
          go_wp2
          have G := (((hF2.set 0 (.int .i64 6)).set 1 (.int .i64 j)).alloc (.cells #[.int .i64 6, .int .i64 j] 25))
          obtain ⟨z1, z2⟩ := G.cells
          refine bodyPost_ret (v := .agg #[.int .i64 6, .int .i64 j]) (by simp [results, Tryd.results10, go_sem, z1]) rfl ⟨by rw [HH.out], by (repeat' (first | with_reducible (first | exact Below.refl _ _ | assumption | refine Below.drew ?_ | refine Below_drewN ?_ _ | refine Below.alloc ?_ ?_ _ | refine Below.setCell ?_ ?_ _) | omega | (simp; done) | (simp; omega)))⟩
        by_cases u2 : n ≤ s
        · have HC := Lib.hid (KB.out 6 (l1 (.inr u2)) (by decide))
          clear l0 l1 l2 l3 KB KN hin'
          have HH := Lib.hid (HC.out)
          go_wp2
          have G := (((hF2.set 0 (.int .i64 6)).set 1 (.int .i64 j)).alloc (.cells #[.int .i64 6, .int .i64 j] 25))
          obtain ⟨z1, z2⟩ := G.cells
          refine bodyPost_ret (v := .agg #[.int .i64 6, .int .i64 j]) (by simp [results, Tryd.results10, go_sem, z1]) rfl ⟨by rw [HH.out], by (repeat' (first | with_reducible (first | exact Below.refl _ _ | assumption | refine Below.drew ?_ | refine Below_drewN ?_ _ | refine Below.alloc ?_ ?_ _ | refine Below.setCell ?_ ?_ _) | omega | (simp; done) | (simp; omega)))⟩
        by_cases u3 : s = src
        · have u3' : (s == src) = true := by rw [u3]; simp
          have HC := Lib.hid (KB.out 8 (l2 (by omega) (.inl u3)) (by decide))
          clear l0 l1 l2 l3 KB KN hin' u3
          have HH := Lib.hid (HC.out)
          go_wp2
          have G := (((hF2.set 0 (.int .i64 8)).set 1 (.int .i64 j)).alloc (.cells #[.int .i64 8, .int .i64 j] 25))
          obtain ⟨z1, z2⟩ := G.cells
          refine bodyPost_ret (v := .agg #[.int .i64 8, .int .i64 j]) (by simp [results, Tryd.results10, go_sem, z1]) rfl ⟨by rw [HH.out], by (repeat' (first | with_reducible (first | exact Below.refl _ _ | assumption | refine Below.drew ?_ | refine Below_drewN ?_ _ | refine Below.alloc ?_ ?_ _ | refine Below.setCell ?_ ?_ _) | omega | (simp; done) | (simp; omega)))⟩
        have u3' : (s == src) = false := by simpa using u3
        by_cases u4 : s = dst
        · have u4' : (s == dst) = true := by rw [u4]; simp
          have HC := Lib.hid (KB.out 8 (l2 (by omega) (.inr u4)) (by decide))
          clear l0 l1 l2 l3 KB KN hin' u4
          have HH := Lib.hid (HC.out)
          go_wp2
          have G := (((hF2.set 0 (.int .i64 8)).set 1 (.int .i64 j)).alloc (.cells #[.int .i64 8, .int .i64 j] 25))
          obtain ⟨z1, z2⟩ := G.cells
          refine bodyPost_ret (v := .agg #[.int .i64 8, .int .i64 j]) (by simp [results, Tryd.results10, go_sem, z1]) rfl ⟨by rw [HH.out], by (repeat' (first | with_reducible (first | exact Below.refl _ _ | assumption | refine Below.drew ?_ | refine Below_drewN ?_ _ | refine Below.alloc ?_ ?_ _ | refine Below.setCell ?_ ?_ _) | omega | (simp; done) | (simp; omega)))⟩
        have u4' : (s == dst) = false := by simpa using u4
        by_cases u5 : s ∈ x.take q
        · have HC := Lib.hid (KB.out 7 (l3 (by omega) (by omega) u5) (by decide))
          have hin := hin'.out
          rw [decide_eq_true u5] at hin
          have hin2 := Lib.hid hin
          clear l0 l1 l2 l3 KB KN hin hin' u3 u4 u5
          go_wp2_with fail
          refine hin2.out.mono ?_
          rintro e w' ⟨rfl, rfl⟩
          clear hin2
          have HH := Lib.hid (HC.out)
          go_wp2
          have G := (((hF2.set 0 (.int .i64 7)).set 1 (.int .i64 j)).alloc (.cells #[.int .i64 7, .int .i64 j] 25))
          obtain ⟨z1, z2⟩ := G.cells
          refine bodyPost_ret (v := .agg #[.int .i64 7, .int .i64 j]) (by simp [results, Tryd.results10, go_sem, z1]) rfl ⟨by rw [HH.out], by (repeat' (first | with_reducible (first | exact Below.refl _ _ | assumption | refine Below.drew ?_ | refine Below_drewN ?_ _ | refine Below.alloc ?_ ?_ _ | refine Below.setCell ?_ ?_ _) | omega | (simp; done) | (simp; omega)))⟩
        have HC := Lib.hid (l0 (by omega) (by omega) u5)
        have hin := hin'.out
        rw [decide_eq_false u5] at hin
        have hin2 := Lib.hid hin
        clear l0 l1 l2 l3 hin hin' u3 u4 u5
        go_wp2_with fail
        refine hin2.out.mono ?_
        rintro e w' ⟨rfl, rfl⟩
        clear hin2
        go_wp2
        case roundEnd =>
          go_round
          case rel => exact ⟨q + 1, by omega, by go_num, HC⟩
          case measure => simp [intOf]; omega

end Go.Proofs.YtpfapfgfchenoaaDoor
