/-
  The walk of the document's Find.
-/
import Derived.WalkKit
import Derived.WalkSpells
import Derived.WalkLawsBesides
import Derived.Lib.Hide
import Derived.Deep.LoopGhost
import Derived.Deep.QuietTactic
import Derived.BigQuiet
import Derived.Deep.RegionWith
import Derived.Handy
import Derived.Test.YtagldmdeohenjaaPk16
import Derived.Test.YtagldmdeohenjaaPk13
import Derived.Test.YtagldmdeohenjaaPk10
import Derived.Test.YtagldmdeohenjaaPk9
import Derived.Test.YtagldmdeohenjaaPk12
import Derived.Test.YtagldmdeohenjaaPk8
set_option linter.unusedSimpArgs false
set_option linter.unusedVariables false
namespace Go.St
open Go.RowKit
/-- a block of one datum as a row -/
theorem one_row {α : Type} {sh : Shape α} {ok : Nat → Prop} {w : World} {b : Nat} {e : TypeId} {cs : List Value} {x : α} (h : blockIs w b e cs.toArray) (hx : sh.rep ok w cs x) (hok : ok b) : rowRep sh ok w (some ⟨b, 0, none⟩) 1 [x] := by
  refine ⟨Nat.le_refl _, by decide, .inr ⟨b, 0, rfl, hok, h.lt, fun i y hy => ?_⟩⟩
  match i, hy with
  | 0, hy =>
    obtain rfl : x = y := by simpa using hy
    refine ⟨_, hx, fun j c hc => ?_⟩
    simp only [Nat.zero_mul, Nat.zero_add]
    rw [h.cells.1 j]
    simpa using hc
  | i + 1, hy => simp at hy
theorem better_no {t : Topo} {f : Flow} {b p : List Int} (h : servesB t f p = false) : better t f b p = b := by unfold better; rw [if_neg (by simp [h])]
theorem better_first {t : Topo} {f : Flow} {p : List Int} (h : servesB t f p = true) : better t f [] p = p := by unfold better; rw [if_pos ⟨h, .inl rfl⟩]
theorem better_less {t : Topo} {f : Flow} {b p : List Int} (h : servesB t f p = true) (h2 : (lengthOf t p).1 < (lengthOf t b).1) : better t f b p = p := by unfold better; rw [if_pos ⟨h, .inr h2⟩]
theorem better_not {t : Topo} {f : Flow} {b p : List Int} (hb : b ≠ []) (h2 : ¬ (lengthOf t p).1 < (lengthOf t b).1) : better t f b p = b := by unfold better; rw [if_neg (by simp [hb, h2])]
theorem rowRep.some {α : Type} {s : Shape α} {ok : Nat → Prop} {w : World} {ao : Option Addr} {cap : Nat} {xs : List α} (h : rowRep s ok w ao cap xs) (hx : xs ≠ []) : ∃ b o, ao = some ⟨b, o, none⟩ := by
  obtain ⟨_, _, h | ⟨b, off, rfl, _⟩⟩ := h
  · exact absurd h hx
  · exact ⟨b, off, rfl⟩
end Go.St
namespace Go.Proofs.Ytagldmdeohenjaa
open Go.RowKit Go.St

set_option maxRecDepth 100000 in
set_option maxHeartbeats 16000000 in
theorem refFind_s (t : Topo) (f : Flow) (cs ds : List Value) (ok ok' : Nat → Prop) (w : World) (h : topoS.rep ok w cs t) (hf : flowS.rep ok' w ds f) :
    Calls Try.prog 43 #[.agg cs.toArray, .agg ds.toArray] w fun e w' => ∃ ao cap, e = .returned (.tuple #[.slice ao (findOf t f).1.length cap, .int .i64 (findOf t f).2]) ∧ rowRep intS (fun b => w.heap.size ≤ b) w' ao cap (findOf t f).1 ∧ Below w.heap.size w w' := by
  have hT := h
  obtain ⟨la, lc, rfl, hn, hr⟩ := h
  have hF := hf
  obtain ⟨va, vc, na, nc, rfl, hs, hd, hv, hno⟩ := id hf
  have hnil := fun (w : World) (a : Option Addr) (l c : Nat) => run_eql_nil (P := Try.prog) 26 3 Try.underlying26 w a l c
  generalize hFO : findOf t f = R at *
  have hsp := Lib.hid hFO
  clear hFO
  go_enter Try.func43, Try.ntmps43
  go_wp2_with fail
  refine (refWrong_c t _ ok _ (topoS.below hT (by (repeat' (first | with_reducible exact Below.refl _ _ | with_reducible assumption | with_reducible refine Below.drew ?_ | with_reducible refine Below_drewN ?_ _ | with_reducible refine Below.alloc ?_ ?_ _ | with_reducible refine Below.setCell ?_ ?_ _ | omega | (simp; done) | (simp; omega)))))).mono ?_
  rintro e w1 ⟨rfl, hb1⟩
  have hB1 : Below w.heap.size w w1 := Below.trans (by (repeat' (first | with_reducible exact Below.refl _ _ | with_reducible assumption | with_reducible refine Below.drew ?_ | with_reducible refine Below_drewN ?_ _ | with_reducible refine Below.alloc ?_ ?_ _ | with_reducible refine Below.setCell ?_ ?_ _ | omega | (simp; done) | (simp; omega)))) (hb1.mono (by first | omega | (simp; done) | (simp; omega)))
  have hT1 : blockIs w1 w.heap.size 24 #[.int .i64 t.n, .slice la t.links.length lc] := ((blockIs.new rfl).alloc _).under hb1
  have hF1 : blockIs w1 (w.heap.size + 1) 64 #[.int .i64 f.src, .int .i64 f.dst, .slice va f.via.length vc, .slice na f.no.length nc] := (blockIs.new (by simp)).under hb1
  clear hb1
  obtain ⟨t1, t2⟩ := hT1.cells
  obtain ⟨f1, f2⟩ := hF1.cells
  have hz1 := hF1.lt
  have hz0 := hT1.lt
  by_cases h1 : (topoWrong t).1 = 0
  case neg =>
    have hR : R = ([], (topoWrong t).1) := by rw [← hsp.out]; unfold findOf; rw [if_pos h1]
    have HN := Lib.hid hR
    have h1' : ((topoWrong t).1 != 0) = true := by rw [bne_iff_ne]; exact h1
    clear h1 hR hsp
    generalize topoWrong t = we at *
    go_wp2
    go_quiet (fail)
    go_wp2
    refine bodyPost_ret (v := .tuple #[.slice none 0 0, .int .i64 we.1]) (by simp [results, Try.results43, go_sem]) rfl ⟨none, 0, by rw [HN.out]; rfl, by rw [HN.out]; exact rowRep.nil _ _ _ _, by (repeat' (first | with_reducible exact Below.refl _ _ | with_reducible assumption | with_reducible refine Below.drew ?_ | with_reducible refine Below_drewN ?_ _ | with_reducible refine Below.alloc ?_ ?_ _ | with_reducible refine Below.setCell ?_ ?_ _ | omega | (simp; done) | (simp; omega)))⟩
  have hFW := fun w' (hw' : rowRep flowS (fun _ => True) w' (some ⟨w1.heap.size + 1, 0, none⟩) 1 [f]) => refFlowsWrong_c [f] t.n (fun _ => True) (some ⟨w1.heap.size + 1, 0, none⟩) 1 w' hw'
  have h1s := h1
  rw [h1]
  clear h1
  generalize hwe : topoWrong t = we at *
  have hW2 : blockIs ((w1.alloc (.cells #[.int .i64 0, .int .i64 we.2] 66)).alloc (.cells #[.int .i64 f.src, .int .i64 f.dst, .slice va f.via.length vc, .slice na f.no.length nc] 64)) (w1.heap.size + 1) 64 #[.int .i64 f.src, .int .i64 f.dst, .slice va f.via.length vc, .slice na f.no.length nc] := blockIs.new (by simp)
  have hB2 : Below w.heap.size w ((w1.alloc (.cells #[.int .i64 0, .int .i64 we.2] 66)).alloc (.cells #[.int .i64 f.src, .int .i64 f.dst, .slice va f.via.length vc, .slice na f.no.length nc] 64)) := by (repeat' (first | with_reducible exact Below.refl _ _ | with_reducible assumption | with_reducible refine Below.drew ?_ | with_reducible refine Below_drewN ?_ _ | with_reducible refine Below.alloc ?_ ?_ _ | with_reducible refine Below.setCell ?_ ?_ _ | omega | (simp; done) | (simp; omega)))
  have hrow : rowRep flowS (fun _ => True) ((w1.alloc (.cells #[.int .i64 0, .int .i64 we.2] 66)).alloc (.cells #[.int .i64 f.src, .int .i64 f.dst, .slice va f.via.length vc, .slice na f.no.length nc] 64)) (some ⟨w1.heap.size + 1, 0, none⟩) 1 [f] :=
    one_row (cs := [.int .i64 f.src, .int .i64 f.dst, .slice va f.via.length vc, .slice na f.no.length nc]) hW2 (flowS.mono (flowS.below hF hB2) fun b _ _ => ⟨trivial, rfl⟩) trivial
  have hT2 := (hT1.alloc (.cells #[.int .i64 0, .int .i64 we.2] 66)).alloc (.cells #[.int .i64 f.src, .int .i64 f.dst, .slice va f.via.length vc, .slice na f.no.length nc] 64)
  have hF2 := (hF1.alloc (.cells #[.int .i64 0, .int .i64 we.2] 66)).alloc (.cells #[.int .i64 f.src, .int .i64 f.dst, .slice va f.via.length vc, .slice na f.no.length nc] 64)
  go_wp2_with fail
  generalize (w1.alloc (.cells #[.int .i64 0, .int .i64 we.2] 66)).alloc (.cells #[.int .i64 f.src, .int .i64 f.dst, .slice va f.via.length vc, .slice na f.no.length nc] 64) = w2 at *
  clear t1 t2 f1 f2
  refine (hFW _ hrow).mono ?_
  rintro e w3 ⟨rfl, hb3⟩
  have hB3 : Below w.heap.size w w3 := hB2.trans (hb3.mono hB2.size)
  have hT3 := hT2.under hb3
  have hF3 := hF2.under hb3
  clear hb3 hrow hW2 hT2 hF2 hFW
  obtain ⟨t1, t2⟩ := hT3.cells
  obtain ⟨f1, f2⟩ := hF3.cells
  have hz31 := hF3.lt
  have hz30 := hT3.lt
  by_cases h2 : (flowsWrong [f] t.n).1 = 0
  case neg =>
    have hR : R = ([], (flowsWrong [f] t.n).1) := by rw [← hsp.out]; unfold findOf; rw [if_neg (by rw [hwe]; simp [h1s]), if_pos h2]
    have HN := Lib.hid hR
    have h2' : ((flowsWrong [f] t.n).1 != 0) = true := by rw [bne_iff_ne]; exact h2
    clear h2 hR hsp
    generalize flowsWrong [f] t.n = fe at *
    go_wp2
    go_quiet (fail)
    go_wp2
    refine bodyPost_ret (v := .tuple #[.slice none 0 0, .int .i64 fe.1]) (by simp [results, Try.results43, go_sem]) rfl ⟨none, 0, by rw [HN.out]; rfl, by rw [HN.out]; exact rowRep.nil _ _ _ _, by (repeat' (first | with_reducible exact Below.refl _ _ | with_reducible assumption | with_reducible refine Below.drew ?_ | with_reducible refine Below_drewN ?_ _ | with_reducible refine Below.alloc ?_ ?_ _ | with_reducible refine Below.setCell ?_ ?_ _ | omega | (simp; done) | (simp; omega)))⟩
  have ht : (topoWrong t).1 = 0 := by rw [hwe]; exact h1s
  have htr := (topo_right ht).1
  have hfo := flowBad_zero (flows1 ▸ h2)
  have HB := fun b => Lib.hid (fun h => (find_best (b := b) ht h2 h).symm.trans hsp.out)
  rw [h2]
  clear h2 h1s hsp ht hwe
  generalize flowsWrong [f] t.n = fe at *
  have hs0 := hfo.s0
  have hs1 := hfo.s1
  clear hfo
  have hpI : rowRep intS (fun b => w3.heap.size + 1 ≤ b) ((w3.alloc (.cells #[.int .i64 0, .int .i64 fe.2] 66)).alloc (.cells #[.int .i64 f.src] 3)) (some ⟨w3.heap.size + 1, 0, none⟩) 1 [f.src] := int_row (xs := [f.src]) (blockIs.new (by simp)) (by simpa using hs) (Nat.le_refl _) (by simp [maxLen])
  have hB4 : Below w.heap.size w ((w3.alloc (.cells #[.int .i64 0, .int .i64 fe.2] 66)).alloc (.cells #[.int .i64 f.src] 3)) := by have := hB3.size; (repeat' (first | with_reducible exact Below.refl _ _ | with_reducible assumption | with_reducible refine Below.drew ?_ | with_reducible refine Below_drewN ?_ _ | with_reducible refine Below.alloc ?_ ?_ _ | with_reducible refine Below.setCell ?_ ?_ _ | omega | (simp; done) | (simp; omega)))
  have hT4 := (hT3.alloc (.cells #[.int .i64 0, .int .i64 fe.2] 66)).alloc (.cells #[.int .i64 f.src] 3)
  have hF4 := (hF3.alloc (.cells #[.int .i64 0, .int .i64 fe.2] 66)).alloc (.cells #[.int .i64 f.src] 3)
  have hz4 : w3.heap.size + 1 ≤ ((w3.alloc (.cells #[.int .i64 0, .int .i64 fe.2] 66)).alloc (.cells #[.int .i64 f.src] 3)).heap.size := by simp
  go_wp2_with fail
  generalize (w3.alloc (.cells #[.int .i64 0, .int .i64 fe.2] 66)).alloc (.cells #[.int .i64 f.src] 3) = w4 at *
  clear t1 t2 f1 f2 hT3 hF3
  refine (all_c t _ ok htr.2.1 f.dst hd 8 [f.src] w4 _ 1 _ (topoS.below hT hB4) hpI hz4 (by simp) (by simp) (by intro s hs'; simp at hs'; rw [hs']; exact ⟨hs0, hs1⟩) (by simp)).mono ?_
  rintro e w5 ⟨la5, lc5, rfl, hr5, hb5⟩
  have hB5 : Below w.heap.size w w5 := hB4.trans (hb5.mono hB4.size)
  have hT5 := hT4.under hb5
  have hF5 := hF4.under hb5
  clear hb5 hpI hT4 hF4
  have HNE := Lib.hid (fun p (hp : p ∈ allP t f.dst 8 [f.src]) => all_ne hp)
  have HBF := Lib.hid (fun j p q (hp : (allP t f.dst 8 [f.src])[j]? = some p) (hq : q ∈ (allP t f.dst 8 [f.src]).take j) => all_before hp hq)
  have hlL := hr5.len_le
  generalize allP t f.dst 8 [f.src] = L at *
  have hz5 := hB5.size
  go_wp2
  go_loopw [8, 10, 11, 12, 13, 14, 40] (fun best _ _ _ _ _ idx wr => ∃ (j : Nat) (b : List Int) (ab : Option Addr) (cb : Nat), best = .slice ab b.length cb ∧ idx = .int .i64 j ∧ j ≤ L.length ∧ Hid (BestR t f (L.take j) b) ∧ (b = [] → ab = none ∧ cb = 0) ∧ rowRep intS (fun b => w.heap.size ≤ b) wr ab cb b ∧ Below w5.heap.size w5 wr) (fun _ _ _ _ _ _ idx _ => L.length - (intOf idx).toNat)
  case atStart => exact ⟨0, [], none, 0, rfl, rfl, Nat.zero_le _, Lib.hid (BestR.start t f L), fun _ => ⟨rfl, rfl⟩, rowRep.nil _ _ _ _, by (repeat' (first | with_reducible exact Below.refl _ _ | with_reducible assumption | with_reducible refine Below.drew ?_ | with_reducible refine Below_drewN ?_ _ | with_reducible refine Below.alloc ?_ ?_ _ | with_reducible refine Below.setCell ?_ ?_ _ | omega | (simp; done) | (simp; omega)))⟩
  case round =>
    obtain ⟨j, b, ab, cb, rfl, rfl, hj, hbest, hbn, hbr, hb⟩ := hrel
    have hT6 := hT5.under hb
    have hF6 := hF5.under hb
    have hB6 : Below w.heap.size w wr := hB5.trans (hb.mono hz5)
    have hz56 := hb.size
    obtain ⟨t1, t2⟩ := hT6.cells
    obtain ⟨f1, f2⟩ := hF6.cells
    by_cases hlt : j < L.length
    case neg =>
      have hbe := hbest.out
      rw [List.take_of_length_le (by omega)] at hbe
      have HN := Lib.hid ((HB b).out hbe)
      have d1 : ¬ (j : Int) < (L.length : Int) := by omega
      clear hbest hbe HB HNE HBF
      by_cases hb0 : b = []
      · subst hb0
        obtain ⟨rfl, rfl⟩ := hbn rfl
        clear hbn
        go_wp2
        refine bodyPost_ret (v := .tuple #[.slice none 0 0, .int .i64 9]) (by simp [results, Try.results43, go_sem]) rfl ⟨none, 0, by rw [← HN.out]; rfl, by rw [← HN.out]; exact rowRep.nil _ _ _ _, by (repeat' (first | with_reducible exact Below.refl _ _ | with_reducible assumption | with_reducible refine Below.drew ?_ | with_reducible refine Below_drewN ?_ _ | with_reducible refine Below.alloc ?_ ?_ _ | with_reducible refine Below.setCell ?_ ?_ _ | omega | (simp; done) | (simp; omega)))⟩
      · obtain ⟨g, o, rfl⟩ := hbr.some hb0
        have HN' := HN.out
        rw [if_neg hb0] at HN'
        have HN2 := Lib.hid HN'
        clear HN HN' hbn hb0
        go_wp2
        refine bodyPost_ret (v := .tuple #[.slice (some ⟨g, o, none⟩) b.length cb, .int .i64 0]) (by simp [results, Try.results43, go_sem]) rfl ⟨_, _, by rw [← HN2.out], by rw [← HN2.out]; exact hbr.below (by (repeat' (first | with_reducible exact Below.refl _ _ | with_reducible assumption | with_reducible refine Below.drew ?_ | with_reducible refine Below_drewN ?_ _ | with_reducible refine Below.alloc ?_ ?_ _ | with_reducible refine Below.setCell ?_ ?_ _ | omega | (simp; done) | (simp; omega)))), by (repeat' (first | with_reducible exact Below.refl _ _ | with_reducible assumption | with_reducible refine Below.drew ?_ | with_reducible refine Below_drewN ?_ _ | with_reducible refine Below.alloc ?_ ?_ _ | with_reducible refine Below.setCell ?_ ?_ _ | omega | (simp; done) | (simp; omega)))⟩
    obtain ⟨p, hp⟩ : ∃ p, L[j]? = some p := ⟨_, List.getElem?_eq_getElem hlt⟩
    have htk : L.take (j + 1) = L.take j ++ [p] := by
      obtain ⟨h', rfl⟩ := List.getElem?_eq_some_iff.1 hp
      exact List.take_succ_eq_append_getElem h'
    have hst := hbest.out.step (p := p) (HNE.out p (List.mem_of_getElem? hp)) (fun q hq => HBF.out j p q hp hq)
    rw [← htk] at hst
    have HST := Lib.hid hst
    obtain ⟨lb, lo, rfl, _, hlb, cs1, ⟨pa, pc, rfl, hprow⟩, hce⟩ := (hr5.below hb).get hp
    have e0 := hce 0 _ rfl
    simp only [sliceS, Nat.add_zero, Nat.mul_one] at e0
    have d1 : (j : Int) < (L.length : Int) := by omega
    have hpne := HNE.out p (List.mem_of_getElem? hp)
    clear hce hp htk hst hbest
    go_wp2_with fail
    refine (serves_c t f p _ _ ok ok' _ pa pc _ (topoS.below hT (hB6.trans (by (repeat' (first | with_reducible exact Below.refl _ _ | with_reducible assumption | with_reducible refine Below.drew ?_ | with_reducible refine Below_drewN ?_ _ | with_reducible refine Below.alloc ?_ ?_ _ | with_reducible refine Below.setCell ?_ ?_ _ | omega | (simp; done) | (simp; omega)))))) (flowS.below hF (hB6.trans (by (repeat' (first | with_reducible exact Below.refl _ _ | with_reducible assumption | with_reducible refine Below.drew ?_ | with_reducible refine Below_drewN ?_ _ | with_reducible refine Below.alloc ?_ ?_ _ | with_reducible refine Below.setCell ?_ ?_ _ | omega | (simp; done) | (simp; omega)))))) (hprow.below (by (repeat' (first | with_reducible exact Below.refl _ _ | with_reducible assumption | with_reducible refine Below.drew ?_ | with_reducible refine Below_drewN ?_ _ | with_reducible refine Below.alloc ?_ ?_ _ | with_reducible refine Below.setCell ?_ ?_ _ | omega | (simp; done) | (simp; omega)))))).mono ?_
    rintro e w7 ⟨rfl, hb7⟩
    have hb67 : Below wr.heap.size wr w7 := Below.trans (by (repeat' (first | with_reducible exact Below.refl _ _ | with_reducible assumption | with_reducible refine Below.drew ?_ | with_reducible refine Below_drewN ?_ _ | with_reducible refine Below.alloc ?_ ?_ _ | with_reducible refine Below.setCell ?_ ?_ _ | omega | (simp; done) | (simp; omega)))) (hb7.mono (by first | omega | (simp; done) | (simp; omega)))
    have hB7 : Below w.heap.size w w7 := hB6.trans (hb67.mono hB6.size)
    have hb57 : Below w5.heap.size w5 w7 := hb.trans (hb67.mono hz56)
    have hT7 := hT6.under hb67
    have hprow7 := hprow.below hb67
    have hbr7 := hbr.below hb67
    clear t1 t2 f1 f2 hb7 hb67 hprow hbr hb hB6 e0
    obtain ⟨t1, t2⟩ := hT7.cells
    have hz7 := hB7.size
    have hz57 := hb57.size
    cases m1 : servesB t f p with
    | false =>
      have HC := HST.out
      rw [better_no m1] at HC
      have HCC := Lib.hid HC
      clear HC HST m1
      go_wp2
      case roundEnd =>
        go_roundw
        case rel => exact ⟨j + 1, b, ab, cb, rfl, by go_num, by omega, HCC, hbn, hbr7, hb57⟩
        case measure => simp [intOf]; omega
    | true =>
    go_wp2_with fail
    refine (refLength_c t p _ ok _ pa pc _ (topoS.below hT (hB7.trans (by (repeat' (first | with_reducible exact Below.refl _ _ | with_reducible assumption | with_reducible refine Below.drew ?_ | with_reducible refine Below_drewN ?_ _ | with_reducible refine Below.alloc ?_ ?_ _ | with_reducible refine Below.setCell ?_ ?_ _ | omega | (simp; done) | (simp; omega)))))) (hprow7.below (by (repeat' (first | with_reducible exact Below.refl _ _ | with_reducible assumption | with_reducible refine Below.drew ?_ | with_reducible refine Below_drewN ?_ _ | with_reducible refine Below.alloc ?_ ?_ _ | with_reducible refine Below.setCell ?_ ?_ _ | omega | (simp; done) | (simp; omega)))))).mono ?_
    rintro e w8 ⟨rfl, hb8⟩
    have hb78 : Below w7.heap.size w7 w8 := Below.trans (by (repeat' (first | with_reducible exact Below.refl _ _ | with_reducible assumption | with_reducible refine Below.drew ?_ | with_reducible refine Below_drewN ?_ _ | with_reducible refine Below.alloc ?_ ?_ _ | with_reducible refine Below.setCell ?_ ?_ _ | omega | (simp; done) | (simp; omega)))) (hb8.mono (by first | omega | (simp; done) | (simp; omega)))
    have hB8 : Below w.heap.size w w8 := hB7.trans (hb78.mono hz7)
    have hb58 : Below w5.heap.size w5 w8 := hb57.trans (hb78.mono hz57)
    have hT8 := hT7.under hb78
    have hprow8 := hprow7.below hb78
    have hbr8 := hbr7.below hb78
    clear t1 t2 hb8 hb78 hprow7 hbr7 hb57 hB7
    obtain ⟨t1, t2⟩ := hT8.cells
    have hz8 := hB8.size
    have hz58 := hb58.size
    go_wp2_with fail
    refine (refLength_c t b _ ok _ ab cb _ (topoS.below hT (hB8.trans (by (repeat' (first | with_reducible exact Below.refl _ _ | with_reducible assumption | with_reducible refine Below.drew ?_ | with_reducible refine Below_drewN ?_ _ | with_reducible refine Below.alloc ?_ ?_ _ | with_reducible refine Below.setCell ?_ ?_ _ | omega | (simp; done) | (simp; omega)))))) (hbr8.below (by (repeat' (first | with_reducible exact Below.refl _ _ | with_reducible assumption | with_reducible refine Below.drew ?_ | with_reducible refine Below_drewN ?_ _ | with_reducible refine Below.alloc ?_ ?_ _ | with_reducible refine Below.setCell ?_ ?_ _ | omega | (simp; done) | (simp; omega)))))).mono ?_
    rintro e w9 ⟨rfl, hb9⟩
    have hb89 : Below w8.heap.size w8 w9 := Below.trans (by (repeat' (first | with_reducible exact Below.refl _ _ | with_reducible assumption | with_reducible refine Below.drew ?_ | with_reducible refine Below_drewN ?_ _ | with_reducible refine Below.alloc ?_ ?_ _ | with_reducible refine Below.setCell ?_ ?_ _ | omega | (simp; done) | (simp; omega)))) (hb9.mono (by first | omega | (simp; done) | (simp; omega)))
    have hb59 : Below w5.heap.size w5 w9 := hb58.trans (hb89.mono hz58)
    have hprow9 := hprow8.below hb89
    have hbr9 := hbr8.below hb89
    clear t1 t2 hb9 hb89 hprow8 hbr8 hb58 hB8
    have hpr9 : rowRep intS (fun b => w.heap.size ≤ b) w9 pa pc p := hprow9.mono (fun b _ hk => ⟨by have hk' : w3.heap.size + 1 ≤ b := hk; omega, rfl⟩)
    by_cases hb0 : b = []
    · subst hb0
      obtain ⟨rfl, rfl⟩ := hbn rfl
      have HC := HST.out
      rw [better_first m1] at HC
      have HCC := Lib.hid HC
      clear HC HST m1 hbn
      generalize lengthOf t p = lp at *
      generalize lengthOf t [] = lq at *
      go_wp2
      case roundEnd =>
        go_roundw
        case rel => exact ⟨j + 1, p, pa, pc, rfl, by go_num, by omega, HCC, fun h => absurd h hpne, hpr9, hb59⟩
        case measure => simp [intOf]; omega
    obtain ⟨g, o, rfl⟩ := hbr9.some hb0
    by_cases hl : (lengthOf t p).1 < (lengthOf t b).1
    · have HC := HST.out
      rw [better_less m1 hl] at HC
      have HCC := Lib.hid HC
      clear HC HST m1 hbn hb0
      generalize lengthOf t p = lp at *
      generalize lengthOf t b = lq at *
      go_wp2
      case roundEnd =>
        go_roundw
        case rel => exact ⟨j + 1, p, pa, pc, rfl, by go_num, by omega, HCC, fun h => absurd h hpne, hpr9, hb59⟩
        case measure => simp [intOf]; omega
    · have HC := HST.out
      rw [better_not hb0 hl] at HC
      have HCC := Lib.hid HC
      clear HC HST m1 hbn
      have HB0 := Lib.hid hb0
      clear hb0
      generalize lengthOf t p = lp at *
      generalize lengthOf t b = lq at *
      go_wp2
      case roundEnd =>
        go_roundw
        case rel => exact ⟨j + 1, b, _, cb, rfl, by go_num, by omega, HCC, fun h => absurd h HB0.out, hbr9, hb59⟩
        case measure => simp [intOf]; omega

end Go.Proofs.Ytagldmdeohenjaa
