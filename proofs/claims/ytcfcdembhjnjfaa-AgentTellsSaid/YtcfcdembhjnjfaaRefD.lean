/-
  The walk of the document's Does. (printed by mk_does.py out of XDoW)
-/
import Derived.Test.YtcfcdembhjnjfaaDoW
import Derived.Test.YtcfcdembhjnjfaaRefA
import Derived.Test.YtcfcdembhjnjfaaRefS
import Derived.Test.YtcfcdembhjnjfaaWireR
import Derived.WalkKit
import Derived.WalkSpells
import Derived.WalkLawsBesides
import Derived.Lib.Hide
import Derived.Deep.LoopGhost
import Derived.Deep.QuietTactic
import Derived.BigQuiet
import Derived.Deep.RegionWith
import Derived.Handy
set_option linter.unusedSimpArgs false
set_option linter.unusedVariables false
namespace Go.St
open Go.RowKit
theorem mono_off {α : Type} {S : Shape α} {w : World} {P : Nat → Prop} {a : Option Addr} {c : Nat} {xs : List α} (h : rowRep S P w a c xs) {p : Addr} (hp : ¬ P p.block) (x : Value) : rowRep S P (w.setCell p x) a c xs :=
  h.mono fun b _ hh => ⟨hh, Below.heap_setCell _ _ _ b (fun e => hp (e ▸ hh))⟩
theorem mono_any {α : Type} {S : Shape α} {w : World} {P : Nat → Prop} {a : Option Addr} {c : Nat} {xs : List α} (h : rowRep S P w a c xs) : rowRep S (fun _ => True) w a c xs :=
  h.mono fun _ _ _ => ⟨trivial, rfl⟩
end Go.St
namespace Go.Proofs.Ytcfcdembhjnjfaa
open Go.RowKit Go.St

set_option maxRecDepth 100000 in
set_option maxHeartbeats 16000000 in
theorem does_c (s : Switch) (o : Order) (cs ds : List Value) (ok ok' : Nat → Prop) (w : World) (h : switchS.rep ok w cs s) (ho : orderS.rep ok' w ds o) :
    Calls Try.prog 31 #[.agg cs.toArray, .agg ds.toArray] w fun e w' => ∃ ts : List Value, e = .returned (.tuple #[.agg ts.toArray, .int .i64 (doOf s o).2]) ∧ switchS.rep (fun _ => True) w' ts (doOf s o).1 ∧ Below w.heap.size w w' := by
  have hSW := h
  have hOW := ho
  obtain ⟨ra, rc, sa, sc, rfl, hr, hs⟩ := h
  obtain ⟨oa, oc, fa, fc, rfl, hok, hon, hov, hor, hof⟩ := ho
  have hrx := hr.len_le
  have hsx := hs.len_le
  have hrx' := hor.len_le
  have hfx' := hof.len_le
  have HD1 : Hid (swWrong s ≠ 0 → doOf s o = (noSw, swWrong s)) := fun h => by unfold doOf; exact if_pos h
  have HD2 : Hid (swWrong s = 0 → wireWrong o ≠ 0 → doOf s o = (noSw, wireWrong o)) := fun h h2 => by unfold doOf; rw [if_neg (fun h3 => h3 h)]; exact if_pos h2
  have HD3 : Hid (swWrong s = 0 → wireWrong o = 0 → o.kind = 1 → doOf s o = if (addOf s.rules o.rules).2 ≠ 0 then (noSw, (addOf s.rules o.rules).2) else (⟨(addOf s.rules o.rules).1, s.stamps⟩, 0)) := fun h h2 h3 => by unfold doOf; rw [if_neg (fun h4 => h4 h), if_neg (fun h4 => h4 h2)]; exact if_pos h3
  have HD4 : Hid (swWrong s = 0 → wireWrong o = 0 → o.kind = 2 → doOf s o = (⟨s.rules, o.flows.map fun f => ⟨f, o.ver⟩⟩, 0)) := fun h h2 h3 => do_stamp (sw_ok.1 h) h2 h3
  have HD5 : Hid (swWrong s = 0 → wireWrong o = 0 → o.kind = 3 → doOf s o = (⟨dropOf s.rules o.ver, s.stamps⟩, 0)) := fun h h2 h3 => do_drop (sw_ok.1 h) h2 h3
  have HSO : Hid (swWrong s = 0 → s.rules.length ≤ 16 ∧ s.stamps.length ≤ 12) := fun h => ⟨(sw_ok.1 h).tab.len, (sw_ok.1 h).short⟩
  have HWK : Hid (wireWrong o = 0 → (o.kind = 1 ∨ o.kind = 2 ∨ o.kind = 3) ∧ (o.kind = 1 → o.rules.length ≤ 16) ∧ (o.kind = 2 → o.flows.length ≤ 12 ∧ o.flows.Pairwise (· < ·))) := fun h => ⟨wire_kind h, fun k => (wire_add h k).1, fun k => ⟨(wire_stamp h k).1, (wire_stamp h k).2.2⟩⟩
  generalize doOf s o = c at *
  obtain ⟨c1, c2⟩ := c
  dsimp only
  obtain ⟨i0, ti, tz0, tz1, tz2⟩ := info_parts info_stamp
  have hr' : rowRep ruleS (fun b => b < w.heap.size) w ra rc s.rules := hr.mono fun b hb _ => ⟨hb, rfl⟩
  have hs' : rowRep stampS (fun b => b < w.heap.size) w sa sc s.stamps := hs.mono fun b hb _ => ⟨hb, rfl⟩
  go_enter Try.func31, Try.ntmps31
  go_wp2_with fail
  have hb0 : Below w.heap.size w (((w.alloc (.cells #[.slice ra s.rules.length rc, .slice sa s.stamps.length sc] 58)).alloc (.cells #[.int .i64 o.kind, .int .i64 o.num, .int .i64 o.ver, .slice oa o.rules.length oc, .slice fa o.flows.length fc] 60)).alloc (.cells #[.slice none 0 0, .slice none 0 0] 58)) := by (repeat' (first | with_reducible exact Below.refl _ _ | with_reducible assumption | with_reducible refine Below.drew ?_ | with_reducible refine Below_drewN ?_ _ | with_reducible refine Below.alloc ?_ ?_ _ | with_reducible refine Below.setCell ?_ ?_ _ | omega | (simp; done) | (simp; omega)))
  have hS0 : blockIs (((w.alloc (.cells #[.slice ra s.rules.length rc, .slice sa s.stamps.length sc] 58)).alloc (.cells #[.int .i64 o.kind, .int .i64 o.num, .int .i64 o.ver, .slice oa o.rules.length oc, .slice fa o.flows.length fc] 60)).alloc (.cells #[.slice none 0 0, .slice none 0 0] 58)) w.heap.size 58 #[.slice ra s.rules.length rc, .slice sa s.stamps.length sc] := ((blockIs.new rfl).alloc _).alloc _
  have hO0 : blockIs (((w.alloc (.cells #[.slice ra s.rules.length rc, .slice sa s.stamps.length sc] 58)).alloc (.cells #[.int .i64 o.kind, .int .i64 o.num, .int .i64 o.ver, .slice oa o.rules.length oc, .slice fa o.flows.length fc] 60)).alloc (.cells #[.slice none 0 0, .slice none 0 0] 58)) (w.heap.size + 1) 60 #[.int .i64 o.kind, .int .i64 o.num, .int .i64 o.ver, .slice oa o.rules.length oc, .slice fa o.flows.length fc] := (blockIs.new (by simp)).alloc _
  have hR0 : blockIs (((w.alloc (.cells #[.slice ra s.rules.length rc, .slice sa s.stamps.length sc] 58)).alloc (.cells #[.int .i64 o.kind, .int .i64 o.num, .int .i64 o.ver, .slice oa o.rules.length oc, .slice fa o.flows.length fc] 60)).alloc (.cells #[.slice none 0 0, .slice none 0 0] 58)) (w.heap.size + 2) 58 #[.slice none 0 0, .slice none 0 0] := blockIs.new (by simp)
  have hA := refSw_c s _ ok _ (switchS.below hSW hb0)
  have HA := Lib.hid hA
  clear hA
  generalize (((w.alloc (.cells #[.slice ra s.rules.length rc, .slice sa s.stamps.length sc] 58)).alloc (.cells #[.int .i64 o.kind, .int .i64 o.num, .int .i64 o.ver, .slice oa o.rules.length oc, .slice fa o.flows.length fc] 60)).alloc (.cells #[.slice none 0 0, .slice none 0 0] 58)) = w0 at *
  refine HA.out.mono ?_
  rintro e w1 ⟨rfl, hb1⟩
  have hB1 : Below w.heap.size w w1 := hb0.trans (hb1.mono hb0.size)
  have hS1 := hS0.under hb1
  have hO1 := hO0.under hb1
  have hR1 := hR0.under hb1
  have hz1 := hB1.size
  obtain ⟨s1, s2⟩ := hS1.cells
  obtain ⟨o1, o2⟩ := hO1.cells
  obtain ⟨r1, r2⟩ := hR1.cells
  have hl1 := hR1.lt
  clear HA hb0 hb1 hS0 hO0 hR0
  generalize hsw : swWrong s = sw at *
  have HSW := Lib.hid hsw
  clear hsw
  by_cases h1 : sw = 0
  case neg =>
    have h1' : (sw != 0) = true := by rw [bne_iff_ne]; exact h1
    have HE := Lib.hid (HD1.out h1)
    clear HD1 HD2 HD3 HD4 HD5 HSO HWK h1
    obtain ⟨rfl, rfl⟩ : c1 = noSw ∧ c2 = sw := by have := HE.out; simpa using this
    go_wp2
    have z1 := ((hR1.set 0 (.slice none 0 0)).set 1 (.slice none 0 0)).cells.1
    refine bodyPost_ret (v := .tuple #[.agg #[.slice none 0 0, .slice none 0 0], .int .i64 c2]) (by simp [results, Try.results31, go_sem, z1]) rfl ⟨[.slice none 0 0, .slice none 0 0], rfl, ⟨none, 0, none, 0, rfl, rowRep.nil _ _ _ _, rowRep.nil _ _ _ _⟩, by (repeat' (first | with_reducible exact Below.refl _ _ | with_reducible assumption | with_reducible refine Below.drew ?_ | with_reducible refine Below_drewN ?_ _ | with_reducible refine Below.alloc ?_ ?_ _ | with_reducible refine Below.setCell ?_ ?_ _ | omega | (simp; done) | (simp; omega)))⟩
  subst h1
  clear HD1
  have hW := refWrong_c o _ ok' w1 (orderS.below hOW hB1)
  generalize hww : wireWrong o = ww at *
  have HWW := Lib.hid hww
  have HW := Lib.hid hW
  clear hww hW
  go_wp2_with fail
  refine HW.out.mono ?_
  rintro e w2 ⟨rfl, hb2⟩
  have hB2 : Below w.heap.size w w2 := hB1.trans (hb2.mono hz1)
  have hS2 := hS1.under hb2
  have hO2 := hO1.under hb2
  have hR2 := hR1.under hb2
  have hz2 := hB2.size
  clear s1 s2 o1 o2 r1 r2 hl1 HW hb2 hS1 hO1 hR1 hB1 hz1
  obtain ⟨s1, s2⟩ := hS2.cells
  obtain ⟨o1, o2⟩ := hO2.cells
  obtain ⟨r1, r2⟩ := hR2.cells
  have hl1 := hR2.lt
  by_cases h2 : ww = 0
  case neg =>
    have h1' : (ww != 0) = true := by rw [bne_iff_ne]; exact h2
    have HE := Lib.hid (HD2.out (by first | trivial | rfl) h2)
    clear HD2 HD3 HD4 HD5 HSO HWK h2
    obtain ⟨rfl, rfl⟩ : c1 = noSw ∧ c2 = ww := by have := HE.out; simpa using this
    go_wp2
    have z1 := ((hR2.set 0 (.slice none 0 0)).set 1 (.slice none 0 0)).cells.1
    refine bodyPost_ret (v := .tuple #[.agg #[.slice none 0 0, .slice none 0 0], .int .i64 c2]) (by simp [results, Try.results31, go_sem, z1]) rfl ⟨[.slice none 0 0, .slice none 0 0], rfl, ⟨none, 0, none, 0, rfl, rowRep.nil _ _ _ _, rowRep.nil _ _ _ _⟩, by (repeat' (first | with_reducible exact Below.refl _ _ | with_reducible assumption | with_reducible refine Below.drew ?_ | with_reducible refine Below_drewN ?_ _ | with_reducible refine Below.alloc ?_ ?_ _ | with_reducible refine Below.setCell ?_ ?_ _ | omega | (simp; done) | (simp; omega)))⟩
  subst h2
  clear HD2
  obtain ⟨hsl1, hsl2⟩ := HSO.out (by first | trivial | rfl)
  have hkk := HWK.out (by first | trivial | rfl)
  obtain ⟨hk3, hka, hks⟩ := hkk
  have HKS := Lib.hid hks
  clear hks HWK
  have hl2 : w.heap.size + 3 ≤ w2.heap.size := by omega
  have hr2 : rowRep ruleS (fun b => b < w.heap.size ∨ w2.heap.size ≤ b) w2 ra rc s.rules := (hr'.below hB2).mono fun b _ hh => ⟨.inl hh, rfl⟩
  have hs2 : rowRep stampS (fun b => b < w.heap.size ∨ w2.heap.size ≤ b) w2 sa sc s.stamps := (hs'.below hB2).mono fun b _ hh => ⟨.inl hh, rfl⟩
  have hne : w.heap.size ≠ w.heap.size + 2 := by omega
  have hne1 : w.heap.size ≠ w.heap.size + 1 := by omega
  by_cases k1 : o.kind = 1
  · have b1 : (o.kind == 1) = true := by rw [beq_iff_eq]; exact k1
    have HE := Lib.hid (HD3.out (by first | trivial | rfl) (by first | trivial | rfl) k1)
    have hol := hka k1
    clear HD3 HD4 HD5 k1 hk3
    have hAd := refAdd_c s.rules o.rules (fun b => b < w.heap.size) ok' ra oa rc oc w2 (hr'.below hB2) (hor.below hB2) (by omega)
    generalize addOf s.rules o.rules = A at *
    obtain ⟨m, ae⟩ := A
    dsimp only at *
    have HAd := Lib.hid hAd
    clear hAd
    go_wp2_with fail
    refine HAd.out.mono ?_
    rintro e w9 ⟨ao, cap, rfl, hm9, hb9⟩
    have hB9 : Below w.heap.size w w9 := hB2.trans (hb9.mono hz2)
    have hR9 := hR2.under hb9
    have hS9 := hS2.under hb9
    have hs9 : rowRep stampS (fun b => b < w.heap.size ∨ w2.heap.size ≤ b) w9 sa sc s.stamps := hs2.below hb9
    have hz9 := hB9.size
    clear s1 s2 o1 o2 r1 r2 hl1 HAd
    obtain ⟨r1, r2⟩ := hR9.cells
    obtain ⟨s1, s2⟩ := hS9.cells
    have hl1 := hR9.lt
    by_cases h3 : ae = 0
    case neg =>
      have h3' : (ae != 0) = true := by rw [bne_iff_ne]; exact h3
      obtain ⟨rfl, rfl⟩ : c1 = noSw ∧ c2 = ae := by have h4 := HE.out; rw [if_pos h3] at h4; simpa using h4
      clear HE h3
      go_wp2
      have z1 := ((hR9.set 0 (.slice none 0 0)).set 1 (.slice none 0 0)).cells.1
      refine bodyPost_ret (v := .tuple #[.agg #[.slice none 0 0, .slice none 0 0], .int .i64 c2]) (by simp [results, Try.results31, go_sem, z1]) rfl ⟨[.slice none 0 0, .slice none 0 0], rfl, ⟨none, 0, none, 0, rfl, rowRep.nil _ _ _ _, rowRep.nil _ _ _ _⟩, by (repeat' (first | with_reducible exact Below.refl _ _ | with_reducible assumption | with_reducible refine Below.drew ?_ | with_reducible refine Below_drewN ?_ _ | with_reducible refine Below.alloc ?_ ?_ _ | with_reducible refine Below.setCell ?_ ?_ _ | omega | (simp; done) | (simp; omega)))⟩
    subst h3
    obtain ⟨rfl, rfl⟩ : c1 = ⟨m, s.stamps⟩ ∧ c2 = 0 := by have h4 := HE.out; rw [if_neg (by simp)] at h4; simpa using h4
    clear HE
    have hk10 := hS9.set 0 (.slice ao m.length cap)
    have hk10' : blockIs (w9.setCell ⟨w.heap.size, 0, none⟩ (.slice ao m.length cap)) w.heap.size 58 #[.slice ao m.length cap, .slice sa s.stamps.length sc] := by simpa using hk10
    have hR10 := hR9.setOther (a := ⟨w.heap.size, 0, none⟩) (fun e => hne e.symm) (.slice ao m.length cap)
    have hm10 := mono_off hm9 (p := ⟨w.heap.size, 0, none⟩) (by show ¬ (w.heap.size < w.heap.size ∨ w2.heap.size ≤ w.heap.size); omega) (.slice ao m.length cap)
    have hs10 := mono_off hs9 (p := ⟨w.heap.size, 0, none⟩) (by show ¬ (w.heap.size < w.heap.size ∨ w2.heap.size ≤ w.heap.size); omega) (.slice ao m.length cap)
    obtain ⟨u1, u2⟩ := hk10'.cells
    obtain ⟨v1, v2⟩ := hR10.cells
    go_wp2
    have z1 := ((hR10.set 0 (.slice ao m.length cap)).set 1 (.slice sa s.stamps.length sc)).cells.1
    refine bodyPost_ret (v := .tuple #[.agg #[.slice ao m.length cap, .slice sa s.stamps.length sc], .int .i64 0]) (by simp [results, Try.results31, go_sem, z1]) rfl ⟨[.slice ao m.length cap, .slice sa s.stamps.length sc], rfl, ⟨ao, cap, sa, sc, rfl, mono_any (mono_off (mono_off hm10 (p := ⟨w.heap.size + 2, 0, none⟩) (by show ¬ (w.heap.size + 2 < w.heap.size ∨ w2.heap.size ≤ w.heap.size + 2); omega) _) (p := ⟨w.heap.size + 2, 1, none⟩) (by show ¬ (w.heap.size + 2 < w.heap.size ∨ w2.heap.size ≤ w.heap.size + 2); omega) _), mono_any (mono_off (mono_off hs10 (p := ⟨w.heap.size + 2, 0, none⟩) (by show ¬ (w.heap.size + 2 < w.heap.size ∨ w2.heap.size ≤ w.heap.size + 2); omega) _) (p := ⟨w.heap.size + 2, 1, none⟩) (by show ¬ (w.heap.size + 2 < w.heap.size ∨ w2.heap.size ≤ w.heap.size + 2); omega) _)⟩, by (repeat' (first | with_reducible exact Below.refl _ _ | with_reducible assumption | with_reducible refine Below.drew ?_ | with_reducible refine Below_drewN ?_ _ | with_reducible refine Below.alloc ?_ ?_ _ | with_reducible refine Below.setCell ?_ ?_ _ | omega | (simp; done) | (simp; omega)))⟩
  have b1 : (o.kind == 1) = false := by rw [beq_eq_false_iff_ne]; exact k1
  by_cases k3 : o.kind = 3
  · have b2 : (o.kind == 3) = true := by rw [beq_iff_eq]; exact k3
    have HE := Lib.hid (HD5.out (by first | trivial | rfl) (by first | trivial | rfl) k3)
    clear HD3 HD4 HD5 k1 hk3 k3 hka HKS
    have hDr := refDrop_c s.rules o.ver (fun b => b < w.heap.size) ra rc w2 (hr'.below hB2) (by omega)
    generalize dropOf s.rules o.ver = m at *
    obtain ⟨rfl, rfl⟩ : c1 = ⟨m, s.stamps⟩ ∧ c2 = 0 := by have h4 := HE.out; simpa using h4
    clear HE
    have HDr := Lib.hid hDr
    clear hDr
    go_wp2_with fail
    refine HDr.out.mono ?_
    rintro e w9 ⟨ao, cap, rfl, hm, hb9⟩
    have hm9 : rowRep ruleS (fun b => b < w.heap.size ∨ w2.heap.size ≤ b) w9 ao cap m := hm.mono fun b _ hh => ⟨.inr hh, rfl⟩
    have hB9 : Below w.heap.size w w9 := hB2.trans (hb9.mono hz2)
    have hR9 := hR2.under hb9
    have hS9 := hS2.under hb9
    have hs9 : rowRep stampS (fun b => b < w.heap.size ∨ w2.heap.size ≤ b) w9 sa sc s.stamps := hs2.below hb9
    have hz9 := hB9.size
    clear s1 s2 o1 o2 r1 r2 hl1 HDr
    obtain ⟨r1, r2⟩ := hR9.cells
    obtain ⟨s1, s2⟩ := hS9.cells
    have hl1 := hR9.lt
    have hk10 := hS9.set 0 (.slice ao m.length cap)
    have hk10' : blockIs (w9.setCell ⟨w.heap.size, 0, none⟩ (.slice ao m.length cap)) w.heap.size 58 #[.slice ao m.length cap, .slice sa s.stamps.length sc] := by simpa using hk10
    have hR10 := hR9.setOther (a := ⟨w.heap.size, 0, none⟩) (fun e => hne e.symm) (.slice ao m.length cap)
    have hm10 := mono_off hm9 (p := ⟨w.heap.size, 0, none⟩) (by show ¬ (w.heap.size < w.heap.size ∨ w2.heap.size ≤ w.heap.size); omega) (.slice ao m.length cap)
    have hs10 := mono_off hs9 (p := ⟨w.heap.size, 0, none⟩) (by show ¬ (w.heap.size < w.heap.size ∨ w2.heap.size ≤ w.heap.size); omega) (.slice ao m.length cap)
    obtain ⟨u1, u2⟩ := hk10'.cells
    obtain ⟨v1, v2⟩ := hR10.cells
    go_wp2
    have z1 := ((hR10.set 0 (.slice ao m.length cap)).set 1 (.slice sa s.stamps.length sc)).cells.1
    refine bodyPost_ret (v := .tuple #[.agg #[.slice ao m.length cap, .slice sa s.stamps.length sc], .int .i64 0]) (by simp [results, Try.results31, go_sem, z1]) rfl ⟨[.slice ao m.length cap, .slice sa s.stamps.length sc], rfl, ⟨ao, cap, sa, sc, rfl, mono_any (mono_off (mono_off hm10 (p := ⟨w.heap.size + 2, 0, none⟩) (by show ¬ (w.heap.size + 2 < w.heap.size ∨ w2.heap.size ≤ w.heap.size + 2); omega) _) (p := ⟨w.heap.size + 2, 1, none⟩) (by show ¬ (w.heap.size + 2 < w.heap.size ∨ w2.heap.size ≤ w.heap.size + 2); omega) _), mono_any (mono_off (mono_off hs10 (p := ⟨w.heap.size + 2, 0, none⟩) (by show ¬ (w.heap.size + 2 < w.heap.size ∨ w2.heap.size ≤ w.heap.size + 2); omega) _) (p := ⟨w.heap.size + 2, 1, none⟩) (by show ¬ (w.heap.size + 2 < w.heap.size ∨ w2.heap.size ≤ w.heap.size + 2); omega) _)⟩, by (repeat' (first | with_reducible exact Below.refl _ _ | with_reducible assumption | with_reducible refine Below.drew ?_ | with_reducible refine Below_drewN ?_ _ | with_reducible refine Below.alloc ?_ ?_ _ | with_reducible refine Below.setCell ?_ ?_ _ | omega | (simp; done) | (simp; omega)))⟩
  have b2 : (o.kind == 3) = false := by rw [beq_eq_false_iff_ne]; exact k3
  have k2 : o.kind = 2 := by omega
  have HE := Lib.hid (HD4.out (by first | trivial | rfl) (by first | trivial | rfl) k2)
  obtain ⟨rfl, rfl⟩ : c1 = ⟨s.rules, o.flows.map fun f => ⟨f, o.ver⟩⟩ ∧ c2 = 0 := by have h4 := HE.out; simpa using h4
  obtain ⟨hfl, hrise⟩ := HKS.out k2
  clear HD3 HD4 HD5 k1 hk3 k2 k3 HE hka HKS hrise
  have hk9 := hS2.set 1 (.slice none 0 0)
  have hk9' : blockIs (w2.setCell ⟨w.heap.size, 1, none⟩ (.slice none 0 0)) w.heap.size 58 #[.slice ra s.rules.length rc, .slice none 0 0] := by simpa using hk9
  have hR9 := hR2.setOther (a := ⟨w.heap.size, 1, none⟩) (fun e => hne e.symm) (.slice none 0 0)
  have hO9 := hO2.setOther (a := ⟨w.heap.size, 1, none⟩) (fun e => hne1 e.symm) (.slice none 0 0)
  have hB9 : Below w.heap.size w (w2.setCell ⟨w.heap.size, 1, none⟩ (.slice none 0 0)) := hB2.setCell (p := ⟨w.heap.size, 1, none⟩) (by show w.heap.size ≤ w.heap.size; omega) _
  have hs9 : (w2.setCell ⟨w.heap.size, 1, none⟩ (.slice none 0 0)).heap.size = w2.heap.size := by simp
  have hown0 : ownR stampS 83 (fun _ => False) w2.heap.size (w2.setCell ⟨w.heap.size, 1, none⟩ (.slice none 0 0)) none 0 0 ((o.flows.take 0).map (fun f => (⟨f, o.ver⟩ : Stamp))) := ownR.nil' _ _ _ _
  obtain ⟨o3, o4⟩ := hO9.cells
  clear hk9
  go_wp2
  go_loopw [11, 30] (fun _ idx wr => ∃ (j : Nat) (ao : Option Addr) (cap : Nat), idx = .int .i64 j ∧ j ≤ o.flows.length ∧ blockIs wr w.heap.size 58 #[.slice ra s.rules.length rc, .slice ao j cap] ∧ ownR stampS 83 (fun _ => False) w2.heap.size wr ao j cap ((o.flows.take j).map (fun f => (⟨f, o.ver⟩ : Stamp))) ∧ (∀ b, b < w2.heap.size → b ≠ w.heap.size → wr.heap[b]? = w2.heap[b]?) ∧ Below w.heap.size w wr ∧ w2.heap.size ≤ wr.heap.size) (fun _ idx _ => o.flows.length - (intOf idx).toNat)
  case atStart => exact ⟨0, none, 0, rfl, Nat.zero_le _, hk9', hown0, fun b _ hb => Below.heap_setCell _ _ _ b hb, hB9, Nat.le_of_eq hs9.symm⟩
  case round =>
    clear hk9' hown0 hO9 hR9 hB9 hs9 o3 o4 s1 s2 o1 o2 r1 r2 hl1
    obtain ⟨j, ao, cap, rfl, hj, hk, hown, hkeep, hB, hzr⟩ := hrel
    rename World => wr
    have hO := hO2.keep (hkeep _ hO2.lt hne1.symm)
    have hR := hR2.keep (hkeep _ hR2.lt hne.symm)
    have HKP := Lib.hid hkeep
    clear hkeep
    obtain ⟨y1, y2⟩ := hk.cells
    obtain ⟨o1, o2⟩ := hO.cells
    obtain ⟨r1, r2⟩ := hR.cells
    have hl1 := hR.lt
    have hlk := hk.lt
    by_cases hlt : j < o.flows.length
    case neg =>
      obtain rfl : j = o.flows.length := by omega
      have b3 : ¬ ((o.flows.length : Nat) : Int) < (o.flows.length : Int) := by omega
      rw [List.take_length] at hown
      have hrow : rowRep stampS (fun b => b < w.heap.size ∨ w2.heap.size ≤ b) wr ao cap (o.flows.map (fun f => (⟨f, o.ver⟩ : Stamp))) := hown.row (fun _ h => h.elim) (fun k hk => .inr (hown.lt k hk).1)
      have hg : rowRep ruleS (fun b => b < w.heap.size ∨ w2.heap.size ≤ b) wr ra rc s.rules := (hr'.below hB).mono fun b _ hh => ⟨.inl hh, rfl⟩
      have hll : (o.flows.map (fun f => (⟨f, o.ver⟩ : Stamp))).length = o.flows.length := by simp
      clear hown
      go_wp2
      have z1 := ((hR.set 0 (.slice ra s.rules.length rc)).set 1 (.slice ao o.flows.length cap)).cells.1
      refine bodyPost_ret (v := .tuple #[.agg #[.slice ra s.rules.length rc, .slice ao o.flows.length cap], .int .i64 0]) (by simp [results, Try.results31, go_sem, z1]) rfl ⟨[.slice ra s.rules.length rc, .slice ao o.flows.length cap], rfl, ⟨ra, rc, ao, cap, by rw [hll], mono_any (mono_off (mono_off hg (p := ⟨w.heap.size + 2, 0, none⟩) (by show ¬ (w.heap.size + 2 < w.heap.size ∨ w2.heap.size ≤ w.heap.size + 2); omega) _) (p := ⟨w.heap.size + 2, 1, none⟩) (by show ¬ (w.heap.size + 2 < w.heap.size ∨ w2.heap.size ≤ w.heap.size + 2); omega) _), mono_any (mono_off (mono_off hrow (p := ⟨w.heap.size + 2, 0, none⟩) (by show ¬ (w.heap.size + 2 < w.heap.size ∨ w2.heap.size ≤ w.heap.size + 2); omega) _) (p := ⟨w.heap.size + 2, 1, none⟩) (by show ¬ (w.heap.size + 2 < w.heap.size ∨ w2.heap.size ≤ w.heap.size + 2); omega) _)⟩, by (repeat' (first | with_reducible exact Below.refl _ _ | with_reducible assumption | with_reducible refine Below.drew ?_ | with_reducible refine Below_drewN ?_ _ | with_reducible refine Below.alloc ?_ ?_ _ | with_reducible refine Below.setCell ?_ ?_ _ | omega | (simp; done) | (simp; omega)))⟩
    obtain ⟨f, hf⟩ : ∃ f, o.flows[j]? = some f := ⟨_, List.getElem?_eq_getElem hlt⟩
    obtain ⟨qb, qo, rfl, hql, hfI, hcf⟩ := intRow_get hof hf
    have e0 := hcf _ hB
    have b3 : (j : Int) < (o.flows.length : Int) := by omega
    have b0 : (0 : Int) ≤ (j : Int) := by omega
    have hST := Lib.hid (stamps_take (v := o.ver) hf)
    have ho2 := hown.alloc (.cells #[.int .i64 f, .int .i64 o.ver] 83)
    have hkn : blockIs (wr.alloc (.cells #[.int .i64 f, .int .i64 o.ver] 83)) wr.heap.size 83 #[.int .i64 f, .int .i64 o.ver] := blockIs.new rfl
    have hba : Below wr.heap.size wr (wr.alloc (.cells #[.int .i64 f, .int .i64 o.ver] 83)) := by (repeat' (first | with_reducible exact Below.refl _ _ | with_reducible assumption | with_reducible refine Below.drew ?_ | with_reducible refine Below_drewN ?_ _ | with_reducible refine Below.alloc ?_ ?_ _ | with_reducible refine Below.setCell ?_ ?_ _ | omega | (simp; done) | (simp; omega)))
    have hsa : (wr.alloc (.cells #[.int .i64 f, .int .i64 o.ver] 83)).heap.size = wr.heap.size + 1 := by simp
    clear hcf hf hown
    go_wp2_with (at_builtin; go_must (refine wpList_appR (sh := stampS) rfl _ _ 56 rfl 83 i0 (.agg #[.int .i64 0, .int .i64 0]) 16 Try.underlying56 ti tz0 tz1 tz2 rfl (by decide) rfl ho2 rfl rfl (srcRep.stamp ⟨f, o.ver⟩ hkn hfI hov) (by simp only [maxLen]; omega) (by omega) (by omega) ?_); go_must (
      intro ao2 cap2 w9 hown2 hg9 hbk
      rw [← hST.out] at hown2
      have hb9 : Below w2.heap.size wr w9 := (hba.mono hzr).trans (grown_below (B := w2.heap.size) hg9 (fun k hk => (ho2.lt k hk).1) (by omega))
      have hk2 := hk.below hb9 (by omega)
      have hB2' : Below w.heap.size w w9 := hB.trans (hb9.mono hz2)
      have hz9 := hb9.size
      obtain ⟨y3, y4⟩ := hk2.cells
      clear y1 y2 o1 o2 r1 r2))
    have hk3 := hk2.set 1 (.slice ao2 (j + 1) cap2)
    have hk3' : blockIs (w9.setCell ⟨w.heap.size, 1, none⟩ (.slice ao2 (j + 1) cap2)) w.heap.size 58 #[.slice ra s.rules.length rc, .slice ao2 (j + 1) cap2] := by simpa using hk3
    have hown3 := hown2.setCell (a := ⟨w.heap.size, 1, none⟩) (by show w.heap.size < w2.heap.size; omega) (.slice ao2 (j + 1) cap2)
    have HK3 : ∀ b, b < w2.heap.size → b ≠ w.heap.size → (w9.setCell ⟨w.heap.size, 1, none⟩ (.slice ao2 (j + 1) cap2)).heap[b]? = w2.heap[b]? := fun b h1 h2 => ((Below.heap_setCell _ _ _ b h2).trans (hb9.block b h1)).trans (HKP.out b h1 h2)
    have hB3 : Below w.heap.size w (w9.setCell ⟨w.heap.size, 1, none⟩ (.slice ao2 (j + 1) cap2)) := hB2'.setCell (p := ⟨w.heap.size, 1, none⟩) (by show w.heap.size ≤ w.heap.size; omega) _
    have HK4 := Lib.hid HK3
    clear HK3
    case roundEnd =>
      go_roundw
      case rel => exact ⟨j + 1, ao2, cap2, by go_num, by omega, hk3', hown3, HK4.out, hB3, by simp; omega⟩
      case measure => simp [intOf] <;> omega

end Go.Proofs.Ytcfcdembhjnjfaa
