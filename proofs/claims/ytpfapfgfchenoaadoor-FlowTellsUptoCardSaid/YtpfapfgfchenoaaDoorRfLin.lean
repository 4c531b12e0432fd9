/-
  The document's line.
-/
import Derived.Test.YtpfapfgfchenoaaDoorRfLst
import Derived.Test.YtpfapfgfchenoaaDoorReadL
import Derived.Deep.RegionWith
import Derived.WalkKit
import Derived.WalkSpells
import Derived.WalkLawsBesides
import Derived.Lib.Hide
import Derived.Deep.LoopGhost
import Derived.Deep.QuietTactic
import Derived.BigQuiet
import Derived.Handy
import Derived.Deep.Cut
import Derived.Lib.AtoiErrMem
set_option linter.unusedSimpArgs false
set_option linter.unusedVariables false
namespace Go.St
open Go.RowKit
/-- what the document's Line hands back -/
def DocLine (w : World) (s : ByteArray) (p : Nat) (e : Ending) (w' : World) : Prop := ∃ (f : Flow) (cs : List Value) (q : Nat) (good : Bool), e = .returned (.tuple #[.agg cs.toArray, .int .i64 (q : Int), .bool good]) ∧ flowS.rep (fun b => w.heap.size ≤ b) w' cs f ∧ Below w.heap.size w w' ∧ q ≤ s.size ∧ ((good = true ∧ lineP (s.data.toList.drop p) = some (f, s.data.toList.drop q)) ∨ (good = false ∧ lineP (s.data.toList.drop p) = none))
theorem DocLine.is {w w' : World} {s : ByteArray} {p : Nat} {e : Ending} (f : Flow) (cs : List Value) (q : Nat) (good : Bool) (h : e = .returned (.tuple #[.agg cs.toArray, .int .i64 (q : Int), .bool good]) ∧ flowS.rep (fun b => w.heap.size ≤ b) w' cs f ∧ Below w.heap.size w w' ∧ q ≤ s.size ∧ ((good = true ∧ lineP (s.data.toList.drop p) = some (f, s.data.toList.drop q)) ∨ (good = false ∧ lineP (s.data.toList.drop p) = none))) : DocLine w s p e w' := ⟨f, cs, q, good, h⟩
theorem row_end {w : World} {R : Nat} {v0 v1 v2 v3 : Value} {ao : Option Addr} {c : Nat} {xs : List Int} (h : rowRep intS (fun k => R + 1 < k) w ao c xs) : rowRep intS (fun k => R ≤ k) ((((w.setCell ⟨R, 0, none⟩ v0).setCell ⟨R, 1, none⟩ v1).setCell ⟨R, 2, none⟩ v2).setCell ⟨R, 3, none⟩ v3) ao c xs :=
  h.mono fun k _ hk => ⟨by omega, heap_set4 (show k ≠ R by omega)⟩
theorem below_set4 {w0 w : World} (h : Below w0.heap.size w0 w) (v0 v1 v2 v3 : Value) : Below w0.heap.size w0 ((((w.setCell ⟨w0.heap.size, 0, none⟩ v0).setCell ⟨w0.heap.size, 1, none⟩ v1).setCell ⟨w0.heap.size, 2, none⟩ v2).setCell ⟨w0.heap.size, 3, none⟩ v3) :=
  (((h.setCell (p := ⟨w0.heap.size, 0, none⟩) (Nat.le_refl _) v0).setCell (p := ⟨w0.heap.size, 1, none⟩) (Nat.le_refl _) v1).setCell (p := ⟨w0.heap.size, 2, none⟩) (Nat.le_refl _) v2).setCell (p := ⟨w0.heap.size, 3, none⟩) (Nat.le_refl _) v3
end Go.St
namespace Go.Proofs.YtpfapfgfchenoaaDoor
open Go.RowKit Go.St

set_option maxRecDepth 100000 in
set_option maxHeartbeats 16000000 in
theorem docLine_c (s : ByteArray) (hs : s.size ≤ 2000) (p : Nat) (hp : p ≤ s.size) (w : World) :
    Calls Tryd.prog 15 #[.string s, .int .i64 (p : Int)] w fun e w' => DocLine w s p e w' := by
  have hresA : blockIs (w.alloc (.cells #[.int .i64 0, .int .i64 0, .slice none 0 0, .slice none 0 0] 40)) w.heap.size 40 #[.int .i64 0, .int .i64 0, .slice none 0 0, .slice none 0 0] := blockIs.new rfl
  have hres0 := hresA.alloc (.cells #[.int .i64 0, .int .i64 0, .slice none 0 0, .slice none 0 0] 40)
  have hf0 : blockIs ((w.alloc (.cells #[.int .i64 0, .int .i64 0, .slice none 0 0, .slice none 0 0] 40)).alloc (.cells #[.int .i64 0, .int .i64 0, .slice none 0 0, .slice none 0 0] 40)) (w.heap.size + 1) 40 #[.int .i64 0, .int .i64 0, .slice none 0 0, .slice none 0 0] := blockIs.new (by simp)
  have hb0 : Below w.heap.size w ((w.alloc (.cells #[.int .i64 0, .int .i64 0, .slice none 0 0, .slice none 0 0] 40)).alloc (.cells #[.int .i64 0, .int .i64 0, .slice none 0 0, .slice none 0 0] 40)) := by (repeat' (first | with_reducible (first | exact Below.refl _ _ | assumption | refine Below.drew ?_ | refine Below_drewN ?_ _ | refine Below.alloc ?_ ?_ _ | refine Below.setCell ?_ ?_ _) | omega | (simp; done) | (simp; omega)))
  have hz0 : ((w.alloc (.cells #[.int .i64 0, .int .i64 0, .slice none 0 0, .slice none 0 0] 40)).alloc (.cells #[.int .i64 0, .int .i64 0, .slice none 0 0, .slice none 0 0] 40)).heap.size = w.heap.size + 2 := by simp
  have HDD : Hid (∀ q : Nat, List.drop 1 (List.drop q s.data.toList) = List.drop (q + 1) s.data.toList) := Lib.hid fun q => List.drop_drop
  have hI0 : I64 0 := I64.small (by decide) (by decide)
  clear hresA
  go_enter Tryd.func15, Tryd.ntmps15
  go_wp2_with fail
  refine (number_c s hs p hp _).mono ?_
  rintro e w1 ⟨va, q1, good1, rfl, hb1, hN1⟩
  have hva : I64 va := I64.small (by have := hN1.v4; omega) (by have := hN1.v4; omega)
  have hq1 := hN1.le.2
  have hb9 := hb0.trans (hb1.mono hb0.size)
  have hf9 := hf0.under hb1
  have hres9 := hres0.under hb1
  obtain ⟨f1, f2⟩ := hf9.cells
  have hfl := hf9.lt
  go_upto_region 4 with fail
  clear f1 f2 hfl
  have hf := hf9.set 0 (.int .i64 va)
  simp only [List.setIfInBounds_toArray, List.set_cons_succ, List.set_cons_zero] at hf
  have hres := hres9.setOther (a := ⟨w.heap.size + 1, 0, none⟩) (show w.heap.size ≠ w.heap.size + 1 by omega) (.int .i64 va)
  have hb := hb9.setCell (p := ⟨w.heap.size + 1, 0, none⟩) (show w.heap.size ≤ w.heap.size + 1 by omega) (.int .i64 va)
  have hz := hf.lt
  clear hb9 hf9 hres9 hb1 hb0 hf0 hres0 hz0
  generalize w1.setCell _ _ = w1 at *
  --CUT1
  cases good1 with
  | false =>
    have HX := Lib.hid (line_f1 (hN1.none_ rfl))
    have hres8 := set4 hres (.int .i64 va) (.int .i64 0) (.slice none 0 0) (.slice none 0 0)
    have hb8 := below_set4 hb (.int .i64 va) (.int .i64 0) (.slice none 0 0) (.slice none 0 0)
    obtain ⟨f1, f2⟩ := hf.cells
    obtain ⟨s1, s2⟩ := hres.cells
    have hfl := hf.lt
    have hsl := hres.lt
    obtain ⟨x1, x2⟩ := hres8.cells
    go_wp2_with ((with_reducible refine bodyPost_ret (v := .tuple #[.agg #[.int .i64 va, .int .i64 0, .slice none 0 0, .slice none 0 0], .int .i64 (((q1 : Int))), .bool false]) ?ra1 ?rb1 ?rc1); go_must (case ra1 => simp [results, Tryd.results15, go_sem, x1]); go_must (case rb1 => rfl); go_must (case rc1 => exact .is ⟨va, 0, [], []⟩ [.int .i64 va, .int .i64 0, .slice none 0 0, .slice none 0 0] (q1) false ⟨rfl, ⟨_, _, _, _, rfl, hva, hI0, rowRep.nil _ _ _ _, rowRep.nil _ _ _ _⟩, hb8, hq1, .inr ⟨rfl, HX.out⟩⟩))
  | true =>
    have HN1 := Lib.hid (hN1.some_ rfl).1
    clear hN1
    by_cases hlt : q1 < s.size
    case neg =>
      have c1 : (s.size : Int) ≤ (q1 : Int) := by omega
      have HX := Lib.hid (line_f2 HN1.out (fun e => by rw [List.head?_drop, List.getElem?_eq_none (by rw [str_len]; omega)] at e; cases e))
      have hres8 := set4 hres (.int .i64 va) (.int .i64 0) (.slice none 0 0) (.slice none 0 0)
      have hb8 := below_set4 hb (.int .i64 va) (.int .i64 0) (.slice none 0 0) (.slice none 0 0)
      obtain ⟨f1, f2⟩ := hf.cells
      obtain ⟨s1, s2⟩ := hres.cells
      have hfl := hf.lt
      have hsl := hres.lt
      obtain ⟨x1, x2⟩ := hres8.cells
      go_wp2_with ((with_reducible refine bodyPost_ret (v := .tuple #[.agg #[.int .i64 va, .int .i64 0, .slice none 0 0, .slice none 0 0], .int .i64 (((q1 : Int))), .bool false]) ?ra1 ?rb1 ?rc1); go_must (case ra1 => simp [results, Tryd.results15, go_sem, x1]); go_must (case rb1 => rfl); go_must (case rc1 => exact .is ⟨va, 0, [], []⟩ [.int .i64 va, .int .i64 0, .slice none 0 0, .slice none 0 0] (q1) false ⟨rfl, ⟨_, _, _, _, rfl, hva, hI0, rowRep.nil _ _ _ _, rowRep.nil _ _ _ _⟩, hb8, hq1, .inr ⟨rfl, HX.out⟩⟩))
    have c1 : ¬ (s.size : Int) ≤ (q1 : Int) := by omega
    have b0 : (0 : Int) ≤ (q1 : Int) := by omega
    have b1 : (q1 : Int) < (s.size : Int) := by omega
    by_cases hch : (s[q1]'hlt).toNat = 62
    case neg =>
      have c2 : (((s[q1]'hlt).toNat : Int) != 62) = true := by rw [bne_iff_ne]; omega
      have HX := Lib.hid (line_f2 HN1.out (fun e => by
        rw [List.head?_drop, str_at hlt] at e
        exact hch (by rw [Option.some.inj e]; rfl)))
      have hres8 := set4 hres (.int .i64 va) (.int .i64 0) (.slice none 0 0) (.slice none 0 0)
      have hb8 := below_set4 hb (.int .i64 va) (.int .i64 0) (.slice none 0 0) (.slice none 0 0)
      obtain ⟨f1, f2⟩ := hf.cells
      obtain ⟨s1, s2⟩ := hres.cells
      have hfl := hf.lt
      have hsl := hres.lt
      obtain ⟨x1, x2⟩ := hres8.cells
      go_wp2_with ((with_reducible refine bodyPost_ret (v := .tuple #[.agg #[.int .i64 va, .int .i64 0, .slice none 0 0, .slice none 0 0], .int .i64 (((q1 : Int))), .bool false]) ?ra1 ?rb1 ?rc1); go_must (case ra1 => simp [results, Tryd.results15, go_sem, x1]); go_must (case rb1 => rfl); go_must (case rc1 => exact .is ⟨va, 0, [], []⟩ [.int .i64 va, .int .i64 0, .slice none 0 0, .slice none 0 0] (q1) false ⟨rfl, ⟨_, _, _, _, rfl, hva, hI0, rowRep.nil _ _ _ _, rowRep.nil _ _ _ _⟩, hb8, hq1, .inr ⟨rfl, HX.out⟩⟩))
    have c2 : (((s[q1]'hlt).toNat : Int) != 62) = false := by rw [bne_eq_false_iff_eq]; omega
    have H62 : Hid ((s.data.toList.drop q1).head? = some 62) := Lib.hid (by
      rw [List.head?_drop, str_at hlt]
      exact congrArg some (UInt8.toNat_inj.1 hch))
    clear hch
    have hw1 : IntKind.i64.wrap ((q1 : Int) + 1) = (q1 : Int) + 1 := IntWalk.i64_in _ (by omega)
    obtain ⟨f1, f2⟩ := hf.cells
    have hfl := hf.lt
    --CUT2
    go_wp2_with fail
    refine (number_c s hs (q1 + 1) (by omega) _).mono ?_
    rintro e w3 ⟨vb, q2, good2, rfl, hb3, hN2⟩
    have hvb : I64 vb := I64.small (by have := hN2.v4; omega) (by have := hN2.v4; omega)
    have hq2 := hN2.le.2
    clear f1 f2 hfl
    have hb9 := hb.trans (hb3.mono hb.size)
    have hf9 := hf.under hb3
    have hres9 := hres.under hb3
    obtain ⟨f1, f2⟩ := hf9.cells
    have hfl := hf9.lt
    go_upto_region 7 with fail
    clear f1 f2 hfl
    have hf := hf9.set 1 (.int .i64 vb)
    simp only [List.setIfInBounds_toArray, List.set_cons_succ, List.set_cons_zero] at hf
    have hres := hres9.setOther (a := ⟨w.heap.size + 1, 1, none⟩) (show w.heap.size ≠ w.heap.size + 1 by omega) (.int .i64 vb)
    have hb := hb9.setCell (p := ⟨w.heap.size + 1, 1, none⟩) (show w.heap.size ≤ w.heap.size + 1 by omega) (.int .i64 vb)
    have hz := hf.lt
    clear hb9 hf9 hres9 hb3 
    generalize w3.setCell _ _ = w3 at *
    --CUT3
    cases good2 with
    | false =>
      have HX := Lib.hid (line_f3 HN1.out H62.out (by rw [HDD.out]; exact hN2.none_ rfl))
      have hres8 := set4 hres (.int .i64 va) (.int .i64 vb) (.slice none 0 0) (.slice none 0 0)
      have hb8 := below_set4 hb (.int .i64 va) (.int .i64 vb) (.slice none 0 0) (.slice none 0 0)
      obtain ⟨f1, f2⟩ := hf.cells
      obtain ⟨s1, s2⟩ := hres.cells
      have hfl := hf.lt
      have hsl := hres.lt
      obtain ⟨x1, x2⟩ := hres8.cells
      go_wp2_with ((with_reducible refine bodyPost_ret (v := .tuple #[.agg #[.int .i64 va, .int .i64 vb, .slice none 0 0, .slice none 0 0], .int .i64 (((q2 : Int))), .bool false]) ?ra1 ?rb1 ?rc1); go_must (case ra1 => simp [results, Tryd.results15, go_sem, x1]); go_must (case rb1 => rfl); go_must (case rc1 => exact .is ⟨va, vb, [], []⟩ [.int .i64 va, .int .i64 vb, .slice none 0 0, .slice none 0 0] (q2) false ⟨rfl, ⟨_, _, _, _, rfl, hva, hvb, rowRep.nil _ _ _ _, rowRep.nil _ _ _ _⟩, hb8, hq2, .inr ⟨rfl, HX.out⟩⟩))
    | true =>
      have HN2 : Hid (numP ((s.data.toList.drop q1).drop 1) = some (vb, s.data.toList.drop q2)) := Lib.hid (by rw [HDD.out]; exact (hN2.some_ rfl).1)
      clear hN2
      obtain ⟨f1, f2⟩ := hf.cells
      have hfl := hf.lt
      --CUT4
      go_wp2_with fail
      refine (list_c s hs q2 hq2 ⟨#[32, 118, 105, 97, 32]⟩ (by decide) _).mono ?_
      rintro e w5 ⟨via, oa, oc, q3, good3, rfl, hb5, hq3, hrv0, hG3, hX3⟩
      replace hG3 : good3 = true → optP viaW (s.data.toList.drop q2) = some (via, s.data.toList.drop q3) := hG3
      replace hX3 : good3 = false → optP viaW (s.data.toList.drop q2) = none := hX3
      have hrv := row_fb (hrv0.anyOk (ok' := fun k => w.heap.size + 1 < k) (fun b _ hk => by omega)) 2 (.slice oa via.length oc)
      clear f1 f2 hfl hrv0
      have hb9 := hb.trans (hb5.mono hb.size)
      have hf9 := hf.under hb5
      have hres9 := hres.under hb5
      obtain ⟨f1, f2⟩ := hf9.cells
      have hfl := hf9.lt
      go_upto_region 9 with fail
      clear f1 f2 hfl
      have hf := hf9.set 2 (.slice oa via.length oc)
      simp only [List.setIfInBounds_toArray, List.set_cons_succ, List.set_cons_zero] at hf
      have hres := hres9.setOther (a := ⟨w.heap.size + 1, 2, none⟩) (show w.heap.size ≠ w.heap.size + 1 by omega) (.slice oa via.length oc)
      have hb := hb9.setCell (p := ⟨w.heap.size + 1, 2, none⟩) (show w.heap.size ≤ w.heap.size + 1 by omega) (.slice oa via.length oc)
      have hz := hf.lt
      clear hb9 hf9 hres9 hb5 
      generalize w5.setCell _ _ = w5 at *
      --CUT5
      cases good3 with
      | false =>
        have HX := Lib.hid (line_f4 HN1.out H62.out HN2.out (hX3 rfl))
        have hres8 := set4 hres (.int .i64 va) (.int .i64 vb) (.slice oa via.length oc) (.slice none 0 0)
        have hb8 := below_set4 hb (.int .i64 va) (.int .i64 vb) (.slice oa via.length oc) (.slice none 0 0)
        obtain ⟨f1, f2⟩ := hf.cells
        obtain ⟨s1, s2⟩ := hres.cells
        have hfl := hf.lt
        have hsl := hres.lt
        obtain ⟨x1, x2⟩ := hres8.cells
        go_wp2_with ((with_reducible refine bodyPost_ret (v := .tuple #[.agg #[.int .i64 va, .int .i64 vb, .slice oa via.length oc, .slice none 0 0], .int .i64 (((q3 : Int))), .bool false]) ?ra1 ?rb1 ?rc1); go_must (case ra1 => simp [results, Tryd.results15, go_sem, x1]); go_must (case rb1 => rfl); go_must (case rc1 => exact .is ⟨va, vb, via, []⟩ [.int .i64 va, .int .i64 vb, .slice oa via.length oc, .slice none 0 0] (q3) false ⟨rfl, ⟨_, _, _, _, rfl, hva, hvb, row_end hrv, rowRep.nil _ _ _ _⟩, hb8, hq3, .inr ⟨rfl, HX.out⟩⟩))
      | true =>
        have HV := Lib.hid (hG3 rfl)
        clear hG3 hX3
        obtain ⟨f1, f2⟩ := hf.cells
        have hfl := hf.lt
        --CUT6
        go_wp2_with fail
        refine (list_c s hs q3 hq3 ⟨#[32, 110, 111, 116, 32]⟩ (by decide) _).mono ?_
        rintro e w7 ⟨no, na, nc, q4, good4, rfl, hb7, hq4, hrn0, hG4, hX4⟩
        replace hG4 : good4 = true → optP notW (s.data.toList.drop q3) = some (no, s.data.toList.drop q4) := hG4
        replace hX4 : good4 = false → optP notW (s.data.toList.drop q3) = none := hX4
        have hrn := row_fb (hrn0.anyOk (ok' := fun k => w.heap.size + 1 < k) (fun b _ hk => by omega)) 3 (.slice na no.length nc)
        replace hrv := row_fb (hrv.below hb7) 3 (.slice na no.length nc)
        clear f1 f2 hfl hrn0
        have hb9 := hb.trans (hb7.mono hb.size)
        have hf9 := hf.under hb7
        have hres9 := hres.under hb7
        obtain ⟨f1, f2⟩ := hf9.cells
        have hfl := hf9.lt
        go_upto_region 11 with fail
        clear f1 f2 hfl
        have hf := hf9.set 3 (.slice na no.length nc)
        simp only [List.setIfInBounds_toArray, List.set_cons_succ, List.set_cons_zero] at hf
        have hres := hres9.setOther (a := ⟨w.heap.size + 1, 3, none⟩) (show w.heap.size ≠ w.heap.size + 1 by omega) (.slice na no.length nc)
        have hb := hb9.setCell (p := ⟨w.heap.size + 1, 3, none⟩) (show w.heap.size ≤ w.heap.size + 1 by omega) (.slice na no.length nc)
        have hz := hf.lt
        clear hb9 hf9 hres9 hb7 
        generalize w7.setCell _ _ = w7 at *
        --CUT7
        cases good4 with
        | false =>
          have HX := Lib.hid (line_f5 HN1.out H62.out HN2.out HV.out (hX4 rfl))
          have hres8 := set4 hres (.int .i64 va) (.int .i64 vb) (.slice oa via.length oc) (.slice na no.length nc)
          have hb8 := below_set4 hb (.int .i64 va) (.int .i64 vb) (.slice oa via.length oc) (.slice na no.length nc)
          obtain ⟨f1, f2⟩ := hf.cells
          obtain ⟨s1, s2⟩ := hres.cells
          have hfl := hf.lt
          have hsl := hres.lt
          obtain ⟨x1, x2⟩ := hres8.cells
          go_wp2_with ((with_reducible refine bodyPost_ret (v := .tuple #[.agg #[.int .i64 va, .int .i64 vb, .slice oa via.length oc, .slice na no.length nc], .int .i64 (((q4 : Int))), .bool false]) ?ra1 ?rb1 ?rc1); go_must (case ra1 => simp [results, Tryd.results15, go_sem, x1]); go_must (case rb1 => rfl); go_must (case rc1 => exact .is ⟨va, vb, via, no⟩ [.int .i64 va, .int .i64 vb, .slice oa via.length oc, .slice na no.length nc] (q4) false ⟨rfl, ⟨_, _, _, _, rfl, hva, hvb, row_end hrv, row_end hrn⟩, hb8, hq4, .inr ⟨rfl, HX.out⟩⟩))
        | true =>
          have HNO := Lib.hid (hG4 rfl)
          clear hG4 hX4
          by_cases hlt : q4 < s.size
          case neg =>
            have c1 : (s.size : Int) ≤ (q4 : Int) := by omega
            have HX := Lib.hid (line_f6 HN1.out H62.out HN2.out HV.out HNO.out (fun e => by rw [List.head?_drop, List.getElem?_eq_none (by rw [str_len]; omega)] at e; cases e))
            have hres8 := set4 hres (.int .i64 va) (.int .i64 vb) (.slice oa via.length oc) (.slice na no.length nc)
            have hb8 := below_set4 hb (.int .i64 va) (.int .i64 vb) (.slice oa via.length oc) (.slice na no.length nc)
            obtain ⟨f1, f2⟩ := hf.cells
            obtain ⟨s1, s2⟩ := hres.cells
            have hfl := hf.lt
            have hsl := hres.lt
            obtain ⟨x1, x2⟩ := hres8.cells
            go_wp2_with ((with_reducible refine bodyPost_ret (v := .tuple #[.agg #[.int .i64 va, .int .i64 vb, .slice oa via.length oc, .slice na no.length nc], .int .i64 (((q4 : Int))), .bool false]) ?ra1 ?rb1 ?rc1); go_must (case ra1 => simp [results, Tryd.results15, go_sem, x1]); go_must (case rb1 => rfl); go_must (case rc1 => exact .is ⟨va, vb, via, no⟩ [.int .i64 va, .int .i64 vb, .slice oa via.length oc, .slice na no.length nc] (q4) false ⟨rfl, ⟨_, _, _, _, rfl, hva, hvb, row_end hrv, row_end hrn⟩, hb8, hq4, .inr ⟨rfl, HX.out⟩⟩))
          have c1 : ¬ (s.size : Int) ≤ (q4 : Int) := by omega
          have b0 : (0 : Int) ≤ (q4 : Int) := by omega
          have b1 : (q4 : Int) < (s.size : Int) := by omega
          by_cases hch : (s[q4]'hlt).toNat = 10
          case neg =>
            have c2 : (((s[q4]'hlt).toNat : Int) != 10) = true := by rw [bne_iff_ne]; omega
            have HX := Lib.hid (line_f6 HN1.out H62.out HN2.out HV.out HNO.out (fun e => by
              rw [List.head?_drop, str_at hlt] at e
              exact hch (by rw [Option.some.inj e]; rfl)))
            have hres8 := set4 hres (.int .i64 va) (.int .i64 vb) (.slice oa via.length oc) (.slice na no.length nc)
            have hb8 := below_set4 hb (.int .i64 va) (.int .i64 vb) (.slice oa via.length oc) (.slice na no.length nc)
            obtain ⟨f1, f2⟩ := hf.cells
            obtain ⟨s1, s2⟩ := hres.cells
            have hfl := hf.lt
            have hsl := hres.lt
            obtain ⟨x1, x2⟩ := hres8.cells
            go_wp2_with ((with_reducible refine bodyPost_ret (v := .tuple #[.agg #[.int .i64 va, .int .i64 vb, .slice oa via.length oc, .slice na no.length nc], .int .i64 (((q4 : Int))), .bool false]) ?ra1 ?rb1 ?rc1); go_must (case ra1 => simp [results, Tryd.results15, go_sem, x1]); go_must (case rb1 => rfl); go_must (case rc1 => exact .is ⟨va, vb, via, no⟩ [.int .i64 va, .int .i64 vb, .slice oa via.length oc, .slice na no.length nc] (q4) false ⟨rfl, ⟨_, _, _, _, rfl, hva, hvb, row_end hrv, row_end hrn⟩, hb8, hq4, .inr ⟨rfl, HX.out⟩⟩))
          have c2 : (((s[q4]'hlt).toNat : Int) != 10) = false := by rw [bne_eq_false_iff_eq]; omega
          have H10 : Hid ((s.data.toList.drop q4).head? = some 10) := Lib.hid (by
            rw [List.head?_drop, str_at hlt]
            exact congrArg some (UInt8.toNat_inj.1 hch))
          clear hch
          have hw1 : IntKind.i64.wrap ((q4 : Int) + 1) = (q4 : Int) + 1 := IntWalk.i64_in _ (by omega)
          have HX : Hid (lineP (s.data.toList.drop p) = some (⟨va, vb, via, no⟩, s.data.toList.drop (q4 + 1))) := Lib.hid (by
            rw [← HDD.out]
            exact lineP_of (f := ⟨va, vb, via, no⟩) HN1.out H62.out HN2.out HV.out HNO.out H10.out)
          --CUT8
          have hres8 := set4 hres (.int .i64 va) (.int .i64 vb) (.slice oa via.length oc) (.slice na no.length nc)
          have hb8 := below_set4 hb (.int .i64 va) (.int .i64 vb) (.slice oa via.length oc) (.slice na no.length nc)
          obtain ⟨f1, f2⟩ := hf.cells
          obtain ⟨s1, s2⟩ := hres.cells
          have hfl := hf.lt
          have hsl := hres.lt
          obtain ⟨x1, x2⟩ := hres8.cells
          go_wp2_with ((with_reducible refine bodyPost_ret (v := .tuple #[.agg #[.int .i64 va, .int .i64 vb, .slice oa via.length oc, .slice na no.length nc], .int .i64 (((q4 : Int) + 1)), .bool true]) ?ra1 ?rb1 ?rc1); go_must (case ra1 => simp [results, Tryd.results15, go_sem, x1]); go_must (case rb1 => rfl); go_must (case rc1 => exact .is ⟨va, vb, via, no⟩ [.int .i64 va, .int .i64 vb, .slice oa via.length oc, .slice na no.length nc] (q4 + 1) true ⟨rfl, ⟨_, _, _, _, rfl, hva, hvb, row_end hrv, row_end hrn⟩, hb8, (by omega), .inl ⟨rfl, HX.out⟩⟩))

end Go.Proofs.YtpfapfgfchenoaaDoor
