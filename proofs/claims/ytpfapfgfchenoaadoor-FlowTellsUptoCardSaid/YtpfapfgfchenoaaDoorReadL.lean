/-
  The reader of a text: a line.
-/
import Derived.Test.YtpfapfgfchenoaaDoorReadN
import Derived.WalkKit
import Derived.WalkSpells
import Derived.WalkLawsBesides
import Derived.Lib.Hide
import Derived.Deep.LoopGhost
import Derived.Deep.QuietTactic
import Derived.BigQuiet
import Derived.Deep.RegionWith
import Derived.Handy
import Derived.Deep.Cut
import Derived.Lib.AtoiErrMem
set_option linter.unusedSimpArgs false
set_option linter.unusedVariables false
namespace Go.St
open Go.RowKit
section
variable {l l1 l3 l4 l5 : List UInt8} {a b : Int} {v n : List Int}
theorem line_f1 (h : numP l = none) : lineP l = none := by unfold lineP; rw [h]
theorem line_f2 (h1 : numP l = some (a, l1)) (h : ¬ l1.head? = some 62) : lineP l = none := by unfold lineP; rw [h1]; dsimp only; rw [if_neg h]
theorem line_f3 (h1 : numP l = some (a, l1)) (h2 : l1.head? = some 62) (h : numP (l1.drop 1) = none) : lineP l = none := by unfold lineP; rw [h1]; dsimp only; rw [if_pos h2, h]
theorem line_f4 (h1 : numP l = some (a, l1)) (h2 : l1.head? = some 62) (h3 : numP (l1.drop 1) = some (b, l3)) (h : optP viaW l3 = none) : lineP l = none := by unfold lineP; rw [h1]; dsimp only; rw [if_pos h2, h3]; dsimp only; rw [h]
theorem line_f5 (h1 : numP l = some (a, l1)) (h2 : l1.head? = some 62) (h3 : numP (l1.drop 1) = some (b, l3)) (h4 : optP viaW l3 = some (v, l4)) (h : optP notW l4 = none) : lineP l = none := by unfold lineP; rw [h1]; dsimp only; rw [if_pos h2, h3]; dsimp only; rw [h4]; dsimp only; rw [h]
theorem line_f6 (h1 : numP l = some (a, l1)) (h2 : l1.head? = some 62) (h3 : numP (l1.drop 1) = some (b, l3)) (h4 : optP viaW l3 = some (v, l4)) (h5 : optP notW l4 = some (n, l5)) (h : ¬ l5.head? = some 10) : lineP l = none := by unfold lineP; rw [h1]; dsimp only; rw [if_pos h2, h3]; dsimp only; rw [h4]; dsimp only; rw [h5]; dsimp only; rw [if_neg h]
theorem opt_no {w : List UInt8} (h : Lib.hasPrefix l w = false) : optP w l = some ([], l) := by unfold optP; rw [if_neg (by rw [h]; decide)]
theorem opt_yes {w : List UInt8} (h : Lib.hasPrefix l w = true) : optP w l = numsP (l.drop w.length) := by unfold optP; rw [if_pos h]
end
theorem hp_not {l : List UInt8} {c : UInt8} (h : Lib.hasPrefix l [c] = false) : ¬ l.head? = some c := fun e => by rw [hp_one.2 e] at h; cases h
theorem set4 {w : World} {b : Nat} {τ : TypeId} {c0 c1 c2 c3 : Value} (h : blockIs w b τ #[c0, c1, c2, c3]) (v0 v1 v2 v3 : Value) : blockIs ((((w.setCell ⟨b, 0, none⟩ v0).setCell ⟨b, 1, none⟩ v1).setCell ⟨b, 2, none⟩ v2).setCell ⟨b, 3, none⟩ v3) b τ #[v0, v1, v2, v3] := by
  have h9 := (((h.set 0 v0).set 1 v1).set 2 v2).set 3 v3
  simp only [List.setIfInBounds_toArray, List.set_cons_succ, List.set_cons_zero] at h9
  exact h9
theorem heap_set4 {w : World} {a b : Nat} {v0 v1 v2 v3 : Value} (h : a ≠ b) : ((((w.setCell ⟨b, 0, none⟩ v0).setCell ⟨b, 1, none⟩ v1).setCell ⟨b, 2, none⟩ v2).setCell ⟨b, 3, none⟩ v3).heap[a]? = w.heap[a]? := by
  rw [Below.heap_setCell _ _ _ _ h, Below.heap_setCell _ _ _ _ h, Below.heap_setCell _ _ _ _ h, Below.heap_setCell _ _ _ _ h]
theorem row_set {w : World} {base rb : Nat} {ao : Option Addr} {c : Nat} {xs : List Int} (h : rowRep intS (fun b => base < b) w ao c xs) (hl : rb < base) (v : Value) : rowRep intS (fun b => base < b) (w.setCell ⟨rb, 2, none⟩ v) ao c xs :=
  h.mono fun b _ hk => ⟨hk, Below.heap_setCell _ _ _ _ (show b ≠ rb by omega)⟩
theorem row_set4 {w : World} {base b : Nat} {v0 v1 v2 v3 : Value} {ao : Option Addr} {c : Nat} {xs : List Int} (h : rowRep intS (fun k => base < k) w ao c xs) (hl : ∀ k, base < k → k ≠ b) : rowRep intS (fun k => base < k) ((((w.setCell ⟨b, 0, none⟩ v0).setCell ⟨b, 1, none⟩ v1).setCell ⟨b, 2, none⟩ v2).setCell ⟨b, 3, none⟩ v3) ao c xs :=
  h.mono fun k _ hk => ⟨hk, heap_set4 (hl k hk)⟩
theorem Frm.own {W : Nat → Prop} {B : Nat} {w0 w : World} (h : Frm W B w0 w) {b : Nat} (hb : w0.heap.size ≤ b) (hB : B ≤ w0.heap.size) (o : Nat) (v : Value) : Frm W B w0 (w.setCell ⟨b, o, none⟩ v) :=
  ⟨h.below.setCell (p := ⟨b, o, none⟩) (Nat.le_trans hB hb) v, fun k hk hW => (Below.heap_setCell _ _ _ _ (show k ≠ b by omega)).trans (h.keep k hk hW)⟩
theorem row_fb {w : World} {fb : Nat} {ao : Option Addr} {c : Nat} {xs : List Int} (h : rowRep intS (fun k => fb < k) w ao c xs) (o : Nat) (v : Value) : rowRep intS (fun k => fb < k) (w.setCell ⟨fb, o, none⟩ v) ao c xs :=
  h.mono fun k _ hk => ⟨hk, Below.heap_setCell _ _ _ _ (show k ≠ fb by omega)⟩
end Go.St
namespace Go.Proofs.YtpfapfgfchenoaaDoor
open Go.RowKit Go.St

set_option maxRecDepth 100000 in
set_option maxHeartbeats 16000000 in
theorem line_c2 (s : ByteArray) (hs : s.size ≤ 2000) (p : Nat) (hp : p ≤ s.size) (rb B : Nat) (hB : B ≤ rb) (w : World) (h : blockIs w rb 37 #[.string s, .int .i64 (p : Int), .bool false]) :
    Calls Tryd.prog 14 #[.pointer (some ⟨rb, 0, none⟩)] w fun e w' => ∃ (f : Flow) (cs : List Value) (q : Nat) (bad : Bool), e = .returned (.agg cs.toArray) ∧ flowS.rep (fun b => w.heap.size ≤ b) w' cs f ∧ blockIs w' rb 37 #[.string s, .int .i64 (q : Int), .bool bad] ∧ Frm (fun k => k ≠ rb) B w w' ∧ q ≤ s.size ∧ ((bad = false ∧ lineP (s.data.toList.drop p) = some (f, s.data.toList.drop q)) ∨ (bad = true ∧ lineP (s.data.toList.drop p) = none)) := by
  have hrl := h.lt
  have hres0 : blockIs (w.alloc (.cells #[.int .i64 0, .int .i64 0, .slice none 0 0, .slice none 0 0] 40)) w.heap.size 40 #[.int .i64 0, .int .i64 0, .slice none 0 0, .slice none 0 0] := blockIs.new rfl
  have h0 := h.alloc (.cells #[.int .i64 0, .int .i64 0, .slice none 0 0, .slice none 0 0] 40)
  have hF0 : Frm (fun k => k ≠ rb) B w (w.alloc (.cells #[.int .i64 0, .int .i64 0, .slice none 0 0, .slice none 0 0] 40)) := Frm.of (bel_new _ _) (by omega)
  have hdd := fun (q : Nat) => (List.drop_drop : List.drop 1 (List.drop q s.data.toList) = _)
  have HDD := Lib.hid hdd
  clear hdd
  go_enter Tryd.func14, Tryd.ntmps14
  go_wp2_with fail
  refine (num_c s hs p hp rb B hB _ h0).mono ?_
  rintro e w1 ⟨va, q1, bad1, rfl, h1, hF1, hN1⟩
  have hres1 := hF1.blk hres0 (.inl (show w.heap.size ≠ rb by omega))
  have hz1 := hF1.size
  have hx2 := bel_new w1 (.cells #[.int .i64 va, .int .i64 0, .slice none 0 0, .slice none 0 0] 40)
  have hf : blockIs (w1.alloc (.cells #[.int .i64 va, .int .i64 0, .slice none 0 0, .slice none 0 0] 40)) w1.heap.size 40 #[.int .i64 va, .int .i64 0, .slice none 0 0, .slice none 0 0] := blockIs.new rfl
  have hr := h1.under hx2
  have hres := hres1.under hx2
  have hF : Frm (fun k => k ≠ rb) B w (w1.alloc (.cells #[.int .i64 va, .int .i64 0, .slice none 0 0, .slice none 0 0] 40)) := (hF0.trans hF1).trans (Frm.of hx2 (by have := hF0.size; omega))
  have hsz0 : (w.alloc (.cells #[.int .i64 0, .int .i64 0, .slice none 0 0, .slice none 0 0] 40)).heap.size = w.heap.size + 1 := by simp
  have hfb1 : w.heap.size < w1.heap.size := by omega
  have hfb2 : w1.heap.size ≠ rb := by omega
  have hva : I64 va := I64.small (by have := hN1.v4; omega) (by have := hN1.v4; omega)
  clear hres0 h0 hF0 h1 hF1 hres1 hx2 hsz0 hz1
  --CUT1
  go_upto_region 2 with fail
  generalize w1.alloc _ = w2 at *
  generalize w1.heap.size = fb at *
  cases bad1 with
  | true =>
    have HX := Lib.hid (line_f1 (hN1.none_ rfl))
    obtain ⟨r1, r2⟩ := hr.cells
    obtain ⟨f1, f2⟩ := hf.cells
    obtain ⟨s1, s2⟩ := hres.cells
    have hrl2 := hr.lt
    have hfl2 := hf.lt
    have hsl2 := hres.lt
    go_upto_region 3 with fail
    clear r1 r2 f1 f2 s1 s2 hrl2 hfl2 hsl2
    replace hf := hf.setOther (a := ⟨rb, 2, none⟩) hfb2 (.bool true)
    replace hres := hres.setOther (a := ⟨rb, 2, none⟩) (show w.heap.size ≠ rb by omega) (.bool true)
    replace hF := hF.trans (Frm.set (a := ⟨rb, 2, none⟩) (fun h => h rfl) hB (.bool true))
    replace hr := hr.set 2 (.bool true)
    simp only [List.setIfInBounds_toArray, List.set_cons_succ, List.set_cons_zero] at hr
    generalize (w2.setCell ⟨rb, 2, none⟩ (.bool true)) = u3 at *
    have hr9 := hr.set 2 (.bool true)
    simp only [List.setIfInBounds_toArray, List.set_cons_succ, List.set_cons_zero] at hr9
    have hres9 := set4 (hres.setOther (a := ⟨rb, 2, none⟩) (show w.heap.size ≠ rb by omega) (.bool true)) (.int .i64 va) (.int .i64 0) (.slice none 0 0) (.slice none 0 0)
    have hFz := (hF.trans (Frm.set (a := ⟨rb, 2, none⟩) (fun h => h rfl) hB (.bool true)))
    have hFy : Frm (fun k => k ≠ rb) B w (((((u3.setCell ⟨rb, 2, none⟩ (.bool true)).setCell ⟨w.heap.size, 0, none⟩ (.int .i64 va)).setCell ⟨w.heap.size, 1, none⟩ (.int .i64 0)).setCell ⟨w.heap.size, 2, none⟩ (.slice none 0 0)).setCell ⟨w.heap.size, 3, none⟩ (.slice none 0 0)) := ⟨(((hFz.below.setCell (p := ⟨w.heap.size, 0, none⟩) (by show B ≤ w.heap.size; omega) _).setCell (p := ⟨w.heap.size, 1, none⟩) (by show B ≤ w.heap.size; omega) _).setCell (p := ⟨w.heap.size, 2, none⟩) (by show B ≤ w.heap.size; omega) _).setCell (p := ⟨w.heap.size, 3, none⟩) (by show B ≤ w.heap.size; omega) _, fun b hb hW => by rw [heap_set4 (show b ≠ w.heap.size by omega)]; exact hFz.keep b hb hW⟩
    have hry : blockIs (((((u3.setCell ⟨rb, 2, none⟩ (.bool true)).setCell ⟨w.heap.size, 0, none⟩ (.int .i64 va)).setCell ⟨w.heap.size, 1, none⟩ (.int .i64 0)).setCell ⟨w.heap.size, 2, none⟩ (.slice none 0 0)).setCell ⟨w.heap.size, 3, none⟩ (.slice none 0 0)) rb 37 _ := hr9.keep (heap_set4 (show rb ≠ w.heap.size by omega))
    have HL := Lib.hid (HX.out)
    obtain ⟨r1, r2⟩ := hr.cells
    obtain ⟨f1, f2⟩ := hf.cells
    obtain ⟨s1, s2⟩ := hres.cells
    have hrl2 := hr.lt
    have hfl2 := hf.lt
    have hsl2 := hres.lt
    obtain ⟨x1, x2⟩ := hres9.cells
    --CUTL01
    go_wp2_with ((with_reducible refine bodyPost_ret (v := .agg #[.int .i64 va, .int .i64 0, .slice none 0 0, .slice none 0 0]) ?ra1 ?rb1 ?rc1); go_must (case ra1 => simp [results, Tryd.results14, go_sem, x1]); go_must (case rb1 => rfl); go_must (case rc1 => exact ⟨⟨va, 0, [], []⟩, [.int .i64 va, .int .i64 0, .slice none 0 0, .slice none 0 0], q1, true, rfl, ⟨_, _, _, _, rfl, hva, (show I64 0 from I64.small (by decide) (by decide)), rowRep.nil _ _ _ _, rowRep.nil _ _ _ _⟩, hry, hFy, hN1.le.2, .inr ⟨rfl, HL.out⟩⟩))
  | false =>
    obtain ⟨r1, r2⟩ := hr.cells
    obtain ⟨f1, f2⟩ := hf.cells
    obtain ⟨s1, s2⟩ := hres.cells
    have hrl2 := hr.lt
    have hfl2 := hf.lt
    have hsl2 := hres.lt
    go_wp2_with fail
    refine (eat_c s hs q1 hN1.le.2 false rb B hB _ hr ⟨#[62]⟩ (by decide)).mono ?_
    rintro e u4 ⟨qu4, rfl, hr', hE, e1, e2⟩
    clear r1 r2 f1 f2 s1 s2 hrl2 hfl2 hsl2
    replace hf := hE.blk hf (.inl hfb2)
    replace hres := hE.blk hres (.inl (show w.heap.size ≠ rb by omega))
    replace hF := hF.trans hE
    clear hr
    have hr := hr'
    clear hr'
    clear hE
    replace e1 : Lib.hasPrefix (s.data.toList.drop q1) [62] = true → qu4 = q1 + 1 := e1
    replace e2 : Lib.hasPrefix (s.data.toList.drop q1) [62] = false → qu4 = q1 := e2
    rw [show ((⟨#[62]⟩ : ByteArray).data.toList) = [62] from rfl]
    generalize hb : Lib.hasPrefix (s.data.toList.drop q1) [62] = b9 at *
    cases b9 with
    | false =>
      have hqq : qu4 ≤ s.size := by rw [e2 rfl]; exact hN1.le.2
      have HX := Lib.hid (line_f2 (hN1.some_ rfl).1 (hp_not hb))
      clear e1 e2 hb
      obtain ⟨r1, r2⟩ := hr.cells
      obtain ⟨f1, f2⟩ := hf.cells
      obtain ⟨s1, s2⟩ := hres.cells
      have hrl2 := hr.lt
      have hfl2 := hf.lt
      have hsl2 := hres.lt
      go_upto_region 3 with fail
      clear r1 r2 f1 f2 s1 s2 hrl2 hfl2 hsl2
      replace hf := hf.setOther (a := ⟨rb, 2, none⟩) hfb2 (.bool true)
      replace hres := hres.setOther (a := ⟨rb, 2, none⟩) (show w.heap.size ≠ rb by omega) (.bool true)
      replace hF := hF.trans (Frm.set (a := ⟨rb, 2, none⟩) (fun h => h rfl) hB (.bool true))
      replace hr := hr.set 2 (.bool true)
      simp only [List.setIfInBounds_toArray, List.set_cons_succ, List.set_cons_zero] at hr
      generalize (u4.setCell ⟨rb, 2, none⟩ (.bool true)) = u5 at *
      have hr9 := hr.set 2 (.bool true)
      simp only [List.setIfInBounds_toArray, List.set_cons_succ, List.set_cons_zero] at hr9
      have hres9 := set4 (hres.setOther (a := ⟨rb, 2, none⟩) (show w.heap.size ≠ rb by omega) (.bool true)) (.int .i64 va) (.int .i64 0) (.slice none 0 0) (.slice none 0 0)
      have hFz := (hF.trans (Frm.set (a := ⟨rb, 2, none⟩) (fun h => h rfl) hB (.bool true)))
      have hFy : Frm (fun k => k ≠ rb) B w (((((u5.setCell ⟨rb, 2, none⟩ (.bool true)).setCell ⟨w.heap.size, 0, none⟩ (.int .i64 va)).setCell ⟨w.heap.size, 1, none⟩ (.int .i64 0)).setCell ⟨w.heap.size, 2, none⟩ (.slice none 0 0)).setCell ⟨w.heap.size, 3, none⟩ (.slice none 0 0)) := ⟨(((hFz.below.setCell (p := ⟨w.heap.size, 0, none⟩) (by show B ≤ w.heap.size; omega) _).setCell (p := ⟨w.heap.size, 1, none⟩) (by show B ≤ w.heap.size; omega) _).setCell (p := ⟨w.heap.size, 2, none⟩) (by show B ≤ w.heap.size; omega) _).setCell (p := ⟨w.heap.size, 3, none⟩) (by show B ≤ w.heap.size; omega) _, fun b hb hW => by rw [heap_set4 (show b ≠ w.heap.size by omega)]; exact hFz.keep b hb hW⟩
      have hry : blockIs (((((u5.setCell ⟨rb, 2, none⟩ (.bool true)).setCell ⟨w.heap.size, 0, none⟩ (.int .i64 va)).setCell ⟨w.heap.size, 1, none⟩ (.int .i64 0)).setCell ⟨w.heap.size, 2, none⟩ (.slice none 0 0)).setCell ⟨w.heap.size, 3, none⟩ (.slice none 0 0)) rb 37 _ := hr9.keep (heap_set4 (show rb ≠ w.heap.size by omega))
      have HL := Lib.hid (HX.out)
      obtain ⟨r1, r2⟩ := hr.cells
      obtain ⟨f1, f2⟩ := hf.cells
      obtain ⟨s1, s2⟩ := hres.cells
      have hrl2 := hr.lt
      have hfl2 := hf.lt
      have hsl2 := hres.lt
      obtain ⟨x1, x2⟩ := hres9.cells
      --CUTL02
      go_wp2_with ((with_reducible refine bodyPost_ret (v := .agg #[.int .i64 va, .int .i64 0, .slice none 0 0, .slice none 0 0]) ?ra1 ?rb1 ?rc1); go_must (case ra1 => simp [results, Tryd.results14, go_sem, x1]); go_must (case rb1 => rfl); go_must (case rc1 => exact ⟨⟨va, 0, [], []⟩, [.int .i64 va, .int .i64 0, .slice none 0 0, .slice none 0 0], qu4, true, rfl, ⟨_, _, _, _, rfl, hva, (show I64 0 from I64.small (by decide) (by decide)), rowRep.nil _ _ _ _, rowRep.nil _ _ _ _⟩, hry, hFy, hqq, .inr ⟨rfl, HL.out⟩⟩))
    | true =>
      have hpl := hasPrefix_len hb
      rw [List.length_drop, str_len] at hpl
      have hqq : qu4 ≤ s.size := by rw [e1 rfl]; simp only [List.length_cons, List.length_nil] at hpl; omega
      have HQ3 := Lib.hid (e1 rfl)
      have H62 := Lib.hid (hp_one.1 hb)
      clear e1 e2 hb hpl
      obtain ⟨r1, r2⟩ := hr.cells
      obtain ⟨f1, f2⟩ := hf.cells
      obtain ⟨s1, s2⟩ := hres.cells
      have hrl2 := hr.lt
      have hfl2 := hf.lt
      have hsl2 := hres.lt
      go_upto_region 3 with fail
      clear r1 r2 f1 f2 s1 s2 hrl2 hfl2 hsl2
      replace hf := hf.setOther (a := ⟨rb, 2, none⟩) hfb2 (.bool false)
      replace hres := hres.setOther (a := ⟨rb, 2, none⟩) (show w.heap.size ≠ rb by omega) (.bool false)
      replace hF := hF.trans (Frm.set (a := ⟨rb, 2, none⟩) (fun h => h rfl) hB (.bool false))
      replace hr := hr.set 2 (.bool false)
      simp only [List.setIfInBounds_toArray, List.set_cons_succ, List.set_cons_zero] at hr
      generalize (u4.setCell ⟨rb, 2, none⟩ (.bool false)) = u6 at *
      obtain ⟨r1, r2⟩ := hr.cells
      obtain ⟨f1, f2⟩ := hf.cells
      obtain ⟨s1, s2⟩ := hres.cells
      have hrl2 := hr.lt
      have hfl2 := hf.lt
      have hsl2 := hres.lt
      --CUTL03
      go_wp2_with fail
      refine (num_c s hs qu4 hqq rb B hB _ hr).mono ?_
      rintro e u7 ⟨vb, qu7, bad5, rfl, hr', hE, hN3⟩
      clear r1 r2 f1 f2 s1 s2 hrl2 hfl2 hsl2
      replace hf := hE.blk hf (.inl hfb2)
      replace hres := hE.blk hres (.inl (show w.heap.size ≠ rb by omega))
      replace hF := hF.trans hE
      clear hr
      have hr := hr'
      clear hr'
      clear hE
      obtain ⟨r1, r2⟩ := hr.cells
      obtain ⟨f1, f2⟩ := hf.cells
      obtain ⟨s1, s2⟩ := hres.cells
      have hrl2 := hr.lt
      have hfl2 := hf.lt
      have hsl2 := hres.lt
      go_upto_region 5 with fail
      clear r1 r2 f1 f2 s1 s2 hrl2 hfl2 hsl2
      replace hr := hr.setOther (a := ⟨fb, 1, none⟩) (Ne.symm hfb2) (.int .i64 vb)
      replace hres := hres.setOther (a := ⟨fb, 1, none⟩) (show w.heap.size ≠ fb by omega) (.int .i64 vb)
      replace hF := hF.own (b := fb) (show w.heap.size ≤ fb by omega) (by omega) 1 (.int .i64 vb)
      replace hf := hf.set 1 (.int .i64 vb)
      simp only [List.setIfInBounds_toArray, List.set_cons_succ, List.set_cons_zero] at hf
      generalize (u7.setCell ⟨fb, 1, none⟩ (.int .i64 vb)) = u8 at *
      --CUTL04
      cases bad5 with
      | true =>
        have HX := Lib.hid (line_f3 (hN1.some_ rfl).1 H62.out (by rw [HDD.out, ← HQ3.out]; exact hN3.none_ rfl))
        have hr9 := hr.set 2 (.bool true)
        simp only [List.setIfInBounds_toArray, List.set_cons_succ, List.set_cons_zero] at hr9
        have hres9 := set4 (hres.setOther (a := ⟨rb, 2, none⟩) (show w.heap.size ≠ rb by omega) (.bool true)) (.int .i64 va) (.int .i64 vb) (.slice none 0 0) (.slice none 0 0)
        have hFz := (hF.trans (Frm.set (a := ⟨rb, 2, none⟩) (fun h => h rfl) hB (.bool true)))
        have hFy : Frm (fun k => k ≠ rb) B w (((((u8.setCell ⟨rb, 2, none⟩ (.bool true)).setCell ⟨w.heap.size, 0, none⟩ (.int .i64 va)).setCell ⟨w.heap.size, 1, none⟩ (.int .i64 vb)).setCell ⟨w.heap.size, 2, none⟩ (.slice none 0 0)).setCell ⟨w.heap.size, 3, none⟩ (.slice none 0 0)) := ⟨(((hFz.below.setCell (p := ⟨w.heap.size, 0, none⟩) (by show B ≤ w.heap.size; omega) _).setCell (p := ⟨w.heap.size, 1, none⟩) (by show B ≤ w.heap.size; omega) _).setCell (p := ⟨w.heap.size, 2, none⟩) (by show B ≤ w.heap.size; omega) _).setCell (p := ⟨w.heap.size, 3, none⟩) (by show B ≤ w.heap.size; omega) _, fun b hb hW => by rw [heap_set4 (show b ≠ w.heap.size by omega)]; exact hFz.keep b hb hW⟩
        have hry : blockIs (((((u8.setCell ⟨rb, 2, none⟩ (.bool true)).setCell ⟨w.heap.size, 0, none⟩ (.int .i64 va)).setCell ⟨w.heap.size, 1, none⟩ (.int .i64 vb)).setCell ⟨w.heap.size, 2, none⟩ (.slice none 0 0)).setCell ⟨w.heap.size, 3, none⟩ (.slice none 0 0)) rb 37 _ := hr9.keep (heap_set4 (show rb ≠ w.heap.size by omega))
        have HL := Lib.hid (HX.out)
        obtain ⟨r1, r2⟩ := hr.cells
        obtain ⟨f1, f2⟩ := hf.cells
        obtain ⟨s1, s2⟩ := hres.cells
        have hrl2 := hr.lt
        have hfl2 := hf.lt
        have hsl2 := hres.lt
        obtain ⟨x1, x2⟩ := hres9.cells
        --CUTL05
        go_wp2_with ((with_reducible refine bodyPost_ret (v := .agg #[.int .i64 va, .int .i64 vb, .slice none 0 0, .slice none 0 0]) ?ra1 ?rb1 ?rc1); go_must (case ra1 => simp [results, Tryd.results14, go_sem, x1]); go_must (case rb1 => rfl); go_must (case rc1 => exact ⟨⟨va, vb, [], []⟩, [.int .i64 va, .int .i64 vb, .slice none 0 0, .slice none 0 0], qu7, true, rfl, ⟨_, _, _, _, rfl, hva, (show I64 vb from I64.small (by have := hN3.v4; omega) (by have := hN3.v4; omega)), rowRep.nil _ _ _ _, rowRep.nil _ _ _ _⟩, hry, hFy, hN3.le.2, .inr ⟨rfl, HL.out⟩⟩))
      | false =>
        have N3 : Hid (numP ((s.data.toList.drop q1).drop 1) = some (vb, s.data.toList.drop qu7)) := Lib.hid (by rw [HDD.out, ← HQ3.out]; exact (hN3.some_ rfl).1)
        obtain ⟨r1, r2⟩ := hr.cells
        obtain ⟨f1, f2⟩ := hf.cells
        obtain ⟨s1, s2⟩ := hres.cells
        have hrl2 := hr.lt
        have hfl2 := hf.lt
        have hsl2 := hres.lt
        go_wp2_with fail
        refine (eat_c s hs qu7 hN3.le.2 false rb B hB _ hr ⟨#[32, 118, 105, 97, 32]⟩ (by decide)).mono ?_
        rintro e u9 ⟨qu9, rfl, hr', hE, e1, e2⟩
        clear r1 r2 f1 f2 s1 s2 hrl2 hfl2 hsl2
        replace hf := hE.blk hf (.inl hfb2)
        replace hres := hE.blk hres (.inl (show w.heap.size ≠ rb by omega))
        replace hF := hF.trans hE
        clear hr
        have hr := hr'
        clear hr'
        clear hE
        replace e1 : Lib.hasPrefix (s.data.toList.drop qu7) [32, 118, 105, 97, 32] = true → qu9 = qu7 + 5 := e1
        replace e2 : Lib.hasPrefix (s.data.toList.drop qu7) [32, 118, 105, 97, 32] = false → qu9 = qu7 := e2
        rw [show ((⟨#[32, 118, 105, 97, 32]⟩ : ByteArray).data.toList) = [32, 118, 105, 97, 32] from rfl]
        generalize hb : Lib.hasPrefix (s.data.toList.drop qu7) [32, 118, 105, 97, 32] = b9 at *
        cases b9 with
        | false =>
          have hqq : qu9 ≤ s.size := by rw [e2 rfl]; exact hN3.le.2
          have ovia : optP viaW (s.data.toList.drop qu7) = some ([], s.data.toList.drop qu9) := by rw [e2 rfl]; exact opt_no hb
          have Ovia := Lib.hid ovia
          clear e1 e2 hb ovia
          have hqvia := hqq
          clear hqq
          obtain ⟨r1, r2⟩ := hr.cells
          obtain ⟨f1, f2⟩ := hf.cells
          obtain ⟨s1, s2⟩ := hres.cells
          have hrl2 := hr.lt
          have hfl2 := hf.lt
          have hsl2 := hres.lt
          go_wp2_with fail
          refine (eat_c s hs qu9 hqvia false rb B hB _ hr ⟨#[32, 110, 111, 116, 32]⟩ (by decide)).mono ?_
          rintro e u10 ⟨qu10, rfl, hr', hE, e1, e2⟩
          clear r1 r2 f1 f2 s1 s2 hrl2 hfl2 hsl2
          replace hf := hE.blk hf (.inl hfb2)
          replace hres := hE.blk hres (.inl (show w.heap.size ≠ rb by omega))
          replace hF := hF.trans hE
          clear hr
          have hr := hr'
          clear hr'
          clear hE
          replace e1 : Lib.hasPrefix (s.data.toList.drop qu9) [32, 110, 111, 116, 32] = true → qu10 = qu9 + 5 := e1
          replace e2 : Lib.hasPrefix (s.data.toList.drop qu9) [32, 110, 111, 116, 32] = false → qu10 = qu9 := e2
          rw [show ((⟨#[32, 110, 111, 116, 32]⟩ : ByteArray).data.toList) = [32, 110, 111, 116, 32] from rfl]
          generalize hb : Lib.hasPrefix (s.data.toList.drop qu9) [32, 110, 111, 116, 32] = b9 at *
          cases b9 with
          | false =>
            have hqq : qu10 ≤ s.size := by rw [e2 rfl]; exact hqvia
            have ono : optP notW (s.data.toList.drop qu9) = some ([], s.data.toList.drop qu10) := by rw [e2 rfl]; exact opt_no hb
            have Ono := Lib.hid ono
            clear e1 e2 hb ono
            have hqno := hqq
            clear hqq
            obtain ⟨r1, r2⟩ := hr.cells
            obtain ⟨f1, f2⟩ := hf.cells
            obtain ⟨s1, s2⟩ := hres.cells
            have hrl2 := hr.lt
            have hfl2 := hf.lt
            have hsl2 := hres.lt
            go_wp2_with fail
            refine (eat_c s hs qu10 hqno false rb B hB _ hr ⟨#[10]⟩ (by decide)).mono ?_
            rintro e u11 ⟨qu11, rfl, hr', hE, e1, e2⟩
            clear r1 r2 f1 f2 s1 s2 hrl2 hfl2 hsl2
            replace hf := hE.blk hf (.inl hfb2)
            replace hres := hE.blk hres (.inl (show w.heap.size ≠ rb by omega))
            replace hF := hF.trans hE
            clear hr
            have hr := hr'
            clear hr'
            clear hE
            replace e1 : Lib.hasPrefix (s.data.toList.drop qu10) [10] = true → qu11 = qu10 + 1 := e1
            replace e2 : Lib.hasPrefix (s.data.toList.drop qu10) [10] = false → qu11 = qu10 := e2
            rw [show ((⟨#[10]⟩ : ByteArray).data.toList) = [10] from rfl]
            generalize hb : Lib.hasPrefix (s.data.toList.drop qu10) [10] = b9 at *
            cases b9 with
            | false =>
              have hqq : qu11 ≤ s.size := by rw [e2 rfl]; exact hqno
              have HX := Lib.hid (line_f6 (hN1.some_ rfl).1 H62.out N3.out Ovia.out Ono.out (hp_not hb))
              clear e1 e2 hb
              have hr9 := hr.set 2 (.bool true)
              simp only [List.setIfInBounds_toArray, List.set_cons_succ, List.set_cons_zero] at hr9
              have hres9 := set4 (hres.setOther (a := ⟨rb, 2, none⟩) (show w.heap.size ≠ rb by omega) (.bool true)) (.int .i64 va) (.int .i64 vb) (.slice none 0 0) (.slice none 0 0)
              have hFz := (hF.trans (Frm.set (a := ⟨rb, 2, none⟩) (fun h => h rfl) hB (.bool true)))
              have hFy : Frm (fun k => k ≠ rb) B w (((((u11.setCell ⟨rb, 2, none⟩ (.bool true)).setCell ⟨w.heap.size, 0, none⟩ (.int .i64 va)).setCell ⟨w.heap.size, 1, none⟩ (.int .i64 vb)).setCell ⟨w.heap.size, 2, none⟩ (.slice none 0 0)).setCell ⟨w.heap.size, 3, none⟩ (.slice none 0 0)) := ⟨(((hFz.below.setCell (p := ⟨w.heap.size, 0, none⟩) (by show B ≤ w.heap.size; omega) _).setCell (p := ⟨w.heap.size, 1, none⟩) (by show B ≤ w.heap.size; omega) _).setCell (p := ⟨w.heap.size, 2, none⟩) (by show B ≤ w.heap.size; omega) _).setCell (p := ⟨w.heap.size, 3, none⟩) (by show B ≤ w.heap.size; omega) _, fun b hb hW => by rw [heap_set4 (show b ≠ w.heap.size by omega)]; exact hFz.keep b hb hW⟩
              have hry : blockIs (((((u11.setCell ⟨rb, 2, none⟩ (.bool true)).setCell ⟨w.heap.size, 0, none⟩ (.int .i64 va)).setCell ⟨w.heap.size, 1, none⟩ (.int .i64 vb)).setCell ⟨w.heap.size, 2, none⟩ (.slice none 0 0)).setCell ⟨w.heap.size, 3, none⟩ (.slice none 0 0)) rb 37 _ := hr9.keep (heap_set4 (show rb ≠ w.heap.size by omega))
              have HL := Lib.hid (HX.out)
              obtain ⟨r1, r2⟩ := hr.cells
              obtain ⟨f1, f2⟩ := hf.cells
              obtain ⟨s1, s2⟩ := hres.cells
              have hrl2 := hr.lt
              have hfl2 := hf.lt
              have hsl2 := hres.lt
              obtain ⟨x1, x2⟩ := hres9.cells
              --CUTL06
              go_wp2_with ((with_reducible refine bodyPost_ret (v := .agg #[.int .i64 va, .int .i64 vb, .slice none 0 0, .slice none 0 0]) ?ra1 ?rb1 ?rc1); go_must (case ra1 => simp [results, Tryd.results14, go_sem, x1]); go_must (case rb1 => rfl); go_must (case rc1 => exact ⟨⟨va, vb, [], []⟩, [.int .i64 va, .int .i64 vb, .slice none 0 0, .slice none 0 0], qu11, true, rfl, ⟨_, _, _, _, rfl, hva, (show I64 vb from I64.small (by have := hN3.v4; omega) (by have := hN3.v4; omega)), rowRep.nil _ _ _ _, rowRep.nil _ _ _ _⟩, hry, hFy, hqq, .inr ⟨rfl, HL.out⟩⟩))
            | true =>
              have hpl := hasPrefix_len hb
              rw [List.length_drop, str_len] at hpl
              have hqq : qu11 ≤ s.size := by rw [e1 rfl]; simp only [List.length_cons, List.length_nil] at hpl; omega
              have HX := Lib.hid (show lineP (s.data.toList.drop p) = some (⟨va, vb, [], []⟩, s.data.toList.drop qu11) by rw [e1 rfl, ← HDD.out]; exact lineP_of (f := ⟨va, vb, [], []⟩) (hN1.some_ rfl).1 H62.out N3.out Ovia.out Ono.out (hp_one.1 hb))
              clear e1 e2 hb hpl
              have hr9 := hr.set 2 (.bool false)
              simp only [List.setIfInBounds_toArray, List.set_cons_succ, List.set_cons_zero] at hr9
              have hres9 := set4 (hres.setOther (a := ⟨rb, 2, none⟩) (show w.heap.size ≠ rb by omega) (.bool false)) (.int .i64 va) (.int .i64 vb) (.slice none 0 0) (.slice none 0 0)
              have hFz := (hF.trans (Frm.set (a := ⟨rb, 2, none⟩) (fun h => h rfl) hB (.bool false)))
              have hFy : Frm (fun k => k ≠ rb) B w (((((u11.setCell ⟨rb, 2, none⟩ (.bool false)).setCell ⟨w.heap.size, 0, none⟩ (.int .i64 va)).setCell ⟨w.heap.size, 1, none⟩ (.int .i64 vb)).setCell ⟨w.heap.size, 2, none⟩ (.slice none 0 0)).setCell ⟨w.heap.size, 3, none⟩ (.slice none 0 0)) := ⟨(((hFz.below.setCell (p := ⟨w.heap.size, 0, none⟩) (by show B ≤ w.heap.size; omega) _).setCell (p := ⟨w.heap.size, 1, none⟩) (by show B ≤ w.heap.size; omega) _).setCell (p := ⟨w.heap.size, 2, none⟩) (by show B ≤ w.heap.size; omega) _).setCell (p := ⟨w.heap.size, 3, none⟩) (by show B ≤ w.heap.size; omega) _, fun b hb hW => by rw [heap_set4 (show b ≠ w.heap.size by omega)]; exact hFz.keep b hb hW⟩
              have hry : blockIs (((((u11.setCell ⟨rb, 2, none⟩ (.bool false)).setCell ⟨w.heap.size, 0, none⟩ (.int .i64 va)).setCell ⟨w.heap.size, 1, none⟩ (.int .i64 vb)).setCell ⟨w.heap.size, 2, none⟩ (.slice none 0 0)).setCell ⟨w.heap.size, 3, none⟩ (.slice none 0 0)) rb 37 _ := hr9.keep (heap_set4 (show rb ≠ w.heap.size by omega))
              have HL := Lib.hid (HX.out)
              obtain ⟨r1, r2⟩ := hr.cells
              obtain ⟨f1, f2⟩ := hf.cells
              obtain ⟨s1, s2⟩ := hres.cells
              have hrl2 := hr.lt
              have hfl2 := hf.lt
              have hsl2 := hres.lt
              obtain ⟨x1, x2⟩ := hres9.cells
              --CUTL07
              go_wp2_with ((with_reducible refine bodyPost_ret (v := .agg #[.int .i64 va, .int .i64 vb, .slice none 0 0, .slice none 0 0]) ?ra1 ?rb1 ?rc1); go_must (case ra1 => simp [results, Tryd.results14, go_sem, x1]); go_must (case rb1 => rfl); go_must (case rc1 => exact ⟨⟨va, vb, [], []⟩, [.int .i64 va, .int .i64 vb, .slice none 0 0, .slice none 0 0], qu11, false, rfl, ⟨_, _, _, _, rfl, hva, (show I64 vb from I64.small (by have := hN3.v4; omega) (by have := hN3.v4; omega)), rowRep.nil _ _ _ _, rowRep.nil _ _ _ _⟩, hry, hFy, hqq, .inl ⟨rfl, HL.out⟩⟩))
          | true =>
            have hpl := hasPrefix_len hb
            rw [List.length_drop, str_len] at hpl
            have hqq : qu10 ≤ s.size := by rw [e1 rfl]; simp only [List.length_cons, List.length_nil] at hpl; omega
            have ono : optP notW (s.data.toList.drop qu9) = numsP (s.data.toList.drop qu10) := by rw [e1 rfl]; exact (opt_yes (w := notW) hb).trans (by rw [List.drop_drop]; rfl)
            have Ono := Lib.hid ono
            clear e1 e2 hb hpl ono
            obtain ⟨r1, r2⟩ := hr.cells
            obtain ⟨f1, f2⟩ := hf.cells
            obtain ⟨s1, s2⟩ := hres.cells
            have hrl2 := hr.lt
            have hfl2 := hf.lt
            have hsl2 := hres.lt
            --CUTL08
            go_wp2_with fail
            refine (nums_c s hs qu10 hqq rb B hB _ hr).mono ?_
            rintro e u12 ⟨lu12, oau12, ocu12, qu12, badu12, rfl, hr', hE, hn', hqno, hNno⟩
            clear r1 r2 f1 f2 s1 s2 hrl2 hfl2 hsl2
            replace hn' := hn'.anyOk (ok' := fun b => fb < b) (fun b _ hb => by have := hf.lt; omega)
            replace hf := hE.blk hf (.inl hfb2)
            replace hres := hE.blk hres (.inl (show w.heap.size ≠ rb by omega))
            replace hF := hF.trans hE
            clear hr
            have hr := hr'
            clear hr'
            have hn := hn'
            clear hn' hE
            obtain ⟨r1, r2⟩ := hr.cells
            obtain ⟨f1, f2⟩ := hf.cells
            obtain ⟨s1, s2⟩ := hres.cells
            have hrl2 := hr.lt
            have hfl2 := hf.lt
            have hsl2 := hres.lt
            go_upto_region 9 with fail
            clear r1 r2 f1 f2 s1 s2 hrl2 hfl2 hsl2
            replace hr := hr.setOther (a := ⟨fb, 3, none⟩) (Ne.symm hfb2) (.slice oau12 lu12.length ocu12)
            replace hres := hres.setOther (a := ⟨fb, 3, none⟩) (show w.heap.size ≠ fb by omega) (.slice oau12 lu12.length ocu12)
            replace hF := hF.own (b := fb) (show w.heap.size ≤ fb by omega) (by omega) 3 (.slice oau12 lu12.length ocu12)
            replace hf := hf.set 3 (.slice oau12 lu12.length ocu12)
            simp only [List.setIfInBounds_toArray, List.set_cons_succ, List.set_cons_zero] at hf
            replace hn := row_fb hn 3 (.slice oau12 lu12.length ocu12)
            generalize (u12.setCell ⟨fb, 3, none⟩ (.slice oau12 lu12.length ocu12)) = u13 at *
            --CUTL09
            rcases hNno with ⟨rfl, hg⟩ | ⟨rfl, hg⟩
            · have Pno : Hid (optP notW (s.data.toList.drop qu9) = some (lu12, s.data.toList.drop qu12)) := Lib.hid (Ono.out.trans hg)
              clear hg
              obtain ⟨r1, r2⟩ := hr.cells
              obtain ⟨f1, f2⟩ := hf.cells
              obtain ⟨s1, s2⟩ := hres.cells
              have hrl2 := hr.lt
              have hfl2 := hf.lt
              have hsl2 := hres.lt
              go_wp2_with fail
              refine (eat_c s hs qu12 hqno false rb B hB _ hr ⟨#[10]⟩ (by decide)).mono ?_
              rintro e u14 ⟨qu14, rfl, hr', hE, e1, e2⟩
              clear r1 r2 f1 f2 s1 s2 hrl2 hfl2 hsl2
              replace hf := hE.blk hf (.inl hfb2)
              replace hres := hE.blk hres (.inl (show w.heap.size ≠ rb by omega))
              replace hF := hF.trans hE
              clear hr
              replace hn := hE.row' hn (fun b hb => .inl (show b ≠ rb by omega))
              have hr := hr'
              clear hr'
              clear hE
              replace e1 : Lib.hasPrefix (s.data.toList.drop qu12) [10] = true → qu14 = qu12 + 1 := e1
              replace e2 : Lib.hasPrefix (s.data.toList.drop qu12) [10] = false → qu14 = qu12 := e2
              rw [show ((⟨#[10]⟩ : ByteArray).data.toList) = [10] from rfl]
              generalize hb : Lib.hasPrefix (s.data.toList.drop qu12) [10] = b9 at *
              cases b9 with
              | false =>
                have hqq : qu14 ≤ s.size := by rw [e2 rfl]; exact hqno
                have HX := Lib.hid (line_f6 (hN1.some_ rfl).1 H62.out N3.out Ovia.out Pno.out (hp_not hb))
                clear e1 e2 hb
                have hr9 := hr.set 2 (.bool true)
                simp only [List.setIfInBounds_toArray, List.set_cons_succ, List.set_cons_zero] at hr9
                have hres9 := set4 (hres.setOther (a := ⟨rb, 2, none⟩) (show w.heap.size ≠ rb by omega) (.bool true)) (.int .i64 va) (.int .i64 vb) (.slice none 0 0) (.slice oau12 lu12.length ocu12)
                have hFz := (hF.trans (Frm.set (a := ⟨rb, 2, none⟩) (fun h => h rfl) hB (.bool true)))
                have hFy : Frm (fun k => k ≠ rb) B w (((((u14.setCell ⟨rb, 2, none⟩ (.bool true)).setCell ⟨w.heap.size, 0, none⟩ (.int .i64 va)).setCell ⟨w.heap.size, 1, none⟩ (.int .i64 vb)).setCell ⟨w.heap.size, 2, none⟩ (.slice none 0 0)).setCell ⟨w.heap.size, 3, none⟩ (.slice oau12 lu12.length ocu12)) := ⟨(((hFz.below.setCell (p := ⟨w.heap.size, 0, none⟩) (by show B ≤ w.heap.size; omega) _).setCell (p := ⟨w.heap.size, 1, none⟩) (by show B ≤ w.heap.size; omega) _).setCell (p := ⟨w.heap.size, 2, none⟩) (by show B ≤ w.heap.size; omega) _).setCell (p := ⟨w.heap.size, 3, none⟩) (by show B ≤ w.heap.size; omega) _, fun b hb hW => by rw [heap_set4 (show b ≠ w.heap.size by omega)]; exact hFz.keep b hb hW⟩
                have hry : blockIs (((((u14.setCell ⟨rb, 2, none⟩ (.bool true)).setCell ⟨w.heap.size, 0, none⟩ (.int .i64 va)).setCell ⟨w.heap.size, 1, none⟩ (.int .i64 vb)).setCell ⟨w.heap.size, 2, none⟩ (.slice none 0 0)).setCell ⟨w.heap.size, 3, none⟩ (.slice oau12 lu12.length ocu12)) rb 37 _ := hr9.keep (heap_set4 (show rb ≠ w.heap.size by omega))
                replace hn := (row_set4 (b := w.heap.size) (v0 := .int .i64 va) (v1 := .int .i64 vb) (v2 := .slice none 0 0) (v3 := .slice oau12 lu12.length ocu12) (row_set (rb := rb) hn (show rb < fb by omega) (.bool true)) (fun k hk => by omega))
                have HL := Lib.hid (HX.out)
                obtain ⟨r1, r2⟩ := hr.cells
                obtain ⟨f1, f2⟩ := hf.cells
                obtain ⟨s1, s2⟩ := hres.cells
                have hrl2 := hr.lt
                have hfl2 := hf.lt
                have hsl2 := hres.lt
                obtain ⟨x1, x2⟩ := hres9.cells
                --CUTL10
                go_wp2_with ((with_reducible refine bodyPost_ret (v := .agg #[.int .i64 va, .int .i64 vb, .slice none 0 0, .slice oau12 lu12.length ocu12]) ?ra1 ?rb1 ?rc1); go_must (case ra1 => simp [results, Tryd.results14, go_sem, x1]); go_must (case rb1 => rfl); go_must (case rc1 => exact ⟨⟨va, vb, [], lu12⟩, [.int .i64 va, .int .i64 vb, .slice none 0 0, .slice oau12 lu12.length ocu12], qu14, true, rfl, ⟨_, _, _, _, rfl, hva, (show I64 vb from I64.small (by have := hN3.v4; omega) (by have := hN3.v4; omega)), rowRep.nil _ _ _ _, (hn.anyOk (fun b _ hb => by show w.heap.size ≤ b; omega))⟩, hry, hFy, hqq, .inr ⟨rfl, HL.out⟩⟩))
              | true =>
                have hpl := hasPrefix_len hb
                rw [List.length_drop, str_len] at hpl
                have hqq : qu14 ≤ s.size := by rw [e1 rfl]; simp only [List.length_cons, List.length_nil] at hpl; omega
                have HX := Lib.hid (show lineP (s.data.toList.drop p) = some (⟨va, vb, [], lu12⟩, s.data.toList.drop qu14) by rw [e1 rfl, ← HDD.out]; exact lineP_of (f := ⟨va, vb, [], lu12⟩) (hN1.some_ rfl).1 H62.out N3.out Ovia.out Pno.out (hp_one.1 hb))
                clear e1 e2 hb hpl
                have hr9 := hr.set 2 (.bool false)
                simp only [List.setIfInBounds_toArray, List.set_cons_succ, List.set_cons_zero] at hr9
                have hres9 := set4 (hres.setOther (a := ⟨rb, 2, none⟩) (show w.heap.size ≠ rb by omega) (.bool false)) (.int .i64 va) (.int .i64 vb) (.slice none 0 0) (.slice oau12 lu12.length ocu12)
                have hFz := (hF.trans (Frm.set (a := ⟨rb, 2, none⟩) (fun h => h rfl) hB (.bool false)))
                have hFy : Frm (fun k => k ≠ rb) B w (((((u14.setCell ⟨rb, 2, none⟩ (.bool false)).setCell ⟨w.heap.size, 0, none⟩ (.int .i64 va)).setCell ⟨w.heap.size, 1, none⟩ (.int .i64 vb)).setCell ⟨w.heap.size, 2, none⟩ (.slice none 0 0)).setCell ⟨w.heap.size, 3, none⟩ (.slice oau12 lu12.length ocu12)) := ⟨(((hFz.below.setCell (p := ⟨w.heap.size, 0, none⟩) (by show B ≤ w.heap.size; omega) _).setCell (p := ⟨w.heap.size, 1, none⟩) (by show B ≤ w.heap.size; omega) _).setCell (p := ⟨w.heap.size, 2, none⟩) (by show B ≤ w.heap.size; omega) _).setCell (p := ⟨w.heap.size, 3, none⟩) (by show B ≤ w.heap.size; omega) _, fun b hb hW => by rw [heap_set4 (show b ≠ w.heap.size by omega)]; exact hFz.keep b hb hW⟩
                have hry : blockIs (((((u14.setCell ⟨rb, 2, none⟩ (.bool false)).setCell ⟨w.heap.size, 0, none⟩ (.int .i64 va)).setCell ⟨w.heap.size, 1, none⟩ (.int .i64 vb)).setCell ⟨w.heap.size, 2, none⟩ (.slice none 0 0)).setCell ⟨w.heap.size, 3, none⟩ (.slice oau12 lu12.length ocu12)) rb 37 _ := hr9.keep (heap_set4 (show rb ≠ w.heap.size by omega))
                replace hn := (row_set4 (b := w.heap.size) (v0 := .int .i64 va) (v1 := .int .i64 vb) (v2 := .slice none 0 0) (v3 := .slice oau12 lu12.length ocu12) (row_set (rb := rb) hn (show rb < fb by omega) (.bool false)) (fun k hk => by omega))
                have HL := Lib.hid (HX.out)
                obtain ⟨r1, r2⟩ := hr.cells
                obtain ⟨f1, f2⟩ := hf.cells
                obtain ⟨s1, s2⟩ := hres.cells
                have hrl2 := hr.lt
                have hfl2 := hf.lt
                have hsl2 := hres.lt
                obtain ⟨x1, x2⟩ := hres9.cells
                --CUTL11
                go_wp2_with ((with_reducible refine bodyPost_ret (v := .agg #[.int .i64 va, .int .i64 vb, .slice none 0 0, .slice oau12 lu12.length ocu12]) ?ra1 ?rb1 ?rc1); go_must (case ra1 => simp [results, Tryd.results14, go_sem, x1]); go_must (case rb1 => rfl); go_must (case rc1 => exact ⟨⟨va, vb, [], lu12⟩, [.int .i64 va, .int .i64 vb, .slice none 0 0, .slice oau12 lu12.length ocu12], qu14, false, rfl, ⟨_, _, _, _, rfl, hva, (show I64 vb from I64.small (by have := hN3.v4; omega) (by have := hN3.v4; omega)), rowRep.nil _ _ _ _, (hn.anyOk (fun b _ hb => by show w.heap.size ≤ b; omega))⟩, hry, hFy, hqq, .inl ⟨rfl, HL.out⟩⟩))
            · have HX := Lib.hid (line_f5 (hN1.some_ rfl).1 H62.out N3.out Ovia.out (Ono.out.trans hg))
              clear hg
              have hr9 := hr.set 2 (.bool true)
              simp only [List.setIfInBounds_toArray, List.set_cons_succ, List.set_cons_zero] at hr9
              have hres9 := set4 (hres.setOther (a := ⟨rb, 2, none⟩) (show w.heap.size ≠ rb by omega) (.bool true)) (.int .i64 va) (.int .i64 vb) (.slice none 0 0) (.slice oau12 lu12.length ocu12)
              have hFz := (hF.trans (Frm.set (a := ⟨rb, 2, none⟩) (fun h => h rfl) hB (.bool true)))
              have hFy : Frm (fun k => k ≠ rb) B w (((((u13.setCell ⟨rb, 2, none⟩ (.bool true)).setCell ⟨w.heap.size, 0, none⟩ (.int .i64 va)).setCell ⟨w.heap.size, 1, none⟩ (.int .i64 vb)).setCell ⟨w.heap.size, 2, none⟩ (.slice none 0 0)).setCell ⟨w.heap.size, 3, none⟩ (.slice oau12 lu12.length ocu12)) := ⟨(((hFz.below.setCell (p := ⟨w.heap.size, 0, none⟩) (by show B ≤ w.heap.size; omega) _).setCell (p := ⟨w.heap.size, 1, none⟩) (by show B ≤ w.heap.size; omega) _).setCell (p := ⟨w.heap.size, 2, none⟩) (by show B ≤ w.heap.size; omega) _).setCell (p := ⟨w.heap.size, 3, none⟩) (by show B ≤ w.heap.size; omega) _, fun b hb hW => by rw [heap_set4 (show b ≠ w.heap.size by omega)]; exact hFz.keep b hb hW⟩
              have hry : blockIs (((((u13.setCell ⟨rb, 2, none⟩ (.bool true)).setCell ⟨w.heap.size, 0, none⟩ (.int .i64 va)).setCell ⟨w.heap.size, 1, none⟩ (.int .i64 vb)).setCell ⟨w.heap.size, 2, none⟩ (.slice none 0 0)).setCell ⟨w.heap.size, 3, none⟩ (.slice oau12 lu12.length ocu12)) rb 37 _ := hr9.keep (heap_set4 (show rb ≠ w.heap.size by omega))
              replace hn := (row_set4 (b := w.heap.size) (v0 := .int .i64 va) (v1 := .int .i64 vb) (v2 := .slice none 0 0) (v3 := .slice oau12 lu12.length ocu12) (row_set (rb := rb) hn (show rb < fb by omega) (.bool true)) (fun k hk => by omega))
              have HL := Lib.hid (HX.out)
              obtain ⟨r1, r2⟩ := hr.cells
              obtain ⟨f1, f2⟩ := hf.cells
              obtain ⟨s1, s2⟩ := hres.cells
              have hrl2 := hr.lt
              have hfl2 := hf.lt
              have hsl2 := hres.lt
              obtain ⟨x1, x2⟩ := hres9.cells
              --CUTL12
              go_wp2_with ((with_reducible refine bodyPost_ret (v := .agg #[.int .i64 va, .int .i64 vb, .slice none 0 0, .slice oau12 lu12.length ocu12]) ?ra1 ?rb1 ?rc1); go_must (case ra1 => simp [results, Tryd.results14, go_sem, x1]); go_must (case rb1 => rfl); go_must (case rc1 => exact ⟨⟨va, vb, [], lu12⟩, [.int .i64 va, .int .i64 vb, .slice none 0 0, .slice oau12 lu12.length ocu12], qu12, true, rfl, ⟨_, _, _, _, rfl, hva, (show I64 vb from I64.small (by have := hN3.v4; omega) (by have := hN3.v4; omega)), rowRep.nil _ _ _ _, (hn.anyOk (fun b _ hb => by show w.heap.size ≤ b; omega))⟩, hry, hFy, hqno, .inr ⟨rfl, HL.out⟩⟩))
        | true =>
          have hpl := hasPrefix_len hb
          rw [List.length_drop, str_len] at hpl
          have hqq : qu9 ≤ s.size := by rw [e1 rfl]; simp only [List.length_cons, List.length_nil] at hpl; omega
          have ovia : optP viaW (s.data.toList.drop qu7) = numsP (s.data.toList.drop qu9) := by rw [e1 rfl]; exact (opt_yes (w := viaW) hb).trans (by rw [List.drop_drop]; rfl)
          have Ovia := Lib.hid ovia
          clear e1 e2 hb hpl ovia
          obtain ⟨r1, r2⟩ := hr.cells
          obtain ⟨f1, f2⟩ := hf.cells
          obtain ⟨s1, s2⟩ := hres.cells
          have hrl2 := hr.lt
          have hfl2 := hf.lt
          have hsl2 := hres.lt
          --CUTL13
          go_wp2_with fail
          refine (nums_c s hs qu9 hqq rb B hB _ hr).mono ?_
          rintro e u15 ⟨lu15, oau15, ocu15, qu15, badu15, rfl, hr', hE, hv', hqvia, hNvia⟩
          clear r1 r2 f1 f2 s1 s2 hrl2 hfl2 hsl2
          replace hv' := hv'.anyOk (ok' := fun b => fb < b) (fun b _ hb => by have := hf.lt; omega)
          replace hf := hE.blk hf (.inl hfb2)
          replace hres := hE.blk hres (.inl (show w.heap.size ≠ rb by omega))
          replace hF := hF.trans hE
          clear hr
          have hr := hr'
          clear hr'
          have hv := hv'
          clear hv' hE
          obtain ⟨r1, r2⟩ := hr.cells
          obtain ⟨f1, f2⟩ := hf.cells
          obtain ⟨s1, s2⟩ := hres.cells
          have hrl2 := hr.lt
          have hfl2 := hf.lt
          have hsl2 := hres.lt
          go_upto_region 7 with fail
          clear r1 r2 f1 f2 s1 s2 hrl2 hfl2 hsl2
          replace hr := hr.setOther (a := ⟨fb, 2, none⟩) (Ne.symm hfb2) (.slice oau15 lu15.length ocu15)
          replace hres := hres.setOther (a := ⟨fb, 2, none⟩) (show w.heap.size ≠ fb by omega) (.slice oau15 lu15.length ocu15)
          replace hF := hF.own (b := fb) (show w.heap.size ≤ fb by omega) (by omega) 2 (.slice oau15 lu15.length ocu15)
          replace hf := hf.set 2 (.slice oau15 lu15.length ocu15)
          simp only [List.setIfInBounds_toArray, List.set_cons_succ, List.set_cons_zero] at hf
          replace hv := row_fb hv 2 (.slice oau15 lu15.length ocu15)
          generalize (u15.setCell ⟨fb, 2, none⟩ (.slice oau15 lu15.length ocu15)) = u16 at *
          --CUTL14
          rcases hNvia with ⟨rfl, hg⟩ | ⟨rfl, hg⟩
          · have Pvia : Hid (optP viaW (s.data.toList.drop qu7) = some (lu15, s.data.toList.drop qu15)) := Lib.hid (Ovia.out.trans hg)
            clear hg
            obtain ⟨r1, r2⟩ := hr.cells
            obtain ⟨f1, f2⟩ := hf.cells
            obtain ⟨s1, s2⟩ := hres.cells
            have hrl2 := hr.lt
            have hfl2 := hf.lt
            have hsl2 := hres.lt
            go_wp2_with fail
            refine (eat_c s hs qu15 hqvia false rb B hB _ hr ⟨#[32, 110, 111, 116, 32]⟩ (by decide)).mono ?_
            rintro e u17 ⟨qu17, rfl, hr', hE, e1, e2⟩
            clear r1 r2 f1 f2 s1 s2 hrl2 hfl2 hsl2
            replace hf := hE.blk hf (.inl hfb2)
            replace hres := hE.blk hres (.inl (show w.heap.size ≠ rb by omega))
            replace hF := hF.trans hE
            clear hr
            replace hv := hE.row' hv (fun b hb => .inl (show b ≠ rb by omega))
            have hr := hr'
            clear hr'
            clear hE
            replace e1 : Lib.hasPrefix (s.data.toList.drop qu15) [32, 110, 111, 116, 32] = true → qu17 = qu15 + 5 := e1
            replace e2 : Lib.hasPrefix (s.data.toList.drop qu15) [32, 110, 111, 116, 32] = false → qu17 = qu15 := e2
            rw [show ((⟨#[32, 110, 111, 116, 32]⟩ : ByteArray).data.toList) = [32, 110, 111, 116, 32] from rfl]
            generalize hb : Lib.hasPrefix (s.data.toList.drop qu15) [32, 110, 111, 116, 32] = b9 at *
            cases b9 with
            | false =>
              have hqq : qu17 ≤ s.size := by rw [e2 rfl]; exact hqvia
              have ono : optP notW (s.data.toList.drop qu15) = some ([], s.data.toList.drop qu17) := by rw [e2 rfl]; exact opt_no hb
              have Ono := Lib.hid ono
              clear e1 e2 hb ono
              have hqno := hqq
              clear hqq
              obtain ⟨r1, r2⟩ := hr.cells
              obtain ⟨f1, f2⟩ := hf.cells
              obtain ⟨s1, s2⟩ := hres.cells
              have hrl2 := hr.lt
              have hfl2 := hf.lt
              have hsl2 := hres.lt
              go_wp2_with fail
              refine (eat_c s hs qu17 hqno false rb B hB _ hr ⟨#[10]⟩ (by decide)).mono ?_
              rintro e u18 ⟨qu18, rfl, hr', hE, e1, e2⟩
              clear r1 r2 f1 f2 s1 s2 hrl2 hfl2 hsl2
              replace hf := hE.blk hf (.inl hfb2)
              replace hres := hE.blk hres (.inl (show w.heap.size ≠ rb by omega))
              replace hF := hF.trans hE
              clear hr
              replace hv := hE.row' hv (fun b hb => .inl (show b ≠ rb by omega))
              have hr := hr'
              clear hr'
              clear hE
              replace e1 : Lib.hasPrefix (s.data.toList.drop qu17) [10] = true → qu18 = qu17 + 1 := e1
              replace e2 : Lib.hasPrefix (s.data.toList.drop qu17) [10] = false → qu18 = qu17 := e2
              rw [show ((⟨#[10]⟩ : ByteArray).data.toList) = [10] from rfl]
              generalize hb : Lib.hasPrefix (s.data.toList.drop qu17) [10] = b9 at *
              cases b9 with
              | false =>
                have hqq : qu18 ≤ s.size := by rw [e2 rfl]; exact hqno
                have HX := Lib.hid (line_f6 (hN1.some_ rfl).1 H62.out N3.out Pvia.out Ono.out (hp_not hb))
                clear e1 e2 hb
                have hr9 := hr.set 2 (.bool true)
                simp only [List.setIfInBounds_toArray, List.set_cons_succ, List.set_cons_zero] at hr9
                have hres9 := set4 (hres.setOther (a := ⟨rb, 2, none⟩) (show w.heap.size ≠ rb by omega) (.bool true)) (.int .i64 va) (.int .i64 vb) (.slice oau15 lu15.length ocu15) (.slice none 0 0)
                have hFz := (hF.trans (Frm.set (a := ⟨rb, 2, none⟩) (fun h => h rfl) hB (.bool true)))
                have hFy : Frm (fun k => k ≠ rb) B w (((((u18.setCell ⟨rb, 2, none⟩ (.bool true)).setCell ⟨w.heap.size, 0, none⟩ (.int .i64 va)).setCell ⟨w.heap.size, 1, none⟩ (.int .i64 vb)).setCell ⟨w.heap.size, 2, none⟩ (.slice oau15 lu15.length ocu15)).setCell ⟨w.heap.size, 3, none⟩ (.slice none 0 0)) := ⟨(((hFz.below.setCell (p := ⟨w.heap.size, 0, none⟩) (by show B ≤ w.heap.size; omega) _).setCell (p := ⟨w.heap.size, 1, none⟩) (by show B ≤ w.heap.size; omega) _).setCell (p := ⟨w.heap.size, 2, none⟩) (by show B ≤ w.heap.size; omega) _).setCell (p := ⟨w.heap.size, 3, none⟩) (by show B ≤ w.heap.size; omega) _, fun b hb hW => by rw [heap_set4 (show b ≠ w.heap.size by omega)]; exact hFz.keep b hb hW⟩
                have hry : blockIs (((((u18.setCell ⟨rb, 2, none⟩ (.bool true)).setCell ⟨w.heap.size, 0, none⟩ (.int .i64 va)).setCell ⟨w.heap.size, 1, none⟩ (.int .i64 vb)).setCell ⟨w.heap.size, 2, none⟩ (.slice oau15 lu15.length ocu15)).setCell ⟨w.heap.size, 3, none⟩ (.slice none 0 0)) rb 37 _ := hr9.keep (heap_set4 (show rb ≠ w.heap.size by omega))
                replace hv := (row_set4 (b := w.heap.size) (v0 := .int .i64 va) (v1 := .int .i64 vb) (v2 := .slice oau15 lu15.length ocu15) (v3 := .slice none 0 0) (row_set (rb := rb) hv (show rb < fb by omega) (.bool true)) (fun k hk => by omega))
                have HL := Lib.hid (HX.out)
                obtain ⟨r1, r2⟩ := hr.cells
                obtain ⟨f1, f2⟩ := hf.cells
                obtain ⟨s1, s2⟩ := hres.cells
                have hrl2 := hr.lt
                have hfl2 := hf.lt
                have hsl2 := hres.lt
                obtain ⟨x1, x2⟩ := hres9.cells
                --CUTL15
                go_wp2_with ((with_reducible refine bodyPost_ret (v := .agg #[.int .i64 va, .int .i64 vb, .slice oau15 lu15.length ocu15, .slice none 0 0]) ?ra1 ?rb1 ?rc1); go_must (case ra1 => simp [results, Tryd.results14, go_sem, x1]); go_must (case rb1 => rfl); go_must (case rc1 => exact ⟨⟨va, vb, lu15, []⟩, [.int .i64 va, .int .i64 vb, .slice oau15 lu15.length ocu15, .slice none 0 0], qu18, true, rfl, ⟨_, _, _, _, rfl, hva, (show I64 vb from I64.small (by have := hN3.v4; omega) (by have := hN3.v4; omega)), (hv.anyOk (fun b _ hb => by show w.heap.size ≤ b; omega)), rowRep.nil _ _ _ _⟩, hry, hFy, hqq, .inr ⟨rfl, HL.out⟩⟩))
              | true =>
                have hpl := hasPrefix_len hb
                rw [List.length_drop, str_len] at hpl
                have hqq : qu18 ≤ s.size := by rw [e1 rfl]; simp only [List.length_cons, List.length_nil] at hpl; omega
                have HX := Lib.hid (show lineP (s.data.toList.drop p) = some (⟨va, vb, lu15, []⟩, s.data.toList.drop qu18) by rw [e1 rfl, ← HDD.out]; exact lineP_of (f := ⟨va, vb, lu15, []⟩) (hN1.some_ rfl).1 H62.out N3.out Pvia.out Ono.out (hp_one.1 hb))
                clear e1 e2 hb hpl
                have hr9 := hr.set 2 (.bool false)
                simp only [List.setIfInBounds_toArray, List.set_cons_succ, List.set_cons_zero] at hr9
                have hres9 := set4 (hres.setOther (a := ⟨rb, 2, none⟩) (show w.heap.size ≠ rb by omega) (.bool false)) (.int .i64 va) (.int .i64 vb) (.slice oau15 lu15.length ocu15) (.slice none 0 0)
                have hFz := (hF.trans (Frm.set (a := ⟨rb, 2, none⟩) (fun h => h rfl) hB (.bool false)))
                have hFy : Frm (fun k => k ≠ rb) B w (((((u18.setCell ⟨rb, 2, none⟩ (.bool false)).setCell ⟨w.heap.size, 0, none⟩ (.int .i64 va)).setCell ⟨w.heap.size, 1, none⟩ (.int .i64 vb)).setCell ⟨w.heap.size, 2, none⟩ (.slice oau15 lu15.length ocu15)).setCell ⟨w.heap.size, 3, none⟩ (.slice none 0 0)) := ⟨(((hFz.below.setCell (p := ⟨w.heap.size, 0, none⟩) (by show B ≤ w.heap.size; omega) _).setCell (p := ⟨w.heap.size, 1, none⟩) (by show B ≤ w.heap.size; omega) _).setCell (p := ⟨w.heap.size, 2, none⟩) (by show B ≤ w.heap.size; omega) _).setCell (p := ⟨w.heap.size, 3, none⟩) (by show B ≤ w.heap.size; omega) _, fun b hb hW => by rw [heap_set4 (show b ≠ w.heap.size by omega)]; exact hFz.keep b hb hW⟩
                have hry : blockIs (((((u18.setCell ⟨rb, 2, none⟩ (.bool false)).setCell ⟨w.heap.size, 0, none⟩ (.int .i64 va)).setCell ⟨w.heap.size, 1, none⟩ (.int .i64 vb)).setCell ⟨w.heap.size, 2, none⟩ (.slice oau15 lu15.length ocu15)).setCell ⟨w.heap.size, 3, none⟩ (.slice none 0 0)) rb 37 _ := hr9.keep (heap_set4 (show rb ≠ w.heap.size by omega))
                replace hv := (row_set4 (b := w.heap.size) (v0 := .int .i64 va) (v1 := .int .i64 vb) (v2 := .slice oau15 lu15.length ocu15) (v3 := .slice none 0 0) (row_set (rb := rb) hv (show rb < fb by omega) (.bool false)) (fun k hk => by omega))
                have HL := Lib.hid (HX.out)
                obtain ⟨r1, r2⟩ := hr.cells
                obtain ⟨f1, f2⟩ := hf.cells
                obtain ⟨s1, s2⟩ := hres.cells
                have hrl2 := hr.lt
                have hfl2 := hf.lt
                have hsl2 := hres.lt
                obtain ⟨x1, x2⟩ := hres9.cells
                --CUTL16
                go_wp2_with ((with_reducible refine bodyPost_ret (v := .agg #[.int .i64 va, .int .i64 vb, .slice oau15 lu15.length ocu15, .slice none 0 0]) ?ra1 ?rb1 ?rc1); go_must (case ra1 => simp [results, Tryd.results14, go_sem, x1]); go_must (case rb1 => rfl); go_must (case rc1 => exact ⟨⟨va, vb, lu15, []⟩, [.int .i64 va, .int .i64 vb, .slice oau15 lu15.length ocu15, .slice none 0 0], qu18, false, rfl, ⟨_, _, _, _, rfl, hva, (show I64 vb from I64.small (by have := hN3.v4; omega) (by have := hN3.v4; omega)), (hv.anyOk (fun b _ hb => by show w.heap.size ≤ b; omega)), rowRep.nil _ _ _ _⟩, hry, hFy, hqq, .inl ⟨rfl, HL.out⟩⟩))
            | true =>
              have hpl := hasPrefix_len hb
              rw [List.length_drop, str_len] at hpl
              have hqq : qu17 ≤ s.size := by rw [e1 rfl]; simp only [List.length_cons, List.length_nil] at hpl; omega
              have ono : optP notW (s.data.toList.drop qu15) = numsP (s.data.toList.drop qu17) := by rw [e1 rfl]; exact (opt_yes (w := notW) hb).trans (by rw [List.drop_drop]; rfl)
              have Ono := Lib.hid ono
              clear e1 e2 hb hpl ono
              obtain ⟨r1, r2⟩ := hr.cells
              obtain ⟨f1, f2⟩ := hf.cells
              obtain ⟨s1, s2⟩ := hres.cells
              have hrl2 := hr.lt
              have hfl2 := hf.lt
              have hsl2 := hres.lt
              --CUTL17
              go_wp2_with fail
              refine (nums_c s hs qu17 hqq rb B hB _ hr).mono ?_
              rintro e u19 ⟨lu19, oau19, ocu19, qu19, badu19, rfl, hr', hE, hn', hqno, hNno⟩
              clear r1 r2 f1 f2 s1 s2 hrl2 hfl2 hsl2
              replace hn' := hn'.anyOk (ok' := fun b => fb < b) (fun b _ hb => by have := hf.lt; omega)
              replace hf := hE.blk hf (.inl hfb2)
              replace hres := hE.blk hres (.inl (show w.heap.size ≠ rb by omega))
              replace hF := hF.trans hE
              clear hr
              replace hv := hE.row' hv (fun b hb => .inl (show b ≠ rb by omega))
              have hr := hr'
              clear hr'
              have hn := hn'
              clear hn' hE
              obtain ⟨r1, r2⟩ := hr.cells
              obtain ⟨f1, f2⟩ := hf.cells
              obtain ⟨s1, s2⟩ := hres.cells
              have hrl2 := hr.lt
              have hfl2 := hf.lt
              have hsl2 := hres.lt
              go_upto_region 9 with fail
              clear r1 r2 f1 f2 s1 s2 hrl2 hfl2 hsl2
              replace hr := hr.setOther (a := ⟨fb, 3, none⟩) (Ne.symm hfb2) (.slice oau19 lu19.length ocu19)
              replace hres := hres.setOther (a := ⟨fb, 3, none⟩) (show w.heap.size ≠ fb by omega) (.slice oau19 lu19.length ocu19)
              replace hF := hF.own (b := fb) (show w.heap.size ≤ fb by omega) (by omega) 3 (.slice oau19 lu19.length ocu19)
              replace hf := hf.set 3 (.slice oau19 lu19.length ocu19)
              simp only [List.setIfInBounds_toArray, List.set_cons_succ, List.set_cons_zero] at hf
              replace hv := row_fb hv 3 (.slice oau19 lu19.length ocu19)
              replace hn := row_fb hn 3 (.slice oau19 lu19.length ocu19)
              generalize (u19.setCell ⟨fb, 3, none⟩ (.slice oau19 lu19.length ocu19)) = u20 at *
              --CUTL18
              rcases hNno with ⟨rfl, hg⟩ | ⟨rfl, hg⟩
              · have Pno : Hid (optP notW (s.data.toList.drop qu15) = some (lu19, s.data.toList.drop qu19)) := Lib.hid (Ono.out.trans hg)
                clear hg
                obtain ⟨r1, r2⟩ := hr.cells
                obtain ⟨f1, f2⟩ := hf.cells
                obtain ⟨s1, s2⟩ := hres.cells
                have hrl2 := hr.lt
                have hfl2 := hf.lt
                have hsl2 := hres.lt
                go_wp2_with fail
                refine (eat_c s hs qu19 hqno false rb B hB _ hr ⟨#[10]⟩ (by decide)).mono ?_
                rintro e u21 ⟨qu21, rfl, hr', hE, e1, e2⟩
                clear r1 r2 f1 f2 s1 s2 hrl2 hfl2 hsl2
                replace hf := hE.blk hf (.inl hfb2)
                replace hres := hE.blk hres (.inl (show w.heap.size ≠ rb by omega))
                replace hF := hF.trans hE
                clear hr
                replace hv := hE.row' hv (fun b hb => .inl (show b ≠ rb by omega))
                replace hn := hE.row' hn (fun b hb => .inl (show b ≠ rb by omega))
                have hr := hr'
                clear hr'
                clear hE
                replace e1 : Lib.hasPrefix (s.data.toList.drop qu19) [10] = true → qu21 = qu19 + 1 := e1
                replace e2 : Lib.hasPrefix (s.data.toList.drop qu19) [10] = false → qu21 = qu19 := e2
                rw [show ((⟨#[10]⟩ : ByteArray).data.toList) = [10] from rfl]
                generalize hb : Lib.hasPrefix (s.data.toList.drop qu19) [10] = b9 at *
                cases b9 with
                | false =>
                  have hqq : qu21 ≤ s.size := by rw [e2 rfl]; exact hqno
                  have HX := Lib.hid (line_f6 (hN1.some_ rfl).1 H62.out N3.out Pvia.out Pno.out (hp_not hb))
                  clear e1 e2 hb
                  have hr9 := hr.set 2 (.bool true)
                  simp only [List.setIfInBounds_toArray, List.set_cons_succ, List.set_cons_zero] at hr9
                  have hres9 := set4 (hres.setOther (a := ⟨rb, 2, none⟩) (show w.heap.size ≠ rb by omega) (.bool true)) (.int .i64 va) (.int .i64 vb) (.slice oau15 lu15.length ocu15) (.slice oau19 lu19.length ocu19)
                  have hFz := (hF.trans (Frm.set (a := ⟨rb, 2, none⟩) (fun h => h rfl) hB (.bool true)))
                  have hFy : Frm (fun k => k ≠ rb) B w (((((u21.setCell ⟨rb, 2, none⟩ (.bool true)).setCell ⟨w.heap.size, 0, none⟩ (.int .i64 va)).setCell ⟨w.heap.size, 1, none⟩ (.int .i64 vb)).setCell ⟨w.heap.size, 2, none⟩ (.slice oau15 lu15.length ocu15)).setCell ⟨w.heap.size, 3, none⟩ (.slice oau19 lu19.length ocu19)) := ⟨(((hFz.below.setCell (p := ⟨w.heap.size, 0, none⟩) (by show B ≤ w.heap.size; omega) _).setCell (p := ⟨w.heap.size, 1, none⟩) (by show B ≤ w.heap.size; omega) _).setCell (p := ⟨w.heap.size, 2, none⟩) (by show B ≤ w.heap.size; omega) _).setCell (p := ⟨w.heap.size, 3, none⟩) (by show B ≤ w.heap.size; omega) _, fun b hb hW => by rw [heap_set4 (show b ≠ w.heap.size by omega)]; exact hFz.keep b hb hW⟩
                  have hry : blockIs (((((u21.setCell ⟨rb, 2, none⟩ (.bool true)).setCell ⟨w.heap.size, 0, none⟩ (.int .i64 va)).setCell ⟨w.heap.size, 1, none⟩ (.int .i64 vb)).setCell ⟨w.heap.size, 2, none⟩ (.slice oau15 lu15.length ocu15)).setCell ⟨w.heap.size, 3, none⟩ (.slice oau19 lu19.length ocu19)) rb 37 _ := hr9.keep (heap_set4 (show rb ≠ w.heap.size by omega))
                  replace hv := (row_set4 (b := w.heap.size) (v0 := .int .i64 va) (v1 := .int .i64 vb) (v2 := .slice oau15 lu15.length ocu15) (v3 := .slice oau19 lu19.length ocu19) (row_set (rb := rb) hv (show rb < fb by omega) (.bool true)) (fun k hk => by omega))
                  replace hn := (row_set4 (b := w.heap.size) (v0 := .int .i64 va) (v1 := .int .i64 vb) (v2 := .slice oau15 lu15.length ocu15) (v3 := .slice oau19 lu19.length ocu19) (row_set (rb := rb) hn (show rb < fb by omega) (.bool true)) (fun k hk => by omega))
                  have HL := Lib.hid (HX.out)
                  obtain ⟨r1, r2⟩ := hr.cells
                  obtain ⟨f1, f2⟩ := hf.cells
                  obtain ⟨s1, s2⟩ := hres.cells
                  have hrl2 := hr.lt
                  have hfl2 := hf.lt
                  have hsl2 := hres.lt
                  obtain ⟨x1, x2⟩ := hres9.cells
                  --CUTL19
                  go_wp2_with ((with_reducible refine bodyPost_ret (v := .agg #[.int .i64 va, .int .i64 vb, .slice oau15 lu15.length ocu15, .slice oau19 lu19.length ocu19]) ?ra1 ?rb1 ?rc1); go_must (case ra1 => simp [results, Tryd.results14, go_sem, x1]); go_must (case rb1 => rfl); go_must (case rc1 => exact ⟨⟨va, vb, lu15, lu19⟩, [.int .i64 va, .int .i64 vb, .slice oau15 lu15.length ocu15, .slice oau19 lu19.length ocu19], qu21, true, rfl, ⟨_, _, _, _, rfl, hva, (show I64 vb from I64.small (by have := hN3.v4; omega) (by have := hN3.v4; omega)), (hv.anyOk (fun b _ hb => by show w.heap.size ≤ b; omega)), (hn.anyOk (fun b _ hb => by show w.heap.size ≤ b; omega))⟩, hry, hFy, hqq, .inr ⟨rfl, HL.out⟩⟩))
                | true =>
                  have hpl := hasPrefix_len hb
                  rw [List.length_drop, str_len] at hpl
                  have hqq : qu21 ≤ s.size := by rw [e1 rfl]; simp only [List.length_cons, List.length_nil] at hpl; omega
                  have HX := Lib.hid (show lineP (s.data.toList.drop p) = some (⟨va, vb, lu15, lu19⟩, s.data.toList.drop qu21) by rw [e1 rfl, ← HDD.out]; exact lineP_of (f := ⟨va, vb, lu15, lu19⟩) (hN1.some_ rfl).1 H62.out N3.out Pvia.out Pno.out (hp_one.1 hb))
                  clear e1 e2 hb hpl
                  have hr9 := hr.set 2 (.bool false)
                  simp only [List.setIfInBounds_toArray, List.set_cons_succ, List.set_cons_zero] at hr9
                  have hres9 := set4 (hres.setOther (a := ⟨rb, 2, none⟩) (show w.heap.size ≠ rb by omega) (.bool false)) (.int .i64 va) (.int .i64 vb) (.slice oau15 lu15.length ocu15) (.slice oau19 lu19.length ocu19)
                  have hFz := (hF.trans (Frm.set (a := ⟨rb, 2, none⟩) (fun h => h rfl) hB (.bool false)))
                  have hFy : Frm (fun k => k ≠ rb) B w (((((u21.setCell ⟨rb, 2, none⟩ (.bool false)).setCell ⟨w.heap.size, 0, none⟩ (.int .i64 va)).setCell ⟨w.heap.size, 1, none⟩ (.int .i64 vb)).setCell ⟨w.heap.size, 2, none⟩ (.slice oau15 lu15.length ocu15)).setCell ⟨w.heap.size, 3, none⟩ (.slice oau19 lu19.length ocu19)) := ⟨(((hFz.below.setCell (p := ⟨w.heap.size, 0, none⟩) (by show B ≤ w.heap.size; omega) _).setCell (p := ⟨w.heap.size, 1, none⟩) (by show B ≤ w.heap.size; omega) _).setCell (p := ⟨w.heap.size, 2, none⟩) (by show B ≤ w.heap.size; omega) _).setCell (p := ⟨w.heap.size, 3, none⟩) (by show B ≤ w.heap.size; omega) _, fun b hb hW => by rw [heap_set4 (show b ≠ w.heap.size by omega)]; exact hFz.keep b hb hW⟩
                  have hry : blockIs (((((u21.setCell ⟨rb, 2, none⟩ (.bool false)).setCell ⟨w.heap.size, 0, none⟩ (.int .i64 va)).setCell ⟨w.heap.size, 1, none⟩ (.int .i64 vb)).setCell ⟨w.heap.size, 2, none⟩ (.slice oau15 lu15.length ocu15)).setCell ⟨w.heap.size, 3, none⟩ (.slice oau19 lu19.length ocu19)) rb 37 _ := hr9.keep (heap_set4 (show rb ≠ w.heap.size by omega))
                  replace hv := (row_set4 (b := w.heap.size) (v0 := .int .i64 va) (v1 := .int .i64 vb) (v2 := .slice oau15 lu15.length ocu15) (v3 := .slice oau19 lu19.length ocu19) (row_set (rb := rb) hv (show rb < fb by omega) (.bool false)) (fun k hk => by omega))
                  replace hn := (row_set4 (b := w.heap.size) (v0 := .int .i64 va) (v1 := .int .i64 vb) (v2 := .slice oau15 lu15.length ocu15) (v3 := .slice oau19 lu19.length ocu19) (row_set (rb := rb) hn (show rb < fb by omega) (.bool false)) (fun k hk => by omega))
                  have HL := Lib.hid (HX.out)
                  obtain ⟨r1, r2⟩ := hr.cells
                  obtain ⟨f1, f2⟩ := hf.cells
                  obtain ⟨s1, s2⟩ := hres.cells
                  have hrl2 := hr.lt
                  have hfl2 := hf.lt
                  have hsl2 := hres.lt
                  obtain ⟨x1, x2⟩ := hres9.cells
                  --CUTL20
                  go_wp2_with ((with_reducible refine bodyPost_ret (v := .agg #[.int .i64 va, .int .i64 vb, .slice oau15 lu15.length ocu15, .slice oau19 lu19.length ocu19]) ?ra1 ?rb1 ?rc1); go_must (case ra1 => simp [results, Tryd.results14, go_sem, x1]); go_must (case rb1 => rfl); go_must (case rc1 => exact ⟨⟨va, vb, lu15, lu19⟩, [.int .i64 va, .int .i64 vb, .slice oau15 lu15.length ocu15, .slice oau19 lu19.length ocu19], qu21, false, rfl, ⟨_, _, _, _, rfl, hva, (show I64 vb from I64.small (by have := hN3.v4; omega) (by have := hN3.v4; omega)), (hv.anyOk (fun b _ hb => by show w.heap.size ≤ b; omega)), (hn.anyOk (fun b _ hb => by show w.heap.size ≤ b; omega))⟩, hry, hFy, hqq, .inl ⟨rfl, HL.out⟩⟩))
              · have HX := Lib.hid (line_f5 (hN1.some_ rfl).1 H62.out N3.out Pvia.out (Ono.out.trans hg))
                clear hg
                have hr9 := hr.set 2 (.bool true)
                simp only [List.setIfInBounds_toArray, List.set_cons_succ, List.set_cons_zero] at hr9
                have hres9 := set4 (hres.setOther (a := ⟨rb, 2, none⟩) (show w.heap.size ≠ rb by omega) (.bool true)) (.int .i64 va) (.int .i64 vb) (.slice oau15 lu15.length ocu15) (.slice oau19 lu19.length ocu19)
                have hFz := (hF.trans (Frm.set (a := ⟨rb, 2, none⟩) (fun h => h rfl) hB (.bool true)))
                have hFy : Frm (fun k => k ≠ rb) B w (((((u20.setCell ⟨rb, 2, none⟩ (.bool true)).setCell ⟨w.heap.size, 0, none⟩ (.int .i64 va)).setCell ⟨w.heap.size, 1, none⟩ (.int .i64 vb)).setCell ⟨w.heap.size, 2, none⟩ (.slice oau15 lu15.length ocu15)).setCell ⟨w.heap.size, 3, none⟩ (.slice oau19 lu19.length ocu19)) := ⟨(((hFz.below.setCell (p := ⟨w.heap.size, 0, none⟩) (by show B ≤ w.heap.size; omega) _).setCell (p := ⟨w.heap.size, 1, none⟩) (by show B ≤ w.heap.size; omega) _).setCell (p := ⟨w.heap.size, 2, none⟩) (by show B ≤ w.heap.size; omega) _).setCell (p := ⟨w.heap.size, 3, none⟩) (by show B ≤ w.heap.size; omega) _, fun b hb hW => by rw [heap_set4 (show b ≠ w.heap.size by omega)]; exact hFz.keep b hb hW⟩
                have hry : blockIs (((((u20.setCell ⟨rb, 2, none⟩ (.bool true)).setCell ⟨w.heap.size, 0, none⟩ (.int .i64 va)).setCell ⟨w.heap.size, 1, none⟩ (.int .i64 vb)).setCell ⟨w.heap.size, 2, none⟩ (.slice oau15 lu15.length ocu15)).setCell ⟨w.heap.size, 3, none⟩ (.slice oau19 lu19.length ocu19)) rb 37 _ := hr9.keep (heap_set4 (show rb ≠ w.heap.size by omega))
                replace hv := (row_set4 (b := w.heap.size) (v0 := .int .i64 va) (v1 := .int .i64 vb) (v2 := .slice oau15 lu15.length ocu15) (v3 := .slice oau19 lu19.length ocu19) (row_set (rb := rb) hv (show rb < fb by omega) (.bool true)) (fun k hk => by omega))
                replace hn := (row_set4 (b := w.heap.size) (v0 := .int .i64 va) (v1 := .int .i64 vb) (v2 := .slice oau15 lu15.length ocu15) (v3 := .slice oau19 lu19.length ocu19) (row_set (rb := rb) hn (show rb < fb by omega) (.bool true)) (fun k hk => by omega))
                have HL := Lib.hid (HX.out)
                obtain ⟨r1, r2⟩ := hr.cells
                obtain ⟨f1, f2⟩ := hf.cells
                obtain ⟨s1, s2⟩ := hres.cells
                have hrl2 := hr.lt
                have hfl2 := hf.lt
                have hsl2 := hres.lt
                obtain ⟨x1, x2⟩ := hres9.cells
                --CUTL21
                go_wp2_with ((with_reducible refine bodyPost_ret (v := .agg #[.int .i64 va, .int .i64 vb, .slice oau15 lu15.length ocu15, .slice oau19 lu19.length ocu19]) ?ra1 ?rb1 ?rc1); go_must (case ra1 => simp [results, Tryd.results14, go_sem, x1]); go_must (case rb1 => rfl); go_must (case rc1 => exact ⟨⟨va, vb, lu15, lu19⟩, [.int .i64 va, .int .i64 vb, .slice oau15 lu15.length ocu15, .slice oau19 lu19.length ocu19], qu19, true, rfl, ⟨_, _, _, _, rfl, hva, (show I64 vb from I64.small (by have := hN3.v4; omega) (by have := hN3.v4; omega)), (hv.anyOk (fun b _ hb => by show w.heap.size ≤ b; omega)), (hn.anyOk (fun b _ hb => by show w.heap.size ≤ b; omega))⟩, hry, hFy, hqno, .inr ⟨rfl, HL.out⟩⟩))
          · have HX := Lib.hid (line_f4 (hN1.some_ rfl).1 H62.out N3.out (Ovia.out.trans hg))
            clear hg
            have hr9 := hr.set 2 (.bool true)
            simp only [List.setIfInBounds_toArray, List.set_cons_succ, List.set_cons_zero] at hr9
            have hres9 := set4 (hres.setOther (a := ⟨rb, 2, none⟩) (show w.heap.size ≠ rb by omega) (.bool true)) (.int .i64 va) (.int .i64 vb) (.slice oau15 lu15.length ocu15) (.slice none 0 0)
            have hFz := (hF.trans (Frm.set (a := ⟨rb, 2, none⟩) (fun h => h rfl) hB (.bool true)))
            have hFy : Frm (fun k => k ≠ rb) B w (((((u16.setCell ⟨rb, 2, none⟩ (.bool true)).setCell ⟨w.heap.size, 0, none⟩ (.int .i64 va)).setCell ⟨w.heap.size, 1, none⟩ (.int .i64 vb)).setCell ⟨w.heap.size, 2, none⟩ (.slice oau15 lu15.length ocu15)).setCell ⟨w.heap.size, 3, none⟩ (.slice none 0 0)) := ⟨(((hFz.below.setCell (p := ⟨w.heap.size, 0, none⟩) (by show B ≤ w.heap.size; omega) _).setCell (p := ⟨w.heap.size, 1, none⟩) (by show B ≤ w.heap.size; omega) _).setCell (p := ⟨w.heap.size, 2, none⟩) (by show B ≤ w.heap.size; omega) _).setCell (p := ⟨w.heap.size, 3, none⟩) (by show B ≤ w.heap.size; omega) _, fun b hb hW => by rw [heap_set4 (show b ≠ w.heap.size by omega)]; exact hFz.keep b hb hW⟩
            have hry : blockIs (((((u16.setCell ⟨rb, 2, none⟩ (.bool true)).setCell ⟨w.heap.size, 0, none⟩ (.int .i64 va)).setCell ⟨w.heap.size, 1, none⟩ (.int .i64 vb)).setCell ⟨w.heap.size, 2, none⟩ (.slice oau15 lu15.length ocu15)).setCell ⟨w.heap.size, 3, none⟩ (.slice none 0 0)) rb 37 _ := hr9.keep (heap_set4 (show rb ≠ w.heap.size by omega))
            replace hv := (row_set4 (b := w.heap.size) (v0 := .int .i64 va) (v1 := .int .i64 vb) (v2 := .slice oau15 lu15.length ocu15) (v3 := .slice none 0 0) (row_set (rb := rb) hv (show rb < fb by omega) (.bool true)) (fun k hk => by omega))
            have HL := Lib.hid (HX.out)
            obtain ⟨r1, r2⟩ := hr.cells
            obtain ⟨f1, f2⟩ := hf.cells
            obtain ⟨s1, s2⟩ := hres.cells
            have hrl2 := hr.lt
            have hfl2 := hf.lt
            have hsl2 := hres.lt
            obtain ⟨x1, x2⟩ := hres9.cells
            --CUTL22
            go_wp2_with ((with_reducible refine bodyPost_ret (v := .agg #[.int .i64 va, .int .i64 vb, .slice oau15 lu15.length ocu15, .slice none 0 0]) ?ra1 ?rb1 ?rc1); go_must (case ra1 => simp [results, Tryd.results14, go_sem, x1]); go_must (case rb1 => rfl); go_must (case rc1 => exact ⟨⟨va, vb, lu15, []⟩, [.int .i64 va, .int .i64 vb, .slice oau15 lu15.length ocu15, .slice none 0 0], qu15, true, rfl, ⟨_, _, _, _, rfl, hva, (show I64 vb from I64.small (by have := hN3.v4; omega) (by have := hN3.v4; omega)), (hv.anyOk (fun b _ hb => by show w.heap.size ≤ b; omega)), rowRep.nil _ _ _ _⟩, hry, hFy, hqvia, .inr ⟨rfl, HL.out⟩⟩))

end Go.Proofs.YtpfapfgfchenoaaDoor
