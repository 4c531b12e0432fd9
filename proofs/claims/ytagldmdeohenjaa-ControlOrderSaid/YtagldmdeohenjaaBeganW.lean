/-
  The walk of slices.ContainsFunc at flows that begin at a switch.
-/
import Derived.Test.YtagldmdeohenjaaCtlR
import Derived.Test.YtagldmdeohenjaaTo
import Derived.WalkKit
import Derived.WalkSpells
import Derived.WalkLawsBesides
import Derived.Lib.Hide
import Derived.Deep.LoopGhost
import Derived.Deep.QuietTactic
import Derived.BigQuiet
import Derived.Deep.RegionWith
import Derived.Handy
set_option linter.unusedSimpArgs false
set_option linter.unusedVariables false
namespace Go.St
open Go.RowKit
theorem began_none {s : Int} {l : List Flow} {j : Nat} (h : ∀ y ∈ l.take j, (y.src == s) = false) (hj : l.length ≤ j) : began s l = false := by
  rw [List.take_of_length_le hj] at h
  simp only [began, List.any_eq_false]
  exact fun x hx => by rw [h x hx]; simp
theorem began_some {s : Int} {l : List Flow} {j : Nat} {f : Flow} (hf : l[j]? = some f) (h : (f.src == s) = true) : began s l = true := by
  simp only [began, List.any_eq_true]
  exact ⟨f, List.mem_of_getElem? hf, h⟩
theorem flow_none {s : Int} {l : List Flow} {j : Nat} {f : Flow} (h : ∀ y ∈ l.take j, (y.src == s) = false) (hf : l[j]? = some f) (h1 : (f.src == s) = false) : ∀ y ∈ l.take (j + 1), (y.src == s) = false := by
  rw [List.take_add_one, hf]
  intro y hy
  rcases List.mem_append.1 hy with hy | hy
  · exact h y hy
  · obtain rfl : y = f := by simpa using hy
    exact h1
theorem flowRow_get {ok : Nat → Prop} {w : World} {ao : Option Addr} {cap : Nat} {l : List Flow} (h : rowRep flowS ok w ao cap l) {j : Nat} {f : Flow} (hf : l[j]? = some f) :
    ∃ g off va vc na nc, ao = some ⟨g, off, none⟩ ∧ g < w.heap.size ∧ I64 f.src ∧ I64 f.dst ∧ rowRep intS ok w va vc f.via ∧ rowRep intS ok w na nc f.no ∧ ∀ w', Below w.heap.size w w' →
      w'.cell? ⟨g, off + j * 4, none⟩ = some (.int .i64 f.src) ∧ w'.cell? ⟨g, off + j * 4 + 1, none⟩ = some (.int .i64 f.dst) ∧ w'.cell? ⟨g, off + j * 4 + 2, none⟩ = some (.slice va f.via.length vc) ∧ w'.cell? ⟨g, off + j * 4 + 3, none⟩ = some (.slice na f.no.length nc) := by
  obtain ⟨g, off, rfl, _, hbl, cs, hcs, hce⟩ := h.get hf
  obtain ⟨va, vc, na, nc, rfl, hsi, hdi, hvi, hni⟩ := hcs
  refine ⟨g, off, va, vc, na, nc, rfl, hbl, hsi, hdi, hvi, hni, fun w' hb => ⟨?_, ?_, ?_, ?_⟩⟩
  · have := cell_at hb hbl (hce 0 _ rfl); simpa only [flowS, Nat.add_zero] using this
  · exact cell_at hb hbl (hce 1 _ rfl)
  · exact cell_at hb hbl (hce 2 _ rfl)
  · exact cell_at hb hbl (hce 3 _ rfl)
end Go.St
namespace Go.Proofs.Ytagldmdeohenjaa
open Go.RowKit Go.St

set_option maxRecDepth 100000 in
set_option maxHeartbeats 1000000 in
theorem isFrom_c (f : Flow) (s : Int) (va na : Option Addr) (vl vc nl nc : Nat) (p : Nat) (w : World) (hp : w.cell? ⟨p, 0, none⟩ = some (.int .i64 s)) (hpl : p < w.heap.size) :
    Calls Try.prog 54 #[.agg #[.int .i64 f.src, .int .i64 f.dst, .slice va vl vc, .slice na nl nc], .pointer (some ⟨p, 0, none⟩)] w fun e w' => e = .returned (.bool (f.src == s)) ∧ Below w.heap.size w w' := by
  go_enter Try.func54, Try.ntmps54
  go_wp2
  go_ret; exact ⟨rfl, by (repeat' (first | with_reducible exact Below.refl _ _ | with_reducible assumption | with_reducible refine Below.drew ?_ | with_reducible refine Below_drewN ?_ _ | with_reducible refine Below.alloc ?_ ?_ _ | with_reducible refine Below.setCell ?_ ?_ _ | omega | (simp; done) | (simp; omega)))⟩

set_option maxRecDepth 100000 in
set_option maxHeartbeats 2000000 in
theorem indexFrom_c (l : List Flow) (s : Int) (p : Nat) (ok : Nat → Prop) (ax : Option Addr) (cx : Nat) (w : World) (hx : rowRep flowS ok w ax cx l) (hp : w.cell? ⟨p, 0, none⟩ = some (.int .i64 s)) (hpl : p < w.heap.size) :
    Calls Try.prog 63 #[.slice ax l.length cx, .func (.func 54) #[] #[.pointer (some ⟨p, 0, none⟩)]] w fun e w' =>
      ∃ k : Int, e = .returned (.int .i64 k) ∧ began s l = decide (k ≥ 0) ∧ Below w.heap.size w w' := by
  have hlx := hx.len_le
  have hst : Hid (∀ y ∈ l.take 0, (y.src == s) = false) := fun y hy => by simp at hy
  go_enter Try.func63, Try.ntmps63
  go_wp2
  go_loopw [5, 8] (fun _ i wr => ∃ j : Nat, j ≤ l.length ∧ i = .int .i64 j ∧ Hid (∀ y ∈ l.take j, (y.src == s) = false) ∧ Below w.heap.size w wr) (fun _ i _ => l.length - (intOf i).toNat)
  case atStart => exact ⟨0, Nat.zero_le _, rfl, hst, Below.refl _ _⟩
  case round =>
    clear hst
    obtain ⟨j, hj, rfl, hS, hb⟩ := hrel
    rename World => wo
    have hzz := hb.size
    by_cases hlt : j < l.length
    case neg =>
      have HE := Lib.hid (began_none hS.out (by omega))
      clear hS
      go_wp2
      go_ret; exact ⟨-1, rfl, by rw [HE.out]; rfl, hb⟩
    obtain ⟨f, hf⟩ : ∃ f, l[j]? = some f := ⟨_, List.getElem?_eq_getElem hlt⟩
    obtain ⟨b, off, va, vc, na, nc, rfl, hbl, _, _, _, _, hce⟩ := flowRow_get hx hf
    obtain ⟨e0, e1, e2, e3⟩ := hce _ hb
    have b0 : (0 : Int) ≤ (j : Int) := by omega
    have b1 : (j : Int) < (l.length : Int) := by omega
    have hC := isFrom_c f s va na f.via.length vc f.no.length nc p wo (cell_at hb hpl hp) (by omega)
    have HN : Hid ((f.src == s) = false → ∀ y ∈ l.take (j + 1), (y.src == s) = false) := fun h => flow_none hS.out hf h
    have HY : Hid ((f.src == s) = true → began s l = true) := fun h => began_some hf h
    clear hce hf
    cases hrv : (f.src == s)
    · rw [hrv] at hC
      have HC := Lib.hid hC
      have HM := Lib.hid (HN.out hrv)
      clear hC HN HY hS hrv
      go_wp2_with fail
      refine HC.out.mono ?_
      rintro e w1 ⟨rfl, hb1⟩
      have hb2 : Below w.heap.size w w1 := hb.trans (hb1.mono hzz)
      go_wp2
      case roundEnd =>
        go_roundw
        case rel => exact ⟨j + 1, by omega, by go_num, HM, hb2⟩
        case measure => simp [intOf] <;> omega
    · rw [hrv] at hC
      have HC := Lib.hid hC
      have HM := Lib.hid (HY.out hrv)
      clear hC HN HY hS hrv
      go_wp2_with fail
      refine HC.out.mono ?_
      rintro e w1 ⟨rfl, hb1⟩
      have hb2 : Below w.heap.size w w1 := hb.trans (hb1.mono hzz)
      go_wp2
      go_ret; exact ⟨j, rfl, by rw [HM.out]; symm; rw [decide_eq_true_iff]; omega, hb2⟩

set_option maxRecDepth 100000 in
set_option maxHeartbeats 1000000 in
theorem containsFrom_c (l : List Flow) (s : Int) (p : Nat) (ok : Nat → Prop) (ax : Option Addr) (cx : Nat) (w : World) (hx : rowRep flowS ok w ax cx l) (hp : w.cell? ⟨p, 0, none⟩ = some (.int .i64 s)) (hpl : p < w.heap.size) :
    Calls Try.prog 53 #[.slice ax l.length cx, .func (.func 54) #[] #[.pointer (some ⟨p, 0, none⟩)]] w fun e w' =>
      e = .returned (.bool (began s l)) ∧ Below w.heap.size w w' := by
  go_enter Try.func53, Try.ntmps53
  go_wp2_with fail
  refine (indexFrom_c l s p ok ax cx w hx hp hpl).mono ?_
  rintro e w1 ⟨k, rfl, hk, hb⟩
  have HK := Lib.hid hk
  clear hk
  go_wp2
  go_ret; exact ⟨ret_bool (by rw [HK.out]), hb⟩

end Go.Proofs.Ytagldmdeohenjaa
