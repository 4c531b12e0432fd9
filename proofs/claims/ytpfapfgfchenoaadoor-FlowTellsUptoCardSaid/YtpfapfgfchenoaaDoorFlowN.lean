/-
  The walks of flows.Wrong, and of the closure that it hands to slices.ContainsFunc.
-/
import Derived.Test.YtpfapfgfchenoaaDoorFlowL
import Derived.Test.YtpfapfgfchenoaaDoorBlk
import Derived.WalkKit
import Derived.WalkSpells
import Derived.WalkLawsBesides
import Derived.Lib.Hide
import Derived.Deep.LoopGhost
import Derived.Deep.QuietTactic
import Derived.BigQuiet
import Derived.Deep.RegionWith
import Derived.Handy
set_option linter.unusedSimpArgs false
set_option linter.unusedVariables false
namespace Go.St
open Go.RowKit
theorem any_go {l no : List Int} {j : Nat} (hj : j < l.length) (h : ∀ x ∈ l.take j, x ∉ no) (h1 : l[j] ∉ no) : ∀ x ∈ l.take (j + 1), x ∉ no := by
  intro x hx
  rw [List.take_succ_eq_append_getElem hj] at hx
  rcases List.mem_append.1 hx with hx | hx
  · exact h x hx
  · simp at hx; exact hx ▸ h1
theorem any_hit {l no : List Int} {j : Nat} (hj : j < l.length) (h1 : l[j] ∈ no) : l.any (fun s => decide (s ∈ no)) = true := List.any_eq_true.2 ⟨l[j], List.getElem_mem hj, by simpa using h1⟩
theorem any_end {l no : List Int} {j : Nat} (hj : ¬ j < l.length) (h : ∀ x ∈ l.take j, x ∉ no) : l.any (fun s => decide (s ∈ no)) = false := by
  rw [List.take_of_length_le (by omega)] at h
  rw [List.any_eq_false]
  intro x hx; simpa using h x hx
theorem quiet_of_same2 {P : Program} {f : FuncId} {args : Array Value} {w : World} {k n : Nat} {v : Value}
    (h : Calls P f args (w.drewN (k + n)) fun e w' => e = .returned v ∧ w' = w.drewN (k + n)) : Calls P f args (w.drewN (k + n)) fun e w'' => e = .returned v ∧ ∃ m, w'' = w.drewN (k + m) :=
  h.mono fun _ _ ⟨he, hm⟩ => ⟨he, n, hm⟩
theorem fls_go {n : Int} {l : List Flow} {c : Int × Int} {j : Nat} (hj : j < l.length) (h : c = flowsBad n j (l.drop j)) (h1 : flowBad n l[j] = 0) : c = flowsBad n ((j + 1 : Nat) : Int) (l.drop (j + 1)) := by
  rw [h, List.drop_eq_getElem_cons hj, flowsBad, if_pos h1]; rfl
theorem fls_hit {n : Int} {l : List Flow} {c : Int × Int} {j : Nat} (hj : j < l.length) (h : c = flowsBad n j (l.drop j)) {e : Int} (h1 : flowBad n l[j] = e) (he : e ≠ 0) : c = (e, (j : Int)) := by
  rw [h, List.drop_eq_getElem_cons hj, flowsBad, h1, if_neg he]
theorem fls_end {n : Int} {l : List Flow} {c : Int × Int} {j : Nat} (hj : ¬ j < l.length) (h : c = flowsBad n j (l.drop j)) : c = (0, 0) := by
  rw [h, List.drop_of_length_le (by omega)]; rfl
end Go.St
namespace Go.Proofs.YtpfapfgfchenoaaDoor
open Go.RowKit Go.St

set_option maxRecDepth 100000 in
set_option maxHeartbeats 2000000 in
theorem inNo_c (x : Int) (no : List Int) (ok : Nat → Prop) (na : Option Addr) (nc p b o : Nat) (w : World) (hp : w.cell? ⟨p, 0, none⟩ = some (.pointer (some ⟨b, o, none⟩))) (hf : w.cell? ⟨b, o + 3, none⟩ = some (.slice na no.length nc)) (hn : rowRep intS ok w na nc no) :
    Calls Tryd.prog 19 #[.int .i64 x, .pointer (some ⟨p, 0, none⟩)] w fun e w' => e = .returned (.bool (decide (x ∈ no))) ∧ w' = w := by
  go_enter Tryd.func19, Tryd.ntmps19
  go_wp2_with fail
  refine (containsI_c no x ok na nc w hn).mono ?_
  rintro e w' ⟨rfl, rfl⟩
  go_wp2
  go_ret; exact ⟨rfl, rfl⟩

set_option maxRecDepth 100000 in
set_option maxHeartbeats 2000000 in
theorem indexNo_c (l no : List Int) (ok ok' : Nat → Prop) (ax na : Option Addr) (cx nc p b o : Nat) (w : World) (hx : rowRep intS ok w ax cx l) (hp : w.cell? ⟨p, 0, none⟩ = some (.pointer (some ⟨b, o, none⟩))) (hf : w.cell? ⟨b, o + 3, none⟩ = some (.slice na no.length nc)) (hn : rowRep intS ok' w na nc no) :
    Calls Tryd.prog 32 #[.slice ax l.length cx, .func (.func 19) #[] #[.pointer (some ⟨p, 0, none⟩)]] w fun e w' => ∃ k : Int, e = .returned (.int .i64 k) ∧ decide (0 ≤ k) = l.any (fun s => decide (s ∈ no)) ∧ w' = w := by
  have hlx := hx.len_le
  go_enter Tryd.func32, Tryd.ntmps32
  go_wp2
  go_loop [5, 8] (fun _ i => ∃ j : Nat, j ≤ l.length ∧ i = .int .i64 j ∧ Hid (∀ x ∈ l.take j, x ∉ no)) (fun _ i => l.length - (intOf i).toNat)
  case atStart => exact ⟨0, Nat.zero_le _, rfl, by show ∀ x ∈ _, _; simp⟩
  case round =>
    obtain ⟨j, hj, rfl, hall⟩ := hrel
    by_cases hlt : j < l.length
    · obtain ⟨g, off, rfl, _, hbl, cs, hcs, hce⟩ := hx.get (List.getElem?_eq_getElem hlt)
      obtain ⟨rfl, _⟩ := hcs
      have e0 := hce 0 _ rfl
      clear hce
      simp only [intS, Nat.add_zero, Nat.mul_one] at e0
      have b0 : (0 : Int) ≤ (j : Int) := by omega
      have b1 : (j : Int) < (l.length : Int) := by omega
      have g1 := any_go hlt hall.out
      have g2 := any_hit (no := no) hlt
      clear hall
      generalize l[j] = x at *
      by_cases p5 : x ∈ no
      · have HH := Lib.hid (g2 p5)
        have hd : decide (x ∈ no) = true := decide_eq_true p5
        have HC := Lib.hid (inNo_c x no ok' na nc p b o w hp hf hn)
        rw [hd] at HC
        clear g1 g2 p5 hd
        go_wp2_with fail
        refine HC.out.mono ?_
        rintro e w1 ⟨rfl, rfl⟩
        go_wp2
        go_ret; exact ⟨j, rfl, by rw [HH.out]; simp, rfl⟩
      · have HH := Lib.hid (g1 p5)
        have hd : decide (x ∈ no) = false := decide_eq_false p5
        have HC := Lib.hid (inNo_c x no ok' na nc p b o w hp hf hn)
        rw [hd] at HC
        clear g1 g2 p5 hd
        go_wp2_with fail
        refine HC.out.mono ?_
        rintro e w1 ⟨rfl, rfl⟩
        go_wp2
        go_round
        case rel => exact ⟨j + 1, by omega, by go_num, HH⟩
        case measure => simp [intOf]; omega
    · have HE := Lib.hid (any_end hlt hall.out)
      have b1 : ¬ (j : Int) < (l.length : Int) := by omega
      clear hall
      go_wp2
      go_ret; exact ⟨-1, rfl, by rw [HE.out]; rfl, rfl⟩

set_option maxRecDepth 100000 in
set_option maxHeartbeats 2000000 in
theorem containsNo_c (l no : List Int) (ok ok' : Nat → Prop) (ax na : Option Addr) (cx nc p b o : Nat) (w : World) (hx : rowRep intS ok w ax cx l) (hp : w.cell? ⟨p, 0, none⟩ = some (.pointer (some ⟨b, o, none⟩))) (hf : w.cell? ⟨b, o + 3, none⟩ = some (.slice na no.length nc)) (hn : rowRep intS ok' w na nc no) :
    Calls Tryd.prog 18 #[.slice ax l.length cx, .func (.func 19) #[] #[.pointer (some ⟨p, 0, none⟩)]] w fun e w' => e = .returned (.bool (l.any (fun s => decide (s ∈ no)))) ∧ w' = w := by
  go_enter Tryd.func18, Tryd.ntmps18
  go_wp2_with fail
  refine (indexNo_c l no ok ok' ax na cx nc p b o w hx hp hf hn).mono ?_
  rintro e w' ⟨k, rfl, hk, rfl⟩
  have HK := Lib.hid hk
  clear hk
  go_wp2
  go_ret; exact ⟨ret_bool HK.out, rfl⟩

end Go.Proofs.YtpfapfgfchenoaaDoor
