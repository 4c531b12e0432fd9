/-
  The walk of package topo's Length.
-/
import Derived.Test.YtpfapfgfchenoaaDoorTopoC
import Derived.Test.YtpfapfgfchenoaaDoorSlices
import Derived.Test.YtpfapfgfchenoaaDoorStr
import Derived.Test.YtpfapfgfchenoaaDoorBlk
import Derived.WalkKit
import Derived.WalkSpells
import Derived.WalkLawsBesides
import Derived.Lib.Hide
import Derived.Deep.LoopGhost
import Derived.Deep.QuietTactic
import Derived.BigQuiet
import Derived.Deep.RegionWith
import Derived.Handy
set_option linter.unusedSimpArgs false
set_option linter.unusedVariables false
namespace Go.St
open Go.RowKit
theorem len_bad {t : Topo} {p : List Int} {acc : Int} {c : Int × Bool} {j : Nat} (hj : j < p.length) (h : c = lengthFrom t (p.take j) acc (p.drop j)) (h1 : p[j] < 0 ∨ t.n ≤ p[j] ∨ p[j] ∈ p.take j) : c = (0, false) := by
  rw [h, List.drop_eq_getElem_cons hj, lengthFrom, if_pos h1]
theorem take_last {p : List Int} {j : Nat} (h0 : 0 < j) (hj : j < p.length) : (p.take j).getLast? = some (p[j - 1]'(by omega)) := by
  rw [List.getLast?_take, if_neg (by omega), List.getElem?_eq_getElem (by omega)]; rfl
theorem len_first {t : Topo} {p : List Int} {acc : Int} {c : Int × Bool} (hj : 0 < p.length) (h : c = lengthFrom t (p.take 0) acc (p.drop 0)) (h1 : ¬ (p[0] < 0 ∨ t.n ≤ p[0] ∨ p[0] ∈ p.take 0)) : c = lengthFrom t (p.take 1) acc (p.drop 1) := by
  rw [h, List.drop_eq_getElem_cons hj, lengthFrom, if_neg h1]
  cases p with
  | nil => simp at hj
  | cons a r => rfl
theorem len_nolink {t : Topo} {p : List Int} {acc : Int} {c : Int × Bool} {j : Nat} (h0 : 0 < j) (hj : j < p.length) (h : c = lengthFrom t (p.take j) acc (p.drop j)) (h1 : ¬ (p[j] < 0 ∨ t.n ≤ p[j] ∨ p[j] ∈ p.take j)) (h2 : costOf t (p[j - 1]'(by omega)) p[j] = 0) : c = (0, false) := by
  rw [h, List.drop_eq_getElem_cons hj, lengthFrom, if_neg h1, take_last h0 hj]
  dsimp only
  rw [if_pos h2]
theorem len_go {t : Topo} {p : List Int} {acc : Int} {c : Int × Bool} {j : Nat} (h0 : 0 < j) (hj : j < p.length) (h : c = lengthFrom t (p.take j) acc (p.drop j)) (h1 : ¬ (p[j] < 0 ∨ t.n ≤ p[j] ∨ p[j] ∈ p.take j)) (h2 : ¬ costOf t (p[j - 1]'(by omega)) p[j] = 0) :
    c = lengthFrom t (p.take (j + 1)) (IntKind.i64.wrap (acc + costOf t (p[j - 1]'(by omega)) p[j])) (p.drop (j + 1)) := by
  rw [h, List.drop_eq_getElem_cons hj, lengthFrom, if_neg h1, take_last h0 hj]
  dsimp only
  rw [if_neg h2, List.take_succ_eq_append_getElem hj]
theorem len_end {t : Topo} {p : List Int} {acc : Int} {c : Int × Bool} {j : Nat} (hj : ¬ j < p.length) (h : c = lengthFrom t (p.take j) acc (p.drop j)) : c = (acc, decide (0 < p.length)) := by
  rw [h, List.drop_of_length_le (by omega), List.take_of_length_le (by omega)]
  cases p <;> simp [lengthFrom]

def SL (tb pb o : Nat) (n : Int) (la : Option Addr) (ll lc : Nat) (q : Int) (w : World) : Prop :=
  w.cell? ⟨tb, 0, none⟩ = some (.int .i64 n) ∧ w.cell? ⟨tb, 1, none⟩ = some (.slice la ll lc) ∧ w.cell? ⟨pb, o, none⟩ = some (.int .i64 q)
theorem SL.keep {B tb pb o : Nat} {n : Int} {la : Option Addr} {ll lc : Nat} {q : Int} {w w' : World} (h : SL tb pb o n la ll lc q w) (hb : Below B w w') (h1 : tb < B) (h2 : pb < B) : SL tb pb o n la ll lc q w' :=
  ⟨cell_at hb h1 h.1, cell_at hb h1 h.2.1, cell_at hb h2 h.2.2⟩
end Go.St
namespace Go.Proofs.YtpfapfgfchenoaaDoor
open Go.RowKit Go.St
end Go.Proofs.YtpfapfgfchenoaaDoor
