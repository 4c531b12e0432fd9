/-
  The plan of flows, plainly.
-/
import Derived.Test.YtagldmdeohenjaaFind
set_option linter.unusedSimpArgs false
set_option linter.unusedVariables false
namespace Go.St

def noPlan : Plan := ⟨0, [], []⟩
def planGo (t : Topo) (v : Int) (all : List Flow) : Int → List (List Int) → List Flow → Plan × (Int × Int)
  | _, ps, [] => (⟨v, all, ps⟩, (0, 0))
  | i, ps, f :: r => if (findOf t f).2 = 0 then planGo t v all (i + 1) (ps ++ [(findOf t f).1]) r else (noPlan, ((findOf t f).2, i))
def planOf (t : Topo) (v : Int) (l : List Flow) : Plan × (Int × Int) :=
  if (topoWrong t).1 ≠ 0 then (noPlan, topoWrong t) else if v < 1 ∨ 1000 < v then (noPlan, (3, 0)) else if (flowsWrong l t.n).1 ≠ 0 then (noPlan, flowsWrong l t.n) else planGo t v l 0 [] l
theorem plan_go {t : Topo} {v : Int} {l : List Flow} {j : Nat} {ps : List (List Int)} {c : Plan × (Int × Int)} {f : Flow} (h : c = planGo t v l j ps (l.drop j)) (hf : l[j]? = some f) (h0 : (findOf t f).2 = 0) :
    c = planGo t v l ((j + 1 : Nat) : Int) (ps ++ [(findOf t f).1]) (l.drop (j + 1)) := by
  obtain ⟨hj, rfl⟩ := List.getElem?_eq_some_iff.1 hf
  rw [h, List.drop_eq_getElem_cons hj, planGo, if_pos h0]
  rfl
theorem plan_hit {t : Topo} {v : Int} {l : List Flow} {j : Nat} {ps : List (List Int)} {c : Plan × (Int × Int)} {f : Flow} (h : c = planGo t v l j ps (l.drop j)) (hf : l[j]? = some f) (h0 : (findOf t f).2 ≠ 0) : c = (noPlan, ((findOf t f).2, (j : Int))) := by
  obtain ⟨hj, rfl⟩ := List.getElem?_eq_some_iff.1 hf
  rw [h, List.drop_eq_getElem_cons hj, planGo, if_neg h0]
theorem plan_end {t : Topo} {v : Int} {l : List Flow} {j : Nat} {ps : List (List Int)} {c : Plan × (Int × Int)} (h : c = planGo t v l j ps (l.drop j)) (hj : l.length ≤ j) : c = (⟨v, l, ps⟩, (0, 0)) := by
  rw [h, List.drop_of_length_le hj]; rfl
end Go.St
