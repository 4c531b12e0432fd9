/-
  Rules lead along a plan's paths, plainly; a row of tables of which some are put in anew.
-/
import Derived.Test.YtcfcdembhjnjfaaRuleC
import Derived.Test.YtcfcdembhjnjfaaSorts
set_option linter.unusedSimpArgs false
set_option linter.unusedVariables false
namespace Go.St
open Go.RowKit

/-- of the plan's version it has what the plan says for a switch, and it rises -/
def Leads (p : Plan) (T : List Rule) (s : Int) : Prop := T.Pairwise (fun a b => ruleLt a b = true) ∧ ∀ x : Rule, x.ver = p.ver → (x ∈ T ↔ x ∈ rulesAt p s)
section
variable {t : Topo} {v : Int} {l : List Flow} {p : Plan}
theorem Leads.own (h : PlanOk t v l p) (s : Int) : Leads p (rulesAt p s) s := ⟨h.rise s, fun _ _ => Iff.rfl⟩
theorem Leads.add (h : PlanOk t v l p) {s : Int} {o T : List Rule} (hT : Leads p T s) (ha : (addOf (dropOf o v) T).2 = 0) : Leads p (addOf (dropOf o v) T).1 s := by
  obtain ⟨h1, _, h3⟩ := add_good ha
  rw [h1]
  refine ⟨h3.up, fun x hx => ?_⟩
  rw [out_mem, hT.2 x hx]
  constructor
  · rintro (h4 | h4)
    · have := (List.mem_filter.1 h4).2
      rw [h.ver] at hx
      simp [hx] at this
    · exact h4
  · exact .inr
theorem Leads.step (h : PlanOk t v l p) {T : List Rule} {s : Int} (hT : Leads p T s) {i k : Nat} {q : List Int} {b : Int} (hq : p.paths[i]? = some q) (hs : q[k]? = some s) (hb : q[k + 1]? = some b) : nextOf T v i = (b, true) := by
  have hm : (⟨v, i, b⟩ : Rule) ∈ T := (hT.2 _ h.ver.symm).2 (mem_rulesAt.2 ⟨h.ver.symm, i, q, k, hq, rfl, hs, hb⟩)
  exact up_next hT.1 hm
theorem Leads.last (h : PlanOk t v l p) {T : List Rule} {s : Int} (hT : Leads p T s) {i k : Nat} {q : List Int} (hq : p.paths[i]? = some q) (hs : q[k]? = some s) (hb : q.length ≤ k + 1) : nextOf T v i = (0, false) := by
  unfold nextOf
  rw [show T.find? (fun r => r.ver == v && r.flow == (i : Int)) = none from by
    rw [List.find?_eq_none]
    intro x hx hc
    simp at hc
    obtain ⟨_, i', q', k', h2, h3, h4, h5⟩ := mem_rulesAt.1 ((hT.2 x (by rw [h.ver]; exact hc.1)).1 hx)
    obtain rfl : i = i' := by omega
    obtain rfl : q = q' := by rw [hq] at h2; exact Option.some.inj h2
    obtain ⟨f, _, hg⟩ := h.at hq
    have := nodup_at hg.nodup hs h4
    have := (List.getElem?_eq_some_iff.1 h5).1
    omega]
theorem PlanOk.head (h : PlanOk t v l p) {i : Nat} {q : List Int} (hq : p.paths[i]? = some q) : ∃ f, l[i]? = some f ∧ q[0]? = some f.src ∧ ∀ (k : Nat) (s : Int), q[k]? = some s → 0 ≤ s ∧ s < t.n := by
  obtain ⟨f, h1, h2⟩ := h.at hq
  refine ⟨f, h1, ?_, fun k s hs => h2.rng s (List.mem_of_getElem? hs)⟩
  rw [← List.head?_eq_getElem?]; exact h2.src
end

/-- a row of tables, wherever they lie -/
structure Tbr (w : World) (ob : Nat) (te : TypeId) (n : Nat) (f : Nat → Option Addr × Nat) (tabs : Nat → List Rule) : Prop where
  blk : blockIs w ob te (tblCells n f tabs)
  row : ∀ i, i < n → rowRep ruleS (fun b => ob + 1 ≤ b) w (f i).1 (f i).2 (tabs i)
section
variable {w w' : World} {ob : Nat} {te t : TypeId} {n : Nat} {f : Nat → Option Addr × Nat} {tabs : Nat → List Rule}
theorem Tbl.tbr (h : Tbl w ob te t n f tabs) : Tbr w ob te n f tabs := ⟨h.blk, fun i hi => h.row hi⟩
theorem Tbr.under (h : Tbr w ob te n f tabs) (hb : Below w.heap.size w w') : Tbr w' ob te n f tabs := ⟨h.blk.under hb, fun i hi => (h.row i hi).below hb⟩
theorem Tbr.cell (h : Tbr w ob te n f tabs) {i : Nat} (hi : i < n) : w.cell? ⟨ob, i, none⟩ = some (.slice (f i).1 (tabs i).length (f i).2) := by
  rw [h.blk.cells.1]; exact tblCells_get hi
theorem Tbr.put (h : Tbr w ob te n f tabs) {s : Nat} (hs : s < n) {a : Option Addr} {c : Nat} {l : List Rule} (hl : rowRep ruleS (fun b => ob + 1 ≤ b) w a c l) : Tbr (w.setCell ⟨ob, s, none⟩ (.slice a l.length c)) ob te n (upd f s (a, c)) (upd tabs s l) := by
  have hk : ∀ (a : Option Addr) (c : Nat) (l' : List Rule) (v : Value), rowRep ruleS (fun b => ob + 1 ≤ b) w a c l' → rowRep ruleS (fun b => ob + 1 ≤ b) (w.setCell ⟨ob, s, none⟩ v) a c l' := fun a c l' v h =>
    h.mono fun b hb hh => ⟨hh, Below.heap_setCell w _ v b (by show b ≠ ob; omega)⟩
  refine ⟨?_, fun i hi => ?_⟩
  · have := h.blk.set s (.slice a l.length c)
    rw [tblCells_set hs] at this
    exact this
  · by_cases e : i = s
    · subst e; rw [upd_same, upd_same]; exact hk _ _ _ _ hl
    · rw [upd_ne _ _ e, upd_ne _ _ e]; exact hk _ _ _ _ (h.row i hi)
end
/-- what is read where a table comes beside others -/
def SW (gb o ob s : Nat) (x y : Value) (w : World) : Prop := w.cell? ⟨gb, o, none⟩ = some x ∧ w.cell? ⟨ob, s, none⟩ = some y
theorem SW.under {gb o ob s : Nat} {x y : Value} {w w' : World} (h : SW gb o ob s x y w) (h1 : gb < w.heap.size) (h2 : ob < w.heap.size) (hb : Below w.heap.size w w') : SW gb o ob s x y w' := ⟨cell_at hb h1 h.1, cell_at hb h2 h.2⟩
theorem flowRow_get {ok : Nat → Prop} {w : World} {ao : Option Addr} {cap : Nat} {l : List Flow} (h : rowRep flowS ok w ao cap l) {j : Nat} {x : Flow} (hj : l[j]? = some x) :
    ∃ b off, ao = some ⟨b, off, none⟩ ∧ b < w.heap.size ∧ ∀ w', Below w.heap.size w w' → w'.cell? ⟨b, off + j * 4, none⟩ = some (.int .i64 x.src) := by
  obtain ⟨b, off, rfl, _, hbl, cs, ⟨_, _, _, _, rfl, _⟩, hce⟩ := h.get hj
  refine ⟨b, off, rfl, hbl, fun w' hb => ?_⟩
  have := cell_at hb hbl (hce 0 _ rfl)
  simpa only [flowS, Nat.add_zero] using this
end Go.St
