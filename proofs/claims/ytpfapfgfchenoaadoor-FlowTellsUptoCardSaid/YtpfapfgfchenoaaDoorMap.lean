/-
  Maps of the call's own: a block that holds so many keys with their values, as a list; making, asking, storing.
-/
import Derived.Test.YtpfapfgfchenoaaDoorOwn
import Derived.MapKept
import Derived.WideKeyRuns
import Derived.Carry
set_option linter.unusedSimpArgs false
set_option linter.unusedVariables false
namespace Go.St
open Go.RowKit

def findE {κ : Type} [DecidableEq κ] (k : κ) : List (κ × Value) → Nat → Option (Nat × Value)
  | [], _ => none
  | (a, v) :: r, i => if k = a then some (i, v) else findE k r (i + 1)

def getE {κ : Type} [DecidableEq κ] (k : κ) (ents : List (κ × Value)) : Option Value := (findE k ents 0).map (·.2)

def setE {κ : Type} [DecidableEq κ] (k : κ) (v : Value) : List (κ × Value) → List (κ × Value)
  | [] => [(k, v)]
  | (a, u) :: r => if k = a then (a, v) :: r else (a, u) :: setE k v r

structure KeyLaw (P : Program) (kt : TypeId) {κ : Type} [DecidableEq κ] (enc : κ → Value) : Prop where
  check : ∀ (e : Bool) (k : κ) (w : World), (Instr.checkKey e 10000 kt (enc k)).run P w = .ok () w
  find : ∀ (k : κ) (es : List MapEntry) (ents : List (κ × Value)) (w : World), es.map (fun e => (e.key, e.val)) = ents.map (fun p => (enc p.1, p.2)) → (Instr.findKey kt (enc k) es).run P w = .ok (findE k ents 0) w
  stay : ∀ (k : κ) (w : World), (Instr.keyThatStays (enc k) (enc k)).run P w = .ok (enc k) w

theorem findNow_int (k : Int) : ∀ (es : List MapEntry) (ents : List (Int × Value)) (i : Nat), es.map (fun e => (e.key, e.val)) = ents.map (fun p => (Value.int .i64 p.1, p.2)) →
    Instr.findNow (.int .i64) (.int .i64 k) es i = some (findE k ents i)
  | [], [], _, _ => rfl
  | [], _ :: _, _, h => by simp at h
  | _ :: _, [], _, h => by simp at h
  | e :: es, (a, v) :: ents, i, h => by
    simp only [List.map_cons, List.cons.injEq, Prod.mk.injEq] at h
    obtain ⟨⟨h1, h2⟩, h3⟩ := h
    unfold Instr.findNow findE
    rw [h1]
    by_cases hk : k = a
    · subst hk
      simp [Instr.sameNow, h2]
    · have hb : (k == a) = false := by rw [beq_eq_false_iff_ne]; exact hk
      simp only [Instr.sameNow, hb, if_true, if_neg hk]
      exact findNow_int k es ents (i + 1) h3

theorem KeyLaw.int {P : Program} {kt : TypeId} (h : P.underlying kt = some (.int .i64)) : KeyLaw P kt (Value.int .i64) where
  check e k w := MapKept.run_checkKey h (by simp [MapKept.IsKey]) e 9999
  find k es ents w he := MapKept.run_findKey h (findNow_int k es ents 0 he)
  stay k w := by simp [Instr.keyThatStays, Instr.sameBits]

/-- a type whose keys are asked one by one -/
theorem findAsking_enc {P : Program} {kt : TypeId} {κ : Type} [DecidableEq κ] {enc : κ → Value} (heq : ∀ (a b : κ) (w : World), (Op.equal kt (enc a) (enc b)).run P w = .ok (decide (a = b)) w) (k : κ) (w : World) :
    ∀ (es : List MapEntry) (ents : List (κ × Value)) (i : Nat), es.map (fun e => (e.key, e.val)) = ents.map (fun p => (enc p.1, p.2)) → (Instr.findAsking kt (enc k) es i).run P w = .ok (findE k ents i) w
  | [], [], _, _ => by simp [Instr.findAsking, findE]
  | [], _ :: _, _, h => by simp at h
  | _ :: _, [], _, h => by simp at h
  | e :: es, (a, v) :: ents, i, h => by
    simp only [List.map_cons, List.cons.injEq, Prod.mk.injEq] at h
    obtain ⟨⟨h1, h2⟩, h3⟩ := h
    unfold Instr.findAsking findE
    rw [h1]
    simp only [Sem.run_bind, heq, Result.andThen_ok]
    by_cases hk : k = a
    · simp [hk, h2]
    · simp only [hk, decide_false, Bool.false_eq_true, if_false]
      exact findAsking_enc heq k w es ents (i + 1) h3

theorem KeyLaw.asking {P : Program} {kt : TypeId} {κ : Type} [DecidableEq κ] {enc : κ → Value} (hwide : (match P.underlying kt with | some (.array _ _) | some (.struct _) => true | _ => false) = true)
    (hc : ∀ (e : Bool) (k : κ) (w : World), (Instr.checkKey e 10000 kt (enc k)).run P w = .ok () w) (heq : ∀ (a b : κ) (w : World), (Op.equal kt (enc a) (enc b)).run P w = .ok (decide (a = b)) w)
    (hs : ∀ (k : κ), Instr.sameBits 10000 (enc k) (enc k) = true) : KeyLaw P kt enc where
  check := hc
  find k es ents w he := by rw [run_findKey_eq w hwide]; exact findAsking_enc heq k w es ents 0 he
  stay k w := by simp [Instr.keyThatStays, hs]

/-- block r is a map that holds just these -/
def mapIs {κ : Type} (enc : κ → Value) (w : World) (r : Nat) (ents : List (κ × Value)) : Prop :=
  ∃ es clock, w.heap[r]? = some (.map es clock) ∧ es.toList.map (fun e => (e.key, e.val)) = ents.map (fun p => (enc p.1, p.2))

theorem mapIs.keep {κ : Type} {enc : κ → Value} {w w' : World} {r : Nat} {ents : List (κ × Value)} (h : mapIs enc w r ents) (hr : w'.heap[r]? = w.heap[r]?) : mapIs enc w' r ents := by
  obtain ⟨es, clock, h1, h2⟩ := h
  exact ⟨es, clock, hr.trans h1, h2⟩

theorem mapIs.lt {κ : Type} {enc : κ → Value} {w : World} {r : Nat} {ents : List (κ × Value)} (h : mapIs enc w r ents) : r < w.heap.size := by
  obtain ⟨es, clock, h1, h2⟩ := h
  exact (Array.getElem?_eq_some_iff.1 h1).1

theorem mapIs.below {κ : Type} {enc : κ → Value} {w w' : World} {r B : Nat} {ents : List (κ × Value)} (h : mapIs enc w r ents) (hb : Below B w w') (hr : r < B) : mapIs enc w' r ents := h.keep (hb.block r hr)

theorem mapIs.made {κ : Type} (enc : κ → Value) (w : World) : mapIs enc (w.alloc (.map #[] 0)) w.heap.size [] :=
  ⟨#[], 0, heap_alloc_new w _, rfl⟩

theorem mapIs.made' {κ : Type} (enc : κ → Value) (w : World) (r : Nat) (h : w.heap.size = r) : mapIs enc (w.alloc (.map #[] 0)) r [] := h ▸ mapIs.made enc w

section
variable {P : Program} {w : World}

theorem run_lookupM {κ : Type} [DecidableEq κ] {enc : κ → Value} (mt kt et : TypeId) (hm : P.underlying mt = some (.map kt et)) (law : KeyLaw P kt enc) {r : Nat} {ents : List (κ × Value)} (h : mapIs enc w r ents) (k : κ) (z : Value)
    (hz : ∀ w, (zeroValue et).run P w = .ok z w) : (Instr.lookup mt (.map (some r)) (enc k) false).run P w = .ok ((getE k ents).getD z) w := by
  obtain ⟨es, clock, hb, he⟩ := h
  have hg := MapKept.run_getObj_map (P := P) hb
  simp only [Instr.lookup, Sem.run_bind, run_underlying hm, Result.andThen_ok, hg, Sem.run_pure, law.check, law.find k es.toList ents w he, getE]
  cases findE k ents 0 with
  | none => simp [hz, Result.andThen]
  | some p => simp [Result.andThen]

theorem setE_none {κ : Type} [DecidableEq κ] {k : κ} {v : Value} : ∀ {ents : List (κ × Value)} {i : Nat}, findE k ents i = none → setE k v ents = ents ++ [(k, v)]
  | [], _, _ => rfl
  | (a, u) :: r, i, h => by
    unfold findE at h
    unfold setE
    by_cases hk : k = a
    · simp [hk] at h
    · rw [if_neg hk] at h ⊢
      rw [setE_none h]; rfl

theorem findE_some {κ : Type} [DecidableEq κ] {k : κ} {v : Value} : ∀ {ents : List (κ × Value)} {i j : Nat} {u : Value}, findE k ents i = some (j, u) → i ≤ j ∧ j - i < ents.length ∧ ents[j - i]? = some (k, u) ∧ setE k v ents = ents.set (j - i) (k, v)
  | [], _, _, _, h => by simp [findE] at h
  | (a, x) :: r, i, j, u, h => by
    unfold findE at h
    unfold setE
    by_cases hk : k = a
    · subst hk
      simp only [if_true, Option.some.injEq, Prod.mk.injEq] at h ⊢
      obtain ⟨rfl, rfl⟩ := h
      simp
    · rw [if_neg hk] at h ⊢
      obtain ⟨h1, h2, h3, h4⟩ := findE_some (v := v) h
      have e : j - i = (j - (i + 1)) + 1 := by omega
      refine ⟨by omega, by simp only [List.length_cons]; omega, ?_, ?_⟩
      · rw [e, List.getElem?_cons_succ]; exact h3
      · rw [e, List.set_cons_succ, h4]

theorem run_insertM {κ : Type} [DecidableEq κ] {enc : κ → Value} (mt kt et : TypeId) (hm : P.underlying mt = some (.map kt et)) (law : KeyLaw P kt enc) {r : Nat} {ents : List (κ × Value)} (h : mapIs enc w r ents) (k : κ) (v : Value) :
    ∃ w', (Instr.mapUpdate mt (.map (some r)) (enc k) v).run P w = .ok () w' ∧ mapIs enc w' r (setE k v ents) ∧ w.grownBy w' (some r) := by
  obtain ⟨es, clock, hb, he⟩ := h
  have hg := MapKept.run_getObj_map (P := P) hb
  have hrun : ∀ o, (setObj r o).run P w = .ok () { w with heap := w.heap.setIfInBounds r o } := fun o => MapKept.run_setObj_map o hb
  have hset := fun o' => MapKept.heap_set (o' := o') hb
  simp only [Instr.mapUpdate, Sem.run_bind, run_underlying hm, Result.andThen_ok, hg, Sem.run_pure, law.check, law.find k es.toList ents w he]
  cases hf : findE k ents 0 with
  | none =>
    refine ⟨{ w with heap := w.heap.setIfInBounds r (.map (es.push { key := enc k, val := v, born := clock }) (clock + 1)) }, by simp [hrun], ?_, ⟨rfl, rfl, rfl, by simp, fun i _ hi => (hset _).2 i (fun e => hi (by rw [e]))⟩⟩
    refine ⟨_, _, (hset _).1, ?_⟩
    rw [setE_none hf]
    simp [he]
  | some p =>
    obtain ⟨j, u⟩ := p
    obtain ⟨_, h2, h3, h4⟩ := findE_some (v := v) hf
    simp only [Nat.sub_zero] at h2 h3 h4
    have hlen : es.toList.length = ents.length := by have := congrArg List.length he; simpa using this
    have hj : j < es.size := by rw [← Array.length_toList, hlen]; exact h2
    have hkey : (es[j]?.map (·.key)).getD (enc k) = enc k := by
      have := congrArg (fun l => l[j]?) he
      simp only [List.getElem?_map, h3, Option.map_some, Array.getElem?_toList, Array.getElem?_eq_getElem hj, Option.some.injEq, Prod.mk.injEq] at this
      rw [Array.getElem?_eq_getElem hj]
      exact this.1
    have hk2 : (law.stay k) = (law.stay k) := rfl
    refine ⟨{ w with heap := w.heap.setIfInBounds r (.map (es.modify j fun e => { e with key := enc k, val := v }) clock) }, by simp [hkey, law.stay, hrun, Result.andThen], ?_, ⟨rfl, rfl, rfl, by simp, fun i _ hi => (hset _).2 i (fun e => hi (by rw [e]))⟩⟩
    refine ⟨_, _, (hset _).1, ?_⟩
    rw [h4]
    apply List.ext_getElem?
    intro i
    simp only [List.getElem?_map, Array.getElem?_toList, Array.getElem?_modify, List.getElem?_set]
    have hi := congrArg (fun l => l[i]?) he
    simp only [List.getElem?_map, Array.getElem?_toList] at hi
    by_cases hij : j = i
    · subst hij
      rw [if_pos rfl, if_pos rfl, if_pos h2, Array.getElem?_eq_getElem hj]
      rfl
    · rw [if_neg hij, if_neg hij]
      exact hi

theorem wpList_lookupM {κ : Type} [DecidableEq κ] {enc : κ → Value} {ops : Array Oper} {rest : List Oper} {o : Oper} {a : Act} {Q : Exit → Act → World → Prop} (hgd : o.guard = none) (m x : Operand) (mt : TypeId) (ho : o.op = .lookup mt m x false)
    (kt et : TypeId) (hm : P.underlying mt = some (.map kt et)) (law : KeyLaw P kt enc) {r : Nat} {ents : List (κ × Value)} (h : mapIs enc w r ents) (k : κ) (z : Value) (hz : ∀ w, (zeroValue et).run P w = .ok z w)
    (he : a.eval m = .map (some r)) (hk : a.eval x = enc k) (hn : wpList P ops Q rest (a.put o.dst ((getE k ents).getD z)) w) : wpList P ops Q (o :: rest) a w :=
  wpList_plain hgd fun K hK => by
    have hr := run_lookupM (P := P) mt kt et hm law h k z hz
    unfold Oper.wp execOp
    simp only [ho, he, hk, Sem.run_bind, hr, Result.andThen_ok, Sem.run_pure]
    exact hK _ _ hn

theorem wpList_insertM {κ : Type} [DecidableEq κ] {enc : κ → Value} {ops : Array Oper} {rest : List Oper} {o : Oper} {a : Act} {Q : Exit → Act → World → Prop} (hgd : o.guard = none) (m x y : Operand) (mt : TypeId) (ho : o.op = .insert mt m x y ∨ o.op = .mapUpdate mt m x y)
    (kt et : TypeId) (hm : P.underlying mt = some (.map kt et)) (law : KeyLaw P kt enc) {r : Nat} {ents : List (κ × Value)} (h : mapIs enc w r ents) (k : κ) (v : Value)
    (he : a.eval m = .map (some r)) (hk : a.eval x = enc k) (hv : a.eval y = v) (hn : ∀ w', mapIs enc w' r (setE k v ents) → w.grownBy w' (some r) → wpList P ops Q rest (a.put o.dst undef) w') : wpList P ops Q (o :: rest) a w :=
  wpList_plain hgd fun K hK => by
    obtain ⟨w', hr, h1, h2⟩ := run_insertM (P := P) mt kt et hm law h k v
    unfold Oper.wp execOp
    rcases ho with ho | ho
    · simp only [ho, he, hk, hv, Sem.run_bind, hr, Result.andThen_ok, Sem.run_pure]
      exact hK _ _ (hn w' h1 h2)
    · simp only [ho, he, hk, hv, Sem.run_bind, hr, Result.andThen_ok, Sem.run_pure]
      exact hK _ _ (hn w' h1 h2)
end
end Go.St
