/-
  Maps of the call's own: a block that holds so many keys with their values, as a list; making, asking, storing.
-/
import Derived.MapKept
import Derived.WideKeyRuns
import Derived.Carry
import Derived.Test.YtagldmdeohenjaaPk6
import Derived.Test.YtagldmdeohenjaaPk1
set_option linter.unusedSimpArgs false
set_option linter.unusedVariables false
namespace Go.St
open Go.RowKit

def findE {κ : Type} [DecidableEq κ] (k : κ) : List (κ × Value) → Nat → Option (Nat × Value)
  | [], _ => none
  | (a, v) :: r, i => if k = a then some (i, v) else findE k r (i + 1)

def getE {κ : Type} [DecidableEq κ] (k : κ) (ents : List (κ × Value)) : Option Value := (findE k ents 0).map (·.2)

def setE {κ : Type} [DecidableEq κ] (k : κ) (v : Value) : List (κ × Value) → List (κ × Value)
  | [] => [(k, v)]
  | (a, u) :: r => if k = a then (a, v) :: r else (a, u) :: setE k v r

structure KeyLaw (P : Program) (kt : TypeId) {κ : Type} [DecidableEq κ] (enc : κ → Value) : Prop where
  check : ∀ (e : Bool) (k : κ) (w : World), (Instr.checkKey e 10000 kt (enc k)).run P w = .ok () w
  find : ∀ (k : κ) (es : List MapEntry) (ents : List (κ × Value)) (w : World), es.map (fun e => (e.key, e.val)) = ents.map (fun p => (enc p.1, p.2)) → (Instr.findKey kt (enc k) es).run P w = .ok (findE k ents 0) w
  stay : ∀ (k : κ) (w : World), (Instr.keyThatStays (enc k) (enc k)).run P w = .ok (enc k) w

theorem findNow_int (k : Int) : ∀ (es : List MapEntry) (ents : List (Int × Value)) (i : Nat), es.map (fun e => (e.key, e.val)) = ents.map (fun p => (Value.int .i64 p.1, p.2)) →
    Instr.findNow (.int .i64) (.int .i64 k) es i = some (findE k ents i)
  | [], [], _, _ => rfl
  | [], _ :: _, _, h => by simp at h
  | _ :: _, [], _, h => by simp at h
  | e :: es, (a, v) :: ents, i, h => by
    simp only [List.map_cons, List.cons.injEq, Prod.mk.injEq] at h
    obtain ⟨⟨h1, h2⟩, h3⟩ := h
    unfold Instr.findNow findE
    rw [h1]
    by_cases hk : k = a
    · subst hk
      simp [Instr.sameNow, h2]
    · have hb : (k == a) = false := by rw [beq_eq_false_iff_ne]; exact hk
      simp only [Instr.sameNow, hb, if_true, if_neg hk]
      exact findNow_int k es ents (i + 1) h3

theorem KeyLaw.int {P : Program} {kt : TypeId} (h : P.underlying kt = some (.int .i64)) : KeyLaw P kt (Value.int .i64) where
  check e k w := MapKept.run_checkKey h (by simp [MapKept.IsKey]) e 9999
  find k es ents w he := MapKept.run_findKey h (findNow_int k es ents 0 he)
  stay k w := by simp [Instr.keyThatStays, Instr.sameBits]

/-- a type whose keys are asked one by one -/
theorem findAsking_enc {P : Program} {kt : TypeId} {κ : Type} [DecidableEq κ] {enc : κ → Value} (heq : ∀ (a b : κ) (w : World), (Op.equal kt (enc a) (enc b)).run P w = .ok (decide (a = b)) w) (k : κ) (w : World) :
    ∀ (es : List MapEntry) (ents : List (κ × Value)) (i : Nat), es.map (fun e => (e.key, e.val)) = ents.map (fun p => (enc p.1, p.2)) → (Instr.findAsking kt (enc k) es i).run P w = .ok (findE k ents i) w
  | [], [], _, _ => by simp [Instr.findAsking, findE]
  | [], _ :: _, _, h => by simp at h
  | _ :: _, [], _, h => by simp at h
  | e :: es, (a, v) :: ents, i, h => by
    simp only [List.map_cons, List.cons.injEq, Prod.mk.injEq] at h
    obtain ⟨⟨h1, h2⟩, h3⟩ := h
    unfold Instr.findAsking findE
    rw [h1]
    simp only [Sem.run_bind, heq, Result.andThen_ok]
    by_cases hk : k = a
    · simp [hk, h2]
    · simp only [hk, decide_false, Bool.false_eq_true, if_false]
      exact findAsking_enc heq k w es ents (i + 1) h3

theorem KeyLaw.asking {P : Program} {kt : TypeId} {κ : Type} [DecidableEq κ] {enc : κ → Value} (hwide : (match P.underlying kt with | some (.array _ _) | some (.struct _) => true | _ => false) = true)
    (hc : ∀ (e : Bool) (k : κ) (w : World), (Instr.checkKey e 10000 kt (enc k)).run P w = .ok () w) (heq : ∀ (a b : κ) (w : World), (Op.equal kt (enc a) (enc b)).run P w = .ok (decide (a = b)) w)
    (hs : ∀ (k : κ), Instr.sameBits 10000 (enc k) (enc k) = true) : KeyLaw P kt enc where
  check := hc
  find k es ents w he := by rw [run_findKey_eq w hwide]; exact findAsking_enc heq k w es ents 0 he
  stay k w := by simp [Instr.keyThatStays, hs]

/-- block r is a map that holds just these -/
def mapIs {κ : Type} (enc : κ → Value) (w : World) (r : Nat) (ents : List (κ × Value)) : Prop :=
  ∃ es clock, w.heap[r]? = some (.map es clock) ∧ es.toList.map (fun e => (e.key, e.val)) = ents.map (fun p => (enc p.1, p.2))

theorem mapIs.keep {κ : Type} {enc : κ → Value} {w w' : World} {r : Nat} {ents : List (κ × Value)} (h : mapIs enc w r ents) (hr : w'.heap[r]? = w.heap[r]?) : mapIs enc w' r ents := by
  obtain ⟨es, clock, h1, h2⟩ := h
  exact ⟨es, clock, hr.trans h1, h2⟩

theorem mapIs.lt {κ : Type} {enc : κ → Value} {w : World} {r : Nat} {ents : List (κ × Value)} (h : mapIs enc w r ents) : r < w.heap.size := by
  obtain ⟨es, clock, h1, h2⟩ := h
  exact (Array.getElem?_eq_some_iff.1 h1).1

theorem mapIs.below {κ : Type} {enc : κ → Value} {w w' : World} {r B : Nat} {ents : List (κ × Value)} (h : mapIs enc w r ents) (hb : Below B w w') (hr : r < B) : mapIs enc w' r ents := h.keep (hb.block r hr)

theorem mapIs.made {κ : Type} (enc : κ → Value) (w : World) : mapIs enc (w.alloc (.map #[] 0)) w.heap.size [] :=
  ⟨#[], 0, heap_alloc_new w _, rfl⟩

theorem mapIs.made' {κ : Type} (enc : κ → Value) (w : World) (r : Nat) (h : w.heap.size = r) : mapIs enc (w.alloc (.map #[] 0)) r [] := h ▸ mapIs.made enc w

section
variable {P : Program} {w : World}

theorem run_lookupM {κ : Type} [DecidableEq κ] {enc : κ → Value} (mt kt et : TypeId) (hm : P.underlying mt = some (.map kt et)) (law : KeyLaw P kt enc) {r : Nat} {ents : List (κ × Value)} (h : mapIs enc w r ents) (k : κ) (z : Value)
    (hz : ∀ w, (zeroValue et).run P w = .ok z w) : (Instr.lookup mt (.map (some r)) (enc k) false).run P w = .ok ((getE k ents).getD z) w := by
  obtain ⟨es, clock, hb, he⟩ := h
  have hg := MapKept.run_getObj_map (P := P) hb
  simp only [Instr.lookup, Sem.run_bind, run_underlying hm, Result.andThen_ok, hg, Sem.run_pure, law.check, law.find k es.toList ents w he, getE]
  cases findE k ents 0 with
  | none => simp [hz, Result.andThen]
  | some p => simp [Result.andThen]

theorem setE_none {κ : Type} [DecidableEq κ] {k : κ} {v : Value} : ∀ {ents : List (κ × Value)} {i : Nat}, findE k ents i = none → setE k v ents = ents ++ [(k, v)]
  | [], _, _ => rfl
  | (a, u) :: r, i, h => by
    unfold findE at h
    unfold setE
    by_cases hk : k = a
    · simp [hk] at h
    · rw [if_neg hk] at h ⊢
      rw [setE_none h]; rfl

theorem findE_some {κ : Type} [DecidableEq κ] {k : κ} {v : Value} : ∀ {ents : List (κ × Value)} {i j : Nat} {u : Value}, findE k ents i = some (j, u) → i ≤ j ∧ j - i < ents.length ∧ ents[j - i]? = some (k, u) ∧ setE k v ents = ents.set (j - i) (k, v)
  | [], _, _, _, h => by simp [findE] at h
  | (a, x) :: r, i, j, u, h => by
    unfold findE at h
    unfold setE
    by_cases hk : k = a
    · subst hk
      simp only [if_true, Option.some.injEq, Prod.mk.injEq] at h ⊢
      obtain ⟨rfl, rfl⟩ := h
      simp
    · rw [if_neg hk] at h ⊢
      obtain ⟨h1, h2, h3, h4⟩ := findE_some (v := v) h
      have e : j - i = (j - (i + 1)) + 1 := by omega
      refine ⟨by omega, by simp only [List.length_cons]; omega, ?_, ?_⟩
      · rw [e, List.getElem?_cons_succ]; exact h3
      · rw [e, List.set_cons_succ, h4]

theorem run_insertM {κ : Type} [DecidableEq κ] {enc : κ → Value} (mt kt et : TypeId) (hm : P.underlying mt = some (.map kt et)) (law : KeyLaw P kt enc) {r : Nat} {ents : List (κ × Value)} (h : mapIs enc w r ents) (k : κ) (v : Value) :
    ∃ w', (Instr.mapUpdate mt (.map (some r)) (enc k) v).run P w = .ok () w' ∧ mapIs enc w' r (setE k v ents) ∧ w.grownBy w' (some r) := by
  obtain ⟨es, clock, hb, he⟩ := h
  have hg := MapKept.run_getObj_map (P := P) hb
  have hrun : ∀ o, (setObj r o).run P w = .ok () { w with heap := w.heap.setIfInBounds r o } := fun o => MapKept.run_setObj_map o hb
  have hset := fun o' => MapKept.heap_set (o' := o') hb
  simp only [Instr.mapUpdate, Sem.run_bind, run_underlying hm, Result.andThen_ok, hg, Sem.run_pure, law.check, law.find k es.toList ents w he]
  cases hf : findE k ents 0 with
  | none =>
    refine ⟨{ w with heap := w.heap.setIfInBounds r (.map (es.push { key := enc k, val := v, born := clock }) (clock + 1)) }, by simp [hrun], ?_, ⟨rfl, rfl, rfl, by simp, fun i _ hi => (hset _).2 i (fun e => hi (by rw [e]))⟩⟩
    refine ⟨_, _, (hset _).1, ?_⟩
    rw [setE_none hf]
    simp [he]
  | some p =>
    obtain ⟨j, u⟩ := p
    obtain ⟨_, h2, h3, h4⟩ := findE_some (v := v) hf
    simp only [Nat.sub_zero] at h2 h3 h4
    have hlen : es.toList.length = ents.length := by have := congrArg List.length he; simpa using this
    have hj : j < es.size := by rw [← Array.length_toList, hlen]; exact h2
    have hkey : (es[j]?.map (·.key)).getD (enc k) = enc k := by
      have := congrArg (fun l => l[j]?) he
      simp only [List.getElem?_map, h3, Option.map_some, Array.getElem?_toList, Array.getElem?_eq_getElem hj, Option.some.injEq, Prod.mk.injEq] at this
      rw [Array.getElem?_eq_getElem hj]
      exact this.1
    have hk2 : (law.stay k) = (law.stay k) := rfl
    refine ⟨{ w with heap := w.heap.setIfInBounds r (.map (es.modify j fun e => { e with key := enc k, val := v }) clock) }, by simp [hkey, law.stay, hrun, Result.andThen], ?_, ⟨rfl, rfl, rfl, by simp, fun i _ hi => (hset _).2 i (fun e => hi (by rw [e]))⟩⟩
    refine ⟨_, _, (hset _).1, ?_⟩
    rw [h4]
    apply List.ext_getElem?
    intro i
    simp only [List.getElem?_map, Array.getElem?_toList, Array.getElem?_modify, List.getElem?_set]
    have hi := congrArg (fun l => l[i]?) he
    simp only [List.getElem?_map, Array.getElem?_toList] at hi
    by_cases hij : j = i
    · subst hij
      rw [if_pos rfl, if_pos rfl, if_pos h2, Array.getElem?_eq_getElem hj]
      rfl
    · rw [if_neg hij, if_neg hij]
      exact hi

theorem wpList_lookupM {κ : Type} [DecidableEq κ] {enc : κ → Value} {ops : Array Oper} {rest : List Oper} {o : Oper} {a : Act} {Q : Exit → Act → World → Prop} (hgd : o.guard = none) (m x : Operand) (mt : TypeId) (ho : o.op = .lookup mt m x false)
    (kt et : TypeId) (hm : P.underlying mt = some (.map kt et)) (law : KeyLaw P kt enc) {r : Nat} {ents : List (κ × Value)} (h : mapIs enc w r ents) (k : κ) (z : Value) (hz : ∀ w, (zeroValue et).run P w = .ok z w)
    (he : a.eval m = .map (some r)) (hk : a.eval x = enc k) (hn : wpList P ops Q rest (a.put o.dst ((getE k ents).getD z)) w) : wpList P ops Q (o :: rest) a w :=
  wpList_plain hgd fun K hK => by
    have hr := run_lookupM (P := P) mt kt et hm law h k z hz
    unfold Oper.wp execOp
    simp only [ho, he, hk, Sem.run_bind, hr, Result.andThen_ok, Sem.run_pure]
    exact hK _ _ hn

theorem wpList_insertM {κ : Type} [DecidableEq κ] {enc : κ → Value} {ops : Array Oper} {rest : List Oper} {o : Oper} {a : Act} {Q : Exit → Act → World → Prop} (hgd : o.guard = none) (m x y : Operand) (mt : TypeId) (ho : o.op = .insert mt m x y ∨ o.op = .mapUpdate mt m x y)
    (kt et : TypeId) (hm : P.underlying mt = some (.map kt et)) (law : KeyLaw P kt enc) {r : Nat} {ents : List (κ × Value)} (h : mapIs enc w r ents) (k : κ) (v : Value)
    (he : a.eval m = .map (some r)) (hk : a.eval x = enc k) (hv : a.eval y = v) (hn : ∀ w', mapIs enc w' r (setE k v ents) → w.grownBy w' (some r) → wpList P ops Q rest (a.put o.dst undef) w') : wpList P ops Q (o :: rest) a w :=
  wpList_plain hgd fun K hK => by
    obtain ⟨w', hr, h1, h2⟩ := run_insertM (P := P) mt kt et hm law h k v
    unfold Oper.wp execOp
    rcases ho with ho | ho
    · simp only [ho, he, hk, hv, Sem.run_bind, hr, Result.andThen_ok, Sem.run_pure]
      exact hK _ _ (hn w' h1 h2)
    · simp only [ho, he, hk, hv, Sem.run_bind, hr, Result.andThen_ok, Sem.run_pure]
      exact hK _ _ (hn w' h1 h2)
end
end Go.St

/-
  A block that is known whole: its cells, what a store and other blocks' turns leave of it.
-/
set_option linter.unusedSimpArgs false
set_option linter.unusedVariables false
namespace Go.St
open Go.RowKit

/-- block b is a row of just these cells, none frozen -/
def blockIs (w : World) (b : Nat) (t : TypeId) (cs : Array Value) : Prop := w.heap[b]? = some (.cells cs t (0, 0))

theorem blockIs.cells {w : World} {b : Nat} {t : TypeId} {cs : Array Value} (h : blockIs w b t cs) : (∀ o, w.cell? ⟨b, o, none⟩ = cs[o]?) ∧ (∀ o, w.frozen? ⟨b, o, none⟩ = false) := by
  unfold blockIs at h
  refine ⟨fun o => by simp [World.cell?, h], fun o => by simp [World.frozen?, h]⟩

theorem blockIs.lt {w : World} {b : Nat} {t : TypeId} {cs : Array Value} (h : blockIs w b t cs) : b < w.heap.size := (Array.getElem?_eq_some_iff.1 h).1

theorem blockIs.keep {w w' : World} {b : Nat} {t : TypeId} {cs : Array Value} (h : blockIs w b t cs) (e : w'.heap[b]? = w.heap[b]?) : blockIs w' b t cs := e.trans h

theorem blockIs.below {B : Nat} {w w' : World} {b : Nat} {t : TypeId} {cs : Array Value} (h : blockIs w b t cs) (hb : Below B w w') (hl : b < B) : blockIs w' b t cs := h.keep (hb.block b hl)

theorem blockIs.under {w w' : World} {b : Nat} {t : TypeId} {cs : Array Value} (h : blockIs w b t cs) (hb : Below w.heap.size w w') : blockIs w' b t cs := h.below hb h.lt

theorem blockIs.grown {w w' : World} {row : Option Nat} {b : Nat} {t : TypeId} {cs : Array Value} (h : blockIs w b t cs) (hg : w.grownBy w' row) (hn : some b ≠ row) : blockIs w' b t cs := h.keep (hg.block b h.lt hn)

theorem blockIs.alloc {w : World} {b : Nat} {t : TypeId} {cs : Array Value} (h : blockIs w b t cs) (o : Obj) : blockIs (w.alloc o) b t cs := h.keep (heap_alloc_old w o b h.lt)

theorem blockIs.new {w : World} {b : Nat} {t : TypeId} {cs : Array Value} (h : w.heap.size = b) : blockIs (w.alloc (.cells cs t)) b t cs := h ▸ heap_alloc_new w _

theorem blockIs.drewN {w : World} {b : Nat} {t : TypeId} {cs : Array Value} (h : blockIs w b t cs) (n : Nat) : blockIs (w.drewN n) b t cs := h
theorem blockIs.drew {w : World} {b : Nat} {t : TypeId} {cs : Array Value} (h : blockIs w b t cs) : blockIs w.drew b t cs := h

theorem blockIs.setOther {w : World} {b : Nat} {t : TypeId} {cs : Array Value} (h : blockIs w b t cs) {a : Addr} (ha : b ≠ a.block) (v : Value) : blockIs (w.setCell a v) b t cs := h.keep (Below.heap_setCell w a v b ha)

theorem blockIs.set {w : World} {b : Nat} {t : TypeId} {cs : Array Value} (h : blockIs w b t cs) (o : Nat) (v : Value) : blockIs (w.setCell ⟨b, o, none⟩ v) b t (cs.setIfInBounds o v) := by
  unfold blockIs at *
  simp [World.setCell, Array.getElem?_modify, h]

theorem srcRep.same {α : Type} {sh : Shape α} {ok : Nat → Prop} {w w' : World} {ax : Option Addr} {ys : List α} (h : srcRep sh ok w ax ys) (e : w'.heap = w.heap) : srcRep sh ok w' ax ys := by
  rcases h with h | ⟨b, off, rfl, he⟩
  · exact .inl h
  · exact .inr ⟨b, off, rfl, he.mono (by rw [e]) fun b _ hk => ⟨hk, by rw [e]⟩⟩

theorem srcRep.drew {α : Type} {sh : Shape α} {ok : Nat → Prop} {w : World} {ax : Option Addr} {ys : List α} (h : srcRep sh ok w ax ys) : srcRep sh ok w.drew ax ys := h.same rfl
theorem srcRep.drewN {α : Type} {sh : Shape α} {ok : Nat → Prop} {w : World} {ax : Option Addr} {ys : List α} (h : srcRep sh ok w ax ys) (n : Nat) : srcRep sh ok (w.drewN n) ax ys := h.same rfl

theorem ownR.setCell {α : Type} {sh : Shape α} {e : TypeId} {base : Nat} {w : World} {ao : Option Addr} {n cap : Nat} {xs : List α} (h : ownR sh e (fun _ => False) base w ao n cap xs) {a : Addr} (ha : a.block < base) (v : Value) :
    ownR sh e (fun _ => False) base (w.setCell a v) ao n cap xs :=
  h.keep (by simp [World.setCell]) fun k hk => Below.heap_setCell w a v k (by
    rcases hk with hk | hk
    · have := (h.lt k hk).1; omega
    · exact hk.elim)

end Go.St

/-
  Append onto a full row of integers: a new block; and the frame of a call that writes one given block alone.
-/
set_option linter.unusedSimpArgs false
set_option linter.unusedVariables false
namespace Go.St
open Go.RowKit

section
variable {P : Program} {w : World}

theorem run_appFull (t ty e : TypeId) (i : TypeInfo) (ht : P.underlying t = some (.slice e)) (hi : P.info? e = some i) (hz : i.zero = some (.int .i64 0)) (hsize : i.size = 1) (hby : i.bytes = 8) {ok ok' : Nat → Prop} {base : Nat}
    {b off n : Nat} {xs : List Int} (hr : rowRep intS ok w (some ⟨b, off, none⟩) n xs) (hn : xs.length = n) (hn0 : 0 < n) {ax : Option Addr} {c : Nat} {ys : List Int} {m : Nat} (hm : ys.length = m) (hm0 : 0 < m) (hsrc : srcRep intS ok' w ax ys)
    (h63 : n + m ≤ 1000000) (hbase : base ≤ w.heap.size) :
    ∃ cap' w', (Builtin.append_ #[t, t] ty #[.slice (some ⟨b, off, none⟩) n n, .slice ax m c]).run P w = .ok (.slice (some ⟨w.heap.size, 0, none⟩) (n + m) cap') w' ∧ ownR intS e (fun _ => False) base w' (some ⟨w.heap.size, 0, none⟩) (n + m) cap' (xs ++ ys) ∧ Below w.heap.size w w' := by
  have hI : ∀ x ∈ xs ++ ys, I64 x := by
    intro x hx
    rcases List.mem_append.1 hx with hx | hx
    · obtain ⟨k, hk⟩ := List.getElem?_of_mem hx
      obtain ⟨_, _, _, _, _, cs, ⟨_, h⟩, _⟩ := hr.get hk
      exact h
    · obtain ⟨k, hk⟩ := List.getElem?_of_mem hx
      rcases hsrc with rfl | ⟨_, _, _, he⟩
      · simp at hk
      · obtain ⟨cs, ⟨_, h⟩, _⟩ := he k x hk
        exact h
  have hxs : ∀ j u, (xs.map (Value.int .i64))[j]? = some u → w.cell? ((⟨b, off, none⟩ : Addr).add j) = some u := by
    intro j u hu
    rw [List.getElem?_map] at hu
    obtain ⟨x, hx, rfl⟩ := Option.map_eq_some_iff.1 hu
    obtain ⟨b', off', hbo, _, _, cs, ⟨rfl, _⟩, hce⟩ := hr.get hx
    obtain ⟨rfl, rfl⟩ : b = b' ∧ off = off' := by simpa using hbo
    have := hce 0 _ rfl
    simp only [intS, Nat.mul_one, Nat.add_zero] at this
    rw [Addr.add_lit]; exact this
  obtain ⟨a, rfl, hnew⟩ : ∃ a, ax = some a ∧ ∀ j u, (ys.map (Value.int .i64))[j]? = some u → w.cell? (a.add j) = some u := by
    rcases hsrc with rfl | ⟨b', off', rfl, he⟩
    · simp at hm; omega
    · refine ⟨_, rfl, fun j u hu => ?_⟩
      rw [List.getElem?_map] at hu
      obtain ⟨x, hx, rfl⟩ := Option.map_eq_some_iff.1 hu
      obtain ⟨cs, ⟨rfl, _⟩, hce⟩ := he j x hx
      have := hce 0 _ rfl
      simp only [intS, Nat.mul_one, Nat.add_zero] at this
      rw [Addr.add_lit]; exact this
  have hbytes : (n + m) * i.bytes ≤ 140737488355328 := by rw [hby]; omega
  have hrun := run_append_grow (P := P) w t ty e i (.int .i64 0) ht hi hz ⟨b, off, none⟩ n n (xs.map (Value.int .i64)) (by simp [hsize, hn]) hxs a m c (ys.map (Value.int .i64)) (by simp [hsize, hm]) hnew (by omega) (by omega) (growslice_fits (by omega) hbytes)
  have hge := grownCap_ge w (n + m) n e
  have hcm : grownCap w (n + m) n e ≤ maxLen := grownCap_le_maxLen w (n + m) n e (by simp only [maxLen]; omega)
  refine ⟨_, _, hrun, ⟨(xs ++ ys).map (Value.int .i64), ⟨by simp [intS, hn, hm], hge, hcm, .inr ⟨w.heap.size, _, rfl, hbase, heap_alloc_new w.drew _, ?_, ?_⟩⟩, by simp [hn, hm], ints_rep hI, by simp, by simp⟩, ?_⟩
  · simp only [Array.size_append, List.size_toArray, List.length_map, hn, hm, size_zeroCells, intS, Value.cells]
    simp
    omega
  · simp only [Array.toList_append, List.append_assoc, intS]
    rw [← List.append_assoc, ← List.map_append]
    have : (n + m) * 1 = ((xs ++ ys).map (Value.int .i64)).length := by simp [hn, hm]
    rw [this]
    exact List.take_left
  · exact ((Below.refl _ _).drew).alloc (by simp) _

theorem wpList_appFull {ops : Array Oper} {rest : List Oper} {o : Oper} {a : Act} {Q : Exit → Act → World → Prop} (hgd : o.guard = none) (s x : Operand) (t : TypeId)
    (ho : o.op = .call { callee := .builtin .append, args := #[s, x], argTypes := #[t, t] })
    (e : TypeId) (i : TypeInfo) (ht : P.underlying t = some (.slice e)) (hi : P.info? e = some i) (hz : i.zero = some (.int .i64 0)) (hsize : i.size = 1) (hby : i.bytes = 8) {ok ok' : Nat → Prop} {base : Nat}
    {b off n : Nat} {xs : List Int} (hs : a.eval s = .slice (some ⟨b, off, none⟩) n n) (hr : rowRep intS ok w (some ⟨b, off, none⟩) n xs) (hn : xs.length = n) (hn0 : 0 < n) {ax : Option Addr} {c : Nat} {ys : List Int} {m : Nat} (hx : a.eval x = .slice ax m c) (hm : ys.length = m) (hm0 : 0 < m) (hsrc : srcRep intS ok' w ax ys)
    (h63 : n + m ≤ 1000000) (hbase : base ≤ w.heap.size)
    (h : ∀ cap' w', ownR intS e (fun _ => False) base w' (some ⟨w.heap.size, 0, none⟩) (n + m) cap' (xs ++ ys) → Below w.heap.size w w' → wpList P ops Q rest (a.put o.dst (.slice (some ⟨w.heap.size, 0, none⟩) (n + m) cap')) w') : wpList P ops Q (o :: rest) a w :=
  wpList_plain hgd fun K hK => by
    obtain ⟨cap', w', hrun, h2, h3⟩ := run_appFull (P := P) t o.type e i ht hi hz hsize hby hr hn hn0 (c := c) hm hm0 hsrc h63 hbase
    unfold Oper.wp execOp
    simp only [ho, resolve, invoke, builtin, Sem.run_bind, Sem.run_pure, Result.andThen_ok, List.map_toArray, List.map_cons, List.map_nil, hs, hx, hrun]
    exact hK _ _ (h cap' w' h2 h3)
end

/-- nothing that was there has turned, but one block -/
structure But (s : Nat) (w w' : World) : Prop where
  os : w'.os = w.os
  tape : w'.tape = w.tape
  output : w'.output = w.output
  size : w.heap.size ≤ w'.heap.size
  block : ∀ k, k < w.heap.size → k ≠ s → w'.heap[k]? = w.heap[k]?

theorem But.refl (s : Nat) (w : World) : But s w w := ⟨rfl, rfl, rfl, Nat.le_refl _, fun _ _ _ => rfl⟩
theorem But.trans {s : Nat} {a b c : World} (h : But s a b) (k : But s b c) : But s a c :=
  ⟨k.os.trans h.os, k.tape.trans h.tape, k.output.trans h.output, Nat.le_trans h.size k.size, fun i hi hs => (k.block i (Nat.lt_of_lt_of_le hi h.size) hs).trans (h.block i hi hs)⟩
theorem But.of {s : Nat} {w w' : World} (h : Below w.heap.size w w') : But s w w' := ⟨h.os, h.tape, h.output, h.size, fun k hk _ => h.block k hk⟩
theorem But.set {s : Nat} (w : World) (o : Nat) (v : Value) : But s w (w.setCell ⟨s, o, none⟩ v) := by
  refine ⟨rfl, rfl, rfl, by simp [World.setCell], fun k hk hs => Below.heap_setCell w _ v k (by simpa using hs)⟩
theorem But.below {s B : Nat} {w w' : World} (h : But s w w') (hB : B ≤ s) (hw : B ≤ w.heap.size) : Below B w w' :=
  ⟨h.os, h.tape, h.output, h.size, fun k hk => h.block k (by omega) (by omega)⟩
theorem rowRep.but {α : Type} {sh : Shape α} {s : Nat} {w w' : World} {ao : Option Addr} {cap : Nat} {xs : List α} (h : rowRep sh (fun b => b ≠ s) w ao cap xs) (hb : But s w w') : rowRep sh (fun b => b ≠ s) w' ao cap xs :=
  h.mono fun b hlt hk => ⟨hk, hb.block b hlt hk⟩
theorem But.cell {s : Nat} {w w' : World} (h : But s w w') {b o : Nat} {v : Value} (hb : b < w.heap.size) (hs : b ≠ s) (hc : w.cell? ⟨b, o, none⟩ = some v) : w'.cell? ⟨b, o, none⟩ = some v := by
  rw [World.cell?_of_block (w := w) (h.block b hb hs)]; exact hc

end Go.St

/-
  Rows of rows under append.
-/
set_option linter.unusedSimpArgs false
set_option linter.unusedVariables false
namespace Go.St
open Go.RowKit

/-- blocks from lo on, but the row's own -/
def oth (lo : Nat) (w : World) (ao : Option Addr) : Nat → Prop := fun b => lo ≤ b ∧ b < w.heap.size ∧ blk ao ≠ some b
theorem oth.nil {α : Type} (sh : Shape α) (e : TypeId) (lo base : Nat) (w : World) : ownR sh e (oth lo w none) base w none 0 0 [] := ownR.nil _ _ _ _ _ fun _ h => h.2.1
theorem oth.below {α : Type} {sh : Shape α} {e : TypeId} {lo base : Nat} {w w' : World} {ao : Option Addr} {n cap : Nat} {xs : List α} (h : ownR sh e (oth lo w ao) base w ao n cap xs) (hb : Below w.heap.size w w') : ownR sh e (oth lo w' ao) base w' ao n cap xs :=
  (h.below hb).weaken (fun b ⟨h1, h2, h3⟩ => ⟨h1, Nat.lt_of_lt_of_le h2 hb.size, h3⟩) (fun k hk h => h.2.2 hk) (fun b h => h.2.1)
theorem oth.grown {α : Type} {sh : Shape α} {e : TypeId} {lo base : Nat} {w w' : World} {ao ao' : Option Addr} {n cap : Nat} {xs : List α} (h : ownR sh e (oth lo w ao) base w' ao' n cap xs) (hs : w.heap.size ≤ w'.heap.size) (hd : blk ao' = blk ao ∨ blk ao' = some w.heap.size) : ownR sh e (oth lo w' ao') base w' ao' n cap xs :=
  h.weaken (fun b ⟨h1, h2, h3⟩ => ⟨h1, Nat.lt_of_lt_of_le h2 hs, fun e => by
    rcases hd with hd | hd
    · exact h3 (hd ▸ e)
    · rw [hd] at e; have : w.heap.size = b := by simpa using e
      omega⟩) (fun k hk h => h.2.2 hk) (fun b h => h.2.1)
theorem oth.src {α : Type} {sh : Shape α} {lo : Nat} {w : World} {ao ax : Option Addr} {B cap : Nat} {xs : List α} (h : rowRep sh (fun b => B ≤ b) w ax cap xs) (hB : lo ≤ B) (hk : ∀ k, blk ao = some k → k < B) : srcRep sh (oth lo w ao) w ax xs :=
  (h.mono (fun b hb hh => ⟨⟨Nat.le_trans hB hh, hb, fun e => by have := hk b e; omega⟩, rfl⟩) : rowRep sh (oth lo w ao) w ax cap xs).src
theorem oth.setOther {α : Type} {sh : Shape α} {e : TypeId} {lo base ob o : Nat} {w : World} {v : Value} {ao : Option Addr} {n cap : Nat} {xs : List α} (h : ownR sh e (oth lo w ao) base w ao n cap xs) (hb : ob < lo) (hb2 : ob < base) : ownR sh e (oth lo (w.setCell ⟨ob, o, none⟩ v) ao) base (w.setCell ⟨ob, o, none⟩ v) ao n cap xs := by
  have hs : (w.setCell ⟨ob, o, none⟩ v).heap.size = w.heap.size := by simp
  refine (h.keep (by rw [hs]; exact Nat.le_refl _) fun k hk => Below.heap_setCell _ _ _ _ ?_).weaken (fun b ⟨h1, h2, h3⟩ => ⟨h1, by rw [hs]; exact h2, h3⟩) (fun k hk h => h.2.2 hk) (fun b h => h.2.1)
  rcases hk with hk | hk
  · have := (h.lt k hk).1; simp; omega
  · have := hk.1; simp; omega
theorem oth.plan {α : Type} {sh : Shape α} {e : TypeId} {lo base pb fb : Nat} {w : World} {ao : Option Addr} {n cap : Nat} {xs : List α} (h : ownR sh e (oth lo w ao) base w ao n cap xs) (h1 : pb < lo) (h2 : pb < base) (h3 : fb < lo) (h4 : fb < base) (a0 a1 a2 b0 b1 : Value) :
    ownR sh e (oth lo (((((w.setCell ⟨pb, 0, none⟩ a0).setCell ⟨pb, 1, none⟩ a1).setCell ⟨pb, 2, none⟩ a2).setCell ⟨fb, 0, none⟩ b0).setCell ⟨fb, 1, none⟩ b1) ao) base (((((w.setCell ⟨pb, 0, none⟩ a0).setCell ⟨pb, 1, none⟩ a1).setCell ⟨pb, 2, none⟩ a2).setCell ⟨fb, 0, none⟩ b0).setCell ⟨fb, 1, none⟩ b1) ao n cap xs :=
  oth.setOther (oth.setOther (oth.setOther (oth.setOther (oth.setOther h h1 h2) h1 h2) h1 h2) h3 h4) h3 h4
/-- a plan and a fault in their cells -/
theorem plan_ret {w : World} {pb fb : Nat} {tp tf : TypeId} {x0 x1 x2 y0 y1 : Value} (hP : blockIs w pb tp #[x0, x1, x2]) (hF : blockIs w fb tf #[y0, y1]) (hne : pb ≠ fb) (a0 a1 a2 b0 b1 : Value) :
    blockIs (((((w.setCell ⟨pb, 0, none⟩ a0).setCell ⟨pb, 1, none⟩ a1).setCell ⟨pb, 2, none⟩ a2).setCell ⟨fb, 0, none⟩ b0).setCell ⟨fb, 1, none⟩ b1) pb tp #[a0, a1, a2] ∧
      blockIs (((((w.setCell ⟨pb, 0, none⟩ a0).setCell ⟨pb, 1, none⟩ a1).setCell ⟨pb, 2, none⟩ a2).setCell ⟨fb, 0, none⟩ b0).setCell ⟨fb, 1, none⟩ b1) fb tf #[b0, b1] :=
  ⟨((((hP.set 0 a0).set 1 a1).set 2 a2).setOther (a := ⟨fb, 0, none⟩) hne b0).setOther (a := ⟨fb, 1, none⟩) hne b1,
   ((((hF.setOther (a := ⟨pb, 0, none⟩) (Ne.symm hne) a0).setOther (a := ⟨pb, 1, none⟩) (Ne.symm hne) a1).setOther (a := ⟨pb, 2, none⟩) (Ne.symm hne) a2).set 0 b0).set 1 b1⟩
/-- a block of one row as a source -/
theorem row_one_src {w : World} {b : Nat} {e : TypeId} {ao : Option Addr} {cap : Nat} {xs : List Int} {ok : Nat → Prop} (h : blockIs w b e #[.slice ao xs.length cap]) (hx : rowRep intS ok w ao cap xs) : srcRep (sliceS intS) ok w (some ⟨b, 0, none⟩) [xs] := by
  refine .inr ⟨b, 0, rfl, fun i y hy => ?_⟩
  match i, hy with
  | 0, hy =>
    obtain rfl : xs = y := by simpa using hy
    refine ⟨_, ⟨ao, cap, rfl, hx⟩, fun j c hc => ?_⟩
    simp only [Nat.zero_mul, Nat.zero_add]
    rw [h.cells.1 j]
    simpa using hc
  | i + 1, hy => simp at hy
/-- a block of one number as a source -/
theorem one_src {w : World} {b : Nat} {e : TypeId} {x : Int} {ok : Nat → Prop} (h : blockIs w b e #[.int .i64 x]) (hx : I64 x) : srcRep intS ok w (some ⟨b, 0, none⟩) [x] := by
  refine .inr ⟨b, 0, rfl, fun i y hy => ?_⟩
  match i, hy with
  | 0, hy =>
    obtain rfl : x = y := by simpa using hy
    refine ⟨_, ⟨rfl, hx⟩, fun j c hc => ?_⟩
    simp only [Nat.zero_mul, Nat.zero_add]
    rw [h.cells.1 j]
    simpa using hc
  | i + 1, hy => simp at hy
end Go.St

/-
  A row of rules in a block of its own, that is turned in place.
-/
set_option linter.unusedSimpArgs false
set_option linter.unusedVariables false
namespace Go.St
open Go.RowKit

def encR (r : Rule) : List Value := [.int .i64 r.ver, .int .i64 r.flow, .int .i64 r.next]
def cellsR (xs : List Rule) : List Value := xs.flatMap encR
def RI (r : Rule) : Prop := I64 r.ver ∧ I64 r.flow ∧ I64 r.next
theorem cellsR_len (xs : List Rule) : (cellsR xs).length = xs.length * 3 := by
  unfold cellsR
  induction xs with
  | nil => rfl
  | cons x xs ih => simp only [List.flatMap_cons, List.length_append, ih, List.length_cons, encR, List.length_nil]; omega
theorem cellsR_get {junk : List Value} : ∀ {xs : List Rule} {i : Nat} {r : Rule}, xs[i]? = some r → ∀ k, k < 3 → (cellsR xs ++ junk)[i * 3 + k]? = (encR r)[k]?
  | [], i, r, h, _, _ => by simp at h
  | x :: xs, 0, r, h, k, hk => by
    obtain rfl : x = r := by simpa using h
    simp only [cellsR, List.flatMap_cons, Nat.zero_mul, Nat.zero_add]
    rw [List.append_assoc, List.getElem?_append_left (by simp [encR]; omega)]
  | x :: xs, i + 1, r, h, k, hk => by
    have h' : xs[i]? = some r := by simpa using h
    have := cellsR_get (junk := junk) h' k hk
    simp only [cellsR, List.flatMap_cons]
    rw [List.append_assoc, List.getElem?_append_right (by simp [encR]; omega)]
    rw [← this]
    congr 1
    simp [encR]; omega
theorem cellsR_set {junk : List Value} {r : Rule} : ∀ {xs : List Rule} {i : Nat}, i < xs.length →
    (((cellsR xs ++ junk).set (i * 3) (.int .i64 r.ver)).set (i * 3 + 1) (.int .i64 r.flow)).set (i * 3 + 2) (.int .i64 r.next) = cellsR (xs.set i r) ++ junk
  | [], i, h => by simp at h
  | x :: xs, 0, h => by simp [cellsR, encR]
  | x :: xs, i + 1, h => by
    have := cellsR_set (junk := junk) (r := r) (xs := xs) (i := i) (by simpa using h)
    have e : cellsR (x :: xs) ++ junk = .int .i64 x.ver :: .int .i64 x.flow :: .int .i64 x.next :: (cellsR xs ++ junk) := by simp [cellsR, encR]
    have e' : cellsR ((x :: xs).set (i + 1) r) ++ junk = .int .i64 x.ver :: .int .i64 x.flow :: .int .i64 x.next :: (cellsR (xs.set i r) ++ junk) := by simp [cellsR, encR]
    rw [e, e', ← this]
    rw [show (i + 1) * 3 = i * 3 + 1 + 1 + 1 by omega, show i * 3 + 1 + 1 + 1 + 1 = (i * 3 + 1) + 1 + 1 + 1 by omega, show i * 3 + 1 + 1 + 1 + 2 = (i * 3 + 2) + 1 + 1 + 1 by omega]
    simp only [List.set_cons_succ]

/-- the row: a block of its own, with cells behind it that nobody reads -/
structure RR (w : World) (g : Nat) (t : TypeId) (xs : List Rule) (junk : List Value) : Prop where
  blk : blockIs w g t (cellsR xs ++ junk).toArray
  rng : ∀ r ∈ xs, RI r

section
variable {w w' : World} {g : Nat} {t : TypeId} {xs : List Rule} {junk : List Value}
theorem RR.lt (h : RR w g t xs junk) : g < w.heap.size := h.blk.lt
theorem RR.frz (h : RR w g t xs junk) (o : Nat) : w.frozen? ⟨g, o, none⟩ = false := h.blk.cells.2 o
theorem RR.get (h : RR w g t xs junk) {i : Nat} {r : Rule} (hr : xs[i]? = some r) : w.cell? ⟨g, i * 3, none⟩ = some (.int .i64 r.ver) ∧ w.cell? ⟨g, i * 3 + 1, none⟩ = some (.int .i64 r.flow) ∧ w.cell? ⟨g, i * 3 + 2, none⟩ = some (.int .i64 r.next) := by
  have e := cellsR_get (junk := junk) hr
  have e0 := e 0 (by decide)
  have e1 := e 1 (by decide)
  have e2 := e 2 (by decide)
  refine ⟨?_, ?_, ?_⟩
  · rw [h.blk.cells.1]; simpa [encR] using e0
  · rw [h.blk.cells.1]; simpa [encR] using e1
  · rw [h.blk.cells.1]; simpa [encR] using e2
theorem RR.keep (h : RR w g t xs junk) (e : w'.heap[g]? = w.heap[g]?) : RR w' g t xs junk := ⟨h.blk.keep e, h.rng⟩
theorem RR.under (h : RR w g t xs junk) (hb : Below w.heap.size w w') : RR w' g t xs junk := ⟨h.blk.under hb, h.rng⟩
theorem RR.alloc (h : RR w g t xs junk) (o : Obj) : RR (w.alloc o) g t xs junk := ⟨h.blk.alloc o, h.rng⟩
theorem RR.put (h : RR w g t xs junk) {i : Nat} (hi : i < xs.length) {r : Rule} (hr : RI r) :
    RR (((w.setCell ⟨g, i * 3, none⟩ (.int .i64 r.ver)).setCell ⟨g, i * 3 + 1, none⟩ (.int .i64 r.flow)).setCell ⟨g, i * 3 + 2, none⟩ (.int .i64 r.next)) g t (xs.set i r) junk := by
  refine ⟨?_, fun x hx => ?_⟩
  · have := ((h.blk.set (i * 3) (.int .i64 r.ver)).set (i * 3 + 1) (.int .i64 r.flow)).set (i * 3 + 2) (.int .i64 r.next)
    rw [← cellsR_set hi]
    simpa using this
  · rcases List.mem_or_eq_of_mem_set hx with hx | rfl
    · exact h.rng x hx
    · exact hr
theorem RR.drew (h : RR w g t xs junk) : RR w.drew g t xs junk := ⟨h.blk.drew, h.rng⟩
/-- six cells written, one rule behind the other -/
def put2 (w : World) (g i j : Nat) (y x : Rule) : World :=
  (((((w.setCell ⟨g, i * 3, none⟩ (.int .i64 y.ver)).setCell ⟨g, i * 3 + 1, none⟩ (.int .i64 y.flow)).setCell ⟨g, i * 3 + 2, none⟩ (.int .i64 y.next)).setCell ⟨g, j * 3, none⟩ (.int .i64 x.ver)).setCell ⟨g, j * 3 + 1, none⟩ (.int .i64 x.flow)).setCell ⟨g, j * 3 + 2, none⟩ (.int .i64 x.next)
theorem RR.swap (h : RR w g t xs junk) {i j : Nat} (hi : i < xs.length) (hj : j < xs.length) {x y : Rule} (hx : RI x) (hy : RI y) : RR (put2 w g i j y x).drew g t ((xs.set i y).set j x) junk :=
  ((h.put hi hy).put (by simpa using hj) hx).drew
theorem RR.elem (h : RR w g t xs junk) {i : Nat} {r : Rule} (hr : xs[i]? = some r) : RI r := h.rng r (List.mem_of_getElem? hr)
end

/-- nothing but block g is turned -/
def Near (g : Nat) (w w' : World) : Prop := w.grownBy w' (some g)
theorem Near.refl (g : Nat) (w : World) : Near g w w := World.grownBy.refl _ _
theorem Near.trans {g : Nat} {a b c : World} (h : Near g a b) (k : Near g b c) : Near g a c :=
  ⟨k.os.trans h.os, k.tape.trans h.tape, k.output.trans h.output, Nat.le_trans h.size k.size, fun i hi hn => (k.block i (Nat.lt_of_lt_of_le hi h.size) hn).trans (h.block i hi hn)⟩
theorem Near.below {g : Nat} {a b : World} (h : Below a.heap.size a b) : Near g a b := ⟨h.os, h.tape, h.output, h.size, fun k hk _ => h.block k hk⟩
theorem Near.then {g : Nat} {a b c : World} (h : Near g a b) (k : Below b.heap.size b c) : Near g a c := h.trans (Near.below k)
theorem Near.set {g : Nat} {a b : World} (h : Near g a b) (o : Nat) (v : Value) : Near g a (b.setCell ⟨g, o, none⟩ v) :=
  h.trans ⟨rfl, rfl, rfl, by simp, fun k _ hn => Below.heap_setCell b ⟨g, o, none⟩ v k (fun e => hn (by rw [show k = g from e]))⟩
theorem Near.drew {g : Nat} {a b : World} (h : Near g a b) : Near g a b.drew := ⟨h.os, h.tape, h.output, h.size, h.block⟩
theorem Near.swap {g : Nat} {a b : World} (h : Near g a b) (i j : Nat) (y x : Rule) : Near g a (put2 b g i j y x).drew := (((((((h.set _ _).set _ _).set _ _).set _ _).set _ _).set _ _)).drew
theorem Near.to {g B : Nat} {w0 a b : World} (h : Near g a b) (hb : Below B w0 a) (hB : B ≤ a.heap.size) (hg : B ≤ g) : Below B w0 b := hb.grown h hB (fun k hk => by simp at hk; omega)

/-- exchanged -/
def swp (xs : List Rule) (i j : Nat) (x y : Rule) : List Rule := (xs.set i y).set j x
end Go.St
