/-
  How a change goes on, plainly: by the numbers that are waited for.
-/
import Derived.Test.YtagldmdeohenjaaStepC
import Derived.Test.YtagldmdeohenjaaRuleC
set_option linter.unusedSimpArgs false
set_option linter.unusedVariables false
namespace Go.St
open Go.RowKit

theorem send_mem (c : Ctl) (l : List To) {x : To} (h : x ∈ (send c l).2) : ∃ y ∈ l, x.sw = y.sw ∧ x.order.kind = y.order.kind ∧ x.order.ver = y.order.ver ∧ x.order.rules = y.order.rules ∧ x.order.flows = y.order.flows := by
  induction l generalizing c with
  | nil => simp [send, tells] at h
  | cons y l ih =>
    unfold send at h
    rw [tells_cons, tell, tells_acc] at h
    simp only [List.nil_append, List.mem_append, List.mem_singleton] at h
    rcases h with rfl | h
    · exact ⟨y, by simp, rfl, rfl, rfl, rfl, rfl⟩
    · obtain ⟨z, hz, r⟩ := ih _ h
      exact ⟨z, by simp [hz], r⟩
theorem over_mem {f : Int → List To} {n : Nat} {x : To} (h : x ∈ over f n) : ∃ s : Nat, s < n ∧ x ∈ f (s : Int) := by
  unfold over at h
  obtain ⟨s, hs, hx⟩ := List.mem_flatMap.1 h
  exact ⟨s, List.mem_range.1 hs, hx⟩
theorem stamps_kind {c : Ctl} {t : Topo} {x : To} (h : x ∈ stampsOf c t) : x.order.kind = 2 := by
  obtain ⟨s, _, hx⟩ := over_mem h
  unfold stampAt at hx
  split at hx
  · simp at hx
  · obtain rfl : x = _ := by simpa using hx
    rfl
theorem adds_kind {p : Plan} {t : Topo} {x : To} (h : x ∈ addsOf p t) : x.order.kind = 1 := by
  obtain ⟨s, _, hx⟩ := over_mem h
  unfold addAt at hx
  split at hx
  · simp at hx
  · obtain rfl : x = _ := by simpa using hx
    rfl
theorem stamps_len (c : Ctl) (t : Topo) : (stampsOf c t).length ≤ t.n.toNat := over_len (stampAt_len _) _
theorem adds_len (p : Plan) (t : Topo) : (addsOf p t).length ≤ t.n.toNat := over_len (addAt_len _) _

/-- a change that began with A orders of rules, behind i answers -/
def OrdInv (A i : Nat) (c : Ctl) : Prop :=
  (c.stage = 1 ∧ c.waits ≠ [] ∧ c.waits.length + i = A) ∨ (c.stage = 2 ∧ c.waits ≠ [] ∧ A ≤ i ∧ c.waits.length + i ≤ A + 8) ∨ (c.stage = 3 ∧ c.waits = [])
/-- what comes where nothing is waited for any more, of a change whose rules are told -/
theorem steps_told {c : Ctl} {t : Topo} (h8 : t.n ≤ 8) (h : c.waits = []) (h1 : c.stage = 1) : ((stepsOf c t).1.stage = 2 ∧ (stepsOf c t).1.waits ≠ [] ∧ (stepsOf c t).1.waits.length ≤ 8 ∨ (stepsOf c t).1.stage = 3 ∧ (stepsOf c t).1.waits = []) ∧ ∀ x ∈ (stepsOf c t).2, x.order.kind = 2 := by
  have e : stepsOf c t = if (send ⟨2, c.now, c.next, c.num, c.waits⟩ (stampsOf c t)).1.waits = [] then (⟨3, c.now, c.next, c.num, []⟩, []) else send ⟨2, c.now, c.next, c.num, c.waits⟩ (stampsOf c t) := by
    unfold stepsOf
    rw [if_neg (fun hh => hh h), if_pos h1]
  rw [e]
  by_cases hw : (send ⟨2, c.now, c.next, c.num, c.waits⟩ (stampsOf c t)).1.waits = []
  · rw [if_pos hw]
    exact ⟨.inr ⟨rfl, rfl⟩, by simp⟩
  · rw [if_neg hw]
    have hk := send_keeps ⟨2, c.now, c.next, c.num, c.waits⟩ (stampsOf c t)
    have hl := send_len ⟨2, c.now, c.next, c.num, c.waits⟩ (stampsOf c t)
    have hs := stamps_len c t
    rw [h] at hl hk hw ⊢
    refine ⟨.inl ⟨hk.1, hw, ?_⟩, fun x hx => ?_⟩
    · have := hl.2
      simp only [List.length_nil, Nat.zero_add] at this
      omega
    · obtain ⟨y, hy, _, h2, _⟩ := send_mem _ _ hx
      rw [h2]; exact stamps_kind hy
theorem idx_of_mem {n : Int} : ∀ {l : List Int}, n ∈ l → ∃ i, idxIn n l = some i := by
  intro l h
  cases hi : idxIn n l with
  | some i => exact ⟨i, rfl⟩
  | none => exact absurd h (idxIn_none hi)
theorem back_in {c : Ctl} {t : Topo} {n : Int} (ht : (topoWrong t).1 = 0) (hn : n ∈ c.waits) : ∃ ws, ws.length + 1 = c.waits.length ∧ (∀ x ∈ ws, x ∈ c.waits) ∧
    ctlBack c t n = ((stepsOf ⟨c.stage, c.now, c.next, c.num, ws⟩ t).1, (stepsOf ⟨c.stage, c.now, c.next, c.num, ws⟩ t).2, 0) := by
  obtain ⟨i, hi⟩ := idx_of_mem hn
  have hil := (List.getElem?_eq_some_iff.1 (idxIn_some hi)).1
  refine ⟨c.waits.eraseIdx i, by rw [List.length_eraseIdx_of_lt hil]; omega, fun x hx => List.mem_of_mem_eraseIdx hx, ?_⟩
  unfold ctlBack
  rw [if_neg (fun h => h ht), hi]
theorem ord_back {t : Topo} {A i : Nat} {c : Ctl} {n : Int} (ht : (topoWrong t).1 = 0) (h8 : t.n ≤ 8) (h : OrdInv A i c) (hn : n ∈ c.waits) :
    (ctlBack c t n).2.2 = 0 ∧ OrdInv A (i + 1) (ctlBack c t n).1 ∧ ∀ x ∈ (ctlBack c t n).2.1, x.order.kind = 2 ∧ A ≤ i + 1 := by
  obtain ⟨ws, hl, hm, e⟩ := back_in ht hn
  rw [e]
  refine ⟨rfl, ?_⟩
  rcases h with ⟨h1, h2, h3⟩ | ⟨h1, h2, h3, h4⟩ | ⟨h1, h2⟩
  · by_cases hw : ws = []
    · have hk := steps_told (c := ⟨c.stage, c.now, c.next, c.num, ws⟩) h8 hw h1
      have hA : A = i + 1 := by rw [hw] at hl; simp at hl; omega
      refine ⟨?_, fun x hx => ⟨hk.2 x hx, by omega⟩⟩
      rcases hk.1 with ⟨k1, k2, k3⟩ | ⟨k1, k2⟩
      · exact .inr (.inl ⟨k1, k2, by omega, by dsimp only; omega⟩)
      · exact .inr (.inr ⟨k1, k2⟩)
    · rw [steps_wait (c := ⟨c.stage, c.now, c.next, c.num, ws⟩) hw]
      exact ⟨.inl ⟨h1, hw, by dsimp only; omega⟩, by simp⟩
  · by_cases hw : ws = []
    · have e2 : stepsOf ⟨c.stage, c.now, c.next, c.num, ws⟩ t = (⟨3, c.now, c.next, c.num, ws⟩, []) := by
        unfold stepsOf; simp [hw, h1]
      rw [e2]
      exact ⟨.inr (.inr ⟨rfl, hw⟩), by simp⟩
    · rw [steps_wait (c := ⟨c.stage, c.now, c.next, c.num, ws⟩) hw]
      exact ⟨.inr (.inl ⟨h1, hw, by omega, by dsimp only; omega⟩), by simp⟩
  · rw [h2] at hn; simp at hn
/-- how many orders of rules there are -/
def addsIn (l : List To) : Nat := (l.filter fun x => x.order.kind == 1).length
theorem ord_ask {t : Topo} {l : List Flow} (h : (ctlAsk noCtl t l).2.2 = 0) : (topoWrong t).1 = 0 ∧ t.n ≤ 8 ∧ OrdInv (addsIn (ctlAsk noCtl t l).2.1) 0 (ctlAsk noCtl t l).1 ∧ (0 < addsIn (ctlAsk noCtl t l).2.1 → ∀ x ∈ (ctlAsk noCtl t l).2.1, x.order.kind ≠ 2) := by
  have e0 : ctlAsk noCtl t l = if (planOf t (up 0) l).2.1 ≠ 0 then (noCtl, [], (planOf t (up 0) l).2.1) else if fullTo noPlan (planOf t (up 0) l).1 t.n.toNat = true then (noCtl, [], 10) else
      ((stepsOf (send ⟨1, noPlan, (planOf t (up 0) l).1, 0, []⟩ (addsOf (planOf t (up 0) l).1 t)).1 t).1,
       (send ⟨1, noPlan, (planOf t (up 0) l).1, 0, []⟩ (addsOf (planOf t (up 0) l).1 t)).2 ++ (stepsOf (send ⟨1, noPlan, (planOf t (up 0) l).1, 0, []⟩ (addsOf (planOf t (up 0) l).1 t)).1 t).2, 0) := by
    unfold ctlAsk
    rw [if_neg (fun hh => hh rfl)]
    rfl
  rw [e0] at h ⊢
  by_cases h1 : (planOf t (up 0) l).2.1 = 0
  case neg => rw [if_pos h1] at h; exact absurd h h1
  rw [if_neg (fun hh => hh h1)] at h ⊢
  by_cases h2 : fullTo noPlan (planOf t (up 0) l).1 t.n.toNat = true
  · rw [if_pos h2] at h; exact absurd (show (10 : Int) = 0 from h) (by decide)
  rw [if_neg h2]
  have hp := plan_ok h1
  have h8 := hp.n8
  generalize (planOf t (up 0) l).1 = p at *
  refine ⟨hp.topo, h8, ?_⟩
  by_cases ha : addsOf p t = []
  · rw [ha]
    have es : send ⟨1, noPlan, p, 0, []⟩ [] = (⟨1, noPlan, p, 0, []⟩, []) := rfl
    rw [es]
    have hk := steps_told (c := ⟨1, noPlan, p, 0, []⟩) (t := t) h8 rfl rfl
    generalize stepsOf ⟨1, noPlan, p, 0, []⟩ t = tr at *
    dsimp only
    rw [List.nil_append]
    have hz : addsIn tr.2 = 0 := by
      unfold addsIn
      rw [List.length_eq_zero_iff, List.filter_eq_nil_iff]
      intro x hx
      rw [hk.2 x hx]; decide
    rw [hz]
    refine ⟨?_, fun h => absurd h (by omega)⟩
    rcases hk.1 with ⟨k1, k2, k3⟩ | ⟨k1, k2⟩
    · exact .inr (.inl ⟨k1, k2, Nat.le_refl _, by omega⟩)
    · exact .inr (.inr ⟨k1, k2⟩)
  · have hl := send_len ⟨1, noPlan, p, 0, []⟩ (addsOf p t)
    have hk := send_keeps ⟨1, noPlan, p, 0, []⟩ (addsOf p t)
    have hm : ∀ x ∈ (send ⟨1, noPlan, p, 0, []⟩ (addsOf p t)).2, x.order.kind = 1 := fun x hx => by
      obtain ⟨y, hy, _, h2, _⟩ := send_mem _ _ hx
      rw [h2]; exact adds_kind hy
    have hne : 0 < (addsOf p t).length := List.length_pos_iff.2 ha
    generalize send ⟨1, noPlan, p, 0, []⟩ (addsOf p t) = sr at *
    have hw : sr.1.waits ≠ [] := fun e => by rw [e] at hl; simp at hl; omega
    rw [steps_wait hw]
    dsimp only
    rw [List.append_nil]
    have hA : addsIn sr.2 = sr.2.length := by
      unfold addsIn
      rw [List.filter_eq_self.2 fun x hx => by rw [hm x hx]; rfl]
    rw [hA]
    refine ⟨.inl ⟨hk.1, hw, by have := hl.2; simp at this; omega⟩, fun _ x hx => by rw [hm x hx]; decide⟩
end Go.St
