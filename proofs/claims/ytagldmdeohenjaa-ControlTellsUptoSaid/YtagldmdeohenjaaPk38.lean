/-
  How a change goes on, plainly: by the numbers that are waited for.
-/
import Derived.Test.YtagldmdeohenjaaPk31
import Derived.Test.YtagldmdeohenjaaPk26
import Derived.Test.YtagldmdeohenjaaPk37
import Derived.Test.YtagldmdeohenjaaPk1
set_option linter.unusedSimpArgs false
set_option linter.unusedVariables false
namespace Go.St
open Go.RowKit

theorem send_mem (c : Ctl) (l : List To) {x : To} (h : x ∈ (send c l).2) : ∃ y ∈ l, x.sw = y.sw ∧ x.order.kind = y.order.kind ∧ x.order.ver = y.order.ver ∧ x.order.rules = y.order.rules ∧ x.order.flows = y.order.flows := by
  induction l generalizing c with
  | nil => simp [send, tells] at h
  | cons y l ih =>
    unfold send at h
    rw [tells_cons, tell, tells_acc] at h
    simp only [List.nil_append, List.mem_append, List.mem_singleton] at h
    rcases h with rfl | h
    · exact ⟨y, by simp, rfl, rfl, rfl, rfl, rfl⟩
    · obtain ⟨z, hz, r⟩ := ih _ h
      exact ⟨z, by simp [hz], r⟩
theorem over_mem {f : Int → List To} {n : Nat} {x : To} (h : x ∈ over f n) : ∃ s : Nat, s < n ∧ x ∈ f (s : Int) := by
  unfold over at h
  obtain ⟨s, hs, hx⟩ := List.mem_flatMap.1 h
  exact ⟨s, List.mem_range.1 hs, hx⟩
theorem stamps_kind {c : Ctl} {t : Topo} {x : To} (h : x ∈ stampsOf c t) : x.order.kind = 2 := by
  obtain ⟨s, _, hx⟩ := over_mem h
  unfold stampAt at hx
  split at hx
  · simp at hx
  · obtain rfl : x = _ := by simpa using hx
    rfl
theorem adds_kind {p : Plan} {t : Topo} {x : To} (h : x ∈ addsOf p t) : x.order.kind = 1 := by
  obtain ⟨s, _, hx⟩ := over_mem h
  unfold addAt at hx
  split at hx
  · simp at hx
  · obtain rfl : x = _ := by simpa using hx
    rfl
theorem stamps_len (c : Ctl) (t : Topo) : (stampsOf c t).length ≤ t.n.toNat := over_len (stampAt_len _) _
theorem adds_len (p : Plan) (t : Topo) : (addsOf p t).length ≤ t.n.toNat := over_len (addAt_len _) _

/-- a change that began with A orders of rules, behind i answers -/
def OrdInv (A i : Nat) (c : Ctl) : Prop :=
  (c.stage = 1 ∧ c.waits ≠ [] ∧ c.waits.length + i = A) ∨ (c.stage = 2 ∧ c.waits ≠ [] ∧ A ≤ i ∧ c.waits.length + i ≤ A + 8) ∨ (c.stage = 3 ∧ c.waits = [])
/-- what comes where nothing is waited for any more, of a change whose rules are told -/
theorem steps_told {c : Ctl} {t : Topo} (h8 : t.n ≤ 8) (h : c.waits = []) (h1 : c.stage = 1) : ((stepsOf c t).1.stage = 2 ∧ (stepsOf c t).1.waits ≠ [] ∧ (stepsOf c t).1.waits.length ≤ 8 ∨ (stepsOf c t).1.stage = 3 ∧ (stepsOf c t).1.waits = []) ∧ ∀ x ∈ (stepsOf c t).2, x.order.kind = 2 := by
  have e : stepsOf c t = if (send ⟨2, c.now, c.next, c.num, c.waits⟩ (stampsOf c t)).1.waits = [] then (⟨3, c.now, c.next, c.num, []⟩, []) else send ⟨2, c.now, c.next, c.num, c.waits⟩ (stampsOf c t) := by
    unfold stepsOf
    rw [if_neg (fun hh => hh h), if_pos h1]
  rw [e]
  by_cases hw : (send ⟨2, c.now, c.next, c.num, c.waits⟩ (stampsOf c t)).1.waits = []
  · rw [if_pos hw]
    exact ⟨.inr ⟨rfl, rfl⟩, by simp⟩
  · rw [if_neg hw]
    have hk := send_keeps ⟨2, c.now, c.next, c.num, c.waits⟩ (stampsOf c t)
    have hl := send_len ⟨2, c.now, c.next, c.num, c.waits⟩ (stampsOf c t)
    have hs := stamps_len c t
    rw [h] at hl hk hw ⊢
    refine ⟨.inl ⟨hk.1, hw, ?_⟩, fun x hx => ?_⟩
    · have := hl.2
      simp only [List.length_nil, Nat.zero_add] at this
      omega
    · obtain ⟨y, hy, _, h2, _⟩ := send_mem _ _ hx
      rw [h2]; exact stamps_kind hy
theorem idx_of_mem {n : Int} : ∀ {l : List Int}, n ∈ l → ∃ i, idxIn n l = some i := by
  intro l h
  cases hi : idxIn n l with
  | some i => exact ⟨i, rfl⟩
  | none => exact absurd h (idxIn_none hi)
theorem back_in {c : Ctl} {t : Topo} {n : Int} (ht : (topoWrong t).1 = 0) (hn : n ∈ c.waits) : ∃ ws, ws.length + 1 = c.waits.length ∧ (∀ x ∈ ws, x ∈ c.waits) ∧
    ctlBack c t n = ((stepsOf ⟨c.stage, c.now, c.next, c.num, ws⟩ t).1, (stepsOf ⟨c.stage, c.now, c.next, c.num, ws⟩ t).2, 0) := by
  obtain ⟨i, hi⟩ := idx_of_mem hn
  have hil := (List.getElem?_eq_some_iff.1 (idxIn_some hi)).1
  refine ⟨c.waits.eraseIdx i, by rw [List.length_eraseIdx_of_lt hil]; omega, fun x hx => List.mem_of_mem_eraseIdx hx, ?_⟩
  unfold ctlBack
  rw [if_neg (fun h => h ht), hi]
theorem ord_back {t : Topo} {A i : Nat} {c : Ctl} {n : Int} (ht : (topoWrong t).1 = 0) (h8 : t.n ≤ 8) (h : OrdInv A i c) (hn : n ∈ c.waits) :
    (ctlBack c t n).2.2 = 0 ∧ OrdInv A (i + 1) (ctlBack c t n).1 ∧ ∀ x ∈ (ctlBack c t n).2.1, x.order.kind = 2 ∧ A ≤ i + 1 := by
  obtain ⟨ws, hl, hm, e⟩ := back_in ht hn
  rw [e]
  refine ⟨rfl, ?_⟩
  rcases h with ⟨h1, h2, h3⟩ | ⟨h1, h2, h3, h4⟩ | ⟨h1, h2⟩
  · by_cases hw : ws = []
    · have hk := steps_told (c := ⟨c.stage, c.now, c.next, c.num, ws⟩) h8 hw h1
      have hA : A = i + 1 := by rw [hw] at hl; simp at hl; omega
      refine ⟨?_, fun x hx => ⟨hk.2 x hx, by omega⟩⟩
      rcases hk.1 with ⟨k1, k2, k3⟩ | ⟨k1, k2⟩
      · exact .inr (.inl ⟨k1, k2, by omega, by dsimp only; omega⟩)
      · exact .inr (.inr ⟨k1, k2⟩)
    · rw [steps_wait (c := ⟨c.stage, c.now, c.next, c.num, ws⟩) hw]
      exact ⟨.inl ⟨h1, hw, by dsimp only; omega⟩, by simp⟩
  · by_cases hw : ws = []
    · have e2 : stepsOf ⟨c.stage, c.now, c.next, c.num, ws⟩ t = (⟨3, c.now, c.next, c.num, ws⟩, []) := by
        unfold stepsOf; simp [hw, h1]
      rw [e2]
      exact ⟨.inr (.inr ⟨rfl, hw⟩), by simp⟩
    · rw [steps_wait (c := ⟨c.stage, c.now, c.next, c.num, ws⟩) hw]
      exact ⟨.inr (.inl ⟨h1, hw, by omega, by dsimp only; omega⟩), by simp⟩
  · rw [h2] at hn; simp at hn
/-- how many orders of rules there are -/
def addsIn (l : List To) : Nat := (l.filter fun x => x.order.kind == 1).length
theorem ord_ask {t : Topo} {l : List Flow} (h : (ctlAsk noCtl t l).2.2 = 0) : (topoWrong t).1 = 0 ∧ t.n ≤ 8 ∧ OrdInv (addsIn (ctlAsk noCtl t l).2.1) 0 (ctlAsk noCtl t l).1 ∧ (0 < addsIn (ctlAsk noCtl t l).2.1 → ∀ x ∈ (ctlAsk noCtl t l).2.1, x.order.kind ≠ 2) := by
  have e0 : ctlAsk noCtl t l = if (planOf t (up 0) l).2.1 ≠ 0 then (noCtl, [], (planOf t (up 0) l).2.1) else if fullTo noPlan (planOf t (up 0) l).1 t.n.toNat = true then (noCtl, [], 10) else
      ((stepsOf (send ⟨1, noPlan, (planOf t (up 0) l).1, 0, []⟩ (addsOf (planOf t (up 0) l).1 t)).1 t).1,
       (send ⟨1, noPlan, (planOf t (up 0) l).1, 0, []⟩ (addsOf (planOf t (up 0) l).1 t)).2 ++ (stepsOf (send ⟨1, noPlan, (planOf t (up 0) l).1, 0, []⟩ (addsOf (planOf t (up 0) l).1 t)).1 t).2, 0) := by
    unfold ctlAsk
    rw [if_neg (fun hh => hh rfl)]
    rfl
  rw [e0] at h ⊢
  by_cases h1 : (planOf t (up 0) l).2.1 = 0
  case neg => rw [if_pos h1] at h; exact absurd h h1
  rw [if_neg (fun hh => hh h1)] at h ⊢
  by_cases h2 : fullTo noPlan (planOf t (up 0) l).1 t.n.toNat = true
  · rw [if_pos h2] at h; exact absurd (show (10 : Int) = 0 from h) (by decide)
  rw [if_neg h2]
  have hp := plan_ok h1
  have h8 := hp.n8
  generalize (planOf t (up 0) l).1 = p at *
  refine ⟨hp.topo, h8, ?_⟩
  by_cases ha : addsOf p t = []
  · rw [ha]
    have es : send ⟨1, noPlan, p, 0, []⟩ [] = (⟨1, noPlan, p, 0, []⟩, []) := rfl
    rw [es]
    have hk := steps_told (c := ⟨1, noPlan, p, 0, []⟩) (t := t) h8 rfl rfl
    generalize stepsOf ⟨1, noPlan, p, 0, []⟩ t = tr at *
    dsimp only
    rw [List.nil_append]
    have hz : addsIn tr.2 = 0 := by
      unfold addsIn
      rw [List.length_eq_zero_iff, List.filter_eq_nil_iff]
      intro x hx
      rw [hk.2 x hx]; decide
    rw [hz]
    refine ⟨?_, fun h => absurd h (by omega)⟩
    rcases hk.1 with ⟨k1, k2, k3⟩ | ⟨k1, k2⟩
    · exact .inr (.inl ⟨k1, k2, Nat.le_refl _, by omega⟩)
    · exact .inr (.inr ⟨k1, k2⟩)
  · have hl := send_len ⟨1, noPlan, p, 0, []⟩ (addsOf p t)
    have hk := send_keeps ⟨1, noPlan, p, 0, []⟩ (addsOf p t)
    have hm : ∀ x ∈ (send ⟨1, noPlan, p, 0, []⟩ (addsOf p t)).2, x.order.kind = 1 := fun x hx => by
      obtain ⟨y, hy, _, h2, _⟩ := send_mem _ _ hx
      rw [h2]; exact adds_kind hy
    have hne : 0 < (addsOf p t).length := List.length_pos_iff.2 ha
    generalize send ⟨1, noPlan, p, 0, []⟩ (addsOf p t) = sr at *
    have hw : sr.1.waits ≠ [] := fun e => by rw [e] at hl; simp at hl; omega
    rw [steps_wait hw]
    dsimp only
    rw [List.append_nil]
    have hA : addsIn sr.2 = sr.2.length := by
      unfold addsIn
      rw [List.filter_eq_self.2 fun x hx => by rw [hm x hx]; rfl]
    rw [hA]
    refine ⟨.inl ⟨hk.1, hw, by have := hl.2; simp at this; omega⟩, fun _ x hx => by rw [hm x hx]; decide⟩
end Go.St

/-
  Controls that can be carried on, plainly: what Ask, Back and Drop leave.
-/
set_option linter.unusedSimpArgs false
set_option linter.unusedVariables false
namespace Go.St
open Go.RowKit

def PlanGood (p : Plan) : Prop := PlanSmall p ∧ ∀ s : Nat, (rulesAt p s).length ≤ 1000000000
theorem PlanGood.none : PlanGood noPlan := ⟨PlanSmall.none, fun s => by simp [noPlan, rulesAt, rulesFrom]⟩
theorem PlanOk.gd {t : Topo} {v : Int} {l : List Flow} {p : Plan} (h : PlanOk t v l p) : PlanGood p := ⟨h.small, fun s => Nat.le_trans (h.short s) (by decide)⟩
structure CtlGood (c : Ctl) : Prop where
  now : PlanGood c.now
  next : PlanGood c.next
  waits : c.waits.length ≤ 1000
theorem CtlGood.small {c : Ctl} (h : CtlGood c) : CtlSmall c := ⟨h.now.1, h.next.1, by have := h.waits; omega, h.now.2⟩
theorem noCtl_good : CtlGood noCtl := ⟨PlanGood.none, PlanGood.none, by decide⟩
theorem steps_keep {c : Ctl} {t : Topo} (h : c.stage ≠ 4) : (stepsOf c t).1.now = c.now ∧ (stepsOf c t).1.next = c.next := by
  unfold stepsOf
  split
  · exact ⟨rfl, rfl⟩
  split
  · split
    · exact ⟨rfl, rfl⟩
    · exact (send_keeps _ _).2
  split
  · exact ⟨rfl, rfl⟩
  exact ⟨rfl, rfl⟩
theorem back_keep {c : Ctl} {t : Topo} {n : Int} (h : c.stage ≠ 4) (h0 : (ctlBack c t n).2.2 = 0) : (ctlBack c t n).1.now = c.now ∧ (ctlBack c t n).1.next = c.next := by
  unfold ctlBack at *
  by_cases ht : (topoWrong t).1 = 0
  case neg => rw [if_pos ht] at h0; exact absurd h0 ht
  rw [if_neg (fun hh => hh ht)] at h0 ⊢
  cases hi : idxIn n c.waits with
  | none => rw [hi] at h0; exact absurd (show (6 : Int) = 0 from h0) (by decide)
  | some i => exact steps_keep (c := ⟨c.stage, c.now, c.next, c.num, c.waits.eraseIdx i⟩) h
theorem OrdInv.stage {A i : Nat} {c : Ctl} (h : OrdInv A i c) : c.stage ≠ 4 := by
  rcases h with ⟨h, _⟩ | ⟨h, _⟩ | ⟨h, _⟩ <;> rw [h] <;> decide
theorem OrdInv.len {A i : Nat} {c : Ctl} (h : OrdInv A i c) (hA : A ≤ 8) : c.waits.length ≤ 16 ∧ (c.waits ≠ [] → i ≤ 16) := by
  rcases h with ⟨_, h1, h2⟩ | ⟨_, h1, h2, h3⟩ | ⟨_, h⟩
  · omega
  · omega
  · rw [h]; exact ⟨by simp, fun hh => absurd rfl hh⟩
theorem OrdInv.done {A i : Nat} {c : Ctl} (h : OrdInv A i c) (h0 : c.waits = []) : c.stage = 3 := by
  rcases h with ⟨_, h1, _⟩ | ⟨_, h1, _⟩ | ⟨h, _⟩
  · exact absurd h0 h1
  · exact absurd h0 h1
  · exact h
/-- a change under way: from a plan to the next one -/
structure Under (p0 p : Plan) (A i : Nat) (c : Ctl) : Prop where
  ord : OrdInv A i c
  now : c.now = p0
  next : c.next = p
theorem Under.good {p0 p : Plan} {A i : Nat} {c : Ctl} (h : Under p0 p A i c) (hA : A ≤ 8) (h0 : PlanGood p0) (h1 : PlanGood p) : CtlGood c :=
  ⟨h.now ▸ h0, h.next ▸ h1, by have := (h.ord.len hA).1; omega⟩
theorem Under.back {p0 p : Plan} {t : Topo} {A i : Nat} {c : Ctl} {n : Int} (ht : (topoWrong t).1 = 0) (h8 : t.n ≤ 8) (h : Under p0 p A i c) (hn : n ∈ c.waits) :
    (ctlBack c t n).2.2 = 0 ∧ Under p0 p A (i + 1) (ctlBack c t n).1 ∧ ∀ x ∈ (ctlBack c t n).2.1, x.order.kind = 2 ∧ A ≤ i + 1 := by
  obtain ⟨h1, h2, h3⟩ := ord_back ht h8 h.ord hn
  obtain ⟨k1, k2⟩ := back_keep h.ord.stage h1
  exact ⟨h1, ⟨h2, k1.trans h.now, k2.trans h.next⟩, h3⟩
/-- what Ask leaves, of a control that waits for nothing -/
structure Asked (c : Ctl) (t : Topo) (l : List Flow) : Prop where
  topo : (topoWrong t).1 = 0
  n8 : t.n ≤ 8
  ok : PlanOk t (up c.now.ver) l (ctlAsk c t l).1.next
  full : fullTo c.now (ctlAsk c t l).1.next t.n.toNat = false
  under : Under c.now (ctlAsk c t l).1.next (addsIn (ctlAsk c t l).2.1) 0 (ctlAsk c t l).1
  adds : addsIn (ctlAsk c t l).2.1 ≤ 8
  kinds : 0 < addsIn (ctlAsk c t l).2.1 → ∀ x ∈ (ctlAsk c t l).2.1, x.order.kind ≠ 2
theorem ask_ok {c : Ctl} {t : Topo} {l : List Flow} (h : (ctlAsk c t l).2.2 = 0) (hw0 : c.waits = []) : Asked c t l := by
  have e0 : ctlAsk c t l = if c.stage ≠ 0 then (noCtl, [], 11) else if (planOf t (up c.now.ver) l).2.1 ≠ 0 then (noCtl, [], (planOf t (up c.now.ver) l).2.1) else if fullTo c.now (planOf t (up c.now.ver) l).1 t.n.toNat = true then (noCtl, [], 10) else
      ((stepsOf (send ⟨1, c.now, (planOf t (up c.now.ver) l).1, c.num, c.waits⟩ (addsOf (planOf t (up c.now.ver) l).1 t)).1 t).1,
       (send ⟨1, c.now, (planOf t (up c.now.ver) l).1, c.num, c.waits⟩ (addsOf (planOf t (up c.now.ver) l).1 t)).2 ++ (stepsOf (send ⟨1, c.now, (planOf t (up c.now.ver) l).1, c.num, c.waits⟩ (addsOf (planOf t (up c.now.ver) l).1 t)).1 t).2, 0) := by
    unfold ctlAsk; rfl
  by_cases h3 : c.stage = 0
  case neg => rw [e0, if_pos h3] at h; exact absurd (show (11 : Int) = 0 from h) (by decide)
  rw [if_neg (fun hh => hh h3)] at e0
  by_cases h1 : (planOf t (up c.now.ver) l).2.1 = 0
  case neg => rw [e0, if_pos h1] at h; exact absurd h h1
  rw [if_neg (fun hh => hh h1)] at e0
  by_cases h2 : fullTo c.now (planOf t (up c.now.ver) l).1 t.n.toNat = true
  · rw [e0, if_pos h2] at h; exact absurd (show (10 : Int) = 0 from h) (by decide)
  rw [if_neg h2] at e0
  have hp := plan_ok h1
  have h8 := hp.n8
  have h2' : fullTo c.now (planOf t (up c.now.ver) l).1 t.n.toNat = false := by simpa using h2
  have hal : (addsOf (planOf t (up c.now.ver) l).1 t).length ≤ 8 := by have := adds_len (planOf t (up c.now.ver) l).1 t; omega
  generalize (planOf t (up c.now.ver) l).1 = p at *
  generalize hR : ctlAsk c t l = R at *
  clear h
  by_cases ha : addsOf p t = []
  · rw [ha] at e0
    have es : send ⟨1, c.now, p, c.num, c.waits⟩ [] = (⟨1, c.now, p, c.num, c.waits⟩, []) := rfl
    rw [es] at e0
    have hk := steps_told (c := ⟨1, c.now, p, c.num, c.waits⟩) (t := t) h8 hw0 rfl
    have hq := steps_keep (c := ⟨1, c.now, p, c.num, c.waits⟩) (t := t) (by show (1 : Int) ≠ 4; decide)
    generalize stepsOf ⟨1, c.now, p, c.num, c.waits⟩ t = tr at *
    dsimp only at e0 hq
    rw [List.nil_append] at e0
    have hz : addsIn tr.2 = 0 := by
      unfold addsIn
      rw [List.length_eq_zero_iff, List.filter_eq_nil_iff]
      intro x hx
      rw [hk.2 x hx]; decide
    have f1 : R.1.next = p := by rw [e0]; exact hq.2
    have f2 : R.1.now = c.now := by rw [e0]; exact hq.1
    have f3 : addsIn R.2.1 = 0 := by rw [e0]; exact hz
    refine ⟨hp.topo, h8, ?_, ?_, ⟨?_, ?_, ?_⟩, ?_, ?_⟩
    · rw [hR, f1]; exact hp
    · rw [hR, f1]; exact h2'
    · rw [hR, f3, e0]
      rcases hk.1 with ⟨k1, k2, k3⟩ | ⟨k1, k2⟩
      · exact .inr (.inl ⟨k1, k2, Nat.le_refl _, by dsimp only; omega⟩)
      · exact .inr (.inr ⟨k1, k2⟩)
    · rw [hR]; exact f2
    · rw [hR]
    · rw [hR, f3]; omega
    · rw [hR, f3]; exact fun h => absurd h (by omega)
  · have hl := send_len ⟨1, c.now, p, c.num, c.waits⟩ (addsOf p t)
    have hk := send_keeps ⟨1, c.now, p, c.num, c.waits⟩ (addsOf p t)
    have hm : ∀ x ∈ (send ⟨1, c.now, p, c.num, c.waits⟩ (addsOf p t)).2, x.order.kind = 1 := fun x hx => by
      obtain ⟨y, hy, _, h2, _⟩ := send_mem _ _ hx
      rw [h2]; exact adds_kind hy
    have hne : 0 < (addsOf p t).length := List.length_pos_iff.2 ha
    generalize send ⟨1, c.now, p, c.num, c.waits⟩ (addsOf p t) = sr at *
    have hw : sr.1.waits ≠ [] := fun e => by rw [e] at hl; simp at hl; omega
    rw [steps_wait hw] at e0
    dsimp only at e0
    rw [List.append_nil] at e0
    have hA : addsIn sr.2 = sr.2.length := by
      unfold addsIn
      rw [List.filter_eq_self.2 fun x hx => by rw [hm x hx]; rfl]
    have f1 : R.1.next = p := by rw [e0]; exact hk.2.2
    have f2 : R.1.now = c.now := by rw [e0]; exact hk.2.1
    have f3 : addsIn R.2.1 = sr.2.length := by rw [e0]; exact hA
    refine ⟨hp.topo, h8, ?_, ?_, ⟨?_, ?_, ?_⟩, ?_, ?_⟩
    · rw [hR, f1]; exact hp
    · rw [hR, f1]; exact h2'
    · rw [hR, f3, e0]
      exact .inl ⟨hk.1, hw, by have := hl.2; rw [hw0] at this; simp at this; dsimp only; omega⟩
    · rw [hR]; exact f2
    · rw [hR]
    · rw [hR, f3]; omega
    · rw [hR, e0]; exact fun _ x hx => by rw [hm x hx]; decide
theorem Asked.good {c : Ctl} {t : Topo} {l : List Flow} (h : Asked c t l) (hc : PlanGood c.now) : CtlGood (ctlAsk c t l).1 :=
  h.under.good h.adds hc h.ok.gd
end Go.St

/-
  What is told while a change goes on, plainly: the orders' numbers, and that they can be written; how a change comes to its end.
-/
set_option linter.unusedSimpArgs false
set_option linter.unusedVariables false
namespace Go.St
open Go.RowKit

/-- the numbers come in order behind a -/
def NumRun (a : Int) (l : List To) : Prop := ∀ (i : Nat) (x : To), l[i]? = some x → x.order.num = a + i + 1
theorem NumRun.nil (a : Int) : NumRun a [] := fun i x h => by simp at h
theorem NumRun.append {a b : Int} {l m : List To} (h : NumRun a l) (hb : b = a + l.length) (k : NumRun b m) : NumRun a (l ++ m) := fun i x hx => by
  by_cases hi : i < l.length
  · rw [List.getElem?_append_left hi] at hx; exact h i x hx
  · rw [List.getElem?_append_right (by omega)] at hx
    have := k _ x hx
    omega
theorem NumRun.mem {a : Int} {l : List To} (h : NumRun a l) {x : To} (hx : x ∈ l) : a < x.order.num ∧ x.order.num ≤ a + l.length := by
  obtain ⟨i, hi⟩ := List.getElem?_of_mem hx
  have h1 := h i x hi
  have h2 := (List.getElem?_eq_some_iff.1 hi).1
  omega
theorem up_small {n : Int} (h : 0 ≤ n) (h2 : n ≤ 1000000000) : up n = n + 1 := IntWalk.i64_in _ (by omega)
theorem send_run (l : List To) : ∀ (c : Ctl), 0 ≤ c.num → c.num + l.length ≤ 1000000 → NumRun c.num (send c l).2 ∧ (send c l).1.num = c.num + l.length := by
  induction l with
  | nil => intro c _ _; simp only [send, tells_nil]; exact ⟨NumRun.nil _, by simp⟩
  | cons x l ih =>
    intro c h0 h1
    unfold send
    rw [tells_cons, tell, tells_acc]
    have hu := up_small h0 (by simp at h1; omega)
    simp only [List.length_cons] at h1
    obtain ⟨h2, h3⟩ := ih ⟨c.stage, c.now, c.next, up c.num, c.waits ++ [up c.num]⟩ (by show 0 ≤ up c.num; omega) (by show up c.num + _ ≤ _; omega)
    dsimp only at h2 h3 ⊢
    refine ⟨NumRun.append (b := up c.num) (fun i y hy => ?_) (by rw [hu]; rfl) h2, by rw [h3, hu, List.length_cons]; omega⟩
    match i, hy with
    | 0, hy =>
      obtain rfl : _ = y := by simpa using hy
      show up c.num = _
      rw [hu]; omega
    | i + 1, hy => simp at hy

/-- an order that can be written, but for its number -/
def BodyOk (o : Order) : Prop := 1 ≤ o.ver ∧ o.ver ≤ 1000 ∧ ((o.kind = 1 ∧ o.rules.length ≤ 16 ∧ o.rules.all (ruleOk o.ver) = true) ∨ (o.kind = 2 ∧ o.flows.length ≤ 12 ∧ flowsOk (-1) o.flows = true) ∨ o.kind = 3)
def ToOk (t : Topo) (x : To) : Prop := 0 ≤ x.sw ∧ x.sw < t.n ∧ BodyOk x.order
theorem BodyOk.right {o : Order} (h : BodyOk o) (h1 : 1 ≤ o.num) (h2 : o.num ≤ 100000) : wireWrong o = 0 := by
  obtain ⟨k1, k2, k⟩ := h
  unfold wireWrong
  rw [if_neg (by omega)]
  rcases k with ⟨k, k3, k4⟩ | ⟨k, k3, k4⟩ | k
  · rw [if_pos k, if_neg (by omega), if_pos k4]
  · rw [if_neg (by omega), if_pos k, if_neg (by omega), if_pos k4]
  · rw [if_neg (by omega), if_neg (by omega), if_pos k]
theorem send_toOk {c : Ctl} {t : Topo} {l : List To} (h : ∀ x ∈ l, ToOk t x) : ∀ x ∈ (send c l).2, ToOk t x := fun x hx => by
  obtain ⟨y, hy, h1, h2, h3, h4, h5⟩ := send_mem _ _ hx
  obtain ⟨k1, k2, k3⟩ := h y hy
  unfold ToOk BodyOk at *
  rw [h1, h2, h3, h4, h5]
  exact ⟨k1, k2, k3⟩
theorem idxs_ok {s : Int} : ∀ {l : List Flow} {i last : Int}, last < i → 0 ≤ i → i + l.length ≤ 12 → flowsOk last (idxFrom s i l) = true ∧ (idxFrom s i l).length ≤ l.length
  | [], i, last, _, _, _ => by simp [idxFrom, flowsOk]
  | f :: r, i, last, h1, h2, h3 => by
    simp only [List.length_cons] at h3
    by_cases hf : f.src = s
    · obtain ⟨k1, k2⟩ := idxs_ok (s := s) (l := r) (i := i + 1) (last := i) (by omega) (by omega) (by omega)
      rw [idxFrom, if_pos hf]
      simp only [List.singleton_append, flowsOk, k1, Bool.and_true, Bool.and_eq_true, decide_eq_true_eq, List.length_cons]
      omega
    · obtain ⟨k1, k2⟩ := idxs_ok (s := s) (l := r) (i := i + 1) (last := last) (by omega) (by omega) (by omega)
      rw [idxFrom, if_neg hf, List.nil_append]
      exact ⟨k1, by simp only [List.length_cons]; omega⟩
section
variable {t : Topo} {v : Int} {l : List Flow}
theorem over_sw {f : Int → List To} {n : Int} {x : To} (h : x ∈ over f n.toNat) (hf : ∀ s y, y ∈ f s → y.sw = s) : 0 ≤ x.sw ∧ x.sw < n := by
  obtain ⟨s, hs, hx⟩ := over_mem h
  have := hf _ _ hx
  omega
theorem stamps_toOk {c : Ctl} (h : PlanOk t v l c.next) : ∀ x ∈ stampsOf c t, ToOk t x := fun x hx => by
  have hs := over_sw hx (fun s y hy => by
    unfold stampAt at hy
    split at hy
    · simp at hy
    · obtain rfl : y = _ := by simpa using hy
      rfl)
  obtain ⟨s, _, hx⟩ := over_mem hx
  unfold stampAt at hx
  split at hx
  · simp at hx
  · obtain rfl : x = _ := by simpa using hx
    have hl := h.len
    have hf := h.flows
    have hv := h.ver
    obtain ⟨k1, k2⟩ := idxs_ok (s := (s : Int)) (l := c.next.flows) (i := 0) (last := -1) (by omega) (by omega) (by rw [hf]; omega)
    exact ⟨hs.1, hs.2, by show 1 ≤ c.next.ver; rw [hv]; exact h.v1, by show c.next.ver ≤ 1000; rw [hv]; exact h.v2, .inr (.inl ⟨rfl, by show (idxFrom _ _ _).length ≤ 12; rw [hf] at k2 ⊢; omega, k1⟩)⟩
theorem adds_toOk {now p : Plan} (h : PlanOk t v l p) (hfu : fullTo now p t.n.toNat = false) : ∀ x ∈ addsOf p t, ToOk t x := fun x hx => by
  have hs := over_sw hx (fun s y hy => by
    unfold addAt at hy
    split at hy
    · simp at hy
    · obtain rfl : y = _ := by simpa using hy
      rfl)
  obtain ⟨s, hsn, hx⟩ := over_mem hx
  unfold addAt at hx
  split at hx
  · simp at hx
  · obtain rfl : x = _ := by simpa using hx
    have hv := h.ver
    have h16 : ¬ 16 < (rulesAt now s).length + (rulesAt p s).length := fun hc => by
      have : fullTo now p t.n.toNat = true := by
        unfold fullTo
        rw [List.any_eq_true]
        exact ⟨s, List.mem_range.2 hsn, by unfold fullAt; rw [decide_eq_true_eq]; exact hc⟩
      rw [this] at hfu; exact absurd hfu (by decide)
    refine ⟨hs.1, hs.2, by show 1 ≤ p.ver; rw [hv]; exact h.v1, by show p.ver ≤ 1000; rw [hv]; exact h.v2, .inl ⟨rfl, by show (rulesAt p s).length ≤ 16; omega, ?_⟩⟩
    show (rulesAt p s).all (ruleOk p.ver) = true
    rw [List.all_eq_true]
    intro r hr
    have ho := h.out hr
    have hrv := (mem_rulesAt.1 hr).1
    unfold ruleOut at ho
    unfold ruleOk
    rw [hrv]
    simp only [beq_self_eq_true, Bool.true_and, Bool.and_eq_true, decide_eq_true_eq]
    omega
/-- a plan that holds: none, or one that was made -/
def Held (t : Topo) (p : Plan) : Prop := p = noPlan ∨ ∃ v l, PlanOk t v l p
theorem gones_toOk {p : Plan} (h : Held t p) : ∀ x ∈ gonesOf p t, ToOk t x := fun x hx => by
  have hs := over_sw hx (fun s y hy => by
    unfold goneAt at hy
    split at hy
    · simp at hy
    · obtain rfl : y = _ := by simpa using hy
      rfl)
  obtain ⟨s, _, hx⟩ := over_mem hx
  unfold goneAt at hx
  split at hx
  · simp at hx
  rename_i hne
  obtain rfl : x = _ := by simpa using hx
  rcases h with rfl | ⟨v, l, h⟩
  · exact absurd (by simp [noPlan, rulesAt, rulesFrom]) hne
  · have hv := h.ver
    exact ⟨hs.1, hs.2, by show 1 ≤ p.ver; rw [hv]; exact h.v1, by show p.ver ≤ 1000; rw [hv]; exact h.v2, .inr (.inr rfl)⟩
theorem Held.good {p : Plan} (h : Held t p) : PlanGood p := by
  rcases h with rfl | ⟨v, l, h⟩
  · exact PlanGood.none
  · exact h.gd
end

/-- orders told behind a number, all of which can be written -/
structure Told (t : Topo) (a : Int) (b : Int) (m : List To) : Prop where
  run : NumRun a m
  num : b = a + m.length
  ok : ∀ x ∈ m, ToOk t x
theorem Told.nil (t : Topo) (a : Int) : Told t a a [] := ⟨NumRun.nil _, by simp, by simp⟩
theorem Told.append {t : Topo} {a b c : Int} {l m : List To} (h : Told t a b l) (k : Told t b c m) : Told t a c (l ++ m) :=
  ⟨h.run.append h.num k.run, by rw [k.num, h.num, List.length_append]; omega, fun x hx => (List.mem_append.1 hx).elim (h.ok x) (k.ok x)⟩
theorem send_told {t : Topo} {c : Ctl} {l : List To} (h0 : 0 ≤ c.num) (h1 : c.num + l.length ≤ 1000000) (h : ∀ x ∈ l, ToOk t x) : Told t c.num (send c l).1.num (send c l).2 :=
  ⟨(send_run l c h0 h1).1, by rw [(send_run l c h0 h1).2, (send_len c l).1], send_toOk h⟩
/-- what comes of the steps, where rules are told -/
theorem steps_numbers {c : Ctl} {t : Topo} {v : Int} {l : List Flow} (h : PlanOk t v l c.next) (h0 : 0 ≤ c.num) (h1 : c.num ≤ 100000) : Told t c.num (stepsOf c t).1.num (stepsOf c t).2 ∧ (stepsOf c t).2.length ≤ 8 ∧ ((stepsOf c t).2 ≠ [] → c.stage = 1) ∧ ((stepsOf c t).1.stage = 1 → (stepsOf c t).2 = []) := by
  have h8 := h.n8
  have hl := stamps_len c t
  unfold stepsOf
  by_cases hw : c.waits = []
  case neg => rw [if_pos hw]; exact ⟨Told.nil _ _, by simp, fun h => absurd rfl h, fun _ => rfl⟩
  rw [if_neg (fun hh => hh hw)]
  by_cases hs : c.stage = 1
  · rw [if_pos hs]
    have hs2 : stampsOf ⟨2, c.now, c.next, c.num, c.waits⟩ t = stampsOf c t := rfl
    have hT := send_told (t := t) (c := ⟨2, c.now, c.next, c.num, c.waits⟩) (l := stampsOf c t) h0 (by show c.num + _ ≤ _; omega) (stamps_toOk h)
    have hn := send_len ⟨2, c.now, c.next, c.num, c.waits⟩ (stampsOf c t)
    have hk := send_keeps ⟨2, c.now, c.next, c.num, c.waits⟩ (stampsOf c t)
    by_cases hz : (send ⟨2, c.now, c.next, c.num, c.waits⟩ (stampsOf c t)).1.waits = []
    · rw [if_pos hz]; exact ⟨Told.nil _ _, by simp, fun h => absurd rfl h, fun _ => rfl⟩
    · rw [if_neg hz]
      exact ⟨hT, by rw [hn.1]; omega, fun _ => hs, fun he => by rw [hk.1] at he; exact absurd (show (2 : Int) = 1 from he) (by decide)⟩
  rw [if_neg hs]
  split
  · exact ⟨Told.nil _ _, by simp, fun h => absurd rfl h, fun _ => rfl⟩
  split
  · exact ⟨Told.nil _ _, by simp, fun h => absurd rfl h, fun _ => rfl⟩
  · exact ⟨Told.nil _ _, by simp, fun h => absurd rfl h, fun _ => rfl⟩

theorem steps_first {c : Ctl} {t : Topo} (h : (stepsOf c t).1.stage = 1) : c.stage = 1 := by
  unfold stepsOf at h
  by_cases h1 : c.stage = 1
  · exact h1
  exfalso
  by_cases hw : c.waits = []
  case neg => rw [if_pos hw] at h; exact h1 h
  rw [if_neg (fun hh => hh hw), if_neg h1] at h
  by_cases h2 : c.stage = 2
  · rw [if_pos h2] at h; exact absurd (show (3 : Int) = 1 from h) (by decide)
  rw [if_neg h2] at h
  by_cases h4 : c.stage = 4
  · rw [if_pos h4] at h; exact absurd (show (0 : Int) = 1 from h) (by decide)
  rw [if_neg h4] at h
  exact h1 h
/-- a change under way, with all that was told since it was asked for -/
structure Going (t : Topo) (p0 p : Plan) (A : Nat) (a : Int) (i : Nat) (c : Ctl) (o : List (List To)) : Prop where
  under : Under p0 p A i c
  len : o.length = i
  told : Told t a c.num o.flatten
  few : o.flatten.length ≤ 8
  one : c.stage = 1 → o.flatten = []
theorem Going.back {t : Topo} {p0 p : Plan} {A : Nat} {a : Int} {i : Nat} {c : Ctl} {o : List (List To)} {n v : Int} {l : List Flow} (hp : PlanOk t v l p) (ha : 0 ≤ a) (ha2 : a ≤ 1000) (h : Going t p0 p A a i c o) (hn : n ∈ c.waits) :
    (ctlBack c t n).2.2 = 0 ∧ Going t p0 p A a (i + 1) (ctlBack c t n).1 (o ++ [(ctlBack c t n).2.1]) := by
  obtain ⟨h1, h2, h3⟩ := h.under.back hp.topo hp.n8 hn
  obtain ⟨ws, _, _, e⟩ := back_in hp.topo hn
  have hT := h.told
  have hf := h.few
  have hnum := hT.num
  obtain ⟨k1, k2, k3, k4⟩ := steps_numbers (c := ⟨c.stage, c.now, c.next, c.num, ws⟩) (t := t) (by show PlanOk t v l c.next; rw [h.under.next]; exact hp) (by show 0 ≤ c.num; omega) (by show c.num ≤ 100000; omega)
  have h2' := h2
  rw [e] at h2' ⊢
  refine ⟨rfl, h2', by simp [h.len], ?_, ?_, ?_⟩
  · simp only [List.flatten_append, List.flatten_cons, List.flatten_nil, List.append_nil]
    exact hT.append k1
  · simp only [List.flatten_append, List.flatten_cons, List.flatten_nil, List.append_nil, List.length_append]
    by_cases hz : (stepsOf ⟨c.stage, c.now, c.next, c.num, ws⟩ t).2 = []
    · rw [hz]; simpa using hf
    · rw [h.one (k3 hz)]; simpa using k2
  · intro hs
    simp only [List.flatten_append, List.flatten_cons, List.flatten_nil, List.append_nil]
    have hz := k4 hs
    rw [hz, List.append_nil]
    by_cases hc : c.stage = 1
    · exact h.one hc
    · exfalso
      exact hc (steps_first (c := ⟨c.stage, c.now, c.next, c.num, ws⟩) (t := t) hs)

/-- a drop under way -/
structure Falling (p0 p : Plan) (a : Int) (i : Nat) (c : Ctl) (o : List (List To)) : Prop where
  st : (c.stage = 4 ∧ c.waits ≠ [] ∧ c.waits.length + i ≤ 8 ∧ c.now = p0 ∧ c.next = p) ∨ (c.stage = 0 ∧ c.waits = [] ∧ c.now = p ∧ c.next = noPlan)
  len : o.length = i
  num : c.num = a
  still : o.flatten = []
theorem steps_gone {c : Ctl} {t : Topo} (h : c.stage = 4) (hw : c.waits = []) : stepsOf c t = (⟨0, c.next, noPlan, c.num, c.waits⟩, []) := by
  unfold stepsOf
  rw [if_neg (fun hh => hh hw), if_neg (by omega), if_neg (by omega), if_pos h]
theorem Falling.back {t : Topo} {p0 p : Plan} {a : Int} {i : Nat} {c : Ctl} {o : List (List To)} {n : Int} (ht : (topoWrong t).1 = 0) (h : Falling p0 p a i c o) (hn : n ∈ c.waits) :
    (ctlBack c t n).2.2 = 0 ∧ Falling p0 p a (i + 1) (ctlBack c t n).1 (o ++ [(ctlBack c t n).2.1]) := by
  obtain ⟨ws, hl, hm, e⟩ := back_in ht hn
  rw [e]
  refine ⟨rfl, ?_⟩
  rcases h.st with ⟨h1, h2, h3, h4, h5⟩ | ⟨h1, h2, _⟩
  case inr => rw [h2] at hn; simp at hn
  by_cases hw : ws = []
  · rw [steps_gone (c := ⟨c.stage, c.now, c.next, c.num, ws⟩) h1 hw]
    exact ⟨.inr ⟨rfl, hw, h5, rfl⟩, by simp [h.len], h.num, by simp [h.still]⟩
  · rw [steps_wait (c := ⟨c.stage, c.now, c.next, c.num, ws⟩) hw]
    exact ⟨.inl ⟨h1, hw, by dsimp only; omega, h4, h5⟩, by simp [h.len], h.num, by simp [h.still]⟩
theorem Falling.good {p0 p : Plan} {a : Int} {i : Nat} {c : Ctl} {o : List (List To)} (h : Falling p0 p a i c o) (h0 : PlanGood p0) (h1 : PlanGood p) : CtlGood c ∧ (c.waits ≠ [] → i ≤ 16) := by
  rcases h.st with ⟨_, _, k, k1, k2⟩ | ⟨_, k, k1, k2⟩
  · exact ⟨⟨k1 ▸ h0, k2 ▸ h1, by omega⟩, fun _ => by omega⟩
  · exact ⟨⟨k1 ▸ h1, k2 ▸ PlanGood.none, by rw [k]; simp⟩, fun hh => absurd k hh⟩
theorem Falling.done {p0 p : Plan} {a : Int} {i : Nat} {c : Ctl} {o : List (List To)} (h : Falling p0 p a i c o) (hw : c.waits = []) : c.stage = 0 ∧ c.now = p ∧ c.next = noPlan := by
  rcases h.st with ⟨_, k, _⟩ | ⟨k, _, k1, k2⟩
  · exact absurd hw k
  · exact ⟨k, k1, k2⟩

/-- Drop of a calm control -/
theorem drop_ok {c : Ctl} {t : Topo} (ht : (topoWrong t).1 = 0) (h8 : t.n ≤ 8) (hs : c.stage = 3) (hw : c.waits = []) (hh : Held t c.now) (h0 : 0 ≤ c.num) (h1 : c.num ≤ 1000) :
    (ctlDrop c t).2.2 = 0 ∧ Falling c.now c.next (ctlDrop c t).1.num 0 (ctlDrop c t).1 [] ∧ Told t c.num (ctlDrop c t).1.num (ctlDrop c t).2.1 ∧ (ctlDrop c t).2.1.length ≤ 8 := by
  have hgl : (gonesOf c.now t).length ≤ 8 := by have : (gonesOf c.now t).length ≤ t.n.toNat := over_len (goneAt_len _) _; omega
  have hT := send_told (t := t) (c := ⟨4, c.now, c.next, c.num, c.waits⟩) (l := gonesOf c.now t) h0 (by show c.num + _ ≤ _; omega) (gones_toOk hh)
  have hl := send_len ⟨4, c.now, c.next, c.num, c.waits⟩ (gonesOf c.now t)
  have hk := send_keeps ⟨4, c.now, c.next, c.num, c.waits⟩ (gonesOf c.now t)
  have e : ctlDrop c t = ((stepsOf (send ⟨4, c.now, c.next, c.num, c.waits⟩ (gonesOf c.now t)).1 t).1,
     (send ⟨4, c.now, c.next, c.num, c.waits⟩ (gonesOf c.now t)).2 ++ (stepsOf (send ⟨4, c.now, c.next, c.num, c.waits⟩ (gonesOf c.now t)).1 t).2, 0) := by
    unfold ctlDrop
    rw [if_neg (fun h => h ht), if_neg (fun h => h hs)]
  rw [e]
  generalize send ⟨4, c.now, c.next, c.num, c.waits⟩ (gonesOf c.now t) = sr at *
  dsimp only at hT hl hk
  by_cases hz : sr.1.waits = []
  · rw [steps_gone hk.1 hz]
    exact ⟨rfl, ⟨.inr ⟨rfl, hz, hk.2.2, rfl⟩, rfl, rfl, rfl⟩, by rw [List.append_nil]; exact hT, by rw [List.append_nil, hl.1]; exact hgl⟩
  · rw [steps_wait hz]
    exact ⟨rfl, ⟨.inl ⟨hk.1, hz, by have := hl.2; rw [hw] at this; simp at this; dsimp only; omega, hk.2.1, hk.2.2⟩, rfl, rfl, rfl⟩, by rw [List.append_nil]; exact hT, by rw [List.append_nil, hl.1]; exact hgl⟩
/-- Ask tells orders that can be written -/
theorem ask_told {c : Ctl} {t : Topo} {l : List Flow} (h : (ctlAsk c t l).2.2 = 0) (hw : c.waits = []) (h0 : 0 ≤ c.num) (h1 : c.num ≤ 1000) :
    Told t c.num (ctlAsk c t l).1.num (ctlAsk c t l).2.1 ∧ (ctlAsk c t l).2.1.length ≤ 16 := by
  have hA := ask_ok h hw
  have e0 : ctlAsk c t l = if c.stage ≠ 0 then (noCtl, [], 11) else if (planOf t (up c.now.ver) l).2.1 ≠ 0 then (noCtl, [], (planOf t (up c.now.ver) l).2.1) else if fullTo c.now (planOf t (up c.now.ver) l).1 t.n.toNat = true then (noCtl, [], 10) else
      ((stepsOf (send ⟨1, c.now, (planOf t (up c.now.ver) l).1, c.num, c.waits⟩ (addsOf (planOf t (up c.now.ver) l).1 t)).1 t).1,
       (send ⟨1, c.now, (planOf t (up c.now.ver) l).1, c.num, c.waits⟩ (addsOf (planOf t (up c.now.ver) l).1 t)).2 ++ (stepsOf (send ⟨1, c.now, (planOf t (up c.now.ver) l).1, c.num, c.waits⟩ (addsOf (planOf t (up c.now.ver) l).1 t)).1 t).2, 0) := by
    unfold ctlAsk; rfl
  by_cases h3 : c.stage = 0
  case neg => rw [e0, if_pos h3] at h; exact absurd (show (11 : Int) = 0 from h) (by decide)
  rw [if_neg (fun hh => hh h3)] at e0
  by_cases h4 : (planOf t (up c.now.ver) l).2.1 = 0
  case neg => rw [e0, if_pos h4] at h; exact absurd h h4
  rw [if_neg (fun hh => hh h4)] at e0
  by_cases h5 : fullTo c.now (planOf t (up c.now.ver) l).1 t.n.toNat = true
  · rw [e0, if_pos h5] at h; exact absurd (show (10 : Int) = 0 from h) (by decide)
  rw [if_neg h5] at e0
  have hp := plan_ok h4
  have h8 := hp.n8
  have h5' : fullTo c.now (planOf t (up c.now.ver) l).1 t.n.toNat = false := by simpa using h5
  generalize (planOf t (up c.now.ver) l).1 = p at *
  have hal : (addsOf p t).length ≤ 8 := by have := adds_len p t; omega
  have hT := send_told (t := t) (c := ⟨1, c.now, p, c.num, c.waits⟩) (l := addsOf p t) h0 (by show c.num + _ ≤ _; omega) (adds_toOk hp h5')
  have hl := send_len ⟨1, c.now, p, c.num, c.waits⟩ (addsOf p t)
  have hk := send_keeps ⟨1, c.now, p, c.num, c.waits⟩ (addsOf p t)
  rw [e0]
  generalize send ⟨1, c.now, p, c.num, c.waits⟩ (addsOf p t) = sr at *
  dsimp only at hT hl hk
  have hnum := hT.num
  obtain ⟨k1, k2, _⟩ := steps_numbers (c := sr.1) (t := t) (by rw [hk.2.2]; exact hp) (by omega) (by have := hl.1; omega)
  refine ⟨hT.append k1, ?_⟩
  dsimp only
  rw [List.length_append, hl.1]
  omega
end Go.St
