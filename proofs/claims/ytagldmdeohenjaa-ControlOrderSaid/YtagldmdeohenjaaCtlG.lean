/-
  Controls that can be carried on, plainly: what Ask, Back and Drop leave.
-/
import Derived.Test.YtagldmdeohenjaaCtlL
import Derived.Test.YtagldmdeohenjaaAskC
set_option linter.unusedSimpArgs false
set_option linter.unusedVariables false
namespace Go.St
open Go.RowKit

def PlanGood (p : Plan) : Prop := PlanSmall p ∧ ∀ s : Nat, (rulesAt p s).length ≤ 1000000000
theorem PlanGood.none : PlanGood noPlan := ⟨PlanSmall.none, fun s => by simp [noPlan, rulesAt, rulesFrom]⟩
theorem PlanOk.gd {t : Topo} {v : Int} {l : List Flow} {p : Plan} (h : PlanOk t v l p) : PlanGood p := ⟨h.small, fun s => Nat.le_trans (h.short s) (by decide)⟩
structure CtlGood (c : Ctl) : Prop where
  now : PlanGood c.now
  next : PlanGood c.next
  waits : c.waits.length ≤ 1000
theorem CtlGood.small {c : Ctl} (h : CtlGood c) : CtlSmall c := ⟨h.now.1, h.next.1, by have := h.waits; omega, h.now.2⟩
theorem noCtl_good : CtlGood noCtl := ⟨PlanGood.none, PlanGood.none, by decide⟩
theorem steps_keep {c : Ctl} {t : Topo} (h : c.stage ≠ 4) : (stepsOf c t).1.now = c.now ∧ (stepsOf c t).1.next = c.next := by
  unfold stepsOf
  split
  · exact ⟨rfl, rfl⟩
  split
  · split
    · exact ⟨rfl, rfl⟩
    · exact (send_keeps _ _).2
  split
  · exact ⟨rfl, rfl⟩
  exact ⟨rfl, rfl⟩
theorem back_keep {c : Ctl} {t : Topo} {n : Int} (h : c.stage ≠ 4) (h0 : (ctlBack c t n).2.2 = 0) : (ctlBack c t n).1.now = c.now ∧ (ctlBack c t n).1.next = c.next := by
  unfold ctlBack at *
  by_cases ht : (topoWrong t).1 = 0
  case neg => rw [if_pos ht] at h0; exact absurd h0 ht
  rw [if_neg (fun hh => hh ht)] at h0 ⊢
  cases hi : idxIn n c.waits with
  | none => rw [hi] at h0; exact absurd (show (6 : Int) = 0 from h0) (by decide)
  | some i => exact steps_keep (c := ⟨c.stage, c.now, c.next, c.num, c.waits.eraseIdx i⟩) h
theorem OrdInv.stage {A i : Nat} {c : Ctl} (h : OrdInv A i c) : c.stage ≠ 4 := by
  rcases h with ⟨h, _⟩ | ⟨h, _⟩ | ⟨h, _⟩ <;> rw [h] <;> decide
theorem OrdInv.len {A i : Nat} {c : Ctl} (h : OrdInv A i c) (hA : A ≤ 8) : c.waits.length ≤ 16 ∧ (c.waits ≠ [] → i ≤ 16) := by
  rcases h with ⟨_, h1, h2⟩ | ⟨_, h1, h2, h3⟩ | ⟨_, h⟩
  · omega
  · omega
  · rw [h]; exact ⟨by simp, fun hh => absurd rfl hh⟩
theorem OrdInv.done {A i : Nat} {c : Ctl} (h : OrdInv A i c) (h0 : c.waits = []) : c.stage = 3 := by
  rcases h with ⟨_, h1, _⟩ | ⟨_, h1, _⟩ | ⟨h, _⟩
  · exact absurd h0 h1
  · exact absurd h0 h1
  · exact h
/-- a change under way: from a plan to the next one -/
structure Under (p0 p : Plan) (A i : Nat) (c : Ctl) : Prop where
  ord : OrdInv A i c
  now : c.now = p0
  next : c.next = p
theorem Under.good {p0 p : Plan} {A i : Nat} {c : Ctl} (h : Under p0 p A i c) (hA : A ≤ 8) (h0 : PlanGood p0) (h1 : PlanGood p) : CtlGood c :=
  ⟨h.now ▸ h0, h.next ▸ h1, by have := (h.ord.len hA).1; omega⟩
theorem Under.back {p0 p : Plan} {t : Topo} {A i : Nat} {c : Ctl} {n : Int} (ht : (topoWrong t).1 = 0) (h8 : t.n ≤ 8) (h : Under p0 p A i c) (hn : n ∈ c.waits) :
    (ctlBack c t n).2.2 = 0 ∧ Under p0 p A (i + 1) (ctlBack c t n).1 ∧ ∀ x ∈ (ctlBack c t n).2.1, x.order.kind = 2 ∧ A ≤ i + 1 := by
  obtain ⟨h1, h2, h3⟩ := ord_back ht h8 h.ord hn
  obtain ⟨k1, k2⟩ := back_keep h.ord.stage h1
  exact ⟨h1, ⟨h2, k1.trans h.now, k2.trans h.next⟩, h3⟩
/-- what Ask leaves, of a control that waits for nothing -/
structure Asked (c : Ctl) (t : Topo) (l : List Flow) : Prop where
  topo : (topoWrong t).1 = 0
  n8 : t.n ≤ 8
  ok : PlanOk t (up c.now.ver) l (ctlAsk c t l).1.next
  full : fullTo c.now (ctlAsk c t l).1.next t.n.toNat = false
  under : Under c.now (ctlAsk c t l).1.next (addsIn (ctlAsk c t l).2.1) 0 (ctlAsk c t l).1
  adds : addsIn (ctlAsk c t l).2.1 ≤ 8
  kinds : 0 < addsIn (ctlAsk c t l).2.1 → ∀ x ∈ (ctlAsk c t l).2.1, x.order.kind ≠ 2
theorem ask_ok {c : Ctl} {t : Topo} {l : List Flow} (h : (ctlAsk c t l).2.2 = 0) (hw0 : c.waits = []) : Asked c t l := by
  have e0 : ctlAsk c t l = if c.stage ≠ 0 then (noCtl, [], 11) else if (planOf t (up c.now.ver) l).2.1 ≠ 0 then (noCtl, [], (planOf t (up c.now.ver) l).2.1) else if fullTo c.now (planOf t (up c.now.ver) l).1 t.n.toNat = true then (noCtl, [], 10) else
      ((stepsOf (send ⟨1, c.now, (planOf t (up c.now.ver) l).1, c.num, c.waits⟩ (addsOf (planOf t (up c.now.ver) l).1 t)).1 t).1,
       (send ⟨1, c.now, (planOf t (up c.now.ver) l).1, c.num, c.waits⟩ (addsOf (planOf t (up c.now.ver) l).1 t)).2 ++ (stepsOf (send ⟨1, c.now, (planOf t (up c.now.ver) l).1, c.num, c.waits⟩ (addsOf (planOf t (up c.now.ver) l).1 t)).1 t).2, 0) := by
    unfold ctlAsk; rfl
  by_cases h3 : c.stage = 0
  case neg => rw [e0, if_pos h3] at h; exact absurd (show (11 : Int) = 0 from h) (by decide)
  rw [if_neg (fun hh => hh h3)] at e0
  by_cases h1 : (planOf t (up c.now.ver) l).2.1 = 0
  case neg => rw [e0, if_pos h1] at h; exact absurd h h1
  rw [if_neg (fun hh => hh h1)] at e0
  by_cases h2 : fullTo c.now (planOf t (up c.now.ver) l).1 t.n.toNat = true
  · rw [e0, if_pos h2] at h; exact absurd (show (10 : Int) = 0 from h) (by decide)
  rw [if_neg h2] at e0
  have hp := plan_ok h1
  have h8 := hp.n8
  have h2' : fullTo c.now (planOf t (up c.now.ver) l).1 t.n.toNat = false := by simpa using h2
  have hal : (addsOf (planOf t (up c.now.ver) l).1 t).length ≤ 8 := by have := adds_len (planOf t (up c.now.ver) l).1 t; omega
  generalize (planOf t (up c.now.ver) l).1 = p at *
  generalize hR : ctlAsk c t l = R at *
  clear h
  by_cases ha : addsOf p t = []
  · rw [ha] at e0
    have es : send ⟨1, c.now, p, c.num, c.waits⟩ [] = (⟨1, c.now, p, c.num, c.waits⟩, []) := rfl
    rw [es] at e0
    have hk := steps_told (c := ⟨1, c.now, p, c.num, c.waits⟩) (t := t) h8 hw0 rfl
    have hq := steps_keep (c := ⟨1, c.now, p, c.num, c.waits⟩) (t := t) (by show (1 : Int) ≠ 4; decide)
    generalize stepsOf ⟨1, c.now, p, c.num, c.waits⟩ t = tr at *
    dsimp only at e0 hq
    rw [List.nil_append] at e0
    have hz : addsIn tr.2 = 0 := by
      unfold addsIn
      rw [List.length_eq_zero_iff, List.filter_eq_nil_iff]
      intro x hx
      rw [hk.2 x hx]; decide
    have f1 : R.1.next = p := by rw [e0]; exact hq.2
    have f2 : R.1.now = c.now := by rw [e0]; exact hq.1
    have f3 : addsIn R.2.1 = 0 := by rw [e0]; exact hz
    refine ⟨hp.topo, h8, ?_, ?_, ⟨?_, ?_, ?_⟩, ?_, ?_⟩
    · rw [hR, f1]; exact hp
    · rw [hR, f1]; exact h2'
    · rw [hR, f3, e0]
      rcases hk.1 with ⟨k1, k2, k3⟩ | ⟨k1, k2⟩
      · exact .inr (.inl ⟨k1, k2, Nat.le_refl _, by dsimp only; omega⟩)
      · exact .inr (.inr ⟨k1, k2⟩)
    · rw [hR]; exact f2
    · rw [hR]
    · rw [hR, f3]; omega
    · rw [hR, f3]; exact fun h => absurd h (by omega)
  · have hl := send_len ⟨1, c.now, p, c.num, c.waits⟩ (addsOf p t)
    have hk := send_keeps ⟨1, c.now, p, c.num, c.waits⟩ (addsOf p t)
    have hm : ∀ x ∈ (send ⟨1, c.now, p, c.num, c.waits⟩ (addsOf p t)).2, x.order.kind = 1 := fun x hx => by
      obtain ⟨y, hy, _, h2, _⟩ := send_mem _ _ hx
      rw [h2]; exact adds_kind hy
    have hne : 0 < (addsOf p t).length := List.length_pos_iff.2 ha
    generalize send ⟨1, c.now, p, c.num, c.waits⟩ (addsOf p t) = sr at *
    have hw : sr.1.waits ≠ [] := fun e => by rw [e] at hl; simp at hl; omega
    rw [steps_wait hw] at e0
    dsimp only at e0
    rw [List.append_nil] at e0
    have hA : addsIn sr.2 = sr.2.length := by
      unfold addsIn
      rw [List.filter_eq_self.2 fun x hx => by rw [hm x hx]; rfl]
    have f1 : R.1.next = p := by rw [e0]; exact hk.2.2
    have f2 : R.1.now = c.now := by rw [e0]; exact hk.2.1
    have f3 : addsIn R.2.1 = sr.2.length := by rw [e0]; exact hA
    refine ⟨hp.topo, h8, ?_, ?_, ⟨?_, ?_, ?_⟩, ?_, ?_⟩
    · rw [hR, f1]; exact hp
    · rw [hR, f1]; exact h2'
    · rw [hR, f3, e0]
      exact .inl ⟨hk.1, hw, by have := hl.2; rw [hw0] at this; simp at this; dsimp only; omega⟩
    · rw [hR]; exact f2
    · rw [hR]
    · rw [hR, f3]; omega
    · rw [hR, e0]; exact fun _ x hx => by rw [hm x hx]; decide
theorem Asked.good {c : Ctl} {t : Topo} {l : List Flow} (h : Asked c t l) (hc : PlanGood c.now) : CtlGood (ctlAsk c t l).1 :=
  h.under.good h.adds hc h.ok.gd
end Go.St
