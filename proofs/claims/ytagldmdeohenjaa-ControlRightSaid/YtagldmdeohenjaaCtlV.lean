/-
  One change from the asking to its end, plainly.
-/
import Derived.Test.YtagldmdeohenjaaCtlM
import Derived.Test.YtagldmdeohenjaaSetW
set_option linter.unusedSimpArgs false
set_option linter.unusedVariables false
namespace Go.St
open Go.RowKit

/-- a control between two changes -/
structure Calm0 (t : Topo) (j : Nat) (c : Ctl) : Prop where
  waits : c.waits = []
  held : Held t c.now
  next : c.next = noPlan
  lo : 0 ≤ c.num
  hi : c.num ≤ 32 * (j : Int)
theorem Calm0.start (t : Topo) : Calm0 t 0 noCtl := ⟨rfl, .inl rfl, rfl, by decide, by decide⟩
theorem Calm0.more {t : Topo} {j : Nat} {c : Ctl} (h : Calm0 t j c) : Calm0 t (j + 1) c := ⟨h.waits, h.held, h.next, h.lo, by have := h.hi; omega⟩
theorem Calm0.good {t : Topo} {j : Nat} {c : Ctl} (h : Calm0 t j c) : CtlGood c := ⟨h.held.good, by rw [h.next]; exact PlanGood.none, by rw [h.waits]; simp⟩
theorem going_rounds {t : Topo} {p0 p : Plan} {A : Nat} {a v : Int} {l : List Flow} (hp : PlanOk t v l p) (h0 : PlanGood p0) (hA : A ≤ 8) (ha : 0 ≤ a) (ha2 : a ≤ 1000) : Rounds t (fun i c o => Going t p0 p A a i c o ∧ i ≤ 17) where
  good i c o h := h.1.under.good hA h0 hp.gd
  len i c o h := h.1.len
  most i c o h := by omega
  few i c o h hw := by omega
  back i c o n h hn := by
    obtain ⟨h1, h2⟩ := h.1.back hp ha ha2 hn
    have := (h.1.under.ord.len hA).2 (List.ne_nil_of_mem hn)
    exact ⟨h1, h2, by omega⟩
theorem falling_rounds {t : Topo} {p0 p : Plan} {a : Int} (ht : (topoWrong t).1 = 0) (h0 : PlanGood p0) (h1 : PlanGood p) : Rounds t (fun i c o => Falling p0 p a i c o ∧ i ≤ 17) where
  good i c o h := (h.1.good h0 h1).1
  len i c o h := h.1.len
  most i c o h := by omega
  few i c o h hw := by omega
  back i c o n h hn := by
    obtain ⟨k1, k2⟩ := h.1.back ht hn
    have := (h.1.good h0 h1).2 (List.ne_nil_of_mem hn)
    exact ⟨k1, k2, by omega⟩
/-- what Ask leaves of such a control -/
structure Step1 (t : Topo) (j : Nat) (c : Ctl) (f : List Flow) (R : Ctl × List To × Int) : Prop where
  ok : PlanOk t (up c.now.ver) f R.1.next
  going : ∃ A, A ≤ 8 ∧ Going t c.now R.1.next A R.1.num 0 R.1 []
  told : Told t c.num R.1.num R.2.1
  few : R.2.1.length ≤ 16
  lo : 0 ≤ R.1.num
  hi : R.1.num ≤ 32 * (j : Int) + 16
  good : CtlGood R.1
theorem step1 {t : Topo} {j : Nat} {c : Ctl} {f : List Flow} (h : Calm0 t j c) (hj : j ≤ 2) (h0 : (ctlAsk c t f).2.2 = 0) : Step1 t j c f (ctlAsk c t f) := by
  have hA := ask_ok h0 h.waits
  have h1 := h.lo
  have h2 := h.hi
  obtain ⟨hT, hl⟩ := ask_told h0 h.waits h1 (by omega)
  have hn := hT.num
  exact ⟨hA.ok, ⟨_, hA.adds, hA.under, rfl, Told.nil _ _, by simp, fun _ => rfl⟩, hT, hl, by omega, by omega, hA.good h.held.good⟩
theorem Step1.rounds {t : Topo} {j : Nat} {c : Ctl} {f : List Flow} {R : Ctl × List To × Int} (h : Step1 t j c f R) (hc : Calm0 t j c) (hj : j ≤ 2) : ∃ A, A ≤ 8 ∧ Going t c.now R.1.next A R.1.num 0 R.1 [] ∧ Rounds t (fun i d o => Going t c.now R.1.next A R.1.num i d o ∧ i ≤ 17) := by
  obtain ⟨A, hA, hG⟩ := h.going
  have h1 := h.hi
  exact ⟨A, hA, hG, going_rounds h.ok hc.held.good hA h.lo (by omega)⟩
/-- behind all answers -/
structure Step2 (t : Topo) (j : Nat) (c : Ctl) (f : List Flow) (p : Plan) (a : Int) (d : Ctl) (o : List (List To)) : Prop where
  stage : d.stage = 3
  waits : d.waits = []
  now : d.now = c.now
  next : d.next = p
  told : Told t a d.num o.flatten
  few : o.flatten.length ≤ 8
  lo : 0 ≤ d.num
  hi : d.num ≤ 32 * (j : Int) + 24
  len : o.length ≤ 17
theorem step2 {t : Topo} {j : Nat} {c d : Ctl} {f : List Flow} {R : Ctl × List To × Int} {A i : Nat} {o : List (List To)} (h : Step1 t j c f R) (hg : Going t c.now R.1.next A R.1.num i d o) (hi : i ≤ 17) (hw : d.waits = []) : Step2 t j c f R.1.next R.1.num d o := by
  have hn := hg.told.num
  have hf := hg.few
  have h1 := h.lo
  have h2 := h.hi
  exact ⟨hg.under.ord.done hw, hw, hg.under.now, hg.under.next, hg.told, hf, by omega, by omega, by rw [hg.len]; exact hi⟩
structure Step3 (t : Topo) (j : Nat) (d : Ctl) (X : Ctl × List To × Int) : Prop where
  err : X.2.2 = 0
  fall : Falling d.now d.next X.1.num 0 X.1 []
  told : Told t d.num X.1.num X.2.1
  few : X.2.1.length ≤ 8
  lo : 0 ≤ X.1.num
  hi : X.1.num ≤ 32 * (j : Int) + 32
theorem step3 {t : Topo} {j : Nat} {c d : Ctl} {f : List Flow} {p : Plan} {a v : Int} {o : List (List To)} (hc : Calm0 t j c) (hj : j ≤ 2) (hp : PlanOk t v f p) (h : Step2 t j c f p a d o) : Step3 t j d (ctlDrop d t) := by
  have h1 := h.lo
  have h2 := h.hi
  obtain ⟨k1, k2, k3, k4⟩ := drop_ok hp.topo hp.n8 h.stage h.waits (by rw [h.now]; exact hc.held) h.lo (by omega)
  have hn := k3.num
  exact ⟨k1, k2, k3, k4, by omega, by omega⟩
/-- behind the drop's answers -/
structure Step4 (t : Topo) (j : Nat) (p : Plan) (y : Ctl) (o : List (List To)) : Prop where
  calm : Calm0 t (j + 1) y
  stage : y.stage = 0
  now : y.now = p
  still : o.flatten = []
  len : o.length ≤ 17
theorem step4 {t : Topo} {j : Nat} {c d y : Ctl} {f : List Flow} {p : Plan} {a v : Int} {o o' : List (List To)} {i : Nat} {X : Ctl × List To × Int} (hp : PlanOk t v f p) (h : Step2 t j c f p a d o) (hX : Step3 t j d X) (hf : Falling d.now d.next X.1.num i y o') (hi : i ≤ 17) (hw : y.waits = []) : Step4 t j p y o' := by
  obtain ⟨k1, k2, k3⟩ := hf.done hw
  have h1 := hX.lo
  have h2 := hX.hi
  have h3 := hf.num
  rw [h.next] at k2
  exact ⟨⟨hw, .inr ⟨v, f, by rw [k2]; exact hp⟩, k3, by omega, by omega⟩, k1, k2, hf.still, by rw [hf.len]; exact hi⟩
theorem planC.ver {w : World} {ok : Nat → Prop} {n0 n1 n2 : Value} {p : Plan} (h : planC w ok n0 n1 n2 p) : n0 = .int .i64 p.ver ∧ I64 p.ver := by
  obtain ⟨ga, gc, qa, qc, hne, hnv, _⟩ := h
  injection hne with h1 h2
  exact ⟨h1, hnv⟩
/-- a row of two slices -/
theorem row2 {α : Type} {S : Shape α} {w : World} {b : Nat} {e : TypeId} {a1 a2 : Option Addr} {c1 c2 : Nat} {xs ys : List α} {ok : Nat → Prop} (h : blockIs w b e #[.slice a1 xs.length c1, .slice a2 ys.length c2]) (hx : rowRep S ok w a1 c1 xs) (hy : rowRep S ok w a2 c2 ys) (hok : ok b) : rowRep (sliceS S) ok w (some ⟨b, 0, none⟩) 2 [xs, ys] := by
  refine ⟨Nat.le_refl _, by decide, .inr ⟨b, 0, rfl, hok, h.lt, fun i y hi => ?_⟩⟩
  match i, hi with
  | 0, hi =>
    obtain rfl : xs = y := by simpa using hi
    refine ⟨_, ⟨a1, c1, rfl, hx⟩, fun j c hc => ?_⟩
    simp only [Nat.zero_mul, Nat.zero_add]
    rw [h.cells.1 j]
    match j, hc with
    | 0, hc => simpa using hc
    | j + 1, hc => simp at hc
  | 1, hi =>
    obtain rfl : ys = y := by simpa using hi
    refine ⟨_, ⟨a2, c2, rfl, hy⟩, fun j c hc => ?_⟩
    match j, hc with
    | 0, hc =>
      show w.cell? ⟨b, 1, none⟩ = _
      rw [h.cells.1 1]
      simpa using hc
    | j + 1, hc => simp at hc
  | i + 2, hi => simp at hi
end Go.St
