/-
  Switches, plainly.
-/
import Derived.Test.YtcfcdembhjnjfaaSorts
import Derived.Test.YtcfcdembhjnjfaaWire
set_option linter.unusedSimpArgs false
set_option linter.unusedVariables false
namespace Go.St

def stOut (x : Stamp) : Prop := x.flow < 0 ∨ 12 ≤ x.flow ∨ x.ver < 1 ∨ 1000 < x.ver
instance (x : Stamp) : Decidable (stOut x) := by unfold stOut; infer_instance
def stGo : Option Stamp → List Stamp → Int
  | _, [] => 0
  | p, x :: l => if stOut x then 3 else if p.any (fun q => decide (x.flow ≤ q.flow)) = true then 2 else stGo (some x) l
def prevS (l : List Stamp) : Nat → Option Stamp
  | 0 => none
  | j + 1 => l[j]?
theorem st_step {l : List Stamp} {j : Nat} {R : Int} {x : Stamp} (h : R = stGo (prevS l j) (l.drop j)) (hx : l[j]? = some x) :
    R = if stOut x then 3 else if (prevS l j).any (fun q => decide (x.flow ≤ q.flow)) = true then 2 else stGo (prevS l (j + 1)) (l.drop (j + 1)) := by
  obtain ⟨hj, rfl⟩ := List.getElem?_eq_some_iff.1 hx
  rw [h, List.drop_eq_getElem_cons hj, stGo]
  simp only [prevS, List.getElem?_eq_getElem hj]
  rfl
theorem st_end {l : List Stamp} {j : Nat} {R : Int} (h : R = stGo (prevS l j) (l.drop j)) (hj : l.length ≤ j) : R = 0 := by
  rw [h, List.drop_of_length_le hj]; rfl
def swWrong (s : Switch) : Int := if (tabWrong s.rules).1 ≠ 0 then (tabWrong s.rules).1 else stGo none s.stamps
structure SwOk (s : Switch) : Prop where
  tab : TabOk s.rules
  rg : ∀ x ∈ s.stamps, ¬ stOut x
  up : s.stamps.Pairwise fun a b => a.flow < b.flow
theorem stGo_zero : ∀ {l : List Stamp} {p : Option Stamp}, stGo p l = 0 ↔ (∀ x ∈ l, ¬ stOut x) ∧ (p.toList ++ l).Pairwise (fun a b => a.flow < b.flow)
  | [], p => by cases p <;> simp [stGo]
  | x :: l, p => by
    rw [stGo]
    by_cases h1 : stOut x
    · rw [if_pos h1]
      constructor
      · intro h; exact absurd h (by decide)
      · intro h; exact absurd h1 (h.1 x (by simp))
    rw [if_neg h1]
    by_cases h2 : p.any (fun q => decide (x.flow ≤ q.flow)) = true
    · rw [if_pos h2]
      constructor
      · intro h; exact absurd h (by decide)
      · rintro ⟨_, h⟩
        cases p with
        | none => simp at h2
        | some q =>
          have := (List.pairwise_cons.1 h).1 x (by simp)
          simp at h2; omega
    rw [if_neg h2, stGo_zero]
    have e0 : (∀ y ∈ x :: l, ¬ stOut y) ↔ ∀ y ∈ l, ¬ stOut y := by simp [h1]
    rw [e0]
    refine and_congr Iff.rfl ?_
    cases p with
    | none => simp
    | some q =>
      have hq : q.flow < x.flow := by simp at h2; omega
      simp only [Option.toList_some, List.cons_append, List.nil_append]
      constructor
      · intro h
        refine List.pairwise_cons.2 ⟨fun y hy => ?_, h⟩
        rcases List.mem_cons.1 hy with rfl | hy
        · exact hq
        · have := (List.pairwise_cons.1 h).1 y hy; omega
      · intro h; exact (List.pairwise_cons.1 h).2
theorem sw_ok {s : Switch} : swWrong s = 0 ↔ SwOk s := by
  unfold swWrong
  by_cases h : (tabWrong s.rules).1 = 0
  · rw [if_neg (by simpa using h), stGo_zero]
    exact ⟨fun g => ⟨tab_ok.1 h, g.1, by simpa using g.2⟩, fun g => ⟨g.rg, by simpa using g.up⟩⟩
  · rw [if_pos h]
    exact ⟨fun g => absurd g h, fun g => absurd (tab_ok.2 g.tab) h⟩
theorem rise_len {hi : Int} : ∀ {l : List Int} {lo : Int}, l.Pairwise (· < ·) → (∀ x ∈ l, lo ≤ x ∧ x < hi) → l.length ≤ (hi - lo).toNat
  | [], _, _, _ => Nat.zero_le _
  | x :: l, lo, h, hr => by
    obtain ⟨h1, h2⟩ := List.pairwise_cons.1 h
    have h3 := hr x (by simp)
    have := rise_len (hi := hi) (lo := x + 1) h2 fun y hy => ⟨by have := h1 y hy; omega, (hr y (List.mem_cons_of_mem _ hy)).2⟩
    simp only [List.length_cons]; omega
theorem SwOk.short {s : Switch} (h : SwOk s) : s.stamps.length ≤ 12 := by
  have h1 := rise_len (hi := 12) (lo := 0) (l := s.stamps.map (·.flow)) (List.pairwise_map.2 h.up) fun x hx => by
    obtain ⟨y, hy, rfl⟩ := List.mem_map.1 hx
    have := h.rg y hy
    unfold stOut at this; omega
  simpa using h1

def verOf (s : Switch) (f : Int) : Int := match s.stamps.find? (fun x => x.flow == f) with
  | some x => x.ver
  | none => 0
theorem ver_step {l : List Stamp} {f : Int} {j : Nat} {x : Stamp} {r : List Rule} (hx : l[j]? = some x) : verOf ⟨r, l.drop j⟩ f = if x.flow = f then x.ver else verOf ⟨r, l.drop (j + 1)⟩ f := by
  obtain ⟨hj, rfl⟩ := List.getElem?_eq_some_iff.1 hx
  rw [List.drop_eq_getElem_cons hj]
  by_cases h : l[j].flow = f
  · rw [if_pos h]; unfold verOf; rw [List.find?_cons_of_pos (by simp [h])]
  · rw [if_neg h]; unfold verOf; rw [List.find?_cons_of_neg (by simpa using h)]
theorem ver_end {l : List Stamp} {f : Int} {j : Nat} {r : List Rule} (hj : l.length ≤ j) : verOf ⟨r, l.drop j⟩ f = 0 := by
  rw [List.drop_of_length_le hj]; rfl

def noSw : Switch := ⟨[], []⟩
def doOf (s : Switch) (o : Order) : Switch × Int :=
  if swWrong s ≠ 0 then (noSw, swWrong s)
  else if wireWrong o ≠ 0 then (noSw, wireWrong o)
  else if o.kind = 1 then (if (addOf s.rules o.rules).2 ≠ 0 then (noSw, (addOf s.rules o.rules).2) else (⟨(addOf s.rules o.rules).1, s.stamps⟩, 0))
  else if o.kind = 2 then (⟨s.rules, o.flows.map fun f => ⟨f, o.ver⟩⟩, 0)
  else (⟨dropOf s.rules o.ver, s.stamps⟩, 0)

theorem flowsOk_iff : ∀ {l : List Int} {p : Int}, flowsOk p l = true ↔ (∀ x ∈ l, 0 ≤ x ∧ x < 12) ∧ (p :: l).Pairwise (· < ·)
  | [], p => by simp [flowsOk]
  | x :: l, p => by
    rw [flowsOk]
    simp only [Bool.and_eq_true, decide_eq_true_eq]
    rw [flowsOk_iff (l := l)]
    constructor
    · rintro ⟨h1, h2, h3, h4, h5⟩
      refine ⟨fun y hy => ?_, List.pairwise_cons.2 ⟨fun y hy => ?_, h5⟩⟩
      · rcases List.mem_cons.1 hy with rfl | hy
        · exact ⟨h2, h3⟩
        · exact h4 y hy
      · rcases List.mem_cons.1 hy with rfl | hy
        · exact h1
        · have := (List.pairwise_cons.1 h5).1 y hy; omega
    · rintro ⟨h1, h2⟩
      obtain ⟨h3, h4⟩ := List.pairwise_cons.1 h2
      exact ⟨h3 x (by simp), (h1 x (by simp)).1, (h1 x (by simp)).2, fun y hy => h1 y (List.mem_cons_of_mem _ hy), h4⟩
theorem wire_ver {o : Order} (h : wireWrong o = 0) : 1 ≤ o.num ∧ o.num ≤ 100000 ∧ 1 ≤ o.ver ∧ o.ver ≤ 1000 := by
  unfold wireWrong at h
  by_cases h1 : o.num < 1 ∨ 100000 < o.num ∨ o.ver < 1 ∨ 1000 < o.ver
  · rw [if_pos h1] at h; exact absurd h (by decide)
  · omega
theorem wire_kind {o : Order} (h : wireWrong o = 0) : o.kind = 1 ∨ o.kind = 2 ∨ o.kind = 3 := by
  unfold wireWrong at h
  by_cases h1 : o.num < 1 ∨ 100000 < o.num ∨ o.ver < 1 ∨ 1000 < o.ver
  · rw [if_pos h1] at h; exact absurd h (by decide)
  rw [if_neg h1] at h
  by_cases k1 : o.kind = 1
  · exact .inl k1
  by_cases k2 : o.kind = 2
  · exact .inr (.inl k2)
  by_cases k3 : o.kind = 3
  · exact .inr (.inr k3)
  rw [if_neg k1, if_neg k2, if_neg k3] at h; exact absurd h (by decide)
theorem wire_add {o : Order} (h : wireWrong o = 0) (hk : o.kind = 1) : o.rules.length ≤ 16 ∧ ∀ r ∈ o.rules, r.ver = o.ver := by
  unfold wireWrong at h
  by_cases h1 : o.num < 1 ∨ 100000 < o.num ∨ o.ver < 1 ∨ 1000 < o.ver
  · rw [if_pos h1] at h; exact absurd h (by decide)
  rw [if_neg h1, if_pos hk] at h
  by_cases h2 : 16 < o.rules.length
  · rw [if_pos h2] at h; exact absurd h (by decide)
  rw [if_neg h2] at h
  cases h3 : o.rules.all (ruleOk o.ver)
  · rw [h3] at h; exact absurd h (by decide)
  · refine ⟨by omega, fun r hr => ?_⟩
    have := List.all_eq_true.1 h3 r hr
    simp [ruleOk] at this
    exact this.1
theorem wire_stamp {o : Order} (h : wireWrong o = 0) (hk : o.kind = 2) : o.flows.length ≤ 12 ∧ (∀ x ∈ o.flows, 0 ≤ x ∧ x < 12) ∧ o.flows.Pairwise (· < ·) := by
  unfold wireWrong at h
  by_cases h1 : o.num < 1 ∨ 100000 < o.num ∨ o.ver < 1 ∨ 1000 < o.ver
  · rw [if_pos h1] at h; exact absurd h (by decide)
  rw [if_neg h1, if_neg (by omega), if_pos hk] at h
  by_cases h2 : 12 < o.flows.length
  · rw [if_pos h2] at h; exact absurd h (by decide)
  rw [if_neg h2] at h
  cases h3 : flowsOk (-1) o.flows
  · rw [h3] at h; exact absurd h (by decide)
  · obtain ⟨h4, h5⟩ := flowsOk_iff.1 h3
    exact ⟨by omega, h4, (List.pairwise_cons.1 h5).2⟩

/-! what an order does -/
theorem do_bad {s : Switch} {o : Order} (h : (doOf s o).2 ≠ 0) : (doOf s o).1 = noSw := by
  unfold doOf at *
  by_cases h1 : swWrong s ≠ 0
  · rw [if_pos h1]
  rw [if_neg h1] at h ⊢
  by_cases h2 : wireWrong o ≠ 0
  · rw [if_pos h2]
  rw [if_neg h2] at h ⊢
  by_cases h3 : o.kind = 1
  · rw [if_pos h3] at h ⊢
    by_cases h4 : (addOf s.rules o.rules).2 ≠ 0
    · rw [if_pos h4]
    · rw [if_neg h4] at h; exact absurd rfl h
  rw [if_neg h3] at h
  by_cases h4 : o.kind = 2
  · rw [if_pos h4] at h; exact absurd rfl h
  · rw [if_neg h4] at h; exact absurd rfl h
structure DoOk (s : Switch) (o : Order) (t : Switch) : Prop where
  sw : SwOk s
  wire : wireWrong o = 0
  eq : (o.kind = 1 ∧ (addOf s.rules o.rules).2 = 0 ∧ t = ⟨outOf s.rules o.rules, s.stamps⟩) ∨ (o.kind = 2 ∧ t = ⟨s.rules, o.flows.map fun f => ⟨f, o.ver⟩⟩) ∨ (o.kind = 3 ∧ t = ⟨dropOf s.rules o.ver, s.stamps⟩)
theorem do_ok {s : Switch} {o : Order} (h : (doOf s o).2 = 0) : DoOk s o (doOf s o).1 := by
  unfold doOf at *
  by_cases h1 : swWrong s = 0
  case neg => rw [if_pos h1] at h; exact absurd h h1
  rw [if_neg (by simpa using h1)] at h ⊢
  by_cases h2 : wireWrong o = 0
  case neg => rw [if_pos h2] at h; exact absurd h h2
  rw [if_neg (by simpa using h2)] at h ⊢
  by_cases h3 : o.kind = 1
  · rw [if_pos h3] at h ⊢
    by_cases h4 : (addOf s.rules o.rules).2 = 0
    case neg => rw [if_pos h4] at h; exact absurd h h4
    rw [if_neg (by simpa using h4)]
    exact ⟨sw_ok.1 h1, h2, .inl ⟨h3, h4, by rw [(add_good h4).1]⟩⟩
  rw [if_neg h3] at h ⊢
  by_cases h4 : o.kind = 2
  · rw [if_pos h4]
    exact ⟨sw_ok.1 h1, h2, .inr (.inl ⟨h4, rfl⟩)⟩
  · rw [if_neg h4]
    exact ⟨sw_ok.1 h1, h2, .inr (.inr ⟨by have := wire_kind h2; omega, rfl⟩)⟩
theorem DoOk.ok {s : Switch} {o : Order} {t : Switch} (h : DoOk s o t) : SwOk t := by
  obtain ⟨h1, h2, ⟨k, ha, rfl⟩ | ⟨k, rfl⟩ | ⟨k, rfl⟩⟩ := h
  · exact ⟨(add_good ha).2.2, h1.rg, h1.up⟩
  · obtain ⟨_, g2, g3⟩ := wire_stamp h2 k
    have g4 := wire_ver h2
    refine ⟨h1.tab, fun x hx => ?_, List.pairwise_map.2 g3⟩
    obtain ⟨f, hf, rfl⟩ := List.mem_map.1 hx
    have := g2 f hf
    unfold stOut; simp only; omega
  · exact ⟨dropOf_ok h1.tab _, h1.rg, h1.up⟩
theorem do_add {s : Switch} {o : Order} (h1 : SwOk s) (h2 : wireWrong o = 0) (h3 : o.kind = 1) (h4 : (addOf s.rules o.rules).2 = 0) : doOf s o = (⟨outOf s.rules o.rules, s.stamps⟩, 0) := by
  unfold doOf
  rw [if_neg (by simpa using sw_ok.2 h1), if_neg (by simpa using h2), if_pos h3, if_neg (by simpa using h4), (add_good h4).1]
theorem do_stamp {s : Switch} {o : Order} (h1 : SwOk s) (h2 : wireWrong o = 0) (h3 : o.kind = 2) : doOf s o = (⟨s.rules, o.flows.map fun f => ⟨f, o.ver⟩⟩, 0) := by
  unfold doOf
  rw [if_neg (by simpa using sw_ok.2 h1), if_neg (by simpa using h2), if_neg (by omega), if_pos h3]
theorem do_drop {s : Switch} {o : Order} (h1 : SwOk s) (h2 : wireWrong o = 0) (h3 : o.kind = 3) : doOf s o = (⟨dropOf s.rules o.ver, s.stamps⟩, 0) := by
  unfold doOf
  rw [if_neg (by simpa using sw_ok.2 h1), if_neg (by simpa using h2), if_neg (by omega), if_neg (by omega)]
theorem dropOf_twice (l : List Rule) (v : Int) : dropOf (dropOf l v) v = dropOf l v := by
  unfold dropOf; rw [List.filter_filter]; simp
/-- twice is once -/
theorem do_twice {s : Switch} {o : Order} (h : (doOf s o).2 = 0) : doOf (doOf s o).1 o = ((doOf s o).1, 0) := by
  have h0 := do_ok h
  have hok := h0.ok
  generalize (doOf s o).1 = t at *
  obtain ⟨h1, h2, ⟨k, ha, rfl⟩ | ⟨k, rfl⟩ | ⟨k, rfl⟩⟩ := h0
  · have e := add_again ha
    rw [do_add hok h2 k (by show (addOf (outOf s.rules o.rules) o.rules).2 = 0; rw [e])]
    show ((⟨outOf (outOf s.rules o.rules) o.rules, s.stamps⟩ : Switch), (0 : Int)) = _
    have e2 : (addOf (outOf s.rules o.rules) o.rules).2 = 0 := by rw [e]
    rw [← (add_good e2).1, e]
  · rw [do_stamp hok h2 k]
  · rw [do_drop hok h2 k]
    show ((⟨dropOf (dropOf s.rules o.ver) o.ver, s.stamps⟩ : Switch), (0 : Int)) = _
    rw [dropOf_twice]
theorem mem_drop {l : List Rule} {v : Int} {x : Rule} : x ∈ dropOf l v ↔ x ∈ l ∧ x.ver ≠ v := by
  unfold dropOf; rw [List.mem_filter]; simp
/-- added, and dropped -/
theorem do_gone {s : Switch} {o d : Order} (h : (doOf s o).2 = 0) (hk : o.kind = 1) (hd : wireWrong d = 0) (hdk : d.kind = 3) (hv : d.ver = o.ver) : (doOf (doOf s o).1 d).2 = 0 ∧ (doOf (doOf s o).1 d).1.rules = dropOf s.rules o.ver := by
  have h0 := do_ok h
  have hok := h0.ok
  generalize (doOf s o).1 = t at *
  obtain ⟨h1, h2, ⟨k, ha, rfl⟩ | ⟨k, rfl⟩ | ⟨k, rfl⟩⟩ := h0
  · rw [do_drop hok hd hdk]
    refine ⟨rfl, ?_⟩
    show dropOf (outOf s.rules o.rules) d.ver = _
    rw [hv]
    refine up_ext (dropOf_ok hok.tab _).up (dropOf_ok h1.tab _).up fun x => ?_
    rw [mem_drop, mem_drop]
    show x ∈ outOf s.rules o.rules ∧ _ ↔ _
    rw [out_mem]
    have := (wire_add h2 k).2 x
    constructor
    · rintro ⟨g1 | g1, g2⟩
      · exact ⟨g1, g2⟩
      · exact absurd (this g1) g2
    · rintro ⟨g1, g2⟩; exact ⟨.inl g1, g2⟩
  · omega
  · omega
/-- two versions know no order -/
theorem do_order {s : Switch} {a b : Order} (ha : a.kind ≠ 2) (hb : b.kind ≠ 2) (hv : a.ver ≠ b.ver) (h1 : (doOf s a).2 = 0) (h2 : (doOf s b).2 = 0) (h3 : (doOf (doOf s a).1 b).2 = 0) (h4 : (doOf (doOf s b).1 a).2 = 0) :
    (doOf (doOf s a).1 b).1 = (doOf (doOf s b).1 a).1 := by
  have g1 := do_ok h1
  have g2 := do_ok h2
  have g3 := do_ok h3
  have g4 := do_ok h4
  generalize (doOf s a).1 = x at *
  generalize (doOf s b).1 = y at *
  have k3 := g3.ok
  have k4 := g4.ok
  generalize (doOf x b).1 = u at *
  generalize (doOf y a).1 = z at *
  have wa := fun h : a.kind = 1 => (wire_add g1.wire h).2
  have wb := fun h : b.kind = 1 => (wire_add g2.wire h).2
  have hst : u.stamps = z.stamps := by
    obtain ⟨_, _, ⟨_, _, rfl⟩ | ⟨e, _⟩ | ⟨_, rfl⟩⟩ := g1 <;> obtain ⟨_, _, ⟨_, _, rfl⟩ | ⟨e, _⟩ | ⟨_, rfl⟩⟩ := g2 <;> obtain ⟨_, _, ⟨_, _, rfl⟩ | ⟨e, _⟩ | ⟨_, rfl⟩⟩ := g3 <;> obtain ⟨_, _, ⟨_, _, rfl⟩ | ⟨e, _⟩ | ⟨_, rfl⟩⟩ := g4 <;> first | rfl | omega
  have hmem : ∀ r : Rule, r ∈ u.rules ↔ r ∈ z.rules := by
    intro r
    obtain ⟨_, _, ⟨e1, _, rfl⟩ | ⟨e, _⟩ | ⟨e1, rfl⟩⟩ := g1 <;> obtain ⟨_, _, ⟨e2, _, rfl⟩ | ⟨e, _⟩ | ⟨e2, rfl⟩⟩ := g2 <;> obtain ⟨_, _, ⟨e3, _, rfl⟩ | ⟨e, _⟩ | ⟨e3, rfl⟩⟩ := g3 <;> obtain ⟨_, _, ⟨e4, _, rfl⟩ | ⟨e, _⟩ | ⟨e4, rfl⟩⟩ := g4 <;> first | omega | skip
    · simp only [out_mem]
      constructor
      · rintro ((h | h) | h)
        · exact .inl (.inl h)
        · exact .inr h
        · exact .inl (.inr h)
      · rintro ((h | h) | h)
        · exact .inl (.inl h)
        · exact .inr h
        · exact .inl (.inr h)
    · simp only [out_mem, mem_drop]
      constructor
      · rintro ⟨h | h, g⟩
        · exact .inl ⟨h, g⟩
        · exact .inr h
      · rintro (⟨h, g⟩ | h)
        · exact ⟨.inl h, g⟩
        · exact ⟨.inr h, by rw [wa e1 r h]; exact hv⟩
    · simp only [out_mem, mem_drop]
      constructor
      · rintro (⟨h, g⟩ | h)
        · exact ⟨.inl h, g⟩
        · exact ⟨.inr h, by rw [wb e2 r h]; exact fun e => hv e.symm⟩
      · rintro ⟨h | h, g⟩
        · exact .inl ⟨h, g⟩
        · exact .inr h
    · simp only [mem_drop]
      constructor
      · rintro ⟨⟨h1, h2⟩, h3⟩; exact ⟨⟨h1, h3⟩, h2⟩
      · rintro ⟨⟨h1, h2⟩, h3⟩; exact ⟨⟨h1, h3⟩, h2⟩
  have hr : u.rules = z.rules := up_ext k3.tab.up k4.tab.up hmem
  obtain ⟨ur, us⟩ := u
  obtain ⟨zr, zs⟩ := z
  simp only at hr hst
  rw [hr, hst]
theorem do_apart {s : Switch} {o : Order} (h : (doOf s o).2 = 0) : SwOk (doOf s o).1 ∧ (o.kind = 2 → s.rules = (doOf s o).1.rules) ∧ (o.kind ≠ 2 → s.stamps = (doOf s o).1.stamps) := by
  have h0 := do_ok h
  have hok := h0.ok
  generalize (doOf s o).1 = t at *
  obtain ⟨h1, h2, ⟨k, ha, rfl⟩ | ⟨k, rfl⟩ | ⟨k, rfl⟩⟩ := h0
  · exact ⟨hok, fun e => by omega, fun _ => rfl⟩
  · exact ⟨hok, fun _ => rfl, fun e => absurd k e⟩
  · exact ⟨hok, fun e => by omega, fun _ => rfl⟩
end Go.St
