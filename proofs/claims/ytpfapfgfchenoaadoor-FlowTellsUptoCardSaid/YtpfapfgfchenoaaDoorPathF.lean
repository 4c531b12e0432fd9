/-
  Facts of right nets and right flows; what Find finds.
-/
import Derived.Test.YtpfapfgfchenoaaDoorPathS
set_option linter.unusedSimpArgs false
set_option linter.unusedVariables false
namespace Go.St

structure LinkOk (n : Int) (l : Link) : Prop where
  a0 : 0 ≤ l.a
  a1 : l.a < n
  b0 : 0 ≤ l.b
  b1 : l.b < n
  ne : l.a ≠ l.b
  c0 : 1 ≤ l.cost
  c1 : l.cost ≤ 1000

theorem linkBad_zero {n : Int} {had : List (Int × Int)} {l : Link} (h : linkBad n had l = 0) : LinkOk n l := by
  unfold linkBad at h
  by_cases h1 : min l.a l.b < 0 ∨ n ≤ max l.a l.b
  · rw [if_pos h1] at h; cases h
  rw [if_neg h1] at h
  by_cases h2 : l.a = l.b
  · rw [if_pos h2] at h; cases h
  rw [if_neg h2] at h
  by_cases h3 : l.cost < 1 ∨ 1000 < l.cost
  · rw [if_pos h3] at h; cases h
  exact ⟨by omega, by omega, by omega, by omega, h2, by omega, by omega⟩

theorem linksBad_zero {n : Int} : ∀ {ls : List Link} {had : List (Int × Int)} {i : Int}, (linksBad n had i ls).1 = 0 → ∀ l ∈ ls, LinkOk n l
  | [], _, _, _ => by simp
  | l :: r, had, i, h => by
    unfold linksBad at h
    by_cases h0 : linkBad n had l = 0
    · rw [if_pos h0] at h
      intro x hx
      rcases List.mem_cons.1 hx with rfl | hx
      · exact linkBad_zero h0
      · exact linksBad_zero h x hx
    · rw [if_neg h0] at h; exact absurd h h0

theorem topo_right {t : Topo} (h : (topoWrong t).1 = 0) : (1 ≤ t.n ∧ t.n ≤ 8 ∧ t.links.length ≤ 28) ∧ ∀ l ∈ t.links, LinkOk t.n l := by
  unfold topoWrong at h
  by_cases h0 : t.n < 1 ∨ 8 < t.n ∨ 28 < t.links.length
  · rw [if_pos h0] at h; cases h
  rw [if_neg h0] at h
  exact ⟨by omega, linksBad_zero h⟩

theorem costIn_range : ∀ (ls : List Link) (n a b : Int), (∀ l ∈ ls, LinkOk n l) → 0 ≤ costIn a b ls ∧ costIn a b ls ≤ 1000
  | [], _, _, _, _ => by simp [costIn]
  | l :: r, n, a, b, h => by
    unfold costIn
    by_cases h0 : linkIs a b l = true
    · rw [if_pos h0]; have := h l (by simp); exact ⟨by have := this.c0; omega, this.c1⟩
    · rw [if_neg h0]; exact costIn_range r n a b fun x hx => h x (by simp [hx])
theorem cost_range {t : Topo} (h : (topoWrong t).1 = 0) (a b : Int) : 0 ≤ costOf t a b ∧ costOf t a b ≤ 1000 := costIn_range _ t.n a b (topo_right h).2

theorem listBad_zero {n s d : Int} : ∀ {l had : List Int}, listBad n s d had l = 0 → l.Nodup ∧ (∀ x ∈ l, (0 ≤ x ∧ x < n) ∧ x ≠ s ∧ x ≠ d ∧ x ∉ had)
  | [], _, _ => by simp
  | x :: r, had, h => by
    unfold listBad at h
    by_cases h1 : x < 0 ∨ n ≤ x
    · rw [if_pos h1] at h; cases h
    rw [if_neg h1] at h
    by_cases h2 : x = s ∨ x = d
    · rw [if_pos h2] at h; cases h
    rw [if_neg h2] at h
    by_cases h3 : x ∈ had
    · rw [if_pos h3] at h; cases h
    rw [if_neg h3] at h
    obtain ⟨g1, g2⟩ := listBad_zero h
    refine ⟨List.nodup_cons.2 ⟨fun hx => (g2 x hx).2.2.2 (by simp), g1⟩, ?_⟩
    intro y hy
    rcases List.mem_cons.1 hy with rfl | hy
    · exact ⟨by omega, fun e => h2 (.inl e), fun e => h2 (.inr e), h3⟩
    · obtain ⟨a, b, c, e⟩ := g2 y hy
      exact ⟨a, b, c, fun hm => e (by simp [hm])⟩

structure FlowOk (n : Int) (f : Flow) : Prop where
  s0 : 0 ≤ f.src
  s1 : f.src < n
  d0 : 0 ≤ f.dst
  d1 : f.dst < n
  ne : f.src ≠ f.dst
  vnd : f.via.Nodup
  via : ∀ x ∈ f.via, (0 ≤ x ∧ x < n) ∧ x ≠ f.src ∧ x ≠ f.dst
  no : ∀ x ∈ f.no, (0 ≤ x ∧ x < n) ∧ x ≠ f.src ∧ x ≠ f.dst
  vno : ∀ x ∈ f.via, x ∉ f.no

theorem flowBad_zero {n : Int} {f : Flow} (h : flowBad n f = 0) : FlowOk n f := by
  unfold flowBad at h
  by_cases h1 : f.src < 0 ∨ n ≤ f.src ∨ f.dst < 0 ∨ n ≤ f.dst
  · rw [if_pos h1] at h; cases h
  rw [if_neg h1] at h
  by_cases h2 : f.src = f.dst
  · rw [if_pos h2] at h; cases h
  rw [if_neg h2] at h
  by_cases h3 : listBad n f.src f.dst [] f.via = 0
  · rw [if_neg (by simp [h3])] at h
    by_cases h4 : listBad n f.src f.dst [] f.no = 0
    · rw [if_neg (by simp [h4])] at h
      by_cases h5 : f.via.any (fun s => decide (s ∈ f.no)) = true
      · rw [if_pos h5] at h; cases h
      obtain ⟨v1, v2⟩ := listBad_zero h3
      obtain ⟨_, n2⟩ := listBad_zero h4
      refine ⟨by omega, by omega, by omega, by omega, h2, v1, fun x hx => ⟨(v2 x hx).1, (v2 x hx).2.1, (v2 x hx).2.2.1⟩, fun x hx => ⟨(n2 x hx).1, (n2 x hx).2.1, (n2 x hx).2.2.1⟩, fun x hx hno => h5 ?_⟩
      exact List.any_eq_true.2 ⟨x, hx, by simpa using hno⟩
    · rw [if_pos h4] at h; exact absurd h h4
  · rw [if_pos h3] at h; exact absurd h h3

theorem flows1 {n : Int} {f : Flow} : (flowsWrong [f] n).1 = flowBad n f := by
  unfold flowsWrong
  rw [if_neg (by simp)]
  simp only [flowsBad]
  by_cases h : flowBad n f = 0
  · rw [if_pos h]; exact h.symm
  · rw [if_neg h]

theorem flow_via_len {n : Int} {f : Flow} (h : FlowOk n f) : f.via.length ≤ n.toNat := nodup_len h.vnd fun x hx => (h.via x hx).1

/-- the search from a flow's beginning -/
theorem search_leaves {t : Topo} {f : Flow} (ht : (topoWrong t).1 = 0) (hf : FlowOk t.n f) : Leaves t f [f.src] (none, 0) (onS t f 9 [f.src] 0 0 (none, 0)) := by
  obtain ⟨⟨h1, h2, _⟩, _⟩ := topo_right ht
  refine on_ok (fun a b => (cost_range ht a b).1) hf.vnd 9 [f.src] 0 0 (none, 0) ?_ (by simp; omega) (by intro b hb; cases hb) (by intro b hb; cases hb)
  refine ⟨rfl, rfl, by simp, ?_, ?_, ?_, Nat.zero_le _, rfl⟩
  · intro s hs; simp at hs; subst hs; exact ⟨hf.s0, hf.s1⟩
  · intro s hs hno; simp at hs; subst hs; exact (hf.no _ hno).2.1 rfl
  · have : f.src ∉ f.via := fun h => (hf.via _ h).2.1 rfl
    simp [this]

/-- what Find finds is good, and no other good path is before it -/
theorem find_good {t : Topo} {f : Flow} (h : (findOf t f).2 = 0) : (topoWrong t).1 = 0 ∧ FlowOk t.n f ∧ Good t f (findOf t f).1 ∧ ∀ q, Good t f q → pathCost t (findOf t f).1 < pathCost t q ∨ (pathCost t (findOf t f).1 = pathCost t q ∧ lexLe (findOf t f).1 q = true) := by
  unfold findOf at h ⊢
  by_cases h1 : (topoWrong t).1 = 0
  case neg => rw [if_pos h1] at h; exact absurd h h1
  rw [if_neg (by simp [h1])] at h ⊢
  by_cases h2 : (flowsWrong [f] t.n).1 = 0
  case neg => rw [if_pos h2] at h; exact absurd h h2
  rw [if_neg (by simp [h2])] at h ⊢
  have hf := flowBad_zero (flows1 ▸ h2)
  have L := search_leaves h1 hf
  cases hb : (onS t f 9 [f.src] 0 0 (none, 0)).1 with
  | none => rw [hb] at h; cases h
  | some p =>
    rw [hb] at h
    obtain ⟨g1, g2⟩ := L.sound p hb
    refine ⟨h1, hf, g1, fun q hq => ?_⟩
    obtain ⟨s, r, rfl⟩ : ∃ s r, q = s :: r := by cases q with | nil => have := hq.src; cases this | cons s r => exact ⟨s, r, rfl⟩
    obtain rfl : s = f.src := by have := hq.src; simpa using this
    obtain ⟨b, hb', hc⟩ := L.beats r hq
    rw [hb] at hb'
    obtain rfl := Option.some.inj hb'
    rw [g2] at hc
    exact hc


end Go.St
