/-
  How the plain data of this program lie in memory: a shape says which cells hold a datum, and stays true where the blocks that it speaks of stay as they were.
-/
import Derived.Below
import Derived.OwnWalk
import Derived.Laws.AppendOwn
namespace Go.St
open Go.RowKit

/-- how a datum lies in cells: 'ok' names the blocks that may be used -/
structure Shape (α : Type) where
  size : Nat
  rep : (Nat → Prop) → World → List Value → α → Prop
  len : ∀ {ok w cs a}, rep ok w cs a → cs.length = size
  one : ∀ {ok w cs a}, rep ok w cs a → ∀ c ∈ cs, c.oneCell' = true
  mono : ∀ {ok ok' : Nat → Prop} {w w' : World} {cs a}, rep ok w cs a → (∀ b, b < w.heap.size → ok b → ok' b ∧ w'.heap[b]? = w.heap[b]?) → rep ok' w' cs a

/-- a whole number in the range of Go's int -/
def I64 (n : Int) : Prop := -9223372036854775808 ≤ n ∧ n ≤ 9223372036854775807

theorem I64.lo {n : Int} (h : I64 n) : -9223372036854775808 ≤ n := h.1
theorem I64.hi {n : Int} (h : I64 n) : n ≤ 9223372036854775807 := h.2
theorem I64.mk' {n : Int} (h1 : -9223372036854775808 ≤ n) (h2 : n ≤ 9223372036854775807) : I64 n := ⟨h1, h2⟩
theorem I64.small {n : Int} (h1 : -1000000000000 ≤ n) (h2 : n ≤ 1000000000000) : I64 n := ⟨by omega, by omega⟩

def intS : Shape Int where
  size := 1
  rep _ _ cs n := cs = [.int .i64 n] ∧ I64 n
  len h := by rw [h.1]; rfl
  one h := by rw [h.1]; simp [Value.oneCell']
  mono h _ := h

def byteS : Shape Int where
  size := 1
  rep _ _ cs n := cs = [.int .u8 n] ∧ 0 ≤ n ∧ n ≤ 255
  len h := by rw [h.1]; rfl
  one h := by rw [h.1]; simp [Value.oneCell']
  mono h _ := h

def boolS : Shape Bool where
  size := 1
  rep _ _ cs b := cs = [.bool b]
  len h := by rw [h]; rfl
  one h := by rw [h]; simp [Value.oneCell']
  mono h _ := h

/-- the elements of a row behind an address -/
def elemsAt {α : Type} (s : Shape α) (ok : Nat → Prop) (w : World) (b off : Nat) (xs : List α) : Prop :=
  ∀ i x, xs[i]? = some x → ∃ cs, s.rep ok w cs x ∧ ∀ j c, cs[j]? = some c → w.cell? ⟨b, off + i * s.size + j, none⟩ = some c

/-- a slice's address and capacity fit its elements -/
def rowRep {α : Type} (s : Shape α) (ok : Nat → Prop) (w : World) (ao : Option Addr) (cap : Nat) (xs : List α) : Prop :=
  xs.length ≤ cap ∧ cap ≤ maxLen ∧ (xs = [] ∨ ∃ b off, ao = some ⟨b, off, none⟩ ∧ ok b ∧ b < w.heap.size ∧ elemsAt s ok w b off xs)

theorem lt_of_block {w w' : World} {b : Nat} (hb : b < w.heap.size) (h : w'.heap[b]? = w.heap[b]?) : b < w'.heap.size := by
  rw [Array.getElem?_eq_getElem hb] at h
  exact (Array.getElem?_eq_some_iff.1 h).1

theorem elemsAt.mono {α : Type} {s : Shape α} {ok ok' : Nat → Prop} {w w' : World} {b off : Nat} {xs : List α} (h : elemsAt s ok w b off xs)
    (hb : w'.heap[b]? = w.heap[b]?) (hk : ∀ b, b < w.heap.size → ok b → ok' b ∧ w'.heap[b]? = w.heap[b]?) : elemsAt s ok' w' b off xs := by
  intro i x hx
  obtain ⟨cs, h1, h2⟩ := h i x hx
  exact ⟨cs, s.mono h1 hk, fun j c hc => by rw [World.cell?_of_block (w := w) hb]; exact h2 j c hc⟩

theorem rowRep.mono {α : Type} {s : Shape α} {ok ok' : Nat → Prop} {w w' : World} {ao : Option Addr} {cap : Nat} {xs : List α} (h : rowRep s ok w ao cap xs)
    (hk : ∀ b, b < w.heap.size → ok b → ok' b ∧ w'.heap[b]? = w.heap[b]?) : rowRep s ok' w' ao cap xs := by
  obtain ⟨h1, h2, h3⟩ := h
  refine ⟨h1, h2, h3.imp id ?_⟩
  rintro ⟨b, off, rfl, hb, hlt, he⟩
  exact ⟨b, off, rfl, (hk b hlt hb).1, lt_of_block hlt (hk b hlt hb).2, he.mono (hk b hlt hb).2 hk⟩

theorem rowRep.nil {α : Type} (s : Shape α) (ok : Nat → Prop) (w : World) (ao : Option Addr) : rowRep s ok w ao 0 [] :=
  ⟨Nat.le_refl _, Nat.zero_le _, .inl rfl⟩

theorem rowRep.len_le {α : Type} {s : Shape α} {ok : Nat → Prop} {w : World} {ao : Option Addr} {cap : Nat} {xs : List α} (h : rowRep s ok w ao cap xs) : xs.length ≤ 9223372036854775807 := by
  have h1 := h.1
  have h2 := h.2.1
  unfold maxLen at h2
  omega

/-- behind a call that has turned nothing that was there -/
theorem rowRep.below {α : Type} {s : Shape α} {ok : Nat → Prop} {w w' : World} {ao : Option Addr} {cap : Nat} {xs : List α} (h : rowRep s ok w ao cap xs)
    (hb : Below w.heap.size w w') : rowRep s ok w' ao cap xs :=
  h.mono fun b hlt hk => ⟨hk, hb.block b hlt⟩

theorem Shape.below {α : Type} (s : Shape α) {ok : Nat → Prop} {w w' : World} {cs : List Value} {a : α} (h : s.rep ok w cs a)
    (hb : Below w.heap.size w w') : s.rep ok w' cs a :=
  s.mono h fun b hlt hk => ⟨hk, hb.block b hlt⟩

/-- a slice as one cell -/
def sliceS {α : Type} (s : Shape α) : Shape (List α) where
  size := 1
  rep ok w cs xs := ∃ ao cap, cs = [.slice ao xs.length cap] ∧ rowRep s ok w ao cap xs
  len h := by obtain ⟨ao, cap, rfl, _⟩ := h; rfl
  one h := by obtain ⟨ao, cap, rfl, _⟩ := h; simp [Value.oneCell']
  mono h hk := by
    obtain ⟨ao, cap, rfl, h⟩ := h
    exact ⟨ao, cap, rfl, h.mono hk⟩

/-- one element of a row: where it lies -/
theorem rowRep.get {α : Type} {s : Shape α} {ok : Nat → Prop} {w : World} {ao : Option Addr} {cap : Nat} {xs : List α} (h : rowRep s ok w ao cap xs)
    {i : Nat} {x : α} (hx : xs[i]? = some x) : ∃ b off, ao = some ⟨b, off, none⟩ ∧ ok b ∧ b < w.heap.size ∧ ∃ cs, s.rep ok w cs x ∧ ∀ j c, cs[j]? = some c → w.cell? ⟨b, off + i * s.size + j, none⟩ = some c := by
  obtain ⟨h1, h2, rfl | ⟨b, off, rfl, hb, hlt, he⟩⟩ := h
  · simp at hx
  · exact ⟨b, off, rfl, hb, hlt, he i x hx⟩

theorem rowRep.take {α : Type} {s : Shape α} {ok : Nat → Prop} {w : World} {ao : Option Addr} {cap : Nat} {xs : List α} (h : rowRep s ok w ao cap xs) (m : Nat) : rowRep s ok w ao cap (xs.take m) := by
  obtain ⟨h1, h2, h3⟩ := h
  refine ⟨by rw [List.length_take]; omega, h2, ?_⟩
  rcases h3 with rfl | ⟨b, off, rfl, hb, hlt, he⟩
  · left; simp
  · right
    refine ⟨b, off, rfl, hb, hlt, fun i x hx => he i x ?_⟩
    rw [List.getElem?_take] at hx
    split at hx
    · exact hx
    · cases hx

/-- from an element on: the address moves -/
theorem rowRep.drop {α : Type} {s : Shape α} {ok : Nat → Prop} {w : World} {b off cap : Nat} {xs : List α} (h : rowRep s ok w (some ⟨b, off, none⟩) cap xs) (m : Nat) (hm : m ≤ xs.length) : rowRep s ok w (some ⟨b, off + m * s.size, none⟩) (cap - m) (xs.drop m) := by
  obtain ⟨h1, h2, h3⟩ := h
  refine ⟨by rw [List.length_drop]; omega, by omega, ?_⟩
  rcases h3 with rfl | ⟨b', off', hb', hb, hlt, he⟩
  · left; simp
  · obtain ⟨rfl, rfl⟩ : b = b' ∧ off = off' := by simpa using hb'
    right
    refine ⟨b, _, rfl, hb, hlt, fun i x hx => ?_⟩
    rw [List.getElem?_drop] at hx
    obtain ⟨cs, h1, h2⟩ := he (m + i) x hx
    refine ⟨cs, h1, fun j c hc => ?_⟩
    have := h2 j c hc
    rwa [show off + (m + i) * s.size + j = off + m * s.size + i * s.size + j by rw [Nat.add_mul]; omega] at this

end Go.St

/-
  The plain data of the program as Lean data, and how each lies in cells.
-/
namespace Go.St
open Go.RowKit

structure Link where
  a : Int
  b : Int
  cost : Int
deriving DecidableEq

structure Topo where
  n : Int
  links : List Link
deriving DecidableEq

structure Flow where
  src : Int
  dst : Int
  via : List Int
  no : List Int
deriving DecidableEq

structure Rule where
  ver : Int
  flow : Int
  next : Int
deriving DecidableEq

structure Plan where
  ver : Int
  flows : List Flow
  paths : List (List Int)
deriving DecidableEq

structure Order where
  kind : Int
  num : Int
  ver : Int
  rules : List Rule
  flows : List Int
deriving DecidableEq

structure To where
  sw : Int
  order : Order
deriving DecidableEq

structure Stamp where
  flow : Int
  ver : Int
deriving DecidableEq

structure Switch where
  rules : List Rule
  stamps : List Stamp
deriving DecidableEq

structure Packet where
  flow : Int
  ver : Int
  trace : List Int
  done : Bool
deriving DecidableEq

structure Ctl where
  stage : Int
  now : Plan
  next : Plan
  num : Int
  waits : List Int
deriving DecidableEq

structure Do where
  kind : Int
  n : Int
  flows : List Flow
deriving DecidableEq

structure Net where
  ctl : Ctl
  switches : List Switch
  orders : List (List Order)
  backs : List (List Int)
  packets : List Packet
  plans : List Plan
deriving DecidableEq

def linkS : Shape Link where
  size := 3
  rep _ _ cs l := cs = [.int .i64 l.a, .int .i64 l.b, .int .i64 l.cost] ∧ I64 l.a ∧ I64 l.b ∧ I64 l.cost
  len h := by rw [h.1]; rfl
  one h := by rw [h.1]; simp [Value.oneCell']
  mono h _ := h

def ruleS : Shape Rule where
  size := 3
  rep _ _ cs r := cs = [.int .i64 r.ver, .int .i64 r.flow, .int .i64 r.next] ∧ I64 r.ver ∧ I64 r.flow ∧ I64 r.next
  len h := by rw [h.1]; rfl
  one h := by rw [h.1]; simp [Value.oneCell']
  mono h _ := h

def stampS : Shape Stamp where
  size := 2
  rep _ _ cs r := cs = [.int .i64 r.flow, .int .i64 r.ver] ∧ I64 r.flow ∧ I64 r.ver
  len h := by rw [h.1]; rfl
  one h := by rw [h.1]; simp [Value.oneCell']
  mono h _ := h

def topoS : Shape Topo where
  size := 2
  rep ok w cs t := ∃ ao cap, cs = [.int .i64 t.n, .slice ao t.links.length cap] ∧ I64 t.n ∧ rowRep linkS ok w ao cap t.links
  len h := by obtain ⟨_, _, rfl, _⟩ := h; rfl
  one h := by obtain ⟨_, _, rfl, _⟩ := h; simp [Value.oneCell']
  mono h hk := by
    obtain ⟨ao, cap, rfl, h1, h2⟩ := h
    exact ⟨ao, cap, rfl, h1, h2.mono hk⟩

def flowS : Shape Flow where
  size := 4
  rep ok w cs f := ∃ va vc na nc, cs = [.int .i64 f.src, .int .i64 f.dst, .slice va f.via.length vc, .slice na f.no.length nc] ∧ I64 f.src ∧ I64 f.dst ∧ rowRep intS ok w va vc f.via ∧ rowRep intS ok w na nc f.no
  len h := by obtain ⟨_, _, _, _, rfl, _⟩ := h; rfl
  one h := by obtain ⟨_, _, _, _, rfl, _⟩ := h; simp [Value.oneCell']
  mono h hk := by
    obtain ⟨va, vc, na, nc, rfl, h1, h2, h3, h4⟩ := h
    exact ⟨va, vc, na, nc, rfl, h1, h2, h3.mono hk, h4.mono hk⟩

def orderS : Shape Order where
  size := 5
  rep ok w cs o := ∃ ra rc fa fc, cs = [.int .i64 o.kind, .int .i64 o.num, .int .i64 o.ver, .slice ra o.rules.length rc, .slice fa o.flows.length fc] ∧
    I64 o.kind ∧ I64 o.num ∧ I64 o.ver ∧ rowRep ruleS ok w ra rc o.rules ∧ rowRep intS ok w fa fc o.flows
  len h := by obtain ⟨_, _, _, _, rfl, _⟩ := h; rfl
  one h := by obtain ⟨_, _, _, _, rfl, _⟩ := h; simp [Value.oneCell']
  mono h hk := by
    obtain ⟨va, vc, na, nc, rfl, h1, h2, h3, h4, h5⟩ := h
    exact ⟨va, vc, na, nc, rfl, h1, h2, h3, h4.mono hk, h5.mono hk⟩

def toS : Shape To where
  size := 6
  rep ok w cs t := ∃ ds, cs = .int .i64 t.sw :: ds ∧ I64 t.sw ∧ orderS.rep ok w ds t.order
  len h := by obtain ⟨_, rfl, _, h⟩ := h; simp [orderS.len h]; rfl
  one h := by
    obtain ⟨_, rfl, _, h⟩ := h
    intro c hc
    rcases List.mem_cons.1 hc with rfl | hc
    · rfl
    · exact orderS.one h c hc
  mono h hk := by
    obtain ⟨ds, rfl, h1, h⟩ := h
    exact ⟨ds, rfl, h1, orderS.mono h hk⟩

def planS : Shape Plan where
  size := 3
  rep ok w cs p := ∃ fa fc pa pc, cs = [.int .i64 p.ver, .slice fa p.flows.length fc, .slice pa p.paths.length pc] ∧ I64 p.ver ∧ rowRep flowS ok w fa fc p.flows ∧ rowRep (sliceS intS) ok w pa pc p.paths
  len h := by obtain ⟨_, _, _, _, rfl, _⟩ := h; rfl
  one h := by obtain ⟨_, _, _, _, rfl, _⟩ := h; simp [Value.oneCell']
  mono h hk := by
    obtain ⟨va, vc, na, nc, rfl, h1, h2, h3⟩ := h
    exact ⟨va, vc, na, nc, rfl, h1, h2.mono hk, h3.mono hk⟩

def switchS : Shape Switch where
  size := 2
  rep ok w cs s := ∃ ra rc sa sc, cs = [.slice ra s.rules.length rc, .slice sa s.stamps.length sc] ∧ rowRep ruleS ok w ra rc s.rules ∧ rowRep stampS ok w sa sc s.stamps
  len h := by obtain ⟨_, _, _, _, rfl, _⟩ := h; rfl
  one h := by obtain ⟨_, _, _, _, rfl, _⟩ := h; simp [Value.oneCell']
  mono h hk := by
    obtain ⟨va, vc, na, nc, rfl, h2, h3⟩ := h
    exact ⟨va, vc, na, nc, rfl, h2.mono hk, h3.mono hk⟩

def packetS : Shape Packet where
  size := 4
  rep ok w cs p := ∃ ta tc, cs = [.int .i64 p.flow, .int .i64 p.ver, .slice ta p.trace.length tc, .bool p.done] ∧ I64 p.flow ∧ I64 p.ver ∧ rowRep intS ok w ta tc p.trace
  len h := by obtain ⟨_, _, rfl, _⟩ := h; rfl
  one h := by obtain ⟨_, _, rfl, _⟩ := h; simp [Value.oneCell']
  mono h hk := by
    obtain ⟨ta, tc, rfl, h1, h2, h3⟩ := h
    exact ⟨ta, tc, rfl, h1, h2, h3.mono hk⟩

def ctlS : Shape Ctl where
  size := 9
  rep ok w cs c := ∃ ns xs wa wc, cs = .int .i64 c.stage :: (ns ++ xs ++ [.int .i64 c.num, .slice wa c.waits.length wc]) ∧ I64 c.stage ∧ I64 c.num ∧ planS.rep ok w ns c.now ∧ planS.rep ok w xs c.next ∧ rowRep intS ok w wa wc c.waits
  len h := by obtain ⟨_, _, _, _, rfl, _, _, h1, h2, _⟩ := h; simp [planS.len h1, planS.len h2]; rfl
  one h := by
    obtain ⟨_, _, _, _, rfl, _, _, h1, h2, _⟩ := h
    intro c hc
    simp only [List.mem_cons, List.mem_append, List.not_mem_nil, or_false] at hc
    rcases hc with rfl | (hc | hc) | rfl | rfl
    · rfl
    · exact planS.one h1 c hc
    · exact planS.one h2 c hc
    · rfl
    · rfl
  mono h hk := by
    obtain ⟨ns, xs, wa, wc, rfl, h1, h2, h3, h4, h5⟩ := h
    exact ⟨ns, xs, wa, wc, rfl, h1, h2, planS.mono h3 hk, planS.mono h4 hk, h5.mono hk⟩

def doS : Shape Do where
  size := 3
  rep ok w cs d := ∃ fa fc, cs = [.int .i64 d.kind, .int .i64 d.n, .slice fa d.flows.length fc] ∧ I64 d.kind ∧ I64 d.n ∧ rowRep flowS ok w fa fc d.flows
  len h := by obtain ⟨_, _, rfl, _⟩ := h; rfl
  one h := by obtain ⟨_, _, rfl, _⟩ := h; simp [Value.oneCell']
  mono h hk := by
    obtain ⟨fa, fc, rfl, h1, h2, h3⟩ := h
    exact ⟨fa, fc, rfl, h1, h2, h3.mono hk⟩

def netS : Shape Net where
  size := 14
  rep ok w cs n := ∃ ks sa sc oa oc ba bc pa pc la lc, cs = ks ++ [.slice sa n.switches.length sc, .slice oa n.orders.length oc, .slice ba n.backs.length bc, .slice pa n.packets.length pc, .slice la n.plans.length lc] ∧
    ctlS.rep ok w ks n.ctl ∧ rowRep switchS ok w sa sc n.switches ∧ rowRep (sliceS orderS) ok w oa oc n.orders ∧ rowRep (sliceS intS) ok w ba bc n.backs ∧ rowRep packetS ok w pa pc n.packets ∧ rowRep planS ok w la lc n.plans
  len h := by obtain ⟨_, _, _, _, _, _, _, _, _, _, _, rfl, h, _⟩ := h; simp [ctlS.len h]; rfl
  one h := by
    obtain ⟨_, _, _, _, _, _, _, _, _, _, _, rfl, h, _⟩ := h
    intro c hc
    simp only [List.mem_cons, List.mem_append, List.not_mem_nil, or_false] at hc
    rcases hc with hc | rfl | rfl | rfl | rfl | rfl
    · exact ctlS.one h c hc
    all_goals rfl
  mono h hk := by
    obtain ⟨ks, sa, sc, oa, oc, ba, bc, pa, pc, la, lc, rfl, h1, h2, h3, h4, h5, h6⟩ := h
    exact ⟨ks, sa, sc, oa, oc, ba, bc, pa, pc, la, lc, rfl, ctlS.mono h1 hk, h2.mono hk, h3.mono hk, h4.mono hk, h5.mono hk, h6.mono hk⟩

end Go.St

/-
  Stable sorting of lists, plainly: rearrangements that keep each class in its order.
-/
set_option linter.unusedSimpArgs false
set_option linter.unusedVariables false
namespace Go.St

/-- an order up to classes -/
structure Weak {α : Type} (lt : α → α → Bool) : Prop where
  irr : ∀ a, lt a a = false
  tra : ∀ {a b c}, lt a b = true → lt b c = true → lt a c = true
  neg : ∀ {a b c}, lt a b = false → lt b c = false → lt a c = false

variable {α : Type} {lt : α → α → Bool}

def eqv (lt : α → α → Bool) (r x : α) : Bool := !lt r x && !lt x r
theorem eqv_iff {r x : α} : eqv lt r x = true ↔ lt r x = false ∧ lt x r = false := by simp [eqv]
/-- each class in its old order -/
def Stab (lt : α → α → Bool) (xs ys : List α) : Prop := ∀ r, ys.filter (eqv lt r) = xs.filter (eqv lt r)
/-- sorted -/
def Srt (lt : α → α → Bool) (xs : List α) : Prop := xs.Pairwise fun a b => lt b a = false

theorem Stab.refl (xs : List α) : Stab lt xs xs := fun _ => rfl
theorem Stab.trans {xs ys zs : List α} (h : Stab lt xs ys) (g : Stab lt ys zs) : Stab lt xs zs := fun r => (g r).trans (h r)
theorem Stab.append {xs ys us vs : List α} (h : Stab lt xs ys) (g : Stab lt us vs) : Stab lt (xs ++ us) (ys ++ vs) := fun r => by
  rw [List.filter_append, List.filter_append, h r, g r]
theorem Stab.mid {u w : List α} (h : Stab lt u w) (p s : List α) : Stab lt (p ++ u ++ s) (p ++ w ++ s) := ((Stab.refl p).append h).append (Stab.refl s)
theorem eqv_trans (W : Weak lt) {r x y : α} (h : eqv lt r x = true) (g : eqv lt r y = true) : lt x y = false :=
  W.neg (eqv_iff.1 h).2 (eqv_iff.1 g).1
theorem Stab.mem (W : Weak lt) {xs ys : List α} (h : Stab lt xs ys) {x : α} : x ∈ ys ↔ x ∈ xs := by
  have hx : eqv lt x x = true := eqv_iff.2 ⟨W.irr x, W.irr x⟩
  have : x ∈ ys.filter (eqv lt x) ↔ x ∈ xs.filter (eqv lt x) := by rw [h x]
  simpa [List.mem_filter, hx] using this
/-- one behind the other, where all of the second are less -/
theorem Stab.swap (W : Weak lt) {u v : List α} (h : ∀ x ∈ u, ∀ y ∈ v, lt y x = true) : Stab lt (u ++ v) (v ++ u) := fun r => by
  rw [List.filter_append, List.filter_append]
  by_cases hu : u.filter (eqv lt r) = []
  · rw [hu]; simp
  · have hv : v.filter (eqv lt r) = [] := by
      rw [List.filter_eq_nil_iff]
      intro y hy hyr
      obtain ⟨x, hx⟩ := List.exists_mem_of_ne_nil _ hu
      obtain ⟨hx1, hx2⟩ := List.mem_filter.1 hx
      have := eqv_trans W hyr hx2
      rw [h x hx1 y hy] at this; exact absurd this (by decide)
    rw [hv]; simp

theorem Srt.nil : Srt lt ([] : List α) := List.Pairwise.nil
theorem Srt.one (x : α) : Srt lt [x] := List.pairwise_singleton _ _
theorem Srt.append {u v : List α} : Srt lt (u ++ v) ↔ Srt lt u ∧ Srt lt v ∧ ∀ x ∈ u, ∀ y ∈ v, lt y x = false := List.pairwise_append

/-- there is one such list alone -/
theorem Stab.uniq (W : Weak lt) : ∀ {ys zs : List α}, Stab lt ys zs → Srt lt ys → Srt lt zs → ys = zs
  | [], zs, h, _, _ => by
    cases zs with
    | nil => rfl
    | cons z zs => exact absurd ((h.mem W).1 (List.mem_cons_self ..)) (by simp)
  | y :: ys, zs, h, h1, h2 => by
    cases zs with
    | nil => exact absurd ((h.mem W).2 (List.mem_cons_self ..)) (by simp)
    | cons z zs =>
      have a1 := (List.pairwise_cons.1 h1).1
      have a2 := (List.pairwise_cons.1 h2).1
      have hzy : lt z y = false := by
        rcases List.mem_cons.1 ((h.mem W).2 (List.mem_cons_self (a := y))) with e | e
        · subst e; exact W.irr _
        · exact (fun hh => hh) (by
            have := a2 y e
            rcases List.mem_cons.1 ((h.mem W).1 (List.mem_cons_self (a := z))) with e' | e'
            · subst e'; exact W.irr _
            · exact a1 z e')
      have hyz : lt y z = false := by
        rcases List.mem_cons.1 ((h.mem W).2 (List.mem_cons_self (a := y))) with e | e
        · subst e; exact W.irr _
        · exact a2 y e
      have hy : eqv lt y y = true := eqv_iff.2 ⟨W.irr y, W.irr y⟩
      have hz : eqv lt y z = true := eqv_iff.2 ⟨hyz, hzy⟩
      have e0 := h y
      rw [List.filter_cons_of_pos hz, List.filter_cons_of_pos hy] at e0
      have e1 : z = y := (List.cons.inj e0).1
      subst e1
      have ht : Stab lt ys zs := fun r => by
        have := h r
        by_cases hr : eqv lt r z = true
        · rw [List.filter_cons_of_pos hr, List.filter_cons_of_pos hr] at this; exact (List.cons.inj this).2
        · rw [List.filter_cons_of_neg hr, List.filter_cons_of_neg hr] at this; exact this
      rw [ht.uniq W (List.pairwise_cons.1 h1).2 (List.pairwise_cons.1 h2).2]

/-- the spec: x comes behind all that are not greater -/
def ins (lt : α → α → Bool) (x : α) : List α → List α
  | [] => [x]
  | y :: ys => if lt x y then x :: y :: ys else y :: ins lt x ys
theorem ins_mem {x z : α} : ∀ {ys : List α}, z ∈ ins lt x ys ↔ z = x ∨ z ∈ ys
  | [] => by simp [ins]
  | y :: ys => by
    unfold ins; split
    · simp
    · simp only [List.mem_cons, ins_mem (ys := ys)]
      constructor
      · rintro (h | h | h) <;> simp [h]
      · rintro (h | h | h) <;> simp [h]
theorem ins_srt (W : Weak lt) {x : α} : ∀ {ys : List α}, Srt lt ys → Srt lt (ins lt x ys)
  | [], _ => Srt.one x
  | y :: ys, h => by
    obtain ⟨h1, h2⟩ := List.pairwise_cons.1 h
    unfold ins; split
    case isTrue hx =>
      refine List.pairwise_cons.2 ⟨fun z hz => ?_, h⟩
      have hyx : lt y x = false := by
        cases hh : lt y x with
        | false => rfl
        | true => have := W.tra hx hh; rw [W.irr] at this; exact absurd this (by decide)
      rcases List.mem_cons.1 hz with rfl | hz
      · exact hyx
      · exact W.neg (h1 z hz) hyx
    case isFalse hx =>
      refine List.pairwise_cons.2 ⟨fun z hz => ?_, ins_srt W h2⟩
      rcases ins_mem.1 hz with rfl | hz
      · simpa using hx
      · exact h1 z hz
theorem ins_stab (W : Weak lt) {x : α} : ∀ {ys : List α}, Srt lt ys → Stab lt (ys ++ [x]) (ins lt x ys)
  | [], _ => Stab.refl _
  | y :: ys, h => by
    obtain ⟨h1, h2⟩ := List.pairwise_cons.1 h
    unfold ins; split
    case isTrue hx =>
      refine Stab.swap W (u := y :: ys) (v := [x]) fun a ha b hb => ?_
      obtain rfl : b = x := by simpa using hb
      rcases List.mem_cons.1 ha with rfl | ha
      · exact hx
      · cases hh : lt b a with
        | true => rfl
        | false => have := W.neg hh (h1 a ha); rw [hx] at this; exact absurd this (by decide)
    case isFalse hx => exact (Stab.refl [y]).append (ins_stab W h2)
/-- stable sorting -/
def ssort (lt : α → α → Bool) (xs : List α) : List α := xs.foldl (fun s x => ins lt x s) []
theorem ssort_go (W : Weak lt) : ∀ (xs s : List α), Srt lt s → Srt lt (xs.foldl (fun s x => ins lt x s) s) ∧ Stab lt (s ++ xs) (xs.foldl (fun s x => ins lt x s) s)
  | [], s, h => ⟨h, by rw [List.append_nil]; exact Stab.refl _⟩
  | x :: xs, s, h => by
    obtain ⟨h1, h2⟩ := ssort_go W xs (ins lt x s) (ins_srt W h)
    refine ⟨h1, fun r => ?_⟩
    rw [List.foldl_cons, h2 r, List.filter_append, ins_stab W h r]
    simp [List.filter_append, List.append_assoc, List.filter_cons]
    split <;> simp
theorem ssort_srt (W : Weak lt) (xs : List α) : Srt lt (ssort lt xs) := (ssort_go W xs [] Srt.nil).1
theorem ssort_stab (W : Weak lt) (xs : List α) : Stab lt xs (ssort lt xs) := (ssort_go W xs [] Srt.nil).2
/-- what is sorted and stable is that -/
theorem ssort_eq (W : Weak lt) {xs ys : List α} (h : Stab lt xs ys) (hs : Srt lt ys) : ys = ssort lt xs :=
  Stab.uniq W (Stab.trans (fun r => (h r).symm) (ssort_stab W xs)) hs (ssort_srt W xs)
theorem ssort_append (W : Weak lt) (xs ys : List α) : ssort lt (xs ++ ys) = ys.foldl (fun s x => ins lt x s) (ssort lt xs) := List.foldl_append ..
theorem ssort_sorted (W : Weak lt) {xs : List α} (h : Srt lt xs) : ssort lt xs = xs := (ssort_eq W (Stab.refl xs) h).symm
end Go.St

/-
  Merging in place, plainly.
-/
set_option linter.unusedSimpArgs false
set_option linter.unusedVariables false
namespace Go.St
variable {α : Type} {lt : α → α → Bool}

theorem Weak.not_rev (W : Weak lt) {a b : α} (h : lt a b = true) : lt b a = false := by
  cases hh : lt b a with
  | false => rfl
  | true => have := W.tra h hh; rw [W.irr] at this; exact absurd this (by decide)
theorem Weak.lt_le (W : Weak lt) {a b c : α} (h : lt a b = true) (g : lt c b = false) : lt a c = true := by
  cases hh : lt a c with
  | true => rfl
  | false => have := W.neg hh g; rw [h] at this; exact absurd this (by decide)
theorem Weak.le_lt (W : Weak lt) {a b c : α} (h : lt b a = false) (g : lt b c = true) : lt a c = true := by
  cases hh : lt a c with
  | true => rfl
  | false => have := W.neg h hh; rw [g] at this; exact absurd this (by decide)

/-- four parts, the middle ones exchanged, each half then sorted -/
theorem merge_parts (W : Weak lt) {u1 u2 v1 v2 w1 w2 : List α} (hu : Srt lt (u1 ++ u2)) (hv : Srt lt (v1 ++ v2)) (h1 : ∀ x ∈ u1, ∀ y ∈ v2, lt y x = false) (h2 : ∀ x ∈ u2, ∀ y ∈ v1, lt y x = true)
    (s1 : Stab lt (u1 ++ v1) w1) (s2 : Stab lt (u2 ++ v2) w2) (o1 : Srt lt w1) (o2 : Srt lt w2) : Stab lt ((u1 ++ u2) ++ (v1 ++ v2)) (w1 ++ w2) ∧ Srt lt (w1 ++ w2) := by
  obtain ⟨_, _, hu3⟩ := Srt.append.1 hu
  obtain ⟨_, _, hv3⟩ := Srt.append.1 hv
  constructor
  · have a1 : Stab lt (u1 ++ (u2 ++ v1) ++ v2) (u1 ++ (v1 ++ u2) ++ v2) := Stab.mid (Stab.swap W h2) _ _
    have a2 : Stab lt ((u1 ++ v1) ++ (u2 ++ v2)) (w1 ++ w2) := s1.append s2
    have e1 : (u1 ++ u2) ++ (v1 ++ v2) = u1 ++ (u2 ++ v1) ++ v2 := by simp
    have e2 : (u1 ++ v1) ++ (u2 ++ v2) = u1 ++ (v1 ++ u2) ++ v2 := by simp
    rw [e1]; rw [e2] at a2; exact a1.trans a2
  · refine Srt.append.2 ⟨o1, o2, fun x hx y hy => ?_⟩
    rcases List.mem_append.1 ((s1.mem W).1 hx) with hx | hx <;> rcases List.mem_append.1 ((s2.mem W).1 hy) with hy | hy
    · exact hu3 x hx y hy
    · exact h1 x hx y hy
    · exact W.not_rev (h2 y hy x hx)
    · exact hv3 x hx y hy

/-- from the bounds' neighbours to all -/
theorem le_cross (W : Weak lt) {u v : List α} (hu : Srt lt u) (hv : Srt lt v) (h : ∀ x y, u.getLast? = some x → v.head? = some y → lt y x = false) : ∀ x ∈ u, ∀ y ∈ v, lt y x = false := by
  intro x hx y hy
  obtain ⟨v0, vs, rfl⟩ : ∃ v0 vs, v = v0 :: vs := by cases v with | nil => simp at hy | cons a b => exact ⟨_, _, rfl⟩
  obtain ⟨us, ul, rfl⟩ : ∃ us ul, u = us ++ [ul] := by
    rcases List.eq_nil_or_concat u with e | ⟨us, ul, e⟩
    · subst e; simp at hx
    · exact ⟨us, ul, by rw [e]; simp⟩
  have h0 := h ul v0 (by simp) (by simp)
  have hxl : lt ul x = false := by
    rcases List.mem_append.1 hx with hx | hx
    · exact (Srt.append.1 hu).2.2 x hx ul (by simp)
    · obtain rfl : x = ul := by simpa using hx
      exact W.irr _
  have hyv : lt y v0 = false := by
    rcases List.mem_cons.1 hy with rfl | hy
    · exact W.irr _
    · exact (List.pairwise_cons.1 hv).1 y hy
  exact W.neg hyv (W.neg h0 hxl)
theorem lt_cross (W : Weak lt) {u v : List α} (hu : Srt lt u) (hv : Srt lt v) (h : ∀ x y, u.head? = some x → v.getLast? = some y → lt y x = true) : ∀ x ∈ u, ∀ y ∈ v, lt y x = true := by
  intro x hx y hy
  obtain ⟨u0, us, rfl⟩ : ∃ v0 vs, u = v0 :: vs := by cases u with | nil => simp at hx | cons a b => exact ⟨_, _, rfl⟩
  obtain ⟨vs, vl, rfl⟩ : ∃ us ul, v = us ++ [ul] := by
    rcases List.eq_nil_or_concat v with e | ⟨us, ul, e⟩
    · subst e; simp at hy
    · exact ⟨us, ul, by rw [e]; simp⟩
  have h0 := h u0 vl (by simp) (by simp)
  have hyl : lt vl y = false := by
    rcases List.mem_append.1 hy with hy | hy
    · exact (Srt.append.1 hv).2.2 y hy vl (by simp)
    · obtain rfl : y = vl := by simpa using hy
      exact W.irr _
  have hxu : lt x u0 = false := by
    rcases List.mem_cons.1 hx with rfl | hx
    · exact W.irr _
    · exact (List.pairwise_cons.1 hu).1 x hx
  exact W.lt_le (W.le_lt hyl h0) hxu

/-- one that comes into a sorted list -/
theorem merge_left (W : Weak lt) {x : α} {v1 v2 : List α} (hv : Srt lt (v1 ++ v2)) (h1 : ∀ y ∈ v1, lt y x = true) (h2 : ∀ y ∈ v2, lt y x = false) : Stab lt ([x] ++ (v1 ++ v2)) (v1 ++ ([x] ++ v2)) ∧ Srt lt (v1 ++ ([x] ++ v2)) := by
  obtain ⟨o1, o2, _⟩ := Srt.append.1 hv
  exact merge_parts W (u1 := []) (u2 := [x]) (v1 := v1) (v2 := v2) (w1 := v1) (w2 := [x] ++ v2) (Srt.one x) hv (by simp) (by simpa using h1) (Stab.refl _) (Stab.refl _) o1 (Srt.append.2 ⟨Srt.one x, o2, by simpa using h2⟩)
theorem merge_right (W : Weak lt) {y : α} {u1 u2 : List α} (hu : Srt lt (u1 ++ u2)) (h1 : ∀ x ∈ u1, lt y x = false) (h2 : ∀ x ∈ u2, lt y x = true) : Stab lt ((u1 ++ u2) ++ [y]) ((u1 ++ [y]) ++ u2) ∧ Srt lt ((u1 ++ [y]) ++ u2) := by
  obtain ⟨o1, o2, _⟩ := Srt.append.1 hu
  have := merge_parts W (u1 := u1) (u2 := u2) (v1 := [y]) (v2 := []) (w1 := u1 ++ [y]) (w2 := u2) hu (Srt.one y) (by simp) (by simpa using h2) (Stab.refl _) (by rw [List.append_nil]; exact Stab.refl _) (Srt.append.2 ⟨o1, Srt.one y, by simpa using h1⟩) o2
  simpa using this
end Go.St

/-
  Tables of rules, plainly.
-/
set_option linter.unusedSimpArgs false
set_option linter.unusedVariables false
namespace Go.St

def ruleLt (a b : Rule) : Bool := decide (a.ver < b.ver ∨ (a.ver = b.ver ∧ a.flow < b.flow))
theorem ruleLt_iff {a b : Rule} : ruleLt a b = true ↔ a.ver < b.ver ∨ (a.ver = b.ver ∧ a.flow < b.flow) := by simp [ruleLt]
theorem ruleLt_not {a b : Rule} : ruleLt a b = false ↔ b.ver < a.ver ∨ (a.ver = b.ver ∧ b.flow ≤ a.flow) := by
  simp only [ruleLt, decide_eq_false_iff_not]; omega
theorem ruleLt_weak : Weak ruleLt where
  irr a := by rw [ruleLt_not]; omega
  tra h g := by rw [ruleLt_iff] at *; omega
  neg h g := by rw [ruleLt_not] at *; omega

/-- the code's comparison -/
def cmpI (x y : Int) : Int := if x < y then -1 else if y < x then 1 else 0
def orderOf (a b : Rule) : Int := if cmpI a.ver b.ver ≠ 0 then cmpI a.ver b.ver else cmpI a.flow b.flow
theorem orderOf_lt (a b : Rule) : orderOf a b < 0 ↔ ruleLt a b = true := by
  rw [ruleLt_iff]; unfold orderOf cmpI
  by_cases h1 : a.ver < b.ver
  · rw [if_pos h1, if_pos (by decide)]; omega
  by_cases h2 : b.ver < a.ver
  · rw [if_neg h1, if_pos h2, if_pos (by decide)]; omega
  rw [if_neg h1, if_neg h2, if_neg (by decide)]
  by_cases h3 : a.flow < b.flow
  · rw [if_pos h3]; omega
  by_cases h4 : b.flow < a.flow
  · rw [if_neg h3, if_pos h4]; omega
  · rw [if_neg h3, if_neg h4]; omega
theorem orderOf_in (a b : Rule) : orderOf a b = -1 ∨ orderOf a b = 0 ∨ orderOf a b = 1 := by
  unfold orderOf cmpI
  repeat' split
  all_goals first | omega | simp_all

def ruleOut (r : Rule) : Prop := r.ver < 1 ∨ 1000 < r.ver ∨ r.flow < 0 ∨ 12 ≤ r.flow ∨ r.next < 0 ∨ 8 ≤ r.next
instance (r : Rule) : Decidable (ruleOut r) := by unfold ruleOut; infer_instance
/-- what is wrong from a rule on, with the one ahead of it -/
def tabGo : Int → Option Rule → List Rule → Int × Int
  | _, _, [] => (0, 0)
  | i, p, r :: l => if ruleOut r then (3, i) else if p.any (fun q => !ruleLt q r) = true then (2, i) else tabGo (i + 1) (some r) l
def tabWrong (l : List Rule) : Int × Int := if 16 < l.length then (10, 0) else tabGo 0 none l
def prevOf (l : List Rule) : Nat → Option Rule
  | 0 => none
  | j + 1 => l[j]?
theorem tab_step {l : List Rule} {j : Nat} {R : Int × Int} {r : Rule} (h : R = tabGo j (prevOf l j) (l.drop j)) (hr : l[j]? = some r) :
    R = if ruleOut r then (3, (j : Int)) else if (prevOf l j).any (fun q => !ruleLt q r) = true then (2, (j : Int)) else tabGo ((j + 1 : Nat) : Int) (prevOf l (j + 1)) (l.drop (j + 1)) := by
  obtain ⟨hj, rfl⟩ := List.getElem?_eq_some_iff.1 hr
  rw [h, List.drop_eq_getElem_cons hj, tabGo]
  simp only [prevOf, List.getElem?_eq_getElem hj]
  rfl
theorem tab_end {l : List Rule} {j : Nat} {R : Int × Int} (h : R = tabGo j (prevOf l j) (l.drop j)) (hj : l.length ≤ j) : R = (0, 0) := by
  rw [h, List.drop_of_length_le hj]; rfl

/-- right tables -/
structure TabOk (l : List Rule) : Prop where
  len : l.length ≤ 16
  rg : ∀ r ∈ l, ¬ ruleOut r
  up : l.Pairwise fun a b => ruleLt a b = true
theorem tabGo_zero : ∀ {l : List Rule} {i : Int} {p : Option Rule}, 0 ≤ i → ((tabGo i p l).1 = 0 ↔ (∀ r ∈ l, ¬ ruleOut r) ∧ (p.toList ++ l).Pairwise (fun a b => ruleLt a b = true))
  | [], i, p, _ => by cases p <;> simp [tabGo]
  | r :: l, i, p, hi => by
    rw [tabGo]
    by_cases h1 : ruleOut r
    · rw [if_pos h1]
      constructor
      · intro h; exact absurd (show (3 : Int) = 0 from h) (by decide)
      · intro h; exact absurd h1 (h.1 r (by simp))
    rw [if_neg h1]
    by_cases h2 : p.any (fun q => !ruleLt q r) = true
    · rw [if_pos h2]
      constructor
      · intro h; exact absurd (show (2 : Int) = 0 from h) (by decide)
      · rintro ⟨_, h⟩
        cases p with
        | none => simp at h2
        | some q =>
          have := (List.pairwise_cons.1 h).1 r (by simp)
          simp [this] at h2
    rw [if_neg h2, tabGo_zero (by omega)]
    have e0 : (∀ x ∈ r :: l, ¬ ruleOut x) ↔ ∀ x ∈ l, ¬ ruleOut x := by simp [h1]
    rw [e0]
    refine and_congr Iff.rfl ?_
    cases p with
    | none => simp
    | some q =>
      have hq : ruleLt q r = true := by simpa using h2
      simp only [Option.toList_some, List.cons_append, List.nil_append]
      constructor
      · intro h
        refine List.pairwise_cons.2 ⟨fun x hx => ?_, h⟩
        rcases List.mem_cons.1 hx with rfl | hx
        · exact hq
        · exact ruleLt_weak.tra hq ((List.pairwise_cons.1 h).1 x hx)
      · intro h; exact (List.pairwise_cons.1 h).2
theorem tab_ok {l : List Rule} : (tabWrong l).1 = 0 ↔ TabOk l := by
  unfold tabWrong
  by_cases h : 16 < l.length
  · rw [if_pos h]
    exact ⟨fun h => absurd h (by decide), fun g => by have := g.len; omega⟩
  · rw [if_neg h, tabGo_zero (by omega)]
    exact ⟨fun g => ⟨by omega, g.1, by simpa using g.2⟩, fun g => ⟨g.rg, by simpa using g.up⟩⟩

def nextOf (l : List Rule) (v f : Int) : Int × Bool := match l.find? (fun r => r.ver == v && r.flow == f) with
  | some r => (r.next, true)
  | none => (0, false)
theorem next_step {l : List Rule} {v f : Int} {j : Nat} {R : Int × Bool} {r : Rule} (h : R = nextOf (l.drop j) v f) (hr : l[j]? = some r) :
    R = if r.ver = v ∧ r.flow = f then (r.next, true) else nextOf (l.drop (j + 1)) v f := by
  obtain ⟨hj, rfl⟩ := List.getElem?_eq_some_iff.1 hr
  rw [h, List.drop_eq_getElem_cons hj]
  by_cases hc : l[j].ver = v ∧ l[j].flow = f
  · rw [if_pos hc]; unfold nextOf; rw [List.find?_cons_of_pos (by simp [hc.1, hc.2])]
  · rw [if_neg hc]; unfold nextOf; rw [List.find?_cons_of_neg (by simpa using hc)]
theorem next_end {l : List Rule} {v f : Int} {j : Nat} {R : Int × Bool} (h : R = nextOf (l.drop j) v f) (hj : l.length ≤ j) : R = (0, false) := by
  rw [h, List.drop_of_length_le hj]; rfl

def dropOf (l : List Rule) (v : Int) : List Rule := l.filter fun r => r.ver != v
theorem dropOf_ok {l : List Rule} (h : TabOk l) (v : Int) : TabOk (dropOf l v) :=
  ⟨Nat.le_trans (List.length_filter_le _ _) h.len, fun r hr => h.rg r (List.mem_filter.1 hr).1, h.up.filter _⟩
theorem next_drop_same (l : List Rule) (v f : Int) : nextOf (dropOf l v) v f = (0, false) := by
  unfold nextOf
  rw [show (dropOf l v).find? (fun r => r.ver == v && r.flow == f) = none from by
    rw [List.find?_eq_none]
    intro r hr
    have := (List.mem_filter.1 hr).2
    simp at this
    simp [this]]
theorem next_drop_other {l : List Rule} {v o f : Int} (h : o ≠ v) : nextOf (dropOf l v) o f = nextOf l o f := by
  unfold nextOf
  have : (dropOf l v).find? (fun r => r.ver == o && r.flow == f) = l.find? (fun r => r.ver == o && r.flow == f) := by
    unfold dropOf
    rw [List.find?_filter]
    congr 1
    funext r
    by_cases h1 : r.ver = o
    · subst h1; simp [h]; rfl
    · simp [h1]
  rw [this]
end Go.St

/-
  More rules in a table, plainly.
-/
set_option linter.unusedSimpArgs false
set_option linter.unusedVariables false
namespace Go.St

/-- what differs from the one ahead of it -/
def compGo : Rule → List Rule → List Rule
  | _, [] => []
  | p, r :: l => if r = p then compGo r l else r :: compGo r l
def comp : List Rule → List Rule
  | [] => []
  | r :: l => r :: compGo r l
theorem compGo_sub : ∀ (l : List Rule) (p : Rule), (compGo p l).Sublist l
  | [], _ => List.Sublist.slnil
  | r :: l, p => by
    rw [compGo]; split
    · exact (compGo_sub l r).cons r
    · exact (compGo_sub l r).cons_cons r
theorem comp_sub : ∀ l : List Rule, (comp l).Sublist l
  | [] => List.Sublist.slnil
  | r :: l => (compGo_sub l r).cons_cons r
theorem compGo_mem : ∀ (l : List Rule) (p x : Rule), x ∈ l → x = p ∨ x ∈ compGo p l
  | [], _, _, h => by simp at h
  | r :: l, p, x, h => by
    rw [compGo]
    rcases List.mem_cons.1 h with rfl | h
    · by_cases e : x = p
      · exact .inl e
      · rw [if_neg e]; exact .inr (by simp)
    · rcases compGo_mem l r x h with rfl | h'
      · by_cases e : x = p
        · exact .inl e
        · rw [if_neg e]; exact .inr (by simp)
      · right; split
        · exact h'
        · exact List.mem_cons_of_mem _ h'
theorem comp_mem (l : List Rule) (x : Rule) : x ∈ comp l ↔ x ∈ l := by
  constructor
  · exact fun h => (comp_sub l).subset h
  · intro h
    cases l with
    | nil => simp at h
    | cons r l =>
      rcases List.mem_cons.1 h with rfl | h
      · simp [comp]
      · rcases compGo_mem l r x h with rfl | h'
        · simp [comp]
        · exact List.mem_cons_of_mem _ h'
/-- sorted, and alike in each class: then it rises -/
theorem compGo_up : ∀ (l : List Rule) (p : Rule), Srt ruleLt (p :: l) → (∀ a ∈ p :: l, ∀ b ∈ p :: l, ruleLt a b = false → ruleLt b a = false → a = b) → (p :: compGo p l).Pairwise (fun a b => ruleLt a b = true)
  | [], p, _, _ => by simp [compGo]
  | r :: l, p, h, hc => by
    obtain ⟨h1, h2⟩ := List.pairwise_cons.1 h
    have ih := compGo_up l r h2 fun a ha b hb => hc a (List.mem_cons_of_mem _ ha) b (List.mem_cons_of_mem _ hb)
    rw [compGo]
    by_cases e : r = p
    · rw [if_pos e]; subst e; exact ih
    · rw [if_neg e]
      have hpr : ruleLt p r = true := by
        cases hh : ruleLt p r with
        | true => rfl
        | false => exact absurd (hc r (by simp) p (by simp) (h1 r (by simp)) hh) e
      refine List.pairwise_cons.2 ⟨fun x hx => ?_, ih⟩
      rcases List.mem_cons.1 hx with rfl | hx
      · exact hpr
      · exact ruleLt_weak.tra hpr ((List.pairwise_cons.1 ih).1 x hx)
theorem comp_up (l : List Rule) (h : Srt ruleLt l) (hc : ∀ a ∈ l, ∀ b ∈ l, ruleLt a b = false → ruleLt b a = false → a = b) : (comp l).Pairwise (fun a b => ruleLt a b = true) := by
  cases l with
  | nil => exact List.Pairwise.nil
  | cons r l => exact compGo_up l r h hc

def outOf (l more : List Rule) : List Rule := comp (ssort ruleLt (l ++ more))
def addOf (l more : List Rule) : List Rule × Int :=
  if (tabWrong l).1 ≠ 0 then ([], (tabWrong l).1) else if (tabWrong (outOf l more)).1 ≠ 0 then ([], (tabWrong (outOf l more)).1) else (outOf l more, 0)
theorem add_bad {l more : List Rule} (h : (addOf l more).2 ≠ 0) : (addOf l more).1 = [] := by
  unfold addOf at *
  by_cases h1 : (tabWrong l).1 ≠ 0
  · rw [if_pos h1]
  rw [if_neg h1] at h ⊢
  by_cases h2 : (tabWrong (outOf l more)).1 ≠ 0
  · rw [if_pos h2]
  · rw [if_neg h2] at h; exact absurd rfl h
theorem add_good {l more : List Rule} (h : (addOf l more).2 = 0) : (addOf l more).1 = outOf l more ∧ TabOk l ∧ TabOk (outOf l more) := by
  unfold addOf at *
  by_cases h1 : (tabWrong l).1 ≠ 0
  · rw [if_pos h1] at h; exact absurd h h1
  rw [if_neg h1] at h ⊢
  by_cases h2 : (tabWrong (outOf l more)).1 ≠ 0
  · rw [if_pos h2] at h; exact absurd h h2
  · rw [if_neg h2]; exact ⟨rfl, tab_ok.1 (by simpa using h1), tab_ok.1 (by simpa using h2)⟩
theorem out_mem (l more : List Rule) (x : Rule) : x ∈ outOf l more ↔ x ∈ l ∨ x ∈ more := by
  unfold outOf
  rw [comp_mem, (ssort_stab ruleLt_weak (l ++ more)).mem ruleLt_weak, List.mem_append]
theorem out_len (l more : List Rule) : (outOf l more).length ≤ l.length + more.length := by
  have h1 := (comp_sub (ssort ruleLt (l ++ more))).length_le
  have h2 : ∀ (xs s : List Rule), (xs.foldl (fun s x => ins ruleLt x s) s).length = s.length + xs.length := by
    have hi : ∀ (x : Rule) (s : List Rule), (ins ruleLt x s).length = s.length + 1 := by
      intro x s
      induction s with
      | nil => rfl
      | cons y ys ih => unfold ins; split <;> simp [ih]
    intro xs
    induction xs with
    | nil => intro s; rfl
    | cons x xs ih => intro s; rw [List.foldl_cons, ih, hi]; simp; omega
  have h3 : (ssort ruleLt (l ++ more)).length = (l ++ more).length := by unfold ssort; rw [h2]; simp
  rw [h3, List.length_append] at h1
  exact h1
/-- one of each class alone -/
theorem up_one {m : List Rule} (h : m.Pairwise fun a b => ruleLt a b = true) {a b : Rule} (ha : a ∈ m) (hb : b ∈ m) (h1 : ruleLt a b = false) (h2 : ruleLt b a = false) : a = b := by
  induction m with
  | nil => simp at ha
  | cons x m ih =>
    obtain ⟨g1, g2⟩ := List.pairwise_cons.1 h
    rcases List.mem_cons.1 ha with ea | ha' <;> rcases List.mem_cons.1 hb with eb | hb'
    · rw [ea, eb]
    · rw [ea, g1 b hb'] at h1; exact absurd h1 (by decide)
    · rw [eb, g1 a ha'] at h2; exact absurd h2 (by decide)
    · exact ih g2 ha' hb'
theorem up_next {m : List Rule} (h : m.Pairwise fun a b => ruleLt a b = true) {r : Rule} (hr : r ∈ m) : nextOf m r.ver r.flow = (r.next, true) := by
  unfold nextOf
  cases hf : m.find? (fun x => x.ver == r.ver && x.flow == r.flow) with
  | none =>
    have := List.find?_eq_none.1 hf r hr
    simp at this
  | some x =>
    have h1 := List.find?_some hf
    have h2 := List.mem_of_find?_eq_some hf
    simp at h1
    have : x = r := up_one h h2 hr (by rw [ruleLt_not]; omega) (by rw [ruleLt_not]; omega)
    subst this; rfl
/-- two that rise, with the same members, are one -/
theorem up_ext : ∀ {a b : List Rule}, a.Pairwise (fun x y => ruleLt x y = true) → b.Pairwise (fun x y => ruleLt x y = true) → (∀ x, x ∈ a ↔ x ∈ b) → a = b
  | [], b, _, _, h => by
    cases b with
    | nil => rfl
    | cons y b => exact absurd ((h y).2 (by simp)) (by simp)
  | x :: a, b, h1, h2, h => by
    cases b with
    | nil => exact absurd ((h x).1 (by simp)) (by simp)
    | cons y b =>
      obtain ⟨a1, a2⟩ := List.pairwise_cons.1 h1
      obtain ⟨b1, b2⟩ := List.pairwise_cons.1 h2
      have e : x = y := by
        rcases List.mem_cons.1 ((h x).1 (by simp)) with e | hx
        · exact e
        rcases List.mem_cons.1 ((h y).2 (by simp)) with e | hy
        · exact e.symm
        have g1 := b1 x hx
        have g2 := ruleLt_weak.tra g1 (a1 y hy)
        rw [ruleLt_weak.irr] at g2; exact absurd g2 (by decide)
      subst e
      congr 1
      refine up_ext a2 b2 fun z => ?_
      have hz := h z
      simp only [List.mem_cons] at hz
      constructor
      · intro hza
        rcases hz.1 (.inr hza) with rfl | hzb
        · have := a1 z hza; rw [ruleLt_weak.irr] at this; exact absurd this (by decide)
        · exact hzb
      · intro hzb
        rcases hz.2 (.inr hzb) with rfl | hza
        · have := b1 z hzb; rw [ruleLt_weak.irr] at this; exact absurd this (by decide)
        · exact hza
/-- added again it is the same -/
theorem add_again {l more : List Rule} (h : (addOf l more).2 = 0) : addOf (outOf l more) more = (outOf l more, 0) := by
  obtain ⟨_, _, hm⟩ := add_good h
  have e : outOf (outOf l more) more = outOf l more := by
    refine up_ext (comp_up _ (ssort_srt ruleLt_weak _) fun a ha b hb h1 h2 => ?_) hm.up fun x => ?_
    · have hs : ∀ x, x ∈ ssort ruleLt (outOf l more ++ more) → x ∈ outOf l more := fun x hx => by
        rw [(ssort_stab ruleLt_weak _).mem ruleLt_weak, List.mem_append] at hx
        rcases hx with hx | hx
        · exact hx
        · exact (out_mem l more x).2 (.inr hx)
      exact up_one hm.up (hs a ha) (hs b hb) h1 h2
    · rw [out_mem, out_mem]
      constructor
      · rintro (h | h)
        · exact h
        · exact .inr h
      · intro h; exact .inl h
  have z := tab_ok.2 hm
  unfold addOf
  rw [e, if_neg (by simp [z]), if_neg (by simp [z])]
end Go.St

/-
  Sorting by blocks, plainly.
-/
set_option linter.unusedSimpArgs false
set_option linter.unusedVariables false
namespace Go.St
variable {α : Type} {lt : α → α → Bool}

/-- sorted blocks of k, the last one perhaps shorter -/
inductive Bk (lt : α → α → Bool) (k : Nat) : List α → Prop
  | last {l : List α} : l.length ≤ k → Srt lt l → Bk lt k l
  | cons {u v : List α} : u.length = k → Srt lt u → Bk lt k v → Bk lt k (u ++ v)
/-- whole blocks alone -/
inductive BkF (lt : α → α → Bool) (k : Nat) : List α → Prop
  | nil : BkF lt k []
  | snoc {u v : List α} : BkF lt k u → v.length = k → Srt lt v → BkF lt k (u ++ v)
theorem BkF.to {k : Nat} {u : List α} (h : BkF lt k u) : ∀ {v : List α}, Bk lt k v → Bk lt k (u ++ v) := by
  induction h with
  | nil => intro v h; exact h
  | snoc _ h2 h3 ih => intro v h; rw [List.append_assoc]; exact ih (.cons h2 h3 h)
theorem Bk.two {k : Nat} (hk : 0 < k) {r : List α} (h : Bk lt k r) (hl : 2 * k ≤ r.length) : ∃ u v s, r = u ++ (v ++ s) ∧ u.length = k ∧ v.length = k ∧ Srt lt u ∧ Srt lt v ∧ Bk lt k s := by
  cases h with
  | last h1 h2 => omega
  | cons h1 h2 h3 =>
    rename_i u v
    rw [List.length_append] at hl
    cases h3 with
    | last g1 g2 => exact ⟨u, v, [], by simp, h1, by omega, h2, g2, .last (Nat.zero_le _) Srt.nil⟩
    | cons g1 g2 g3 => exact ⟨u, _, _, rfl, h1, g1, h2, g2, g3⟩
theorem Bk.rest {k : Nat} {r : List α} (h : Bk lt k r) (hl : r.length < 2 * k) (hl2 : k < r.length) : ∃ u v, r = u ++ v ∧ u.length = k ∧ Srt lt u ∧ Srt lt v := by
  cases h with
  | last h1 h2 => omega
  | cons h1 h2 h3 =>
    rename_i u v
    rw [List.length_append] at hl
    cases h3 with
    | last g1 g2 => exact ⟨u, v, rfl, h1, h2, g2⟩
    | cons g1 g2 g3 => rw [List.length_append] at hl; omega
theorem Bk.one {k : Nat} {r : List α} (h : Bk lt k r) (hl : r.length ≤ k) : Srt lt r := by
  cases h with
  | last h1 h2 => exact h2
  | cons h1 h2 h3 =>
    rename_i u v
    rw [List.length_append] at hl
    obtain rfl : v = [] := List.eq_nil_of_length_eq_zero (by omega)
    rw [List.append_nil]; exact h2

/-- blocks of twenty: as far as a -/
def StI (lt : α → α → Bool) (xs : List α) (a : Nat) (ys : List α) : Prop := ∃ d r, ys = d ++ r ∧ xs = xs.take a ++ r ∧ d.length = a ∧ BkF lt 20 d ∧ Stab lt (xs.take a) d
theorem StI.zero (xs : List α) : StI lt xs 0 xs := ⟨[], xs, rfl, by simp, rfl, .nil, Stab.refl _⟩
theorem StI.len {xs ys : List α} {a : Nat} (h : StI lt xs a ys) (ha : a ≤ xs.length) : ys.length = xs.length := by
  obtain ⟨d, r, rfl, h2, h3, _⟩ := h
  have := congrArg List.length h2
  simp only [List.length_append, List.length_take] at *; omega
theorem StI.parts {xs ys : List α} {a : Nat} (h : StI lt xs a ys) {b : Nat} (hab : a ≤ b) (hb : b ≤ xs.length) : ∃ p u s, ys = p ++ (u ++ s) ∧ p.length = a ∧ a + u.length = b ∧ (∀ v, v.length = u.length → Srt lt v → Stab lt u v → b = a + 20 → StI lt xs b (p ++ (v ++ s))) ∧
    (∀ v, v.length = u.length → Srt lt v → Stab lt u v → b < a + 20 → b = xs.length → Bk lt 20 (p ++ (v ++ s)) ∧ Stab lt xs (p ++ (v ++ s))) := by
  obtain ⟨d, r, rfl, h2, h3, h4, h5⟩ := h
  have hr : a + r.length = xs.length := by have := congrArg List.length h2; simp only [List.length_append, List.length_take] at this; omega
  have hrd : r = xs.drop a := by
    have h6 : xs.take a ++ xs.drop a = xs.take a ++ r := by rw [List.take_append_drop]; exact h2
    exact (List.append_cancel_left h6).symm
  refine ⟨d, r.take (b - a), r.drop (b - a), by rw [List.take_append_drop], h3, by simp; omega, ?_, ?_⟩
  · intro v hv hs hst hba
    have ht : xs.take b = xs.take a ++ r.take (b - a) := by
      rw [hrd, ← List.take_add]; congr 1; omega
    refine ⟨d ++ v, r.drop (b - a), by rw [List.append_assoc], ?_, ?_, h4.snoc ?_ hs, ?_⟩
    · rw [ht, List.append_assoc, List.take_append_drop]; exact h2
    · rw [List.length_append, hv]; simp; omega
    · rw [hv]; simp; omega
    · rw [ht]; exact h5.append hst
  · intro v hv hs hst hba hbn
    have hd : r.drop (b - a) = [] := List.drop_of_length_le (by omega)
    have htk : r.take (b - a) = r := List.take_of_length_le (by omega)
    rw [hd, List.append_nil]
    rw [htk] at hst hv
    refine ⟨h4.to (.last (by omega) hs), ?_⟩
    rw [h2]; exact h5.append hst

/-- merged as far as a, to blocks of twice the size -/
def StM (lt : α → α → Bool) (xs : List α) (k a : Nat) (ys : List α) : Prop := ∃ d r, ys = d ++ r ∧ d.length = a ∧ BkF lt (2 * k) d ∧ Bk lt k r ∧ Stab lt xs ys
theorem StM.zero {xs ys : List α} {k : Nat} (h : Bk lt k ys) (hs : Stab lt xs ys) : StM lt xs k 0 ys := ⟨[], ys, rfl, rfl, .nil, h, hs⟩
theorem StM.two {xs ys : List α} {k a : Nat} (h : StM lt xs k a ys) (hk : 0 < k) (hl : a + 2 * k ≤ ys.length) : ∃ p u v s, ys = p ++ (u ++ (v ++ s)) ∧ p.length = a ∧ u.length = k ∧ v.length = k ∧ Srt lt u ∧ Srt lt v ∧
    (∀ z, z.length = u.length + v.length → Srt lt z → Stab lt (u ++ v) z → StM lt xs k (a + 2 * k) (p ++ (z ++ s))) := by
  obtain ⟨d, r, rfl, h2, h3, h4, h5⟩ := h
  rw [List.length_append] at hl
  obtain ⟨u, v, s, rfl, g1, g2, g3, g4, g5⟩ := h4.two hk (by omega)
  refine ⟨d, u, v, s, rfl, h2, g1, g2, g3, g4, fun z z1 z2 z3 => ⟨d ++ z, s, by rw [List.append_assoc], by rw [List.length_append]; omega, h3.snoc (by omega) z2, g5, ?_⟩⟩
  refine h5.trans ?_
  have := Stab.mid z3 d s
  simpa only [List.append_assoc] using this
theorem StM.last {xs ys : List α} {k a : Nat} (h : StM lt xs k a ys) (hl : ys.length < a + 2 * k) (hl2 : a + k < ys.length) : ∃ p u v, ys = p ++ (u ++ (v ++ [])) ∧ p.length = a ∧ u.length = k ∧ Srt lt u ∧ Srt lt v ∧
    (∀ z, z.length = u.length + v.length → Srt lt z → Stab lt (u ++ v) z → Bk lt (2 * k) (p ++ (z ++ [])) ∧ Stab lt xs (p ++ (z ++ []))) := by
  obtain ⟨d, r, rfl, h2, h3, h4, h5⟩ := h
  rw [List.length_append] at hl hl2
  obtain ⟨u, v, rfl, g1, g2, g3⟩ := h4.rest (by omega) (by omega)
  refine ⟨d, u, v, by simp, h2, g1, g2, g3, fun z z1 z2 z3 => ?_⟩
  rw [List.length_append] at hl
  rw [List.append_nil]
  refine ⟨h3.to (.last (by omega) z2), h5.trans ((Stab.refl d).append z3)⟩
theorem StM.none {xs ys : List α} {k a : Nat} (h : StM lt xs k a ys) (hl : ys.length ≤ a + k) : Bk lt (2 * k) ys ∧ Stab lt xs ys := by
  obtain ⟨d, r, rfl, h2, h3, h4, h5⟩ := h
  rw [List.length_append] at hl
  exact ⟨h3.to (.last (by omega) (h4.one (by omega))), h5⟩
theorem Bk.done (W : Weak lt) {xs ys : List α} {k : Nat} (h : Bk lt k ys) (hs : Stab lt xs ys) (hl : ys.length ≤ k) : ys = ssort lt xs := ssort_eq W hs (h.one hl)
/-- lengths stay -/
theorem ins_len (x : α) : ∀ s : List α, (ins lt x s).length = s.length + 1
  | [] => rfl
  | y :: ys => by unfold ins; split <;> simp [ins_len x ys]
theorem ssort_len (xs : List α) : (ssort lt xs).length = xs.length := by
  have : ∀ (l s : List α), (l.foldl (fun s x => ins lt x s) s).length = s.length + l.length := by
    intro l
    induction l with
    | nil => intro s; rfl
    | cons x xs ih => intro s; rw [List.foldl_cons, ih, ins_len]; simp; omega
  unfold ssort; rw [this]; simp
end Go.St

/-
  What is deleted from a row, plainly.
-/
set_option linter.unusedSimpArgs false
set_option linter.unusedVariables false
namespace Go.St
variable {α : Type}
/-- the loop of DeleteFunc: what is kept, then what was there -/
def Del (p : α → Bool) (xs : List α) (m kk : Nat) (zs : List α) : Prop := zs.take kk = (xs.take m).filter (fun x => !p x) ∧ kk < m ∧ zs.length = xs.length ∧ ∀ i, kk ≤ i → zs[i]? = xs[i]?
theorem Del.start {p : α → Bool} {xs : List α} {k : Nat} {x : α} (h : ∀ y ∈ xs.take k, p y = false) (hx : xs[k]? = some x) (hp : p x = true) : Del p xs (k + 1) k xs := by
  refine ⟨?_, by omega, rfl, fun _ _ => rfl⟩
  rw [List.take_add_one, hx, List.filter_append, List.filter_eq_self.2 (fun y hy => by simp [h y hy])]
  simp [hp]
theorem Del.skip {p : α → Bool} {xs zs : List α} {m kk : Nat} {x : α} (h : Del p xs m kk zs) (hx : xs[m]? = some x) (hp : p x = true) : Del p xs (m + 1) kk zs := by
  obtain ⟨h1, h2, h3, h4⟩ := h
  refine ⟨?_, by omega, h3, h4⟩
  rw [List.take_add_one, hx, List.filter_append, ← h1]; simp [hp]
theorem Del.keep {p : α → Bool} {xs zs : List α} {m kk : Nat} {x : α} (h : Del p xs m kk zs) (hx : xs[m]? = some x) (hp : p x = false) : Del p xs (m + 1) (kk + 1) (zs.set kk x) := by
  obtain ⟨h1, h2, h3, h4⟩ := h
  have hm := (List.getElem?_eq_some_iff.1 hx).1
  refine ⟨?_, by omega, by simpa using h3, fun i hi => ?_⟩
  · rw [List.take_add_one, List.getElem?_set_self (by omega), List.take_set_of_le (Nat.le_refl _), h1, List.take_add_one, hx, List.filter_append]; simp [hp]
  · rw [List.getElem?_set_ne (by omega)]; exact h4 i (by omega)
theorem Del.done {p : α → Bool} {xs zs : List α} {m kk : Nat} (h : Del p xs m kk zs) (hm : xs.length ≤ m) (hk : kk ≤ xs.length) : zs.take kk = xs.filter (fun x => !p x) ∧ (xs.filter (fun x => !p x)).length = kk := by
  have h1 := h.1
  rw [List.take_of_length_le hm] at h1
  exact ⟨h1, by rw [← h1, List.length_take, h.2.2.1]; omega⟩
theorem none_step {p : α → Bool} {xs : List α} {k : Nat} {x : α} (h : ∀ y ∈ xs.take k, p y = false) (hx : xs[k]? = some x) (hp : p x = false) : ∀ y ∈ xs.take (k + 1), p y = false := by
  intro y hy
  rw [List.take_add_one, hx] at hy
  rcases List.mem_append.1 hy with hy | hy
  · exact h y hy
  · simp at hy; rw [hy]; exact hp
theorem none_end {p : α → Bool} {xs : List α} {k : Nat} (h : ∀ y ∈ xs.take k, p y = false) (hk : xs.length ≤ k) : xs.filter (fun x => !p x) = xs := by
  rw [List.take_of_length_le hk] at h
  exact List.filter_eq_self.2 fun y hy => by simp [h y hy]
theorem dropOf_eq (l : List Rule) (v : Int) : dropOf l v = l.filter (fun x => !(x.ver == v)) := rfl
end Go.St

/-
  The plain sense of package topo: what is wrong with a net, what links cost, who reaches whom, what paths cost.
-/
set_option linter.unusedSimpArgs false
set_option linter.unusedVariables false
namespace Go.St

def linkPair (l : Link) : Int × Int := (min l.a l.b, max l.a l.b)
/-- one link, behind those that had been: what is wrong -/
def linkBad (n : Int) (had : List (Int × Int)) (l : Link) : Int :=
  if min l.a l.b < 0 ∨ n ≤ max l.a l.b then 6 else if l.a = l.b then 8 else if l.cost < 1 ∨ 1000 < l.cost then 3 else if linkPair l ∈ had then 7 else 0
def linksBad (n : Int) (had : List (Int × Int)) (i : Int) : List Link → Int × Int
  | [] => (0, 0)
  | l :: r => if linkBad n had l = 0 then linksBad n (had ++ [linkPair l]) (i + 1) r else (linkBad n had l, i)
def topoWrong (t : Topo) : Int × Int := if t.n < 1 ∨ 8 < t.n ∨ 28 < t.links.length then (5, 0) else linksBad t.n [] 0 t.links

def linkIs (a b : Int) (l : Link) : Bool := (l.a == a && l.b == b) || (l.a == b && l.b == a)
def costIn (a b : Int) : List Link → Int
  | [] => 0
  | l :: r => if linkIs a b l then l.cost else costIn a b r
def costOf (t : Topo) (a b : Int) : Int := costIn a b t.links

/-- what a switch reaches by one link, of those up to k, behind what was reached before -/
def visit (t : Topo) (x : Int) (out : List Int) : Nat → List Int
  | 0 => out
  | k + 1 => let o := visit t x out k; if 0 < costOf t x k ∧ (k : Int) ∉ o then o ++ [(k : Int)] else o
/-- from the i-th on, so many rounds at most -/
def reachFrom (t : Topo) : Nat → Nat → List Int → List Int
  | 0, _, out => out
  | f + 1, i, out => match out[i]? with
    | none => out
    | some x => reachFrom t f (i + 1) (visit t x out t.n.toNat)
/-- rising -/
def insertI (x : Int) : List Int → List Int
  | [] => [x]
  | y :: r => if x ≤ y then x :: y :: r else y :: insertI x r
def sortI (l : List Int) : List Int := l.foldr insertI []
def reaches (t : Topo) (s : Int) : List Int := if (topoWrong t).1 ≠ 0 ∨ s < 0 ∨ t.n ≤ s then [] else sortI (reachFrom t 9 0 [s])

/-- what a path costs: behind those switches, at that cost -/
def lengthFrom (t : Topo) (had : List Int) (n : Int) : List Int → Int × Bool
  | [] => (n, !had.isEmpty)
  | s :: r => if s < 0 ∨ t.n ≤ s ∨ s ∈ had then (0, false) else match had.getLast? with
    | none => lengthFrom t [s] n r
    | some q => if costOf t q s = 0 then (0, false) else lengthFrom t (had ++ [s]) (IntKind.i64.wrap (n + costOf t q s)) r
def lengthOf (t : Topo) (p : List Int) : Int × Bool := lengthFrom t [] 0 p

end Go.St

/-
  The plain sense of package paths' search, and what it finds: the least of the cheapest paths that do what was asked for.
-/
set_option linter.unusedSimpArgs false
set_option linter.unusedVariables false
namespace Go.St

def listBad (n src dst : Int) (had : List Int) : List Int → Int
  | [] => 0
  | s :: r => if s < 0 ∨ n ≤ s then 6 else if s = src ∨ s = dst then 8 else if s ∈ had then 7 else listBad n src dst (had ++ [s]) r
def flowBad (n : Int) (f : Flow) : Int :=
  if f.src < 0 ∨ n ≤ f.src ∨ f.dst < 0 ∨ n ≤ f.dst then 6 else if f.src = f.dst then 8
  else if listBad n f.src f.dst [] f.via ≠ 0 then listBad n f.src f.dst [] f.via
  else if listBad n f.src f.dst [] f.no ≠ 0 then listBad n f.src f.dst [] f.no
  else if f.via.any (fun s => decide (s ∈ f.no)) then 8 else 0
def flowsBad (n : Int) (i : Int) : List Flow → Int × Int
  | [] => (0, 0)
  | f :: r => if flowBad n f = 0 then flowsBad n (i + 1) r else (flowBad n f, i)
def flowsWrong (l : List Flow) (n : Int) : Int × Int := if 12 < l.length then (5, 0) else flowsBad n 0 l

def idxIn (x : Int) : List Int → Option Nat
  | [] => none
  | y :: r => if x = y then some 0 else (idxIn x r).map (· + 1)

abbrev Found := Option (List Int) × Int
/-- one child's step: 'rec' searches on -/
def childS (t : Topo) (f : Flow) (p : List Int) (cost : Int) (met : Nat) (rec : List Int → Int → Nat → Found → Found) (k : Nat) (st : Found) : Found :=
  let c := costOf t (p.getLastD 0) k
  if c = 0 ∨ (k : Int) ∈ p ∨ (k : Int) ∈ f.no then st
  else match idxIn (k : Int) f.via with
    | none => rec (p ++ [(k : Int)]) (cost + c) met st
    | some i => if i = met then rec (p ++ [(k : Int)]) (cost + c) (met + 1) st else st
/-- children from k on, so many -/
def childrenS (t : Topo) (f : Flow) (p : List Int) (cost : Int) (met : Nat) (rec : List Int → Int → Nat → Found → Found) : Nat → Found → Found
  | 0, st => st
  | k + 1, st => childS t f p cost met rec k (childrenS t f p cost met rec k st)
def onS (t : Topo) (f : Flow) : Nat → List Int → Int → Nat → Found → Found
  | 0, _, _, _, st => st
  | fuel + 1, p, cost, met, st =>
    if st.1.isSome ∧ st.2 < cost then st
    else if p.getLastD 0 = f.dst then (if met = f.via.length ∧ (st.1 = none ∨ cost < st.2) then (some p, cost) else st)
    else childrenS t f p cost met (onS t f fuel) t.n.toNat st
def findOf (t : Topo) (f : Flow) : List Int × Int :=
  if (topoWrong t).1 ≠ 0 then ([], (topoWrong t).1)
  else if (flowsWrong [f] t.n).1 ≠ 0 then ([], (flowsWrong [f] t.n).1)
  else match (onS t f 9 [f.src] 0 0 (none, 0)).1 with | none => ([], 9) | some p => (p, 0)

/-- over links, over no switch twice -/
def pathCost (t : Topo) : List Int → Int
  | [] => 0
  | [_] => 0
  | a :: b :: r => costOf t a b + pathCost t (b :: r)
def linked (t : Topo) : List Int → Bool
  | [] => true
  | [_] => true
  | a :: b :: r => decide (costOf t a b ≠ 0) && linked t (b :: r)
structure Good (t : Topo) (f : Flow) (q : List Int) : Prop where
  src : q.head? = some f.src
  dst : q.getLast? = some f.dst
  link : linked t q = true
  nodup : q.Nodup
  rng : ∀ s ∈ q, 0 ≤ s ∧ s < t.n
  no : ∀ s ∈ q, s ∉ f.no
  via : q.filter (fun s => decide (s ∈ f.via)) = f.via

def lexLe : List Int → List Int → Bool
  | [], _ => true
  | _ :: _, [] => false
  | a :: r, b :: s => decide (a < b) || (decide (a = b) && lexLe r s)
theorem lexLe_refl : ∀ l, lexLe l l = true
  | [] => rfl
  | a :: r => by simp [lexLe, lexLe_refl r]
theorem lexLe_fork (p : List Int) {a b : Int} (h : a < b) (r s : List Int) : lexLe (p ++ a :: r) (p ++ b :: s) = true := by
  induction p with
  | nil => simp [lexLe, h]
  | cons x p ih => simp [lexLe, ih]

/-- costs of links are not less than nought -/
def CostsOk (t : Topo) : Prop := ∀ a b, 0 ≤ costOf t a b

theorem pathCost_snoc (t : Topo) : ∀ (p : List Int) (k : Int), p ≠ [] → pathCost t (p ++ [k]) = pathCost t p + costOf t (p.getLastD 0) k
  | [], k, h => (h rfl).elim
  | [a], k, _ => by simp [pathCost]
  | a :: b :: r, k, _ => by
    have := pathCost_snoc t (b :: r) k (by simp)
    simp only [List.cons_append, pathCost] at this ⊢
    rw [this]
    have e : (a :: b :: r).getLastD 0 = (b :: r).getLastD 0 := by simp [List.getLastD_eq_getLast?]
    rw [e]; omega
theorem pathCost_nonneg {t : Topo} (h : CostsOk t) : ∀ p, 0 ≤ pathCost t p
  | [] => Int.le_refl 0
  | [_] => Int.le_refl 0
  | a :: b :: r => by have := pathCost_nonneg h (b :: r); have := h a b; simp only [pathCost]; omega
theorem pathCost_ext {t : Topo} (h : CostsOk t) : ∀ (p r : List Int), p ≠ [] → pathCost t p ≤ pathCost t (p ++ r)
  | [], _, h0 => (h0 rfl).elim
  | [a], r, _ => by simp only [pathCost]; exact pathCost_nonneg h _
  | a :: b :: p, r, _ => by
    have := pathCost_ext h (b :: p) r (by simp)
    simp only [List.cons_append, pathCost] at this ⊢
    omega
theorem linked_snoc (t : Topo) : ∀ (p : List Int) (k : Int), p ≠ [] → linked t (p ++ [k]) = (linked t p && decide (costOf t (p.getLastD 0) k ≠ 0))
  | [], k, h => (h rfl).elim
  | [a], k, _ => by simp [linked]
  | a :: b :: r, k, _ => by
    have := linked_snoc t (b :: r) k (by simp)
    simp only [List.cons_append, linked] at this ⊢
    rw [this]
    have e : (a :: b :: r).getLastD 0 = (b :: r).getLastD 0 := by simp [List.getLastD_eq_getLast?]
    rw [e, Bool.and_assoc]
theorem linked_left (t : Topo) : ∀ (p r : List Int), linked t (p ++ r) = true → linked t p = true
  | [], _, _ => rfl
  | [_], _, _ => rfl
  | a :: b :: p, r, h => by
    simp only [List.cons_append, linked, Bool.and_eq_true] at h ⊢
    exact ⟨h.1, linked_left t (b :: p) r h.2⟩

theorem idxIn_none {x : Int} : ∀ {l : List Int}, idxIn x l = none → x ∉ l
  | [], _ => by simp
  | y :: r, h => by
    unfold idxIn at h
    by_cases e : x = y
    · rw [if_pos e] at h; cases h
    · rw [if_neg e] at h
      have := idxIn_none (Option.map_eq_none_iff.1 h)
      simp [e, this]
theorem idxIn_some {x : Int} : ∀ {l : List Int} {i : Nat}, idxIn x l = some i → l[i]? = some x
  | [], _, h => by cases h
  | y :: r, i, h => by
    unfold idxIn at h
    by_cases e : x = y
    · rw [if_pos e] at h; cases h; simp [e]
    · rw [if_neg e] at h
      obtain ⟨j, h1, rfl⟩ := Option.map_eq_some_iff.1 h
      simpa using idxIn_some h1

/-- what holds of a part of a path that is searched on -/
structure Part (t : Topo) (f : Flow) (p : List Int) (cost : Int) (met : Nat) : Prop where
  src : p.head? = some f.src
  link : linked t p = true
  nodup : p.Nodup
  rng : ∀ s ∈ p, 0 ≤ s ∧ s < t.n
  no : ∀ s ∈ p, s ∉ f.no
  via : p.filter (fun s => decide (s ∈ f.via)) = f.via.take met
  le : met ≤ f.via.length
  cost : cost = pathCost t p

def Beats (t : Topo) (st : Found) (q : List Int) : Prop := ∃ b, st.1 = some b ∧ (st.2 < pathCost t q ∨ (st.2 = pathCost t q ∧ lexLe b q = true))
/-- what is found is good -/
def Sound (t : Topo) (f : Flow) (st : Found) : Prop := ∀ b, st.1 = some b → Good t f b ∧ st.2 = pathCost t b
/-- what is found stands ahead of all that goes on from p -/
def Ahead (st : Found) (p : List Int) : Prop := ∀ b, st.1 = some b → ∀ r, lexLe b (p ++ r) = true

theorem Part.ne {t : Topo} {f : Flow} {p : List Int} {cost : Int} {met : Nat} (h : Part t f p cost met) : p ≠ [] := by
  rintro rfl; have := h.src; cases this

theorem nodup_idx {l : List Int} (h : l.Nodup) {i j : Nat} (hi : i < l.length) (hj : j < l.length) (e : l[i] = l[j]) : i = j := by
  have hp := List.pairwise_iff_getElem.1 (List.nodup_iff_pairwise_ne.1 h)
  rcases Nat.lt_trichotomy i j with h1 | h1 | h1
  · exact absurd e (hp i j hi hj h1)
  · exact h1
  · exact absurd e.symm (hp j i hj hi h1)

theorem nodup_lt : ∀ (n : Nat) (p : List Nat), p.Nodup → (∀ x ∈ p, x < n) → p.length ≤ n
  | 0, p, _, h => by
    cases p with
    | nil => simp
    | cons a r => exact absurd (h a (by simp)) (by omega)
  | n + 1, p, hp, h => by
    by_cases hm : n ∈ p
    · have := nodup_lt n (p.erase n) (hp.erase n) fun x hx => by
        have h1 := (hp.mem_erase_iff).1 hx
        have := h x h1.2
        have := h1.1
        omega
      rw [List.length_erase_of_mem hm] at this
      omega
    · have := nodup_lt n p hp fun x hx => by
        have := h x hx
        have : x ≠ n := fun e => hm (e ▸ hx)
        omega
      omega

theorem nodup_len {n : Int} {p : List Int} (hp : p.Nodup) (hr : ∀ s ∈ p, 0 ≤ s ∧ s < n) : p.length ≤ n.toNat := by
  have h1 : (p.map Int.toNat).Nodup := by
    rw [List.nodup_iff_pairwise_ne, List.pairwise_map]
    refine List.Pairwise.imp_of_mem ?_ (List.nodup_iff_pairwise_ne.1 hp)
    intro a b ha hb hne he
    have := hr a ha; have := hr b hb
    exact hne (by omega)
  have := nodup_lt n.toNat (p.map Int.toNat) h1 fun x hx => by
    obtain ⟨a, ha, rfl⟩ := List.mem_map.1 hx
    have := hr a ha
    omega
  simpa using this

theorem last_of {p : List Int} (h : p ≠ []) : p.getLast? = some (p.getLastD 0) := by
  rw [List.getLastD_eq_getLast?, List.getLast?_eq_some_getLast h]; rfl

theorem Beats.of_cost {t : Topo} {st : Found} {q : List Int} {b : List Int} (h : st.1 = some b) (hc : st.2 < pathCost t q) : Beats t st q := ⟨b, h, .inl hc⟩

/-- what a search leaves -/
structure Leaves (t : Topo) (f : Flow) (p : List Int) (st st' : Found) : Prop where
  sound : Sound t f st'
  keeps : ∀ q, Beats t st q → Beats t st' q
  beats : ∀ r, Good t f (p ++ r) → Beats t st' (p ++ r)
  new : st' = st ∨ ∃ b r, st'.1 = some b ∧ b = p ++ r

theorem on_ok {t : Topo} {f : Flow} (hc : CostsOk t) (hv : f.via.Nodup) : ∀ (fuel : Nat) (p : List Int) (cost : Int) (met : Nat) (st : Found), Part t f p cost met → t.n.toNat + 1 ≤ fuel + p.length → Sound t f st → Ahead st p →
    Leaves t f p st (onS t f fuel p cost met st) := by
  intro fuel
  induction fuel with
  | zero =>
    intro p cost met st hp hl
    have := nodup_len hp.nodup hp.rng
    omega
  | succ fuel ih =>
    intro p cost met st hp hl hs ha
    unfold onS
    by_cases h1 : st.1.isSome ∧ st.2 < cost
    · rw [if_pos h1]
      obtain ⟨b, hb⟩ := Option.isSome_iff_exists.1 h1.1
      refine ⟨hs, fun q h => h, fun r hr => Beats.of_cost hb ?_, .inl rfl⟩
      have := pathCost_ext hc p r hp.ne
      have := hp.cost
      omega
    rw [if_neg h1]
    by_cases h2 : p.getLastD 0 = f.dst
    · rw [if_pos h2]
      have hend : ∀ r, Good t f (p ++ r) → r = [] := by
        intro r hr
        cases hrr : r with
        | nil => rfl
        | cons k r' =>
          subst hrr
          exfalso
          have hd := hr.dst
          rw [List.getLast?_append, List.getLast?_eq_some_getLast (by simp : k :: r' ≠ [])] at hd
          simp only [Option.some_or] at hd
          have m1 : f.dst ∈ k :: r' := by
            have := Option.some.inj hd
            rw [← this]; exact List.getLast_mem _
          have m2 : f.dst ∈ p := by
            have := last_of hp.ne
            rw [h2] at this
            exact List.mem_of_getLast? this
          exact (List.nodup_append.1 hr.nodup).2.2 _ m2 _ m1 rfl
      have hgp : met = f.via.length → Good t f p := fun hm =>
        ⟨hp.src, by rw [last_of hp.ne, h2], hp.link, hp.nodup, hp.rng, hp.no, by rw [hp.via, hm, List.take_length]⟩
      by_cases h3 : met = f.via.length ∧ (st.1 = none ∨ cost < st.2)
      · rw [if_pos h3]
        refine ⟨?_, ?_, ?_, .inr ⟨p, [], rfl, by simp⟩⟩
        · intro b hb
          cases hb
          exact ⟨hgp h3.1, hp.cost⟩
        · rintro q ⟨b, hb, hq⟩
          rcases h3.2 with h | h
          · rw [h] at hb; cases hb
          · exact ⟨p, rfl, .inl (by dsimp only; omega)⟩
        · intro r hr
          obtain rfl := hend r hr
          rw [List.append_nil]
          exact ⟨p, rfl, .inr ⟨hp.cost, lexLe_refl p⟩⟩
      · rw [if_neg h3]
        refine ⟨hs, fun q h => h, ?_, .inl rfl⟩
        intro r hr
        obtain rfl := hend r hr
        have hm : met = f.via.length := by
          have h4 := hr.via
          rw [List.append_nil, hp.via] at h4
          have := congrArg List.length h4
          rw [List.length_take] at this
          have := hp.le
          omega
        cases hb : st.1 with
        | none => exact absurd ⟨hm, .inl hb⟩ h3
        | some b =>
          have hge : st.2 ≤ cost := Int.not_lt.1 fun h => h3 ⟨hm, .inr h⟩
          have hpc := hp.cost
          have hl := ha b hb []
          refine ⟨b, hb, ?_⟩
          rw [List.append_nil] at hl ⊢
          rcases Int.lt_or_eq_of_le hge with h | h
          · exact .inl (by omega)
          · exact .inr ⟨by omega, hl⟩
    rw [if_neg h2]
    -- the children
    have main : ∀ m : Nat, m ≤ t.n.toNat → ∃ sm, sm = childrenS t f p cost met (onS t f fuel) m st ∧ Sound t f sm ∧ (∀ q, Beats t st q → Beats t sm q) ∧
        (∀ (k : Nat) (r : List Int), k < m → Good t f (p ++ (k : Int) :: r) → Beats t sm (p ++ (k : Int) :: r)) ∧ (sm = st ∨ ∃ b r, ∃ k : Nat, k < m ∧ sm.1 = some b ∧ b = p ++ (k : Int) :: r) := by
      intro m
      induction m with
      | zero => exact fun _ => ⟨st, rfl, hs, fun q h => h, fun k r hk => by omega, .inl rfl⟩
      | succ m ihm =>
        intro hm
        obtain ⟨sm, hsm, g1, g2, g3, g4⟩ := ihm (by omega)
        simp only [childrenS]
        rw [← hsm]
        -- no child: what stays
        have stay : (∀ r, ¬ Good t f (p ++ (m : Int) :: r)) → ∃ s', s' = sm ∧ Sound t f s' ∧ (∀ q, Beats t st q → Beats t s' q) ∧
            (∀ (k : Nat) (r : List Int), k < m + 1 → Good t f (p ++ (k : Int) :: r) → Beats t s' (p ++ (k : Int) :: r)) ∧ (s' = st ∨ ∃ b r, ∃ k : Nat, k < m + 1 ∧ s'.1 = some b ∧ b = p ++ (k : Int) :: r) := by
          intro hno
          refine ⟨sm, rfl, g1, g2, fun k r hk hg => ?_, g4.imp id fun ⟨b, r, k, hk, h⟩ => ⟨b, r, k, by omega, h⟩⟩
          by_cases hkm : k = m
          · subst hkm; exact absurd hg (hno r)
          · exact g3 k r (by omega) hg
        have ahead : Ahead sm (p ++ [(m : Int)]) := by
          intro b hb r
          rcases g4 with rfl | ⟨b', r', k, hk, hb', rfl⟩
          · have := ha b hb ((m : Int) :: r)
            simpa using this
          · rw [hb'] at hb
            cases hb
            have := lexLe_fork p (show (k : Int) < (m : Int) by omega) r' r
            simpa using this
        have go : ∀ met', Part t f (p ++ [(m : Int)]) (cost + costOf t (p.getLastD 0) m) met' → ∃ s', s' = onS t f fuel (p ++ [(m : Int)]) (cost + costOf t (p.getLastD 0) m) met' sm ∧ Sound t f s' ∧ (∀ q, Beats t st q → Beats t s' q) ∧
            (∀ (k : Nat) (r : List Int), k < m + 1 → Good t f (p ++ (k : Int) :: r) → Beats t s' (p ++ (k : Int) :: r)) ∧ (s' = st ∨ ∃ b r, ∃ k : Nat, k < m + 1 ∧ s'.1 = some b ∧ b = p ++ (k : Int) :: r) := by
          intro met' hpart
          have h := ih (p ++ [(m : Int)]) _ met' sm hpart (by simp; omega) g1 ahead
          refine ⟨_, rfl, h.sound, fun q hq => h.keeps q (g2 q hq), fun k r hk hg => ?_, ?_⟩
          · by_cases hkm : k = m
            · subst hkm
              have := h.beats r (by simpa using hg)
              simpa using this
            · exact h.keeps _ (g3 k r (by omega) hg)
          · rcases h.new with h0 | ⟨b, r, hb, rfl⟩
            · rw [h0]
              exact g4.imp id fun ⟨b, r, k, hk, h⟩ => ⟨b, r, k, by omega, h⟩
            · exact .inr ⟨_, r, m, by omega, hb, by simp⟩
        unfold childS
        dsimp only
        by_cases h3 : costOf t (p.getLastD 0) m = 0 ∨ (m : Int) ∈ p ∨ (m : Int) ∈ f.no
        · rw [if_pos h3]
          refine stay fun r hg => ?_
          rcases h3 with h3 | h3 | h3
          · have h5 := hg.link
            rw [show p ++ (m : Int) :: r = (p ++ [(m : Int)]) ++ r by simp] at h5
            have h6 := linked_left t _ _ h5
            rw [linked_snoc t p m hp.ne, Bool.and_eq_true, decide_eq_true_eq] at h6
            exact h6.2 h3
          · exact (List.nodup_append.1 hg.nodup).2.2 _ h3 _ (by simp) rfl
          · exact hg.no m (by simp) h3
        rw [if_neg h3]
        have c0 : costOf t (p.getLastD 0) m ≠ 0 := fun h => h3 (.inl h)
        have c1 : (m : Int) ∉ p := fun h => h3 (.inr (.inl h))
        have c2 : (m : Int) ∉ f.no := fun h => h3 (.inr (.inr h))
        have hsrc : (p ++ [(m : Int)]).head? = some f.src := by rw [List.head?_append, hp.src]; rfl
        have hlink : linked t (p ++ [(m : Int)]) = true := by rw [linked_snoc t p m hp.ne, hp.link, Bool.true_and, decide_eq_true_eq]; exact c0
        have hnd : (p ++ [(m : Int)]).Nodup := by
          rw [List.nodup_append]
          exact ⟨hp.nodup, List.nodup_cons.2 ⟨by simp, List.nodup_nil⟩, fun a ha b hb e => by
            have hb' : b = (m : Int) := by simpa using hb
            exact c1 (hb' ▸ e ▸ ha)⟩
        have hrng : ∀ s ∈ p ++ [(m : Int)], 0 ≤ s ∧ s < t.n := by
          intro s hs'
          rcases List.mem_append.1 hs' with h | h
          · exact hp.rng s h
          · simp at h; omega
        have hno : ∀ s ∈ p ++ [(m : Int)], s ∉ f.no := by
          intro s hs'
          rcases List.mem_append.1 hs' with h | h
          · exact hp.no s h
          · simp at h; subst h; exact c2
        have hcost : cost + costOf t (p.getLastD 0) m = pathCost t (p ++ [(m : Int)]) := by rw [pathCost_snoc t p m hp.ne, ← hp.cost]
        cases hi : idxIn (m : Int) f.via with
        | none =>
          have hnv := idxIn_none hi
          exact go met ⟨hsrc, hlink, hnd, hrng, hno, by rw [List.filter_append, hp.via]; simp [hnv], hp.le, hcost⟩
        | some i =>
          have hvi := idxIn_some hi
          have hmv : (m : Int) ∈ f.via := List.mem_of_getElem? hvi
          have hil := (List.getElem?_eq_some_iff.1 hvi).1
          dsimp only
          by_cases him : i = met
          · rw [if_pos him]
            subst him
            refine go (i + 1) ⟨hsrc, hlink, hnd, hrng, hno, ?_, by omega, hcost⟩
            rw [List.filter_append, hp.via, List.take_add_one, hvi]
            simp [hmv]
          · rw [if_neg him]
            refine stay fun r hg => him ?_
            have h5 := hg.via
            rw [List.filter_append, hp.via, List.filter_cons, if_pos (by simpa using hmv)] at h5
            have hl2 : (f.via.take met).length = met := by rw [List.length_take]; have := hp.le; omega
            have h6 : f.via[met]? = some (m : Int) := by
              rw [← h5, List.getElem?_append_right (by omega), hl2]; simp
            have hml := (List.getElem?_eq_some_iff.1 h6).1
            have e1 := (List.getElem?_eq_some_iff.1 hvi).2
            have e2 := (List.getElem?_eq_some_iff.1 h6).2
            exact nodup_idx hv hil hml (e1.trans e2.symm)
    obtain ⟨sm, hsm, g1, g2, g3, g4⟩ := main t.n.toNat (Nat.le_refl _)
    rw [← hsm]
    refine ⟨g1, g2, fun r hr => ?_, g4.imp id fun ⟨b, r, k, hk, hb, he⟩ => ⟨b, _, hb, he⟩⟩
    cases r with
    | nil =>
      exfalso
      rw [List.append_nil] at hr
      have := hr.dst
      rw [last_of hp.ne] at this
      exact h2 (Option.some.inj this)
    | cons k r =>
      have hk := hr.rng k (by simp)
      obtain ⟨j, rfl⟩ := Int.eq_ofNat_of_zero_le hk.1
      exact g3 j r (by omega) hr

end Go.St

/-
  Facts of right nets and right flows; what Find finds.
-/
set_option linter.unusedSimpArgs false
set_option linter.unusedVariables false
namespace Go.St

structure LinkOk (n : Int) (l : Link) : Prop where
  a0 : 0 ≤ l.a
  a1 : l.a < n
  b0 : 0 ≤ l.b
  b1 : l.b < n
  ne : l.a ≠ l.b
  c0 : 1 ≤ l.cost
  c1 : l.cost ≤ 1000

theorem linkBad_zero {n : Int} {had : List (Int × Int)} {l : Link} (h : linkBad n had l = 0) : LinkOk n l := by
  unfold linkBad at h
  by_cases h1 : min l.a l.b < 0 ∨ n ≤ max l.a l.b
  · rw [if_pos h1] at h; cases h
  rw [if_neg h1] at h
  by_cases h2 : l.a = l.b
  · rw [if_pos h2] at h; cases h
  rw [if_neg h2] at h
  by_cases h3 : l.cost < 1 ∨ 1000 < l.cost
  · rw [if_pos h3] at h; cases h
  exact ⟨by omega, by omega, by omega, by omega, h2, by omega, by omega⟩

theorem linksBad_zero {n : Int} : ∀ {ls : List Link} {had : List (Int × Int)} {i : Int}, (linksBad n had i ls).1 = 0 → ∀ l ∈ ls, LinkOk n l
  | [], _, _, _ => by simp
  | l :: r, had, i, h => by
    unfold linksBad at h
    by_cases h0 : linkBad n had l = 0
    · rw [if_pos h0] at h
      intro x hx
      rcases List.mem_cons.1 hx with rfl | hx
      · exact linkBad_zero h0
      · exact linksBad_zero h x hx
    · rw [if_neg h0] at h; exact absurd h h0

theorem topo_right {t : Topo} (h : (topoWrong t).1 = 0) : (1 ≤ t.n ∧ t.n ≤ 8 ∧ t.links.length ≤ 28) ∧ ∀ l ∈ t.links, LinkOk t.n l := by
  unfold topoWrong at h
  by_cases h0 : t.n < 1 ∨ 8 < t.n ∨ 28 < t.links.length
  · rw [if_pos h0] at h; cases h
  rw [if_neg h0] at h
  exact ⟨by omega, linksBad_zero h⟩

theorem costIn_range : ∀ (ls : List Link) (n a b : Int), (∀ l ∈ ls, LinkOk n l) → 0 ≤ costIn a b ls ∧ costIn a b ls ≤ 1000
  | [], _, _, _, _ => by simp [costIn]
  | l :: r, n, a, b, h => by
    unfold costIn
    by_cases h0 : linkIs a b l = true
    · rw [if_pos h0]; have := h l (by simp); exact ⟨by have := this.c0; omega, this.c1⟩
    · rw [if_neg h0]; exact costIn_range r n a b fun x hx => h x (by simp [hx])
theorem cost_range {t : Topo} (h : (topoWrong t).1 = 0) (a b : Int) : 0 ≤ costOf t a b ∧ costOf t a b ≤ 1000 := costIn_range _ t.n a b (topo_right h).2

theorem listBad_zero {n s d : Int} : ∀ {l had : List Int}, listBad n s d had l = 0 → l.Nodup ∧ (∀ x ∈ l, (0 ≤ x ∧ x < n) ∧ x ≠ s ∧ x ≠ d ∧ x ∉ had)
  | [], _, _ => by simp
  | x :: r, had, h => by
    unfold listBad at h
    by_cases h1 : x < 0 ∨ n ≤ x
    · rw [if_pos h1] at h; cases h
    rw [if_neg h1] at h
    by_cases h2 : x = s ∨ x = d
    · rw [if_pos h2] at h; cases h
    rw [if_neg h2] at h
    by_cases h3 : x ∈ had
    · rw [if_pos h3] at h; cases h
    rw [if_neg h3] at h
    obtain ⟨g1, g2⟩ := listBad_zero h
    refine ⟨List.nodup_cons.2 ⟨fun hx => (g2 x hx).2.2.2 (by simp), g1⟩, ?_⟩
    intro y hy
    rcases List.mem_cons.1 hy with rfl | hy
    · exact ⟨by omega, fun e => h2 (.inl e), fun e => h2 (.inr e), h3⟩
    · obtain ⟨a, b, c, e⟩ := g2 y hy
      exact ⟨a, b, c, fun hm => e (by simp [hm])⟩

structure FlowOk (n : Int) (f : Flow) : Prop where
  s0 : 0 ≤ f.src
  s1 : f.src < n
  d0 : 0 ≤ f.dst
  d1 : f.dst < n
  ne : f.src ≠ f.dst
  vnd : f.via.Nodup
  via : ∀ x ∈ f.via, (0 ≤ x ∧ x < n) ∧ x ≠ f.src ∧ x ≠ f.dst
  no : ∀ x ∈ f.no, (0 ≤ x ∧ x < n) ∧ x ≠ f.src ∧ x ≠ f.dst
  vno : ∀ x ∈ f.via, x ∉ f.no

theorem flowBad_zero {n : Int} {f : Flow} (h : flowBad n f = 0) : FlowOk n f := by
  unfold flowBad at h
  by_cases h1 : f.src < 0 ∨ n ≤ f.src ∨ f.dst < 0 ∨ n ≤ f.dst
  · rw [if_pos h1] at h; cases h
  rw [if_neg h1] at h
  by_cases h2 : f.src = f.dst
  · rw [if_pos h2] at h; cases h
  rw [if_neg h2] at h
  by_cases h3 : listBad n f.src f.dst [] f.via = 0
  · rw [if_neg (by simp [h3])] at h
    by_cases h4 : listBad n f.src f.dst [] f.no = 0
    · rw [if_neg (by simp [h4])] at h
      by_cases h5 : f.via.any (fun s => decide (s ∈ f.no)) = true
      · rw [if_pos h5] at h; cases h
      obtain ⟨v1, v2⟩ := listBad_zero h3
      obtain ⟨_, n2⟩ := listBad_zero h4
      refine ⟨by omega, by omega, by omega, by omega, h2, v1, fun x hx => ⟨(v2 x hx).1, (v2 x hx).2.1, (v2 x hx).2.2.1⟩, fun x hx => ⟨(n2 x hx).1, (n2 x hx).2.1, (n2 x hx).2.2.1⟩, fun x hx hno => h5 ?_⟩
      exact List.any_eq_true.2 ⟨x, hx, by simpa using hno⟩
    · rw [if_pos h4] at h; exact absurd h h4
  · rw [if_pos h3] at h; exact absurd h h3

theorem flows1 {n : Int} {f : Flow} : (flowsWrong [f] n).1 = flowBad n f := by
  unfold flowsWrong
  rw [if_neg (by simp)]
  simp only [flowsBad]
  by_cases h : flowBad n f = 0
  · rw [if_pos h]; exact h.symm
  · rw [if_neg h]

theorem flow_via_len {n : Int} {f : Flow} (h : FlowOk n f) : f.via.length ≤ n.toNat := nodup_len h.vnd fun x hx => (h.via x hx).1

/-- the search from a flow's beginning -/
theorem search_leaves {t : Topo} {f : Flow} (ht : (topoWrong t).1 = 0) (hf : FlowOk t.n f) : Leaves t f [f.src] (none, 0) (onS t f 9 [f.src] 0 0 (none, 0)) := by
  obtain ⟨⟨h1, h2, _⟩, _⟩ := topo_right ht
  refine on_ok (fun a b => (cost_range ht a b).1) hf.vnd 9 [f.src] 0 0 (none, 0) ?_ (by simp; omega) (by intro b hb; cases hb) (by intro b hb; cases hb)
  refine ⟨rfl, rfl, by simp, ?_, ?_, ?_, Nat.zero_le _, rfl⟩
  · intro s hs; simp at hs; subst hs; exact ⟨hf.s0, hf.s1⟩
  · intro s hs hno; simp at hs; subst hs; exact (hf.no _ hno).2.1 rfl
  · have : f.src ∉ f.via := fun h => (hf.via _ h).2.1 rfl
    simp [this]

/-- what Find finds is good, and no other good path is before it -/
theorem find_good {t : Topo} {f : Flow} (h : (findOf t f).2 = 0) : (topoWrong t).1 = 0 ∧ FlowOk t.n f ∧ Good t f (findOf t f).1 ∧ ∀ q, Good t f q → pathCost t (findOf t f).1 < pathCost t q ∨ (pathCost t (findOf t f).1 = pathCost t q ∧ lexLe (findOf t f).1 q = true) := by
  unfold findOf at h ⊢
  by_cases h1 : (topoWrong t).1 = 0
  case neg => rw [if_pos h1] at h; exact absurd h h1
  rw [if_neg (by simp [h1])] at h ⊢
  by_cases h2 : (flowsWrong [f] t.n).1 = 0
  case neg => rw [if_pos h2] at h; exact absurd h h2
  rw [if_neg (by simp [h2])] at h ⊢
  have hf := flowBad_zero (flows1 ▸ h2)
  have L := search_leaves h1 hf
  cases hb : (onS t f 9 [f.src] 0 0 (none, 0)).1 with
  | none => rw [hb] at h; cases h
  | some p =>
    rw [hb] at h
    obtain ⟨g1, g2⟩ := L.sound p hb
    refine ⟨h1, hf, g1, fun q hq => ?_⟩
    obtain ⟨s, r, rfl⟩ : ∃ s r, q = s :: r := by cases q with | nil => have := hq.src; cases this | cons s r => exact ⟨s, r, rfl⟩
    obtain rfl : s = f.src := by have := hq.src; simpa using this
    obtain ⟨b, hb', hc⟩ := L.beats r hq
    rw [hb] at hb'
    obtain rfl := Option.some.inj hb'
    rw [g2] at hc
    exact hc


end Go.St

/-
  Who reaches whom, plainly.
-/
set_option linter.unusedSimpArgs false
set_option linter.unusedVariables false
namespace Go.St

theorem insertI_perm (x : Int) : ∀ l : List Int, (insertI x l).Perm (x :: l)
  | [] => List.Perm.refl _
  | y :: r => by
    unfold insertI
    by_cases h : x ≤ y
    · rw [if_pos h]
    · rw [if_neg h]; exact ((insertI_perm x r).cons y).trans (List.Perm.swap x y r)
theorem sortI_perm : ∀ l : List Int, (sortI l).Perm l
  | [] => List.Perm.refl _
  | x :: r => (insertI_perm x (sortI r)).trans ((sortI_perm r).cons x)
theorem insertI_sorted (x : Int) : ∀ l : List Int, l.Pairwise (· ≤ ·) → (insertI x l).Pairwise (· ≤ ·)
  | [], _ => by simp [insertI]
  | y :: r, h => by
    unfold insertI
    rw [List.pairwise_cons] at h
    by_cases hx : x ≤ y
    · rw [if_pos hx, List.pairwise_cons]
      refine ⟨fun z hz => ?_, List.pairwise_cons.2 h⟩
      rcases List.mem_cons.1 hz with rfl | hz
      · exact hx
      · exact Int.le_trans hx (h.1 z hz)
    · rw [if_neg hx, List.pairwise_cons]
      refine ⟨fun z hz => ?_, insertI_sorted x r h.2⟩
      rcases List.mem_cons.1 ((insertI_perm x r).mem_iff.1 hz) with rfl | hz
      · omega
      · exact h.1 z hz
theorem sortI_sorted : ∀ l : List Int, (sortI l).Pairwise (· ≤ ·)
  | [] => List.Pairwise.nil
  | x :: r => insertI_sorted x _ (sortI_sorted r)
theorem sortI_merge (l : List Int) : l.mergeSort (fun x y => decide (x ≤ y)) = sortI l := by
  have h1 := List.pairwise_mergeSort (le := fun x y : Int => decide (x ≤ y)) (by simp; omega) (by simp; omega) l
  simp only [decide_eq_true_eq] at h1
  exact List.Perm.eq_of_pairwise (le := (· ≤ ·)) (fun a b _ _ h h' => Int.le_antisymm h h') h1 (sortI_sorted l) ((List.mergeSort_perm _ _).trans (sortI_perm l).symm)

theorem sorted_eq {a b : List Int} (ha : a.Pairwise (· < ·)) (hb : b.Pairwise (· < ·)) (h : ∀ x, x ∈ a ↔ x ∈ b) : a = b := by
  refine List.Perm.eq_of_pairwise (le := (· ≤ ·)) (fun a b _ _ h h' => Int.le_antisymm h h') (ha.imp fun h => Int.le_of_lt h) (hb.imp fun h => Int.le_of_lt h) ?_
  have na : a.Nodup := ha.imp fun h => by omega
  have nb : b.Nodup := hb.imp fun h => by omega
  exact (List.perm_ext_iff_of_nodup na nb).2 h

/-! One round. -/
theorem visit_mem {t : Topo} {x y : Int} {o : List Int} : ∀ {k : Nat}, y ∈ visit t x o k ↔ y ∈ o ∨ ∃ j : Nat, j < k ∧ y = j ∧ 0 < costOf t x j
  | 0 => by simp [visit]
  | k + 1 => by
    have ih := @visit_mem t x y o k
    simp only [visit]
    by_cases hc : 0 < costOf t x k ∧ (k : Int) ∉ visit t x o k
    · rw [if_pos hc, List.mem_append, ih, List.mem_singleton]
      constructor
      · rintro ((h | ⟨j, hj, h⟩) | h)
        · exact .inl h
        · exact .inr ⟨j, by omega, h⟩
        · exact .inr ⟨k, by omega, h, hc.1⟩
      · rintro (h | ⟨j, hj, h, h'⟩)
        · exact .inl (.inl h)
        · by_cases hjk : j = k
          · subst hjk; exact .inr h
          · exact .inl (.inr ⟨j, by omega, h, h'⟩)
    · rw [if_neg hc, ih]
      constructor
      · rintro (h | ⟨j, hj, h⟩)
        · exact .inl h
        · exact .inr ⟨j, by omega, h⟩
      · rintro (h | ⟨j, hj, h, h'⟩)
        · exact .inl h
        · by_cases hjk : j = k
          · subst hjk
            have : (j : Int) ∈ visit t x o j := by
              by_cases hm : (j : Int) ∈ visit t x o j
              · exact hm
              · exact absurd ⟨h', hm⟩ hc
            rw [h]
            exact visit_mem.1 this
          · exact .inr ⟨j, by omega, h, h'⟩
theorem visit_pre (t : Topo) (x : Int) (o : List Int) : ∀ k, o <+: visit t x o k
  | 0 => List.prefix_refl _
  | k + 1 => by
    simp only [visit]
    split
    · exact (visit_pre t x o k).trans (List.prefix_append _ _)
    · exact visit_pre t x o k
theorem visit_nodup {t : Topo} {x : Int} {o : List Int} (h : o.Nodup) : ∀ k, (visit t x o k).Nodup
  | 0 => h
  | k + 1 => by
    simp only [visit]
    split
    · rename_i hc
      rw [List.nodup_append]
      exact ⟨visit_nodup h k, by simp, fun a ha b hb e => hc.2 (by simp at hb; subst hb; rwa [← e])⟩
    · exact visit_nodup h k
theorem visit_range {t : Topo} {x : Int} {o : List Int} (h : ∀ y ∈ o, 0 ≤ y ∧ y < t.n) {k : Nat} (hk : (k : Int) ≤ t.n) : ∀ y ∈ visit t x o k, 0 ≤ y ∧ y < t.n := by
  intro y hy
  rcases visit_mem.1 hy with hy | ⟨j, hj, rfl, _⟩
  · exact h y hy
  · omega
theorem prefix_get {o o' : List Int} (h : o <+: o') {i : Nat} {x : Int} (hx : o[i]? = some x) : o'[i]? = some x := by
  obtain ⟨r, rfl⟩ := h
  rw [List.getElem?_append_left (List.getElem?_eq_some_iff.1 hx).1]
  exact hx

theorem reach_step {t : Topo} {f i : Nat} {o c : List Int} {x : Int} (h : c = reachFrom t (f + 1) i o) (hx : o[i]? = some x) : c = reachFrom t f (i + 1) (visit t x o t.n.toNat) := by
  rw [h]; simp only [reachFrom, hx]
theorem reach_end {t : Topo} {f i : Nat} {o c : List Int} (h : c = reachFrom t f i o) (hx : ¬ i < o.length) : c = o := by
  rw [h]
  cases f with
  | zero => rfl
  | succ f => simp only [reachFrom, List.getElem?_eq_none (Nat.le_of_not_lt hx)]

/-! The whole: x is reached just if there is a way of links. -/
inductive Way (t : Topo) : Int → Int → Prop where
  | refl (a : Int) : Way t a a
  | step {a b c : Int} : Way t a b → 0 < costOf t b c → 0 ≤ c → c < t.n → Way t a c
theorem Way.trans {t : Topo} {a b c : Int} (h : Way t a b) (k : Way t b c) : Way t a c := by
  induction k with
  | refl => exact h
  | step _ hc h0 h1 ih => exact .step ih hc h0 h1

/-- what was gone through has nothing new behind it; what was reached has a way -/
structure Round (t : Topo) (s : Int) (i : Nat) (o : List Int) : Prop where
  le : i ≤ o.length
  nd : o.Nodup
  rng : ∀ y ∈ o, 0 ≤ y ∧ y < t.n
  way : ∀ y ∈ o, Way t s y
  first : s ∈ o
  shut : ∀ j, j < i → ∀ x, o[j]? = some x → ∀ y : Int, 0 ≤ y → y < t.n → 0 < costOf t x y → y ∈ o
theorem Round.next {t : Topo} {s : Int} {i : Nat} {o : List Int} (h : Round t s i o) {x : Int} (hx : o[i]? = some x) : Round t s (i + 1) (visit t x o t.n.toNat) := by
  have hp := visit_pre t x o t.n.toNat
  have hi := (List.getElem?_eq_some_iff.1 hx).1
  refine ⟨by have := hp.length_le; omega, visit_nodup h.nd _, ?_, ?_, hp.subset h.first, ?_⟩
  · by_cases hn : 0 ≤ t.n
    · exact visit_range h.rng (by omega)
    · intro y hy
      rcases visit_mem.1 hy with hy | ⟨j, hj, _⟩
      · exact h.rng y hy
      · omega
  · intro y hy
    rcases visit_mem.1 hy with hy | ⟨j, hj, rfl, hc⟩
    · exact h.way y hy
    · exact .step (h.way x (List.mem_of_getElem? hx)) hc (by omega) (by omega)
  · intro j hj z hz y h0 h1 hc
    have hz' : o[j]? = some z := by
      have hjl : j < o.length := by omega
      have := prefix_get hp (List.getElem?_eq_getElem hjl)
      rw [List.getElem?_eq_getElem hjl, ← hz, ← this]
    by_cases hji : j = i
    · subst hji
      obtain rfl : x = z := Option.some.inj (hx.symm.trans hz')
      exact visit_mem.2 (.inr ⟨y.toNat, by omega, by omega, by rwa [show ((y.toNat : Nat) : Int) = y by omega]⟩)
    · exact hp.subset (h.shut j (by omega) z hz' y h0 h1 hc)
theorem Round.len {t : Topo} {s : Int} {i : Nat} {o : List Int} (h : Round t s i o) : o.length ≤ t.n.toNat := nodup_len h.nd h.rng
theorem Round.all {t : Topo} {s : Int} {o : List Int} (h : Round t s o.length o) {y : Int} : y ∈ o ↔ Way t s y := by
  constructor
  · exact h.way y
  · intro hw
    induction hw with
    | refl => exact h.first
    | step _ hc h0 h1 ih =>
      obtain ⟨j, hj⟩ := List.getElem?_of_mem ih
      exact h.shut j (List.getElem?_eq_some_iff.1 hj).1 _ hj _ h0 h1 hc
theorem Round.start {t : Topo} {s : Int} (h0 : 0 ≤ s) (h1 : s < t.n) : Round t s 0 [s] :=
  ⟨by simp, by simp, by simpa using ⟨h0, h1⟩, by simpa using Way.refl s, by simp, fun j hj => by omega⟩
theorem reachFrom_all {t : Topo} {s : Int} (hn : t.n ≤ 8) : ∀ (f i : Nat) (o : List Int), Round t s i o → 9 ≤ f + i → Round t s (reachFrom t f i o).length (reachFrom t f i o)
  | 0, i, o, h, hf => by have := h.len; have := h.le; omega
  | f + 1, i, o, h, hf => by
    simp only [reachFrom]
    cases hx : o[i]? with
    | none =>
      have h1 := List.getElem?_eq_none_iff.1 hx
      have h2 := h.le
      have : o.length = i := by omega
      simp only
      rw [this]; exact h
    | some x => exact reachFrom_all hn f (i + 1) _ (h.next hx) (by omega)

/-- no more than right nets and switches are looked at -/
theorem reaches_nil {t : Topo} {s : Int} (h : (topoWrong t).1 ≠ 0 ∨ s < 0 ∨ t.n ≤ s) : reaches t s = [] := by unfold reaches; rw [if_pos h]
theorem reaches_some {t : Topo} {s : Int} (h : (topoWrong t).1 = 0) (h0 : 0 ≤ s) (h1 : s < t.n) : reaches t s = sortI (reachFrom t 9 0 [s]) := by unfold reaches; rw [if_neg (by simp [h]; omega)]
theorem mem_reaches {t : Topo} {s y : Int} (h : (topoWrong t).1 = 0) (h0 : 0 ≤ s) (h1 : s < t.n) : y ∈ reaches t s ↔ Way t s y := by
  rw [reaches_some h h0 h1, (sortI_perm _).mem_iff]
  exact (reachFrom_all (topo_right h).1.2.1 9 0 [s] (Round.start h0 h1) (by omega)).all
theorem reaches_range {t : Topo} {s y : Int} (hy : y ∈ reaches t s) : 0 ≤ y ∧ y < t.n := by
  by_cases h : (topoWrong t).1 ≠ 0 ∨ s < 0 ∨ t.n ≤ s
  · rw [reaches_nil h] at hy; cases hy
  simp only [not_or, ne_eq, Decidable.not_not] at h
  rw [reaches_some h.1 (by omega) (by omega), (sortI_perm _).mem_iff] at hy
  exact (reachFrom_all (topo_right h.1).1.2.1 9 0 [s] (Round.start (by omega) (by omega)) (by omega)).rng y hy
theorem reaches_rising {t : Topo} {s : Int} : (reaches t s).Pairwise (· < ·) := by
  by_cases h : (topoWrong t).1 ≠ 0 ∨ s < 0 ∨ t.n ≤ s
  · rw [reaches_nil h]; exact List.Pairwise.nil
  simp only [not_or, ne_eq, Decidable.not_not] at h
  rw [reaches_some h.1 (by omega) (by omega)]
  have hr := reachFrom_all (topo_right h.1).1.2.1 9 0 [s] (Round.start (show 0 ≤ s by omega) (by omega)) (by omega)
  have hnd : (sortI (reachFrom t 9 0 [s])).Nodup := (sortI_perm _).nodup_iff.2 hr.nd
  exact List.Pairwise.imp (fun h => by omega) (List.Pairwise.and (sortI_sorted _) hnd)
theorem reaches_len {t : Topo} {s : Int} : (reaches t s).length ≤ 8 := by
  by_cases h : (topoWrong t).1 ≠ 0 ∨ s < 0 ∨ t.n ≤ s
  · rw [reaches_nil h]; simp
  simp only [not_or, ne_eq, Decidable.not_not] at h
  have hr := reachFrom_all (topo_right h.1).1.2.1 9 0 [s] (Round.start (show 0 ≤ s by omega) (by omega)) (by omega)
  rw [reaches_some h.1 (by omega) (by omega), (sortI_perm _).length_eq]
  have := hr.len
  have := (topo_right h.1).1.2.1
  omega

theorem linkIs_symm (a b : Int) (l : Link) : linkIs a b l = linkIs b a l := by
  unfold linkIs; rw [Bool.or_comm]
theorem cost_symm (t : Topo) (a b : Int) : costOf t a b = costOf t b a := by
  unfold costOf
  induction t.links with
  | nil => rfl
  | cons l r ih => simp only [costIn]; rw [linkIs_symm, ih]
theorem costIn_src {a b : Int} : ∀ {ls : List Link}, 0 < costIn a b ls → ∃ l ∈ ls, linkIs a b l = true
  | [], h => by simp [costIn] at h
  | l :: r, h => by
    unfold costIn at h
    by_cases h0 : linkIs a b l = true
    · exact ⟨l, by simp, h0⟩
    · rw [if_neg h0] at h
      obtain ⟨k, hk, h1⟩ := costIn_src h
      exact ⟨k, by simp [hk], h1⟩
theorem cost_range2 {t : Topo} (ht : (topoWrong t).1 = 0) {a b : Int} (h : 0 < costOf t a b) : (0 ≤ a ∧ a < t.n) ∧ (0 ≤ b ∧ b < t.n) := by
  obtain ⟨l, hl, h1⟩ := costIn_src h
  have hk := (topo_right ht).2 l hl
  have := hk.a0; have := hk.a1; have := hk.b0; have := hk.b1
  unfold linkIs at h1
  simp only [Bool.or_eq_true, Bool.and_eq_true, beq_iff_eq] at h1
  omega
theorem Way.back {t : Topo} (ht : (topoWrong t).1 = 0) {a b : Int} (h : Way t a b) : Way t b a := by
  induction h with
  | refl => exact .refl _
  | step _ hc h0 h1 ih =>
    have hr := cost_range2 ht hc
    exact Way.trans (.step (.refl _) (by rwa [cost_symm]) hr.1.1 hr.1.2) ih
end Go.St

/-
  The plain sense of package wire: what is wrong with an order, its bytes, and the order of bytes.
-/
namespace Go.St

def ruleOk (v : Int) (r : Rule) : Bool := r.ver == v && (decide (0 ≤ r.flow) && (decide (r.flow < 12) && (decide (0 ≤ r.next) && decide (r.next < 8))))

def flowsOk : Int → List Int → Bool
  | _, [] => true
  | last, f :: l => decide (last < f) && (decide (0 ≤ f) && (decide (f < 12) && flowsOk f l))

def wireWrong (o : Order) : Int :=
  if o.num < 1 ∨ 100000 < o.num ∨ o.ver < 1 ∨ 1000 < o.ver then 3
  else if o.kind = 1 then (if 16 < o.rules.length then 5 else if o.rules.all (ruleOk o.ver) then 0 else 3)
  else if o.kind = 2 then (if 12 < o.flows.length then 5 else if flowsOk (-1) o.flows then 0 else 3)
  else if o.kind = 3 then 0 else 1

end Go.St
