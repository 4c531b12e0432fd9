/-
  A region that draws its order and ends in a store to a cell that it loads: what is read may be read first, as long as the facts that it is read from hold till the last operation, which waits for all.
-/
import Derived.OrdersHeld
import Derived.StillTail
import Derived.WalkKit
import Derived.Below
import Derived.OwnWalk
import Derived.Laws.AppendOwn
import Derived.Deep.Quiet
import Derived.Test.YtagldmdeohenjaaRows
import Derived.WalkSpells
import Derived.WalkLawsBesides
import Derived.Lib.Hide
import Derived.Deep.LoopGhost
import Derived.Deep.QuietTactic
import Derived.BigQuiet
import Derived.Deep.RegionWith
import Derived.Handy
import Derived.Deep.Slices
import Derived.ProofKit
import Derived.OpenShut
import Derived.ShutString
import Derived.ChangeOld
import Derived.Carry
import Derived.Deep.RegionLaw
import Derived.MapKept
import Derived.WideKeyRuns
import Derived.ChangeKeysEq
import Derived.Test.YtagldmdeohenjaaProg
import Derived.Lib.AppendZerosOnto
import Derived.Laws.OwnMore
import Derived.Laws.BytesArg
set_option linter.unusedSimpArgs false
set_option linter.unusedVariables false
namespace Go.St

section
variable {P : Program} {ops : Array Oper} {Q : Exit → Act → World → Prop} {md : Region.Mode} {S : World → Prop} {L : Nat}

/-- whatever order is picked from here on, and S holds behind every operation but number L -/
def wpAnyK (P : Program) (md : Region.Mode) (ops : Array Oper) (Q : Exit → Act → World → Prop) (S : World → Prop) (L : Nat) : Nat → Array Bool → Act → World → Prop
  | 0, listed, a, w => Region.ready md ops listed = [] ∧ Q .normal a w
  | fuel + 1, listed, a, w =>
    (Region.ready md ops listed = [] → Q .normal a w) ∧
    ∀ i ∈ Region.ready md ops listed, wpOp P ops Q i (fun a' w' => (i ≠ L → S w') ∧ wpAnyK P md ops Q S L fuel (listed.setIfInBounds i true) a' w') a w

theorem wpAny_of_K : ∀ (fuel : Nat) (listed : Array Bool) (a : Act) (w : World), wpAnyK P md ops Q S L fuel listed a w → wpAny P md ops Q fuel listed a w
  | 0, _, _, _, h => h
  | fuel + 1, _, _, _, h => ⟨h.1, fun i hi => wpOp_mono (fun a' w' h' => wpAny_of_K fuel _ a' w' h'.2) (h.2 i hi)⟩

theorem wpAnyK_first {i : Nat} {oi : Oper} {v : Value} (hi : ops[i]? = some oi) (hsel : ∀ (j : Nat) (o : Oper) cs b, ops[j]? = some o → o.op ≠ .select cs b)
    (hQ : ∀ c a w, Q (.panic c) (a.put oi.dst v) w → Q (.panic c) a w) (hL : Region.waitsFor md ops L i = true) :
    ∀ (fuel : Nat) (listed : Array Bool) (a : Act) (w : World),
      (∀ j oj, ops[j]? = some oj → j ≠ i → listed.getD j true = false → (∀ e ∈ oj.after, Region.binds md e = true → e.on ≠ i) → oi.apart ops oj = true) →
      i ∈ Region.ready md ops listed → YieldsIf P ops S oi v a → S w →
      wpAnyK P md ops Q S L fuel (listed.setIfInBounds i true) (a.put oi.dst v) w → wpAnyK P md ops Q S L (fuel + 1) listed a w := by
  intro fuel
  induction fuel with
  | zero =>
    intro listed a w _ hr hy hS H
    refine ⟨fun h => (by rw [h] at hr; cases hr), fun j hj => ?_⟩
    by_cases hji : j = i
    · subst hji; exact hy.wpOp hi hS ⟨fun _ => hS, H⟩
    · have := ready_mono hj hji
      rw [H.1] at this
      cases this
  | succ fuel ih =>
    intro listed a w hfree hr hy hS H
    refine ⟨fun h => (by rw [h] at hr; cases hr), fun j hj => ?_⟩
    by_cases hji : j = i
    · subst hji; exact hy.wpOp hi hS ⟨fun _ => hS, H⟩
    · have h1 := H.2 j (ready_mono hj hji)
      obtain ⟨hjun, oj, hoj, hall⟩ := mem_ready.1 hj
      have hnot : ∀ e ∈ oj.after, Region.binds md e = true → e.on ≠ i := fun e he hb heq => by
        have h1 := hall e he hb
        have h0 := (mem_ready.1 hr).1
        rw [heq] at h1
        rcases Nat.lt_or_ge i listed.size with h' | h'
        · simp [h'] at h0 h1; rw [h0] at h1; cases h1
        · simp [Array.getElem?_eq_none h'] at h1
      have hjL : j ≠ L := by
        rintro rfl
        obtain ⟨ok, hok, e, he, hb, heq⟩ := Region.waitsFor_spec hL
        obtain rfl : ok = oj := Option.some.inj (hok.symm.trans hoj)
        exact hnot e he hb heq
      have h2 := wpOp_putIf hoj (hfree j oj hoj hji hjun hnot) (fun cs b => hsel i oi cs b hi) (fun cs b => hsel j oj cs b hoj) hQ hy h1
      have hfree' : ∀ k ok, ops[k]? = some ok → k ≠ i → (listed.setIfInBounds j true).getD k true = false →
          (∀ e ∈ ok.after, Region.binds md e = true → e.on ≠ i) → oi.apart ops ok = true := fun k ok hk hki hun hno => by
        refine hfree k ok hk hki ?_ hno
        by_cases hjk : j = k
        · subst hjk; exact hjun
        · rw [getD_set_ne true hjk] at hun; exact hun
      refine wpOp_mono (fun a' w' h3 => ⟨fun _ => h3.2.1 hjL, ih (listed.setIfInBounds j true) a' w' hfree' (ready_mono hr (Ne.symm hji)) h3.1 (h3.2.1 hjL) ?_⟩) h2
      rw [Array.setIfInBounds_comm _ _ hji]
      exact h3.2.2

/-- take number i first -/
theorem wpAnyK_take {i : Nat} {oi : Oper} (v : Value) {fuel : Nat} {listed : Array Bool} {a : Act} {w : World} (hi : ops[i]? = some oi)
    (hs : (Region.noSelect ops && Region.free md ops listed i && (Region.ready md ops listed).contains i && Region.waitsFor md ops L i) = true)
    (hQ : ∀ c a w, Q (.panic c) (a.put oi.dst v) w → Q (.panic c) a w) (hS : S w) (hy : YieldsIf P ops S oi v a)
    (h : wpAnyK P md ops Q S L fuel (listed.setIfInBounds i true) (a.put oi.dst v) w) : wpAnyK P md ops Q S L (fuel + 1) listed a w := by
  simp only [Bool.and_eq_true] at hs
  obtain ⟨⟨⟨h1, h2⟩, h3⟩, h4⟩ := hs
  exact wpAnyK_first hi (Region.noSelect_spec h1) hQ h4 fuel listed a w (Region.free_spec hi h2) (by simpa using h3) hy hS h

/-- number i alone may come up: it is run -/
theorem wpAnyK_only {i : Nat} {oi : Oper} {fuel : Nat} {listed : Array Bool} {a : Act} {w : World} (hi : ops[i]? = some oi) (hg : oi.guard = none)
    (hs : (Region.ready md ops listed == [i]) = true) (h : oi.wp P a w (fun a' w' => (i ≠ L → S w') ∧ wpAnyK P md ops Q S L fuel (listed.setIfInBounds i true) a' w') Q) : wpAnyK P md ops Q S L (fuel + 1) listed a w := by
  have hr : Region.ready md ops listed = [i] := by simpa using hs
  refine ⟨fun h0 => (by rw [h0] at hr; cases hr), fun j hj => ?_⟩
  rw [hr] at hj
  obtain rfl : j = i := by simpa using hj
  unfold wpOp
  simp only [hi]
  rw [if_pos (by simp [Region.wanted, hg])]
  exact .inl h

theorem wpAnyK_done {listed : Array Bool} {a : Act} {w : World} (hr : (Region.ready md ops listed == []) = true) (h : Q .normal a w) :
    ∀ fuel, wpAnyK P md ops Q S L fuel listed a w
  | 0 => ⟨by simpa using hr, h⟩
  | _ + 1 => ⟨fun _ => h, by rw [show Region.ready md ops listed = [] by simpa using hr]; simp⟩

theorem wp_region_K (S : World → Prop) (L : Nat) {id : Nat} {a : Act} {w : World} (hm : P.follows .mixedOrders = true)
    (h : wpAnyK P .any ops Q S L ops.size (Array.replicate ops.size false) a w.drew) : (Code.region id ops true).wp P Q a w :=
  wp_region_any hm (wpAny_of_K _ _ _ _ h)

theorem yields_value {o : Oper} {v : Value} {a : Act} (hw : Region.wanted o (yielded ops a.tmps) = true) (h : ∀ w, S w → (execOp a.eval o).run P w = .ok (.value v) w) : YieldsIf P ops S o v a := .inl ⟨hw, h⟩
end
end Go.St

/-
  How the plain data of this program lie in memory: a shape says which cells hold a datum, and stays true where the blocks that it speaks of stay as they were.
-/
namespace Go.St
open Go.RowKit

/-- how a datum lies in cells: 'ok' names the blocks that may be used -/
structure Shape (α : Type) where
  size : Nat
  rep : (Nat → Prop) → World → List Value → α → Prop
  len : ∀ {ok w cs a}, rep ok w cs a → cs.length = size
  one : ∀ {ok w cs a}, rep ok w cs a → ∀ c ∈ cs, c.oneCell' = true
  mono : ∀ {ok ok' : Nat → Prop} {w w' : World} {cs a}, rep ok w cs a → (∀ b, b < w.heap.size → ok b → ok' b ∧ w'.heap[b]? = w.heap[b]?) → rep ok' w' cs a

/-- a whole number in the range of Go's int -/
def I64 (n : Int) : Prop := -9223372036854775808 ≤ n ∧ n ≤ 9223372036854775807

theorem I64.lo {n : Int} (h : I64 n) : -9223372036854775808 ≤ n := h.1
theorem I64.hi {n : Int} (h : I64 n) : n ≤ 9223372036854775807 := h.2
theorem I64.mk' {n : Int} (h1 : -9223372036854775808 ≤ n) (h2 : n ≤ 9223372036854775807) : I64 n := ⟨h1, h2⟩
theorem I64.small {n : Int} (h1 : -1000000000000 ≤ n) (h2 : n ≤ 1000000000000) : I64 n := ⟨by omega, by omega⟩

def intS : Shape Int where
  size := 1
  rep _ _ cs n := cs = [.int .i64 n] ∧ I64 n
  len h := by rw [h.1]; rfl
  one h := by rw [h.1]; simp [Value.oneCell']
  mono h _ := h

def byteS : Shape Int where
  size := 1
  rep _ _ cs n := cs = [.int .u8 n] ∧ 0 ≤ n ∧ n ≤ 255
  len h := by rw [h.1]; rfl
  one h := by rw [h.1]; simp [Value.oneCell']
  mono h _ := h

def boolS : Shape Bool where
  size := 1
  rep _ _ cs b := cs = [.bool b]
  len h := by rw [h]; rfl
  one h := by rw [h]; simp [Value.oneCell']
  mono h _ := h

/-- the elements of a row behind an address -/
def elemsAt {α : Type} (s : Shape α) (ok : Nat → Prop) (w : World) (b off : Nat) (xs : List α) : Prop :=
  ∀ i x, xs[i]? = some x → ∃ cs, s.rep ok w cs x ∧ ∀ j c, cs[j]? = some c → w.cell? ⟨b, off + i * s.size + j, none⟩ = some c

/-- a slice's address and capacity fit its elements -/
def rowRep {α : Type} (s : Shape α) (ok : Nat → Prop) (w : World) (ao : Option Addr) (cap : Nat) (xs : List α) : Prop :=
  xs.length ≤ cap ∧ cap ≤ maxLen ∧ (xs = [] ∨ ∃ b off, ao = some ⟨b, off, none⟩ ∧ ok b ∧ b < w.heap.size ∧ elemsAt s ok w b off xs)

theorem lt_of_block {w w' : World} {b : Nat} (hb : b < w.heap.size) (h : w'.heap[b]? = w.heap[b]?) : b < w'.heap.size := by
  rw [Array.getElem?_eq_getElem hb] at h
  exact (Array.getElem?_eq_some_iff.1 h).1

theorem elemsAt.mono {α : Type} {s : Shape α} {ok ok' : Nat → Prop} {w w' : World} {b off : Nat} {xs : List α} (h : elemsAt s ok w b off xs)
    (hb : w'.heap[b]? = w.heap[b]?) (hk : ∀ b, b < w.heap.size → ok b → ok' b ∧ w'.heap[b]? = w.heap[b]?) : elemsAt s ok' w' b off xs := by
  intro i x hx
  obtain ⟨cs, h1, h2⟩ := h i x hx
  exact ⟨cs, s.mono h1 hk, fun j c hc => by rw [World.cell?_of_block (w := w) hb]; exact h2 j c hc⟩

theorem rowRep.mono {α : Type} {s : Shape α} {ok ok' : Nat → Prop} {w w' : World} {ao : Option Addr} {cap : Nat} {xs : List α} (h : rowRep s ok w ao cap xs)
    (hk : ∀ b, b < w.heap.size → ok b → ok' b ∧ w'.heap[b]? = w.heap[b]?) : rowRep s ok' w' ao cap xs := by
  obtain ⟨h1, h2, h3⟩ := h
  refine ⟨h1, h2, h3.imp id ?_⟩
  rintro ⟨b, off, rfl, hb, hlt, he⟩
  exact ⟨b, off, rfl, (hk b hlt hb).1, lt_of_block hlt (hk b hlt hb).2, he.mono (hk b hlt hb).2 hk⟩

theorem rowRep.nil {α : Type} (s : Shape α) (ok : Nat → Prop) (w : World) (ao : Option Addr) : rowRep s ok w ao 0 [] :=
  ⟨Nat.le_refl _, Nat.zero_le _, .inl rfl⟩

theorem rowRep.len_le {α : Type} {s : Shape α} {ok : Nat → Prop} {w : World} {ao : Option Addr} {cap : Nat} {xs : List α} (h : rowRep s ok w ao cap xs) : xs.length ≤ 9223372036854775807 := by
  have h1 := h.1
  have h2 := h.2.1
  unfold maxLen at h2
  omega

/-- behind a call that has turned nothing that was there -/
theorem rowRep.below {α : Type} {s : Shape α} {ok : Nat → Prop} {w w' : World} {ao : Option Addr} {cap : Nat} {xs : List α} (h : rowRep s ok w ao cap xs)
    (hb : Below w.heap.size w w') : rowRep s ok w' ao cap xs :=
  h.mono fun b hlt hk => ⟨hk, hb.block b hlt⟩

theorem Shape.below {α : Type} (s : Shape α) {ok : Nat → Prop} {w w' : World} {cs : List Value} {a : α} (h : s.rep ok w cs a)
    (hb : Below w.heap.size w w') : s.rep ok w' cs a :=
  s.mono h fun b hlt hk => ⟨hk, hb.block b hlt⟩

/-- a slice as one cell -/
def sliceS {α : Type} (s : Shape α) : Shape (List α) where
  size := 1
  rep ok w cs xs := ∃ ao cap, cs = [.slice ao xs.length cap] ∧ rowRep s ok w ao cap xs
  len h := by obtain ⟨ao, cap, rfl, _⟩ := h; rfl
  one h := by obtain ⟨ao, cap, rfl, _⟩ := h; simp [Value.oneCell']
  mono h hk := by
    obtain ⟨ao, cap, rfl, h⟩ := h
    exact ⟨ao, cap, rfl, h.mono hk⟩

/-- one element of a row: where it lies -/
theorem rowRep.get {α : Type} {s : Shape α} {ok : Nat → Prop} {w : World} {ao : Option Addr} {cap : Nat} {xs : List α} (h : rowRep s ok w ao cap xs)
    {i : Nat} {x : α} (hx : xs[i]? = some x) : ∃ b off, ao = some ⟨b, off, none⟩ ∧ ok b ∧ b < w.heap.size ∧ ∃ cs, s.rep ok w cs x ∧ ∀ j c, cs[j]? = some c → w.cell? ⟨b, off + i * s.size + j, none⟩ = some c := by
  obtain ⟨h1, h2, rfl | ⟨b, off, rfl, hb, hlt, he⟩⟩ := h
  · simp at hx
  · exact ⟨b, off, rfl, hb, hlt, he i x hx⟩

theorem rowRep.take {α : Type} {s : Shape α} {ok : Nat → Prop} {w : World} {ao : Option Addr} {cap : Nat} {xs : List α} (h : rowRep s ok w ao cap xs) (m : Nat) : rowRep s ok w ao cap (xs.take m) := by
  obtain ⟨h1, h2, h3⟩ := h
  refine ⟨by rw [List.length_take]; omega, h2, ?_⟩
  rcases h3 with rfl | ⟨b, off, rfl, hb, hlt, he⟩
  · left; simp
  · right
    refine ⟨b, off, rfl, hb, hlt, fun i x hx => he i x ?_⟩
    rw [List.getElem?_take] at hx
    split at hx
    · exact hx
    · cases hx

/-- from an element on: the address moves -/
theorem rowRep.drop {α : Type} {s : Shape α} {ok : Nat → Prop} {w : World} {b off cap : Nat} {xs : List α} (h : rowRep s ok w (some ⟨b, off, none⟩) cap xs) (m : Nat) (hm : m ≤ xs.length) : rowRep s ok w (some ⟨b, off + m * s.size, none⟩) (cap - m) (xs.drop m) := by
  obtain ⟨h1, h2, h3⟩ := h
  refine ⟨by rw [List.length_drop]; omega, by omega, ?_⟩
  rcases h3 with rfl | ⟨b', off', hb', hb, hlt, he⟩
  · left; simp
  · obtain ⟨rfl, rfl⟩ : b = b' ∧ off = off' := by simpa using hb'
    right
    refine ⟨b, _, rfl, hb, hlt, fun i x hx => ?_⟩
    rw [List.getElem?_drop] at hx
    obtain ⟨cs, h1, h2⟩ := he (m + i) x hx
    refine ⟨cs, h1, fun j c hc => ?_⟩
    have := h2 j c hc
    rwa [show off + (m + i) * s.size + j = off + m * s.size + i * s.size + j by rw [Nat.add_mul]; omega] at this

end Go.St

/-
  The plain data of the program as Lean data, and how each lies in cells.
-/
namespace Go.St
open Go.RowKit

structure Link where
  a : Int
  b : Int
  cost : Int
deriving DecidableEq

structure Topo where
  n : Int
  links : List Link
deriving DecidableEq

structure Flow where
  src : Int
  dst : Int
  via : List Int
  no : List Int
deriving DecidableEq

structure Rule where
  ver : Int
  flow : Int
  next : Int
deriving DecidableEq

structure Plan where
  ver : Int
  flows : List Flow
  paths : List (List Int)
deriving DecidableEq

structure Order where
  kind : Int
  num : Int
  ver : Int
  rules : List Rule
  flows : List Int
deriving DecidableEq

structure To where
  sw : Int
  order : Order
deriving DecidableEq

structure Stamp where
  flow : Int
  ver : Int
deriving DecidableEq

structure Switch where
  rules : List Rule
  stamps : List Stamp
deriving DecidableEq

structure Packet where
  flow : Int
  ver : Int
  trace : List Int
  done : Bool
deriving DecidableEq

structure Ctl where
  stage : Int
  now : Plan
  next : Plan
  num : Int
  waits : List Int
deriving DecidableEq

structure Do where
  kind : Int
  n : Int
  flows : List Flow
deriving DecidableEq

structure Net where
  ctl : Ctl
  switches : List Switch
  orders : List (List Order)
  backs : List (List Int)
  packets : List Packet
  plans : List Plan
deriving DecidableEq

def linkS : Shape Link where
  size := 3
  rep _ _ cs l := cs = [.int .i64 l.a, .int .i64 l.b, .int .i64 l.cost] ∧ I64 l.a ∧ I64 l.b ∧ I64 l.cost
  len h := by rw [h.1]; rfl
  one h := by rw [h.1]; simp [Value.oneCell']
  mono h _ := h

def ruleS : Shape Rule where
  size := 3
  rep _ _ cs r := cs = [.int .i64 r.ver, .int .i64 r.flow, .int .i64 r.next] ∧ I64 r.ver ∧ I64 r.flow ∧ I64 r.next
  len h := by rw [h.1]; rfl
  one h := by rw [h.1]; simp [Value.oneCell']
  mono h _ := h

def stampS : Shape Stamp where
  size := 2
  rep _ _ cs r := cs = [.int .i64 r.flow, .int .i64 r.ver] ∧ I64 r.flow ∧ I64 r.ver
  len h := by rw [h.1]; rfl
  one h := by rw [h.1]; simp [Value.oneCell']
  mono h _ := h

def topoS : Shape Topo where
  size := 2
  rep ok w cs t := ∃ ao cap, cs = [.int .i64 t.n, .slice ao t.links.length cap] ∧ I64 t.n ∧ rowRep linkS ok w ao cap t.links
  len h := by obtain ⟨_, _, rfl, _⟩ := h; rfl
  one h := by obtain ⟨_, _, rfl, _⟩ := h; simp [Value.oneCell']
  mono h hk := by
    obtain ⟨ao, cap, rfl, h1, h2⟩ := h
    exact ⟨ao, cap, rfl, h1, h2.mono hk⟩

def flowS : Shape Flow where
  size := 4
  rep ok w cs f := ∃ va vc na nc, cs = [.int .i64 f.src, .int .i64 f.dst, .slice va f.via.length vc, .slice na f.no.length nc] ∧ I64 f.src ∧ I64 f.dst ∧ rowRep intS ok w va vc f.via ∧ rowRep intS ok w na nc f.no
  len h := by obtain ⟨_, _, _, _, rfl, _⟩ := h; rfl
  one h := by obtain ⟨_, _, _, _, rfl, _⟩ := h; simp [Value.oneCell']
  mono h hk := by
    obtain ⟨va, vc, na, nc, rfl, h1, h2, h3, h4⟩ := h
    exact ⟨va, vc, na, nc, rfl, h1, h2, h3.mono hk, h4.mono hk⟩

def orderS : Shape Order where
  size := 5
  rep ok w cs o := ∃ ra rc fa fc, cs = [.int .i64 o.kind, .int .i64 o.num, .int .i64 o.ver, .slice ra o.rules.length rc, .slice fa o.flows.length fc] ∧
    I64 o.kind ∧ I64 o.num ∧ I64 o.ver ∧ rowRep ruleS ok w ra rc o.rules ∧ rowRep intS ok w fa fc o.flows
  len h := by obtain ⟨_, _, _, _, rfl, _⟩ := h; rfl
  one h := by obtain ⟨_, _, _, _, rfl, _⟩ := h; simp [Value.oneCell']
  mono h hk := by
    obtain ⟨va, vc, na, nc, rfl, h1, h2, h3, h4, h5⟩ := h
    exact ⟨va, vc, na, nc, rfl, h1, h2, h3, h4.mono hk, h5.mono hk⟩

def toS : Shape To where
  size := 6
  rep ok w cs t := ∃ ds, cs = .int .i64 t.sw :: ds ∧ I64 t.sw ∧ orderS.rep ok w ds t.order
  len h := by obtain ⟨_, rfl, _, h⟩ := h; simp [orderS.len h]; rfl
  one h := by
    obtain ⟨_, rfl, _, h⟩ := h
    intro c hc
    rcases List.mem_cons.1 hc with rfl | hc
    · rfl
    · exact orderS.one h c hc
  mono h hk := by
    obtain ⟨ds, rfl, h1, h⟩ := h
    exact ⟨ds, rfl, h1, orderS.mono h hk⟩

def planS : Shape Plan where
  size := 3
  rep ok w cs p := ∃ fa fc pa pc, cs = [.int .i64 p.ver, .slice fa p.flows.length fc, .slice pa p.paths.length pc] ∧ I64 p.ver ∧ rowRep flowS ok w fa fc p.flows ∧ rowRep (sliceS intS) ok w pa pc p.paths
  len h := by obtain ⟨_, _, _, _, rfl, _⟩ := h; rfl
  one h := by obtain ⟨_, _, _, _, rfl, _⟩ := h; simp [Value.oneCell']
  mono h hk := by
    obtain ⟨va, vc, na, nc, rfl, h1, h2, h3⟩ := h
    exact ⟨va, vc, na, nc, rfl, h1, h2.mono hk, h3.mono hk⟩

def switchS : Shape Switch where
  size := 2
  rep ok w cs s := ∃ ra rc sa sc, cs = [.slice ra s.rules.length rc, .slice sa s.stamps.length sc] ∧ rowRep ruleS ok w ra rc s.rules ∧ rowRep stampS ok w sa sc s.stamps
  len h := by obtain ⟨_, _, _, _, rfl, _⟩ := h; rfl
  one h := by obtain ⟨_, _, _, _, rfl, _⟩ := h; simp [Value.oneCell']
  mono h hk := by
    obtain ⟨va, vc, na, nc, rfl, h2, h3⟩ := h
    exact ⟨va, vc, na, nc, rfl, h2.mono hk, h3.mono hk⟩

def packetS : Shape Packet where
  size := 4
  rep ok w cs p := ∃ ta tc, cs = [.int .i64 p.flow, .int .i64 p.ver, .slice ta p.trace.length tc, .bool p.done] ∧ I64 p.flow ∧ I64 p.ver ∧ rowRep intS ok w ta tc p.trace
  len h := by obtain ⟨_, _, rfl, _⟩ := h; rfl
  one h := by obtain ⟨_, _, rfl, _⟩ := h; simp [Value.oneCell']
  mono h hk := by
    obtain ⟨ta, tc, rfl, h1, h2, h3⟩ := h
    exact ⟨ta, tc, rfl, h1, h2, h3.mono hk⟩

def ctlS : Shape Ctl where
  size := 9
  rep ok w cs c := ∃ ns xs wa wc, cs = .int .i64 c.stage :: (ns ++ xs ++ [.int .i64 c.num, .slice wa c.waits.length wc]) ∧ I64 c.stage ∧ I64 c.num ∧ planS.rep ok w ns c.now ∧ planS.rep ok w xs c.next ∧ rowRep intS ok w wa wc c.waits
  len h := by obtain ⟨_, _, _, _, rfl, _, _, h1, h2, _⟩ := h; simp [planS.len h1, planS.len h2]; rfl
  one h := by
    obtain ⟨_, _, _, _, rfl, _, _, h1, h2, _⟩ := h
    intro c hc
    simp only [List.mem_cons, List.mem_append, List.not_mem_nil, or_false] at hc
    rcases hc with rfl | (hc | hc) | rfl | rfl
    · rfl
    · exact planS.one h1 c hc
    · exact planS.one h2 c hc
    · rfl
    · rfl
  mono h hk := by
    obtain ⟨ns, xs, wa, wc, rfl, h1, h2, h3, h4, h5⟩ := h
    exact ⟨ns, xs, wa, wc, rfl, h1, h2, planS.mono h3 hk, planS.mono h4 hk, h5.mono hk⟩

def doS : Shape Do where
  size := 3
  rep ok w cs d := ∃ fa fc, cs = [.int .i64 d.kind, .int .i64 d.n, .slice fa d.flows.length fc] ∧ I64 d.kind ∧ I64 d.n ∧ rowRep flowS ok w fa fc d.flows
  len h := by obtain ⟨_, _, rfl, _⟩ := h; rfl
  one h := by obtain ⟨_, _, rfl, _⟩ := h; simp [Value.oneCell']
  mono h hk := by
    obtain ⟨fa, fc, rfl, h1, h2, h3⟩ := h
    exact ⟨fa, fc, rfl, h1, h2, h3.mono hk⟩

def netS : Shape Net where
  size := 14
  rep ok w cs n := ∃ ks sa sc oa oc ba bc pa pc la lc, cs = ks ++ [.slice sa n.switches.length sc, .slice oa n.orders.length oc, .slice ba n.backs.length bc, .slice pa n.packets.length pc, .slice la n.plans.length lc] ∧
    ctlS.rep ok w ks n.ctl ∧ rowRep switchS ok w sa sc n.switches ∧ rowRep (sliceS orderS) ok w oa oc n.orders ∧ rowRep (sliceS intS) ok w ba bc n.backs ∧ rowRep packetS ok w pa pc n.packets ∧ rowRep planS ok w la lc n.plans
  len h := by obtain ⟨_, _, _, _, _, _, _, _, _, _, _, rfl, h, _⟩ := h; simp [ctlS.len h]; rfl
  one h := by
    obtain ⟨_, _, _, _, _, _, _, _, _, _, _, rfl, h, _⟩ := h
    intro c hc
    simp only [List.mem_cons, List.mem_append, List.not_mem_nil, or_false] at hc
    rcases hc with hc | rfl | rfl | rfl | rfl | rfl
    · exact ctlS.one h c hc
    all_goals rfl
  mono h hk := by
    obtain ⟨ks, sa, sc, oa, oc, ba, bc, pa, pc, la, lc, rfl, h1, h2, h3, h4, h5, h6⟩ := h
    exact ⟨ks, sa, sc, oa, oc, ba, bc, pa, pc, la, lc, rfl, ctlS.mono h1 hk, h2.mono hk, h3.mono hk, h4.mono hk, h5.mono hk, h6.mono hk⟩

end Go.St

/-
  Small plain lemmas that the walks share.
-/
namespace Go.St
open Go.RowKit

theorem ret_int {a b : Int} (h : a = b) : Ending.returned (.int .i64 a) = .returned (.int .i64 b) := by rw [h]
theorem ret_u8 {a b : Int} (h : a = b) : Ending.returned (.int .u8 a) = .returned (.int .u8 b) := by rw [h]
theorem ret_bool {a b : Bool} (h : a = b) : Ending.returned (.bool a) = .returned (.bool b) := by rw [h]
theorem int_eq {k : IntKind} {a b : Int} (h : a = b) : Value.int k a = .int k b := by rw [h]

theorem drop_step {α : Type} {l : List α} {j : Nat} (h : j < l.length) : l.drop j = l[j] :: l.drop (j + 1) := List.drop_eq_getElem_cons h

theorem all_step {α : Type} {l : List α} {p : α → Bool} {j : Nat} (h : j < l.length) (hi : l.all p = (l.drop j).all p) : l.all p = (p l[j] && (l.drop (j + 1)).all p) := by
  rw [hi, drop_step h, List.all_cons]

/-- the cell at an address that a block's number and a sum name -/
theorem cell_at {w w' : World} {B b o : Nat} {v : Value} (hb : Below B w w') (hB : b < B) (h : w.cell? ⟨b, o, none⟩ = some v) : w'.cell? ⟨b, o, none⟩ = some v := by
  rw [hb.cell (p := ⟨b, o, none⟩) hB]; exact h

/-- what lay below reads as it did, as two rules for the walk -/
theorem bcell {W w1 : World} (hb : Below W.heap.size W w1) : (∀ b o, b < W.heap.size → w1.cell? ⟨b, o, none⟩ = W.cell? ⟨b, o, none⟩) ∧ (∀ b o, b < W.heap.size → w1.frozen? ⟨b, o, none⟩ = W.frozen? ⟨b, o, none⟩) :=
  ⟨fun b o h => hb.cell (p := ⟨b, o, none⟩) h, fun b o h => hb.frozen (p := ⟨b, o, none⟩) h⟩

theorem Below_drewN {B : Nat} {a w : World} (h : Below B a w) (n : Nat) : Below B a (w.drewN n) := ⟨h.os, h.tape, h.output, h.size, h.block⟩

end Go.St

/-
  Two lists held against each other: the walks of Ints, SameRules, SameOrder.
-/
set_option linter.unusedSimpArgs false
set_option linter.unusedVariables false
namespace Go.Proofs.Ytagldmdeohenjaa
open Go.RowKit Go.St

/-- from a place on the two lists are the same -/
def sameFrom {α : Type} [DecidableEq α] (a b : List α) (j : Nat) : Bool := a.drop j == b.drop j

theorem sameFrom_start {α : Type} [DecidableEq α] (a b : List α) : (a == b) = sameFrom a b 0 := rfl

theorem sameFrom_bad {α : Type} [DecidableEq α] {a b : List α} {j : Nat} (h1 : j < a.length) (h2 : j < b.length) (hi : (a == b) = sameFrom a b j) (hne : a[j] ≠ b[j]) : (a == b) = false := by
  rw [hi, sameFrom, drop_step h1, drop_step h2, beq_eq_false_iff_ne]
  intro e
  exact hne (List.cons.inj e).1

theorem sameFrom_good {α : Type} [DecidableEq α] {a b : List α} {j : Nat} (h1 : j < a.length) (h2 : j < b.length) (hi : (a == b) = sameFrom a b j) (he : a[j] = b[j]) : (a == b) = sameFrom a b (j + 1) := by
  rw [hi, sameFrom, drop_step h1, drop_step h2, sameFrom, he, Bool.eq_iff_iff, beq_iff_eq, beq_iff_eq]
  exact ⟨fun e => (List.cons.inj e).2, fun e => by rw [e]⟩

theorem sameFrom_end {α : Type} [DecidableEq α] {a b : List α} {j : Nat} (h1 : j = a.length) (h2 : j = b.length) (hi : (a == b) = sameFrom a b j) : true = (a == b) := by
  rw [hi, sameFrom, h1, List.drop_length, ← h1, h2, List.drop_length]; rfl

theorem ne_of_length {α : Type} [DecidableEq α] {a b : List α} (h : a.length ≠ b.length) : (a == b) = false := by
  rw [beq_eq_false_iff_ne]
  rintro rfl
  exact h rfl

set_option maxHeartbeats 1000000 in
theorem ints_c (xs ys : List Int) (ok ok' : Nat → Prop) (ax ay : Option Addr) (cx cy : Nat) (w : World) (hx : rowRep intS ok w ax cx xs) (hy : rowRep intS ok' w ay cy ys) :
    Calls Try.prog 34 #[.slice ax xs.length cx, .slice ay ys.length cy] w fun e w' => e = .returned (.bool (xs == ys)) ∧ Below w.heap.size w w' := by
  by_cases hl : xs.length = ys.length
  case neg =>
    rw [ne_of_length hl]
    have hl' : ((xs.length : Int) == (ys.length : Int)) = false := by rw [beq_eq_false_iff_ne]; omega
    clear hl
    go_enter Try.func34, Try.ntmps34
    go_wp2
    go_ret; exact ⟨rfl, by (repeat' (first | with_reducible exact Below.refl _ _ | with_reducible assumption | with_reducible refine Below.drew ?_ | with_reducible refine Below_drewN ?_ _ | with_reducible refine Below.alloc ?_ ?_ _ | with_reducible refine Below.setCell ?_ ?_ _ | omega | (simp; done) | (simp; omega)))⟩
  have hl' : ((xs.length : Int) == (ys.length : Int)) = true := by rw [beq_iff_eq]; omega
  have hlx := hx.len_le
  have HL := Lib.hid hl
  clear hl
  go_enter Try.func34, Try.ntmps34
  go_wp2
  go_loopw [13] (fun i wr => ∃ j : Nat, j ≤ xs.length ∧ i = .int .i64 j ∧ Hid ((xs == ys) = sameFrom xs ys j) ∧ Below w.heap.size w wr) (fun i _ => xs.length - (intOf i).toNat)
  case atStart => exact ⟨0, Nat.zero_le _, rfl, sameFrom_start _ _, Below.refl _ _⟩
  case round =>
    obtain ⟨j, hj, rfl, hall, hb⟩ := hrel
    by_cases hlt : j < xs.length
    · have hlt2 : j < ys.length := by have := HL.out; omega
      obtain ⟨b, off, rfl, _, hbl, cs, hcs, hce⟩ := hx.get (List.getElem?_eq_getElem hlt)
      obtain ⟨rfl, hi1⟩ := hcs
      have e0 := cell_at hb hbl (hce 0 _ rfl)
      clear hce
      obtain ⟨b', off', rfl, _, hbl', cs', hcs', hce'⟩ := hy.get (List.getElem?_eq_getElem hlt2)
      obtain ⟨rfl, hi2⟩ := hcs'
      have e1 := cell_at hb hbl' (hce' 0 _ rfl)
      clear hce'
      simp only [intS, Nat.add_zero, Nat.mul_one] at e0 e1
      have b0 : (0 : Int) ≤ (j : Int) := by omega
      have b1 : (j : Int) < (xs.length : Int) := by omega
      have b2 : (j : Int) < (ys.length : Int) := by omega
      go_wp2
      go_quiet (fail)
      go_wp2
      case roundEnd =>
        go_roundw
        case rel => exact ⟨j + 1, by omega, by go_num, sameFrom_good hlt hlt2 hall.out (by (try simp only [beq_iff_eq, beq_eq_false_iff_ne, bne_iff_ne, bne_eq_false_iff_eq, ne_eq, Bool.not_eq_true', Bool.not_eq_false', decide_eq_true_eq, decide_eq_false_iff_not] at *); assumption), by (repeat' (first | with_reducible exact Below.refl _ _ | with_reducible assumption | with_reducible refine Below.drew ?_ | with_reducible refine Below_drewN ?_ _ | with_reducible refine Below.alloc ?_ ?_ _ | with_reducible refine Below.setCell ?_ ?_ _ | omega | (simp; done) | (simp; omega)))⟩
        case measure => simp [intOf]; omega
      all_goals (go_ret; exact ⟨ret_bool (sameFrom_bad hlt hlt2 hall.out (by (try simp only [beq_iff_eq, beq_eq_false_iff_ne, bne_iff_ne, bne_eq_false_iff_eq, ne_eq, Bool.not_eq_true', Bool.not_eq_false', decide_eq_true_eq, decide_eq_false_iff_not] at *); assumption)).symm, by (repeat' (first | with_reducible exact Below.refl _ _ | with_reducible assumption | with_reducible refine Below.drew ?_ | with_reducible refine Below_drewN ?_ _ | with_reducible refine Below.alloc ?_ ?_ _ | with_reducible refine Below.setCell ?_ ?_ _ | omega | (simp; done) | (simp; omega)))⟩)
    · go_wp2
      go_ret; exact ⟨ret_bool (sameFrom_end (by omega) (by have := HL.out; omega) hall.out), by (repeat' (first | with_reducible exact Below.refl _ _ | with_reducible assumption | with_reducible refine Below.drew ?_ | with_reducible refine Below_drewN ?_ _ | with_reducible refine Below.alloc ?_ ?_ _ | with_reducible refine Below.setCell ?_ ?_ _ | omega | (simp; done) | (simp; omega)))⟩

end Go.Proofs.Ytagldmdeohenjaa

/-
  From the reading of an argument to the datum that lies there.
-/
set_option linter.unusedSimpArgs false
set_option linter.unusedVariables false
namespace Go.St
open Go.RowKit Go.Deep Go.ChangeShapes Go.WideShapes

/-- whatever a type's reading passes through is a datum of the shape -/
structure Opens {α : Type} (P : Program) (t : TypeId) (S : Shape α) : Prop where
  size : P.cellsOf t = S.size
  pos : 0 < S.size
  op : ∀ {H : Type} {enc : TypeId × Value → H} {w : World} {spare : Nat → Bool} {held : Bool} {fuel : Nat} {cs : List Value} {x : DataW H × List MemPlace}, DataW.trod enc P w 0 spare held fuel t cs = some x → ∃ a, S.rep (fun _ => True) w cs a

theorem I64.of_wf {n : Int} (h : (Lit.int .i64 n).wf = true) : I64 n := by
  simp only [Lit.wf, Bool.and_eq_true, decide_eq_true_eq] at h
  have e1 : IntKind.i64.min = -9223372036854775808 := by decide
  have e2 : IntKind.i64.max = 9223372036854775807 := by decide
  rw [e1, e2] at h
  exact h

theorem opens_int {P : Program} {t : TypeId} (ht : P.underlying t = some (.int .i64)) (hc : P.cellsOf t = 1) : Opens P t intS where
  size := hc
  pos := by decide
  op h := by
    obtain ⟨n, rfl, rfl, hw⟩ := DataW.trod_int ht h
    exact ⟨n, rfl, I64.of_wf hw⟩

theorem opens_byte {P : Program} {t : TypeId} (ht : P.underlying t = some (.int .u8)) (hc : P.cellsOf t = 1) : Opens P t byteS where
  size := hc
  pos := by decide
  op h := by
    obtain ⟨n, rfl, rfl, hw⟩ := DataW.trod_int ht h
    simp only [Lit.wf, Bool.and_eq_true, decide_eq_true_eq] at hw
    have e1 : IntKind.u8.min = 0 := by decide
    have e2 : IntKind.u8.max = 255 := by decide
    rw [e1, e2] at hw
    exact ⟨n, rfl, hw.1, hw.2⟩

theorem opens_bool {P : Program} {t : TypeId} (ht : P.underlying t = some .bool) (hc : P.cellsOf t = 1) : Opens P t boolS where
  size := hc
  pos := by decide
  op h := by
    obtain ⟨b, rfl, rfl⟩ := DataW.trod_bool ht h
    exact ⟨b, rfl⟩

theorem Opens.slice {α : Type} {P : Program} {t e : TypeId} {S : Shape α} (ho : Opens P e S) (ht : P.underlying t = some (.slice e)) (hc : P.cellsOf t = 1) : Opens P t (sliceS S) where
  size := hc
  pos := by simp [sliceS]
  op {H enc w spare held fuel cs x} h := by
    rcases open_slice ht h with ⟨rfl, _⟩ | ⟨a, len, cap, m, n, D, Pl, rfl, hb, hl, hm, hmm, rfl, hx⟩
    · exact ⟨[], none, 0, rfl, rowRep.nil _ _ _ _⟩
    have hlm : len ≤ m := by rw [hmm]; split <;> omega
    by_cases h0 : len = 0
    · subst h0
      exact ⟨[], some a, cap, rfl, Nat.zero_le _, hm, .inl rfl⟩
    have each : ∀ i, i < len → ∃ x, ∃ cs', S.rep (fun _ => True) w cs' x ∧ ∀ j c, cs'[j]? = some c → w.cell? ((a.add (i * S.size)).add j) = some c := by
      intro i hi
      obtain ⟨cs', h1, h2⟩ := hx i (by omega)
      obtain ⟨y, hy⟩ := ho.op h2
      refine ⟨y, cs', hy, fun j c hc => ?_⟩
      rw [ho.size] at h1
      have hj : j < S.size := by rw [← S.len hy]; exact (List.getElem?_eq_some_iff.1 hc).1
      exact ((World.cells?_some h1).2.2 j hj).trans hc
    obtain ⟨x0, _⟩ := each 0 (by omega)
    haveI : Inhabited α := ⟨x0⟩
    obtain ⟨f, hf⟩ := choose_lt each
    have ha : ∃ b off, a = ⟨b, off, none⟩ ∧ b < w.heap.size := by
      obtain ⟨cs', h1, h2⟩ := hf 0 (by omega)
      have hp := ho.pos
      rw [← S.len h1] at hp
      have := h2 0 cs'[0] (List.getElem?_eq_getElem hp)
      obtain ⟨b, off, sp⟩ := a
      simp only [Nat.zero_mul, Addr.add] at this
      simp only [World.cell?] at this
      refine ⟨b, off, ?_⟩
      cases hbk : w.heap[b]? with
      | none => simp [hbk] at this
      | some o =>
        refine ⟨?_, (Array.getElem?_eq_some_iff.1 hbk).1⟩
        cases sp with
        | none => rfl
        | some s => cases o <;> simp [hbk] at this
    obtain ⟨b, off, rfl, hlt⟩ := ha
    refine ⟨(List.range len).map f, some ⟨b, off, none⟩, cap, by simp, by simpa using hl, hm, .inr ⟨b, off, rfl, trivial, hlt, fun i x hi => ?_⟩⟩
    have hil : i < len := by have := (List.getElem?_eq_some_iff.1 hi).1; simpa using this
    simp [hil] at hi
    subst hi
    obtain ⟨cs', h1, h2⟩ := hf i hil
    refine ⟨cs', h1, fun j c hc => ?_⟩
    have := h2 j c hc
    rwa [add_add, show (Addr.add ⟨b, off, none⟩ (i * S.size + j)) = ⟨b, off + i * S.size + j, none⟩ by unfold Addr.add; by_cases h : i * S.size + j = 0 <;> simp [h, Nat.add_assoc]] at this

theorem Opens.row {α : Type} {P : Program} {t : TypeId} {S : Shape α} (ho : Opens P t (sliceS S)) {H : Type} {enc : TypeId × Value → H} {w : World} {spare : Nat → Bool} {held : Bool} {fuel : Nat} {cs : List Value} {x : DataW H × List MemPlace} (h : DataW.trod enc P w 0 spare held fuel t cs = some x) :
    ∃ xs ao cap, cs = [.slice ao xs.length cap] ∧ rowRep S (fun _ => True) w ao cap xs := by
  obtain ⟨xs, ao, cap, h1, h2⟩ := ho.op h
  exact ⟨xs, ao, cap, h1, h2⟩

theorem opens_link {β : Type} {P : Program} {t i : TypeId} {f0 f1 f2 : Field} (ht : P.underlying t = some (.struct #[f0, f1, f2])) (hc : P.cellsOf t = 3) (hi : Opens P i intS)
    (t0 : f0.type = i ∧ f0.offset = 0) (t1 : f1.type = i ∧ f1.offset = 1) (t2 : f2.type = i ∧ f2.offset = 2) {S : Shape β} (hs : S.size = 3) (mk : ∀ a b c w, I64 a → I64 b → I64 c → ∃ x, S.rep (fun _ => True) w [.int .i64 a, .int .i64 b, .int .i64 c] x) : Opens P t S where
  size := by rw [hc, hs]
  pos := by omega
  op h := by
    obtain ⟨xs, n, _, rfl, hl, hlen, hf⟩ := DataW.trod_struct ht h
    rename_i cs _
    rw [hc] at hl
    match cs, hl, xs, hlen with
    | [v0, v1, v2], _, [x0, x1, x2], _ =>
      have h0 := hf 0 f0 rfl
      have h1 := hf 1 f1 rfl
      have h2 := hf 2 f2 rfl
      rw [t0.1, t0.2, hi.size] at h0
      rw [t1.1, t1.2, hi.size] at h1
      rw [t2.1, t2.2, hi.size] at h2
      obtain ⟨a, ha, ia⟩ := hi.op h0
      obtain ⟨b, hb, ib⟩ := hi.op h1
      obtain ⟨c, hc, ic⟩ := hi.op h2
      simp [intS] at ha hb hc
      subst ha; subst hb; subst hc
      exact mk a b c _ ia ib ic

theorem opens_stamp {P : Program} {t i : TypeId} {f0 f1 : Field} (ht : P.underlying t = some (.struct #[f0, f1])) (hc : P.cellsOf t = 2) (hi : Opens P i intS)
    (t0 : f0.type = i ∧ f0.offset = 0) (t1 : f1.type = i ∧ f1.offset = 1) : Opens P t stampS where
  size := by rw [hc]; rfl
  pos := by decide
  op h := by
    obtain ⟨xs, n, _, rfl, hl, hlen, hf⟩ := DataW.trod_struct ht h
    rename_i cs _
    rw [hc] at hl
    match cs, hl, xs, hlen with
    | [v0, v1], _, [x0, x1], _ =>
      have h0 := hf 0 f0 rfl
      have h1 := hf 1 f1 rfl
      rw [t0.1, t0.2, hi.size] at h0
      rw [t1.1, t1.2, hi.size] at h1
      obtain ⟨a, ha, ia⟩ := hi.op h0
      obtain ⟨b, hb, ib⟩ := hi.op h1
      simp [intS] at ha hb
      subst ha; subst hb
      exact ⟨⟨a, b⟩, rfl, ia, ib⟩

theorem opens_order {P : Program} {t i rs fs : TypeId} {f0 f1 f2 f3 f4 : Field} (ht : P.underlying t = some (.struct #[f0, f1, f2, f3, f4])) (hc : P.cellsOf t = 5) (hi : Opens P i intS) (hr : Opens P rs (sliceS ruleS)) (hfl : Opens P fs (sliceS intS))
    (t0 : f0.type = i ∧ f0.offset = 0) (t1 : f1.type = i ∧ f1.offset = 1) (t2 : f2.type = i ∧ f2.offset = 2) (t3 : f3.type = rs ∧ f3.offset = 3) (t4 : f4.type = fs ∧ f4.offset = 4) : Opens P t orderS where
  size := by rw [hc]; rfl
  pos := by decide
  op h := by
    obtain ⟨xs, n, _, rfl, hl, hlen, hf⟩ := DataW.trod_struct ht h
    rename_i cs _
    rw [hc] at hl
    match cs, hl, xs, hlen with
    | [v0, v1, v2, v3, v4], _, [x0, x1, x2, x3, x4], _ =>
      have h0 := hf 0 f0 rfl
      have h1 := hf 1 f1 rfl
      have h2 := hf 2 f2 rfl
      have h3 := hf 3 f3 rfl
      have h4 := hf 4 f4 rfl
      rw [t0.1, t0.2, hi.size] at h0
      rw [t1.1, t1.2, hi.size] at h1
      rw [t2.1, t2.2, hi.size] at h2
      rw [t3.1, t3.2, hr.size] at h3
      rw [t4.1, t4.2, hfl.size] at h4
      obtain ⟨a, ha, ia⟩ := hi.op h0
      obtain ⟨b, hb, ib⟩ := hi.op h1
      obtain ⟨c, hc, ic⟩ := hi.op h2
      obtain ⟨rr, ra, rc, hr1, hr2⟩ := hr.row h3
      obtain ⟨ff, fa, fc, hf1, hf2⟩ := hfl.row h4
      simp [intS, sliceS] at ha hb hc hr1 hf1
      subst ha; subst hb; subst hc; subst hr1; subst hf1
      exact ⟨⟨a, b, c, rr, ff⟩, ra, rc, fa, fc, rfl, ia, ib, ic, hr2, hf2⟩

end Go.St

/-
  From the reading of an argument to the datum that lies there, with a measure that the reading's bulk bounds.
-/
set_option linter.unusedSimpArgs false
set_option linter.unusedVariables false
namespace Go.Proofs.Ytagldmdeohenjaa
open Go.RowKit Go.St Go.Deep Go.ChangeShapes Go.WideShapes

theorem bulk_one {H : Type} (d : DataW H) : 1 ≤ Rows.uptoBulk d := by
  cases d with
  | lit l => cases l <;> simp [Rows.uptoBulk]
  | _ => simp [Rows.uptoBulk]
theorem bulk_mem {H : Type} {d : DataW H} : ∀ {l : List (DataW H)}, d ∈ l → Rows.uptoBulk d ≤ Rows.uptoBulkAll l
  | x :: r, h => by
    simp only [Rows.uptoBulkAll]
    rcases List.mem_cons.1 h with rfl | h
    · omega
    · have := bulk_mem h; omega
theorem bulk_sum {H : Type} {α : Type} {μ : α → Nat} {f : Nat → α} {D : Nat → DataW H} : ∀ {L : List Nat}, (∀ i ∈ L, μ (f i) ≤ Rows.uptoBulk (D i)) → ((L.map f).map μ).sum ≤ Rows.uptoBulkAll (L.map D)
  | [], _ => by simp
  | i :: L, h => by
    have h1 := h i (by simp)
    have h2 := bulk_sum (L := L) fun j hj => h j (List.mem_cons_of_mem _ hj)
    simp only [List.map_cons, List.sum_cons, Rows.uptoBulkAll]
    omega

structure OpensB {α : Type} (P : Program) (t : TypeId) (S : Shape α) (μ : α → Nat) : Prop where
  size : P.cellsOf t = S.size
  pos : 0 < S.size
  op : ∀ {H : Type} {enc : TypeId × Value → H} {w : World} {spare : Nat → Bool} {held : Bool} {fuel : Nat} {cs : List Value} {x : DataW H × List MemPlace}, DataW.trod enc P w 0 spare held fuel t cs = some x → ∃ a, S.rep (fun _ => True) w cs a ∧ μ a ≤ Rows.uptoBulk x.1
theorem _root_.Go.St.Opens.bulk {α : Type} {P : Program} {t : TypeId} {S : Shape α} (h : Opens P t S) : OpensB P t S (fun _ => 1) :=
  ⟨h.size, h.pos, fun h1 => let ⟨a, ha⟩ := h.op h1; ⟨a, ha, bulk_one _⟩⟩
theorem OpensB.slice {α : Type} {P : Program} {t e : TypeId} {S : Shape α} {μ : α → Nat} (ho : OpensB P e S μ) (ht : P.underlying t = some (.slice e)) (hc : P.cellsOf t = 1) :
    OpensB P t (sliceS S) (fun xs => (xs.map μ).sum + 1) where
  size := hc
  pos := by simp [sliceS]
  op {H enc w spare held fuel cs x} h := by
    rcases open_slice ht h with ⟨rfl, _⟩ | ⟨a, len, cap, m, n, D, Pl, rfl, hb, hl, hm, hmm, rfl, hx⟩
    · exact ⟨[], ⟨none, 0, rfl, rowRep.nil _ _ _ _⟩, by simpa using bulk_one _⟩
    have hlm : len ≤ m := by rw [hmm]; split <;> omega
    by_cases h0 : len = 0
    · subst h0
      exact ⟨[], ⟨some a, cap, rfl, Nat.zero_le _, hm, .inl rfl⟩, by simpa using bulk_one _⟩
    have each : ∀ i, i < len → ∃ x, ∃ cs', S.rep (fun _ => True) w cs' x ∧ μ x ≤ Rows.uptoBulk (D i) ∧ ∀ j c, cs'[j]? = some c → w.cell? ((a.add (i * S.size)).add j) = some c := by
      intro i hi
      obtain ⟨cs', h1, h2⟩ := hx i (by omega)
      obtain ⟨y, hy, hr⟩ := ho.op h2
      refine ⟨y, cs', hy, hr, fun j c hc => ?_⟩
      rw [ho.size] at h1
      have hj : j < S.size := by rw [← S.len hy]; exact (List.getElem?_eq_some_iff.1 hc).1
      exact ((World.cells?_some h1).2.2 j hj).trans hc
    obtain ⟨x0, _⟩ := each 0 (by omega)
    haveI : Inhabited α := ⟨x0⟩
    obtain ⟨f, hf⟩ := choose_lt each
    have ha : ∃ b off, a = ⟨b, off, none⟩ ∧ b < w.heap.size := by
      obtain ⟨cs', h1, _, h2⟩ := hf 0 (by omega)
      have hp := ho.pos
      rw [← S.len h1] at hp
      have := h2 0 cs'[0] (List.getElem?_eq_getElem hp)
      obtain ⟨b, off, sp⟩ := a
      simp only [Nat.zero_mul, Addr.add] at this
      simp only [World.cell?] at this
      refine ⟨b, off, ?_⟩
      cases hbk : w.heap[b]? with
      | none => simp [hbk] at this
      | some o =>
        refine ⟨?_, (Array.getElem?_eq_some_iff.1 hbk).1⟩
        cases sp with
        | none => rfl
        | some s => cases o <;> simp [hbk] at this
    obtain ⟨b', off, rfl, hlt⟩ := ha
    refine ⟨(List.range len).map f, ⟨some ⟨b', off, none⟩, cap, by simp, by simpa using hl, hm, .inr ⟨b', off, rfl, trivial, hlt, fun i x hi => ?_⟩⟩, ?_⟩
    · have hil : i < len := by have := (List.getElem?_eq_some_iff.1 hi).1; simpa using this
      simp [hil] at hi
      subst hi
      obtain ⟨cs', h1, _, h2⟩ := hf i hil
      refine ⟨cs', h1, fun j c hc => ?_⟩
      have := h2 j c hc
      rwa [add_add, show (Addr.add ⟨b', off, none⟩ (i * S.size + j)) = ⟨b', off + i * S.size + j, none⟩ by unfold Addr.add; by_cases h : i * S.size + j = 0 <;> simp [h, Nat.add_assoc]] at this
    · have := bulk_sum (L := List.range len) (μ := μ) (f := f) (D := D) fun i hi => by
        obtain ⟨_, _, h1, _⟩ := hf i (List.mem_range.1 hi)
        exact h1
      simp only [Rows.uptoBulk]
      omega

section
variable {H : Type} {enc : TypeId × Value → H} {P : Program} {w : World} {r : Reach} {b0 : Nat} {sp : Nat → Bool} {held : Bool} {t : TypeId} {v : Value} {d : DataW H} {ps : List MemPlace}
theorem arg_rowB {α : Type} {S : Shape α} {μ : List α → Nat} {e : TypeId} (ho : OpensB P t (sliceS S) μ) (ht : P.underlying t = some (.slice e)) (hval : Value.okWide P w r b0 t v) (hd : DataW.Trod enc P w 0 sp held t v d ps) :
    ∃ xs ao cap, v = .slice ao xs.length cap ∧ rowRep S (fun _ => True) w ao cap xs ∧ μ xs ≤ Rows.uptoBulk d := by
  obtain ⟨a, len, cap, rfl⟩ := okWide_slice ht hval
  obtain ⟨fuel, h⟩ := hd
  obtain ⟨xs, ⟨ao, cp, h1, h2⟩, h3⟩ := ho.op h
  simp [Value.cells] at h1
  obtain ⟨rfl, rfl, rfl⟩ := h1
  exact ⟨xs, a, cap, rfl, h2, h3⟩
theorem arg_aggB {α : Type} {S : Shape α} {μ : α → Nat} {fs : Array Field} (ho : OpensB P t S μ) (ht : P.underlying t = some (.struct fs)) (hval : Value.okWide P w r b0 t v) (hd : DataW.Trod enc P w 0 sp held t v d ps) :
    ∃ a cs, v = .agg cs.toArray ∧ S.rep (fun _ => True) w cs a ∧ μ a ≤ Rows.uptoBulk d := by
  obtain ⟨cs, rfl, _⟩ := okWide_struct ht hval
  obtain ⟨fuel, h⟩ := hd
  obtain ⟨a, ha, hr⟩ := ho.op h
  exact ⟨a, cs.toList, by simp, by simpa [Value.cells] using ha, hr⟩
end

end Go.Proofs.Ytagldmdeohenjaa

/-
  The frame of a law that answers true and turns nothing that it was given.
-/
set_option linter.unusedSimpArgs false
set_option linter.unusedVariables false
namespace Go.St
open Go.RowKit Go.ChangeShapes Go.WideShapes Go.ChangeAt

theorem trodAll_stays {H : Type} {enc : TypeId × Value → H} {P : Program} (hl : laidOutB P = true) {W W' : World} (hb : Below W.heap.size W W') {sp : Nat → Bool} :
    ∀ {ts : List TypeId} {vs : List Value} {ds : List (DataW H)} {ps : List MemPlace}, (∀ t ∈ ts, P.readableRec t = true ∧ t < P.types.size) → DataW.TrodAll enc P W 0 (fun _ => true) true ts vs ds ps →
      (∀ x ∈ ps, x.block < W.heap.size) → (∀ x ∈ ps, sp x.block = true) → DataW.TrodAll enc P W' 0 sp true ts vs ds ps
  | [], vs, ds, ps, _, h, _, _ => by
    obtain ⟨rfl, rfl, rfl⟩ := trodAll_nil h
    exact trodAll_mk0
  | t :: ts, vs, ds, ps, ha, h, hlt, hs => by
    obtain ⟨v, vs', d, ds', p, q, rfl, rfl, rfl, h1, h2⟩ := trodAll_cons h
    have ht := ha t (by simp)
    exact ⟨p, q, WideElems.Trod_stays hl ht.1 ht.2 h1 (fun x hx => hb.same (hlt x (by simp [hx]))) (fun x hx => hs x (by simp [hx])),
      trodAll_stays hl hb (fun t' ht' => ha t' (by simp [ht'])) h2 (fun x hx => hlt x (by simp [hx])) (fun x hx => hs x (by simp [hx])), rfl⟩

/-- what a law leaves, where it answered true and turned nothing -/
theorem law_post {H : Type} {enc : TypeId × Value → H} {P : Program} (hl : laidOutB P = true) {f : Func} {s : ChangeSpec} {apart fresh handsOn : Bool} {W W' : World} {args : Array Value} {ds gs : List (DataW H)} {before : List MemPlace} {tb : TypeId}
    (hv : s.vars = []) (hW : DataW.Whole enc P f.params.toList s.vars apart W args.toList ds gs before) (hfn : s.fn H ds = { results := [.lit (.bool true)], args := ds })
    (hr : f.resultTypes = #[tb]) (htb : P.underlying tb = some .bool) (hall : ∀ t ∈ f.params.toList, P.readableRec t = true ∧ t < P.types.size) (hb : Below W.heap.size W W') :
    s.post enc P f apart fresh handsOn false W args (.bool true) W' := by
  have hW' := hW
  obtain ⟨p, q, hA, hV, rfl, hfz, hnd⟩ := hW
  rw [hv] at hV
  obtain ⟨rfl, rfl⟩ := trodVars_none hV
  have hlt : ∀ x ∈ p, x.block < W.heap.size := fun x hx => hW'.lt x (by simp [hx])
  have hg : s.fn H (ds ++ []) = { results := [.lit (.bool true)], args := ds } := by rw [List.append_nil]; exact hfn
  refine ⟨ds, [], p ++ [], [], p, [], hW', ?_, ?_, ?_, hb.frame _, fun h => by cases h⟩
  · rw [hg, hr]
    exact trodAll_mk1 (shut_bool htb true)
  · rw [hg]
    exact trodAll_stays hl hb hall hA hlt (fun x hx => by simpa using hlt x hx)
  · rw [hg, hv]
    rfl

section
variable {H : Type} {enc : TypeId × Value → H} {P : Program} {w : World} {r : Reach} {b0 : Nat} {sp : Nat → Bool} {held : Bool} {t : TypeId} {v : Value} {d : DataW H} {ps : List MemPlace}

theorem arg_int (ht : P.underlying t = some (.int .i64)) (hval : Value.okWide P w r b0 t v) (hd : DataW.Trod enc P w 0 sp held t v d ps) : ∃ n, v = .int .i64 n ∧ I64 n := by
  obtain ⟨n, rfl, _, _, hw⟩ := open_int ht hval hd
  exact ⟨n, rfl, I64.of_wf hw⟩

theorem arg_byte (ht : P.underlying t = some (.int .u8)) (hval : Value.okWide P w r b0 t v) (hd : DataW.Trod enc P w 0 sp held t v d ps) : ∃ n, v = .int .u8 n ∧ 0 ≤ n ∧ n ≤ 255 := by
  obtain ⟨n, rfl, _, _, hw⟩ := open_int ht hval hd
  simp only [Lit.wf, Bool.and_eq_true, decide_eq_true_eq] at hw
  have e1 : IntKind.u8.min = 0 := by decide
  have e2 : IntKind.u8.max = 255 := by decide
  rw [e1, e2] at hw
  exact ⟨n, rfl, hw.1, hw.2⟩

theorem arg_row {α : Type} {S : Shape α} {e : TypeId} (ho : Opens P t (sliceS S)) (ht : P.underlying t = some (.slice e)) (hval : Value.okWide P w r b0 t v) (hd : DataW.Trod enc P w 0 sp held t v d ps) :
    ∃ xs ao cap, v = .slice ao xs.length cap ∧ rowRep S (fun _ => True) w ao cap xs := by
  obtain ⟨a, len, cap, rfl⟩ := okWide_slice ht hval
  obtain ⟨fuel, hf⟩ := hd
  obtain ⟨xs, ao, cp, h1, h2⟩ := ho.row hf
  simp [Value.cells] at h1
  obtain ⟨rfl, rfl, rfl⟩ := h1
  exact ⟨xs, a, cap, rfl, h2⟩

theorem arg_agg {α : Type} {S : Shape α} {fs : Array Field} (ho : Opens P t S) (ht : P.underlying t = some (.struct fs)) (hval : Value.okWide P w r b0 t v) (hd : DataW.Trod enc P w 0 sp held t v d ps) :
    ∃ a cs, v = .agg cs.toArray ∧ S.rep (fun _ => True) w cs a := by
  obtain ⟨cs, rfl, _⟩ := okWide_struct ht hval
  obtain ⟨fuel, hf⟩ := hd
  obtain ⟨a, ha⟩ := ho.op hf
  exact ⟨a, cs.toList, by simp, by simpa [Value.cells] using ha⟩
end

end Go.St

/-
  A row of the call's own that grows by append: told by its cells, and by the data that they hold.
-/
set_option linter.unusedSimpArgs false
set_option linter.unusedVariables false
namespace Go.St
open Go.RowKit

/-- block of an address -/
def blk (ao : Option Addr) : Option Nat := ao.map (·.block)

/-- a row of the call's own: nil, or the head of a block from base on -/
def ownC (e : TypeId) (size base : Nat) (w : World) (ao : Option Addr) (n cap : Nat) (cells : List Value) : Prop :=
  cells.length = n * size ∧ n ≤ cap ∧ cap ≤ maxLen ∧
  ((ao = none ∧ cap = 0) ∨ ∃ g cur, ao = some ⟨g, 0, none⟩ ∧ base ≤ g ∧ w.heap[g]? = some (.cells cur e (0, 0)) ∧ cur.size = cap * size ∧ cur.toList.take (n * size) = cells)

theorem ownC.nil (e : TypeId) (size base : Nat) (w : World) : ownC e size base w none 0 0 [] := ⟨by simp, Nat.le_refl _, Nat.zero_le _, .inl ⟨rfl, rfl⟩⟩

theorem ownC.made (e : TypeId) (size base : Nat) (w : World) (cur : Array Value) (cap : Nat) (hb : base ≤ w.heap.size) (hm : cap ≤ maxLen) (hs : cur.size = cap * size) :
    ownC e size base (w.alloc (.cells cur e)) (some ⟨w.heap.size, 0, none⟩) cap cap cur.toList :=
  ⟨by simpa using hs, Nat.le_refl _, hm, .inr ⟨w.heap.size, cur, rfl, hb, heap_alloc_new w _, hs, List.take_of_length_le (by rw [Array.length_toList, hs]; exact Nat.le_refl _)⟩⟩

theorem ownC.lt {e : TypeId} {size base : Nat} {w : World} {ao : Option Addr} {n cap : Nat} {cells : List Value} (h : ownC e size base w ao n cap cells) : ∀ k, blk ao = some k → base ≤ k ∧ k < w.heap.size := by
  intro k hk
  obtain ⟨_, _, _, ⟨rfl, _⟩ | ⟨g, cur, rfl, hb, hg, _⟩⟩ := h
  · simp [blk] at hk
  · simp [blk] at hk
    subst hk
    exact ⟨hb, (Array.getElem?_eq_some_iff.1 hg).1⟩

theorem ownC.keep {e : TypeId} {size base : Nat} {w w' : World} {ao : Option Addr} {n cap : Nat} {cells : List Value} (h : ownC e size base w ao n cap cells)
    (hk : ∀ k, blk ao = some k → w'.heap[k]? = w.heap[k]?) : ownC e size base w' ao n cap cells := by
  obtain ⟨h1, h2, h3, h4⟩ := h
  refine ⟨h1, h2, h3, h4.imp id ?_⟩
  rintro ⟨g, cur, rfl, hb, hg, r⟩
  exact ⟨g, cur, rfl, hb, (hk g rfl).trans hg, r⟩

theorem ownC.below {e : TypeId} {size base : Nat} {w w' : World} {ao : Option Addr} {n cap : Nat} {cells : List Value} (h : ownC e size base w ao n cap cells)
    (hb : Below w.heap.size w w') : ownC e size base w' ao n cap cells :=
  h.keep fun k hk => hb.block k (h.lt k hk).2

theorem ownC.cell {e : TypeId} {size base : Nat} {w : World} {ao : Option Addr} {n cap : Nat} {cells : List Value} (h : ownC e size base w ao n cap cells)
    {g : Nat} (hg : ao = some ⟨g, 0, none⟩) : ∀ j u, cells[j]? = some u → w.cell? ⟨g, j, none⟩ = some u := by
  intro j u hu
  obtain ⟨_, _, _, ⟨rfl, _⟩ | ⟨g', cur, rfl, hb, hgg, hs, ht⟩⟩ := h
  · cases hg
  · obtain rfl : g' = g := by simpa using hg
    rw [cell_of_row w g' j cur e (0, 0) hgg]
    rw [← ht, List.getElem?_take] at hu
    split at hu
    · simpa using hu
    · cases hu

section
variable {P : Program} (w : World)

/-- the row takes m elements more, out of a slice whose cells are known -/
theorem run_app (t ty e : TypeId) (i : TypeInfo) (z : Value) (size bytes : Nat) (ht : P.underlying t = some (.slice e)) (hi : P.info? e = some i) (hz : i.zero = some z)
    (hsize : i.size = size) (hby : i.bytes = bytes) (hzs : z.cells.size = size) (hsz : 0 < size) (base : Nat)
    (ao : Option Addr) (n cap : Nat) (xs : List Value) (hown : ownC e size base w ao n cap xs)
    (ax : Option Addr) (m c : Nat) (news : List Value) (hl : news.length = m * size) (hnews : m = 0 ∨ ∃ ad, ax = some ad ∧ ∀ j u, news[j]? = some u → w.cell? (ad.add j) = some u) (h1 : ∀ u ∈ news, u.oneCell' = true)
    (h63 : n + m ≤ maxLen) (hbytes : (n + m) * bytes ≤ 140737488355328) (hbase : base ≤ w.heap.size) :
    ∃ ao' cap' w', (Builtin.append_ #[t, t] ty #[.slice ao n cap, .slice ax m c]).run P w = .ok (.slice ao' (n + m) cap') w' ∧ ownC e size base w' ao' (n + m) cap' (xs ++ news) ∧ w.grownBy w' (blk ao) ∧
      (blk ao' = blk ao ∨ blk ao' = some w.heap.size) := by
  subst hsize
  subst hby
  have hsmall : n + m ≤ 9223372036854775807 := by simp only [maxLen] at h63; omega
  have hlen : (xs ++ news).length = (n + m) * i.size := by rw [List.length_append, hown.1, hl, Nat.add_mul]
  have grown : ∀ (old : Nat), old < n + m → ∀ (row : Option Nat),
      ownC e i.size base (w.drew.alloc (.cells (xs.toArray ++ news.toArray ++ Builtin.zeroCells z.cells (grownCap w (n + m) old e - (n + m))) e))
        (some ⟨w.heap.size, 0, none⟩) (n + m) (grownCap w (n + m) old e) (xs ++ news) ∧
      w.grownBy (w.drew.alloc (.cells (xs.toArray ++ news.toArray ++ Builtin.zeroCells z.cells (grownCap w (n + m) old e - (n + m))) e)) row := by
    intro old ho row
    have hge := grownCap_ge w (n + m) old e
    have hcm : grownCap w (n + m) old e ≤ maxLen := grownCap_le_maxLen w (n + m) old e h63
    refine ⟨⟨hlen, hge, hcm, .inr ⟨w.heap.size, _, rfl, hbase, heap_alloc_new w.drew _, ?_, ?_⟩⟩, ⟨rfl, rfl, rfl, by simp, fun k hk _ => heap_alloc_old w.drew _ k hk⟩⟩
    · simp only [Array.size_append, List.size_toArray, size_zeroCells, hzs, hown.1, hl, ← Nat.add_mul]
      congr 1
      omega
    · simp only [Array.toList_append, List.append_assoc]
      rw [← List.append_assoc, ← hlen]
      exact List.take_left
  by_cases hm : m = 0
  · subst hm
    have hn : news = [] := List.eq_nil_of_length_eq_zero (by simpa using hl)
    subst hn
    have hnc := hown.2.1
    refine ⟨ao, cap, w, ?_, by simpa using hown, ⟨rfl, rfl, rfl, Nat.le_refl _, fun _ _ _ => rfl⟩, .inl rfl⟩
    cases ao <;> cases ax <;> simp [Builtin.append_, run_underlying ht, sizeOf, typeInfo, hi, Builtin.lenOf, Builtin.firstCells, loadCells, loadCellsFrom, hnc, storeCells]
  obtain ⟨a, rfl, hnew'⟩ := hnews.resolve_left hm
  clear hnews
  obtain ⟨_, hnc, hcm, ⟨rfl, rfl⟩ | ⟨g, cur, rfl, hbg, hg, hcs, htake⟩⟩ := hown
  · obtain rfl : n = 0 := by omega
    have hx : xs = [] := List.eq_nil_of_length_eq_zero (by simp only [List.length_append, hl] at hlen; simpa using hlen)
    subst hx
    have hr := run_append_nil (P := P) w t ty e i z ht hi hz a m c news hl hnew' (by omega) (by omega) (by have hb := hbytes; simp only [Nat.zero_add] at hb; omega)
    have hgr := grown 0 (by omega) (blk none)
    simp only [Nat.zero_add, List.nil_append, Array.empty_append] at hgr ⊢
    exact ⟨_, _, _, hr, hgr.1, hgr.2, .inr rfl⟩
  · by_cases hroom : n + m ≤ cap
    · have hfit : n * i.size + news.length ≤ cur.size := by rw [hl, hcs, ← Nat.add_mul]; exact Nat.mul_le_mul_right _ hroom
      have hr := run_append_room (P := P) w t ty e i ht hi g n cap cur hg a m c news hl hnew' h1 hroom hfit
      refine ⟨_, _, _, hr, ⟨hlen, hroom, hcm, .inr ⟨g, _, rfl, hbg, setRow_heap w g cur _ e _ hg, ?_, ?_⟩⟩, ⟨rfl, rfl, rfl, by simp, fun k _ hk => setRow_other w g k _ (fun e => hk (by simp [blk, e]))⟩, .inl rfl⟩
      · simp only [List.size_toArray, List.length_append, List.length_take, List.length_drop, Array.length_toList]
        omega
      · rw [htake, ← hlen]
        exact List.take_left
    · have holds : ∀ j u, xs[j]? = some u → w.cell? ((⟨g, 0, none⟩ : Addr).add j) = some u := by
        intro j u hu
        have hadd : (⟨g, 0, none⟩ : Addr).add j = ⟨g, j, none⟩ := by unfold Addr.add; split <;> simp_all
        rw [hadd, cell_of_row w g j cur e (0, 0) hg]
        rw [← htake, List.getElem?_take] at hu
        split at hu
        · simpa using hu
        · cases hu
      have hr := run_append_grow (P := P) w t ty e i z ht hi hz ⟨g, 0, none⟩ n cap xs (by simp only [List.length_append, hl, Nat.add_mul] at hlen; omega) holds a m c news hl hnew' (by omega) (by omega) (growslice_fits (by omega) hbytes)
      have hgr := grown cap (by omega) (blk (some ⟨g, 0, none⟩))
      exact ⟨_, _, _, hr, hgr.1, hgr.2, .inr rfl⟩

end

/-- the cells of element i -/
def chunk (size : Nat) (cells : List Value) (i : Nat) : List Value := (cells.drop (i * size)).take size

theorem chunk_left {size : Nat} {xs ys : List Value} {n i : Nat} (hx : xs.length = n * size) (hi : i < n) : chunk size (xs ++ ys) i = chunk size xs i := by
  have h : i * size + size ≤ n * size := by rw [← Nat.succ_mul]; exact Nat.mul_le_mul_right _ hi
  unfold chunk
  rw [List.drop_append_of_le_length (by omega), List.take_append_of_le_length (by rw [List.length_drop]; omega)]

theorem chunk_right {size : Nat} {xs ys : List Value} {n : Nat} (i : Nat) (hx : xs.length = n * size) : chunk size (xs ++ ys) (n + i) = chunk size ys i := by
  unfold chunk
  rw [List.drop_append, List.drop_of_length_le (by rw [hx, Nat.add_mul]; omega), List.nil_append, hx, Nat.add_mul, Nat.add_sub_cancel_left]

theorem chunk_get {size : Nat} {xs : List Value} {i j : Nat} {u : Value} (h : (chunk size xs i)[j]? = some u) : xs[i * size + j]? = some u := by
  unfold chunk at h
  rw [List.getElem?_take] at h
  split at h
  · rwa [List.getElem?_drop] at h
  · cases h

/-- a row of the call's own, told by the data that it holds -/
def ownR {α : Type} (sh : Shape α) (e : TypeId) (ok : Nat → Prop) (base : Nat) (w : World) (ao : Option Addr) (n cap : Nat) (xs : List α) : Prop :=
  ∃ cells, ownC e sh.size base w ao n cap cells ∧ n = xs.length ∧ (∀ i x, xs[i]? = some x → sh.rep ok w (chunk sh.size cells i) x) ∧ (∀ k, blk ao = some k → ¬ ok k) ∧ (∀ b, ok b → b < w.heap.size)

theorem ownR.nil {α : Type} (sh : Shape α) (e : TypeId) (ok : Nat → Prop) (base : Nat) (w : World) (h : ∀ b, ok b → b < w.heap.size) : ownR sh e ok base w none 0 0 [] :=
  ⟨[], ownC.nil _ _ _ _, rfl, by simp, by simp [blk], h⟩

theorem ownR.nil' {α : Type} (sh : Shape α) (e : TypeId) (base : Nat) (w : World) : ownR sh e (fun _ => False) base w none 0 0 [] := ownR.nil _ _ _ _ _ (fun _ h => h.elim)

theorem ownR.lt {α : Type} {sh : Shape α} {e : TypeId} {ok : Nat → Prop} {base : Nat} {w : World} {ao : Option Addr} {n cap : Nat} {xs : List α} (h : ownR sh e ok base w ao n cap xs) : ∀ k, blk ao = some k → base ≤ k ∧ k < w.heap.size := by
  obtain ⟨cells, h1, _⟩ := h
  exact h1.lt

theorem ownR.keep {α : Type} {sh : Shape α} {e : TypeId} {ok : Nat → Prop} {base : Nat} {w w' : World} {ao : Option Addr} {n cap : Nat} {xs : List α} (h : ownR sh e ok base w ao n cap xs)
    (hs : w.heap.size ≤ w'.heap.size) (hk : ∀ k, (blk ao = some k ∨ ok k) → w'.heap[k]? = w.heap[k]?) : ownR sh e ok base w' ao n cap xs := by
  obtain ⟨cells, h1, h2, h3, h4, h5⟩ := h
  exact ⟨cells, h1.keep fun k hh => hk k (.inl hh), h2, fun i x hx => sh.mono (h3 i x hx) fun b hb ho => ⟨ho, hk b (.inr ho)⟩, h4, fun b hb => Nat.lt_of_lt_of_le (h5 b hb) hs⟩

theorem ownR.below {α : Type} {sh : Shape α} {e : TypeId} {ok : Nat → Prop} {base : Nat} {w w' : World} {ao : Option Addr} {n cap : Nat} {xs : List α} (h : ownR sh e ok base w ao n cap xs)
    (hb : Below w.heap.size w w') : ownR sh e ok base w' ao n cap xs :=
  h.keep hb.size fun k hk => hb.block k (by
    rcases hk with hk | hk
    · exact (h.lt k hk).2
    · obtain ⟨_, _, _, _, _, h5⟩ := h; exact h5 k hk)

theorem ownR.weaken {α : Type} {sh : Shape α} {e : TypeId} {ok ok' : Nat → Prop} {base : Nat} {w : World} {ao : Option Addr} {n cap : Nat} {xs : List α} (h : ownR sh e ok base w ao n cap xs)
    (hk : ∀ b, ok b → ok' b) (ho : ∀ k, blk ao = some k → ¬ ok' k) (hb : ∀ b, ok' b → b < w.heap.size) : ownR sh e ok' base w ao n cap xs := by
  obtain ⟨cells, h1, h2, h3, h4, h5⟩ := h
  exact ⟨cells, h1, h2, fun i x hx => sh.mono (h3 i x hx) fun b _ hh => ⟨hk b hh, rfl⟩, ho, hb⟩

theorem ownR.base {α : Type} {sh : Shape α} {e : TypeId} {ok : Nat → Prop} {base base' : Nat} {w : World} {ao : Option Addr} {n cap : Nat} {xs : List α} (h : ownR sh e ok base w ao n cap xs) (hb : base' ≤ base) : ownR sh e ok base' w ao n cap xs := by
  obtain ⟨cells, ⟨h1, h2, h3, h4⟩, r⟩ := h
  refine ⟨cells, ⟨h1, h2, h3, h4.imp id ?_⟩, r⟩
  rintro ⟨g, cur, e, hg, r⟩
  exact ⟨g, cur, e, Nat.le_trans hb hg, r⟩

/-- done with it: a slice as any other -/
theorem ownR.row {α : Type} {sh : Shape α} {e : TypeId} {ok ok' : Nat → Prop} {base : Nat} {w : World} {ao : Option Addr} {n cap : Nat} {xs : List α} (h : ownR sh e ok base w ao n cap xs)
    (hk : ∀ b, ok b → ok' b) (ho : ∀ k, blk ao = some k → ok' k) : rowRep sh ok' w ao cap xs := by
  obtain ⟨cells, h1, rfl, h3, h4, h5⟩ := h
  refine ⟨h1.2.1, h1.2.2.1, ?_⟩
  obtain ⟨hc, hle, hm, ⟨rfl, h0⟩ | ⟨g, cur, rfl, hb, hg, r⟩⟩ := id h1
  · left
    exact List.eq_nil_of_length_eq_zero (by omega)
  · right
    refine ⟨g, 0, rfl, ho g rfl, (h1.lt g rfl).2, fun i x hx => ⟨_, sh.mono (h3 i x hx) fun b _ hh => ⟨hk b hh, rfl⟩, fun j c hj => ?_⟩⟩
    rw [Nat.zero_add]
    exact h1.cell rfl _ _ (chunk_get hj)

/-- the source of an append -/
def srcRep {α : Type} (sh : Shape α) (ok : Nat → Prop) (w : World) (ax : Option Addr) (ys : List α) : Prop :=
  ys = [] ∨ ∃ b off, ax = some ⟨b, off, none⟩ ∧ elemsAt sh ok w b off ys

theorem rowRep.src {α : Type} {sh : Shape α} {ok : Nat → Prop} {w : World} {ao : Option Addr} {cap : Nat} {xs : List α} (h : rowRep sh ok w ao cap xs) : srcRep sh ok w ao xs := by
  obtain ⟨_, _, h | ⟨b, off, rfl, _, _, he⟩⟩ := h
  · exact .inl h
  · exact .inr ⟨b, off, rfl, he⟩

theorem elemsAt.cells {α : Type} {sh : Shape α} {ok : Nat → Prop} {w : World} {b : Nat} {ys : List α} : ∀ {off : Nat}, elemsAt sh ok w b off ys →
    ∃ news : List Value, news.length = ys.length * sh.size ∧ (∀ i x, ys[i]? = some x → sh.rep ok w (chunk sh.size news i) x) ∧ (∀ j u, news[j]? = some u → w.cell? ⟨b, off + j, none⟩ = some u) ∧ ∀ u ∈ news, u.oneCell' = true := by
  induction ys with
  | nil => exact fun _ => ⟨[], by simp⟩
  | cons y ys ih =>
    intro off h
    obtain ⟨cs, hr, hc⟩ := h 0 y rfl
    have hl := sh.len hr
    have h' : elemsAt sh ok w b (off + sh.size) ys := by
      intro i x hx
      obtain ⟨ds, h1, h2⟩ := h (i + 1) x (by simpa using hx)
      refine ⟨ds, h1, fun j c hj => ?_⟩
      have := h2 j c hj
      rwa [show off + (i + 1) * sh.size + j = off + sh.size + i * sh.size + j by rw [Nat.add_mul, Nat.one_mul]; omega] at this
    obtain ⟨news, n1, n2, n3, n4⟩ := ih h'
    refine ⟨cs ++ news, ?_, ?_, ?_, ?_⟩
    · rw [List.length_append, hl, n1, List.length_cons, Nat.succ_mul]; omega
    · intro i x hx
      cases i with
      | zero =>
        obtain rfl : y = x := by simpa using hx
        have hq : chunk sh.size (cs ++ news) 0 = cs := by
          unfold chunk
          rw [Nat.zero_mul, List.drop_zero, List.take_append_of_le_length (by omega), List.take_of_length_le (by omega)]
        rw [hq]
        exact hr
      | succ i =>
        have := chunk_right (size := sh.size) (xs := cs) (ys := news) (n := 1) i (by omega)
        rw [show i + 1 = 1 + i by omega, this]
        exact n2 i x (by simpa using hx)
    · intro j u hu
      by_cases hj : j < cs.length
      · rw [List.getElem?_append_left hj] at hu
        have := hc j u hu
        simpa using this
      · rw [List.getElem?_append_right (by omega)] at hu
        have := n3 _ u hu
        rwa [show off + sh.size + (j - cs.length) = off + j by omega] at this
    · intro u hu
      rcases List.mem_append.1 hu with hu | hu
      · exact sh.one hr u hu
      · exact n4 u hu

/-- a new literal row as a source -/
theorem srcRep.lit {α : Type} {sh : Shape α} {ok : Nat → Prop} {w : World} {cs : List Value} {e : TypeId} {ys : List α} (h : ∀ i x, ys[i]? = some x → sh.rep ok (w.alloc (.cells cs.toArray e)) (chunk sh.size cs i) x) :
    srcRep sh ok (w.alloc (.cells cs.toArray e)) (some ⟨w.heap.size, 0, none⟩) ys := by
  right
  refine ⟨w.heap.size, 0, rfl, fun i x hx => ⟨_, h i x hx, fun j c hj => ?_⟩⟩
  rw [Nat.zero_add, cell_of_row (w.alloc (.cells cs.toArray e)) w.heap.size _ cs.toArray e (0, 0) (heap_alloc_new w _)]
  simpa using chunk_get hj

theorem ownR.alloc {α : Type} {sh : Shape α} {e : TypeId} {ok : Nat → Prop} {base : Nat} {w : World} {ao : Option Addr} {n cap : Nat} {xs : List α} (h : ownR sh e ok base w ao n cap xs) (o : Obj) :
    ownR sh e ok base (w.alloc o) ao n cap xs := h.below ((Below.refl _ _).alloc (Nat.le_refl _) o)

theorem ownR.len_eq {α : Type} {sh : Shape α} {e : TypeId} {ok : Nat → Prop} {base : Nat} {w : World} {ao : Option Addr} {n cap : Nat} {xs : List α} (h : ownR sh e ok base w ao n cap xs) : n = xs.length := by
  obtain ⟨_, _, h2, _⟩ := h; exact h2

/-- a new literal row as one's own -/
theorem ownR.lit {α : Type} {sh : Shape α} {e : TypeId} {ok : Nat → Prop} {base : Nat} {w : World} {cs : List Value} {xs : List α} {n : Nat} (hn : xs.length = n) (hcs : cs.length = n * sh.size) (hb : base ≤ w.heap.size) (hm : n ≤ maxLen)
    (h : ∀ i x, xs[i]? = some x → sh.rep ok (w.alloc (.cells cs.toArray e)) (chunk sh.size cs i) x) (hk : ∀ b, ok b → b < w.heap.size) :
    ownR sh e ok base (w.alloc (.cells cs.toArray e)) (some ⟨w.heap.size, 0, none⟩) n n xs := by
  refine ⟨cs, ⟨hcs, Nat.le_refl _, hm, .inr ⟨w.heap.size, cs.toArray, rfl, hb, heap_alloc_new w _, by simpa using hcs, ?_⟩⟩, hn.symm, h, fun k hk' => ?_, fun b hb => ?_⟩
  · rw [← hcs]; simp
  · obtain rfl : w.heap.size = k := by simpa [blk] using hk'
    exact fun h => absurd (hk _ h) (by omega)
  · have := hk b hb; simp; omega

theorem chunk_one {cs : List Value} {i : Nat} {v : Value} (h : cs[i]? = some v) : chunk 1 cs i = [v] := by
  unfold chunk
  obtain ⟨hlt, rfl⟩ := List.getElem?_eq_some_iff.1 h
  rw [Nat.mul_one, List.drop_eq_getElem_cons hlt]
  rfl

def isByte (x : Int) : Prop := 0 ≤ x ∧ x ≤ 255

theorem bytes_rep {ok : Nat → Prop} {w : World} {xs : List Int} (h : ∀ x ∈ xs, isByte x) : ∀ i x, xs[i]? = some x → byteS.rep ok w (chunk byteS.size (xs.map (Value.int .u8)) i) x := by
  intro i x hx
  show chunk 1 _ i = _ ∧ _
  rw [chunk_one (v := .int .u8 x) (by rw [List.getElem?_map, hx]; rfl)]
  exact ⟨rfl, h x (List.mem_of_getElem? hx)⟩

theorem ownR.bytes {e : TypeId} {base : Nat} {w : World} (xs : List Int) (h : ∀ x ∈ xs, isByte x) (hb : base ≤ w.heap.size) (hm : xs.length ≤ maxLen) :
    ownR byteS e (fun _ => False) base (w.alloc (.cells (xs.map (Value.int .u8)).toArray e)) (some ⟨w.heap.size, 0, none⟩) xs.length xs.length xs :=
  ownR.lit rfl (by simp [byteS]) hb hm (bytes_rep h) (fun _ h => h.elim)

theorem srcRep.bytes {e : TypeId} {w : World} (xs : List Int) {b : Nat} (hb : w.heap.size = b) (h : ∀ x ∈ xs, isByte x) {ok : Nat → Prop} :
    srcRep byteS ok (w.alloc (.cells (xs.map (Value.int .u8)).toArray e)) (some ⟨b, 0, none⟩) xs := hb ▸ srcRep.lit (bytes_rep h)

theorem ints_rep {ok : Nat → Prop} {w : World} {xs : List Int} (h : ∀ x ∈ xs, I64 x) : ∀ i x, xs[i]? = some x → intS.rep ok w (chunk intS.size (xs.map (Value.int .i64)) i) x := by
  intro i x hx
  show chunk 1 _ i = _ ∧ _
  rw [chunk_one (v := .int .i64 x) (by rw [List.getElem?_map, hx]; rfl)]
  exact ⟨rfl, h x (List.mem_of_getElem? hx)⟩

theorem srcRep.ints {e : TypeId} {w : World} (xs : List Int) {b : Nat} (hb : w.heap.size = b) (h : ∀ x ∈ xs, I64 x) {ok : Nat → Prop} :
    srcRep intS ok (w.alloc (.cells (xs.map (Value.int .i64)).toArray e)) (some ⟨b, 0, none⟩) xs := hb ▸ srcRep.lit (ints_rep h)

theorem rule_rep {ok : Nat → Prop} {w : World} {r : Rule} (h1 : I64 r.ver) (h2 : I64 r.flow) (h3 : I64 r.next) : ∀ i x, [r][i]? = some x → ruleS.rep ok w (chunk ruleS.size [.int .i64 r.ver, .int .i64 r.flow, .int .i64 r.next] i) x := by
  intro i x hx
  cases i with
  | zero =>
    obtain rfl : r = x := by simpa using hx
    exact ⟨rfl, h1, h2, h3⟩
  | succ i => simp at hx

theorem srcRep.rule {e : TypeId} {w : World} (r : Rule) {b : Nat} (hb : w.heap.size = b) (h1 : I64 r.ver) (h2 : I64 r.flow) (h3 : I64 r.next) {ok : Nat → Prop} :
    srcRep ruleS ok (w.alloc (.cells #[.int .i64 r.ver, .int .i64 r.flow, .int .i64 r.next] e)) (some ⟨b, 0, none⟩) [r] := hb ▸ srcRep.lit (cs := [.int .i64 r.ver, .int .i64 r.flow, .int .i64 r.next]) (rule_rep h1 h2 h3)

theorem ownR.ints {e : TypeId} {base : Nat} {w : World} (xs : List Int) (h : ∀ x ∈ xs, I64 x) (hb : base ≤ w.heap.size) (hm : xs.length ≤ maxLen) :
    ownR intS e (fun _ => False) base (w.alloc (.cells (xs.map (Value.int .i64)).toArray e)) (some ⟨w.heap.size, 0, none⟩) xs.length xs.length xs :=
  ownR.lit rfl (by simp [intS]) hb hm (ints_rep h) (fun _ h => h.elim)

theorem grown_below {B : Nat} {w w' : World} {row : Option Nat} (hg : w.grownBy w' row) (hB : ∀ k, row = some k → B ≤ k) (hs : B ≤ w.heap.size) : Below B w w' :=
  (Below.refl B w).grown hg hs hB

theorem bcellB {B : Nat} {W w1 : World} (hb : Below B W w1) : (∀ b o, b < B → w1.cell? ⟨b, o, none⟩ = W.cell? ⟨b, o, none⟩) ∧ (∀ b o, b < B → w1.frozen? ⟨b, o, none⟩ = W.frozen? ⟨b, o, none⟩) :=
  ⟨fun b o h => hb.cell (p := ⟨b, o, none⟩) h, fun b o h => hb.frozen (p := ⟨b, o, none⟩) h⟩

section
variable {P : Program} {w : World}

theorem run_appR {α : Type} {sh : Shape α} (t ty e : TypeId) (i : TypeInfo) (z : Value) (bytes : Nat) (ht : P.underlying t = some (.slice e)) (hi : P.info? e = some i) (hz : i.zero = some z)
    (hsize : i.size = sh.size) (hby : i.bytes = bytes) (hzs : z.cells.size = sh.size) (hsz : 0 < sh.size) {ok : Nat → Prop} {base : Nat}
    {ao : Option Addr} {n cap : Nat} {xs : List α} (hown : ownR sh e ok base w ao n cap xs)
    {ax : Option Addr} {m c : Nat} {ys : List α} (hm : ys.length = m) (hsrc : srcRep sh ok w ax ys)
    (h63 : n + m ≤ maxLen) (hbytes : (n + m) * bytes ≤ 140737488355328) (hbase : base ≤ w.heap.size) :
    ∃ ao' cap' w', (Builtin.append_ #[t, t] ty #[.slice ao n cap, .slice ax m c]).run P w = .ok (.slice ao' (n + m) cap') w' ∧ ownR sh e ok base w' ao' (n + m) cap' (xs ++ ys) ∧ w.grownBy w' (blk ao) ∧
      (blk ao' = blk ao ∨ blk ao' = some w.heap.size) := by
  obtain ⟨cells, h1, h2, h3, h4, h5⟩ := hown
  have hnews : ∃ news : List Value, news.length = m * sh.size ∧ (∀ i x, ys[i]? = some x → sh.rep ok w (chunk sh.size news i) x) ∧ (m = 0 ∨ ∃ ad, ax = some ad ∧ ∀ j u, news[j]? = some u → w.cell? (ad.add j) = some u) ∧ ∀ u ∈ news, u.oneCell' = true := by
    rcases hsrc with rfl | ⟨b, off, rfl, he⟩
    · exact ⟨[], by simp at hm; subst hm; simp, by simp, .inl hm.symm, by simp⟩
    · obtain ⟨news, n1, n2, n3, n4⟩ := he.cells
      refine ⟨news, by rw [n1, hm], n2, .inr ⟨_, rfl, fun j u hu => ?_⟩, n4⟩
      rw [Addr.add_lit]
      exact n3 j u hu
  obtain ⟨news, n1, n2, n3, n4⟩ := hnews
  obtain ⟨ao', cap', w', hr, ho, hg, hd⟩ := run_app (P := P) w t ty e i z sh.size bytes ht hi hz hsize hby hzs hsz base ao n cap cells h1 ax m c news n1 n3 n4 h63 hbytes hbase
  have hkeep : ∀ b, ok b → w'.heap[b]? = w.heap[b]? := fun b hb => hg.block b (h5 b hb) (fun e => h4 b e.symm hb)
  refine ⟨ao', cap', w', hr, ⟨_, ho, by rw [List.length_append, ← h2, hm], ?_, ?_, fun b hb => Nat.lt_of_lt_of_le (h5 b hb) hg.size⟩, hg, hd⟩
  · intro i x hx
    by_cases hi : i < xs.length
    · rw [List.getElem?_append_left hi] at hx
      rw [chunk_left h1.1 (by omega)]
      exact sh.mono (h3 i x hx) fun b _ hb => ⟨hb, hkeep b hb⟩
    · rw [List.getElem?_append_right (by omega)] at hx
      have := chunk_right (size := sh.size) (xs := cells) (ys := news) (i - xs.length) h1.1
      rw [show n + (i - xs.length) = i by omega] at this
      rw [this]
      exact sh.mono (n2 _ x hx) fun b _ hb => ⟨hb, hkeep b hb⟩
  · intro k hk hb
    rcases hd with hd | hd
    · exact h4 k (hd ▸ hk) hb
    · rw [hd] at hk
      obtain rfl : w.heap.size = k := by simpa using hk
      exact absurd (h5 _ hb) (by omega)

/-- append, as an operation of the walk -/
theorem wp_appR {α : Type} {sh : Shape α} {o : Oper} {a : Act} {K : Act → World → Prop} {Q : Exit → Act → World → Prop} (s x : Operand) (t : TypeId)
    (ho : o.op = .call { callee := .builtin .append, args := #[s, x], argTypes := #[t, t] })
    (e : TypeId) (i : TypeInfo) (z : Value) (bytes : Nat) (ht : P.underlying t = some (.slice e)) (hi : P.info? e = some i) (hz : i.zero = some z)
    (hsize : i.size = sh.size) (hby : i.bytes = bytes) (hzs : z.cells.size = sh.size) (hsz : 0 < sh.size) {ok : Nat → Prop} {base : Nat}
    {ao : Option Addr} {n cap : Nat} {xs : List α} (hs : a.eval s = .slice ao n cap) (hown : ownR sh e ok base w ao n cap xs)
    {ax : Option Addr} {m c : Nat} {ys : List α} (hx : a.eval x = .slice ax m c) (hm : ys.length = m) (hsrc : srcRep sh ok w ax ys)
    (h63 : n + m ≤ maxLen) (hbytes : (n + m) * bytes ≤ 140737488355328) (hbase : base ≤ w.heap.size)
    (h : ∀ ao' cap' w', ownR sh e ok base w' ao' (n + m) cap' (xs ++ ys) → w.grownBy w' (blk ao) → (blk ao' = blk ao ∨ blk ao' = some w.heap.size) → K (a.put o.dst (.slice ao' (n + m) cap')) w') : o.wp P a w K Q := by
  obtain ⟨ao', cap', w', hr, h2, h3, h4⟩ := run_appR (P := P) t o.type e i z bytes ht hi hz hsize hby hzs hsz hown (c := c) hm hsrc h63 hbytes hbase
  unfold Oper.wp execOp
  simp only [ho, resolve, invoke, builtin, Sem.run_bind, Sem.run_pure, Result.andThen_ok, List.map_toArray, List.map_cons, List.map_nil, hs, hx, hr]
  exact h ao' cap' w' h2 h3 h4

theorem wpList_appR {α : Type} {sh : Shape α} {ops : Array Oper} {rest : List Oper} {o : Oper} {a : Act} {Q : Exit → Act → World → Prop} (hgd : o.guard = none) (s x : Operand) (t : TypeId)
    (ho : o.op = .call { callee := .builtin .append, args := #[s, x], argTypes := #[t, t] })
    (e : TypeId) (i : TypeInfo) (z : Value) (bytes : Nat) (ht : P.underlying t = some (.slice e)) (hi : P.info? e = some i) (hz : i.zero = some z)
    (hsize : i.size = sh.size) (hby : i.bytes = bytes) (hzs : z.cells.size = sh.size) (hsz : 0 < sh.size) {ok : Nat → Prop} {base : Nat}
    {ao : Option Addr} {n cap : Nat} {xs : List α} (hs : a.eval s = .slice ao n cap) (hown : ownR sh e ok base w ao n cap xs)
    {ax : Option Addr} {m c : Nat} {ys : List α} (hx : a.eval x = .slice ax m c) (hm : ys.length = m) (hsrc : srcRep sh ok w ax ys)
    (h63 : n + m ≤ maxLen) (hbytes : (n + m) * bytes ≤ 140737488355328) (hbase : base ≤ w.heap.size)
    (h : ∀ ao' cap' w', ownR sh e ok base w' ao' (n + m) cap' (xs ++ ys) → w.grownBy w' (blk ao) → (blk ao' = blk ao ∨ blk ao' = some w.heap.size) → wpList P ops Q rest (a.put o.dst (.slice ao' (n + m) cap')) w') : wpList P ops Q (o :: rest) a w :=
  wpList_plain hgd fun _ hK => wp_appR s x t ho e i z bytes ht hi hz hsize hby hzs hsz hs hown hx hm hsrc h63 hbytes hbase fun ao' cap' w' h2 h3 h4 => hK _ _ (h ao' cap' w' h2 h3 h4)

/-- the same inside a region that draws its order -/
theorem step_appR {α : Type} {sh : Shape α} {ops : Array Oper} {o : Oper} {a : Act} {K : Act → World → Prop} {Q : Exit → Act → World → Prop} {E : Prop}
    (hgd : o.guard = none) (s x : Operand) (t : TypeId)
    (ho : o.op = .call { callee := .builtin .append, args := #[s, x], argTypes := #[t, t] })
    (e : TypeId) (i : TypeInfo) (z : Value) (bytes : Nat) (ht : P.underlying t = some (.slice e)) (hi : P.info? e = some i) (hz : i.zero = some z)
    (hsize : i.size = sh.size) (hby : i.bytes = bytes) (hzs : z.cells.size = sh.size) (hsz : 0 < sh.size) {ok : Nat → Prop} {base : Nat}
    {ao : Option Addr} {n cap : Nat} {xs : List α} (hs : a.eval s = .slice ao n cap) (hown : ownR sh e ok base w ao n cap xs)
    {ax : Option Addr} {m c : Nat} {ys : List α} (hx : a.eval x = .slice ax m c) (hm : ys.length = m) (hsrc : srcRep sh ok w ax ys)
    (h63 : n + m ≤ maxLen) (hbytes : (n + m) * bytes ≤ 140737488355328) (hbase : base ≤ w.heap.size)
    (h : ∀ ao' cap' w', ownR sh e ok base w' ao' (n + m) cap' (xs ++ ys) → w.grownBy w' (blk ao) → (blk ao' = blk ao ∨ blk ao' = some w.heap.size) → K (a.put o.dst (.slice ao' (n + m) cap')) w') :
    if Region.wanted o (yielded ops a.tmps) = true then Oper.wp P o a w K Q else E := by
  have hw : Region.wanted o (yielded ops a.tmps) = true := by simp [Region.wanted, hgd]
  rw [if_pos hw]
  exact wp_appR s x t ho e i z bytes ht hi hz hsize hby hzs hsz hs hown hx hm hsrc h63 hbytes hbase h
end

end Go.St

/-
  Maps of the call's own: a block that holds so many keys with their values, as a list; making, asking, storing.
-/
set_option linter.unusedSimpArgs false
set_option linter.unusedVariables false
namespace Go.St
open Go.RowKit

def findE {κ : Type} [DecidableEq κ] (k : κ) : List (κ × Value) → Nat → Option (Nat × Value)
  | [], _ => none
  | (a, v) :: r, i => if k = a then some (i, v) else findE k r (i + 1)

def getE {κ : Type} [DecidableEq κ] (k : κ) (ents : List (κ × Value)) : Option Value := (findE k ents 0).map (·.2)

def setE {κ : Type} [DecidableEq κ] (k : κ) (v : Value) : List (κ × Value) → List (κ × Value)
  | [] => [(k, v)]
  | (a, u) :: r => if k = a then (a, v) :: r else (a, u) :: setE k v r

structure KeyLaw (P : Program) (kt : TypeId) {κ : Type} [DecidableEq κ] (enc : κ → Value) : Prop where
  check : ∀ (e : Bool) (k : κ) (w : World), (Instr.checkKey e 10000 kt (enc k)).run P w = .ok () w
  find : ∀ (k : κ) (es : List MapEntry) (ents : List (κ × Value)) (w : World), es.map (fun e => (e.key, e.val)) = ents.map (fun p => (enc p.1, p.2)) → (Instr.findKey kt (enc k) es).run P w = .ok (findE k ents 0) w
  stay : ∀ (k : κ) (w : World), (Instr.keyThatStays (enc k) (enc k)).run P w = .ok (enc k) w

theorem findNow_int (k : Int) : ∀ (es : List MapEntry) (ents : List (Int × Value)) (i : Nat), es.map (fun e => (e.key, e.val)) = ents.map (fun p => (Value.int .i64 p.1, p.2)) →
    Instr.findNow (.int .i64) (.int .i64 k) es i = some (findE k ents i)
  | [], [], _, _ => rfl
  | [], _ :: _, _, h => by simp at h
  | _ :: _, [], _, h => by simp at h
  | e :: es, (a, v) :: ents, i, h => by
    simp only [List.map_cons, List.cons.injEq, Prod.mk.injEq] at h
    obtain ⟨⟨h1, h2⟩, h3⟩ := h
    unfold Instr.findNow findE
    rw [h1]
    by_cases hk : k = a
    · subst hk
      simp [Instr.sameNow, h2]
    · have hb : (k == a) = false := by rw [beq_eq_false_iff_ne]; exact hk
      simp only [Instr.sameNow, hb, if_true, if_neg hk]
      exact findNow_int k es ents (i + 1) h3

theorem KeyLaw.int {P : Program} {kt : TypeId} (h : P.underlying kt = some (.int .i64)) : KeyLaw P kt (Value.int .i64) where
  check e k w := MapKept.run_checkKey h (by simp [MapKept.IsKey]) e 9999
  find k es ents w he := MapKept.run_findKey h (findNow_int k es ents 0 he)
  stay k w := by simp [Instr.keyThatStays, Instr.sameBits]

/-- a type whose keys are asked one by one -/
theorem findAsking_enc {P : Program} {kt : TypeId} {κ : Type} [DecidableEq κ] {enc : κ → Value} (heq : ∀ (a b : κ) (w : World), (Op.equal kt (enc a) (enc b)).run P w = .ok (decide (a = b)) w) (k : κ) (w : World) :
    ∀ (es : List MapEntry) (ents : List (κ × Value)) (i : Nat), es.map (fun e => (e.key, e.val)) = ents.map (fun p => (enc p.1, p.2)) → (Instr.findAsking kt (enc k) es i).run P w = .ok (findE k ents i) w
  | [], [], _, _ => by simp [Instr.findAsking, findE]
  | [], _ :: _, _, h => by simp at h
  | _ :: _, [], _, h => by simp at h
  | e :: es, (a, v) :: ents, i, h => by
    simp only [List.map_cons, List.cons.injEq, Prod.mk.injEq] at h
    obtain ⟨⟨h1, h2⟩, h3⟩ := h
    unfold Instr.findAsking findE
    rw [h1]
    simp only [Sem.run_bind, heq, Result.andThen_ok]
    by_cases hk : k = a
    · simp [hk, h2]
    · simp only [hk, decide_false, Bool.false_eq_true, if_false]
      exact findAsking_enc heq k w es ents (i + 1) h3

theorem KeyLaw.asking {P : Program} {kt : TypeId} {κ : Type} [DecidableEq κ] {enc : κ → Value} (hwide : (match P.underlying kt with | some (.array _ _) | some (.struct _) => true | _ => false) = true)
    (hc : ∀ (e : Bool) (k : κ) (w : World), (Instr.checkKey e 10000 kt (enc k)).run P w = .ok () w) (heq : ∀ (a b : κ) (w : World), (Op.equal kt (enc a) (enc b)).run P w = .ok (decide (a = b)) w)
    (hs : ∀ (k : κ), Instr.sameBits 10000 (enc k) (enc k) = true) : KeyLaw P kt enc where
  check := hc
  find k es ents w he := by rw [run_findKey_eq w hwide]; exact findAsking_enc heq k w es ents 0 he
  stay k w := by simp [Instr.keyThatStays, hs]

/-- block r is a map that holds just these -/
def mapIs {κ : Type} (enc : κ → Value) (w : World) (r : Nat) (ents : List (κ × Value)) : Prop :=
  ∃ es clock, w.heap[r]? = some (.map es clock) ∧ es.toList.map (fun e => (e.key, e.val)) = ents.map (fun p => (enc p.1, p.2))

theorem mapIs.keep {κ : Type} {enc : κ → Value} {w w' : World} {r : Nat} {ents : List (κ × Value)} (h : mapIs enc w r ents) (hr : w'.heap[r]? = w.heap[r]?) : mapIs enc w' r ents := by
  obtain ⟨es, clock, h1, h2⟩ := h
  exact ⟨es, clock, hr.trans h1, h2⟩

theorem mapIs.lt {κ : Type} {enc : κ → Value} {w : World} {r : Nat} {ents : List (κ × Value)} (h : mapIs enc w r ents) : r < w.heap.size := by
  obtain ⟨es, clock, h1, h2⟩ := h
  exact (Array.getElem?_eq_some_iff.1 h1).1

theorem mapIs.below {κ : Type} {enc : κ → Value} {w w' : World} {r B : Nat} {ents : List (κ × Value)} (h : mapIs enc w r ents) (hb : Below B w w') (hr : r < B) : mapIs enc w' r ents := h.keep (hb.block r hr)

theorem mapIs.made {κ : Type} (enc : κ → Value) (w : World) : mapIs enc (w.alloc (.map #[] 0)) w.heap.size [] :=
  ⟨#[], 0, heap_alloc_new w _, rfl⟩

theorem mapIs.made' {κ : Type} (enc : κ → Value) (w : World) (r : Nat) (h : w.heap.size = r) : mapIs enc (w.alloc (.map #[] 0)) r [] := h ▸ mapIs.made enc w

section
variable {P : Program} {w : World}

theorem run_lookupM {κ : Type} [DecidableEq κ] {enc : κ → Value} (mt kt et : TypeId) (hm : P.underlying mt = some (.map kt et)) (law : KeyLaw P kt enc) {r : Nat} {ents : List (κ × Value)} (h : mapIs enc w r ents) (k : κ) (z : Value)
    (hz : ∀ w, (zeroValue et).run P w = .ok z w) : (Instr.lookup mt (.map (some r)) (enc k) false).run P w = .ok ((getE k ents).getD z) w := by
  obtain ⟨es, clock, hb, he⟩ := h
  have hg := MapKept.run_getObj_map (P := P) hb
  simp only [Instr.lookup, Sem.run_bind, run_underlying hm, Result.andThen_ok, hg, Sem.run_pure, law.check, law.find k es.toList ents w he, getE]
  cases findE k ents 0 with
  | none => simp [hz, Result.andThen]
  | some p => simp [Result.andThen]

theorem setE_none {κ : Type} [DecidableEq κ] {k : κ} {v : Value} : ∀ {ents : List (κ × Value)} {i : Nat}, findE k ents i = none → setE k v ents = ents ++ [(k, v)]
  | [], _, _ => rfl
  | (a, u) :: r, i, h => by
    unfold findE at h
    unfold setE
    by_cases hk : k = a
    · simp [hk] at h
    · rw [if_neg hk] at h ⊢
      rw [setE_none h]; rfl

theorem findE_some {κ : Type} [DecidableEq κ] {k : κ} {v : Value} : ∀ {ents : List (κ × Value)} {i j : Nat} {u : Value}, findE k ents i = some (j, u) → i ≤ j ∧ j - i < ents.length ∧ ents[j - i]? = some (k, u) ∧ setE k v ents = ents.set (j - i) (k, v)
  | [], _, _, _, h => by simp [findE] at h
  | (a, x) :: r, i, j, u, h => by
    unfold findE at h
    unfold setE
    by_cases hk : k = a
    · subst hk
      simp only [if_true, Option.some.injEq, Prod.mk.injEq] at h ⊢
      obtain ⟨rfl, rfl⟩ := h
      simp
    · rw [if_neg hk] at h ⊢
      obtain ⟨h1, h2, h3, h4⟩ := findE_some (v := v) h
      have e : j - i = (j - (i + 1)) + 1 := by omega
      refine ⟨by omega, by simp only [List.length_cons]; omega, ?_, ?_⟩
      · rw [e, List.getElem?_cons_succ]; exact h3
      · rw [e, List.set_cons_succ, h4]

theorem run_insertM {κ : Type} [DecidableEq κ] {enc : κ → Value} (mt kt et : TypeId) (hm : P.underlying mt = some (.map kt et)) (law : KeyLaw P kt enc) {r : Nat} {ents : List (κ × Value)} (h : mapIs enc w r ents) (k : κ) (v : Value) :
    ∃ w', (Instr.mapUpdate mt (.map (some r)) (enc k) v).run P w = .ok () w' ∧ mapIs enc w' r (setE k v ents) ∧ w.grownBy w' (some r) := by
  obtain ⟨es, clock, hb, he⟩ := h
  have hg := MapKept.run_getObj_map (P := P) hb
  have hrun : ∀ o, (setObj r o).run P w = .ok () { w with heap := w.heap.setIfInBounds r o } := fun o => MapKept.run_setObj_map o hb
  have hset := fun o' => MapKept.heap_set (o' := o') hb
  simp only [Instr.mapUpdate, Sem.run_bind, run_underlying hm, Result.andThen_ok, hg, Sem.run_pure, law.check, law.find k es.toList ents w he]
  cases hf : findE k ents 0 with
  | none =>
    refine ⟨{ w with heap := w.heap.setIfInBounds r (.map (es.push { key := enc k, val := v, born := clock }) (clock + 1)) }, by simp [hrun], ?_, ⟨rfl, rfl, rfl, by simp, fun i _ hi => (hset _).2 i (fun e => hi (by rw [e]))⟩⟩
    refine ⟨_, _, (hset _).1, ?_⟩
    rw [setE_none hf]
    simp [he]
  | some p =>
    obtain ⟨j, u⟩ := p
    obtain ⟨_, h2, h3, h4⟩ := findE_some (v := v) hf
    simp only [Nat.sub_zero] at h2 h3 h4
    have hlen : es.toList.length = ents.length := by have := congrArg List.length he; simpa using this
    have hj : j < es.size := by rw [← Array.length_toList, hlen]; exact h2
    have hkey : (es[j]?.map (·.key)).getD (enc k) = enc k := by
      have := congrArg (fun l => l[j]?) he
      simp only [List.getElem?_map, h3, Option.map_some, Array.getElem?_toList, Array.getElem?_eq_getElem hj, Option.some.injEq, Prod.mk.injEq] at this
      rw [Array.getElem?_eq_getElem hj]
      exact this.1
    have hk2 : (law.stay k) = (law.stay k) := rfl
    refine ⟨{ w with heap := w.heap.setIfInBounds r (.map (es.modify j fun e => { e with key := enc k, val := v }) clock) }, by simp [hkey, law.stay, hrun, Result.andThen], ?_, ⟨rfl, rfl, rfl, by simp, fun i _ hi => (hset _).2 i (fun e => hi (by rw [e]))⟩⟩
    refine ⟨_, _, (hset _).1, ?_⟩
    rw [h4]
    apply List.ext_getElem?
    intro i
    simp only [List.getElem?_map, Array.getElem?_toList, Array.getElem?_modify, List.getElem?_set]
    have hi := congrArg (fun l => l[i]?) he
    simp only [List.getElem?_map, Array.getElem?_toList] at hi
    by_cases hij : j = i
    · subst hij
      rw [if_pos rfl, if_pos rfl, if_pos h2, Array.getElem?_eq_getElem hj]
      rfl
    · rw [if_neg hij, if_neg hij]
      exact hi

theorem wpList_lookupM {κ : Type} [DecidableEq κ] {enc : κ → Value} {ops : Array Oper} {rest : List Oper} {o : Oper} {a : Act} {Q : Exit → Act → World → Prop} (hgd : o.guard = none) (m x : Operand) (mt : TypeId) (ho : o.op = .lookup mt m x false)
    (kt et : TypeId) (hm : P.underlying mt = some (.map kt et)) (law : KeyLaw P kt enc) {r : Nat} {ents : List (κ × Value)} (h : mapIs enc w r ents) (k : κ) (z : Value) (hz : ∀ w, (zeroValue et).run P w = .ok z w)
    (he : a.eval m = .map (some r)) (hk : a.eval x = enc k) (hn : wpList P ops Q rest (a.put o.dst ((getE k ents).getD z)) w) : wpList P ops Q (o :: rest) a w :=
  wpList_plain hgd fun K hK => by
    have hr := run_lookupM (P := P) mt kt et hm law h k z hz
    unfold Oper.wp execOp
    simp only [ho, he, hk, Sem.run_bind, hr, Result.andThen_ok, Sem.run_pure]
    exact hK _ _ hn

theorem wpList_insertM {κ : Type} [DecidableEq κ] {enc : κ → Value} {ops : Array Oper} {rest : List Oper} {o : Oper} {a : Act} {Q : Exit → Act → World → Prop} (hgd : o.guard = none) (m x y : Operand) (mt : TypeId) (ho : o.op = .insert mt m x y ∨ o.op = .mapUpdate mt m x y)
    (kt et : TypeId) (hm : P.underlying mt = some (.map kt et)) (law : KeyLaw P kt enc) {r : Nat} {ents : List (κ × Value)} (h : mapIs enc w r ents) (k : κ) (v : Value)
    (he : a.eval m = .map (some r)) (hk : a.eval x = enc k) (hv : a.eval y = v) (hn : ∀ w', mapIs enc w' r (setE k v ents) → w.grownBy w' (some r) → wpList P ops Q rest (a.put o.dst undef) w') : wpList P ops Q (o :: rest) a w :=
  wpList_plain hgd fun K hK => by
    obtain ⟨w', hr, h1, h2⟩ := run_insertM (P := P) mt kt et hm law h k v
    unfold Oper.wp execOp
    rcases ho with ho | ho
    · simp only [ho, he, hk, hv, Sem.run_bind, hr, Result.andThen_ok, Sem.run_pure]
      exact hK _ _ (hn w' h1 h2)
    · simp only [ho, he, hk, hv, Sem.run_bind, hr, Result.andThen_ok, Sem.run_pure]
      exact hK _ _ (hn w' h1 h2)
end
end Go.St

/-
  A block that is known whole: its cells, what a store and other blocks' turns leave of it.
-/
set_option linter.unusedSimpArgs false
set_option linter.unusedVariables false
namespace Go.St
open Go.RowKit

/-- block b is a row of just these cells, none frozen -/
def blockIs (w : World) (b : Nat) (t : TypeId) (cs : Array Value) : Prop := w.heap[b]? = some (.cells cs t (0, 0))

theorem blockIs.cells {w : World} {b : Nat} {t : TypeId} {cs : Array Value} (h : blockIs w b t cs) : (∀ o, w.cell? ⟨b, o, none⟩ = cs[o]?) ∧ (∀ o, w.frozen? ⟨b, o, none⟩ = false) := by
  unfold blockIs at h
  refine ⟨fun o => by simp [World.cell?, h], fun o => by simp [World.frozen?, h]⟩

theorem blockIs.lt {w : World} {b : Nat} {t : TypeId} {cs : Array Value} (h : blockIs w b t cs) : b < w.heap.size := (Array.getElem?_eq_some_iff.1 h).1

theorem blockIs.keep {w w' : World} {b : Nat} {t : TypeId} {cs : Array Value} (h : blockIs w b t cs) (e : w'.heap[b]? = w.heap[b]?) : blockIs w' b t cs := e.trans h

theorem blockIs.below {B : Nat} {w w' : World} {b : Nat} {t : TypeId} {cs : Array Value} (h : blockIs w b t cs) (hb : Below B w w') (hl : b < B) : blockIs w' b t cs := h.keep (hb.block b hl)

theorem blockIs.under {w w' : World} {b : Nat} {t : TypeId} {cs : Array Value} (h : blockIs w b t cs) (hb : Below w.heap.size w w') : blockIs w' b t cs := h.below hb h.lt

theorem blockIs.grown {w w' : World} {row : Option Nat} {b : Nat} {t : TypeId} {cs : Array Value} (h : blockIs w b t cs) (hg : w.grownBy w' row) (hn : some b ≠ row) : blockIs w' b t cs := h.keep (hg.block b h.lt hn)

theorem blockIs.alloc {w : World} {b : Nat} {t : TypeId} {cs : Array Value} (h : blockIs w b t cs) (o : Obj) : blockIs (w.alloc o) b t cs := h.keep (heap_alloc_old w o b h.lt)

theorem blockIs.new {w : World} {b : Nat} {t : TypeId} {cs : Array Value} (h : w.heap.size = b) : blockIs (w.alloc (.cells cs t)) b t cs := h ▸ heap_alloc_new w _

theorem blockIs.drewN {w : World} {b : Nat} {t : TypeId} {cs : Array Value} (h : blockIs w b t cs) (n : Nat) : blockIs (w.drewN n) b t cs := h
theorem blockIs.drew {w : World} {b : Nat} {t : TypeId} {cs : Array Value} (h : blockIs w b t cs) : blockIs w.drew b t cs := h

theorem blockIs.setOther {w : World} {b : Nat} {t : TypeId} {cs : Array Value} (h : blockIs w b t cs) {a : Addr} (ha : b ≠ a.block) (v : Value) : blockIs (w.setCell a v) b t cs := h.keep (Below.heap_setCell w a v b ha)

theorem blockIs.set {w : World} {b : Nat} {t : TypeId} {cs : Array Value} (h : blockIs w b t cs) (o : Nat) (v : Value) : blockIs (w.setCell ⟨b, o, none⟩ v) b t (cs.setIfInBounds o v) := by
  unfold blockIs at *
  simp [World.setCell, Array.getElem?_modify, h]

theorem srcRep.same {α : Type} {sh : Shape α} {ok : Nat → Prop} {w w' : World} {ax : Option Addr} {ys : List α} (h : srcRep sh ok w ax ys) (e : w'.heap = w.heap) : srcRep sh ok w' ax ys := by
  rcases h with h | ⟨b, off, rfl, he⟩
  · exact .inl h
  · exact .inr ⟨b, off, rfl, he.mono (by rw [e]) fun b _ hk => ⟨hk, by rw [e]⟩⟩

theorem srcRep.drew {α : Type} {sh : Shape α} {ok : Nat → Prop} {w : World} {ax : Option Addr} {ys : List α} (h : srcRep sh ok w ax ys) : srcRep sh ok w.drew ax ys := h.same rfl
theorem srcRep.drewN {α : Type} {sh : Shape α} {ok : Nat → Prop} {w : World} {ax : Option Addr} {ys : List α} (h : srcRep sh ok w ax ys) (n : Nat) : srcRep sh ok (w.drewN n) ax ys := h.same rfl

theorem ownR.setCell {α : Type} {sh : Shape α} {e : TypeId} {base : Nat} {w : World} {ao : Option Addr} {n cap : Nat} {xs : List α} (h : ownR sh e (fun _ => False) base w ao n cap xs) {a : Addr} (ha : a.block < base) (v : Value) :
    ownR sh e (fun _ => False) base (w.setCell a v) ao n cap xs :=
  h.keep (by simp [World.setCell]) fun k hk => Below.heap_setCell w a v k (by
    rcases hk with hk | hk
    · have := (h.lt k hk).1; omega
    · exact hk.elim)

end Go.St

/-
  Append onto a full row of integers: a new block; and the frame of a call that writes one given block alone.
-/
set_option linter.unusedSimpArgs false
set_option linter.unusedVariables false
namespace Go.St
open Go.RowKit

section
variable {P : Program} {w : World}

theorem run_appFull (t ty e : TypeId) (i : TypeInfo) (ht : P.underlying t = some (.slice e)) (hi : P.info? e = some i) (hz : i.zero = some (.int .i64 0)) (hsize : i.size = 1) (hby : i.bytes = 8) {ok ok' : Nat → Prop} {base : Nat}
    {b off n : Nat} {xs : List Int} (hr : rowRep intS ok w (some ⟨b, off, none⟩) n xs) (hn : xs.length = n) (hn0 : 0 < n) {ax : Option Addr} {c : Nat} {ys : List Int} {m : Nat} (hm : ys.length = m) (hm0 : 0 < m) (hsrc : srcRep intS ok' w ax ys)
    (h63 : n + m ≤ 1000000) (hbase : base ≤ w.heap.size) :
    ∃ cap' w', (Builtin.append_ #[t, t] ty #[.slice (some ⟨b, off, none⟩) n n, .slice ax m c]).run P w = .ok (.slice (some ⟨w.heap.size, 0, none⟩) (n + m) cap') w' ∧ ownR intS e (fun _ => False) base w' (some ⟨w.heap.size, 0, none⟩) (n + m) cap' (xs ++ ys) ∧ Below w.heap.size w w' := by
  have hI : ∀ x ∈ xs ++ ys, I64 x := by
    intro x hx
    rcases List.mem_append.1 hx with hx | hx
    · obtain ⟨k, hk⟩ := List.getElem?_of_mem hx
      obtain ⟨_, _, _, _, _, cs, ⟨_, h⟩, _⟩ := hr.get hk
      exact h
    · obtain ⟨k, hk⟩ := List.getElem?_of_mem hx
      rcases hsrc with rfl | ⟨_, _, _, he⟩
      · simp at hk
      · obtain ⟨cs, ⟨_, h⟩, _⟩ := he k x hk
        exact h
  have hxs : ∀ j u, (xs.map (Value.int .i64))[j]? = some u → w.cell? ((⟨b, off, none⟩ : Addr).add j) = some u := by
    intro j u hu
    rw [List.getElem?_map] at hu
    obtain ⟨x, hx, rfl⟩ := Option.map_eq_some_iff.1 hu
    obtain ⟨b', off', hbo, _, _, cs, ⟨rfl, _⟩, hce⟩ := hr.get hx
    obtain ⟨rfl, rfl⟩ : b = b' ∧ off = off' := by simpa using hbo
    have := hce 0 _ rfl
    simp only [intS, Nat.mul_one, Nat.add_zero] at this
    rw [Addr.add_lit]; exact this
  obtain ⟨a, rfl, hnew⟩ : ∃ a, ax = some a ∧ ∀ j u, (ys.map (Value.int .i64))[j]? = some u → w.cell? (a.add j) = some u := by
    rcases hsrc with rfl | ⟨b', off', rfl, he⟩
    · simp at hm; omega
    · refine ⟨_, rfl, fun j u hu => ?_⟩
      rw [List.getElem?_map] at hu
      obtain ⟨x, hx, rfl⟩ := Option.map_eq_some_iff.1 hu
      obtain ⟨cs, ⟨rfl, _⟩, hce⟩ := he j x hx
      have := hce 0 _ rfl
      simp only [intS, Nat.mul_one, Nat.add_zero] at this
      rw [Addr.add_lit]; exact this
  have hbytes : (n + m) * i.bytes ≤ 140737488355328 := by rw [hby]; omega
  have hrun := run_append_grow (P := P) w t ty e i (.int .i64 0) ht hi hz ⟨b, off, none⟩ n n (xs.map (Value.int .i64)) (by simp [hsize, hn]) hxs a m c (ys.map (Value.int .i64)) (by simp [hsize, hm]) hnew (by omega) (by omega) (growslice_fits (by omega) hbytes)
  have hge := grownCap_ge w (n + m) n e
  have hcm : grownCap w (n + m) n e ≤ maxLen := grownCap_le_maxLen w (n + m) n e (by simp only [maxLen]; omega)
  refine ⟨_, _, hrun, ⟨(xs ++ ys).map (Value.int .i64), ⟨by simp [intS, hn, hm], hge, hcm, .inr ⟨w.heap.size, _, rfl, hbase, heap_alloc_new w.drew _, ?_, ?_⟩⟩, by simp [hn, hm], ints_rep hI, by simp, by simp⟩, ?_⟩
  · simp only [Array.size_append, List.size_toArray, List.length_map, hn, hm, size_zeroCells, intS, Value.cells]
    simp
    omega
  · simp only [Array.toList_append, List.append_assoc, intS]
    rw [← List.append_assoc, ← List.map_append]
    have : (n + m) * 1 = ((xs ++ ys).map (Value.int .i64)).length := by simp [hn, hm]
    rw [this]
    exact List.take_left
  · exact ((Below.refl _ _).drew).alloc (by simp) _

theorem wpList_appFull {ops : Array Oper} {rest : List Oper} {o : Oper} {a : Act} {Q : Exit → Act → World → Prop} (hgd : o.guard = none) (s x : Operand) (t : TypeId)
    (ho : o.op = .call { callee := .builtin .append, args := #[s, x], argTypes := #[t, t] })
    (e : TypeId) (i : TypeInfo) (ht : P.underlying t = some (.slice e)) (hi : P.info? e = some i) (hz : i.zero = some (.int .i64 0)) (hsize : i.size = 1) (hby : i.bytes = 8) {ok ok' : Nat → Prop} {base : Nat}
    {b off n : Nat} {xs : List Int} (hs : a.eval s = .slice (some ⟨b, off, none⟩) n n) (hr : rowRep intS ok w (some ⟨b, off, none⟩) n xs) (hn : xs.length = n) (hn0 : 0 < n) {ax : Option Addr} {c : Nat} {ys : List Int} {m : Nat} (hx : a.eval x = .slice ax m c) (hm : ys.length = m) (hm0 : 0 < m) (hsrc : srcRep intS ok' w ax ys)
    (h63 : n + m ≤ 1000000) (hbase : base ≤ w.heap.size)
    (h : ∀ cap' w', ownR intS e (fun _ => False) base w' (some ⟨w.heap.size, 0, none⟩) (n + m) cap' (xs ++ ys) → Below w.heap.size w w' → wpList P ops Q rest (a.put o.dst (.slice (some ⟨w.heap.size, 0, none⟩) (n + m) cap')) w') : wpList P ops Q (o :: rest) a w :=
  wpList_plain hgd fun K hK => by
    obtain ⟨cap', w', hrun, h2, h3⟩ := run_appFull (P := P) t o.type e i ht hi hz hsize hby hr hn hn0 (c := c) hm hm0 hsrc h63 hbase
    unfold Oper.wp execOp
    simp only [ho, resolve, invoke, builtin, Sem.run_bind, Sem.run_pure, Result.andThen_ok, List.map_toArray, List.map_cons, List.map_nil, hs, hx, hrun]
    exact hK _ _ (h cap' w' h2 h3)
end

/-- nothing that was there has turned, but one block -/
structure But (s : Nat) (w w' : World) : Prop where
  os : w'.os = w.os
  tape : w'.tape = w.tape
  output : w'.output = w.output
  size : w.heap.size ≤ w'.heap.size
  block : ∀ k, k < w.heap.size → k ≠ s → w'.heap[k]? = w.heap[k]?

theorem But.refl (s : Nat) (w : World) : But s w w := ⟨rfl, rfl, rfl, Nat.le_refl _, fun _ _ _ => rfl⟩
theorem But.trans {s : Nat} {a b c : World} (h : But s a b) (k : But s b c) : But s a c :=
  ⟨k.os.trans h.os, k.tape.trans h.tape, k.output.trans h.output, Nat.le_trans h.size k.size, fun i hi hs => (k.block i (Nat.lt_of_lt_of_le hi h.size) hs).trans (h.block i hi hs)⟩
theorem But.of {s : Nat} {w w' : World} (h : Below w.heap.size w w') : But s w w' := ⟨h.os, h.tape, h.output, h.size, fun k hk _ => h.block k hk⟩
theorem But.set {s : Nat} (w : World) (o : Nat) (v : Value) : But s w (w.setCell ⟨s, o, none⟩ v) := by
  refine ⟨rfl, rfl, rfl, by simp [World.setCell], fun k hk hs => Below.heap_setCell w _ v k (by simpa using hs)⟩
theorem But.below {s B : Nat} {w w' : World} (h : But s w w') (hB : B ≤ s) (hw : B ≤ w.heap.size) : Below B w w' :=
  ⟨h.os, h.tape, h.output, h.size, fun k hk => h.block k (by omega) (by omega)⟩
theorem rowRep.but {α : Type} {sh : Shape α} {s : Nat} {w w' : World} {ao : Option Addr} {cap : Nat} {xs : List α} (h : rowRep sh (fun b => b ≠ s) w ao cap xs) (hb : But s w w') : rowRep sh (fun b => b ≠ s) w' ao cap xs :=
  h.mono fun b hlt hk => ⟨hk, hb.block b hlt hk⟩
theorem But.cell {s : Nat} {w w' : World} (h : But s w w') {b o : Nat} {v : Value} (hb : b < w.heap.size) (hs : b ≠ s) (hc : w.cell? ⟨b, o, none⟩ = some v) : w'.cell? ⟨b, o, none⟩ = some v := by
  rw [World.cell?_of_block (w := w) (h.block b hb hs)]; exact hc

end Go.St

/-
  Maps whose keys are pairs of integers.
-/
set_option linter.unusedSimpArgs false
set_option linter.unusedVariables false
namespace Go.Proofs.Ytagldmdeohenjaa
open Go.RowKit Go.St

def encP (p : Int × Int) : Value := .agg #[.int .i64 p.1, .int .i64 p.2]

set_option maxRecDepth 100000 in
theorem pair_law : KeyLaw Try.prog 99 encP := by
  have hp : Try.prog.plainKey 3 = true := by kernel_rfl
  have hc : Try.prog.cellsOf 3 = 1 := by kernel_rfl
  obtain ⟨i0, hi, hi1⟩ : ∃ i, Try.prog.info? 3 = some i ∧ i.size = 1 := by
    have h : (Try.prog.info? 3).map (·.size) = some 1 := by kernel_rfl
    cases hh : Try.prog.info? 3 with
    | none => rw [hh] at h; cases h
    | some i => rw [hh] at h; exact ⟨i, rfl, by simpa using h⟩
  refine KeyLaw.asking (by simp [Try.underlying99]) ?_ ?_ ?_
  · intro e k w
    have p0 := run_part_plain (P := Try.prog) (w := w) hp (xs := #[.int .i64 k.1, .int .i64 k.2]) (off := 0) (v := .int .i64 k.1) rfl
    have p1 := run_part_plain (P := Try.prog) (w := w) hp (xs := #[.int .i64 k.1, .int .i64 k.2]) (off := 1) (v := .int .i64 k.2) rfl
    have hk : ∀ z : Int, (Instr.checkKey e 9999 3 (.int .i64 z)).run Try.prog w = .ok () w := fun z => by
      rw [Instr.checkKey]; simp [run_underlying Try.underlying3]
    rw [Instr.checkKey]
    simp only [Sem.run_bind, run_underlying Try.underlying99, Result.andThen_ok, encP]
    simp only [Std.Legacy.Range.forIn_eq_forIn_range', Std.Legacy.Range.size, Nat.sub_zero, Nat.add_one_sub_one, Nat.div_one]
    simp [List.range', run_sizeOf w hi, hi1, hc, p0, p1, hk]
  · intro a b w
    rw [Op.equal, show Op.maxDepth = 9999 + 1 from rfl, encP, encP, run_equalIn_array (w := w) 9999 _ _ Try.underlying99 hi]
    have a0 := fun w : World => run_part_plain (P := Try.prog) (w := w) hp (xs := #[.int .i64 a.1, .int .i64 a.2]) (off := 0) (v := .int .i64 a.1) rfl
    have a1 := fun w : World => run_part_plain (P := Try.prog) (w := w) hp (xs := #[.int .i64 a.1, .int .i64 a.2]) (off := 1) (v := .int .i64 a.2) rfl
    have b0 := fun w : World => run_part_plain (P := Try.prog) (w := w) hp (xs := #[.int .i64 b.1, .int .i64 b.2]) (off := 0) (v := .int .i64 b.1) rfl
    have b1 := fun w : World => run_part_plain (P := Try.prog) (w := w) hp (xs := #[.int .i64 b.1, .int .i64 b.2]) (off := 1) (v := .int .i64 b.2) rfl
    have hq := fun (w : World) (x y : Int) => run_equalIn_int (P := Try.prog) w 9998 3 .i64 .i64 x y Try.underlying3
    rw [hc, show List.range 2 = [0, 1] from rfl]
    obtain ⟨x, y⟩ := a
    obtain ⟨z, u⟩ := b
    dsimp only at a0 a1 b0 b1 ⊢
    simp [Op.eqItems, a0, a1, b0, b1, hq]
    by_cases h1 : x = z <;> by_cases h2 : y = u <;> simp [h1, h2]
  · intro k
    simp [encP, Instr.sameBits]

end Go.Proofs.Ytagldmdeohenjaa

/-
  Rows of rows under append.
-/
set_option linter.unusedSimpArgs false
set_option linter.unusedVariables false
namespace Go.St
open Go.RowKit

/-- blocks from lo on, but the row's own -/
def oth (lo : Nat) (w : World) (ao : Option Addr) : Nat → Prop := fun b => lo ≤ b ∧ b < w.heap.size ∧ blk ao ≠ some b
theorem oth.nil {α : Type} (sh : Shape α) (e : TypeId) (lo base : Nat) (w : World) : ownR sh e (oth lo w none) base w none 0 0 [] := ownR.nil _ _ _ _ _ fun _ h => h.2.1
theorem oth.below {α : Type} {sh : Shape α} {e : TypeId} {lo base : Nat} {w w' : World} {ao : Option Addr} {n cap : Nat} {xs : List α} (h : ownR sh e (oth lo w ao) base w ao n cap xs) (hb : Below w.heap.size w w') : ownR sh e (oth lo w' ao) base w' ao n cap xs :=
  (h.below hb).weaken (fun b ⟨h1, h2, h3⟩ => ⟨h1, Nat.lt_of_lt_of_le h2 hb.size, h3⟩) (fun k hk h => h.2.2 hk) (fun b h => h.2.1)
theorem oth.grown {α : Type} {sh : Shape α} {e : TypeId} {lo base : Nat} {w w' : World} {ao ao' : Option Addr} {n cap : Nat} {xs : List α} (h : ownR sh e (oth lo w ao) base w' ao' n cap xs) (hs : w.heap.size ≤ w'.heap.size) (hd : blk ao' = blk ao ∨ blk ao' = some w.heap.size) : ownR sh e (oth lo w' ao') base w' ao' n cap xs :=
  h.weaken (fun b ⟨h1, h2, h3⟩ => ⟨h1, Nat.lt_of_lt_of_le h2 hs, fun e => by
    rcases hd with hd | hd
    · exact h3 (hd ▸ e)
    · rw [hd] at e; have : w.heap.size = b := by simpa using e
      omega⟩) (fun k hk h => h.2.2 hk) (fun b h => h.2.1)
theorem oth.src {α : Type} {sh : Shape α} {lo : Nat} {w : World} {ao ax : Option Addr} {B cap : Nat} {xs : List α} (h : rowRep sh (fun b => B ≤ b) w ax cap xs) (hB : lo ≤ B) (hk : ∀ k, blk ao = some k → k < B) : srcRep sh (oth lo w ao) w ax xs :=
  (h.mono (fun b hb hh => ⟨⟨Nat.le_trans hB hh, hb, fun e => by have := hk b e; omega⟩, rfl⟩) : rowRep sh (oth lo w ao) w ax cap xs).src
theorem oth.setOther {α : Type} {sh : Shape α} {e : TypeId} {lo base ob o : Nat} {w : World} {v : Value} {ao : Option Addr} {n cap : Nat} {xs : List α} (h : ownR sh e (oth lo w ao) base w ao n cap xs) (hb : ob < lo) (hb2 : ob < base) : ownR sh e (oth lo (w.setCell ⟨ob, o, none⟩ v) ao) base (w.setCell ⟨ob, o, none⟩ v) ao n cap xs := by
  have hs : (w.setCell ⟨ob, o, none⟩ v).heap.size = w.heap.size := by simp
  refine (h.keep (by rw [hs]; exact Nat.le_refl _) fun k hk => Below.heap_setCell _ _ _ _ ?_).weaken (fun b ⟨h1, h2, h3⟩ => ⟨h1, by rw [hs]; exact h2, h3⟩) (fun k hk h => h.2.2 hk) (fun b h => h.2.1)
  rcases hk with hk | hk
  · have := (h.lt k hk).1; simp; omega
  · have := hk.1; simp; omega
theorem oth.plan {α : Type} {sh : Shape α} {e : TypeId} {lo base pb fb : Nat} {w : World} {ao : Option Addr} {n cap : Nat} {xs : List α} (h : ownR sh e (oth lo w ao) base w ao n cap xs) (h1 : pb < lo) (h2 : pb < base) (h3 : fb < lo) (h4 : fb < base) (a0 a1 a2 b0 b1 : Value) :
    ownR sh e (oth lo (((((w.setCell ⟨pb, 0, none⟩ a0).setCell ⟨pb, 1, none⟩ a1).setCell ⟨pb, 2, none⟩ a2).setCell ⟨fb, 0, none⟩ b0).setCell ⟨fb, 1, none⟩ b1) ao) base (((((w.setCell ⟨pb, 0, none⟩ a0).setCell ⟨pb, 1, none⟩ a1).setCell ⟨pb, 2, none⟩ a2).setCell ⟨fb, 0, none⟩ b0).setCell ⟨fb, 1, none⟩ b1) ao n cap xs :=
  oth.setOther (oth.setOther (oth.setOther (oth.setOther (oth.setOther h h1 h2) h1 h2) h1 h2) h3 h4) h3 h4
/-- a plan and a fault in their cells -/
theorem plan_ret {w : World} {pb fb : Nat} {tp tf : TypeId} {x0 x1 x2 y0 y1 : Value} (hP : blockIs w pb tp #[x0, x1, x2]) (hF : blockIs w fb tf #[y0, y1]) (hne : pb ≠ fb) (a0 a1 a2 b0 b1 : Value) :
    blockIs (((((w.setCell ⟨pb, 0, none⟩ a0).setCell ⟨pb, 1, none⟩ a1).setCell ⟨pb, 2, none⟩ a2).setCell ⟨fb, 0, none⟩ b0).setCell ⟨fb, 1, none⟩ b1) pb tp #[a0, a1, a2] ∧
      blockIs (((((w.setCell ⟨pb, 0, none⟩ a0).setCell ⟨pb, 1, none⟩ a1).setCell ⟨pb, 2, none⟩ a2).setCell ⟨fb, 0, none⟩ b0).setCell ⟨fb, 1, none⟩ b1) fb tf #[b0, b1] :=
  ⟨((((hP.set 0 a0).set 1 a1).set 2 a2).setOther (a := ⟨fb, 0, none⟩) hne b0).setOther (a := ⟨fb, 1, none⟩) hne b1,
   ((((hF.setOther (a := ⟨pb, 0, none⟩) (Ne.symm hne) a0).setOther (a := ⟨pb, 1, none⟩) (Ne.symm hne) a1).setOther (a := ⟨pb, 2, none⟩) (Ne.symm hne) a2).set 0 b0).set 1 b1⟩
/-- a block of one row as a source -/
theorem row_one_src {w : World} {b : Nat} {e : TypeId} {ao : Option Addr} {cap : Nat} {xs : List Int} {ok : Nat → Prop} (h : blockIs w b e #[.slice ao xs.length cap]) (hx : rowRep intS ok w ao cap xs) : srcRep (sliceS intS) ok w (some ⟨b, 0, none⟩) [xs] := by
  refine .inr ⟨b, 0, rfl, fun i y hy => ?_⟩
  match i, hy with
  | 0, hy =>
    obtain rfl : xs = y := by simpa using hy
    refine ⟨_, ⟨ao, cap, rfl, hx⟩, fun j c hc => ?_⟩
    simp only [Nat.zero_mul, Nat.zero_add]
    rw [h.cells.1 j]
    simpa using hc
  | i + 1, hy => simp at hy
/-- a block of one number as a source -/
theorem one_src {w : World} {b : Nat} {e : TypeId} {x : Int} {ok : Nat → Prop} (h : blockIs w b e #[.int .i64 x]) (hx : I64 x) : srcRep intS ok w (some ⟨b, 0, none⟩) [x] := by
  refine .inr ⟨b, 0, rfl, fun i y hy => ?_⟩
  match i, hy with
  | 0, hy =>
    obtain rfl : x = y := by simpa using hy
    refine ⟨_, ⟨rfl, hx⟩, fun j c hc => ?_⟩
    simp only [Nat.zero_mul, Nat.zero_add]
    rw [h.cells.1 j]
    simpa using hc
  | i + 1, hy => simp at hy
end Go.St

/-
  The types of nets and flows: what their readings are.
-/
set_option linter.unusedSimpArgs false
set_option linter.unusedVariables false
namespace Go.St
open Go.RowKit Go.Deep Go.ChangeShapes Go.WideShapes
theorem opens_topo {P : Program} {t i ls : TypeId} {f0 f1 : Field} (ht : P.underlying t = some (.struct #[f0, f1])) (hc : P.cellsOf t = 2) (hi : Opens P i intS) (hl : Opens P ls (sliceS linkS))
    (t0 : f0.type = i ∧ f0.offset = 0) (t1 : f1.type = ls ∧ f1.offset = 1) : Opens P t topoS where
  size := by rw [hc]; rfl
  pos := by decide
  op h := by
    obtain ⟨xs, n, _, rfl, hlen', hlen, hf⟩ := DataW.trod_struct ht h
    rename_i cs _
    rw [hc] at hlen'
    match cs, hlen', xs, hlen with
    | [v0, v1], _, [x0, x1], _ =>
      have h0 := hf 0 f0 rfl
      have h1 := hf 1 f1 rfl
      rw [t0.1, t0.2, hi.size] at h0
      rw [t1.1, t1.2, hl.size] at h1
      obtain ⟨a, ha, ia⟩ := hi.op h0
      obtain ⟨rr, ra, rc, hr1, hr2⟩ := hl.row h1
      simp [intS, sliceS] at ha hr1
      subst ha; subst hr1
      exact ⟨⟨a, rr⟩, ra, rc, rfl, ia, hr2⟩

theorem opens_flow {P : Program} {t i fs : TypeId} {f0 f1 f2 f3 : Field} (ht : P.underlying t = some (.struct #[f0, f1, f2, f3])) (hc : P.cellsOf t = 4) (hi : Opens P i intS) (hl : Opens P fs (sliceS intS))
    (t0 : f0.type = i ∧ f0.offset = 0) (t1 : f1.type = i ∧ f1.offset = 1) (t2 : f2.type = fs ∧ f2.offset = 2) (t3 : f3.type = fs ∧ f3.offset = 3) : Opens P t flowS where
  size := by rw [hc]; rfl
  pos := by decide
  op h := by
    obtain ⟨xs, n, _, rfl, hlen', hlen, hf⟩ := DataW.trod_struct ht h
    rename_i cs _
    rw [hc] at hlen'
    match cs, hlen', xs, hlen with
    | [v0, v1, v2, v3], _, [x0, x1, x2, x3], _ =>
      have h0 := hf 0 f0 rfl
      have h1 := hf 1 f1 rfl
      have h2 := hf 2 f2 rfl
      have h3 := hf 3 f3 rfl
      rw [t0.1, t0.2, hi.size] at h0
      rw [t1.1, t1.2, hi.size] at h1
      rw [t2.1, t2.2, hl.size] at h2
      rw [t3.1, t3.2, hl.size] at h3
      obtain ⟨a, ha, ia⟩ := hi.op h0
      obtain ⟨b, hb, ib⟩ := hi.op h1
      obtain ⟨rr, ra, rc, hr1, hr2⟩ := hl.row h2
      obtain ⟨ss, sa, sc, hs1, hs2⟩ := hl.row h3
      simp [intS, sliceS] at ha hb hr1 hs1
      subst ha; subst hb; subst hr1; subst hs1
      exact ⟨⟨a, b, rr, ss⟩, ra, rc, sa, sc, rfl, ia, ib, hr2, hs2⟩
end Go.St
namespace Go.Proofs.Ytagldmdeohenjaa
open Go.RowKit Go.St Go.ChangeShapes Go.WideShapes

theorem o_int : Opens Try.prog 3 intS := opens_int Try.underlying3 (by kernel_rfl)
theorem o_ints : Opens Try.prog 26 (sliceS intS) := o_int.slice Try.underlying26 (by kernel_rfl)
theorem o_link : Opens Try.prog 90 linkS := opens_link Try.underlying90 (by kernel_rfl) o_int ⟨rfl, rfl⟩ ⟨rfl, rfl⟩ ⟨rfl, rfl⟩ rfl (fun a b c w ia ib ic => ⟨⟨a, b, c⟩, rfl, ia, ib, ic⟩)
theorem o_links : Opens Try.prog 22 (sliceS linkS) := o_link.slice Try.underlying22 (by kernel_rfl)
theorem o_topo : Opens Try.prog 24 topoS := opens_topo Try.underlying24 (by kernel_rfl) o_int o_links ⟨rfl, rfl⟩ ⟨rfl, rfl⟩
theorem o_flow : Opens Try.prog 64 flowS := opens_flow Try.underlying64 (by kernel_rfl) o_int o_ints ⟨rfl, rfl⟩ ⟨rfl, rfl⟩ ⟨rfl, rfl⟩ ⟨rfl, rfl⟩
theorem o_flows : Opens Try.prog 25 (sliceS flowS) := o_flow.slice Try.underlying25 (by kernel_rfl)
theorem law_own : ownKnob Try.prog.godebug = none := by kernel_rfl
theorem law_laid : laidOutB Try.prog = true := by kernel_rfl

end Go.Proofs.Ytagldmdeohenjaa

/-
  Two lists of rules held against each other: the walk of SameRules.
-/
set_option linter.unusedSimpArgs false
set_option linter.unusedVariables false
namespace Go.Proofs.Ytagldmdeohenjaa
open Go.RowKit Go.St

theorem neq_rule (x y : Rule) (w : World) : (binOp .neq 88 (.agg #[.int .i64 x.ver, .int .i64 x.flow, .int .i64 x.next]) (.agg #[.int .i64 y.ver, .int .i64 y.flow, .int .i64 y.next])).run Try.prog w = .ok (.bool (!decide (x = y))) w := by
  obtain ⟨a, b, c⟩ := x
  obtain ⟨d, e, f⟩ := y
  rw [run_neq_struct, run_equalIn_agg _ _ _ _ _ (by kernel_rfl) (by kernel_rfl)]
  by_cases h1 : a = d <;> by_cases h2 : b = e <;> by_cases h3 : c = f <;> simp [go_sem, h1, h2, h3, Rule.mk.injEq]

set_option maxRecDepth 100000 in
set_option maxHeartbeats 4000000 in
theorem sameRules_c (xs ys : List Rule) (ok ok' : Nat → Prop) (ax ay : Option Addr) (cx cy : Nat) (w : World) (hx : rowRep ruleS ok w ax cx xs) (hy : rowRep ruleS ok' w ay cy ys) :
    Calls Try.prog 45 #[.slice ax xs.length cx, .slice ay ys.length cy] w fun e w' => e = .returned (.bool (xs == ys)) ∧ Below w.heap.size w w' := by
  have q1 : Try.prog.eqGuardType Try.prog.depth 88 = false := by kernel_rfl
  by_cases hl : xs.length = ys.length
  case neg =>
    rw [ne_of_length hl]
    have hl' : ((xs.length : Int) == (ys.length : Int)) = false := by rw [beq_eq_false_iff_ne]; omega
    clear hl
    go_enter Try.func45, Try.ntmps45
    go_wp2
    go_ret; exact ⟨rfl, by (repeat' (first | with_reducible exact Below.refl _ _ | with_reducible assumption | with_reducible refine Below.drew ?_ | with_reducible refine Below_drewN ?_ _ | with_reducible refine Below.alloc ?_ ?_ _ | with_reducible refine Below.setCell ?_ ?_ _ | omega | (simp; done) | (simp; omega)))⟩
  have hl' : ((xs.length : Int) == (ys.length : Int)) = true := by rw [beq_iff_eq]; omega
  have hlx := hx.len_le
  have HL := Lib.hid hl
  clear hl
  go_enter Try.func45, Try.ntmps45
  go_wp2
  go_loopw [13] (fun i wr => ∃ j : Nat, j ≤ xs.length ∧ i = .int .i64 j ∧ Hid ((xs == ys) = sameFrom xs ys j) ∧ Below w.heap.size w wr) (fun i _ => xs.length - (intOf i).toNat)
  case atStart => exact ⟨0, Nat.zero_le _, rfl, sameFrom_start _ _, Below.refl _ _⟩
  case round =>
    obtain ⟨j, hj, rfl, hall, hb⟩ := hrel
    by_cases hlt : j < xs.length
    · have hlt2 : j < ys.length := by have := HL.out; omega
      obtain ⟨b, off, rfl, _, hbl, cs, hcs, hce⟩ := hx.get (List.getElem?_eq_getElem hlt)
      obtain ⟨rfl, hi1, _, _⟩ := hcs
      have e0 := cell_at hb hbl (hce 0 _ rfl)
      have e01 := cell_at hb hbl (hce 1 _ rfl)
      have e02 := cell_at hb hbl (hce 2 _ rfl)
      clear hce
      obtain ⟨b', off', rfl, _, hbl', cs', hcs', hce'⟩ := hy.get (List.getElem?_eq_getElem hlt2)
      obtain ⟨rfl, hi2, _, _⟩ := hcs'
      have e1 := cell_at hb hbl' (hce' 0 _ rfl)
      have e11 := cell_at hb hbl' (hce' 1 _ rfl)
      have e12 := cell_at hb hbl' (hce' 2 _ rfl)
      clear hce'
      simp only [ruleS, Nat.add_zero] at e0 e01 e02 e1 e11 e12
      have b0 : (0 : Int) ≤ (j : Int) := by omega
      have b1 : (j : Int) < (xs.length : Int) := by omega
      have b2 : (j : Int) < (ys.length : Int) := by omega
      have hq := neq_rule xs[j] ys[j]
      go_wp2
      go_quiet (fail)
      go_wp2
      case roundEnd =>
        go_roundw
        case rel => exact ⟨j + 1, by omega, by go_num, sameFrom_good hlt hlt2 hall.out (by (try simp only [beq_iff_eq, beq_eq_false_iff_ne, bne_iff_ne, bne_eq_false_iff_eq, ne_eq, Bool.not_eq_true', Bool.not_eq_false', decide_eq_true_eq, decide_eq_false_iff_not] at *); assumption), by (repeat' (first | with_reducible exact Below.refl _ _ | with_reducible assumption | with_reducible refine Below.drew ?_ | with_reducible refine Below_drewN ?_ _ | with_reducible refine Below.alloc ?_ ?_ _ | with_reducible refine Below.setCell ?_ ?_ _ | omega | (simp; done) | (simp; omega)))⟩
        case measure => simp [intOf]; omega
      all_goals (go_ret; exact ⟨ret_bool (sameFrom_bad hlt hlt2 hall.out (by (try simp only [beq_iff_eq, beq_eq_false_iff_ne, bne_iff_ne, bne_eq_false_iff_eq, ne_eq, Bool.not_eq_true', Bool.not_eq_false', decide_eq_true_eq, decide_eq_false_iff_not] at *); assumption)).symm, by (repeat' (first | with_reducible exact Below.refl _ _ | with_reducible assumption | with_reducible refine Below.drew ?_ | with_reducible refine Below_drewN ?_ _ | with_reducible refine Below.alloc ?_ ?_ _ | with_reducible refine Below.setCell ?_ ?_ _ | omega | (simp; done) | (simp; omega)))⟩)
    · go_wp2
      go_ret; exact ⟨ret_bool (sameFrom_end (by omega) (by have := HL.out; omega) hall.out), by (repeat' (first | with_reducible exact Below.refl _ _ | with_reducible assumption | with_reducible refine Below.drew ?_ | with_reducible refine Below_drewN ?_ _ | with_reducible refine Below.alloc ?_ ?_ _ | with_reducible refine Below.setCell ?_ ?_ _ | omega | (simp; done) | (simp; omega)))⟩

end Go.Proofs.Ytagldmdeohenjaa

/-
  Two orders held against each other: the walk of SameOrder.
-/
set_option linter.unusedSimpArgs false
set_option linter.unusedVariables false
namespace Go.Proofs.Ytagldmdeohenjaa
open Go.RowKit Go.St

theorem order_eq {k n v : Int} {rs : List Rule} {fs : List Int} {k' n' v' : Int} {rs' : List Rule} {fs' : List Int} :
    (decide ((⟨k, n, v, rs, fs⟩ : Order) = ⟨k', n', v', rs', fs'⟩)) = (k == k' && (n == n' && (v == v' && (rs == rs' && fs == fs')))) := by
  rw [Bool.eq_iff_iff]
  simp [Order.mk.injEq]

set_option maxRecDepth 100000 in
set_option maxHeartbeats 4000000 in
theorem sameOrder_c (x y : Order) (cs ds : List Value) (ok ok' : Nat → Prop) (w : World) (hx : orderS.rep ok w cs x) (hy : orderS.rep ok' w ds y) :
    Calls Try.prog 35 #[.agg cs.toArray, .agg ds.toArray] w fun e w' => e = .returned (.bool (decide (x = y))) ∧ Below w.heap.size w w' := by
  obtain ⟨ra, rc, fa, fc, rfl, _, _, _, hr, hf⟩ := hx
  obtain ⟨ra', rc', fa', fc', rfl, _, _, _, hr', hf'⟩ := hy
  obtain ⟨k, n, v, rs, fs⟩ := x
  obtain ⟨k', n', v', rs', fs'⟩ := y
  dsimp only at *
  rw [order_eq]
  by_cases h1 : k = k'
  case neg =>
    have h1' : (k == k') = false := by rw [beq_eq_false_iff_ne]; exact h1
    rw [h1', Bool.false_and]
    clear h1
    go_enter Try.func35, Try.ntmps35
    go_wp2
    go_ret; exact ⟨rfl, by (repeat' (first | with_reducible exact Below.refl _ _ | with_reducible assumption | with_reducible refine Below.drew ?_ | with_reducible refine Below_drewN ?_ _ | with_reducible refine Below.alloc ?_ ?_ _ | with_reducible refine Below.setCell ?_ ?_ _ | omega | (simp; done) | (simp; omega)))⟩
  subst h1
  by_cases h2 : n = n'
  case neg =>
    have h2' : (n == n') = false := by rw [beq_eq_false_iff_ne]; exact h2
    rw [h2', Bool.false_and, Bool.and_false]
    clear h2
    go_enter Try.func35, Try.ntmps35
    go_wp2
    go_ret; exact ⟨rfl, by (repeat' (first | with_reducible exact Below.refl _ _ | with_reducible assumption | with_reducible refine Below.drew ?_ | with_reducible refine Below_drewN ?_ _ | with_reducible refine Below.alloc ?_ ?_ _ | with_reducible refine Below.setCell ?_ ?_ _ | omega | (simp; done) | (simp; omega)))⟩
  subst h2
  by_cases h3 : v = v'
  case neg =>
    have h3' : (v == v') = false := by rw [beq_eq_false_iff_ne]; exact h3
    rw [h3', Bool.false_and, Bool.and_false, Bool.and_false]
    clear h3
    go_enter Try.func35, Try.ntmps35
    go_wp2
    go_ret; exact ⟨rfl, by (repeat' (first | with_reducible exact Below.refl _ _ | with_reducible assumption | with_reducible refine Below.drew ?_ | with_reducible refine Below_drewN ?_ _ | with_reducible refine Below.alloc ?_ ?_ _ | with_reducible refine Below.setCell ?_ ?_ _ | omega | (simp; done) | (simp; omega)))⟩
  subst h3
  simp only [beq_self_eq_true, Bool.true_and]
  go_enter Try.func35, Try.ntmps35
  go_wp2_with fail
  refine (sameRules_c rs rs' ok ok' ra ra' rc rc' _ ?_ ?_).mono ?_
  · exact hr.below (by (repeat' (first | with_reducible exact Below.refl _ _ | with_reducible assumption | with_reducible refine Below.drew ?_ | with_reducible refine Below_drewN ?_ _ | with_reducible refine Below.alloc ?_ ?_ _ | with_reducible refine Below.setCell ?_ ?_ _ | omega | (simp; done) | (simp; omega))))
  · exact hr'.below (by (repeat' (first | with_reducible exact Below.refl _ _ | with_reducible assumption | with_reducible refine Below.drew ?_ | with_reducible refine Below_drewN ?_ _ | with_reducible refine Below.alloc ?_ ?_ _ | with_reducible refine Below.setCell ?_ ?_ _ | omega | (simp; done) | (simp; omega))))
  rintro e w1 ⟨rfl, hb1⟩
  obtain ⟨q1, q2⟩ := bcell hb1
  cases hrr : (rs == rs')
  · have hB : Below w.heap.size w w1 := Below.trans (by (repeat' (first | with_reducible exact Below.refl _ _ | with_reducible assumption | with_reducible refine Below.drew ?_ | with_reducible refine Below_drewN ?_ _ | with_reducible refine Below.alloc ?_ ?_ _ | with_reducible refine Below.setCell ?_ ?_ _ | omega | (simp; done) | (simp; omega)))) (hb1.mono (by simp; omega))
    have HR := Lib.hid hrr
    clear hr hr' hf hf' hb1 hrr
    go_wp2
    go_ret; exact ⟨ret_bool (by rw [HR.out]; rfl), by (repeat' (first | with_reducible exact Below.refl _ _ | with_reducible assumption | with_reducible refine Below.drew ?_ | with_reducible refine Below_drewN ?_ _ | with_reducible refine Below.alloc ?_ ?_ _ | with_reducible refine Below.setCell ?_ ?_ _ | omega | (simp; done) | (simp; omega)))⟩
  · have HR := Lib.hid hrr
    clear hrr
    go_wp2_with fail
    refine (ints_c fs fs' ok ok' fa fa' fc fc' _ ?_ ?_).mono ?_
    · exact hf.below (Below.trans (by (repeat' (first | with_reducible exact Below.refl _ _ | with_reducible assumption | with_reducible refine Below.drew ?_ | with_reducible refine Below_drewN ?_ _ | with_reducible refine Below.alloc ?_ ?_ _ | with_reducible refine Below.setCell ?_ ?_ _ | omega | (simp; done) | (simp; omega)))) (hb1.mono (by simp; omega)))
    · exact hf'.below (Below.trans (by (repeat' (first | with_reducible exact Below.refl _ _ | with_reducible assumption | with_reducible refine Below.drew ?_ | with_reducible refine Below_drewN ?_ _ | with_reducible refine Below.alloc ?_ ?_ _ | with_reducible refine Below.setCell ?_ ?_ _ | omega | (simp; done) | (simp; omega)))) (hb1.mono (by simp; omega)))
    rintro e w2 ⟨rfl, hb2⟩
    have hB : Below w.heap.size w w2 := Below.trans (Below.trans (by (repeat' (first | with_reducible exact Below.refl _ _ | with_reducible assumption | with_reducible refine Below.drew ?_ | with_reducible refine Below_drewN ?_ _ | with_reducible refine Below.alloc ?_ ?_ _ | with_reducible refine Below.setCell ?_ ?_ _ | omega | (simp; done) | (simp; omega)))) (hb1.mono (by simp; omega))) (hb2.mono (by have := hb1.size; simp at this; omega))
    clear hr hr' hf hf' hb1 hb2
    go_wp2
    go_ret; exact ⟨ret_bool (by rw [HR.out]; simp), by (repeat' (first | with_reducible exact Below.refl _ _ | with_reducible assumption | with_reducible refine Below.drew ?_ | with_reducible refine Below_drewN ?_ _ | with_reducible refine Below.alloc ?_ ?_ _ | with_reducible refine Below.setCell ?_ ?_ _ | omega | (simp; done) | (simp; omega)))⟩

end Go.Proofs.Ytagldmdeohenjaa

/-
  Nothing: this seat lacks what this text is about.
-/

/-
  Stable sorting of lists, plainly: rearrangements that keep each class in its order.
-/
set_option linter.unusedSimpArgs false
set_option linter.unusedVariables false
namespace Go.St

/-- an order up to classes -/
structure Weak {α : Type} (lt : α → α → Bool) : Prop where
  irr : ∀ a, lt a a = false
  tra : ∀ {a b c}, lt a b = true → lt b c = true → lt a c = true
  neg : ∀ {a b c}, lt a b = false → lt b c = false → lt a c = false

variable {α : Type} {lt : α → α → Bool}

def eqv (lt : α → α → Bool) (r x : α) : Bool := !lt r x && !lt x r
theorem eqv_iff {r x : α} : eqv lt r x = true ↔ lt r x = false ∧ lt x r = false := by simp [eqv]
/-- each class in its old order -/
def Stab (lt : α → α → Bool) (xs ys : List α) : Prop := ∀ r, ys.filter (eqv lt r) = xs.filter (eqv lt r)
/-- sorted -/
def Srt (lt : α → α → Bool) (xs : List α) : Prop := xs.Pairwise fun a b => lt b a = false

theorem Stab.refl (xs : List α) : Stab lt xs xs := fun _ => rfl
theorem Stab.trans {xs ys zs : List α} (h : Stab lt xs ys) (g : Stab lt ys zs) : Stab lt xs zs := fun r => (g r).trans (h r)
theorem Stab.append {xs ys us vs : List α} (h : Stab lt xs ys) (g : Stab lt us vs) : Stab lt (xs ++ us) (ys ++ vs) := fun r => by
  rw [List.filter_append, List.filter_append, h r, g r]
theorem Stab.mid {u w : List α} (h : Stab lt u w) (p s : List α) : Stab lt (p ++ u ++ s) (p ++ w ++ s) := ((Stab.refl p).append h).append (Stab.refl s)
theorem eqv_trans (W : Weak lt) {r x y : α} (h : eqv lt r x = true) (g : eqv lt r y = true) : lt x y = false :=
  W.neg (eqv_iff.1 h).2 (eqv_iff.1 g).1
theorem Stab.mem (W : Weak lt) {xs ys : List α} (h : Stab lt xs ys) {x : α} : x ∈ ys ↔ x ∈ xs := by
  have hx : eqv lt x x = true := eqv_iff.2 ⟨W.irr x, W.irr x⟩
  have : x ∈ ys.filter (eqv lt x) ↔ x ∈ xs.filter (eqv lt x) := by rw [h x]
  simpa [List.mem_filter, hx] using this
/-- one behind the other, where all of the second are less -/
theorem Stab.swap (W : Weak lt) {u v : List α} (h : ∀ x ∈ u, ∀ y ∈ v, lt y x = true) : Stab lt (u ++ v) (v ++ u) := fun r => by
  rw [List.filter_append, List.filter_append]
  by_cases hu : u.filter (eqv lt r) = []
  · rw [hu]; simp
  · have hv : v.filter (eqv lt r) = [] := by
      rw [List.filter_eq_nil_iff]
      intro y hy hyr
      obtain ⟨x, hx⟩ := List.exists_mem_of_ne_nil _ hu
      obtain ⟨hx1, hx2⟩ := List.mem_filter.1 hx
      have := eqv_trans W hyr hx2
      rw [h x hx1 y hy] at this; exact absurd this (by decide)
    rw [hv]; simp

theorem Srt.nil : Srt lt ([] : List α) := List.Pairwise.nil
theorem Srt.one (x : α) : Srt lt [x] := List.pairwise_singleton _ _
theorem Srt.append {u v : List α} : Srt lt (u ++ v) ↔ Srt lt u ∧ Srt lt v ∧ ∀ x ∈ u, ∀ y ∈ v, lt y x = false := List.pairwise_append

/-- there is one such list alone -/
theorem Stab.uniq (W : Weak lt) : ∀ {ys zs : List α}, Stab lt ys zs → Srt lt ys → Srt lt zs → ys = zs
  | [], zs, h, _, _ => by
    cases zs with
    | nil => rfl
    | cons z zs => exact absurd ((h.mem W).1 (List.mem_cons_self ..)) (by simp)
  | y :: ys, zs, h, h1, h2 => by
    cases zs with
    | nil => exact absurd ((h.mem W).2 (List.mem_cons_self ..)) (by simp)
    | cons z zs =>
      have a1 := (List.pairwise_cons.1 h1).1
      have a2 := (List.pairwise_cons.1 h2).1
      have hzy : lt z y = false := by
        rcases List.mem_cons.1 ((h.mem W).2 (List.mem_cons_self (a := y))) with e | e
        · subst e; exact W.irr _
        · exact (fun hh => hh) (by
            have := a2 y e
            rcases List.mem_cons.1 ((h.mem W).1 (List.mem_cons_self (a := z))) with e' | e'
            · subst e'; exact W.irr _
            · exact a1 z e')
      have hyz : lt y z = false := by
        rcases List.mem_cons.1 ((h.mem W).2 (List.mem_cons_self (a := y))) with e | e
        · subst e; exact W.irr _
        · exact a2 y e
      have hy : eqv lt y y = true := eqv_iff.2 ⟨W.irr y, W.irr y⟩
      have hz : eqv lt y z = true := eqv_iff.2 ⟨hyz, hzy⟩
      have e0 := h y
      rw [List.filter_cons_of_pos hz, List.filter_cons_of_pos hy] at e0
      have e1 : z = y := (List.cons.inj e0).1
      subst e1
      have ht : Stab lt ys zs := fun r => by
        have := h r
        by_cases hr : eqv lt r z = true
        · rw [List.filter_cons_of_pos hr, List.filter_cons_of_pos hr] at this; exact (List.cons.inj this).2
        · rw [List.filter_cons_of_neg hr, List.filter_cons_of_neg hr] at this; exact this
      rw [ht.uniq W (List.pairwise_cons.1 h1).2 (List.pairwise_cons.1 h2).2]

/-- the spec: x comes behind all that are not greater -/
def ins (lt : α → α → Bool) (x : α) : List α → List α
  | [] => [x]
  | y :: ys => if lt x y then x :: y :: ys else y :: ins lt x ys
theorem ins_mem {x z : α} : ∀ {ys : List α}, z ∈ ins lt x ys ↔ z = x ∨ z ∈ ys
  | [] => by simp [ins]
  | y :: ys => by
    unfold ins; split
    · simp
    · simp only [List.mem_cons, ins_mem (ys := ys)]
      constructor
      · rintro (h | h | h) <;> simp [h]
      · rintro (h | h | h) <;> simp [h]
theorem ins_srt (W : Weak lt) {x : α} : ∀ {ys : List α}, Srt lt ys → Srt lt (ins lt x ys)
  | [], _ => Srt.one x
  | y :: ys, h => by
    obtain ⟨h1, h2⟩ := List.pairwise_cons.1 h
    unfold ins; split
    case isTrue hx =>
      refine List.pairwise_cons.2 ⟨fun z hz => ?_, h⟩
      have hyx : lt y x = false := by
        cases hh : lt y x with
        | false => rfl
        | true => have := W.tra hx hh; rw [W.irr] at this; exact absurd this (by decide)
      rcases List.mem_cons.1 hz with rfl | hz
      · exact hyx
      · exact W.neg (h1 z hz) hyx
    case isFalse hx =>
      refine List.pairwise_cons.2 ⟨fun z hz => ?_, ins_srt W h2⟩
      rcases ins_mem.1 hz with rfl | hz
      · simpa using hx
      · exact h1 z hz
theorem ins_stab (W : Weak lt) {x : α} : ∀ {ys : List α}, Srt lt ys → Stab lt (ys ++ [x]) (ins lt x ys)
  | [], _ => Stab.refl _
  | y :: ys, h => by
    obtain ⟨h1, h2⟩ := List.pairwise_cons.1 h
    unfold ins; split
    case isTrue hx =>
      refine Stab.swap W (u := y :: ys) (v := [x]) fun a ha b hb => ?_
      obtain rfl : b = x := by simpa using hb
      rcases List.mem_cons.1 ha with rfl | ha
      · exact hx
      · cases hh : lt b a with
        | true => rfl
        | false => have := W.neg hh (h1 a ha); rw [hx] at this; exact absurd this (by decide)
    case isFalse hx => exact (Stab.refl [y]).append (ins_stab W h2)
/-- stable sorting -/
def ssort (lt : α → α → Bool) (xs : List α) : List α := xs.foldl (fun s x => ins lt x s) []
theorem ssort_go (W : Weak lt) : ∀ (xs s : List α), Srt lt s → Srt lt (xs.foldl (fun s x => ins lt x s) s) ∧ Stab lt (s ++ xs) (xs.foldl (fun s x => ins lt x s) s)
  | [], s, h => ⟨h, by rw [List.append_nil]; exact Stab.refl _⟩
  | x :: xs, s, h => by
    obtain ⟨h1, h2⟩ := ssort_go W xs (ins lt x s) (ins_srt W h)
    refine ⟨h1, fun r => ?_⟩
    rw [List.foldl_cons, h2 r, List.filter_append, ins_stab W h r]
    simp [List.filter_append, List.append_assoc, List.filter_cons]
    split <;> simp
theorem ssort_srt (W : Weak lt) (xs : List α) : Srt lt (ssort lt xs) := (ssort_go W xs [] Srt.nil).1
theorem ssort_stab (W : Weak lt) (xs : List α) : Stab lt xs (ssort lt xs) := (ssort_go W xs [] Srt.nil).2
/-- what is sorted and stable is that -/
theorem ssort_eq (W : Weak lt) {xs ys : List α} (h : Stab lt xs ys) (hs : Srt lt ys) : ys = ssort lt xs :=
  Stab.uniq W (Stab.trans (fun r => (h r).symm) (ssort_stab W xs)) hs (ssort_srt W xs)
theorem ssort_append (W : Weak lt) (xs ys : List α) : ssort lt (xs ++ ys) = ys.foldl (fun s x => ins lt x s) (ssort lt xs) := List.foldl_append ..
theorem ssort_sorted (W : Weak lt) {xs : List α} (h : Srt lt xs) : ssort lt xs = xs := (ssort_eq W (Stab.refl xs) h).symm
end Go.St

/-
  Merging in place, plainly.
-/
set_option linter.unusedSimpArgs false
set_option linter.unusedVariables false
namespace Go.St
variable {α : Type} {lt : α → α → Bool}

theorem Weak.not_rev (W : Weak lt) {a b : α} (h : lt a b = true) : lt b a = false := by
  cases hh : lt b a with
  | false => rfl
  | true => have := W.tra h hh; rw [W.irr] at this; exact absurd this (by decide)
theorem Weak.lt_le (W : Weak lt) {a b c : α} (h : lt a b = true) (g : lt c b = false) : lt a c = true := by
  cases hh : lt a c with
  | true => rfl
  | false => have := W.neg hh g; rw [h] at this; exact absurd this (by decide)
theorem Weak.le_lt (W : Weak lt) {a b c : α} (h : lt b a = false) (g : lt b c = true) : lt a c = true := by
  cases hh : lt a c with
  | true => rfl
  | false => have := W.neg h hh; rw [g] at this; exact absurd this (by decide)

/-- four parts, the middle ones exchanged, each half then sorted -/
theorem merge_parts (W : Weak lt) {u1 u2 v1 v2 w1 w2 : List α} (hu : Srt lt (u1 ++ u2)) (hv : Srt lt (v1 ++ v2)) (h1 : ∀ x ∈ u1, ∀ y ∈ v2, lt y x = false) (h2 : ∀ x ∈ u2, ∀ y ∈ v1, lt y x = true)
    (s1 : Stab lt (u1 ++ v1) w1) (s2 : Stab lt (u2 ++ v2) w2) (o1 : Srt lt w1) (o2 : Srt lt w2) : Stab lt ((u1 ++ u2) ++ (v1 ++ v2)) (w1 ++ w2) ∧ Srt lt (w1 ++ w2) := by
  obtain ⟨_, _, hu3⟩ := Srt.append.1 hu
  obtain ⟨_, _, hv3⟩ := Srt.append.1 hv
  constructor
  · have a1 : Stab lt (u1 ++ (u2 ++ v1) ++ v2) (u1 ++ (v1 ++ u2) ++ v2) := Stab.mid (Stab.swap W h2) _ _
    have a2 : Stab lt ((u1 ++ v1) ++ (u2 ++ v2)) (w1 ++ w2) := s1.append s2
    have e1 : (u1 ++ u2) ++ (v1 ++ v2) = u1 ++ (u2 ++ v1) ++ v2 := by simp
    have e2 : (u1 ++ v1) ++ (u2 ++ v2) = u1 ++ (v1 ++ u2) ++ v2 := by simp
    rw [e1]; rw [e2] at a2; exact a1.trans a2
  · refine Srt.append.2 ⟨o1, o2, fun x hx y hy => ?_⟩
    rcases List.mem_append.1 ((s1.mem W).1 hx) with hx | hx <;> rcases List.mem_append.1 ((s2.mem W).1 hy) with hy | hy
    · exact hu3 x hx y hy
    · exact h1 x hx y hy
    · exact W.not_rev (h2 y hy x hx)
    · exact hv3 x hx y hy

/-- from the bounds' neighbours to all -/
theorem le_cross (W : Weak lt) {u v : List α} (hu : Srt lt u) (hv : Srt lt v) (h : ∀ x y, u.getLast? = some x → v.head? = some y → lt y x = false) : ∀ x ∈ u, ∀ y ∈ v, lt y x = false := by
  intro x hx y hy
  obtain ⟨v0, vs, rfl⟩ : ∃ v0 vs, v = v0 :: vs := by cases v with | nil => simp at hy | cons a b => exact ⟨_, _, rfl⟩
  obtain ⟨us, ul, rfl⟩ : ∃ us ul, u = us ++ [ul] := by
    rcases List.eq_nil_or_concat u with e | ⟨us, ul, e⟩
    · subst e; simp at hx
    · exact ⟨us, ul, by rw [e]; simp⟩
  have h0 := h ul v0 (by simp) (by simp)
  have hxl : lt ul x = false := by
    rcases List.mem_append.1 hx with hx | hx
    · exact (Srt.append.1 hu).2.2 x hx ul (by simp)
    · obtain rfl : x = ul := by simpa using hx
      exact W.irr _
  have hyv : lt y v0 = false := by
    rcases List.mem_cons.1 hy with rfl | hy
    · exact W.irr _
    · exact (List.pairwise_cons.1 hv).1 y hy
  exact W.neg hyv (W.neg h0 hxl)
theorem lt_cross (W : Weak lt) {u v : List α} (hu : Srt lt u) (hv : Srt lt v) (h : ∀ x y, u.head? = some x → v.getLast? = some y → lt y x = true) : ∀ x ∈ u, ∀ y ∈ v, lt y x = true := by
  intro x hx y hy
  obtain ⟨u0, us, rfl⟩ : ∃ v0 vs, u = v0 :: vs := by cases u with | nil => simp at hx | cons a b => exact ⟨_, _, rfl⟩
  obtain ⟨vs, vl, rfl⟩ : ∃ us ul, v = us ++ [ul] := by
    rcases List.eq_nil_or_concat v with e | ⟨us, ul, e⟩
    · subst e; simp at hy
    · exact ⟨us, ul, by rw [e]; simp⟩
  have h0 := h u0 vl (by simp) (by simp)
  have hyl : lt vl y = false := by
    rcases List.mem_append.1 hy with hy | hy
    · exact (Srt.append.1 hv).2.2 y hy vl (by simp)
    · obtain rfl : y = vl := by simpa using hy
      exact W.irr _
  have hxu : lt x u0 = false := by
    rcases List.mem_cons.1 hx with rfl | hx
    · exact W.irr _
    · exact (List.pairwise_cons.1 hu).1 x hx
  exact W.lt_le (W.le_lt hyl h0) hxu

/-- one that comes into a sorted list -/
theorem merge_left (W : Weak lt) {x : α} {v1 v2 : List α} (hv : Srt lt (v1 ++ v2)) (h1 : ∀ y ∈ v1, lt y x = true) (h2 : ∀ y ∈ v2, lt y x = false) : Stab lt ([x] ++ (v1 ++ v2)) (v1 ++ ([x] ++ v2)) ∧ Srt lt (v1 ++ ([x] ++ v2)) := by
  obtain ⟨o1, o2, _⟩ := Srt.append.1 hv
  exact merge_parts W (u1 := []) (u2 := [x]) (v1 := v1) (v2 := v2) (w1 := v1) (w2 := [x] ++ v2) (Srt.one x) hv (by simp) (by simpa using h1) (Stab.refl _) (Stab.refl _) o1 (Srt.append.2 ⟨Srt.one x, o2, by simpa using h2⟩)
theorem merge_right (W : Weak lt) {y : α} {u1 u2 : List α} (hu : Srt lt (u1 ++ u2)) (h1 : ∀ x ∈ u1, lt y x = false) (h2 : ∀ x ∈ u2, lt y x = true) : Stab lt ((u1 ++ u2) ++ [y]) ((u1 ++ [y]) ++ u2) ∧ Srt lt ((u1 ++ [y]) ++ u2) := by
  obtain ⟨o1, o2, _⟩ := Srt.append.1 hu
  have := merge_parts W (u1 := u1) (u2 := u2) (v1 := [y]) (v2 := []) (w1 := u1 ++ [y]) (w2 := u2) hu (Srt.one y) (by simp) (by simpa using h2) (Stab.refl _) (by rw [List.append_nil]; exact Stab.refl _) (Srt.append.2 ⟨o1, Srt.one y, by simpa using h1⟩) o2
  simpa using this
end Go.St

/-
  Tables of rules, plainly.
-/
set_option linter.unusedSimpArgs false
set_option linter.unusedVariables false
namespace Go.St

def ruleLt (a b : Rule) : Bool := decide (a.ver < b.ver ∨ (a.ver = b.ver ∧ a.flow < b.flow))
theorem ruleLt_iff {a b : Rule} : ruleLt a b = true ↔ a.ver < b.ver ∨ (a.ver = b.ver ∧ a.flow < b.flow) := by simp [ruleLt]
theorem ruleLt_not {a b : Rule} : ruleLt a b = false ↔ b.ver < a.ver ∨ (a.ver = b.ver ∧ b.flow ≤ a.flow) := by
  simp only [ruleLt, decide_eq_false_iff_not]; omega
theorem ruleLt_weak : Weak ruleLt where
  irr a := by rw [ruleLt_not]; omega
  tra h g := by rw [ruleLt_iff] at *; omega
  neg h g := by rw [ruleLt_not] at *; omega

/-- the code's comparison -/
def cmpI (x y : Int) : Int := if x < y then -1 else if y < x then 1 else 0
def orderOf (a b : Rule) : Int := if cmpI a.ver b.ver ≠ 0 then cmpI a.ver b.ver else cmpI a.flow b.flow
theorem orderOf_lt (a b : Rule) : orderOf a b < 0 ↔ ruleLt a b = true := by
  rw [ruleLt_iff]; unfold orderOf cmpI
  by_cases h1 : a.ver < b.ver
  · rw [if_pos h1, if_pos (by decide)]; omega
  by_cases h2 : b.ver < a.ver
  · rw [if_neg h1, if_pos h2, if_pos (by decide)]; omega
  rw [if_neg h1, if_neg h2, if_neg (by decide)]
  by_cases h3 : a.flow < b.flow
  · rw [if_pos h3]; omega
  by_cases h4 : b.flow < a.flow
  · rw [if_neg h3, if_pos h4]; omega
  · rw [if_neg h3, if_neg h4]; omega
theorem orderOf_in (a b : Rule) : orderOf a b = -1 ∨ orderOf a b = 0 ∨ orderOf a b = 1 := by
  unfold orderOf cmpI
  repeat' split
  all_goals first | omega | simp_all

def ruleOut (r : Rule) : Prop := r.ver < 1 ∨ 1000 < r.ver ∨ r.flow < 0 ∨ 12 ≤ r.flow ∨ r.next < 0 ∨ 8 ≤ r.next
instance (r : Rule) : Decidable (ruleOut r) := by unfold ruleOut; infer_instance
/-- what is wrong from a rule on, with the one ahead of it -/
def tabGo : Int → Option Rule → List Rule → Int × Int
  | _, _, [] => (0, 0)
  | i, p, r :: l => if ruleOut r then (3, i) else if p.any (fun q => !ruleLt q r) = true then (2, i) else tabGo (i + 1) (some r) l
def tabWrong (l : List Rule) : Int × Int := if 16 < l.length then (10, 0) else tabGo 0 none l
def prevOf (l : List Rule) : Nat → Option Rule
  | 0 => none
  | j + 1 => l[j]?
theorem tab_step {l : List Rule} {j : Nat} {R : Int × Int} {r : Rule} (h : R = tabGo j (prevOf l j) (l.drop j)) (hr : l[j]? = some r) :
    R = if ruleOut r then (3, (j : Int)) else if (prevOf l j).any (fun q => !ruleLt q r) = true then (2, (j : Int)) else tabGo ((j + 1 : Nat) : Int) (prevOf l (j + 1)) (l.drop (j + 1)) := by
  obtain ⟨hj, rfl⟩ := List.getElem?_eq_some_iff.1 hr
  rw [h, List.drop_eq_getElem_cons hj, tabGo]
  simp only [prevOf, List.getElem?_eq_getElem hj]
  rfl
theorem tab_end {l : List Rule} {j : Nat} {R : Int × Int} (h : R = tabGo j (prevOf l j) (l.drop j)) (hj : l.length ≤ j) : R = (0, 0) := by
  rw [h, List.drop_of_length_le hj]; rfl

/-- right tables -/
structure TabOk (l : List Rule) : Prop where
  len : l.length ≤ 16
  rg : ∀ r ∈ l, ¬ ruleOut r
  up : l.Pairwise fun a b => ruleLt a b = true
theorem tabGo_zero : ∀ {l : List Rule} {i : Int} {p : Option Rule}, 0 ≤ i → ((tabGo i p l).1 = 0 ↔ (∀ r ∈ l, ¬ ruleOut r) ∧ (p.toList ++ l).Pairwise (fun a b => ruleLt a b = true))
  | [], i, p, _ => by cases p <;> simp [tabGo]
  | r :: l, i, p, hi => by
    rw [tabGo]
    by_cases h1 : ruleOut r
    · rw [if_pos h1]
      constructor
      · intro h; exact absurd (show (3 : Int) = 0 from h) (by decide)
      · intro h; exact absurd h1 (h.1 r (by simp))
    rw [if_neg h1]
    by_cases h2 : p.any (fun q => !ruleLt q r) = true
    · rw [if_pos h2]
      constructor
      · intro h; exact absurd (show (2 : Int) = 0 from h) (by decide)
      · rintro ⟨_, h⟩
        cases p with
        | none => simp at h2
        | some q =>
          have := (List.pairwise_cons.1 h).1 r (by simp)
          simp [this] at h2
    rw [if_neg h2, tabGo_zero (by omega)]
    have e0 : (∀ x ∈ r :: l, ¬ ruleOut x) ↔ ∀ x ∈ l, ¬ ruleOut x := by simp [h1]
    rw [e0]
    refine and_congr Iff.rfl ?_
    cases p with
    | none => simp
    | some q =>
      have hq : ruleLt q r = true := by simpa using h2
      simp only [Option.toList_some, List.cons_append, List.nil_append]
      constructor
      · intro h
        refine List.pairwise_cons.2 ⟨fun x hx => ?_, h⟩
        rcases List.mem_cons.1 hx with rfl | hx
        · exact hq
        · exact ruleLt_weak.tra hq ((List.pairwise_cons.1 h).1 x hx)
      · intro h; exact (List.pairwise_cons.1 h).2
theorem tab_ok {l : List Rule} : (tabWrong l).1 = 0 ↔ TabOk l := by
  unfold tabWrong
  by_cases h : 16 < l.length
  · rw [if_pos h]
    exact ⟨fun h => absurd h (by decide), fun g => by have := g.len; omega⟩
  · rw [if_neg h, tabGo_zero (by omega)]
    exact ⟨fun g => ⟨by omega, g.1, by simpa using g.2⟩, fun g => ⟨g.rg, by simpa using g.up⟩⟩

def nextOf (l : List Rule) (v f : Int) : Int × Bool := match l.find? (fun r => r.ver == v && r.flow == f) with
  | some r => (r.next, true)
  | none => (0, false)
theorem next_step {l : List Rule} {v f : Int} {j : Nat} {R : Int × Bool} {r : Rule} (h : R = nextOf (l.drop j) v f) (hr : l[j]? = some r) :
    R = if r.ver = v ∧ r.flow = f then (r.next, true) else nextOf (l.drop (j + 1)) v f := by
  obtain ⟨hj, rfl⟩ := List.getElem?_eq_some_iff.1 hr
  rw [h, List.drop_eq_getElem_cons hj]
  by_cases hc : l[j].ver = v ∧ l[j].flow = f
  · rw [if_pos hc]; unfold nextOf; rw [List.find?_cons_of_pos (by simp [hc.1, hc.2])]
  · rw [if_neg hc]; unfold nextOf; rw [List.find?_cons_of_neg (by simpa using hc)]
theorem next_end {l : List Rule} {v f : Int} {j : Nat} {R : Int × Bool} (h : R = nextOf (l.drop j) v f) (hj : l.length ≤ j) : R = (0, false) := by
  rw [h, List.drop_of_length_le hj]; rfl

def dropOf (l : List Rule) (v : Int) : List Rule := l.filter fun r => r.ver != v
theorem dropOf_ok {l : List Rule} (h : TabOk l) (v : Int) : TabOk (dropOf l v) :=
  ⟨Nat.le_trans (List.length_filter_le _ _) h.len, fun r hr => h.rg r (List.mem_filter.1 hr).1, h.up.filter _⟩
theorem next_drop_same (l : List Rule) (v f : Int) : nextOf (dropOf l v) v f = (0, false) := by
  unfold nextOf
  rw [show (dropOf l v).find? (fun r => r.ver == v && r.flow == f) = none from by
    rw [List.find?_eq_none]
    intro r hr
    have := (List.mem_filter.1 hr).2
    simp at this
    simp [this]]
theorem next_drop_other {l : List Rule} {v o f : Int} (h : o ≠ v) : nextOf (dropOf l v) o f = nextOf l o f := by
  unfold nextOf
  have : (dropOf l v).find? (fun r => r.ver == o && r.flow == f) = l.find? (fun r => r.ver == o && r.flow == f) := by
    unfold dropOf
    rw [List.find?_filter]
    congr 1
    funext r
    by_cases h1 : r.ver = o
    · subst h1; simp [h]; rfl
    · simp [h1]
  rw [this]
end Go.St

/-
  More rules in a table, plainly.
-/
set_option linter.unusedSimpArgs false
set_option linter.unusedVariables false
namespace Go.St

/-- what differs from the one ahead of it -/
def compGo : Rule → List Rule → List Rule
  | _, [] => []
  | p, r :: l => if r = p then compGo r l else r :: compGo r l
def comp : List Rule → List Rule
  | [] => []
  | r :: l => r :: compGo r l
theorem compGo_sub : ∀ (l : List Rule) (p : Rule), (compGo p l).Sublist l
  | [], _ => List.Sublist.slnil
  | r :: l, p => by
    rw [compGo]; split
    · exact (compGo_sub l r).cons r
    · exact (compGo_sub l r).cons_cons r
theorem comp_sub : ∀ l : List Rule, (comp l).Sublist l
  | [] => List.Sublist.slnil
  | r :: l => (compGo_sub l r).cons_cons r
theorem compGo_mem : ∀ (l : List Rule) (p x : Rule), x ∈ l → x = p ∨ x ∈ compGo p l
  | [], _, _, h => by simp at h
  | r :: l, p, x, h => by
    rw [compGo]
    rcases List.mem_cons.1 h with rfl | h
    · by_cases e : x = p
      · exact .inl e
      · rw [if_neg e]; exact .inr (by simp)
    · rcases compGo_mem l r x h with rfl | h'
      · by_cases e : x = p
        · exact .inl e
        · rw [if_neg e]; exact .inr (by simp)
      · right; split
        · exact h'
        · exact List.mem_cons_of_mem _ h'
theorem comp_mem (l : List Rule) (x : Rule) : x ∈ comp l ↔ x ∈ l := by
  constructor
  · exact fun h => (comp_sub l).subset h
  · intro h
    cases l with
    | nil => simp at h
    | cons r l =>
      rcases List.mem_cons.1 h with rfl | h
      · simp [comp]
      · rcases compGo_mem l r x h with rfl | h'
        · simp [comp]
        · exact List.mem_cons_of_mem _ h'
/-- sorted, and alike in each class: then it rises -/
theorem compGo_up : ∀ (l : List Rule) (p : Rule), Srt ruleLt (p :: l) → (∀ a ∈ p :: l, ∀ b ∈ p :: l, ruleLt a b = false → ruleLt b a = false → a = b) → (p :: compGo p l).Pairwise (fun a b => ruleLt a b = true)
  | [], p, _, _ => by simp [compGo]
  | r :: l, p, h, hc => by
    obtain ⟨h1, h2⟩ := List.pairwise_cons.1 h
    have ih := compGo_up l r h2 fun a ha b hb => hc a (List.mem_cons_of_mem _ ha) b (List.mem_cons_of_mem _ hb)
    rw [compGo]
    by_cases e : r = p
    · rw [if_pos e]; subst e; exact ih
    · rw [if_neg e]
      have hpr : ruleLt p r = true := by
        cases hh : ruleLt p r with
        | true => rfl
        | false => exact absurd (hc r (by simp) p (by simp) (h1 r (by simp)) hh) e
      refine List.pairwise_cons.2 ⟨fun x hx => ?_, ih⟩
      rcases List.mem_cons.1 hx with rfl | hx
      · exact hpr
      · exact ruleLt_weak.tra hpr ((List.pairwise_cons.1 ih).1 x hx)
theorem comp_up (l : List Rule) (h : Srt ruleLt l) (hc : ∀ a ∈ l, ∀ b ∈ l, ruleLt a b = false → ruleLt b a = false → a = b) : (comp l).Pairwise (fun a b => ruleLt a b = true) := by
  cases l with
  | nil => exact List.Pairwise.nil
  | cons r l => exact compGo_up l r h hc

def outOf (l more : List Rule) : List Rule := comp (ssort ruleLt (l ++ more))
def addOf (l more : List Rule) : List Rule × Int :=
  if (tabWrong l).1 ≠ 0 then ([], (tabWrong l).1) else if (tabWrong (outOf l more)).1 ≠ 0 then ([], (tabWrong (outOf l more)).1) else (outOf l more, 0)
theorem add_bad {l more : List Rule} (h : (addOf l more).2 ≠ 0) : (addOf l more).1 = [] := by
  unfold addOf at *
  by_cases h1 : (tabWrong l).1 ≠ 0
  · rw [if_pos h1]
  rw [if_neg h1] at h ⊢
  by_cases h2 : (tabWrong (outOf l more)).1 ≠ 0
  · rw [if_pos h2]
  · rw [if_neg h2] at h; exact absurd rfl h
theorem add_good {l more : List Rule} (h : (addOf l more).2 = 0) : (addOf l more).1 = outOf l more ∧ TabOk l ∧ TabOk (outOf l more) := by
  unfold addOf at *
  by_cases h1 : (tabWrong l).1 ≠ 0
  · rw [if_pos h1] at h; exact absurd h h1
  rw [if_neg h1] at h ⊢
  by_cases h2 : (tabWrong (outOf l more)).1 ≠ 0
  · rw [if_pos h2] at h; exact absurd h h2
  · rw [if_neg h2]; exact ⟨rfl, tab_ok.1 (by simpa using h1), tab_ok.1 (by simpa using h2)⟩
theorem out_mem (l more : List Rule) (x : Rule) : x ∈ outOf l more ↔ x ∈ l ∨ x ∈ more := by
  unfold outOf
  rw [comp_mem, (ssort_stab ruleLt_weak (l ++ more)).mem ruleLt_weak, List.mem_append]
theorem out_len (l more : List Rule) : (outOf l more).length ≤ l.length + more.length := by
  have h1 := (comp_sub (ssort ruleLt (l ++ more))).length_le
  have h2 : ∀ (xs s : List Rule), (xs.foldl (fun s x => ins ruleLt x s) s).length = s.length + xs.length := by
    have hi : ∀ (x : Rule) (s : List Rule), (ins ruleLt x s).length = s.length + 1 := by
      intro x s
      induction s with
      | nil => rfl
      | cons y ys ih => unfold ins; split <;> simp [ih]
    intro xs
    induction xs with
    | nil => intro s; rfl
    | cons x xs ih => intro s; rw [List.foldl_cons, ih, hi]; simp; omega
  have h3 : (ssort ruleLt (l ++ more)).length = (l ++ more).length := by unfold ssort; rw [h2]; simp
  rw [h3, List.length_append] at h1
  exact h1
/-- one of each class alone -/
theorem up_one {m : List Rule} (h : m.Pairwise fun a b => ruleLt a b = true) {a b : Rule} (ha : a ∈ m) (hb : b ∈ m) (h1 : ruleLt a b = false) (h2 : ruleLt b a = false) : a = b := by
  induction m with
  | nil => simp at ha
  | cons x m ih =>
    obtain ⟨g1, g2⟩ := List.pairwise_cons.1 h
    rcases List.mem_cons.1 ha with ea | ha' <;> rcases List.mem_cons.1 hb with eb | hb'
    · rw [ea, eb]
    · rw [ea, g1 b hb'] at h1; exact absurd h1 (by decide)
    · rw [eb, g1 a ha'] at h2; exact absurd h2 (by decide)
    · exact ih g2 ha' hb'
theorem up_next {m : List Rule} (h : m.Pairwise fun a b => ruleLt a b = true) {r : Rule} (hr : r ∈ m) : nextOf m r.ver r.flow = (r.next, true) := by
  unfold nextOf
  cases hf : m.find? (fun x => x.ver == r.ver && x.flow == r.flow) with
  | none =>
    have := List.find?_eq_none.1 hf r hr
    simp at this
  | some x =>
    have h1 := List.find?_some hf
    have h2 := List.mem_of_find?_eq_some hf
    simp at h1
    have : x = r := up_one h h2 hr (by rw [ruleLt_not]; omega) (by rw [ruleLt_not]; omega)
    subst this; rfl
/-- two that rise, with the same members, are one -/
theorem up_ext : ∀ {a b : List Rule}, a.Pairwise (fun x y => ruleLt x y = true) → b.Pairwise (fun x y => ruleLt x y = true) → (∀ x, x ∈ a ↔ x ∈ b) → a = b
  | [], b, _, _, h => by
    cases b with
    | nil => rfl
    | cons y b => exact absurd ((h y).2 (by simp)) (by simp)
  | x :: a, b, h1, h2, h => by
    cases b with
    | nil => exact absurd ((h x).1 (by simp)) (by simp)
    | cons y b =>
      obtain ⟨a1, a2⟩ := List.pairwise_cons.1 h1
      obtain ⟨b1, b2⟩ := List.pairwise_cons.1 h2
      have e : x = y := by
        rcases List.mem_cons.1 ((h x).1 (by simp)) with e | hx
        · exact e
        rcases List.mem_cons.1 ((h y).2 (by simp)) with e | hy
        · exact e.symm
        have g1 := b1 x hx
        have g2 := ruleLt_weak.tra g1 (a1 y hy)
        rw [ruleLt_weak.irr] at g2; exact absurd g2 (by decide)
      subst e
      congr 1
      refine up_ext a2 b2 fun z => ?_
      have hz := h z
      simp only [List.mem_cons] at hz
      constructor
      · intro hza
        rcases hz.1 (.inr hza) with rfl | hzb
        · have := a1 z hza; rw [ruleLt_weak.irr] at this; exact absurd this (by decide)
        · exact hzb
      · intro hzb
        rcases hz.2 (.inr hzb) with rfl | hza
        · have := b1 z hzb; rw [ruleLt_weak.irr] at this; exact absurd this (by decide)
        · exact hza
/-- added again it is the same -/
theorem add_again {l more : List Rule} (h : (addOf l more).2 = 0) : addOf (outOf l more) more = (outOf l more, 0) := by
  obtain ⟨_, _, hm⟩ := add_good h
  have e : outOf (outOf l more) more = outOf l more := by
    refine up_ext (comp_up _ (ssort_srt ruleLt_weak _) fun a ha b hb h1 h2 => ?_) hm.up fun x => ?_
    · have hs : ∀ x, x ∈ ssort ruleLt (outOf l more ++ more) → x ∈ outOf l more := fun x hx => by
        rw [(ssort_stab ruleLt_weak _).mem ruleLt_weak, List.mem_append] at hx
        rcases hx with hx | hx
        · exact hx
        · exact (out_mem l more x).2 (.inr hx)
      exact up_one hm.up (hs a ha) (hs b hb) h1 h2
    · rw [out_mem, out_mem]
      constructor
      · rintro (h | h)
        · exact h
        · exact .inr h
      · intro h; exact .inl h
  have z := tab_ok.2 hm
  unfold addOf
  rw [e, if_neg (by simp [z]), if_neg (by simp [z])]
end Go.St

/-
  Sorting by blocks, plainly.
-/
set_option linter.unusedSimpArgs false
set_option linter.unusedVariables false
namespace Go.St
variable {α : Type} {lt : α → α → Bool}

/-- sorted blocks of k, the last one perhaps shorter -/
inductive Bk (lt : α → α → Bool) (k : Nat) : List α → Prop
  | last {l : List α} : l.length ≤ k → Srt lt l → Bk lt k l
  | cons {u v : List α} : u.length = k → Srt lt u → Bk lt k v → Bk lt k (u ++ v)
/-- whole blocks alone -/
inductive BkF (lt : α → α → Bool) (k : Nat) : List α → Prop
  | nil : BkF lt k []
  | snoc {u v : List α} : BkF lt k u → v.length = k → Srt lt v → BkF lt k (u ++ v)
theorem BkF.to {k : Nat} {u : List α} (h : BkF lt k u) : ∀ {v : List α}, Bk lt k v → Bk lt k (u ++ v) := by
  induction h with
  | nil => intro v h; exact h
  | snoc _ h2 h3 ih => intro v h; rw [List.append_assoc]; exact ih (.cons h2 h3 h)
theorem Bk.two {k : Nat} (hk : 0 < k) {r : List α} (h : Bk lt k r) (hl : 2 * k ≤ r.length) : ∃ u v s, r = u ++ (v ++ s) ∧ u.length = k ∧ v.length = k ∧ Srt lt u ∧ Srt lt v ∧ Bk lt k s := by
  cases h with
  | last h1 h2 => omega
  | cons h1 h2 h3 =>
    rename_i u v
    rw [List.length_append] at hl
    cases h3 with
    | last g1 g2 => exact ⟨u, v, [], by simp, h1, by omega, h2, g2, .last (Nat.zero_le _) Srt.nil⟩
    | cons g1 g2 g3 => exact ⟨u, _, _, rfl, h1, g1, h2, g2, g3⟩
theorem Bk.rest {k : Nat} {r : List α} (h : Bk lt k r) (hl : r.length < 2 * k) (hl2 : k < r.length) : ∃ u v, r = u ++ v ∧ u.length = k ∧ Srt lt u ∧ Srt lt v := by
  cases h with
  | last h1 h2 => omega
  | cons h1 h2 h3 =>
    rename_i u v
    rw [List.length_append] at hl
    cases h3 with
    | last g1 g2 => exact ⟨u, v, rfl, h1, h2, g2⟩
    | cons g1 g2 g3 => rw [List.length_append] at hl; omega
theorem Bk.one {k : Nat} {r : List α} (h : Bk lt k r) (hl : r.length ≤ k) : Srt lt r := by
  cases h with
  | last h1 h2 => exact h2
  | cons h1 h2 h3 =>
    rename_i u v
    rw [List.length_append] at hl
    obtain rfl : v = [] := List.eq_nil_of_length_eq_zero (by omega)
    rw [List.append_nil]; exact h2

/-- blocks of twenty: as far as a -/
def StI (lt : α → α → Bool) (xs : List α) (a : Nat) (ys : List α) : Prop := ∃ d r, ys = d ++ r ∧ xs = xs.take a ++ r ∧ d.length = a ∧ BkF lt 20 d ∧ Stab lt (xs.take a) d
theorem StI.zero (xs : List α) : StI lt xs 0 xs := ⟨[], xs, rfl, by simp, rfl, .nil, Stab.refl _⟩
theorem StI.len {xs ys : List α} {a : Nat} (h : StI lt xs a ys) (ha : a ≤ xs.length) : ys.length = xs.length := by
  obtain ⟨d, r, rfl, h2, h3, _⟩ := h
  have := congrArg List.length h2
  simp only [List.length_append, List.length_take] at *; omega
theorem StI.parts {xs ys : List α} {a : Nat} (h : StI lt xs a ys) {b : Nat} (hab : a ≤ b) (hb : b ≤ xs.length) : ∃ p u s, ys = p ++ (u ++ s) ∧ p.length = a ∧ a + u.length = b ∧ (∀ v, v.length = u.length → Srt lt v → Stab lt u v → b = a + 20 → StI lt xs b (p ++ (v ++ s))) ∧
    (∀ v, v.length = u.length → Srt lt v → Stab lt u v → b < a + 20 → b = xs.length → Bk lt 20 (p ++ (v ++ s)) ∧ Stab lt xs (p ++ (v ++ s))) := by
  obtain ⟨d, r, rfl, h2, h3, h4, h5⟩ := h
  have hr : a + r.length = xs.length := by have := congrArg List.length h2; simp only [List.length_append, List.length_take] at this; omega
  have hrd : r = xs.drop a := by
    have h6 : xs.take a ++ xs.drop a = xs.take a ++ r := by rw [List.take_append_drop]; exact h2
    exact (List.append_cancel_left h6).symm
  refine ⟨d, r.take (b - a), r.drop (b - a), by rw [List.take_append_drop], h3, by simp; omega, ?_, ?_⟩
  · intro v hv hs hst hba
    have ht : xs.take b = xs.take a ++ r.take (b - a) := by
      rw [hrd, ← List.take_add]; congr 1; omega
    refine ⟨d ++ v, r.drop (b - a), by rw [List.append_assoc], ?_, ?_, h4.snoc ?_ hs, ?_⟩
    · rw [ht, List.append_assoc, List.take_append_drop]; exact h2
    · rw [List.length_append, hv]; simp; omega
    · rw [hv]; simp; omega
    · rw [ht]; exact h5.append hst
  · intro v hv hs hst hba hbn
    have hd : r.drop (b - a) = [] := List.drop_of_length_le (by omega)
    have htk : r.take (b - a) = r := List.take_of_length_le (by omega)
    rw [hd, List.append_nil]
    rw [htk] at hst hv
    refine ⟨h4.to (.last (by omega) hs), ?_⟩
    rw [h2]; exact h5.append hst

/-- merged as far as a, to blocks of twice the size -/
def StM (lt : α → α → Bool) (xs : List α) (k a : Nat) (ys : List α) : Prop := ∃ d r, ys = d ++ r ∧ d.length = a ∧ BkF lt (2 * k) d ∧ Bk lt k r ∧ Stab lt xs ys
theorem StM.zero {xs ys : List α} {k : Nat} (h : Bk lt k ys) (hs : Stab lt xs ys) : StM lt xs k 0 ys := ⟨[], ys, rfl, rfl, .nil, h, hs⟩
theorem StM.two {xs ys : List α} {k a : Nat} (h : StM lt xs k a ys) (hk : 0 < k) (hl : a + 2 * k ≤ ys.length) : ∃ p u v s, ys = p ++ (u ++ (v ++ s)) ∧ p.length = a ∧ u.length = k ∧ v.length = k ∧ Srt lt u ∧ Srt lt v ∧
    (∀ z, z.length = u.length + v.length → Srt lt z → Stab lt (u ++ v) z → StM lt xs k (a + 2 * k) (p ++ (z ++ s))) := by
  obtain ⟨d, r, rfl, h2, h3, h4, h5⟩ := h
  rw [List.length_append] at hl
  obtain ⟨u, v, s, rfl, g1, g2, g3, g4, g5⟩ := h4.two hk (by omega)
  refine ⟨d, u, v, s, rfl, h2, g1, g2, g3, g4, fun z z1 z2 z3 => ⟨d ++ z, s, by rw [List.append_assoc], by rw [List.length_append]; omega, h3.snoc (by omega) z2, g5, ?_⟩⟩
  refine h5.trans ?_
  have := Stab.mid z3 d s
  simpa only [List.append_assoc] using this
theorem StM.last {xs ys : List α} {k a : Nat} (h : StM lt xs k a ys) (hl : ys.length < a + 2 * k) (hl2 : a + k < ys.length) : ∃ p u v, ys = p ++ (u ++ (v ++ [])) ∧ p.length = a ∧ u.length = k ∧ Srt lt u ∧ Srt lt v ∧
    (∀ z, z.length = u.length + v.length → Srt lt z → Stab lt (u ++ v) z → Bk lt (2 * k) (p ++ (z ++ [])) ∧ Stab lt xs (p ++ (z ++ []))) := by
  obtain ⟨d, r, rfl, h2, h3, h4, h5⟩ := h
  rw [List.length_append] at hl hl2
  obtain ⟨u, v, rfl, g1, g2, g3⟩ := h4.rest (by omega) (by omega)
  refine ⟨d, u, v, by simp, h2, g1, g2, g3, fun z z1 z2 z3 => ?_⟩
  rw [List.length_append] at hl
  rw [List.append_nil]
  refine ⟨h3.to (.last (by omega) z2), h5.trans ((Stab.refl d).append z3)⟩
theorem StM.none {xs ys : List α} {k a : Nat} (h : StM lt xs k a ys) (hl : ys.length ≤ a + k) : Bk lt (2 * k) ys ∧ Stab lt xs ys := by
  obtain ⟨d, r, rfl, h2, h3, h4, h5⟩ := h
  rw [List.length_append] at hl
  exact ⟨h3.to (.last (by omega) (h4.one (by omega))), h5⟩
theorem Bk.done (W : Weak lt) {xs ys : List α} {k : Nat} (h : Bk lt k ys) (hs : Stab lt xs ys) (hl : ys.length ≤ k) : ys = ssort lt xs := ssort_eq W hs (h.one hl)
/-- lengths stay -/
theorem ins_len (x : α) : ∀ s : List α, (ins lt x s).length = s.length + 1
  | [] => rfl
  | y :: ys => by unfold ins; split <;> simp [ins_len x ys]
theorem ssort_len (xs : List α) : (ssort lt xs).length = xs.length := by
  have : ∀ (l s : List α), (l.foldl (fun s x => ins lt x s) s).length = s.length + l.length := by
    intro l
    induction l with
    | nil => intro s; rfl
    | cons x xs ih => intro s; rw [List.foldl_cons, ih, ins_len]; simp; omega
  unfold ssort; rw [this]; simp
end Go.St

/-
  What is deleted from a row, plainly.
-/
set_option linter.unusedSimpArgs false
set_option linter.unusedVariables false
namespace Go.St
variable {α : Type}
/-- the loop of DeleteFunc: what is kept, then what was there -/
def Del (p : α → Bool) (xs : List α) (m kk : Nat) (zs : List α) : Prop := zs.take kk = (xs.take m).filter (fun x => !p x) ∧ kk < m ∧ zs.length = xs.length ∧ ∀ i, kk ≤ i → zs[i]? = xs[i]?
theorem Del.start {p : α → Bool} {xs : List α} {k : Nat} {x : α} (h : ∀ y ∈ xs.take k, p y = false) (hx : xs[k]? = some x) (hp : p x = true) : Del p xs (k + 1) k xs := by
  refine ⟨?_, by omega, rfl, fun _ _ => rfl⟩
  rw [List.take_add_one, hx, List.filter_append, List.filter_eq_self.2 (fun y hy => by simp [h y hy])]
  simp [hp]
theorem Del.skip {p : α → Bool} {xs zs : List α} {m kk : Nat} {x : α} (h : Del p xs m kk zs) (hx : xs[m]? = some x) (hp : p x = true) : Del p xs (m + 1) kk zs := by
  obtain ⟨h1, h2, h3, h4⟩ := h
  refine ⟨?_, by omega, h3, h4⟩
  rw [List.take_add_one, hx, List.filter_append, ← h1]; simp [hp]
theorem Del.keep {p : α → Bool} {xs zs : List α} {m kk : Nat} {x : α} (h : Del p xs m kk zs) (hx : xs[m]? = some x) (hp : p x = false) : Del p xs (m + 1) (kk + 1) (zs.set kk x) := by
  obtain ⟨h1, h2, h3, h4⟩ := h
  have hm := (List.getElem?_eq_some_iff.1 hx).1
  refine ⟨?_, by omega, by simpa using h3, fun i hi => ?_⟩
  · rw [List.take_add_one, List.getElem?_set_self (by omega), List.take_set_of_le (Nat.le_refl _), h1, List.take_add_one, hx, List.filter_append]; simp [hp]
  · rw [List.getElem?_set_ne (by omega)]; exact h4 i (by omega)
theorem Del.done {p : α → Bool} {xs zs : List α} {m kk : Nat} (h : Del p xs m kk zs) (hm : xs.length ≤ m) (hk : kk ≤ xs.length) : zs.take kk = xs.filter (fun x => !p x) ∧ (xs.filter (fun x => !p x)).length = kk := by
  have h1 := h.1
  rw [List.take_of_length_le hm] at h1
  exact ⟨h1, by rw [← h1, List.length_take, h.2.2.1]; omega⟩
theorem none_step {p : α → Bool} {xs : List α} {k : Nat} {x : α} (h : ∀ y ∈ xs.take k, p y = false) (hx : xs[k]? = some x) (hp : p x = false) : ∀ y ∈ xs.take (k + 1), p y = false := by
  intro y hy
  rw [List.take_add_one, hx] at hy
  rcases List.mem_append.1 hy with hy | hy
  · exact h y hy
  · simp at hy; rw [hy]; exact hp
theorem none_end {p : α → Bool} {xs : List α} {k : Nat} (h : ∀ y ∈ xs.take k, p y = false) (hk : xs.length ≤ k) : xs.filter (fun x => !p x) = xs := by
  rw [List.take_of_length_le hk] at h
  exact List.filter_eq_self.2 fun y hy => by simp [h y hy]
theorem dropOf_eq (l : List Rule) (v : Int) : dropOf l v = l.filter (fun x => !(x.ver == v)) := rfl
end Go.St

/-
  A row of rules in a block of its own, that is turned in place.
-/
set_option linter.unusedSimpArgs false
set_option linter.unusedVariables false
namespace Go.St
open Go.RowKit

def encR (r : Rule) : List Value := [.int .i64 r.ver, .int .i64 r.flow, .int .i64 r.next]
def cellsR (xs : List Rule) : List Value := xs.flatMap encR
def RI (r : Rule) : Prop := I64 r.ver ∧ I64 r.flow ∧ I64 r.next
theorem cellsR_len (xs : List Rule) : (cellsR xs).length = xs.length * 3 := by
  unfold cellsR
  induction xs with
  | nil => rfl
  | cons x xs ih => simp only [List.flatMap_cons, List.length_append, ih, List.length_cons, encR, List.length_nil]; omega
theorem cellsR_get {junk : List Value} : ∀ {xs : List Rule} {i : Nat} {r : Rule}, xs[i]? = some r → ∀ k, k < 3 → (cellsR xs ++ junk)[i * 3 + k]? = (encR r)[k]?
  | [], i, r, h, _, _ => by simp at h
  | x :: xs, 0, r, h, k, hk => by
    obtain rfl : x = r := by simpa using h
    simp only [cellsR, List.flatMap_cons, Nat.zero_mul, Nat.zero_add]
    rw [List.append_assoc, List.getElem?_append_left (by simp [encR]; omega)]
  | x :: xs, i + 1, r, h, k, hk => by
    have h' : xs[i]? = some r := by simpa using h
    have := cellsR_get (junk := junk) h' k hk
    simp only [cellsR, List.flatMap_cons]
    rw [List.append_assoc, List.getElem?_append_right (by simp [encR]; omega)]
    rw [← this]
    congr 1
    simp [encR]; omega
theorem cellsR_set {junk : List Value} {r : Rule} : ∀ {xs : List Rule} {i : Nat}, i < xs.length →
    (((cellsR xs ++ junk).set (i * 3) (.int .i64 r.ver)).set (i * 3 + 1) (.int .i64 r.flow)).set (i * 3 + 2) (.int .i64 r.next) = cellsR (xs.set i r) ++ junk
  | [], i, h => by simp at h
  | x :: xs, 0, h => by simp [cellsR, encR]
  | x :: xs, i + 1, h => by
    have := cellsR_set (junk := junk) (r := r) (xs := xs) (i := i) (by simpa using h)
    have e : cellsR (x :: xs) ++ junk = .int .i64 x.ver :: .int .i64 x.flow :: .int .i64 x.next :: (cellsR xs ++ junk) := by simp [cellsR, encR]
    have e' : cellsR ((x :: xs).set (i + 1) r) ++ junk = .int .i64 x.ver :: .int .i64 x.flow :: .int .i64 x.next :: (cellsR (xs.set i r) ++ junk) := by simp [cellsR, encR]
    rw [e, e', ← this]
    rw [show (i + 1) * 3 = i * 3 + 1 + 1 + 1 by omega, show i * 3 + 1 + 1 + 1 + 1 = (i * 3 + 1) + 1 + 1 + 1 by omega, show i * 3 + 1 + 1 + 1 + 2 = (i * 3 + 2) + 1 + 1 + 1 by omega]
    simp only [List.set_cons_succ]

/-- the row: a block of its own, with cells behind it that nobody reads -/
structure RR (w : World) (g : Nat) (t : TypeId) (xs : List Rule) (junk : List Value) : Prop where
  blk : blockIs w g t (cellsR xs ++ junk).toArray
  rng : ∀ r ∈ xs, RI r

section
variable {w w' : World} {g : Nat} {t : TypeId} {xs : List Rule} {junk : List Value}
theorem RR.lt (h : RR w g t xs junk) : g < w.heap.size := h.blk.lt
theorem RR.frz (h : RR w g t xs junk) (o : Nat) : w.frozen? ⟨g, o, none⟩ = false := h.blk.cells.2 o
theorem RR.get (h : RR w g t xs junk) {i : Nat} {r : Rule} (hr : xs[i]? = some r) : w.cell? ⟨g, i * 3, none⟩ = some (.int .i64 r.ver) ∧ w.cell? ⟨g, i * 3 + 1, none⟩ = some (.int .i64 r.flow) ∧ w.cell? ⟨g, i * 3 + 2, none⟩ = some (.int .i64 r.next) := by
  have e := cellsR_get (junk := junk) hr
  have e0 := e 0 (by decide)
  have e1 := e 1 (by decide)
  have e2 := e 2 (by decide)
  refine ⟨?_, ?_, ?_⟩
  · rw [h.blk.cells.1]; simpa [encR] using e0
  · rw [h.blk.cells.1]; simpa [encR] using e1
  · rw [h.blk.cells.1]; simpa [encR] using e2
theorem RR.keep (h : RR w g t xs junk) (e : w'.heap[g]? = w.heap[g]?) : RR w' g t xs junk := ⟨h.blk.keep e, h.rng⟩
theorem RR.under (h : RR w g t xs junk) (hb : Below w.heap.size w w') : RR w' g t xs junk := ⟨h.blk.under hb, h.rng⟩
theorem RR.alloc (h : RR w g t xs junk) (o : Obj) : RR (w.alloc o) g t xs junk := ⟨h.blk.alloc o, h.rng⟩
theorem RR.put (h : RR w g t xs junk) {i : Nat} (hi : i < xs.length) {r : Rule} (hr : RI r) :
    RR (((w.setCell ⟨g, i * 3, none⟩ (.int .i64 r.ver)).setCell ⟨g, i * 3 + 1, none⟩ (.int .i64 r.flow)).setCell ⟨g, i * 3 + 2, none⟩ (.int .i64 r.next)) g t (xs.set i r) junk := by
  refine ⟨?_, fun x hx => ?_⟩
  · have := ((h.blk.set (i * 3) (.int .i64 r.ver)).set (i * 3 + 1) (.int .i64 r.flow)).set (i * 3 + 2) (.int .i64 r.next)
    rw [← cellsR_set hi]
    simpa using this
  · rcases List.mem_or_eq_of_mem_set hx with hx | rfl
    · exact h.rng x hx
    · exact hr
theorem RR.drew (h : RR w g t xs junk) : RR w.drew g t xs junk := ⟨h.blk.drew, h.rng⟩
/-- six cells written, one rule behind the other -/
def put2 (w : World) (g i j : Nat) (y x : Rule) : World :=
  (((((w.setCell ⟨g, i * 3, none⟩ (.int .i64 y.ver)).setCell ⟨g, i * 3 + 1, none⟩ (.int .i64 y.flow)).setCell ⟨g, i * 3 + 2, none⟩ (.int .i64 y.next)).setCell ⟨g, j * 3, none⟩ (.int .i64 x.ver)).setCell ⟨g, j * 3 + 1, none⟩ (.int .i64 x.flow)).setCell ⟨g, j * 3 + 2, none⟩ (.int .i64 x.next)
theorem RR.swap (h : RR w g t xs junk) {i j : Nat} (hi : i < xs.length) (hj : j < xs.length) {x y : Rule} (hx : RI x) (hy : RI y) : RR (put2 w g i j y x).drew g t ((xs.set i y).set j x) junk :=
  ((h.put hi hy).put (by simpa using hj) hx).drew
theorem RR.elem (h : RR w g t xs junk) {i : Nat} {r : Rule} (hr : xs[i]? = some r) : RI r := h.rng r (List.mem_of_getElem? hr)
end

/-- nothing but block g is turned -/
def Near (g : Nat) (w w' : World) : Prop := w.grownBy w' (some g)
theorem Near.refl (g : Nat) (w : World) : Near g w w := World.grownBy.refl _ _
theorem Near.trans {g : Nat} {a b c : World} (h : Near g a b) (k : Near g b c) : Near g a c :=
  ⟨k.os.trans h.os, k.tape.trans h.tape, k.output.trans h.output, Nat.le_trans h.size k.size, fun i hi hn => (k.block i (Nat.lt_of_lt_of_le hi h.size) hn).trans (h.block i hi hn)⟩
theorem Near.below {g : Nat} {a b : World} (h : Below a.heap.size a b) : Near g a b := ⟨h.os, h.tape, h.output, h.size, fun k hk _ => h.block k hk⟩
theorem Near.then {g : Nat} {a b c : World} (h : Near g a b) (k : Below b.heap.size b c) : Near g a c := h.trans (Near.below k)
theorem Near.set {g : Nat} {a b : World} (h : Near g a b) (o : Nat) (v : Value) : Near g a (b.setCell ⟨g, o, none⟩ v) :=
  h.trans ⟨rfl, rfl, rfl, by simp, fun k _ hn => Below.heap_setCell b ⟨g, o, none⟩ v k (fun e => hn (by rw [show k = g from e]))⟩
theorem Near.drew {g : Nat} {a b : World} (h : Near g a b) : Near g a b.drew := ⟨h.os, h.tape, h.output, h.size, h.block⟩
theorem Near.swap {g : Nat} {a b : World} (h : Near g a b) (i j : Nat) (y x : Rule) : Near g a (put2 b g i j y x).drew := (((((((h.set _ _).set _ _).set _ _).set _ _).set _ _).set _ _)).drew
theorem Near.to {g B : Nat} {w0 a b : World} (h : Near g a b) (hb : Below B w0 a) (hB : B ≤ a.heap.size) (hg : B ≤ g) : Below B w0 b := hb.grown h hB (fun k hk => by simp at hk; omega)

/-- exchanged -/
def swp (xs : List Rule) (i j : Nat) (x y : Rule) : List Rule := (xs.set i y).set j x
end Go.St

/-
  Rows of rules: from a row under append to one that is turned in place, and back; what is cleared; what finds room.
-/
set_option linter.unusedSimpArgs false
set_option linter.unusedVariables false
namespace Go.St
open Go.RowKit

theorem chunks_eq : ∀ (xs : List Rule) (cells : List Value), cells.length = xs.length * 3 → (∀ i x, xs[i]? = some x → chunk 3 cells i = encR x) → cells = cellsR xs
  | [], cells, hl, _ => List.eq_nil_of_length_eq_zero (by simpa using hl)
  | x :: xs, cells, hl, h => by
    have h0 := h 0 x rfl
    have h1 := chunks_eq xs (cells.drop 3) (by simp at hl ⊢; omega) fun i y hy => by
      have := h (i + 1) y (by simpa using hy)
      unfold chunk at *
      rw [List.drop_drop, show 3 + i * 3 = (i + 1) * 3 by omega]; exact this
    have e : cells = cells.take 3 ++ cells.drop 3 := (List.take_append_drop 3 cells).symm
    have e0 : cells.take 3 = encR x := by simpa [chunk] using h0
    rw [e, h1, e0]; rfl

/-- done growing: the row is turned in place from now on -/
theorem ownR.rr {e : TypeId} {ok : Nat → Prop} {base : Nat} {w : World} {g n cap : Nat} {xs : List Rule} (h : ownR ruleS e ok base w (some ⟨g, 0, none⟩) n cap xs) :
    ∃ junk, RR w g e xs junk ∧ base ≤ g ∧ n = xs.length ∧ n ≤ cap ∧ cap ≤ maxLen := by
  have hlt := h.lt g rfl
  obtain ⟨cells, ⟨h1, h2, h3, h4⟩, h5, h6, h7, h8⟩ := h
  rcases h4 with ⟨h4, _⟩ | ⟨g', cur, hg', hb, hg, hs, ht⟩
  · cases h4
  obtain rfl : g = g' := by simpa using hg'
  have hc : cells = cellsR xs := chunks_eq xs cells (by rw [h1, h5]; rfl) fun i x hx => (h6 i x hx).1
  refine ⟨cur.toList.drop (n * 3), ⟨?_, fun r hr => ?_⟩, hb, h5, h2, h3⟩
  · unfold blockIs
    rw [hg]
    have : cur = (cellsR xs ++ cur.toList.drop (n * 3)).toArray := by
      rw [← hc, ← ht]
      show cur = (cur.toList.take (n * 3) ++ cur.toList.drop (n * 3)).toArray
      rw [List.take_append_drop, Array.toArray_toList]
    rw [← this]
  · obtain ⟨i, hi⟩ := List.getElem?_of_mem hr
    exact (h6 i r hi).2

/-- a row as any other -/
theorem RR.row {w : World} {g : Nat} {t : TypeId} {xs : List Rule} {junk : List Value} (h : RR w g t xs junk) {cap : Nat} (h1 : xs.length ≤ cap) (h2 : cap ≤ maxLen) {ok : Nat → Prop} (hok : ok g) : rowRep ruleS ok w (some ⟨g, 0, none⟩) cap xs := by
  refine ⟨h1, h2, .inr ⟨g, 0, rfl, hok, h.lt, fun i x hx => ⟨_, ⟨rfl, h.elem hx⟩, fun j c hc => ?_⟩⟩⟩
  obtain ⟨e0, e1, e2⟩ := h.get hx
  simp only [ruleS, Nat.zero_add]
  match j, hc with
  | 0, hc => simp at hc; rw [← hc]; exact e0
  | 1, hc => simp at hc; rw [← hc]; exact e1
  | 2, hc => simp at hc; rw [← hc]; exact e2
  | j + 3, hc => simp at hc

theorem cellsR_take (xs : List Rule) (junk : List Value) {k : Nat} (hk : k ≤ xs.length) : (cellsR xs ++ junk).take (k * 3) = cellsR (xs.take k) := by
  rw [List.take_append_of_le_length (by rw [cellsR_len]; omega)]
  have e : cellsR xs = cellsR (xs.take k) ++ cellsR (xs.drop k) := by
    unfold cellsR; rw [← List.flatMap_append, List.take_append_drop]
  rw [e, List.take_append_of_le_length (by rw [cellsR_len]; simp; omega), List.take_of_length_le (by rw [cellsR_len]; simp; omega)]

/-- what lies behind is cleared -/
theorem run_clear_RR {P : Program} {w : World} {t e g n k : Nat} {zs : List Rule} {junk : List Value} (ht : P.underlying t = some (.slice e)) {i : TypeInfo} {z : Value} (hi : P.info? e = some i) (hz : i.zero = some z) (hzs : z.cells.size = 3) (h1 : ∀ v ∈ z.cells, v.oneCell' = true)
    (h : RR w g e zs junk) (hn : zs.length = n) (hk : k < n) : ∃ w', (∀ ty c, (Builtin.clear_ #[t] ty #[.slice (some ⟨g, k * 3, none⟩) (n - k) c]).run P w = .ok (.tuple #[]) w') ∧ (∃ junk', RR w' g e (zs.take k) junk') ∧ Near g w w' := by
  have hl : (Builtin.zeroCells z.cells (n - k)).toList.length = (n - k) * 3 := by rw [Array.length_toList, size_zeroCells, hzs]
  have hone : ∀ v ∈ (Builtin.zeroCells z.cells (n - k)).toList, v.oneCell' = true := by
    intro v hv
    unfold Builtin.zeroCells at hv
    rw [Array.toList_map] at hv
    obtain ⟨j, hj, rfl⟩ := List.mem_map.1 hv
    have hjm : j % z.cells.size < z.cells.size := Nat.mod_lt _ (by omega)
    rw [getElem!_pos z.cells _ hjm]
    exact h1 _ (Array.getElem_mem hjm)
  have hst := run_storeCells_at (P := P) g (k * 3) e (Builtin.zeroCells z.cells (n - k)).toList 0 (cellsR zs ++ junk).toArray w h.blk (by rw [hl]; simp [cellsR_len]; omega) hone
  obtain ⟨cs', hcs, hw⟩ : ∃ cs' : List Value, (storeCells ⟨g, k * 3, none⟩ (Builtin.zeroCells z.cells (n - k)).toList 0).run P w = .ok () (w.setRow g cs'.toArray) ∧ ∃ junk', cs' = cellsR (zs.take k) ++ junk' :=
    ⟨_, hst, _, by rw [show (cellsR zs ++ junk).toArray.toList = cellsR zs ++ junk from rfl, Nat.add_zero, cellsR_take zs junk (by omega), List.append_assoc]⟩
  obtain ⟨junk', rfl⟩ := hw
  refine ⟨w.setRow g (cellsR (zs.take k) ++ junk').toArray, fun ty c => ?_, ⟨junk', ?_, fun r hr => h.rng r (List.mem_of_mem_take hr)⟩, ?_⟩
  · obtain ⟨m, hm⟩ : ∃ m, n - k = m + 1 := ⟨n - k - 1, by omega⟩
    rw [hm] at hcs ⊢
    simp [Builtin.clear_, run_underlying ht, zeroValue, typeInfo, hi, hz, hcs]
  · exact setRow_heap w g _ _ e (0, 0) h.blk
  · exact ⟨rfl, rfl, rfl, by simp, fun b hb hne => setRow_other w g b _ (fun e => hne (by rw [e]))⟩

section
variable {P : Program} {w : World}
/-- there is room -/
theorem run_app_room (t ty e : TypeId) (i : TypeInfo) (size : Nat) (ht : P.underlying t = some (.slice e)) (hi : P.info? e = some i)
    (hsize : i.size = size) (hsz : 0 < size) (base : Nat)
    (ao : Option Addr) (n cap : Nat) (xs : List Value) (hown : ownC e size base w ao n cap xs)
    (ax : Option Addr) (m c : Nat) (news : List Value) (hl : news.length = m * size) (hnews : m = 0 ∨ ∃ ad, ax = some ad ∧ ∀ j u, news[j]? = some u → w.cell? (ad.add j) = some u) (h1 : ∀ u ∈ news, u.oneCell' = true)
    (hroom : n + m ≤ cap) :
    ∃ w', (Builtin.append_ #[t, t] ty #[.slice ao n cap, .slice ax m c]).run P w = .ok (.slice ao (n + m) cap) w' ∧ ownC e size base w' ao (n + m) cap (xs ++ news) ∧ w.grownBy w' (blk ao) := by
  subst hsize
  have hlen : (xs ++ news).length = (n + m) * i.size := by rw [List.length_append, hown.1, hl, Nat.add_mul]
  by_cases hm : m = 0
  · subst hm
    have hn : news = [] := List.eq_nil_of_length_eq_zero (by simpa using hl)
    subst hn
    have hnc := hown.2.1
    refine ⟨w, ?_, by simpa using hown, ⟨rfl, rfl, rfl, Nat.le_refl _, fun _ _ _ => rfl⟩⟩
    cases ao <;> cases ax <;> simp [Builtin.append_, run_underlying ht, sizeOf, typeInfo, hi, Builtin.lenOf, Builtin.firstCells, loadCells, loadCellsFrom, hnc, storeCells]
  obtain ⟨a, rfl, hnew'⟩ := hnews.resolve_left hm
  clear hnews
  obtain ⟨_, hnc, hcm, ⟨rfl, rfl⟩ | ⟨g, cur, rfl, hbg, hg, hcs, htake⟩⟩ := hown
  · omega
  · have hfit : n * i.size + news.length ≤ cur.size := by rw [hl, hcs, ← Nat.add_mul]; exact Nat.mul_le_mul_right _ hroom
    have hr := run_append_room (P := P) w t ty e i ht hi g n cap cur hg a m c news hl hnew' h1 hroom hfit
    refine ⟨_, hr, ⟨hlen, hroom, hcm, .inr ⟨g, _, rfl, hbg, setRow_heap w g cur _ e _ hg, ?_, ?_⟩⟩, ⟨rfl, rfl, rfl, by simp, fun k _ hk => setRow_other w g k _ (fun e => hk (by simp [blk, e]))⟩⟩
    · simp only [List.size_toArray, List.length_append, List.length_take, List.length_drop, Array.length_toList]
      omega
    · rw [htake, ← hlen]
      exact List.take_left

theorem run_appRoomR {α : Type} {sh : Shape α} (t ty e : TypeId) (i : TypeInfo) (ht : P.underlying t = some (.slice e)) (hi : P.info? e = some i)
    (hsize : i.size = sh.size) (hsz : 0 < sh.size) {ok : Nat → Prop} {base : Nat}
    {ao : Option Addr} {n cap : Nat} {xs : List α} (hown : ownR sh e ok base w ao n cap xs)
    {ax : Option Addr} {m c : Nat} {ys : List α} (hm : ys.length = m) (hsrc : srcRep sh ok w ax ys) (hroom : n + m ≤ cap) :
    ∃ w', (Builtin.append_ #[t, t] ty #[.slice ao n cap, .slice ax m c]).run P w = .ok (.slice ao (n + m) cap) w' ∧ ownR sh e ok base w' ao (n + m) cap (xs ++ ys) ∧ w.grownBy w' (blk ao) := by
  obtain ⟨cells, h1, h2, h3, h4, h5⟩ := hown
  have hnews : ∃ news : List Value, news.length = m * sh.size ∧ (∀ i x, ys[i]? = some x → sh.rep ok w (chunk sh.size news i) x) ∧ (m = 0 ∨ ∃ ad, ax = some ad ∧ ∀ j u, news[j]? = some u → w.cell? (ad.add j) = some u) ∧ ∀ u ∈ news, u.oneCell' = true := by
    rcases hsrc with rfl | ⟨b, off, rfl, he⟩
    · exact ⟨[], by simp at hm; subst hm; simp, by simp, .inl hm.symm, by simp⟩
    · obtain ⟨news, n1, n2, n3, n4⟩ := he.cells
      refine ⟨news, by rw [n1, hm], n2, .inr ⟨_, rfl, fun j u hu => ?_⟩, n4⟩
      rw [Addr.add_lit]
      exact n3 j u hu
  obtain ⟨news, n1, n2, n3, n4⟩ := hnews
  obtain ⟨w', hr, ho, hg⟩ := run_app_room (P := P) t ty e i sh.size ht hi hsize hsz base ao n cap cells h1 ax m c news n1 n3 n4 hroom
  have hkeep : ∀ b, ok b → w'.heap[b]? = w.heap[b]? := fun b hb => hg.block b (h5 b hb) (fun e => h4 b e.symm hb)
  refine ⟨w', hr, ⟨_, ho, by rw [List.length_append, ← h2, hm], ?_, h4, fun b hb => Nat.lt_of_lt_of_le (h5 b hb) hg.size⟩, hg⟩
  · intro i x hx
    by_cases hi : i < xs.length
    · rw [List.getElem?_append_left hi] at hx
      rw [chunk_left h1.1 (by omega)]
      exact sh.mono (h3 i x hx) fun b _ hb => ⟨hb, hkeep b hb⟩
    · rw [List.getElem?_append_right (by omega)] at hx
      have := chunk_right (size := sh.size) (xs := cells) (ys := news) (i - xs.length) h1.1
      rw [show n + (i - xs.length) = i by omega] at this
      rw [this]
      exact sh.mono (n2 _ x hx) fun b _ hb => ⟨hb, hkeep b hb⟩

/-- appended where there is room, as an operation of the walk -/
theorem wpList_appRoom {α : Type} {sh : Shape α} {ops : Array Oper} {rest : List Oper} {o : Oper} {a : Act} {Q : Exit → Act → World → Prop} (hgd : o.guard = none) (s x : Operand) (t : TypeId)
    (ho : o.op = .call { callee := .builtin .append, args := #[s, x], argTypes := #[t, t] })
    (e : TypeId) (i : TypeInfo) (ht : P.underlying t = some (.slice e)) (hi : P.info? e = some i)
    (hsize : i.size = sh.size) (hsz : 0 < sh.size) {ok : Nat → Prop} {base : Nat}
    {ao : Option Addr} {n cap : Nat} {xs : List α} (hs : a.eval s = .slice ao n cap) (hown : ownR sh e ok base w ao n cap xs)
    {ax : Option Addr} {m c : Nat} {ys : List α} (hx : a.eval x = .slice ax m c) (hm : ys.length = m) (hsrc : srcRep sh ok w ax ys) (hroom : n + m ≤ cap)
    (h : ∀ w', ownR sh e ok base w' ao (n + m) cap (xs ++ ys) → w.grownBy w' (blk ao) → wpList P ops Q rest (a.put o.dst (.slice ao (n + m) cap)) w') : wpList P ops Q (o :: rest) a w := by
  obtain ⟨w', hr, h2, h3⟩ := run_appRoomR (P := P) t o.type e i ht hi hsize hsz hown (c := c) hm hsrc hroom
  exact Go.Lib.wpList_append_run w hgd s x t t ho _ _ hs hx _ _ hr (h w' h2 h3)

/-- a new empty row with room -/
theorem ownR.room {α : Type} {sh : Shape α} {e : TypeId} {ok : Nat → Prop} {base : Nat} {w : World} (cur : Array Value) (cap : Nat) (hb : base ≤ w.heap.size) (hm : cap ≤ maxLen) (hs : cur.size = cap * sh.size) (hk : ∀ b, ok b → b < w.heap.size) :
    ownR sh e ok base (w.alloc (.cells cur e)) (some ⟨w.heap.size, 0, none⟩) 0 cap [] :=
  ⟨[], ⟨by simp, Nat.zero_le _, hm, .inr ⟨w.heap.size, cur, rfl, hb, heap_alloc_new w _, hs, by simp⟩⟩, rfl, by simp, fun k hk' => by
    obtain rfl : w.heap.size = k := by simpa [blk] using hk'
    exact fun h => absurd (hk _ h) (by omega), fun b hb => by have := hk b hb; simp; omega⟩
end
end Go.St

/-
  The rules of a plan, plainly; a row of rows of rules that grow by append.
-/
set_option linter.unusedSimpArgs false
set_option linter.unusedVariables false
namespace Go.St
open Go.RowKit

def pathRules (v f s : Int) : List Int → List Rule
  | a :: b :: l => (if a = s then [⟨v, f, b⟩] else []) ++ pathRules v f s (b :: l)
  | _ => []
def rulesFrom (v s : Int) : Int → List (List Int) → List Rule
  | _, [] => []
  | f, p :: ps => pathRules v f s p ++ rulesFrom v s (f + 1) ps
def rulesAt (p : Plan) (s : Int) : List Rule := rulesFrom p.ver s 0 p.paths
theorem pathRules_step {v f s : Int} {p : List Int} {i : Nat} {a b : Int} (ha : p[i]? = some a) (hb : p[i + 1]? = some b) : pathRules v f s (p.drop i) = (if a = s then [⟨v, f, b⟩] else []) ++ pathRules v f s (p.drop (i + 1)) := by
  obtain ⟨h1, rfl⟩ := List.getElem?_eq_some_iff.1 ha
  obtain ⟨h2, rfl⟩ := List.getElem?_eq_some_iff.1 hb
  rw [List.drop_eq_getElem_cons h1, List.drop_eq_getElem_cons h2, pathRules]
theorem pathRules_end {v f s : Int} {p : List Int} {i : Nat} (h : p.length ≤ i + 1) : pathRules v f s (p.drop i) = [] := by
  have hl : (p.drop i).length ≤ 1 := by simp; omega
  match hd : p.drop i, hl with
  | [], _ => rfl
  | [x], _ => rfl
theorem rulesFrom_step {v s : Int} {ps : List (List Int)} {j : Nat} {p : List Int} (h : ps[j]? = some p) : rulesFrom v s (j : Int) (ps.drop j) = pathRules v j s p ++ rulesFrom v s ((j + 1 : Nat) : Int) (ps.drop (j + 1)) := by
  obtain ⟨h1, rfl⟩ := List.getElem?_eq_some_iff.1 h
  rw [List.drop_eq_getElem_cons h1, rulesFrom]; rfl
theorem rulesFrom_end {v s : Int} {ps : List (List Int)} {j : Nat} (h : ps.length ≤ j) : rulesFrom v s (j : Int) (ps.drop j) = [] := by
  rw [List.drop_of_length_le h]; rfl

/-- at an index another one -/
def upd {α : Type} (f : Nat → α) (s : Nat) (x : α) : Nat → α := fun i => if i = s then x else f i
theorem upd_same {α : Type} (f : Nat → α) (s : Nat) (x : α) : upd f s x s = x := if_pos rfl
theorem upd_ne {α : Type} (f : Nat → α) {s i : Nat} (x : α) (h : i ≠ s) : upd f s x i = f i := if_neg h

def tblCells (n : Nat) (f : Nat → Option Addr × Nat) (tabs : Nat → List Rule) : Array Value := ((List.range n).map fun i => Value.slice (f i).1 (tabs i).length (f i).2).toArray
theorem tblCells_get {n : Nat} {f : Nat → Option Addr × Nat} {tabs : Nat → List Rule} {i : Nat} (hi : i < n) : (tblCells n f tabs)[i]? = some (.slice (f i).1 (tabs i).length (f i).2) := by
  simp [tblCells, hi]
theorem tblCells_start (n : Nat) : madeCells #[.slice none 0 0] n = tblCells n (fun _ => (none, 0)) (fun _ => []) := by
  apply Array.toList_inj.1
  rw [toList_madeCells_one]
  apply List.ext_getElem
  · simp [tblCells]
  · intro i h1 h2
    simp [tblCells]
theorem tblCells_set {n : Nat} {f : Nat → Option Addr × Nat} {tabs : Nat → List Rule} {s : Nat} (hs : s < n) (a : Option Addr) (c : Nat) (l : List Rule) : (tblCells n f tabs).setIfInBounds s (.slice a l.length c) = tblCells n (upd f s (a, c)) (upd tabs s l) := by
  apply Array.toList_inj.1
  apply List.ext_getElem?
  intro i
  by_cases hi : i < n
  · by_cases h : s = i
    · subst h; simp [tblCells, hs, upd]
    · have h' : ¬ i = s := fun e => h e.symm
      simp [tblCells, List.getElem?_set, hi, h, h', upd]
  · rw [List.getElem?_eq_none (by simp [tblCells]; omega), List.getElem?_eq_none (by simp [tblCells]; omega)]

/-- a row of rows of rules, each of the call's own -/
structure Tbl (w : World) (ob : Nat) (te t : TypeId) (n : Nat) (f : Nat → Option Addr × Nat) (tabs : Nat → List Rule) : Prop where
  blk : blockIs w ob te (tblCells n f tabs)
  own : ∀ i, i < n → ownR ruleS t (fun _ => False) (ob + 1) w (f i).1 (tabs i).length (f i).2 (tabs i)
  apart : ∀ i j k, i < n → j < n → Go.St.blk (f i).1 = some k → Go.St.blk (f j).1 = some k → i = j
theorem Tbl.start {w : World} {ob : Nat} {te t : TypeId} {n : Nat} (h : w.heap.size = ob) : Tbl (w.alloc (.cells (tblCells n (fun _ => (none, 0)) (fun _ => [])) te)) ob te t n (fun _ => (none, 0)) (fun _ => []) :=
  ⟨blockIs.new h, fun i hi => ownR.nil' _ _ _ _, fun i j k _ _ h => by simp [Go.St.blk] at h⟩
section
variable {w w' : World} {ob : Nat} {te t : TypeId} {n : Nat} {f : Nat → Option Addr × Nat} {tabs : Nat → List Rule}
theorem Tbl.under (h : Tbl w ob te t n f tabs) (hb : Below w.heap.size w w') : Tbl w' ob te t n f tabs := ⟨h.blk.under hb, fun i hi => (h.own i hi).below hb, h.apart⟩
theorem Tbl.cell (h : Tbl w ob te t n f tabs) {i : Nat} (hi : i < n) : w.cell? ⟨ob, i, none⟩ = some (.slice (f i).1 (tabs i).length (f i).2) := by
  rw [h.blk.cells.1]; exact tblCells_get hi
theorem Tbl.row (h : Tbl w ob te t n f tabs) {i : Nat} (hi : i < n) : rowRep ruleS (fun b => ob + 1 ≤ b) w (f i).1 (f i).2 (tabs i) := (h.own i hi).row (fun _ h => h.elim) (fun k hk => ((h.own i hi).lt k hk).1)
theorem Tbl.congr {tabs' : Nat → List Rule} (h : Tbl w ob te t n f tabs) (e : ∀ s, s < n → tabs s = tabs' s) : Tbl w ob te t n f tabs' := by
  have ec : tblCells n f tabs = tblCells n f tabs' := by
    unfold tblCells
    congr 1
    refine List.map_congr_left fun i hi => ?_
    rw [e i (List.mem_range.1 hi)]
  exact ⟨ec ▸ h.blk, fun i hi => by rw [← e i hi]; exact h.own i hi, h.apart⟩
theorem Tbl.put (h : Tbl w ob te t n f tabs) {s : Nat} (hs : s < n) {ao : Option Addr} {cap m : Nat} {l : List Rule} (hm : m = l.length) (ho : ownR ruleS t (fun _ => False) (ob + 1) w' ao m cap l) (hg : w.grownBy w' (Go.St.blk (f s).1))
    (hd : Go.St.blk ao = Go.St.blk (f s).1 ∨ Go.St.blk ao = some w.heap.size) : Tbl (w'.setCell ⟨ob, s, none⟩ (.slice ao m cap)) ob te t n (upd f s (ao, cap)) (upd tabs s l) := by
  subst hm
  have hkeep : ∀ k, k ≠ ob → (w'.setCell ⟨ob, s, none⟩ (.slice ao l.length cap)).heap[k]? = w'.heap[k]? := fun k hk => Below.heap_setCell _ _ _ _ hk
  have hz : (w'.setCell ⟨ob, s, none⟩ (.slice ao l.length cap)).heap.size = w'.heap.size := by simp
  refine ⟨?_, fun i hi => ?_, fun i j k hi hj h1 h2 => ?_⟩
  · have hb : blockIs w' ob te (tblCells n f tabs) := h.blk.grown hg (fun e => by have := ((h.own s hs).lt ob e.symm).1; omega)
    have := hb.set s (.slice ao l.length cap)
    rw [tblCells_set hs] at this
    exact this
  · by_cases his : i = s
    · subst his
      rw [upd_same, upd_same]
      exact ho.keep (by rw [hz]; exact Nat.le_refl _) fun k hk => hkeep k (by
        rcases hk with hk | hk
        · have := (ho.lt k hk).1; omega
        · exact hk.elim)
    · rw [upd_ne _ _ his, upd_ne _ _ his]
      have hio := h.own i hi
      refine hio.keep (by rw [hz]; exact hg.size) fun k hk => ?_
      rcases hk with hk | hk
      · have hk1 := hio.lt k hk
        rw [hkeep k (by omega)]
        exact hg.block k hk1.2 fun e => his (h.apart i s k hi hs hk e.symm)
      · exact hk.elim
  · by_cases his : i = s <;> by_cases hjs : j = s
    · rw [his, hjs]
    · subst his
      rw [upd_same] at h1
      rw [upd_ne _ _ hjs] at h2
      rcases hd with hd | hd
      · exact absurd (h.apart j i k hj hs h2 (by rw [← hd]; exact h1)) hjs
      · rw [hd] at h1
        have e1 : w.heap.size = k := by simpa using h1
        have := ((h.own j hj).lt k h2).2; omega
    · subst hjs
      rw [upd_same] at h2
      rw [upd_ne _ _ his] at h1
      rcases hd with hd | hd
      · exact absurd (h.apart i j k hi hs h1 (by rw [← hd]; exact h2)) his
      · rw [hd] at h2
        have e1 : w.heap.size = k := by simpa using h2
        have := ((h.own i hi).lt k h1).2; omega
    · rw [upd_ne _ _ his] at h1
      rw [upd_ne _ _ hjs] at h2
      exact h.apart i j k hi hj h1 h2
end
/-- what is read where a rule comes to a table -/
def SO (ob s pb gb o : Nat) (so : Value) (v y : Int) (w : World) : Prop := w.cell? ⟨ob, s, none⟩ = some so ∧ w.cell? ⟨pb, 0, none⟩ = some (.int .i64 v) ∧ w.cell? ⟨gb, o, none⟩ = some (.int .i64 y)
theorem SO.under {ob s pb gb o : Nat} {so : Value} {v y : Int} {w w' : World} (h : SO ob s pb gb o so v y w) (h1 : ob < w.heap.size) (h2 : pb < w.heap.size) (h3 : gb < w.heap.size) (hb : Below w.heap.size w w') : SO ob s pb gb o so v y w' :=
  ⟨cell_at hb h1 h.1, cell_at hb h2 h.2.1, cell_at hb h3 h.2.2⟩
theorem sliceRow_get {α : Type} {S : Shape α} {ok : Nat → Prop} {w : World} {pa : Option Addr} {pc : Nat} {ps : List (List α)} (h : rowRep (sliceS S) ok w pa pc ps) {j : Nat} {p : List α} (hj : ps[j]? = some p) :
    ∃ b off ao cap, pa = some ⟨b, off, none⟩ ∧ b < w.heap.size ∧ rowRep S ok w ao cap p ∧ ∀ w', Below w.heap.size w w' → w'.cell? ⟨b, off + j, none⟩ = some (.slice ao p.length cap) := by
  obtain ⟨b, off, rfl, _, hbl, cs, ⟨ao, cap, rfl, hr⟩, hce⟩ := h.get hj
  refine ⟨b, off, ao, cap, rfl, hbl, hr, fun w' hb => ?_⟩
  have := cell_at hb hbl (hce 0 _ rfl)
  simpa only [sliceS, Nat.add_zero, Nat.mul_one] using this
theorem intRow_get {ok : Nat → Prop} {w : World} {ao : Option Addr} {cap : Nat} {p : List Int} (h : rowRep intS ok w ao cap p) {j : Nat} {x : Int} (hj : p[j]? = some x) :
    ∃ b off, ao = some ⟨b, off, none⟩ ∧ b < w.heap.size ∧ I64 x ∧ ∀ w', Below w.heap.size w w' → w'.cell? ⟨b, off + j, none⟩ = some (.int .i64 x) := by
  obtain ⟨b, off, rfl, _, hbl, cs, ⟨rfl, hx⟩, hce⟩ := h.get hj
  refine ⟨b, off, rfl, hbl, hx, fun w' hb => ?_⟩
  have := cell_at hb hbl (hce 0 _ rfl)
  simpa only [intS, Nat.add_zero, Nat.mul_one] using this
end Go.St

/-
  A plan's reading with its bulk; a switch's rules are no more than the paths' places.
-/
set_option linter.unusedSimpArgs false
set_option linter.unusedVariables false
namespace Go.St
theorem pathRules_lenB {v f s : Int} : ∀ {l : List Int}, (pathRules v f s l).length ≤ l.length
  | [] => Nat.le_refl _
  | [_] => Nat.zero_le _
  | a :: b :: l => by
    rw [pathRules]
    have := pathRules_lenB (v := v) (f := f) (s := s) (l := b :: l)
    simp only [List.length_append, List.length_cons] at *
    split <;> simp <;> omega
def planBulk (ps : List (List Int)) : Nat := (ps.map fun q => (q.map fun _ => 1).sum + 1).sum + 1
theorem ones_sum (q : List Int) : (q.map fun _ => 1).sum = q.length := by
  induction q with
  | nil => rfl
  | cons x l ih => simp only [List.map_cons, List.sum_cons, ih, List.length_cons]; omega
theorem rulesFrom_lenB {v s : Int} : ∀ {ps : List (List Int)} {j : Int}, (rulesFrom v s j ps).length ≤ planBulk ps
  | [], _ => Nat.zero_le _
  | q :: ps, j => by
    rw [rulesFrom, List.length_append]
    have h1 := rulesFrom_lenB (v := v) (s := s) (ps := ps) (j := j + 1)
    have h2 := pathRules_lenB (v := v) (f := j) (s := s) (l := q)
    simp only [planBulk, List.map_cons, List.sum_cons, ones_sum] at *
    omega
theorem paths_len : ∀ (ps : List (List Int)), ps.length ≤ planBulk ps
  | [] => Nat.zero_le _
  | q :: ps => by
    have := paths_len ps
    simp only [planBulk, List.map_cons, List.sum_cons, List.length_cons] at *
    omega
end Go.St
namespace Go.Proofs.Ytagldmdeohenjaa
open Go.RowKit Go.St Go.Deep Go.ChangeShapes Go.WideShapes

theorem opens_planB {P : Program} {t i fs ps : TypeId} {f0 f1 f2 : Field} {μ : List (List Int) → Nat} (ht : P.underlying t = some (.struct #[f0, f1, f2])) (hc : P.cellsOf t = 3) (hi : Opens P i intS) (hfl : Opens P fs (sliceS flowS)) (hp : OpensB P ps (sliceS (sliceS intS)) μ)
    (t0 : f0.type = i ∧ f0.offset = 0) (t1 : f1.type = fs ∧ f1.offset = 1) (t2 : f2.type = ps ∧ f2.offset = 2) : OpensB P t planS (fun p => μ p.paths) where
  size := by rw [hc]; rfl
  pos := by decide
  op h := by
    obtain ⟨xs, n, _, rfl, hl, hlen, hf⟩ := DataW.trod_struct ht h
    rename_i cs _
    rw [hc] at hl
    match cs, hl, xs, hlen with
    | [v0, v1, v2], _, [x0, x1, x2], _ =>
      have h0 := hf 0 f0 rfl
      have h1 := hf 1 f1 rfl
      have h2 := hf 2 f2 rfl
      rw [t0.1, t0.2, hi.size] at h0
      rw [t1.1, t1.2, hfl.size] at h1
      rw [t2.1, t2.2, hp.size] at h2
      obtain ⟨a, ha, ia⟩ := hi.op h0
      obtain ⟨b, ab, cb, hb, ib⟩ := hfl.op h1
      obtain ⟨c, ⟨ac, cc, hc', ic⟩, hm⟩ := hp.op h2
      simp [intS] at ha
      simp [sliceS] at hb hc'
      subst ha; subst hb; subst hc'
      refine ⟨⟨a, b, c⟩, ⟨ab, cb, ac, cc, rfl, ia, ib, ic⟩, ?_⟩
      simp only [List.map_cons, List.map_nil, Rows.uptoBulk, Rows.uptoBulkAll] at *
      omega

end Go.Proofs.Ytagldmdeohenjaa

/-
  The text of a row of bytes; a guarded operation of a drawn region that alone may come up.
-/
set_option linter.unusedSimpArgs false
set_option linter.unusedVariables false
namespace Go.St
open Go.RowKit

theorem row_string {P : Program} {src e dst : TypeId} (hs : P.underlying src = some (.slice e)) (he : P.underlying e = some (.int .u8)) (hd : P.underlying dst = some .string) {ok : Nat → Prop} {w : World} {ao : Option Addr} {cap : Nat} {xs : List Int}
    (h : rowRep byteS ok w ao cap xs) {w' : World} (hb : Below w.heap.size w w') : (convert src dst (.slice ao xs.length cap)).run P w' = .ok (.string (strOfNums xs)) w' := by
  have h' := h.below hb
  obtain ⟨_, _, rfl | ⟨b, off, rfl, _, _, he'⟩⟩ := h'
  · cases ao with
    | none => exact run_convert_bytes_nil w' src e hs he _ _ dst hd
    | some a =>
      rw [run_convert_bytes_string w' src dst e _ _ cap hs he hd, List.length_nil, run_bytesToString w' a 0 cap [] (by simp [loadCells, go_sem])]
      rfl
  · refine run_convert_bytes_arg w' src e hs he b off xs.length cap xs rfl (fun i hi => ?_) dst hd
    obtain ⟨cs, ⟨rfl, _⟩, hc⟩ := he' i xs[i] (List.getElem?_eq_getElem hi)
    have := hc 0 _ rfl
    simp only [byteS, Nat.mul_one, Nat.add_zero] at this
    rw [this]
    simp [List.getD, List.getElem?_eq_getElem hi]

theorem wpAnyK_only' {P : Program} {ops : Array Oper} {Q : Exit → Act → World → Prop} {md : Region.Mode} {S : World → Prop} {L : Nat} {i : Nat} {oi : Oper} {fuel : Nat} {listed : Array Bool} {a : Act} {w : World} (hi : ops[i]? = some oi) (hg : Region.wanted oi (yielded ops a.tmps) = true)
    (hs : (Region.ready md ops listed == [i]) = true) (h : oi.wp P a w (fun a' w' => (i ≠ L → S w') ∧ wpAnyK P md ops Q S L fuel (listed.setIfInBounds i true) a' w') Q) : wpAnyK P md ops Q S L (fuel + 1) listed a w := by
  have hr : Region.ready md ops listed = [i] := by simpa using hs
  refine ⟨fun h0 => (by rw [h0] at hr; cases hr), fun j hj => ?_⟩
  rw [hr] at hj
  obtain rfl : j = i := by simpa using hj
  unfold wpOp
  simp only [hi]
  rw [if_pos hg]
  exact .inl h

section
variable {P : Program} {ops : Array Oper} {Q : Exit → Act → World → Prop} {md : Region.Mode} {S : World → Prop} {L : Nat}

/-- what is read may be read first, where S holds behind every operation -/
theorem wpAnyK_first' {i : Nat} {oi : Oper} {v : Value} (hi : ops[i]? = some oi) (hsel : ∀ (j : Nat) (o : Oper) cs b, ops[j]? = some o → o.op ≠ .select cs b)
    (hQ : ∀ c a w, Q (.panic c) (a.put oi.dst v) w → Q (.panic c) a w) (hL : ops.size ≤ L) :
    ∀ (fuel : Nat) (listed : Array Bool) (a : Act) (w : World),
      (∀ j oj, ops[j]? = some oj → j ≠ i → listed.getD j true = false → (∀ e ∈ oj.after, Region.binds md e = true → e.on ≠ i) → oi.apart ops oj = true) →
      i ∈ Region.ready md ops listed → YieldsIf P ops S oi v a → S w →
      wpAnyK P md ops Q S L fuel (listed.setIfInBounds i true) (a.put oi.dst v) w → wpAnyK P md ops Q S L (fuel + 1) listed a w := by
  intro fuel
  induction fuel with
  | zero =>
    intro listed a w _ hr hy hS H
    refine ⟨fun h => (by rw [h] at hr; cases hr), fun j hj => ?_⟩
    by_cases hji : j = i
    · subst hji; exact hy.wpOp hi hS ⟨fun _ => hS, H⟩
    · have := ready_mono hj hji
      rw [H.1] at this
      cases this
  | succ fuel ih =>
    intro listed a w hfree hr hy hS H
    refine ⟨fun h => (by rw [h] at hr; cases hr), fun j hj => ?_⟩
    by_cases hji : j = i
    · subst hji; exact hy.wpOp hi hS ⟨fun _ => hS, H⟩
    · have h1 := H.2 j (ready_mono hj hji)
      obtain ⟨hjun, oj, hoj, hall⟩ := mem_ready.1 hj
      have hnot : ∀ e ∈ oj.after, Region.binds md e = true → e.on ≠ i := fun e he hb heq => by
        have h1 := hall e he hb
        have h0 := (mem_ready.1 hr).1
        rw [heq] at h1
        rcases Nat.lt_or_ge i listed.size with h' | h'
        · simp [h'] at h0 h1; rw [h0] at h1; cases h1
        · simp [Array.getElem?_eq_none h'] at h1
      have hjL : j ≠ L := by
        rintro rfl
        have := (Array.getElem?_eq_some_iff.1 hoj).1
        omega
      have h2 := wpOp_putIf hoj (hfree j oj hoj hji hjun hnot) (fun cs b => hsel i oi cs b hi) (fun cs b => hsel j oj cs b hoj) hQ hy h1
      have hfree' : ∀ k ok, ops[k]? = some ok → k ≠ i → (listed.setIfInBounds j true).getD k true = false →
          (∀ e ∈ ok.after, Region.binds md e = true → e.on ≠ i) → oi.apart ops ok = true := fun k ok hk hki hun hno => by
        refine hfree k ok hk hki ?_ hno
        by_cases hjk : j = k
        · subst hjk; exact hjun
        · rw [getD_set_ne true hjk] at hun; exact hun
      refine wpOp_mono (fun a' w' h3 => ⟨fun _ => h3.2.1 hjL, ih (listed.setIfInBounds j true) a' w' hfree' (ready_mono hr (Ne.symm hji)) h3.1 (h3.2.1 hjL) ?_⟩) h2
      rw [Array.setIfInBounds_comm _ _ hji]
      exact h3.2.2

theorem wpAnyK_take' {i : Nat} {oi : Oper} (v : Value) {fuel : Nat} {listed : Array Bool} {a : Act} {w : World} (hi : ops[i]? = some oi)
    (hs : (Region.noSelect ops && Region.free md ops listed i && (Region.ready md ops listed).contains i && Nat.ble ops.size L) = true)
    (hQ : ∀ c a w, Q (.panic c) (a.put oi.dst v) w → Q (.panic c) a w) (hS : S w) (hy : YieldsIf P ops S oi v a)
    (h : wpAnyK P md ops Q S L fuel (listed.setIfInBounds i true) (a.put oi.dst v) w) : wpAnyK P md ops Q S L (fuel + 1) listed a w := by
  simp only [Bool.and_eq_true] at hs
  obtain ⟨⟨⟨h1, h2⟩, h3⟩, h4⟩ := hs
  exact wpAnyK_first' hi (Region.noSelect_spec h1) hQ (Nat.le_of_ble_eq_true h4) fuel listed a w (Region.free_spec hi h2) (by simpa using h3) hy hS h
end

/-- .. a call: the continuation is closed -/
theorem wpAnyK_call {P : Program} {ops : Array Oper} {Q : Exit → Act → World → Prop} {md : Region.Mode} {S : World → Prop} {L : Nat} {i : Nat} {oi : Oper} {fuel : Nat} {listed : Array Bool} {a : Act} {w : World} (hi : ops[i]? = some oi) (hg : Region.wanted oi (yielded ops a.tmps) = true)
    (hs : (Region.ready md ops listed == [i]) = true) (h : ∀ K : Act → World → Prop, (∀ a' w', (i ≠ L → S w') → wpAnyK P md ops Q S L fuel (listed.setIfInBounds i true) a' w' → K a' w') → oi.wp P a w K Q) : wpAnyK P md ops Q S L (fuel + 1) listed a w :=
  wpAnyK_only' hi hg hs (h _ fun _ _ h1 h2 => ⟨h1, h2⟩)

end Go.St

/-
  A drawn region at a place where two operations may come up.
-/
set_option linter.unusedSimpArgs false
set_option linter.unusedVariables false
namespace Go.St
open Go.RowKit

section
variable {P : Program} {ops : Array Oper} {Q : Exit → Act → World → Prop} {md : Region.Mode} {S : World → Prop} {L : Nat}

theorem wpAnyK_two {i j : Nat} {oi oj : Oper} {fuel : Nat} {listed : Array Bool} {a : Act} {w : World} (hi : ops[i]? = some oi) (hj : ops[j]? = some oj)
    (gi : Region.wanted oi (yielded ops a.tmps) = true) (gj : Region.wanted oj (yielded ops a.tmps) = true) (hs : (Region.ready md ops listed == [i, j]) = true)
    (h1 : ∀ K : Act → World → Prop, (∀ a' w', (i ≠ L → S w') → wpAnyK P md ops Q S L fuel (listed.setIfInBounds i true) a' w' → K a' w') → oi.wp P a w K Q)
    (h2 : ∀ K : Act → World → Prop, (∀ a' w', (j ≠ L → S w') → wpAnyK P md ops Q S L fuel (listed.setIfInBounds j true) a' w' → K a' w') → oj.wp P a w K Q) :
    wpAnyK P md ops Q S L (fuel + 1) listed a w := by
  have hr : Region.ready md ops listed = [i, j] := by simpa using hs
  refine ⟨fun h0 => (by rw [h0] at hr; cases hr), fun k hk => ?_⟩
  rw [hr] at hk
  have hk' : k = i ∨ k = j := by simpa using hk
  rcases hk' with rfl | rfl
  · unfold wpOp
    simp only [hi]
    rw [if_pos gi]
    exact .inl (h1 _ fun _ _ h1 h2 => ⟨h1, h2⟩)
  · unfold wpOp
    simp only [hj]
    rw [if_pos gj]
    exact .inl (h2 _ fun _ _ h1 h2 => ⟨h1, h2⟩)
end

/-- a shape that reaches into no block of its datum -/
theorem srcRep.flat {α : Type} {sh : Shape α} {ok ok' : Nat → Prop} {w : World} {ao : Option Addr} {ys : List α} (h : srcRep sh ok w ao ys) (hf : ∀ {cs x}, sh.rep ok w cs x → sh.rep ok' w cs x) : srcRep sh ok' w ao ys := by
  rcases h with h | ⟨b, off, e, he⟩
  · exact .inl h
  · refine .inr ⟨b, off, e, fun i x hx => ?_⟩
    obtain ⟨cs, h1, h2⟩ := he i x hx
    exact ⟨cs, hf h1, h2⟩

end Go.St

/-
  A drawn region with one way behind it, whatever order was drawn.
-/
set_option linter.unusedSimpArgs false
set_option linter.unusedVariables false
namespace Go.St
open Go.RowKit

/-- slots that were written -/
def puts (a : Act) : List (Nat × Value) → Act
  | [] => a
  | (i, v) :: r => puts (a.put (some i) v) r

/-- what holds behind a drawn region, whatever order was drawn: R, of the frame ahead of it, the one behind it and the world -/
theorem wp_region_to {P : Program} {ops : Array Oper} {Q : Exit → Act → World → Prop} (S : World → Prop) (L : Nat) (R : Act → Act → World → Prop) {id : Nat} {a : Act} {w : World} (hm : P.follows .mixedOrders = true)
    (h : ∀ Q' : Exit → Act → World → Prop, (∀ a' w', R a a' w' → Q' .normal a' w') → (∀ c a1 a2 w', Q' (.panic c) a1 w' → Q' (.panic c) a2 w') → wpAnyK P .any ops Q' S L ops.size (Array.replicate ops.size false) a w.drew)
    (hK : ∀ a' w', R a a' w' → Q .normal a' w') : (Code.region id ops true).wp P Q a w :=
  Code.wp_mono (Q := fun e a' w' => e = .normal ∧ R a a' w') (fun e a' w' h => by obtain ⟨rfl, h⟩ := h; exact hK a' w' h)
    (wp_region_K S L hm (h _ (fun a' w' h => ⟨rfl, h⟩) (fun c a1 a2 w' h => nomatch h.1)))
end Go.St

/-
  Ways that part, and meet again.
-/
namespace Go.St
open Go.RowKit
/-- ways that part at a piece of code, and meet behind it -/
theorem wp_join {P : Program} {c : Code} {Q : Exit → Act → World → Prop} (R : Act → Act → World → Prop) {a : Act} {w : World} (h : c.wp P (fun e a' w' => e = .normal ∧ R a a' w') a w) (hK : ∀ a' w', R a a' w' → Q .normal a' w') : c.wp P Q a w :=
  Code.wp_mono (fun e a' w' h => by obtain ⟨rfl, h⟩ := h; exact hK a' w' h) h
end Go.St

/-
  The walk of package rules' Of.
-/
set_option linter.unusedSimpArgs false
set_option linter.unusedVariables false
namespace Go.Proofs.Ytagldmdeohenjaa
open Go.RowKit Go.St

theorem info_rulesOf : (Try.prog.info? 88).map (fun i => (i.zero, i.size, i.bytes)) = some (some (.agg #[.int .i64 0, .int .i64 0, .int .i64 0]), 3, 24) := by kernel_rfl
theorem info_tabOf : (Try.prog.info? 37).map (fun i => (i.zero, i.size, i.bytes)) = some (some (.slice none 0 0), 1, 24) := by kernel_rfl

set_option maxRecDepth 100000 in
set_option maxHeartbeats 8000000 in
theorem of_c (p : Plan) (n : Nat) (cs : List Value) (ok : Nat → Prop) (w : World) (h : planS.rep ok w cs p) (hn : n ≤ 1000) (hbig : ∀ s : Nat, (rulesAt p s).length ≤ 5864062014800) (hpl : p.paths.length ≤ 100000000000000) :
    Calls Try.prog 22 #[.agg cs.toArray, .int .i64 n] w fun e w' => ∃ ob f, e = .returned (.slice (some ⟨ob, 0, none⟩) n n) ∧ w.heap.size ≤ ob ∧ Tbl w' ob 37 88 n f (fun s => rulesAt p s) ∧ Below w.heap.size w w' := by
  obtain ⟨fa, fc, pa, pc, rfl, hv, hfl, hps⟩ := h
  obtain ⟨v, fls, ps⟩ := p
  dsimp only at *
  obtain ⟨i0, hi, hz0, hz1, hz2⟩ := info_parts info_rulesOf
  obtain ⟨j0, gi, gz0, gz1, gz2⟩ := info_parts info_tabOf
  have hrun := fun w' => run_make (P := Try.prog) w' 69 37 j0 (.slice none 0 0) Try.underlying69 gi gz0 .i64 .i64 (n : Int) (n : Int) (by omega) (Int.le_refl _) (by rw [gz2]; omega) (by omega)
  rw [gz1, Nat.mul_one, Int.toNat_natCast] at hrun
  have hmk : ∀ w', (Instr.makeSlice 69 (.int .i64 n) (.int .i64 n)).run Try.prog w' = .ok (.slice (some ⟨w'.heap.size, 0, none⟩) n n) (w'.alloc (.cells (tblCells n (fun _ => (none, 0)) (fun _ => [])) 37)) := fun w' => by rw [← tblCells_start]; exact hrun w'
  clear hrun
  have HBG : Hid (∀ s : Nat, (rulesFrom v s 0 ps).length ≤ 5864062014800) := hbig
  have hst : Hid (∀ s : Nat, s < n → ([] : List Rule) ++ rulesFrom v s ((0 : Nat) : Int) (ps.drop 0) = rulesFrom v s 0 ps) := fun s _ => rfl
  have hlx := hps.len_le
  have hmx : max (n : Int) 0 = (n : Int) := by omega
  clear hbig
  go_enter Try.func22, Try.ntmps22
  go_wp2
  go_loopw [6, 7, 8, 9, 16] (fun _ _ _ _ idx wr => ∃ (j : Nat) (f : Nat → Option Addr × Nat) (tabs : Nat → List Rule), idx = .int .i64 j ∧ j ≤ ps.length ∧ Tbl wr (w.heap.size + 1) 37 88 n f tabs ∧ Hid (∀ s : Nat, s < n → tabs s ++ rulesFrom v s ((j : Nat) : Int) (ps.drop j) = rulesFrom v s 0 ps) ∧ blockIs wr w.heap.size 30 #[.int .i64 v, .slice fa fls.length fc, .slice pa ps.length pc] ∧ Below w.heap.size w wr) (fun _ _ _ _ idx _ => ps.length - (intOf idx).toNat)
  case atStart => exact ⟨0, _, _, rfl, Nat.zero_le _, Tbl.start (by simp), hst, (blockIs.new rfl).alloc _, by (repeat' (first | with_reducible exact Below.refl _ _ | with_reducible assumption | with_reducible refine Below.drew ?_ | with_reducible refine Below_drewN ?_ _ | with_reducible refine Below.alloc ?_ ?_ _ | with_reducible refine Below.setCell ?_ ?_ _ | omega | (simp; done) | (simp; omega)))⟩
  case round =>
    clear hst
    obtain ⟨j, f, tabs, rfl, hj, hT, hS, hP, hb⟩ := hrel
    rename World => wo
    obtain ⟨p1, p2⟩ := hP.cells
    have hPl := hP.lt
    by_cases hlt : j < ps.length
    case neg =>
      have hT9 := Lib.hid (hT.congr (tabs' := fun s => rulesAt ⟨v, fls, ps⟩ s) fun s hs => by have := hS.out s hs; rw [rulesFrom_end (by omega), List.append_nil] at this; exact this)
      have b1 : ¬ (j : Int) < (ps.length : Int) := by omega
      clear hS hT
      go_wp2
      go_ret; exact ⟨w.heap.size + 1, rfl, by omega, ⟨f, hT9.out⟩, hb⟩
    obtain ⟨pp, hpp⟩ : ∃ pp, ps[j]? = some pp := ⟨_, List.getElem?_eq_getElem hlt⟩
    obtain ⟨gb, go, pao, pcap, rfl, hgl, hpr, hce⟩ := sliceRow_get hps hpp
    have e0 := hce _ hb
    have hplen := hpr.len_le
    have b0 : (0 : Int) ≤ (j : Int) := by omega
    have b1 : (j : Int) < (ps.length : Int) := by omega
    have hst : Hid (∀ s : Nat, s < n → tabs s ++ (pathRules v j s (pp.drop 0) ++ rulesFrom v s ((j + 1 : Nat) : Int) (ps.drop (j + 1))) = rulesFrom v s 0 ps) := fun s hs => by have := hS.out s hs; rw [rulesFrom_step hpp] at this; exact this
    clear hS hce hpp
    go_wp2
    clear e0
    go_loopw [8, 9] (fun ii _ wr => ∃ (i : Nat) (f : Nat → Option Addr × Nat) (tabs : Nat → List Rule), ii = .int .i64 i ∧ (i = 0 ∨ i < pp.length) ∧ Tbl wr (w.heap.size + 1) 37 88 n f tabs ∧ Hid (∀ s : Nat, s < n → tabs s ++ (pathRules v j s (pp.drop i) ++ rulesFrom v s ((j + 1 : Nat) : Int) (ps.drop (j + 1))) = rulesFrom v s 0 ps) ∧ blockIs wr w.heap.size 30 #[.int .i64 v, .slice fa fls.length fc, .slice (some ⟨gb, go, none⟩) ps.length pc] ∧ Below w.heap.size w wr) (fun ii _ _ => pp.length - (intOf ii).toNat)
    case atStart => exact ⟨0, f, tabs, rfl, .inl rfl, hT, hst, hP, hb⟩
    case round =>
    clear hst hT hP hb p1 p2 hPl
    obtain ⟨i, f, tabs, rfl, hi0, hT, hS, hP, hb⟩ := hrel
    rename World => wi
    obtain ⟨p1, p2⟩ := hP.cells
    have hPl := hP.lt
    have k1 : IntKind.i64.wrap ((i : Int) + 1) = (i : Int) + 1 := IntWalk.i64_in _ (by omega)
    by_cases hil : i + 1 < pp.length
    case neg =>
      have hS2 : Hid (∀ s : Nat, s < n → tabs s ++ rulesFrom v s ((j + 1 : Nat) : Int) (ps.drop (j + 1)) = rulesFrom v s 0 ps) := fun s hs => by have := hS.out s hs; rw [pathRules_end (by omega), List.nil_append] at this; exact this
      have b2 : ¬ (i : Int) + 1 < (pp.length : Int) := by omega
      clear hS
      go_wp2
      case roundEnd =>
        go_roundw
        case rel => exact ⟨j + 1, f, tabs, by go_num, by omega, hT, hS2, hP, hb⟩
        case measure => simp [intOf] <;> omega
    obtain ⟨a, ha⟩ : ∃ a, pp[i]? = some a := ⟨_, List.getElem?_eq_getElem (by omega)⟩
    obtain ⟨y, hy⟩ : ∃ y, pp[i + 1]? = some y := ⟨_, List.getElem?_eq_getElem hil⟩
    obtain ⟨qb, qo, rfl, hql, haI, hca⟩ := intRow_get hpr ha
    obtain ⟨qb', qo', hqe, _, hyI, hcy⟩ := intRow_get hpr hy
    obtain ⟨rfl, rfl⟩ : qb = qb' ∧ qo = qo' := by simpa using hqe
    have e1 := hca _ hb
    have e2 := hcy _ hb
    have b2 : (i : Int) + 1 < (pp.length : Int) := by omega
    have b3 : (0 : Int) ≤ (i : Int) := by omega
    have b4 : (i : Int) < (pp.length : Int) := by omega
    have hzz := hb.size
    have HPS : Hid (∀ s : Nat, pathRules v j s (pp.drop i) = (if a = (s : Int) then [⟨v, j, y⟩] else []) ++ pathRules v j s (pp.drop (i + 1))) := fun s => pathRules_step ha hy
    clear ha hy hca hcy hqe
    by_cases hin : 0 ≤ a ∧ a < (n : Int)
    case neg =>
      have hS3 : Hid (∀ s : Nat, s < n → tabs s ++ (pathRules v j s (pp.drop (i + 1)) ++ rulesFrom v s ((j + 1 : Nat) : Int) (ps.drop (j + 1))) = rulesFrom v s 0 ps) := fun s hs => by
        have := hS.out s hs
        rw [HPS.out s, if_neg (by omega), List.nil_append] at this; exact this
      clear hS HPS
      by_cases o1 : a ≥ 0
      · have o2 : ¬ a < (n : Int) := by omega
        clear hin
        go_wp2
        case roundEnd =>
          go_roundw
          case rel => exact ⟨i + 1, f, tabs, by go_num, by omega, hT, hS3, hP, hb⟩
          case measure => simp [intOf] <;> omega
      · clear hin
        go_wp2
        case roundEnd =>
          go_roundw
          case rel => exact ⟨i + 1, f, tabs, by go_num, by omega, hT, hS3, hP, hb⟩
          case measure => simp [intOf] <;> omega
    obtain ⟨s, rfl⟩ : ∃ s : Nat, a = (s : Int) := ⟨a.toNat, by omega⟩
    have hsn : s < n := by omega
    have o1 : (s : Int) ≥ 0 := by omega
    have o2 : (s : Int) < (n : Int) := by omega
    have o3 : IntKind.i64.wrap (s : Int) = s := IntWalk.i64_in _ (by omega)
    have c9 := hT.cell hsn
    have hTl := hT.blk.lt
    have hown := hT.own s hsn
    have hlen : (tabs s).length + 1 ≤ 5864062014800 := by
      have h1 := HBG.out s
      rw [← hS.out s hsn, HPS.out s, if_pos rfl] at h1
      simp only [List.length_append, List.length_cons, List.length_nil] at h1; omega
    have hS3 : Hid (∀ s' : Nat, s' < n → upd tabs s (tabs s ++ [⟨v, j, y⟩]) s' ++ (pathRules v j s' (pp.drop (i + 1)) ++ rulesFrom v s' ((j + 1 : Nat) : Int) (ps.drop (j + 1))) = rulesFrom v s' 0 ps) := fun s' hs => by
      have h1 := hS.out s' hs
      rw [HPS.out s'] at h1
      by_cases he : s' = s
      · subst he
        rw [if_pos rfl] at h1
        rw [upd_same, ← h1]; simp
      · rw [if_neg (by omega), List.nil_append] at h1
        rw [upd_ne _ _ he]; exact h1
    have hjI : I64 (j : Int) := ⟨by omega, by omega⟩
    clear hS HPS hin
    go_wp2
    have hS0 : SO (w.heap.size + 1) s w.heap.size qb (qo + (i + 1)) (.slice (f s).1 (tabs s).length (f s).2) v y wi.drew := ⟨c9, p1 0, e2⟩
    refine wp_region_to (SO (w.heap.size + 1) s w.heap.size qb (qo + (i + 1)) (.slice (f s).1 (tabs s).length (f s).2) v y) 18 (fun a0 a' w' => ∃ v39 v40 v41 v42 v43 v44 v45 v46 v47 v48 v49 v50 v51 v52 v53 v54 v55 v56, a' = puts a0 [(39, v39), (40, v40), (41, v41), (42, v42), (43, v43), (44, v44), (45, v45), (46, v46), (47, v47), (48, v48), (49, v49), (50, v50), (51, v51), (52, v52), (53, v53), (54, v54), (55, v55), (56, v56)] ∧ ∃ ao cap, Tbl w' (w.heap.size + 1) 37 88 n (upd f s (ao, cap)) (upd tabs s (tabs s ++ [⟨v, j, y⟩])) ∧ blockIs w' w.heap.size 30 #[.int .i64 v, .slice fa fls.length fc, .slice (some ⟨gb, go, none⟩) ps.length pc] ∧ Below w.heap.size w w') (by kernel_rfl) ?_ ?_
    · intro Q' hR hQp
      have hb0 : Below wi.heap.size wi wi.drew := by (repeat' (first | with_reducible exact Below.refl _ _ | with_reducible assumption | with_reducible refine Below.drew ?_ | with_reducible refine Below_drewN ?_ _ | with_reducible refine Below.alloc ?_ ?_ _ | with_reducible refine Below.setCell ?_ ?_ _ | omega | (simp; done) | (simp; omega)))
      have hS : SO (w.heap.size + 1) s w.heap.size qb (qo + (i + 1)) (.slice (f s).1 (tabs s).length (f s).2) v y wi.drew := hS0
      generalize wi.drew = wa at *
      refine wpAnyK_take (i := 0) _ rfl (by kernel_rfl) (fun _ _ _ h => hQp _ _ _ _ h) hS (yields_value (by kernel_rfl) (by intro w0 hw0; have hw1 := hw0; simp only [SO] at hw1; first | (go_simp; done) | (go_simp; rfl))) ?_; simp only [Act.put, List.getElem_toArray, List.getElem_cons_succ, List.getElem_cons_zero, List.setIfInBounds_toArray, List.set_cons_succ, List.set_cons_zero]
      refine wpAnyK_take (i := 1) _ rfl (by kernel_rfl) (fun _ _ _ h => hQp _ _ _ _ h) hS (yields_value (by kernel_rfl) (by intro w0 hw0; have hw1 := hw0; simp only [SO] at hw1; first | (go_simp; done) | (go_simp; rfl))) ?_; simp only [Act.put, List.getElem_toArray, List.getElem_cons_succ, List.getElem_cons_zero, List.setIfInBounds_toArray, List.set_cons_succ, List.set_cons_zero]
      refine wpAnyK_take (i := 2) _ rfl (by kernel_rfl) (fun _ _ _ h => hQp _ _ _ _ h) hS (yields_value (by kernel_rfl) (by intro w0 hw0; have hw1 := hw0; simp only [SO] at hw1; first | (go_simp; done) | (go_simp; rfl))) ?_; simp only [Act.put, List.getElem_toArray, List.getElem_cons_succ, List.getElem_cons_zero, List.setIfInBounds_toArray, List.set_cons_succ, List.set_cons_zero]
      refine wpAnyK_take (i := 3) _ rfl (by kernel_rfl) (fun _ _ _ h => hQp _ _ _ _ h) hS (yields_value (by kernel_rfl) (by intro w0 hw0; have hw1 := hw0; simp only [SO] at hw1; first | (go_simp; done) | (go_simp; rfl))) ?_; simp only [Act.put, List.getElem_toArray, List.getElem_cons_succ, List.getElem_cons_zero, List.setIfInBounds_toArray, List.set_cons_succ, List.set_cons_zero]
      refine wpAnyK_take (i := 4) _ rfl (by kernel_rfl) (fun _ _ _ h => hQp _ _ _ _ h) hS (yields_value (by kernel_rfl) (by intro w0 hw0; have hw1 := hw0; simp only [SO] at hw1; first | (go_simp; done) | (go_simp; rfl))) ?_; simp only [Act.put, List.getElem_toArray, List.getElem_cons_succ, List.getElem_cons_zero, List.setIfInBounds_toArray, List.set_cons_succ, List.set_cons_zero]
      refine wpAnyK_take (i := 5) _ rfl (by kernel_rfl) (fun _ _ _ h => hQp _ _ _ _ h) hS (yields_value (by kernel_rfl) (by intro w0 hw0; have hw1 := hw0; simp only [SO] at hw1; first | (go_simp; done) | (go_simp; rfl))) ?_; simp only [Act.put, List.getElem_toArray, List.getElem_cons_succ, List.getElem_cons_zero, List.setIfInBounds_toArray, List.set_cons_succ, List.set_cons_zero]
      refine wpAnyK_take (i := 6) _ rfl (by kernel_rfl) (fun _ _ _ h => hQp _ _ _ _ h) hS (yields_value (by kernel_rfl) (by intro w0 hw0; have hw1 := hw0; simp only [SO] at hw1; first | (go_simp; done) | (go_simp; rfl))) ?_; simp only [Act.put, List.getElem_toArray, List.getElem_cons_succ, List.getElem_cons_zero, List.setIfInBounds_toArray, List.set_cons_succ, List.set_cons_zero]
      refine wpAnyK_take (i := 7) _ rfl (by kernel_rfl) (fun _ _ _ h => hQp _ _ _ _ h) hS (yields_value (by kernel_rfl) (by intro w0 hw0; have hw1 := hw0; simp only [SO] at hw1; first | (go_simp; done) | (go_simp; rfl))) ?_; simp only [Act.put, List.getElem_toArray, List.getElem_cons_succ, List.getElem_cons_zero, List.setIfInBounds_toArray, List.set_cons_succ, List.set_cons_zero]
      refine wpAnyK_take (i := 8) _ rfl (by kernel_rfl) (fun _ _ _ h => hQp _ _ _ _ h) hS (yields_value (by kernel_rfl) (by intro w0 hw0; have hw1 := hw0; simp only [SO] at hw1; first | (go_simp; done) | (go_simp; rfl))) ?_; simp only [Act.put, List.getElem_toArray, List.getElem_cons_succ, List.getElem_cons_zero, List.setIfInBounds_toArray, List.set_cons_succ, List.set_cons_zero]
      refine wpAnyK_take (i := 9) _ rfl (by kernel_rfl) (fun _ _ _ h => hQp _ _ _ _ h) hS (yields_value (by kernel_rfl) (by intro w0 hw0; have hw1 := hw0; simp only [SO] at hw1; first | (go_simp; done) | (go_simp; rfl))) ?_; simp only [Act.put, List.getElem_toArray, List.getElem_cons_succ, List.getElem_cons_zero, List.setIfInBounds_toArray, List.set_cons_succ, List.set_cons_zero]
      refine wpAnyK_take (i := 10) _ rfl (by kernel_rfl) (fun _ _ _ h => hQp _ _ _ _ h) hS (yields_value (by kernel_rfl) (by intro w0 hw0; have hw1 := hw0; simp only [SO] at hw1; first | (go_simp; done) | (go_simp; rfl))) ?_; simp only [Act.put, List.getElem_toArray, List.getElem_cons_succ, List.getElem_cons_zero, List.setIfInBounds_toArray, List.set_cons_succ, List.set_cons_zero]
      refine wpAnyK_take (i := 11) _ rfl (by kernel_rfl) (fun _ _ _ h => hQp _ _ _ _ h) hS (yields_value (by kernel_rfl) (by intro w0 hw0; have hw1 := hw0; simp only [SO] at hw1; first | (go_simp; done) | (go_simp; rfl))) ?_; simp only [Act.put, List.getElem_toArray, List.getElem_cons_succ, List.getElem_cons_zero, List.setIfInBounds_toArray, List.set_cons_succ, List.set_cons_zero]
      refine wpAnyK_take (i := 12) _ rfl (by kernel_rfl) (fun _ _ _ h => hQp _ _ _ _ h) hS (yields_value (by kernel_rfl) (by intro w0 hw0; have hw1 := hw0; simp only [SO] at hw1; first | (go_simp; done) | (go_simp; rfl))) ?_; simp only [Act.put, List.getElem_toArray, List.getElem_cons_succ, List.getElem_cons_zero, List.setIfInBounds_toArray, List.set_cons_succ, List.set_cons_zero]
      refine wpAnyK_take (i := 13) _ rfl (by kernel_rfl) (fun _ _ _ h => hQp _ _ _ _ h) hS (yields_value (by kernel_rfl) (by intro w0 hw0; have hw1 := hw0; simp only [SO] at hw1; first | (go_simp; done) | (go_simp; rfl))) ?_; simp only [Act.put, List.getElem_toArray, List.getElem_cons_succ, List.getElem_cons_zero, List.setIfInBounds_toArray, List.set_cons_succ, List.set_cons_zero]
      refine wpAnyK_take (i := 14) _ rfl (by kernel_rfl) (fun _ _ _ h => hQp _ _ _ _ h) hS (yields_value (by kernel_rfl) (by intro w0 hw0; have hw1 := hw0; simp only [SO] at hw1; first | (go_simp; done) | (go_simp; rfl))) ?_; simp only [Act.put, List.getElem_toArray, List.getElem_cons_succ, List.getElem_cons_zero, List.setIfInBounds_toArray, List.set_cons_succ, List.set_cons_zero]
      have hwz : wi.heap.size ≤ wa.heap.size := hb0.size
      clear hS
      refine wpAnyK_call (i := 15) rfl (by kernel_rfl) (by kernel_rfl) fun K15 hK15 => ?_
      go_simp
      go_wp2_with fail
      have hb3 : Below wa.heap.size wa (wa.alloc (.cells #[.int .i64 v, .int .i64 j, .int .i64 y] 88)) := by (repeat' (first | with_reducible exact Below.refl _ _ | with_reducible assumption | with_reducible refine Below.drew ?_ | with_reducible refine Below_drewN ?_ _ | with_reducible refine Below.alloc ?_ ?_ _ | with_reducible refine Below.setCell ?_ ?_ _ | omega | (simp; done) | (simp; omega)))
      have hsr : srcRep ruleS (fun _ => False) (wa.alloc (.cells #[.int .i64 v, .int .i64 j, .int .i64 y] 88)) (some ⟨wa.heap.size, 0, none⟩) [⟨v, j, y⟩] := srcRep.rule ⟨v, j, y⟩ rfl hv hjI hyI
      refine hK15 _ _ (fun _ => hS0.under (by omega) (by omega) (by omega) hb3) ?_
      clear hK15
      generalize wa.alloc (.cells #[.int .i64 v, .int .i64 j, .int .i64 y] 88) = wx at *
      have hb4 : Below wi.heap.size wi wx := hb0.trans (hb3.mono hwz)
      have hT4 := hT.under hb4
      have hP4 := hP.under hb4
      have hB4 : Below w.heap.size w wx := hb.trans (hb4.mono hb.size)
      have hown4 := hT4.own s hsn
      have hxz := hb3.size
      refine wpAnyK_call (i := 16) rfl (by kernel_rfl) (by kernel_rfl) fun K16 hK16 => ?_
      refine wp_appR (sh := ruleS) (n := (tabs s).length) (m := 1) (c := 1) (.tmp 44) (.tmp 54) 37 (by rfl) 88 i0 (.agg #[.int .i64 0, .int .i64 0, .int .i64 0]) 24 Try.underlying37 hi hz0 hz1 hz2 rfl (by decide) (ok := fun _ => False) (base := w.heap.size + 1 + 1) (by rfl) hown4 (by rfl) rfl hsr (by simp only [maxLen]; omega) (by omega) (by omega) ?_
      intro ao cap wy ho hg hlie
      have hb5 : Below (w.heap.size + 1 + 1) wx wy := grown_below hg (fun k hk => (hown4.lt k hk).1) (by omega)
      simp only [Act.put, List.getElem_toArray, List.getElem_cons_succ, List.getElem_cons_zero, List.setIfInBounds_toArray, List.set_cons_succ, List.set_cons_zero]
      have hP5 : blockIs wy w.heap.size 30 #[.int .i64 v, .slice fa fls.length fc, .slice (some ⟨gb, go, none⟩) ps.length pc] := hP4.keep (hb5.block _ (by omega))
      have hob5 : wy.cell? ⟨w.heap.size + 1, s, none⟩ = some (.slice (f s).1 (tabs s).length (f s).2) := cell_at hb5 (by omega) (hT4.cell hsn)
      have hfz5 : wy.frozen? ⟨w.heap.size + 1, s, none⟩ = false := by
        have := hb5.frozen (p := ⟨w.heap.size + 1, s, none⟩) (by simp)
        rw [this]; exact hT4.blk.cells.2 s
      have hT5 := hT4.put hsn (by simp) ho hg hlie
      have hS5 : SO (w.heap.size + 1) s w.heap.size qb (qo + (i + 1)) (.slice (f s).1 (tabs s).length (f s).2) v y wy := ⟨hob5, hP5.cells.1 0, cell_at (hB4.trans (hb5.mono (by omega))) hql (by have := e2; exact (hb.cell (p := ⟨qb, qo + (i + 1), none⟩) hql).symm.trans this)⟩
      refine hK16 _ _ (fun _ => hS5) ?_
      clear hK16
      refine wpAnyK_call (i := 17) rfl (by kernel_rfl) (by kernel_rfl) fun K17 hK17 => ?_
      go_simp
      go_wp2_with fail
      refine hK17 _ _ (fun _ => hS5) ?_
      clear hK17
      refine wpAnyK_call (i := 18) rfl (by kernel_rfl) (by kernel_rfl) fun K18 hK18 => ?_
      go_simp
      go_wp2_with fail
      refine hK18 _ _ (fun h => absurd rfl h) ?_
      clear hK18
      refine wpAnyK_done (by kernel_rfl) ?_ _
      refine hR _ _ ?_
      iterate 18 apply Exists.intro
      refine ⟨?_, ⟨ao, cap, hT5, hP5.setOther (by simp) _, (hB4.trans (hb5.mono (by omega))).setCell (p := ⟨w.heap.size + 1, s, none⟩) (Nat.le_succ _) _⟩⟩
      simp only [puts, Act.put, List.setIfInBounds_toArray, List.set_cons_succ, List.set_cons_zero]
      rfl
    rintro a' w8 ⟨v39, v40, v41, v42, v43, v44, v45, v46, v47, v48, v49, v50, v51, v52, v53, v54, v55, v56, rfl, hb8⟩
    simp only [puts, Act.put, List.setIfInBounds_toArray, List.set_cons_succ, List.set_cons_zero]
    obtain ⟨ao, cap, hT8, hP8, hb9⟩ := hb8
    go_wp2
    case roundEnd =>
      go_roundw
      case rel => exact ⟨i + 1, _, _, by go_num, by omega, hT8, hS3, hP8, hb9⟩
      case measure => simp [intOf] <;> omega

end Go.Proofs.Ytagldmdeohenjaa

/-
  The walk of the document's Rules.
-/
set_option linter.unusedSimpArgs false
set_option linter.unusedVariables false
namespace Go.St
open Go.RowKit
theorem pathRules_skip {v f s : Int} {p : List Int} {i : Nat} {a : Int} (ha : p[i]? = some a) (hn : ¬ (a = s ∧ i + 1 < p.length)) : pathRules v f s (p.drop i) = pathRules v f s (p.drop (i + 1)) := by
  by_cases hl : i + 1 < p.length
  · obtain ⟨y, hy⟩ : ∃ y, p[i + 1]? = some y := ⟨_, List.getElem?_eq_getElem hl⟩
    rw [pathRules_step ha hy, if_neg (fun h => hn ⟨h, hl⟩), List.nil_append]
  · rw [pathRules_end (by omega), pathRules_end (by omega)]
/-- what is read for a rule -/
def SU (wb qb qo : Nat) (v y : Int) (w : World) : Prop := w.cell? ⟨wb, 0, none⟩ = some (.int .i64 v) ∧ w.cell? ⟨qb, qo, none⟩ = some (.int .i64 y)
theorem SU.under {wb qb qo N : Nat} {v y : Int} {w w' : World} (h : SU wb qb qo v y w) (h1 : wb < N) (h2 : qb < N) (hb : Below N w w') : SU wb qb qo v y w' := ⟨cell_at hb h1 h.1, cell_at hb h2 h.2⟩
end Go.St
namespace Go.Proofs.Ytagldmdeohenjaa
open Go.RowKit Go.St

set_option maxRecDepth 100000 in
set_option maxHeartbeats 8000000 in
theorem refRules_c (p : Plan) (s : Int) (cs : List Value) (ok : Nat → Prop) (w : World) (h : planS.rep ok w cs p) (hbig : (rulesAt p s).length ≤ 5864062014800) (hpl : p.paths.length ≤ 100000000000000) :
    Calls Try.prog 30 #[.agg cs.toArray, .int .i64 s] w fun e w' => ∃ ao cap, e = .returned (.slice ao (rulesAt p s).length cap) ∧ rowRep ruleS (fun b => w.heap.size ≤ b) w' ao cap (rulesAt p s) ∧ Below w.heap.size w w' := by
  obtain ⟨fa, fc, pa, pc, rfl, hv, hfl, hps⟩ := h
  obtain ⟨v, fls, ps⟩ := p
  dsimp only at *
  obtain ⟨i0, hi, hz0, hz1, hz2⟩ := info_parts info_rulesOf
  have hst : Hid (([] : List Rule) ++ rulesFrom v s ((0 : Nat) : Int) (ps.drop 0) = rulesAt ⟨v, fls, ps⟩ s) := rfl
  have hlx := hps.len_le
  generalize rulesAt ⟨v, fls, ps⟩ s = R at *
  go_enter Try.func30, Try.ntmps30
  go_wp2
  go_loopw [5, 6, 7, 8, 9, 13] (fun ov _ _ _ _ idx wr => ∃ (j : Nat) (out : List Rule) (ao : Option Addr) (cap : Nat), idx = .int .i64 j ∧ j ≤ ps.length ∧ ov = .slice ao out.length cap ∧ ownR ruleS 88 (fun _ => False) (w.heap.size + 1) wr ao out.length cap out ∧ Hid (out ++ rulesFrom v s ((j : Nat) : Int) (ps.drop j) = R) ∧ blockIs wr w.heap.size 30 #[.int .i64 v, .slice fa fls.length fc, .slice pa ps.length pc] ∧ Below w.heap.size w wr) (fun _ _ _ _ _ idx _ => ps.length - (intOf idx).toNat)
  case atStart => exact ⟨0, [], none, 0, rfl, Nat.zero_le _, rfl, ownR.nil' _ _ _ _, hst, blockIs.new rfl, by (repeat' (first | with_reducible exact Below.refl _ _ | with_reducible assumption | with_reducible refine Below.drew ?_ | with_reducible refine Below_drewN ?_ _ | with_reducible refine Below.alloc ?_ ?_ _ | with_reducible refine Below.setCell ?_ ?_ _ | omega | (simp; done) | (simp; omega)))⟩
  case round =>
    clear hst
    obtain ⟨j, out, ao, cap, rfl, hj, rfl, hown, hS, hP, hb⟩ := hrel
    rename World => wo
    obtain ⟨p1, p2⟩ := hP.cells
    have hPl := hP.lt
    by_cases hlt : j < ps.length
    case neg =>
      have hE : out = R := by have := hS.out; rw [rulesFrom_end (by omega), List.append_nil] at this; exact this
      subst hE
      have b1 : ¬ (j : Int) < (ps.length : Int) := by omega
      have hrow : rowRep ruleS (fun b => w.heap.size ≤ b) wo ao cap out := hown.row (fun _ h => h.elim) (fun k hk => by have := (hown.lt k hk).1; omega)
      clear hS hown
      go_wp2
      go_ret; exact ⟨ao, cap, rfl, hrow, hb⟩
    obtain ⟨pp, hpp⟩ : ∃ pp, ps[j]? = some pp := ⟨_, List.getElem?_eq_getElem hlt⟩
    obtain ⟨gb, go, pao, pcap, rfl, hgl, hpr, hce⟩ := sliceRow_get hps hpp
    have e0 := hce _ hb
    have hplen := hpr.len_le
    have b0 : (0 : Int) ≤ (j : Int) := by omega
    have b1 : (j : Int) < (ps.length : Int) := by omega
    have hst : Hid (out ++ (pathRules v j s (pp.drop 0) ++ rulesFrom v s ((j + 1 : Nat) : Int) (ps.drop (j + 1))) = R) := by have := hS.out; rw [rulesFrom_step hpp] at this; exact this
    have hjI : I64 (j : Int) := ⟨by omega, by omega⟩
    clear hS hce hpp
    go_wp2
    clear e0
    go_loopw [5, 8, 9, 20] (fun ov _ _ ii wr => ∃ (i : Nat) (out : List Rule) (ao : Option Addr) (cap : Nat), ii = .int .i64 i ∧ i ≤ pp.length ∧ ov = .slice ao out.length cap ∧ ownR ruleS 88 (fun _ => False) (w.heap.size + 1) wr ao out.length cap out ∧ Hid (out ++ (pathRules v j s (pp.drop i) ++ rulesFrom v s ((j + 1 : Nat) : Int) (ps.drop (j + 1))) = R) ∧ blockIs wr w.heap.size 30 #[.int .i64 v, .slice fa fls.length fc, .slice (some ⟨gb, go, none⟩) ps.length pc] ∧ Below w.heap.size w wr) (fun _ _ _ ii _ => pp.length - (intOf ii).toNat)
    case atStart => exact ⟨0, out, ao, cap, rfl, Nat.zero_le _, rfl, hown, hst, hP, hb⟩
    case round =>
    clear hst hown hP hb p1 p2 hPl
    obtain ⟨i, out, ao, cap, rfl, hi0, rfl, hown, hS, hP, hb⟩ := hrel
    rename World => wi
    obtain ⟨p1, p2⟩ := hP.cells
    have hPl := hP.lt
    by_cases hil : i < pp.length
    case neg =>
      have hS2 : Hid (out ++ rulesFrom v s ((j + 1 : Nat) : Int) (ps.drop (j + 1)) = R) := by have := hS.out; rw [pathRules_end (by omega), List.nil_append] at this; exact this
      have b2 : ¬ (i : Int) < (pp.length : Int) := by omega
      clear hS
      go_wp2
      case roundEnd =>
        go_roundw
        case rel => exact ⟨j + 1, out, ao, cap, by go_num, by omega, rfl, hown, hS2, hP, hb⟩
        case measure => simp [intOf] <;> omega
    obtain ⟨a, ha⟩ : ∃ a, pp[i]? = some a := ⟨_, List.getElem?_eq_getElem hil⟩
    obtain ⟨qb, qo, rfl, hql, haI, hca⟩ := intRow_get hpr ha
    have e1 := hca _ hb
    have b2 : (i : Int) < (pp.length : Int) := by omega
    have b3 : (0 : Int) ≤ (i : Int) := by omega
    have k1 : IntKind.i64.wrap ((i : Int) + 1) = (i : Int) + 1 := IntWalk.i64_in _ (by omega)
    have k2 : IntKind.i64.wrap ((pp.length : Int) - 1) = (pp.length : Int) - 1 := IntWalk.i64_in _ (by omega)
    have hzz := hb.size
    have HSK : Hid (¬ (a = s ∧ i + 1 < pp.length) → out ++ (pathRules v j s (pp.drop (i + 1)) ++ rulesFrom v s ((j + 1 : Nat) : Int) (ps.drop (j + 1))) = R) := fun h => by rw [← pathRules_skip ha h]; exact hS.out
    by_cases has : a = s
    case neg =>
      have b4 : (a == s) = false := by rw [beq_eq_false_iff_ne]; exact has
      have hS3 : Hid (out ++ (pathRules v j s (pp.drop (i + 1)) ++ rulesFrom v s ((j + 1 : Nat) : Int) (ps.drop (j + 1))) = R) := HSK.out fun h => has h.1
      clear hS HSK has hca ha
      go_wp2
      case roundEnd =>
        go_roundw
        case rel => exact ⟨i + 1, out, ao, cap, by go_num, by omega, rfl, hown, hS3, hP, hb⟩
        case measure => simp [intOf] <;> omega
    subst has
    by_cases hlast : i + 1 < pp.length
    case neg =>
      have b5 : ¬ (i : Int) < (pp.length : Int) - 1 := by omega
      have hS3 : Hid (out ++ (pathRules v j a (pp.drop (i + 1)) ++ rulesFrom v a ((j + 1 : Nat) : Int) (ps.drop (j + 1))) = R) := HSK.out fun h => hlast h.2
      clear hS HSK hca ha
      go_wp2
      case roundEnd =>
        go_roundw
        case rel => exact ⟨i + 1, out, ao, cap, by go_num, by omega, rfl, hown, hS3, hP, hb⟩
        case measure => simp [intOf] <;> omega
    obtain ⟨y, hy⟩ : ∃ y, pp[i + 1]? = some y := ⟨_, List.getElem?_eq_getElem hlast⟩
    obtain ⟨qb', qo', hqe, _, hyI, hcy⟩ := intRow_get hpr hy
    obtain ⟨rfl, rfl⟩ : qb = qb' ∧ qo = qo' := by simpa using hqe
    have e2 := hcy _ hb
    have b5 : (i : Int) < (pp.length : Int) - 1 := by omega
    have b6 : (i : Int) + 1 < (pp.length : Int) := by omega
    have hS3 : Hid ((out ++ [⟨v, j, y⟩]) ++ (pathRules v j a (pp.drop (i + 1)) ++ rulesFrom v a ((j + 1 : Nat) : Int) (ps.drop (j + 1))) = R) := by
      have h1 := hS.out
      rw [pathRules_step ha hy, if_pos rfl] at h1
      show _ = R
      rw [← h1]; simp
    have hlen : out.length + 1 ≤ 5864062014800 := by
      have h1 := hS3.out
      rw [← h1] at hbig
      simp only [List.length_append, List.length_cons, List.length_nil] at hbig; omega
    have hll : (out ++ [(⟨v, j, y⟩ : Rule)]).length = out.length + 1 := by simp
    clear hS HSK hca hcy ha hy hqe hlast
    go_wp2
    have hS0 : SU w.heap.size qb (qo + (i + 1)) v y wi.drew := ⟨p1 0, e2⟩
    refine wp_region_to (SU w.heap.size qb (qo + (i + 1)) v y) 99 (fun a0 a' w' => ∃ v5 v35 v36 v37 v38 v39 v40 v41 v42 v43 v44 v45 v46, a' = puts a0 [(5, v5), (35, v35), (36, v36), (37, v37), (38, v38), (39, v39), (40, v40), (41, v41), (42, v42), (43, v43), (44, v44), (45, v45), (46, v46)] ∧ ∃ ao' cap', v5 = .slice ao' (out.length + 1) cap' ∧ ownR ruleS 88 (fun _ => False) (w.heap.size + 1) w' ao' (out.length + 1) cap' (out ++ [⟨v, j, y⟩]) ∧ Below (w.heap.size + 1) wi w') (by kernel_rfl) ?_ ?_
    · intro Q' hR hQp
      have hb0 : Below wi.heap.size wi wi.drew := by (repeat' (first | with_reducible exact Below.refl _ _ | with_reducible assumption | with_reducible refine Below.drew ?_ | with_reducible refine Below_drewN ?_ _ | with_reducible refine Below.alloc ?_ ?_ _ | with_reducible refine Below.setCell ?_ ?_ _ | omega | (simp; done) | (simp; omega)))
      have hS : SU w.heap.size qb (qo + (i + 1)) v y wi.drew := hS0
      generalize wi.drew = wa at *
      refine wpAnyK_take' (i := 0) _ rfl (by kernel_rfl) (fun _ _ _ h => hQp _ _ _ _ h) hS (yields_value (by kernel_rfl) (by intro w0 hw0; have hw1 := hw0; simp only [SU] at hw1; first | (go_simp; done) | (go_simp; rfl))) ?_; simp only [Act.put, List.getElem_toArray, List.getElem_cons_succ, List.getElem_cons_zero, List.setIfInBounds_toArray, List.set_cons_succ, List.set_cons_zero]
      refine wpAnyK_take' (i := 1) _ rfl (by kernel_rfl) (fun _ _ _ h => hQp _ _ _ _ h) hS (yields_value (by kernel_rfl) (by intro w0 hw0; have hw1 := hw0; simp only [SU] at hw1; first | (go_simp; done) | (go_simp; rfl))) ?_; simp only [Act.put, List.getElem_toArray, List.getElem_cons_succ, List.getElem_cons_zero, List.setIfInBounds_toArray, List.set_cons_succ, List.set_cons_zero]
      refine wpAnyK_take' (i := 2) _ rfl (by kernel_rfl) (fun _ _ _ h => hQp _ _ _ _ h) hS (yields_value (by kernel_rfl) (by intro w0 hw0; have hw1 := hw0; simp only [SU] at hw1; first | (go_simp; done) | (go_simp; rfl))) ?_; simp only [Act.put, List.getElem_toArray, List.getElem_cons_succ, List.getElem_cons_zero, List.setIfInBounds_toArray, List.set_cons_succ, List.set_cons_zero]
      refine wpAnyK_take' (i := 3) _ rfl (by kernel_rfl) (fun _ _ _ h => hQp _ _ _ _ h) hS (yields_value (by kernel_rfl) (by intro w0 hw0; have hw1 := hw0; simp only [SU] at hw1; first | (go_simp; done) | (go_simp; rfl))) ?_; simp only [Act.put, List.getElem_toArray, List.getElem_cons_succ, List.getElem_cons_zero, List.setIfInBounds_toArray, List.set_cons_succ, List.set_cons_zero]
      refine wpAnyK_take' (i := 4) _ rfl (by kernel_rfl) (fun _ _ _ h => hQp _ _ _ _ h) hS (yields_value (by kernel_rfl) (by intro w0 hw0; have hw1 := hw0; simp only [SU] at hw1; first | (go_simp; done) | (go_simp; rfl))) ?_; simp only [Act.put, List.getElem_toArray, List.getElem_cons_succ, List.getElem_cons_zero, List.setIfInBounds_toArray, List.set_cons_succ, List.set_cons_zero]
      refine wpAnyK_take' (i := 5) _ rfl (by kernel_rfl) (fun _ _ _ h => hQp _ _ _ _ h) hS (yields_value (by kernel_rfl) (by intro w0 hw0; have hw1 := hw0; simp only [SU] at hw1; first | (go_simp; done) | (go_simp; rfl))) ?_; simp only [Act.put, List.getElem_toArray, List.getElem_cons_succ, List.getElem_cons_zero, List.setIfInBounds_toArray, List.set_cons_succ, List.set_cons_zero]
      refine wpAnyK_take' (i := 6) _ rfl (by kernel_rfl) (fun _ _ _ h => hQp _ _ _ _ h) hS (yields_value (by kernel_rfl) (by intro w0 hw0; have hw1 := hw0; simp only [SU] at hw1; first | (go_simp; done) | (go_simp; rfl))) ?_; simp only [Act.put, List.getElem_toArray, List.getElem_cons_succ, List.getElem_cons_zero, List.setIfInBounds_toArray, List.set_cons_succ, List.set_cons_zero]
      refine wpAnyK_take' (i := 7) _ rfl (by kernel_rfl) (fun _ _ _ h => hQp _ _ _ _ h) hS (yields_value (by kernel_rfl) (by intro w0 hw0; have hw1 := hw0; simp only [SU] at hw1; first | (go_simp; done) | (go_simp; rfl))) ?_; simp only [Act.put, List.getElem_toArray, List.getElem_cons_succ, List.getElem_cons_zero, List.setIfInBounds_toArray, List.set_cons_succ, List.set_cons_zero]
      refine wpAnyK_take' (i := 8) _ rfl (by kernel_rfl) (fun _ _ _ h => hQp _ _ _ _ h) hS (yields_value (by kernel_rfl) (by intro w0 hw0; have hw1 := hw0; simp only [SU] at hw1; first | (go_simp; done) | (go_simp; rfl))) ?_; simp only [Act.put, List.getElem_toArray, List.getElem_cons_succ, List.getElem_cons_zero, List.setIfInBounds_toArray, List.set_cons_succ, List.set_cons_zero]
      refine wpAnyK_take' (i := 9) _ rfl (by kernel_rfl) (fun _ _ _ h => hQp _ _ _ _ h) hS (yields_value (by kernel_rfl) (by intro w0 hw0; have hw1 := hw0; simp only [SU] at hw1; first | (go_simp; done) | (go_simp; rfl))) ?_; simp only [Act.put, List.getElem_toArray, List.getElem_cons_succ, List.getElem_cons_zero, List.setIfInBounds_toArray, List.set_cons_succ, List.set_cons_zero]
      have hwz : wi.heap.size ≤ wa.heap.size := hb0.size
      have hb3 : Below wa.heap.size wa (wa.alloc (.cells #[.int .i64 v, .int .i64 j, .int .i64 y] 88)) := by (repeat' (first | with_reducible exact Below.refl _ _ | with_reducible assumption | with_reducible refine Below.drew ?_ | with_reducible refine Below_drewN ?_ _ | with_reducible refine Below.alloc ?_ ?_ _ | with_reducible refine Below.setCell ?_ ?_ _ | omega | (simp; done) | (simp; omega)))
      have hsr : srcRep ruleS (fun _ => False) (wa.alloc (.cells #[.int .i64 v, .int .i64 j, .int .i64 y] 88)) (some ⟨wa.heap.size, 0, none⟩) [⟨v, j, y⟩] := srcRep.rule ⟨v, j, y⟩ rfl hv hjI hyI
      clear hS
      refine wpAnyK_call (i := 10) rfl (by kernel_rfl) (by kernel_rfl) fun K10 hK10 => ?_
      go_simp
      go_wp2_with fail
      have hS : _ := hS0.under (N := wa.heap.size) (by omega) (by omega) hb3
      refine hK10 _ _ (fun _ => hS) ?_
      clear hK10
      generalize wa.alloc (.cells #[.int .i64 v, .int .i64 j, .int .i64 y] 88) = wx at *
      have hb4 : Below (w.heap.size + 1) wi wx := (hb0.trans (hb3.mono hwz)).mono (by omega)
      have hown4 := hown.below (hb0.trans (hb3.mono hwz))
      have hxz := hb3.size
      clear hS
      refine wpAnyK_call (i := 11) rfl (by kernel_rfl) (by kernel_rfl) fun K11 hK11 => ?_
      refine wp_appR (sh := ruleS) (n := out.length) (m := 1) (c := 1) (.tmp 35) (.tmp 45) 37 (by rfl) 88 i0 (.agg #[.int .i64 0, .int .i64 0, .int .i64 0]) 24 Try.underlying37 hi hz0 hz1 hz2 rfl (by decide) (ok := fun _ => False) (base := w.heap.size + 1) (by rfl) hown4 (by rfl) rfl hsr (by simp only [maxLen]; omega) (by omega) (by omega) ?_
      intro ao' cap' wy ho hg hlie
      have hb5 : Below (w.heap.size + 1) wx wy := grown_below hg (fun k hk => (hown4.lt k hk).1) (by omega)
      simp only [Act.put, List.getElem_toArray, List.getElem_cons_succ, List.getElem_cons_zero, List.setIfInBounds_toArray, List.set_cons_succ, List.set_cons_zero]
      have hb6 : Below (w.heap.size + 1) wi wy := hb4.trans hb5
      have hSw : SU w.heap.size qb (qo + (i + 1)) v y wi := ⟨p1 0, e2⟩
      have hS : _ := hSw.under (by omega) (by omega) hb6
      refine hK11 _ _ (fun _ => hS) ?_
      clear hK11
      refine wpAnyK_take' (i := 12) _ rfl (by kernel_rfl) (fun _ _ _ h => hQp _ _ _ _ h) hS (yields_value (by kernel_rfl) (by intro w0 hw0; have hw1 := hw0; simp only [SU] at hw1; first | (go_simp; done) | (go_simp; rfl))) ?_; simp only [Act.put, List.getElem_toArray, List.getElem_cons_succ, List.getElem_cons_zero, List.setIfInBounds_toArray, List.set_cons_succ, List.set_cons_zero]
      refine wpAnyK_done (by kernel_rfl) ?_ _
      refine hR _ _ ?_
      iterate 13 apply Exists.intro
      refine ⟨?_, ⟨ao', cap', rfl, ho, hb6⟩⟩
      simp only [puts, Act.put, List.setIfInBounds_toArray, List.set_cons_succ, List.set_cons_zero]
      rfl
    rintro a' w8 ⟨v5, v35, v36, v37, v38, v39, v40, v41, v42, v43, v44, v45, v46, rfl, hb8⟩
    simp only [puts, Act.put, List.setIfInBounds_toArray, List.set_cons_succ, List.set_cons_zero]
    obtain ⟨ao', cap', rfl, ho8, hb9⟩ := hb8
    have hP8 := hP.below hb9 (by omega)
    have hB8 : Below w.heap.size w w8 := hb.trans (hb9.mono (by omega))
    go_wp2
    case roundEnd =>
      go_roundw
      case rel => exact ⟨i + 1, _, ao', cap', by go_num, by omega, by rw [hll], by rw [hll]; exact ho8, hS3, hP8, hB8⟩
      case measure => simp [intOf] <;> omega

end Go.Proofs.Ytagldmdeohenjaa

/-
  The plain sense of package topo: what is wrong with a net, what links cost, who reaches whom, what paths cost.
-/
set_option linter.unusedSimpArgs false
set_option linter.unusedVariables false
namespace Go.St

def linkPair (l : Link) : Int × Int := (min l.a l.b, max l.a l.b)
/-- one link, behind those that had been: what is wrong -/
def linkBad (n : Int) (had : List (Int × Int)) (l : Link) : Int :=
  if min l.a l.b < 0 ∨ n ≤ max l.a l.b then 6 else if l.a = l.b then 8 else if l.cost < 1 ∨ 1000 < l.cost then 3 else if linkPair l ∈ had then 7 else 0
def linksBad (n : Int) (had : List (Int × Int)) (i : Int) : List Link → Int × Int
  | [] => (0, 0)
  | l :: r => if linkBad n had l = 0 then linksBad n (had ++ [linkPair l]) (i + 1) r else (linkBad n had l, i)
def topoWrong (t : Topo) : Int × Int := if t.n < 1 ∨ 8 < t.n ∨ 28 < t.links.length then (5, 0) else linksBad t.n [] 0 t.links

def linkIs (a b : Int) (l : Link) : Bool := (l.a == a && l.b == b) || (l.a == b && l.b == a)
def costIn (a b : Int) : List Link → Int
  | [] => 0
  | l :: r => if linkIs a b l then l.cost else costIn a b r
def costOf (t : Topo) (a b : Int) : Int := costIn a b t.links

/-- what a switch reaches by one link, of those up to k, behind what was reached before -/
def visit (t : Topo) (x : Int) (out : List Int) : Nat → List Int
  | 0 => out
  | k + 1 => let o := visit t x out k; if 0 < costOf t x k ∧ (k : Int) ∉ o then o ++ [(k : Int)] else o
/-- from the i-th on, so many rounds at most -/
def reachFrom (t : Topo) : Nat → Nat → List Int → List Int
  | 0, _, out => out
  | f + 1, i, out => match out[i]? with
    | none => out
    | some x => reachFrom t f (i + 1) (visit t x out t.n.toNat)
/-- rising -/
def insertI (x : Int) : List Int → List Int
  | [] => [x]
  | y :: r => if x ≤ y then x :: y :: r else y :: insertI x r
def sortI (l : List Int) : List Int := l.foldr insertI []
def reaches (t : Topo) (s : Int) : List Int := if (topoWrong t).1 ≠ 0 ∨ s < 0 ∨ t.n ≤ s then [] else sortI (reachFrom t 9 0 [s])

/-- what a path costs: behind those switches, at that cost -/
def lengthFrom (t : Topo) (had : List Int) (n : Int) : List Int → Int × Bool
  | [] => (n, !had.isEmpty)
  | s :: r => if s < 0 ∨ t.n ≤ s ∨ s ∈ had then (0, false) else match had.getLast? with
    | none => lengthFrom t [s] n r
    | some q => if costOf t q s = 0 then (0, false) else lengthFrom t (had ++ [s]) (IntKind.i64.wrap (n + costOf t q s)) r
def lengthOf (t : Topo) (p : List Int) : Int × Bool := lengthFrom t [] 0 p

end Go.St

/-
  The plain sense of package paths' search, and what it finds: the least of the cheapest paths that do what was asked for.
-/
set_option linter.unusedSimpArgs false
set_option linter.unusedVariables false
namespace Go.St

def listBad (n src dst : Int) (had : List Int) : List Int → Int
  | [] => 0
  | s :: r => if s < 0 ∨ n ≤ s then 6 else if s = src ∨ s = dst then 8 else if s ∈ had then 7 else listBad n src dst (had ++ [s]) r
def flowBad (n : Int) (f : Flow) : Int :=
  if f.src < 0 ∨ n ≤ f.src ∨ f.dst < 0 ∨ n ≤ f.dst then 6 else if f.src = f.dst then 8
  else if listBad n f.src f.dst [] f.via ≠ 0 then listBad n f.src f.dst [] f.via
  else if listBad n f.src f.dst [] f.no ≠ 0 then listBad n f.src f.dst [] f.no
  else if f.via.any (fun s => decide (s ∈ f.no)) then 8 else 0
def flowsBad (n : Int) (i : Int) : List Flow → Int × Int
  | [] => (0, 0)
  | f :: r => if flowBad n f = 0 then flowsBad n (i + 1) r else (flowBad n f, i)
def flowsWrong (l : List Flow) (n : Int) : Int × Int := if 12 < l.length then (5, 0) else flowsBad n 0 l

def idxIn (x : Int) : List Int → Option Nat
  | [] => none
  | y :: r => if x = y then some 0 else (idxIn x r).map (· + 1)

abbrev Found := Option (List Int) × Int
/-- one child's step: 'rec' searches on -/
def childS (t : Topo) (f : Flow) (p : List Int) (cost : Int) (met : Nat) (rec : List Int → Int → Nat → Found → Found) (k : Nat) (st : Found) : Found :=
  let c := costOf t (p.getLastD 0) k
  if c = 0 ∨ (k : Int) ∈ p ∨ (k : Int) ∈ f.no then st
  else match idxIn (k : Int) f.via with
    | none => rec (p ++ [(k : Int)]) (cost + c) met st
    | some i => if i = met then rec (p ++ [(k : Int)]) (cost + c) (met + 1) st else st
/-- children from k on, so many -/
def childrenS (t : Topo) (f : Flow) (p : List Int) (cost : Int) (met : Nat) (rec : List Int → Int → Nat → Found → Found) : Nat → Found → Found
  | 0, st => st
  | k + 1, st => childS t f p cost met rec k (childrenS t f p cost met rec k st)
def onS (t : Topo) (f : Flow) : Nat → List Int → Int → Nat → Found → Found
  | 0, _, _, _, st => st
  | fuel + 1, p, cost, met, st =>
    if st.1.isSome ∧ st.2 < cost then st
    else if p.getLastD 0 = f.dst then (if met = f.via.length ∧ (st.1 = none ∨ cost < st.2) then (some p, cost) else st)
    else childrenS t f p cost met (onS t f fuel) t.n.toNat st
def findOf (t : Topo) (f : Flow) : List Int × Int :=
  if (topoWrong t).1 ≠ 0 then ([], (topoWrong t).1)
  else if (flowsWrong [f] t.n).1 ≠ 0 then ([], (flowsWrong [f] t.n).1)
  else match (onS t f 9 [f.src] 0 0 (none, 0)).1 with | none => ([], 9) | some p => (p, 0)

/-- over links, over no switch twice -/
def pathCost (t : Topo) : List Int → Int
  | [] => 0
  | [_] => 0
  | a :: b :: r => costOf t a b + pathCost t (b :: r)
def linked (t : Topo) : List Int → Bool
  | [] => true
  | [_] => true
  | a :: b :: r => decide (costOf t a b ≠ 0) && linked t (b :: r)
structure Good (t : Topo) (f : Flow) (q : List Int) : Prop where
  src : q.head? = some f.src
  dst : q.getLast? = some f.dst
  link : linked t q = true
  nodup : q.Nodup
  rng : ∀ s ∈ q, 0 ≤ s ∧ s < t.n
  no : ∀ s ∈ q, s ∉ f.no
  via : q.filter (fun s => decide (s ∈ f.via)) = f.via

def lexLe : List Int → List Int → Bool
  | [], _ => true
  | _ :: _, [] => false
  | a :: r, b :: s => decide (a < b) || (decide (a = b) && lexLe r s)
theorem lexLe_refl : ∀ l, lexLe l l = true
  | [] => rfl
  | a :: r => by simp [lexLe, lexLe_refl r]
theorem lexLe_fork (p : List Int) {a b : Int} (h : a < b) (r s : List Int) : lexLe (p ++ a :: r) (p ++ b :: s) = true := by
  induction p with
  | nil => simp [lexLe, h]
  | cons x p ih => simp [lexLe, ih]

/-- costs of links are not less than nought -/
def CostsOk (t : Topo) : Prop := ∀ a b, 0 ≤ costOf t a b

theorem pathCost_snoc (t : Topo) : ∀ (p : List Int) (k : Int), p ≠ [] → pathCost t (p ++ [k]) = pathCost t p + costOf t (p.getLastD 0) k
  | [], k, h => (h rfl).elim
  | [a], k, _ => by simp [pathCost]
  | a :: b :: r, k, _ => by
    have := pathCost_snoc t (b :: r) k (by simp)
    simp only [List.cons_append, pathCost] at this ⊢
    rw [this]
    have e : (a :: b :: r).getLastD 0 = (b :: r).getLastD 0 := by simp [List.getLastD_eq_getLast?]
    rw [e]; omega
theorem pathCost_nonneg {t : Topo} (h : CostsOk t) : ∀ p, 0 ≤ pathCost t p
  | [] => Int.le_refl 0
  | [_] => Int.le_refl 0
  | a :: b :: r => by have := pathCost_nonneg h (b :: r); have := h a b; simp only [pathCost]; omega
theorem pathCost_ext {t : Topo} (h : CostsOk t) : ∀ (p r : List Int), p ≠ [] → pathCost t p ≤ pathCost t (p ++ r)
  | [], _, h0 => (h0 rfl).elim
  | [a], r, _ => by simp only [pathCost]; exact pathCost_nonneg h _
  | a :: b :: p, r, _ => by
    have := pathCost_ext h (b :: p) r (by simp)
    simp only [List.cons_append, pathCost] at this ⊢
    omega
theorem linked_snoc (t : Topo) : ∀ (p : List Int) (k : Int), p ≠ [] → linked t (p ++ [k]) = (linked t p && decide (costOf t (p.getLastD 0) k ≠ 0))
  | [], k, h => (h rfl).elim
  | [a], k, _ => by simp [linked]
  | a :: b :: r, k, _ => by
    have := linked_snoc t (b :: r) k (by simp)
    simp only [List.cons_append, linked] at this ⊢
    rw [this]
    have e : (a :: b :: r).getLastD 0 = (b :: r).getLastD 0 := by simp [List.getLastD_eq_getLast?]
    rw [e, Bool.and_assoc]
theorem linked_left (t : Topo) : ∀ (p r : List Int), linked t (p ++ r) = true → linked t p = true
  | [], _, _ => rfl
  | [_], _, _ => rfl
  | a :: b :: p, r, h => by
    simp only [List.cons_append, linked, Bool.and_eq_true] at h ⊢
    exact ⟨h.1, linked_left t (b :: p) r h.2⟩

theorem idxIn_none {x : Int} : ∀ {l : List Int}, idxIn x l = none → x ∉ l
  | [], _ => by simp
  | y :: r, h => by
    unfold idxIn at h
    by_cases e : x = y
    · rw [if_pos e] at h; cases h
    · rw [if_neg e] at h
      have := idxIn_none (Option.map_eq_none_iff.1 h)
      simp [e, this]
theorem idxIn_some {x : Int} : ∀ {l : List Int} {i : Nat}, idxIn x l = some i → l[i]? = some x
  | [], _, h => by cases h
  | y :: r, i, h => by
    unfold idxIn at h
    by_cases e : x = y
    · rw [if_pos e] at h; cases h; simp [e]
    · rw [if_neg e] at h
      obtain ⟨j, h1, rfl⟩ := Option.map_eq_some_iff.1 h
      simpa using idxIn_some h1

/-- what holds of a part of a path that is searched on -/
structure Part (t : Topo) (f : Flow) (p : List Int) (cost : Int) (met : Nat) : Prop where
  src : p.head? = some f.src
  link : linked t p = true
  nodup : p.Nodup
  rng : ∀ s ∈ p, 0 ≤ s ∧ s < t.n
  no : ∀ s ∈ p, s ∉ f.no
  via : p.filter (fun s => decide (s ∈ f.via)) = f.via.take met
  le : met ≤ f.via.length
  cost : cost = pathCost t p

def Beats (t : Topo) (st : Found) (q : List Int) : Prop := ∃ b, st.1 = some b ∧ (st.2 < pathCost t q ∨ (st.2 = pathCost t q ∧ lexLe b q = true))
/-- what is found is good -/
def Sound (t : Topo) (f : Flow) (st : Found) : Prop := ∀ b, st.1 = some b → Good t f b ∧ st.2 = pathCost t b
/-- what is found stands ahead of all that goes on from p -/
def Ahead (st : Found) (p : List Int) : Prop := ∀ b, st.1 = some b → ∀ r, lexLe b (p ++ r) = true

theorem Part.ne {t : Topo} {f : Flow} {p : List Int} {cost : Int} {met : Nat} (h : Part t f p cost met) : p ≠ [] := by
  rintro rfl; have := h.src; cases this

theorem nodup_idx {l : List Int} (h : l.Nodup) {i j : Nat} (hi : i < l.length) (hj : j < l.length) (e : l[i] = l[j]) : i = j := by
  have hp := List.pairwise_iff_getElem.1 (List.nodup_iff_pairwise_ne.1 h)
  rcases Nat.lt_trichotomy i j with h1 | h1 | h1
  · exact absurd e (hp i j hi hj h1)
  · exact h1
  · exact absurd e.symm (hp j i hj hi h1)

theorem nodup_lt : ∀ (n : Nat) (p : List Nat), p.Nodup → (∀ x ∈ p, x < n) → p.length ≤ n
  | 0, p, _, h => by
    cases p with
    | nil => simp
    | cons a r => exact absurd (h a (by simp)) (by omega)
  | n + 1, p, hp, h => by
    by_cases hm : n ∈ p
    · have := nodup_lt n (p.erase n) (hp.erase n) fun x hx => by
        have h1 := (hp.mem_erase_iff).1 hx
        have := h x h1.2
        have := h1.1
        omega
      rw [List.length_erase_of_mem hm] at this
      omega
    · have := nodup_lt n p hp fun x hx => by
        have := h x hx
        have : x ≠ n := fun e => hm (e ▸ hx)
        omega
      omega

theorem nodup_len {n : Int} {p : List Int} (hp : p.Nodup) (hr : ∀ s ∈ p, 0 ≤ s ∧ s < n) : p.length ≤ n.toNat := by
  have h1 : (p.map Int.toNat).Nodup := by
    rw [List.nodup_iff_pairwise_ne, List.pairwise_map]
    refine List.Pairwise.imp_of_mem ?_ (List.nodup_iff_pairwise_ne.1 hp)
    intro a b ha hb hne he
    have := hr a ha; have := hr b hb
    exact hne (by omega)
  have := nodup_lt n.toNat (p.map Int.toNat) h1 fun x hx => by
    obtain ⟨a, ha, rfl⟩ := List.mem_map.1 hx
    have := hr a ha
    omega
  simpa using this

theorem last_of {p : List Int} (h : p ≠ []) : p.getLast? = some (p.getLastD 0) := by
  rw [List.getLastD_eq_getLast?, List.getLast?_eq_some_getLast h]; rfl

theorem Beats.of_cost {t : Topo} {st : Found} {q : List Int} {b : List Int} (h : st.1 = some b) (hc : st.2 < pathCost t q) : Beats t st q := ⟨b, h, .inl hc⟩

/-- what a search leaves -/
structure Leaves (t : Topo) (f : Flow) (p : List Int) (st st' : Found) : Prop where
  sound : Sound t f st'
  keeps : ∀ q, Beats t st q → Beats t st' q
  beats : ∀ r, Good t f (p ++ r) → Beats t st' (p ++ r)
  new : st' = st ∨ ∃ b r, st'.1 = some b ∧ b = p ++ r

theorem on_ok {t : Topo} {f : Flow} (hc : CostsOk t) (hv : f.via.Nodup) : ∀ (fuel : Nat) (p : List Int) (cost : Int) (met : Nat) (st : Found), Part t f p cost met → t.n.toNat + 1 ≤ fuel + p.length → Sound t f st → Ahead st p →
    Leaves t f p st (onS t f fuel p cost met st) := by
  intro fuel
  induction fuel with
  | zero =>
    intro p cost met st hp hl
    have := nodup_len hp.nodup hp.rng
    omega
  | succ fuel ih =>
    intro p cost met st hp hl hs ha
    unfold onS
    by_cases h1 : st.1.isSome ∧ st.2 < cost
    · rw [if_pos h1]
      obtain ⟨b, hb⟩ := Option.isSome_iff_exists.1 h1.1
      refine ⟨hs, fun q h => h, fun r hr => Beats.of_cost hb ?_, .inl rfl⟩
      have := pathCost_ext hc p r hp.ne
      have := hp.cost
      omega
    rw [if_neg h1]
    by_cases h2 : p.getLastD 0 = f.dst
    · rw [if_pos h2]
      have hend : ∀ r, Good t f (p ++ r) → r = [] := by
        intro r hr
        cases hrr : r with
        | nil => rfl
        | cons k r' =>
          subst hrr
          exfalso
          have hd := hr.dst
          rw [List.getLast?_append, List.getLast?_eq_some_getLast (by simp : k :: r' ≠ [])] at hd
          simp only [Option.some_or] at hd
          have m1 : f.dst ∈ k :: r' := by
            have := Option.some.inj hd
            rw [← this]; exact List.getLast_mem _
          have m2 : f.dst ∈ p := by
            have := last_of hp.ne
            rw [h2] at this
            exact List.mem_of_getLast? this
          exact (List.nodup_append.1 hr.nodup).2.2 _ m2 _ m1 rfl
      have hgp : met = f.via.length → Good t f p := fun hm =>
        ⟨hp.src, by rw [last_of hp.ne, h2], hp.link, hp.nodup, hp.rng, hp.no, by rw [hp.via, hm, List.take_length]⟩
      by_cases h3 : met = f.via.length ∧ (st.1 = none ∨ cost < st.2)
      · rw [if_pos h3]
        refine ⟨?_, ?_, ?_, .inr ⟨p, [], rfl, by simp⟩⟩
        · intro b hb
          cases hb
          exact ⟨hgp h3.1, hp.cost⟩
        · rintro q ⟨b, hb, hq⟩
          rcases h3.2 with h | h
          · rw [h] at hb; cases hb
          · exact ⟨p, rfl, .inl (by dsimp only; omega)⟩
        · intro r hr
          obtain rfl := hend r hr
          rw [List.append_nil]
          exact ⟨p, rfl, .inr ⟨hp.cost, lexLe_refl p⟩⟩
      · rw [if_neg h3]
        refine ⟨hs, fun q h => h, ?_, .inl rfl⟩
        intro r hr
        obtain rfl := hend r hr
        have hm : met = f.via.length := by
          have h4 := hr.via
          rw [List.append_nil, hp.via] at h4
          have := congrArg List.length h4
          rw [List.length_take] at this
          have := hp.le
          omega
        cases hb : st.1 with
        | none => exact absurd ⟨hm, .inl hb⟩ h3
        | some b =>
          have hge : st.2 ≤ cost := Int.not_lt.1 fun h => h3 ⟨hm, .inr h⟩
          have hpc := hp.cost
          have hl := ha b hb []
          refine ⟨b, hb, ?_⟩
          rw [List.append_nil] at hl ⊢
          rcases Int.lt_or_eq_of_le hge with h | h
          · exact .inl (by omega)
          · exact .inr ⟨by omega, hl⟩
    rw [if_neg h2]
    -- the children
    have main : ∀ m : Nat, m ≤ t.n.toNat → ∃ sm, sm = childrenS t f p cost met (onS t f fuel) m st ∧ Sound t f sm ∧ (∀ q, Beats t st q → Beats t sm q) ∧
        (∀ (k : Nat) (r : List Int), k < m → Good t f (p ++ (k : Int) :: r) → Beats t sm (p ++ (k : Int) :: r)) ∧ (sm = st ∨ ∃ b r, ∃ k : Nat, k < m ∧ sm.1 = some b ∧ b = p ++ (k : Int) :: r) := by
      intro m
      induction m with
      | zero => exact fun _ => ⟨st, rfl, hs, fun q h => h, fun k r hk => by omega, .inl rfl⟩
      | succ m ihm =>
        intro hm
        obtain ⟨sm, hsm, g1, g2, g3, g4⟩ := ihm (by omega)
        simp only [childrenS]
        rw [← hsm]
        -- no child: what stays
        have stay : (∀ r, ¬ Good t f (p ++ (m : Int) :: r)) → ∃ s', s' = sm ∧ Sound t f s' ∧ (∀ q, Beats t st q → Beats t s' q) ∧
            (∀ (k : Nat) (r : List Int), k < m + 1 → Good t f (p ++ (k : Int) :: r) → Beats t s' (p ++ (k : Int) :: r)) ∧ (s' = st ∨ ∃ b r, ∃ k : Nat, k < m + 1 ∧ s'.1 = some b ∧ b = p ++ (k : Int) :: r) := by
          intro hno
          refine ⟨sm, rfl, g1, g2, fun k r hk hg => ?_, g4.imp id fun ⟨b, r, k, hk, h⟩ => ⟨b, r, k, by omega, h⟩⟩
          by_cases hkm : k = m
          · subst hkm; exact absurd hg (hno r)
          · exact g3 k r (by omega) hg
        have ahead : Ahead sm (p ++ [(m : Int)]) := by
          intro b hb r
          rcases g4 with rfl | ⟨b', r', k, hk, hb', rfl⟩
          · have := ha b hb ((m : Int) :: r)
            simpa using this
          · rw [hb'] at hb
            cases hb
            have := lexLe_fork p (show (k : Int) < (m : Int) by omega) r' r
            simpa using this
        have go : ∀ met', Part t f (p ++ [(m : Int)]) (cost + costOf t (p.getLastD 0) m) met' → ∃ s', s' = onS t f fuel (p ++ [(m : Int)]) (cost + costOf t (p.getLastD 0) m) met' sm ∧ Sound t f s' ∧ (∀ q, Beats t st q → Beats t s' q) ∧
            (∀ (k : Nat) (r : List Int), k < m + 1 → Good t f (p ++ (k : Int) :: r) → Beats t s' (p ++ (k : Int) :: r)) ∧ (s' = st ∨ ∃ b r, ∃ k : Nat, k < m + 1 ∧ s'.1 = some b ∧ b = p ++ (k : Int) :: r) := by
          intro met' hpart
          have h := ih (p ++ [(m : Int)]) _ met' sm hpart (by simp; omega) g1 ahead
          refine ⟨_, rfl, h.sound, fun q hq => h.keeps q (g2 q hq), fun k r hk hg => ?_, ?_⟩
          · by_cases hkm : k = m
            · subst hkm
              have := h.beats r (by simpa using hg)
              simpa using this
            · exact h.keeps _ (g3 k r (by omega) hg)
          · rcases h.new with h0 | ⟨b, r, hb, rfl⟩
            · rw [h0]
              exact g4.imp id fun ⟨b, r, k, hk, h⟩ => ⟨b, r, k, by omega, h⟩
            · exact .inr ⟨_, r, m, by omega, hb, by simp⟩
        unfold childS
        dsimp only
        by_cases h3 : costOf t (p.getLastD 0) m = 0 ∨ (m : Int) ∈ p ∨ (m : Int) ∈ f.no
        · rw [if_pos h3]
          refine stay fun r hg => ?_
          rcases h3 with h3 | h3 | h3
          · have h5 := hg.link
            rw [show p ++ (m : Int) :: r = (p ++ [(m : Int)]) ++ r by simp] at h5
            have h6 := linked_left t _ _ h5
            rw [linked_snoc t p m hp.ne, Bool.and_eq_true, decide_eq_true_eq] at h6
            exact h6.2 h3
          · exact (List.nodup_append.1 hg.nodup).2.2 _ h3 _ (by simp) rfl
          · exact hg.no m (by simp) h3
        rw [if_neg h3]
        have c0 : costOf t (p.getLastD 0) m ≠ 0 := fun h => h3 (.inl h)
        have c1 : (m : Int) ∉ p := fun h => h3 (.inr (.inl h))
        have c2 : (m : Int) ∉ f.no := fun h => h3 (.inr (.inr h))
        have hsrc : (p ++ [(m : Int)]).head? = some f.src := by rw [List.head?_append, hp.src]; rfl
        have hlink : linked t (p ++ [(m : Int)]) = true := by rw [linked_snoc t p m hp.ne, hp.link, Bool.true_and, decide_eq_true_eq]; exact c0
        have hnd : (p ++ [(m : Int)]).Nodup := by
          rw [List.nodup_append]
          exact ⟨hp.nodup, List.nodup_cons.2 ⟨by simp, List.nodup_nil⟩, fun a ha b hb e => by
            have hb' : b = (m : Int) := by simpa using hb
            exact c1 (hb' ▸ e ▸ ha)⟩
        have hrng : ∀ s ∈ p ++ [(m : Int)], 0 ≤ s ∧ s < t.n := by
          intro s hs'
          rcases List.mem_append.1 hs' with h | h
          · exact hp.rng s h
          · simp at h; omega
        have hno : ∀ s ∈ p ++ [(m : Int)], s ∉ f.no := by
          intro s hs'
          rcases List.mem_append.1 hs' with h | h
          · exact hp.no s h
          · simp at h; subst h; exact c2
        have hcost : cost + costOf t (p.getLastD 0) m = pathCost t (p ++ [(m : Int)]) := by rw [pathCost_snoc t p m hp.ne, ← hp.cost]
        cases hi : idxIn (m : Int) f.via with
        | none =>
          have hnv := idxIn_none hi
          exact go met ⟨hsrc, hlink, hnd, hrng, hno, by rw [List.filter_append, hp.via]; simp [hnv], hp.le, hcost⟩
        | some i =>
          have hvi := idxIn_some hi
          have hmv : (m : Int) ∈ f.via := List.mem_of_getElem? hvi
          have hil := (List.getElem?_eq_some_iff.1 hvi).1
          dsimp only
          by_cases him : i = met
          · rw [if_pos him]
            subst him
            refine go (i + 1) ⟨hsrc, hlink, hnd, hrng, hno, ?_, by omega, hcost⟩
            rw [List.filter_append, hp.via, List.take_add_one, hvi]
            simp [hmv]
          · rw [if_neg him]
            refine stay fun r hg => him ?_
            have h5 := hg.via
            rw [List.filter_append, hp.via, List.filter_cons, if_pos (by simpa using hmv)] at h5
            have hl2 : (f.via.take met).length = met := by rw [List.length_take]; have := hp.le; omega
            have h6 : f.via[met]? = some (m : Int) := by
              rw [← h5, List.getElem?_append_right (by omega), hl2]; simp
            have hml := (List.getElem?_eq_some_iff.1 h6).1
            have e1 := (List.getElem?_eq_some_iff.1 hvi).2
            have e2 := (List.getElem?_eq_some_iff.1 h6).2
            exact nodup_idx hv hil hml (e1.trans e2.symm)
    obtain ⟨sm, hsm, g1, g2, g3, g4⟩ := main t.n.toNat (Nat.le_refl _)
    rw [← hsm]
    refine ⟨g1, g2, fun r hr => ?_, g4.imp id fun ⟨b, r, k, hk, hb, he⟩ => ⟨b, _, hb, he⟩⟩
    cases r with
    | nil =>
      exfalso
      rw [List.append_nil] at hr
      have := hr.dst
      rw [last_of hp.ne] at this
      exact h2 (Option.some.inj this)
    | cons k r =>
      have hk := hr.rng k (by simp)
      obtain ⟨j, rfl⟩ := Int.eq_ofNat_of_zero_le hk.1
      exact g3 j r (by omega) hr

end Go.St

/-
  Facts of right nets and right flows; what Find finds.
-/
set_option linter.unusedSimpArgs false
set_option linter.unusedVariables false
namespace Go.St

structure LinkOk (n : Int) (l : Link) : Prop where
  a0 : 0 ≤ l.a
  a1 : l.a < n
  b0 : 0 ≤ l.b
  b1 : l.b < n
  ne : l.a ≠ l.b
  c0 : 1 ≤ l.cost
  c1 : l.cost ≤ 1000

theorem linkBad_zero {n : Int} {had : List (Int × Int)} {l : Link} (h : linkBad n had l = 0) : LinkOk n l := by
  unfold linkBad at h
  by_cases h1 : min l.a l.b < 0 ∨ n ≤ max l.a l.b
  · rw [if_pos h1] at h; cases h
  rw [if_neg h1] at h
  by_cases h2 : l.a = l.b
  · rw [if_pos h2] at h; cases h
  rw [if_neg h2] at h
  by_cases h3 : l.cost < 1 ∨ 1000 < l.cost
  · rw [if_pos h3] at h; cases h
  exact ⟨by omega, by omega, by omega, by omega, h2, by omega, by omega⟩

theorem linksBad_zero {n : Int} : ∀ {ls : List Link} {had : List (Int × Int)} {i : Int}, (linksBad n had i ls).1 = 0 → ∀ l ∈ ls, LinkOk n l
  | [], _, _, _ => by simp
  | l :: r, had, i, h => by
    unfold linksBad at h
    by_cases h0 : linkBad n had l = 0
    · rw [if_pos h0] at h
      intro x hx
      rcases List.mem_cons.1 hx with rfl | hx
      · exact linkBad_zero h0
      · exact linksBad_zero h x hx
    · rw [if_neg h0] at h; exact absurd h h0

theorem topo_right {t : Topo} (h : (topoWrong t).1 = 0) : (1 ≤ t.n ∧ t.n ≤ 8 ∧ t.links.length ≤ 28) ∧ ∀ l ∈ t.links, LinkOk t.n l := by
  unfold topoWrong at h
  by_cases h0 : t.n < 1 ∨ 8 < t.n ∨ 28 < t.links.length
  · rw [if_pos h0] at h; cases h
  rw [if_neg h0] at h
  exact ⟨by omega, linksBad_zero h⟩

theorem costIn_range : ∀ (ls : List Link) (n a b : Int), (∀ l ∈ ls, LinkOk n l) → 0 ≤ costIn a b ls ∧ costIn a b ls ≤ 1000
  | [], _, _, _, _ => by simp [costIn]
  | l :: r, n, a, b, h => by
    unfold costIn
    by_cases h0 : linkIs a b l = true
    · rw [if_pos h0]; have := h l (by simp); exact ⟨by have := this.c0; omega, this.c1⟩
    · rw [if_neg h0]; exact costIn_range r n a b fun x hx => h x (by simp [hx])
theorem cost_range {t : Topo} (h : (topoWrong t).1 = 0) (a b : Int) : 0 ≤ costOf t a b ∧ costOf t a b ≤ 1000 := costIn_range _ t.n a b (topo_right h).2

theorem listBad_zero {n s d : Int} : ∀ {l had : List Int}, listBad n s d had l = 0 → l.Nodup ∧ (∀ x ∈ l, (0 ≤ x ∧ x < n) ∧ x ≠ s ∧ x ≠ d ∧ x ∉ had)
  | [], _, _ => by simp
  | x :: r, had, h => by
    unfold listBad at h
    by_cases h1 : x < 0 ∨ n ≤ x
    · rw [if_pos h1] at h; cases h
    rw [if_neg h1] at h
    by_cases h2 : x = s ∨ x = d
    · rw [if_pos h2] at h; cases h
    rw [if_neg h2] at h
    by_cases h3 : x ∈ had
    · rw [if_pos h3] at h; cases h
    rw [if_neg h3] at h
    obtain ⟨g1, g2⟩ := listBad_zero h
    refine ⟨List.nodup_cons.2 ⟨fun hx => (g2 x hx).2.2.2 (by simp), g1⟩, ?_⟩
    intro y hy
    rcases List.mem_cons.1 hy with rfl | hy
    · exact ⟨by omega, fun e => h2 (.inl e), fun e => h2 (.inr e), h3⟩
    · obtain ⟨a, b, c, e⟩ := g2 y hy
      exact ⟨a, b, c, fun hm => e (by simp [hm])⟩

structure FlowOk (n : Int) (f : Flow) : Prop where
  s0 : 0 ≤ f.src
  s1 : f.src < n
  d0 : 0 ≤ f.dst
  d1 : f.dst < n
  ne : f.src ≠ f.dst
  vnd : f.via.Nodup
  via : ∀ x ∈ f.via, (0 ≤ x ∧ x < n) ∧ x ≠ f.src ∧ x ≠ f.dst
  no : ∀ x ∈ f.no, (0 ≤ x ∧ x < n) ∧ x ≠ f.src ∧ x ≠ f.dst
  vno : ∀ x ∈ f.via, x ∉ f.no

theorem flowBad_zero {n : Int} {f : Flow} (h : flowBad n f = 0) : FlowOk n f := by
  unfold flowBad at h
  by_cases h1 : f.src < 0 ∨ n ≤ f.src ∨ f.dst < 0 ∨ n ≤ f.dst
  · rw [if_pos h1] at h; cases h
  rw [if_neg h1] at h
  by_cases h2 : f.src = f.dst
  · rw [if_pos h2] at h; cases h
  rw [if_neg h2] at h
  by_cases h3 : listBad n f.src f.dst [] f.via = 0
  · rw [if_neg (by simp [h3])] at h
    by_cases h4 : listBad n f.src f.dst [] f.no = 0
    · rw [if_neg (by simp [h4])] at h
      by_cases h5 : f.via.any (fun s => decide (s ∈ f.no)) = true
      · rw [if_pos h5] at h; cases h
      obtain ⟨v1, v2⟩ := listBad_zero h3
      obtain ⟨_, n2⟩ := listBad_zero h4
      refine ⟨by omega, by omega, by omega, by omega, h2, v1, fun x hx => ⟨(v2 x hx).1, (v2 x hx).2.1, (v2 x hx).2.2.1⟩, fun x hx => ⟨(n2 x hx).1, (n2 x hx).2.1, (n2 x hx).2.2.1⟩, fun x hx hno => h5 ?_⟩
      exact List.any_eq_true.2 ⟨x, hx, by simpa using hno⟩
    · rw [if_pos h4] at h; exact absurd h h4
  · rw [if_pos h3] at h; exact absurd h h3

theorem flows1 {n : Int} {f : Flow} : (flowsWrong [f] n).1 = flowBad n f := by
  unfold flowsWrong
  rw [if_neg (by simp)]
  simp only [flowsBad]
  by_cases h : flowBad n f = 0
  · rw [if_pos h]; exact h.symm
  · rw [if_neg h]

theorem flow_via_len {n : Int} {f : Flow} (h : FlowOk n f) : f.via.length ≤ n.toNat := nodup_len h.vnd fun x hx => (h.via x hx).1

/-- the search from a flow's beginning -/
theorem search_leaves {t : Topo} {f : Flow} (ht : (topoWrong t).1 = 0) (hf : FlowOk t.n f) : Leaves t f [f.src] (none, 0) (onS t f 9 [f.src] 0 0 (none, 0)) := by
  obtain ⟨⟨h1, h2, _⟩, _⟩ := topo_right ht
  refine on_ok (fun a b => (cost_range ht a b).1) hf.vnd 9 [f.src] 0 0 (none, 0) ?_ (by simp; omega) (by intro b hb; cases hb) (by intro b hb; cases hb)
  refine ⟨rfl, rfl, by simp, ?_, ?_, ?_, Nat.zero_le _, rfl⟩
  · intro s hs; simp at hs; subst hs; exact ⟨hf.s0, hf.s1⟩
  · intro s hs hno; simp at hs; subst hs; exact (hf.no _ hno).2.1 rfl
  · have : f.src ∉ f.via := fun h => (hf.via _ h).2.1 rfl
    simp [this]

/-- what Find finds is good, and no other good path is before it -/
theorem find_good {t : Topo} {f : Flow} (h : (findOf t f).2 = 0) : (topoWrong t).1 = 0 ∧ FlowOk t.n f ∧ Good t f (findOf t f).1 ∧ ∀ q, Good t f q → pathCost t (findOf t f).1 < pathCost t q ∨ (pathCost t (findOf t f).1 = pathCost t q ∧ lexLe (findOf t f).1 q = true) := by
  unfold findOf at h ⊢
  by_cases h1 : (topoWrong t).1 = 0
  case neg => rw [if_pos h1] at h; exact absurd h h1
  rw [if_neg (by simp [h1])] at h ⊢
  by_cases h2 : (flowsWrong [f] t.n).1 = 0
  case neg => rw [if_pos h2] at h; exact absurd h h2
  rw [if_neg (by simp [h2])] at h ⊢
  have hf := flowBad_zero (flows1 ▸ h2)
  have L := search_leaves h1 hf
  cases hb : (onS t f 9 [f.src] 0 0 (none, 0)).1 with
  | none => rw [hb] at h; cases h
  | some p =>
    rw [hb] at h
    obtain ⟨g1, g2⟩ := L.sound p hb
    refine ⟨h1, hf, g1, fun q hq => ?_⟩
    obtain ⟨s, r, rfl⟩ : ∃ s r, q = s :: r := by cases q with | nil => have := hq.src; cases this | cons s r => exact ⟨s, r, rfl⟩
    obtain rfl : s = f.src := by have := hq.src; simpa using this
    obtain ⟨b, hb', hc⟩ := L.beats r hq
    rw [hb] at hb'
    obtain rfl := Option.some.inj hb'
    rw [g2] at hc
    exact hc


end Go.St

/-
  Who reaches whom, plainly.
-/
set_option linter.unusedSimpArgs false
set_option linter.unusedVariables false
namespace Go.St

theorem insertI_perm (x : Int) : ∀ l : List Int, (insertI x l).Perm (x :: l)
  | [] => List.Perm.refl _
  | y :: r => by
    unfold insertI
    by_cases h : x ≤ y
    · rw [if_pos h]
    · rw [if_neg h]; exact ((insertI_perm x r).cons y).trans (List.Perm.swap x y r)
theorem sortI_perm : ∀ l : List Int, (sortI l).Perm l
  | [] => List.Perm.refl _
  | x :: r => (insertI_perm x (sortI r)).trans ((sortI_perm r).cons x)
theorem insertI_sorted (x : Int) : ∀ l : List Int, l.Pairwise (· ≤ ·) → (insertI x l).Pairwise (· ≤ ·)
  | [], _ => by simp [insertI]
  | y :: r, h => by
    unfold insertI
    rw [List.pairwise_cons] at h
    by_cases hx : x ≤ y
    · rw [if_pos hx, List.pairwise_cons]
      refine ⟨fun z hz => ?_, List.pairwise_cons.2 h⟩
      rcases List.mem_cons.1 hz with rfl | hz
      · exact hx
      · exact Int.le_trans hx (h.1 z hz)
    · rw [if_neg hx, List.pairwise_cons]
      refine ⟨fun z hz => ?_, insertI_sorted x r h.2⟩
      rcases List.mem_cons.1 ((insertI_perm x r).mem_iff.1 hz) with rfl | hz
      · omega
      · exact h.1 z hz
theorem sortI_sorted : ∀ l : List Int, (sortI l).Pairwise (· ≤ ·)
  | [] => List.Pairwise.nil
  | x :: r => insertI_sorted x _ (sortI_sorted r)
theorem sortI_merge (l : List Int) : l.mergeSort (fun x y => decide (x ≤ y)) = sortI l := by
  have h1 := List.pairwise_mergeSort (le := fun x y : Int => decide (x ≤ y)) (by simp; omega) (by simp; omega) l
  simp only [decide_eq_true_eq] at h1
  exact List.Perm.eq_of_pairwise (le := (· ≤ ·)) (fun a b _ _ h h' => Int.le_antisymm h h') h1 (sortI_sorted l) ((List.mergeSort_perm _ _).trans (sortI_perm l).symm)

theorem sorted_eq {a b : List Int} (ha : a.Pairwise (· < ·)) (hb : b.Pairwise (· < ·)) (h : ∀ x, x ∈ a ↔ x ∈ b) : a = b := by
  refine List.Perm.eq_of_pairwise (le := (· ≤ ·)) (fun a b _ _ h h' => Int.le_antisymm h h') (ha.imp fun h => Int.le_of_lt h) (hb.imp fun h => Int.le_of_lt h) ?_
  have na : a.Nodup := ha.imp fun h => by omega
  have nb : b.Nodup := hb.imp fun h => by omega
  exact (List.perm_ext_iff_of_nodup na nb).2 h

/-! One round. -/
theorem visit_mem {t : Topo} {x y : Int} {o : List Int} : ∀ {k : Nat}, y ∈ visit t x o k ↔ y ∈ o ∨ ∃ j : Nat, j < k ∧ y = j ∧ 0 < costOf t x j
  | 0 => by simp [visit]
  | k + 1 => by
    have ih := @visit_mem t x y o k
    simp only [visit]
    by_cases hc : 0 < costOf t x k ∧ (k : Int) ∉ visit t x o k
    · rw [if_pos hc, List.mem_append, ih, List.mem_singleton]
      constructor
      · rintro ((h | ⟨j, hj, h⟩) | h)
        · exact .inl h
        · exact .inr ⟨j, by omega, h⟩
        · exact .inr ⟨k, by omega, h, hc.1⟩
      · rintro (h | ⟨j, hj, h, h'⟩)
        · exact .inl (.inl h)
        · by_cases hjk : j = k
          · subst hjk; exact .inr h
          · exact .inl (.inr ⟨j, by omega, h, h'⟩)
    · rw [if_neg hc, ih]
      constructor
      · rintro (h | ⟨j, hj, h⟩)
        · exact .inl h
        · exact .inr ⟨j, by omega, h⟩
      · rintro (h | ⟨j, hj, h, h'⟩)
        · exact .inl h
        · by_cases hjk : j = k
          · subst hjk
            have : (j : Int) ∈ visit t x o j := by
              by_cases hm : (j : Int) ∈ visit t x o j
              · exact hm
              · exact absurd ⟨h', hm⟩ hc
            rw [h]
            exact visit_mem.1 this
          · exact .inr ⟨j, by omega, h, h'⟩
theorem visit_pre (t : Topo) (x : Int) (o : List Int) : ∀ k, o <+: visit t x o k
  | 0 => List.prefix_refl _
  | k + 1 => by
    simp only [visit]
    split
    · exact (visit_pre t x o k).trans (List.prefix_append _ _)
    · exact visit_pre t x o k
theorem visit_nodup {t : Topo} {x : Int} {o : List Int} (h : o.Nodup) : ∀ k, (visit t x o k).Nodup
  | 0 => h
  | k + 1 => by
    simp only [visit]
    split
    · rename_i hc
      rw [List.nodup_append]
      exact ⟨visit_nodup h k, by simp, fun a ha b hb e => hc.2 (by simp at hb; subst hb; rwa [← e])⟩
    · exact visit_nodup h k
theorem visit_range {t : Topo} {x : Int} {o : List Int} (h : ∀ y ∈ o, 0 ≤ y ∧ y < t.n) {k : Nat} (hk : (k : Int) ≤ t.n) : ∀ y ∈ visit t x o k, 0 ≤ y ∧ y < t.n := by
  intro y hy
  rcases visit_mem.1 hy with hy | ⟨j, hj, rfl, _⟩
  · exact h y hy
  · omega
theorem prefix_get {o o' : List Int} (h : o <+: o') {i : Nat} {x : Int} (hx : o[i]? = some x) : o'[i]? = some x := by
  obtain ⟨r, rfl⟩ := h
  rw [List.getElem?_append_left (List.getElem?_eq_some_iff.1 hx).1]
  exact hx

theorem reach_step {t : Topo} {f i : Nat} {o c : List Int} {x : Int} (h : c = reachFrom t (f + 1) i o) (hx : o[i]? = some x) : c = reachFrom t f (i + 1) (visit t x o t.n.toNat) := by
  rw [h]; simp only [reachFrom, hx]
theorem reach_end {t : Topo} {f i : Nat} {o c : List Int} (h : c = reachFrom t f i o) (hx : ¬ i < o.length) : c = o := by
  rw [h]
  cases f with
  | zero => rfl
  | succ f => simp only [reachFrom, List.getElem?_eq_none (Nat.le_of_not_lt hx)]

/-! The whole: x is reached just if there is a way of links. -/
inductive Way (t : Topo) : Int → Int → Prop where
  | refl (a : Int) : Way t a a
  | step {a b c : Int} : Way t a b → 0 < costOf t b c → 0 ≤ c → c < t.n → Way t a c
theorem Way.trans {t : Topo} {a b c : Int} (h : Way t a b) (k : Way t b c) : Way t a c := by
  induction k with
  | refl => exact h
  | step _ hc h0 h1 ih => exact .step ih hc h0 h1

/-- what was gone through has nothing new behind it; what was reached has a way -/
structure Round (t : Topo) (s : Int) (i : Nat) (o : List Int) : Prop where
  le : i ≤ o.length
  nd : o.Nodup
  rng : ∀ y ∈ o, 0 ≤ y ∧ y < t.n
  way : ∀ y ∈ o, Way t s y
  first : s ∈ o
  shut : ∀ j, j < i → ∀ x, o[j]? = some x → ∀ y : Int, 0 ≤ y → y < t.n → 0 < costOf t x y → y ∈ o
theorem Round.next {t : Topo} {s : Int} {i : Nat} {o : List Int} (h : Round t s i o) {x : Int} (hx : o[i]? = some x) : Round t s (i + 1) (visit t x o t.n.toNat) := by
  have hp := visit_pre t x o t.n.toNat
  have hi := (List.getElem?_eq_some_iff.1 hx).1
  refine ⟨by have := hp.length_le; omega, visit_nodup h.nd _, ?_, ?_, hp.subset h.first, ?_⟩
  · by_cases hn : 0 ≤ t.n
    · exact visit_range h.rng (by omega)
    · intro y hy
      rcases visit_mem.1 hy with hy | ⟨j, hj, _⟩
      · exact h.rng y hy
      · omega
  · intro y hy
    rcases visit_mem.1 hy with hy | ⟨j, hj, rfl, hc⟩
    · exact h.way y hy
    · exact .step (h.way x (List.mem_of_getElem? hx)) hc (by omega) (by omega)
  · intro j hj z hz y h0 h1 hc
    have hz' : o[j]? = some z := by
      have hjl : j < o.length := by omega
      have := prefix_get hp (List.getElem?_eq_getElem hjl)
      rw [List.getElem?_eq_getElem hjl, ← hz, ← this]
    by_cases hji : j = i
    · subst hji
      obtain rfl : x = z := Option.some.inj (hx.symm.trans hz')
      exact visit_mem.2 (.inr ⟨y.toNat, by omega, by omega, by rwa [show ((y.toNat : Nat) : Int) = y by omega]⟩)
    · exact hp.subset (h.shut j (by omega) z hz' y h0 h1 hc)
theorem Round.len {t : Topo} {s : Int} {i : Nat} {o : List Int} (h : Round t s i o) : o.length ≤ t.n.toNat := nodup_len h.nd h.rng
theorem Round.all {t : Topo} {s : Int} {o : List Int} (h : Round t s o.length o) {y : Int} : y ∈ o ↔ Way t s y := by
  constructor
  · exact h.way y
  · intro hw
    induction hw with
    | refl => exact h.first
    | step _ hc h0 h1 ih =>
      obtain ⟨j, hj⟩ := List.getElem?_of_mem ih
      exact h.shut j (List.getElem?_eq_some_iff.1 hj).1 _ hj _ h0 h1 hc
theorem Round.start {t : Topo} {s : Int} (h0 : 0 ≤ s) (h1 : s < t.n) : Round t s 0 [s] :=
  ⟨by simp, by simp, by simpa using ⟨h0, h1⟩, by simpa using Way.refl s, by simp, fun j hj => by omega⟩
theorem reachFrom_all {t : Topo} {s : Int} (hn : t.n ≤ 8) : ∀ (f i : Nat) (o : List Int), Round t s i o → 9 ≤ f + i → Round t s (reachFrom t f i o).length (reachFrom t f i o)
  | 0, i, o, h, hf => by have := h.len; have := h.le; omega
  | f + 1, i, o, h, hf => by
    simp only [reachFrom]
    cases hx : o[i]? with
    | none =>
      have h1 := List.getElem?_eq_none_iff.1 hx
      have h2 := h.le
      have : o.length = i := by omega
      simp only
      rw [this]; exact h
    | some x => exact reachFrom_all hn f (i + 1) _ (h.next hx) (by omega)

/-- no more than right nets and switches are looked at -/
theorem reaches_nil {t : Topo} {s : Int} (h : (topoWrong t).1 ≠ 0 ∨ s < 0 ∨ t.n ≤ s) : reaches t s = [] := by unfold reaches; rw [if_pos h]
theorem reaches_some {t : Topo} {s : Int} (h : (topoWrong t).1 = 0) (h0 : 0 ≤ s) (h1 : s < t.n) : reaches t s = sortI (reachFrom t 9 0 [s]) := by unfold reaches; rw [if_neg (by simp [h]; omega)]
theorem mem_reaches {t : Topo} {s y : Int} (h : (topoWrong t).1 = 0) (h0 : 0 ≤ s) (h1 : s < t.n) : y ∈ reaches t s ↔ Way t s y := by
  rw [reaches_some h h0 h1, (sortI_perm _).mem_iff]
  exact (reachFrom_all (topo_right h).1.2.1 9 0 [s] (Round.start h0 h1) (by omega)).all
theorem reaches_range {t : Topo} {s y : Int} (hy : y ∈ reaches t s) : 0 ≤ y ∧ y < t.n := by
  by_cases h : (topoWrong t).1 ≠ 0 ∨ s < 0 ∨ t.n ≤ s
  · rw [reaches_nil h] at hy; cases hy
  simp only [not_or, ne_eq, Decidable.not_not] at h
  rw [reaches_some h.1 (by omega) (by omega), (sortI_perm _).mem_iff] at hy
  exact (reachFrom_all (topo_right h.1).1.2.1 9 0 [s] (Round.start (by omega) (by omega)) (by omega)).rng y hy
theorem reaches_rising {t : Topo} {s : Int} : (reaches t s).Pairwise (· < ·) := by
  by_cases h : (topoWrong t).1 ≠ 0 ∨ s < 0 ∨ t.n ≤ s
  · rw [reaches_nil h]; exact List.Pairwise.nil
  simp only [not_or, ne_eq, Decidable.not_not] at h
  rw [reaches_some h.1 (by omega) (by omega)]
  have hr := reachFrom_all (topo_right h.1).1.2.1 9 0 [s] (Round.start (show 0 ≤ s by omega) (by omega)) (by omega)
  have hnd : (sortI (reachFrom t 9 0 [s])).Nodup := (sortI_perm _).nodup_iff.2 hr.nd
  exact List.Pairwise.imp (fun h => by omega) (List.Pairwise.and (sortI_sorted _) hnd)
theorem reaches_len {t : Topo} {s : Int} : (reaches t s).length ≤ 8 := by
  by_cases h : (topoWrong t).1 ≠ 0 ∨ s < 0 ∨ t.n ≤ s
  · rw [reaches_nil h]; simp
  simp only [not_or, ne_eq, Decidable.not_not] at h
  have hr := reachFrom_all (topo_right h.1).1.2.1 9 0 [s] (Round.start (show 0 ≤ s by omega) (by omega)) (by omega)
  rw [reaches_some h.1 (by omega) (by omega), (sortI_perm _).length_eq]
  have := hr.len
  have := (topo_right h.1).1.2.1
  omega

theorem linkIs_symm (a b : Int) (l : Link) : linkIs a b l = linkIs b a l := by
  unfold linkIs; rw [Bool.or_comm]
theorem cost_symm (t : Topo) (a b : Int) : costOf t a b = costOf t b a := by
  unfold costOf
  induction t.links with
  | nil => rfl
  | cons l r ih => simp only [costIn]; rw [linkIs_symm, ih]
theorem costIn_src {a b : Int} : ∀ {ls : List Link}, 0 < costIn a b ls → ∃ l ∈ ls, linkIs a b l = true
  | [], h => by simp [costIn] at h
  | l :: r, h => by
    unfold costIn at h
    by_cases h0 : linkIs a b l = true
    · exact ⟨l, by simp, h0⟩
    · rw [if_neg h0] at h
      obtain ⟨k, hk, h1⟩ := costIn_src h
      exact ⟨k, by simp [hk], h1⟩
theorem cost_range2 {t : Topo} (ht : (topoWrong t).1 = 0) {a b : Int} (h : 0 < costOf t a b) : (0 ≤ a ∧ a < t.n) ∧ (0 ≤ b ∧ b < t.n) := by
  obtain ⟨l, hl, h1⟩ := costIn_src h
  have hk := (topo_right ht).2 l hl
  have := hk.a0; have := hk.a1; have := hk.b0; have := hk.b1
  unfold linkIs at h1
  simp only [Bool.or_eq_true, Bool.and_eq_true, beq_iff_eq] at h1
  omega
theorem Way.back {t : Topo} (ht : (topoWrong t).1 = 0) {a b : Int} (h : Way t a b) : Way t b a := by
  induction h with
  | refl => exact .refl _
  | step _ hc h0 h1 ih =>
    have hr := cost_range2 ht hc
    exact Way.trans (.step (.refl _) (by rwa [cost_symm]) hr.1.1 hr.1.2) ih
end Go.St

/-
  Nothing: this seat lacks what this text is about.
-/

/-
  The plain sense of package wire: what is wrong with an order, its bytes, and the order of bytes.
-/
namespace Go.St

def ruleOk (v : Int) (r : Rule) : Bool := r.ver == v && (decide (0 ≤ r.flow) && (decide (r.flow < 12) && (decide (0 ≤ r.next) && decide (r.next < 8))))

def flowsOk : Int → List Int → Bool
  | _, [] => true
  | last, f :: l => decide (last < f) && (decide (0 ≤ f) && (decide (f < 12) && flowsOk f l))

def wireWrong (o : Order) : Int :=
  if o.num < 1 ∨ 100000 < o.num ∨ o.ver < 1 ∨ 1000 < o.ver then 3
  else if o.kind = 1 then (if 16 < o.rules.length then 5 else if o.rules.all (ruleOk o.ver) then 0 else 3)
  else if o.kind = 2 then (if 12 < o.flows.length then 5 else if flowsOk (-1) o.flows then 0 else 3)
  else if o.kind = 3 then 0 else 1

end Go.St
