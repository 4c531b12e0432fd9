/-
  The plain data of the program as Lean data, and how each lies in cells.
-/
import Derived.Test.YtpfapfgfchenoaaDoorRep
namespace Go.St
open Go.RowKit

structure Link where
  a : Int
  b : Int
  cost : Int
deriving DecidableEq

structure Topo where
  n : Int
  links : List Link
deriving DecidableEq

structure Flow where
  src : Int
  dst : Int
  via : List Int
  no : List Int
deriving DecidableEq

structure Rule where
  ver : Int
  flow : Int
  next : Int
deriving DecidableEq

structure Plan where
  ver : Int
  flows : List Flow
  paths : List (List Int)
deriving DecidableEq

structure Order where
  kind : Int
  num : Int
  ver : Int
  rules : List Rule
  flows : List Int
deriving DecidableEq

structure To where
  sw : Int
  order : Order
deriving DecidableEq

structure Stamp where
  flow : Int
  ver : Int
deriving DecidableEq

structure Switch where
  rules : List Rule
  stamps : List Stamp
deriving DecidableEq

structure Packet where
  flow : Int
  ver : Int
  trace : List Int
  done : Bool
deriving DecidableEq

structure Ctl where
  stage : Int
  now : Plan
  next : Plan
  num : Int
  waits : List Int
deriving DecidableEq

structure Do where
  kind : Int
  n : Int
  flows : List Flow
deriving DecidableEq

structure Net where
  ctl : Ctl
  switches : List Switch
  orders : List (List Order)
  backs : List (List Int)
  packets : List Packet
  plans : List Plan
deriving DecidableEq

def linkS : Shape Link where
  size := 3
  rep _ _ cs l := cs = [.int .i64 l.a, .int .i64 l.b, .int .i64 l.cost] ∧ I64 l.a ∧ I64 l.b ∧ I64 l.cost
  len h := by rw [h.1]; rfl
  one h := by rw [h.1]; simp [Value.oneCell']
  mono h _ := h

def ruleS : Shape Rule where
  size := 3
  rep _ _ cs r := cs = [.int .i64 r.ver, .int .i64 r.flow, .int .i64 r.next] ∧ I64 r.ver ∧ I64 r.flow ∧ I64 r.next
  len h := by rw [h.1]; rfl
  one h := by rw [h.1]; simp [Value.oneCell']
  mono h _ := h

def stampS : Shape Stamp where
  size := 2
  rep _ _ cs r := cs = [.int .i64 r.flow, .int .i64 r.ver] ∧ I64 r.flow ∧ I64 r.ver
  len h := by rw [h.1]; rfl
  one h := by rw [h.1]; simp [Value.oneCell']
  mono h _ := h

def topoS : Shape Topo where
  size := 2
  rep ok w cs t := ∃ ao cap, cs = [.int .i64 t.n, .slice ao t.links.length cap] ∧ I64 t.n ∧ rowRep linkS ok w ao cap t.links
  len h := by obtain ⟨_, _, rfl, _⟩ := h; rfl
  one h := by obtain ⟨_, _, rfl, _⟩ := h; simp [Value.oneCell']
  mono h hk := by
    obtain ⟨ao, cap, rfl, h1, h2⟩ := h
    exact ⟨ao, cap, rfl, h1, h2.mono hk⟩

def flowS : Shape Flow where
  size := 4
  rep ok w cs f := ∃ va vc na nc, cs = [.int .i64 f.src, .int .i64 f.dst, .slice va f.via.length vc, .slice na f.no.length nc] ∧ I64 f.src ∧ I64 f.dst ∧ rowRep intS ok w va vc f.via ∧ rowRep intS ok w na nc f.no
  len h := by obtain ⟨_, _, _, _, rfl, _⟩ := h; rfl
  one h := by obtain ⟨_, _, _, _, rfl, _⟩ := h; simp [Value.oneCell']
  mono h hk := by
    obtain ⟨va, vc, na, nc, rfl, h1, h2, h3, h4⟩ := h
    exact ⟨va, vc, na, nc, rfl, h1, h2, h3.mono hk, h4.mono hk⟩

def orderS : Shape Order where
  size := 5
  rep ok w cs o := ∃ ra rc fa fc, cs = [.int .i64 o.kind, .int .i64 o.num, .int .i64 o.ver, .slice ra o.rules.length rc, .slice fa o.flows.length fc] ∧
    I64 o.kind ∧ I64 o.num ∧ I64 o.ver ∧ rowRep ruleS ok w ra rc o.rules ∧ rowRep intS ok w fa fc o.flows
  len h := by obtain ⟨_, _, _, _, rfl, _⟩ := h; rfl
  one h := by obtain ⟨_, _, _, _, rfl, _⟩ := h; simp [Value.oneCell']
  mono h hk := by
    obtain ⟨va, vc, na, nc, rfl, h1, h2, h3, h4, h5⟩ := h
    exact ⟨va, vc, na, nc, rfl, h1, h2, h3, h4.mono hk, h5.mono hk⟩

def toS : Shape To where
  size := 6
  rep ok w cs t := ∃ ds, cs = .int .i64 t.sw :: ds ∧ I64 t.sw ∧ orderS.rep ok w ds t.order
  len h := by obtain ⟨_, rfl, _, h⟩ := h; simp [orderS.len h]; rfl
  one h := by
    obtain ⟨_, rfl, _, h⟩ := h
    intro c hc
    rcases List.mem_cons.1 hc with rfl | hc
    · rfl
    · exact orderS.one h c hc
  mono h hk := by
    obtain ⟨ds, rfl, h1, h⟩ := h
    exact ⟨ds, rfl, h1, orderS.mono h hk⟩

def planS : Shape Plan where
  size := 3
  rep ok w cs p := ∃ fa fc pa pc, cs = [.int .i64 p.ver, .slice fa p.flows.length fc, .slice pa p.paths.length pc] ∧ I64 p.ver ∧ rowRep flowS ok w fa fc p.flows ∧ rowRep (sliceS intS) ok w pa pc p.paths
  len h := by obtain ⟨_, _, _, _, rfl, _⟩ := h; rfl
  one h := by obtain ⟨_, _, _, _, rfl, _⟩ := h; simp [Value.oneCell']
  mono h hk := by
    obtain ⟨va, vc, na, nc, rfl, h1, h2, h3⟩ := h
    exact ⟨va, vc, na, nc, rfl, h1, h2.mono hk, h3.mono hk⟩

def switchS : Shape Switch where
  size := 2
  rep ok w cs s := ∃ ra rc sa sc, cs = [.slice ra s.rules.length rc, .slice sa s.stamps.length sc] ∧ rowRep ruleS ok w ra rc s.rules ∧ rowRep stampS ok w sa sc s.stamps
  len h := by obtain ⟨_, _, _, _, rfl, _⟩ := h; rfl
  one h := by obtain ⟨_, _, _, _, rfl, _⟩ := h; simp [Value.oneCell']
  mono h hk := by
    obtain ⟨va, vc, na, nc, rfl, h2, h3⟩ := h
    exact ⟨va, vc, na, nc, rfl, h2.mono hk, h3.mono hk⟩

def packetS : Shape Packet where
  size := 4
  rep ok w cs p := ∃ ta tc, cs = [.int .i64 p.flow, .int .i64 p.ver, .slice ta p.trace.length tc, .bool p.done] ∧ I64 p.flow ∧ I64 p.ver ∧ rowRep intS ok w ta tc p.trace
  len h := by obtain ⟨_, _, rfl, _⟩ := h; rfl
  one h := by obtain ⟨_, _, rfl, _⟩ := h; simp [Value.oneCell']
  mono h hk := by
    obtain ⟨ta, tc, rfl, h1, h2, h3⟩ := h
    exact ⟨ta, tc, rfl, h1, h2, h3.mono hk⟩

def ctlS : Shape Ctl where
  size := 9
  rep ok w cs c := ∃ ns xs wa wc, cs = .int .i64 c.stage :: (ns ++ xs ++ [.int .i64 c.num, .slice wa c.waits.length wc]) ∧ I64 c.stage ∧ I64 c.num ∧ planS.rep ok w ns c.now ∧ planS.rep ok w xs c.next ∧ rowRep intS ok w wa wc c.waits
  len h := by obtain ⟨_, _, _, _, rfl, _, _, h1, h2, _⟩ := h; simp [planS.len h1, planS.len h2]; rfl
  one h := by
    obtain ⟨_, _, _, _, rfl, _, _, h1, h2, _⟩ := h
    intro c hc
    simp only [List.mem_cons, List.mem_append, List.not_mem_nil, or_false] at hc
    rcases hc with rfl | (hc | hc) | rfl | rfl
    · rfl
    · exact planS.one h1 c hc
    · exact planS.one h2 c hc
    · rfl
    · rfl
  mono h hk := by
    obtain ⟨ns, xs, wa, wc, rfl, h1, h2, h3, h4, h5⟩ := h
    exact ⟨ns, xs, wa, wc, rfl, h1, h2, planS.mono h3 hk, planS.mono h4 hk, h5.mono hk⟩

def doS : Shape Do where
  size := 3
  rep ok w cs d := ∃ fa fc, cs = [.int .i64 d.kind, .int .i64 d.n, .slice fa d.flows.length fc] ∧ I64 d.kind ∧ I64 d.n ∧ rowRep flowS ok w fa fc d.flows
  len h := by obtain ⟨_, _, rfl, _⟩ := h; rfl
  one h := by obtain ⟨_, _, rfl, _⟩ := h; simp [Value.oneCell']
  mono h hk := by
    obtain ⟨fa, fc, rfl, h1, h2, h3⟩ := h
    exact ⟨fa, fc, rfl, h1, h2, h3.mono hk⟩

def netS : Shape Net where
  size := 14
  rep ok w cs n := ∃ ks sa sc oa oc ba bc pa pc la lc, cs = ks ++ [.slice sa n.switches.length sc, .slice oa n.orders.length oc, .slice ba n.backs.length bc, .slice pa n.packets.length pc, .slice la n.plans.length lc] ∧
    ctlS.rep ok w ks n.ctl ∧ rowRep switchS ok w sa sc n.switches ∧ rowRep (sliceS orderS) ok w oa oc n.orders ∧ rowRep (sliceS intS) ok w ba bc n.backs ∧ rowRep packetS ok w pa pc n.packets ∧ rowRep planS ok w la lc n.plans
  len h := by obtain ⟨_, _, _, _, _, _, _, _, _, _, _, rfl, h, _⟩ := h; simp [ctlS.len h]; rfl
  one h := by
    obtain ⟨_, _, _, _, _, _, _, _, _, _, _, rfl, h, _⟩ := h
    intro c hc
    simp only [List.mem_cons, List.mem_append, List.not_mem_nil, or_false] at hc
    rcases hc with hc | rfl | rfl | rfl | rfl | rfl
    · exact ctlS.one h c hc
    all_goals rfl
  mono h hk := by
    obtain ⟨ks, sa, sc, oa, oc, ba, bc, pa, pc, la, lc, rfl, h1, h2, h3, h4, h5, h6⟩ := h
    exact ⟨ks, sa, sc, oa, oc, ba, bc, pa, pc, la, lc, rfl, ctlS.mono h1 hk, h2.mono hk, h3.mono hk, h4.mono hk, h5.mono hk, h6.mono hk⟩

end Go.St
