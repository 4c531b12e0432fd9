/- Texts of this proof, one behind the other. -/
import Derived.Below
import Derived.OwnWalk
import Derived.Laws.AppendOwn
set_option linter.unusedSimpArgs false
set_option linter.unusedVariables false
set_option maxRecDepth 100000
set_option maxHeartbeats 16000000
namespace Go.St
open Go.RowKit
theorem N4 (w : World) : Below w.heap.size w w.drew := (Below.refl _ _).drew
theorem G8 (w : World) (x : Obj) : Below w.heap.size w (w.alloc x) := (Below.refl _ _).alloc (Nat.le_refl _) x
theorem A1t (w : World) (x y : Obj) : Below w.heap.size w ((w.alloc x).alloc y) := (G8 w x).alloc (by simp) y
theorem A7q (w : World) (x y z : Obj) : Below w.heap.size w (((w.alloc x).alloc y).alloc z) := (A1t w x y).alloc (by simp; omega) z
theorem B61 (w : World) (x y z u : Obj) : Below w.heap.size w ((((w.alloc x).alloc y).alloc z).alloc u) := (A7q w x y z).alloc (by simp; omega) u
theorem tS {α : Type _} (l : List α) (i : Nat) (a : α) : l.toArray.setIfInBounds i a = (l.set i a).toArray := List.setIfInBounds_toArray _ _ _
theorem tC {α : Type _} {x : α} {xs : List α} {i : Nat} {a : α} : (x :: xs).set (i + 1) a = x :: xs.set i a := List.set_cons_succ
theorem tZ {α : Type _} {x : α} {xs : List α} {a : α} : (x :: xs).set 0 a = a :: xs := List.set_cons_zero
theorem tA {α : Type _} {xs : List α} {i : Nat} (h : i < xs.toArray.size) : xs.toArray[i]'h = xs[i]'(by simpa using h) := List.getElem_toArray h
theorem tD {α : Type _} (a : α) (as : List α) (i : Nat) (h : i + 1 < (a :: as).length) : (a :: as)[i + 1]'h = as[i]'(Nat.lt_of_succ_lt_succ h) := rfl
theorem tE {α : Type _} (a : α) (as : List α) (h : 0 < (a :: as).length) : (a :: as)[0]'h = a := rfl
structure D1 (α:Type) where
 size:Nat
 rep:(Nat→Prop)→World→List Value→α→Prop
 len:∀ {ok w cs a},rep ok w cs a→cs.length=size
 one:∀ {ok w cs a},rep ok w cs a→∀ c∈cs,c.oneCell'=true
 mono:∀ {ok ok':Nat→Prop} {w w':World} {cs a},rep ok w cs a→(∀ b,b<w.heap.size→ok b→ok' b∧w'.heap[b]? =w.heap[b]?)→rep ok' w' cs a
def I64 (n:Int):Prop:=-9223372036854775808≤n∧n≤9223372036854775807
theorem I64.small {n:Int} (h1:-1000000000000≤n) (h2:n≤1000000000000):I64 n:=⟨by omega,by omega⟩
def C2:D1 Int where
 size:=1
 rep _ _ cs n:=cs=[.int .i64 n]∧I64 n
 len h:=by rw [h.1];rfl
 one h:=by rw [h.1];simp [Value.oneCell']
 mono h _:=h
def V6 {α:Type} (s:D1 α) (ok:Nat→Prop) (w:World) (b off:Nat) (xs:List α):Prop:=
 ∀ i x,xs[i]? =some x→∃ cs,s.rep ok w cs x∧∀ j c,cs[j]? =some c→w.cell? ⟨b,off+i * s.size+j,none⟩=some c
def A8 {α:Type} (s:D1 α) (ok:Nat→Prop) (w:World) (ao:Option Addr) (cap:Nat) (xs:List α):Prop:=
 xs.length≤cap∧cap≤maxLen∧(xs=[]∨∃ b off,ao=some ⟨b,off,none⟩∧ok b∧b<w.heap.size∧V6 s ok w b off xs)
theorem A3d {w w':World} {b:Nat} (hb:b<w.heap.size) (h:w'.heap[b]? =w.heap[b]?):b<w'.heap.size:=by
 rw [Array.getElem?_eq_getElem hb] at h
 exact (Array.getElem?_eq_some_iff.1 h).1
theorem V6.mono {α:Type} {s:D1 α} {ok ok':Nat→Prop} {w w':World} {b off:Nat} {xs:List α} (h:V6 s ok w b off xs)
  (hb:w'.heap[b]? =w.heap[b]?) (hk:∀ b,b<w.heap.size→ok b→ok' b∧w'.heap[b]? =w.heap[b]?):V6 s ok' w' b off xs:=by
 intro i x hx
 obtain ⟨cs,h1,h2⟩:=h i x hx
 exact ⟨cs,s.mono h1 hk,fun j c hc=>by rw [World.cell?_of_block (w:=w) hb];exact h2 j c hc⟩
theorem A8.mono {α:Type} {s:D1 α} {ok ok':Nat→Prop} {w w':World} {ao:Option Addr} {cap:Nat} {xs:List α} (h:A8 s ok w ao cap xs)
  (hk:∀ b,b<w.heap.size→ok b→ok' b∧w'.heap[b]? =w.heap[b]?):A8 s ok' w' ao cap xs:=by
 obtain ⟨h1,h2,h3⟩:=h
 refine ⟨h1,h2,h3.imp id ?_⟩
 rintro ⟨b,off,rfl,hb,hlt,he⟩
 exact ⟨b,off,rfl,(hk b hlt hb).1,A3d hlt (hk b hlt hb).2,he.mono (hk b hlt hb).2 hk⟩
theorem A8.nil {α:Type} (s:D1 α) (ok:Nat→Prop) (w:World) (ao:Option Addr):A8 s ok w ao 0 []:=
 ⟨Nat.le_refl _,Nat.zero_le _,.inl rfl⟩
theorem A8.len_le {α:Type} {s:D1 α} {ok:Nat→Prop} {w:World} {ao:Option Addr} {cap:Nat} {xs:List α} (h:A8 s ok w ao cap xs):xs.length≤9223372036854775807:=by
 have h1:=h.1
 have h2:=h.2.1
 unfold maxLen at h2
 omega
theorem A8.below {α:Type} {s:D1 α} {ok:Nat→Prop} {w w':World} {ao:Option Addr} {cap:Nat} {xs:List α} (h:A8 s ok w ao cap xs)
  (hb:Below w.heap.size w w'):A8 s ok w' ao cap xs:=
 h.mono fun b hlt hk=>⟨hk,hb.block b hlt⟩
theorem D1.below {α:Type} (s:D1 α) {ok:Nat→Prop} {w w':World} {cs:List Value} {a:α} (h:s.rep ok w cs a)
  (hb:Below w.heap.size w w'):s.rep ok w' cs a:=
 s.mono h fun b hlt hk=>⟨hk,hb.block b hlt⟩
def F7 {α:Type} (s:D1 α):D1 (List α) where
 size:=1
 rep ok w cs xs:=∃ ao cap,cs=[.slice ao xs.length cap]∧A8 s ok w ao cap xs
 len h:=by obtain ⟨ao,cap,rfl,_⟩:=h;rfl
 one h:=by obtain ⟨ao,cap,rfl,_⟩:=h;simp [Value.oneCell']
 mono h hk:=by
  obtain ⟨ao,cap,rfl,h⟩:=h
  exact ⟨ao,cap,rfl,h.mono hk⟩
theorem A8.get {α:Type} {s:D1 α} {ok:Nat→Prop} {w:World} {ao:Option Addr} {cap:Nat} {xs:List α} (h:A8 s ok w ao cap xs)
  {i:Nat} {x:α} (hx:xs[i]? =some x):∃ b off,ao=some ⟨b,off,none⟩∧ok b∧b<w.heap.size∧∃ cs,s.rep ok w cs x∧∀ j c,cs[j]? =some c→w.cell? ⟨b,off+i * s.size+j,none⟩=some c:=by
 obtain ⟨h1,h2,rfl|⟨b,off,rfl,hb,hlt,he⟩⟩:=h
 ·simp at hx
 ·exact ⟨b,off,rfl,hb,hlt,he i x hx⟩
theorem A8.take {α:Type} {s:D1 α} {ok:Nat→Prop} {w:World} {ao:Option Addr} {cap:Nat} {xs:List α} (h:A8 s ok w ao cap xs) (m:Nat):A8 s ok w ao cap (xs.take m):=by
 obtain ⟨h1,h2,h3⟩:=h
 refine ⟨by rw [List.length_take];omega,h2,?_⟩
 rcases h3 with rfl|⟨b,off,rfl,hb,hlt,he⟩
 ·left;simp
 ·right
  refine ⟨b,off,rfl,hb,hlt,fun i x hx=>he i x ?_⟩
  rw [List.getElem?_take] at hx
  split at hx
  ·exact hx
  ·cases hx
open Go.RowKit
structure X9 where
 a:Int
 b:Int
 cost:Int
deriving DecidableEq
structure C5 where
 n:Int
 links:List X9
deriving DecidableEq
structure E0 where
 src:Int
 dst:Int
 via:List Int
 no:List Int
deriving DecidableEq
structure C1 where
 ver:Int
 flow:Int
 next:Int
deriving DecidableEq
structure F5 where
 ver:Int
 flows:List E0
 paths:List (List Int)
deriving DecidableEq
structure G3 where
 kind:Int
 num:Int
 ver:Int
 rules:List C1
 flows:List Int
deriving DecidableEq
structure To where
 sw:Int
 order:G3
deriving DecidableEq
structure J0 where
 flow:Int
 ver:Int
deriving DecidableEq
structure D8 where
 rules:List C1
 stamps:List J0
deriving DecidableEq
structure N2 where
 flow:Int
 ver:Int
 trace:List Int
 done:Bool
deriving DecidableEq
structure Ctl where
 stage:Int
 now:F5
 next:F5
 num:Int
 waits:List Int
deriving DecidableEq
structure Do where
 kind:Int
 n:Int
 flows:List E0
deriving DecidableEq
structure Net where
 ctl:Ctl
 switches:List D8
 orders:List (List G3)
 backs:List (List Int)
 packets:List N2
 plans:List F5
deriving DecidableEq
def A0e:D1 X9 where
 size:=3
 rep _ _ cs l:=cs=[.int .i64 l.a,.int .i64 l.b,.int .i64 l.cost]∧I64 l.a∧I64 l.b∧I64 l.cost
 len h:=by rw [h.1];rfl
 one h:=by rw [h.1];simp [Value.oneCell']
 mono h _:=h
def G6:D1 C1 where
 size:=3
 rep _ _ cs r:=cs=[.int .i64 r.ver,.int .i64 r.flow,.int .i64 r.next]∧I64 r.ver∧I64 r.flow∧I64 r.next
 len h:=by rw [h.1];rfl
 one h:=by rw [h.1];simp [Value.oneCell']
 mono h _:=h
def J6:D1 J0 where
 size:=2
 rep _ _ cs r:=cs=[.int .i64 r.flow,.int .i64 r.ver]∧I64 r.flow∧I64 r.ver
 len h:=by rw [h.1];rfl
 one h:=by rw [h.1];simp [Value.oneCell']
 mono h _:=h
def I5:D1 C5 where
 size:=2
 rep ok w cs t:=∃ ao cap,cs=[.int .i64 t.n,.slice ao t.links.length cap]∧I64 t.n∧A8 A0e ok w ao cap t.links
 len h:=by obtain ⟨_,_,rfl,_⟩:=h;rfl
 one h:=by obtain ⟨_,_,rfl,_⟩:=h;simp [Value.oneCell']
 mono h hk:=by
  obtain ⟨ao,cap,rfl,h1,h2⟩:=h
  exact ⟨ao,cap,rfl,h1,h2.mono hk⟩
def H6:D1 E0 where
 size:=4
 rep ok w cs f:=∃ va vc na nc,cs=[.int .i64 f.src,.int .i64 f.dst,.slice va f.via.length vc,.slice na f.no.length nc]∧I64 f.src∧I64 f.dst∧A8 C2 ok w va vc f.via∧A8 C2 ok w na nc f.no
 len h:=by obtain ⟨_,_,_,_,rfl,_⟩:=h;rfl
 one h:=by obtain ⟨_,_,_,_,rfl,_⟩:=h;simp [Value.oneCell']
 mono h hk:=by
  obtain ⟨va,vc,na,nc,rfl,h1,h2,h3,h4⟩:=h
  exact ⟨va,vc,na,nc,rfl,h1,h2,h3.mono hk,h4.mono hk⟩
def E3:D1 G3 where
 size:=5
 rep ok w cs o:=∃ ra rc fa fc,cs=[.int .i64 o.kind,.int .i64 o.num,.int .i64 o.ver,.slice ra o.rules.length rc,.slice fa o.flows.length fc]∧
  I64 o.kind∧I64 o.num∧I64 o.ver∧A8 G6 ok w ra rc o.rules∧A8 C2 ok w fa fc o.flows
 len h:=by obtain ⟨_,_,_,_,rfl,_⟩:=h;rfl
 one h:=by obtain ⟨_,_,_,_,rfl,_⟩:=h;simp [Value.oneCell']
 mono h hk:=by
  obtain ⟨va,vc,na,nc,rfl,h1,h2,h3,h4,h5⟩:=h
  exact ⟨va,vc,na,nc,rfl,h1,h2,h3,h4.mono hk,h5.mono hk⟩
def toS:D1 To where
 size:=6
 rep ok w cs t:=∃ ds,cs=.int .i64 t.sw::ds∧I64 t.sw∧E3.rep ok w ds t.order
 len h:=by obtain ⟨_,rfl,_,h⟩:=h;simp [E3.len h];rfl
 one h:=by
  obtain ⟨_,rfl,_,h⟩:=h
  intro c hc
  rcases List.mem_cons.1 hc with rfl|hc
  ·rfl
  ·exact E3.one h c hc
 mono h hk:=by
  obtain ⟨ds,rfl,h1,h⟩:=h
  exact ⟨ds,rfl,h1,E3.mono h hk⟩
def C3:D1 F5 where
 size:=3
 rep ok w cs p:=∃ fa fc pa pc,cs=[.int .i64 p.ver,.slice fa p.flows.length fc,.slice pa p.paths.length pc]∧I64 p.ver∧A8 H6 ok w fa fc p.flows∧A8 (F7 C2) ok w pa pc p.paths
 len h:=by obtain ⟨_,_,_,_,rfl,_⟩:=h;rfl
 one h:=by obtain ⟨_,_,_,_,rfl,_⟩:=h;simp [Value.oneCell']
 mono h hk:=by
  obtain ⟨va,vc,na,nc,rfl,h1,h2,h3⟩:=h
  exact ⟨va,vc,na,nc,rfl,h1,h2.mono hk,h3.mono hk⟩
def E8:D1 D8 where
 size:=2
 rep ok w cs s:=∃ ra rc sa sc,cs=[.slice ra s.rules.length rc,.slice sa s.stamps.length sc]∧A8 G6 ok w ra rc s.rules∧A8 J6 ok w sa sc s.stamps
 len h:=by obtain ⟨_,_,_,_,rfl,_⟩:=h;rfl
 one h:=by obtain ⟨_,_,_,_,rfl,_⟩:=h;simp [Value.oneCell']
 mono h hk:=by
  obtain ⟨va,vc,na,nc,rfl,h2,h3⟩:=h
  exact ⟨va,vc,na,nc,rfl,h2.mono hk,h3.mono hk⟩
def K0:D1 N2 where
 size:=4
 rep ok w cs p:=∃ ta tc,cs=[.int .i64 p.flow,.int .i64 p.ver,.slice ta p.trace.length tc,.bool p.done]∧I64 p.flow∧I64 p.ver∧A8 C2 ok w ta tc p.trace
 len h:=by obtain ⟨_,_,rfl,_⟩:=h;rfl
 one h:=by obtain ⟨_,_,rfl,_⟩:=h;simp [Value.oneCell']
 mono h hk:=by
  obtain ⟨ta,tc,rfl,h1,h2,h3⟩:=h
  exact ⟨ta,tc,rfl,h1,h2,h3.mono hk⟩
def P3:D1 Ctl where
 size:=9
 rep ok w cs c:=∃ ns xs wa wc,cs=.int .i64 c.stage::(ns++xs++[.int .i64 c.num,.slice wa c.waits.length wc])∧I64 c.stage∧I64 c.num∧C3.rep ok w ns c.now∧C3.rep ok w xs c.next∧A8 C2 ok w wa wc c.waits
 len h:=by obtain ⟨_,_,_,_,rfl,_,_,h1,h2,_⟩:=h;simp [C3.len h1,C3.len h2];rfl
 one h:=by
  obtain ⟨_,_,_,_,rfl,_,_,h1,h2,_⟩:=h
  intro c hc
  simp only [List.mem_cons,List.mem_append,List.not_mem_nil,or_false] at hc
  rcases hc with rfl|(hc|hc)|rfl|rfl
  ·rfl
  ·exact C3.one h1 c hc
  ·exact C3.one h2 c hc
  ·rfl
  ·rfl
 mono h hk:=by
  obtain ⟨ns,xs,wa,wc,rfl,h1,h2,h3,h4,h5⟩:=h
  exact ⟨ns,xs,wa,wc,rfl,h1,h2,C3.mono h3 hk,C3.mono h4 hk,h5.mono hk⟩
def doS:D1 Do where
 size:=3
 rep ok w cs d:=∃ fa fc,cs=[.int .i64 d.kind,.int .i64 d.n,.slice fa d.flows.length fc]∧I64 d.kind∧I64 d.n∧A8 H6 ok w fa fc d.flows
 len h:=by obtain ⟨_,_,rfl,_⟩:=h;rfl
 one h:=by obtain ⟨_,_,rfl,_⟩:=h;simp [Value.oneCell']
 mono h hk:=by
  obtain ⟨fa,fc,rfl,h1,h2,h3⟩:=h
  exact ⟨fa,fc,rfl,h1,h2,h3.mono hk⟩
def A0g:D1 Net where
 size:=14
 rep ok w cs n:=∃ ks sa sc oa oc ba bc pa pc la lc,cs=ks++[.slice sa n.switches.length sc,.slice oa n.orders.length oc,.slice ba n.backs.length bc,.slice pa n.packets.length pc,.slice la n.plans.length lc]∧
  P3.rep ok w ks n.ctl∧A8 E8 ok w sa sc n.switches∧A8 (F7 E3) ok w oa oc n.orders∧A8 (F7 C2) ok w ba bc n.backs∧A8 K0 ok w pa pc n.packets∧A8 C3 ok w la lc n.plans
 len h:=by obtain ⟨_,_,_,_,_,_,_,_,_,_,_,rfl,h,_⟩:=h;simp [P3.len h];rfl
 one h:=by
  obtain ⟨_,_,_,_,_,_,_,_,_,_,_,rfl,h,_⟩:=h
  intro c hc
  simp only [List.mem_cons,List.mem_append,List.not_mem_nil,or_false] at hc
  rcases hc with hc|rfl|rfl|rfl|rfl|rfl
  ·exact P3.one h c hc
  all_goals rfl
 mono h hk:=by
  obtain ⟨ks,sa,sc,oa,oc,ba,bc,pa,pc,la,lc,rfl,h1,h2,h3,h4,h5,h6⟩:=h
  exact ⟨ks,sa,sc,oa,oc,ba,bc,pa,pc,la,lc,rfl,P3.mono h1 hk,h2.mono hk,h3.mono hk,h4.mono hk,h5.mono hk,h6.mono hk⟩
structure W5 {α:Type} (lt:α→α→Bool):Prop where
 irr:∀ a,lt a a=false
 tra:∀ {a b c},lt a b=true→lt b c=true→lt a c=true
 neg:∀ {a b c},lt a b=false→lt b c=false→lt a c=false
variable {α : Type} {lt : α → α → Bool}
def eqv (lt:α→α→Bool) (r x:α):Bool:=!lt r x && !lt x r
theorem A28 {r x:α}:eqv lt r x=true↔lt r x=false∧lt x r=false:=by simp [eqv]
def E4 (lt:α→α→Bool) (xs ys:List α):Prop:=∀ r,ys.filter (eqv lt r)=xs.filter (eqv lt r)
def Srt (lt:α→α→Bool) (xs:List α):Prop:=xs.Pairwise fun a b=>lt b a=false
theorem E4.refl (xs:List α):E4 lt xs xs:=fun _=>rfl
theorem E4.trans {xs ys zs:List α} (h:E4 lt xs ys) (g:E4 lt ys zs):E4 lt xs zs:=fun r=>(g r).trans (h r)
theorem E4.append {xs ys us vs:List α} (h:E4 lt xs ys) (g:E4 lt us vs):E4 lt (xs++us) (ys++vs):=fun r=>by
 rw [List.filter_append,List.filter_append,h r,g r]
theorem E4.mid {u w:List α} (h:E4 lt u w) (p s:List α):E4 lt (p++u++s) (p++w++s):=((E4.refl p).append h).append (E4.refl s)
theorem B1i (W:W5 lt) {r x y:α} (h:eqv lt r x=true) (g:eqv lt r y=true):lt x y=false:=
 W.neg (A28.1 h).2 (A28.1 g).1
theorem E4.mem (W:W5 lt) {xs ys:List α} (h:E4 lt xs ys) {x:α}:x∈ys↔x∈xs:=by
 have hx:eqv lt x x=true:=A28.2 ⟨W.irr x,W.irr x⟩
 have:x∈ys.filter (eqv lt x)↔x∈xs.filter (eqv lt x):=by rw [h x]
 simpa [List.mem_filter,hx] using this
theorem E4.swap (W:W5 lt) {u v:List α} (h:∀ x∈u,∀ y∈v,lt y x=true):E4 lt (u++v) (v++u):=fun r=>by
 rw [List.filter_append,List.filter_append]
 by_cases hu:u.filter (eqv lt r)=[]
 ·rw [hu];simp
 ·have hv:v.filter (eqv lt r)=[]:=by
   rw [List.filter_eq_nil_iff]
   intro y hy hyr
   obtain ⟨x,hx⟩:=List.exists_mem_of_ne_nil _ hu
   obtain ⟨hx1,hx2⟩:=List.mem_filter.1 hx
   have:=B1i W hyr hx2
   rw [h x hx1 y hy] at this;exact absurd this (by decide)
  rw [hv];simp
theorem Srt.nil:Srt lt ([]:List α):=List.Pairwise.nil
theorem Srt.one (x:α):Srt lt [x]:=List.pairwise_singleton _ _
theorem Srt.append {u v:List α}:Srt lt (u++v)↔Srt lt u∧Srt lt v∧∀ x∈u,∀ y∈v,lt y x=false:=List.pairwise_append
theorem E4.uniq (W:W5 lt):∀ {ys zs:List α},E4 lt ys zs→Srt lt ys→Srt lt zs→ys=zs
  |[],zs,h,_,_=>by
    cases zs with
    |nil=>rfl
    |cons z zs=>exact absurd ((h.mem W).1 (List.mem_cons_self ..)) (by simp)
  |y::ys,zs,h,h1,h2=>by
    cases zs with
    |nil=>exact absurd ((h.mem W).2 (List.mem_cons_self ..)) (by simp)
    |cons z zs=>
      have a1:=(List.pairwise_cons.1 h1).1
      have a2:=(List.pairwise_cons.1 h2).1
      have hzy:lt z y=false:=by
        rcases List.mem_cons.1 ((h.mem W).2 (List.mem_cons_self (a:=y))) with e|e
        · subst e;exact W.irr _
        · exact (fun hh=>hh) (by
            have:=a2 y e
            rcases List.mem_cons.1 ((h.mem W).1 (List.mem_cons_self (a:=z))) with e'|e'
            · subst e';exact W.irr _
            · exact a1 z e')
      have hyz:lt y z=false:=by
        rcases List.mem_cons.1 ((h.mem W).2 (List.mem_cons_self (a:=y))) with e|e
        · subst e;exact W.irr _
        · exact a2 y e
      have hy:eqv lt y y=true:=A28.2 ⟨W.irr y,W.irr y⟩
      have hz:eqv lt y z=true:=A28.2 ⟨hyz,hzy⟩
      have e0:=h y
      rw [List.filter_cons_of_pos hz,List.filter_cons_of_pos hy] at e0
      have e1:z=y:=(List.cons.inj e0).1
      subst e1
      have ht:E4 lt ys zs:=fun r=>by
        have:=h r
        by_cases hr:eqv lt r z=true
        · rw [List.filter_cons_of_pos hr,List.filter_cons_of_pos hr] at this;exact (List.cons.inj this).2
        · rw [List.filter_cons_of_neg hr,List.filter_cons_of_neg hr] at this;exact this
      rw [ht.uniq W (List.pairwise_cons.1 h1).2 (List.pairwise_cons.1 h2).2]
def ins (lt:α→α→Bool) (x:α):List α→List α
 |[]=>[x]
 |y::ys=>if lt x y then x::y::ys else y::ins lt x ys
theorem B03 {x z:α}:∀ {ys:List α},z∈ins lt x ys↔z=x∨z∈ys
 |[]=>by simp [ins]
 |y::ys=>by
  unfold ins;split
  ·simp
  ·simp only [List.mem_cons,B03 (ys:=ys)]
   constructor
   ·rintro (h|h|h)<;>simp [h]
   ·rintro (h|h|h)<;>simp [h]
theorem B0e (W:W5 lt) {x:α}:∀ {ys:List α},Srt lt ys→Srt lt (ins lt x ys)
  |[],_=>Srt.one x
  |y::ys,h=>by
    obtain ⟨h1,h2⟩:=List.pairwise_cons.1 h
    unfold ins;split
    case isTrue hx=>
      refine List.pairwise_cons.2 ⟨fun z hz=>?_,h⟩
      have hyx:lt y x=false:=by
        cases hh:lt y x with
        |false=>rfl
        |true=>have:=W.tra hx hh;rw [W.irr] at this;exact absurd this (by decide)
      rcases List.mem_cons.1 hz with rfl|hz
      · exact hyx
      · exact W.neg (h1 z hz) hyx
    case isFalse hx=>
      refine List.pairwise_cons.2 ⟨fun z hz=>?_,B0e W h2⟩
      rcases B03.1 hz with rfl|hz
      · simpa using hx
      · exact h1 z hz
theorem A7b (W:W5 lt) {x:α}:∀ {ys:List α},Srt lt ys→E4 lt (ys++[x]) (ins lt x ys)
  |[],_=>E4.refl _
  |y::ys,h=>by
    obtain ⟨h1,h2⟩:=List.pairwise_cons.1 h
    unfold ins;split
    case isTrue hx=>
      refine E4.swap W (u:=y::ys) (v:=[x]) fun a ha b hb=>?_
      obtain rfl:b=x:=by simpa using hb
      rcases List.mem_cons.1 ha with rfl|ha
      · exact hx
      · cases hh:lt b a with
        |true=>rfl
        |false=>have:=W.neg hh (h1 a ha);rw [hx] at this;exact absurd this (by decide)
    case isFalse hx=>exact (E4.refl [y]).append (A7b W h2)
def S4 (lt:α→α→Bool) (xs:List α):List α:=xs.foldl (fun s x=>ins lt x s) []
theorem A4w (W:W5 lt):∀ (xs s:List α),Srt lt s→Srt lt (xs.foldl (fun s x=>ins lt x s) s)∧E4 lt (s++xs) (xs.foldl (fun s x=>ins lt x s) s)
 |[],s,h=>⟨h,by rw [List.append_nil];exact E4.refl _⟩
 |x::xs,s,h=>by
  obtain ⟨h1,h2⟩:=A4w W xs (ins lt x s) (B0e W h)
  refine ⟨h1,fun r=>?_⟩
  rw [List.foldl_cons,h2 r,List.filter_append,A7b W h r]
  simp [List.filter_append,List.append_assoc,List.filter_cons]
  split<;>simp
theorem A5y (W:W5 lt) (xs:List α):Srt lt (S4 lt xs):=(A4w W xs [] Srt.nil).1
theorem A1w (W:W5 lt) (xs:List α):E4 lt xs (S4 lt xs):=(A4w W xs [] Srt.nil).2
theorem B3c (W:W5 lt) {xs ys:List α} (h:E4 lt xs ys) (hs:Srt lt ys):ys=S4 lt xs:=
 E4.uniq W (E4.trans (fun r=>(h r).symm) (A1w W xs)) hs (A5y W xs)
variable {α : Type} {lt : α → α → Bool}
theorem W5.not_rev (W:W5 lt) {a b:α} (h:lt a b=true):lt b a=false:=by
  cases hh:lt b a with
  |false=>rfl
  |true=>have:=W.tra h hh;rw [W.irr] at this;exact absurd this (by decide)
theorem W5.lt_le (W:W5 lt) {a b c:α} (h:lt a b=true) (g:lt c b=false):lt a c=true:=by
  cases hh:lt a c with
  |true=>rfl
  |false=>have:=W.neg hh g;rw [h] at this;exact absurd this (by decide)
theorem W5.le_lt (W:W5 lt) {a b c:α} (h:lt b a=false) (g:lt b c=true):lt a c=true:=by
  cases hh:lt a c with
  |true=>rfl
  |false=>have:=W.neg h hh;rw [g] at this;exact absurd this (by decide)
theorem F2 (W:W5 lt) {u1 u2 v1 v2 w1 w2:List α} (hu:Srt lt (u1++u2)) (hv:Srt lt (v1++v2)) (h1:∀ x∈u1,∀ y∈v2,lt y x=false) (h2:∀ x∈u2,∀ y∈v1,lt y x=true)
  (s1:E4 lt (u1++v1) w1) (s2:E4 lt (u2++v2) w2) (o1:Srt lt w1) (o2:Srt lt w2):E4 lt ((u1++u2)++(v1++v2)) (w1++w2)∧Srt lt (w1++w2):=by
 obtain ⟨_,_,hu3⟩:=Srt.append.1 hu
 obtain ⟨_,_,hv3⟩:=Srt.append.1 hv
 constructor
 ·have a1:E4 lt (u1++(u2++v1)++v2) (u1++(v1++u2)++v2):=E4.mid (E4.swap W h2) _ _
  have a2:E4 lt ((u1++v1)++(u2++v2)) (w1++w2):=s1.append s2
  have e1:(u1++u2)++(v1++v2)=u1++(u2++v1)++v2:=by simp
  have e2:(u1++v1)++(u2++v2)=u1++(v1++u2)++v2:=by simp
  rw [e1];rw [e2] at a2;exact a1.trans a2
 ·refine Srt.append.2 ⟨o1,o2,fun x hx y hy=>?_⟩
  rcases List.mem_append.1 ((s1.mem W).1 hx) with hx|hx<;>rcases List.mem_append.1 ((s2.mem W).1 hy) with hy|hy
  ·exact hu3 x hx y hy
  ·exact h1 x hx y hy
  ·exact W.not_rev (h2 y hy x hx)
  ·exact hv3 x hx y hy
theorem A9o (W:W5 lt) {x:α} {v1 v2:List α} (hv:Srt lt (v1++v2)) (h1:∀ y∈v1,lt y x=true) (h2:∀ y∈v2,lt y x=false):E4 lt ([x]++(v1++v2)) (v1++([x]++v2))∧Srt lt (v1++([x]++v2)):=by
 obtain ⟨o1,o2,_⟩:=Srt.append.1 hv
 exact F2 W (u1:=[]) (u2:=[x]) (v1:=v1) (v2:=v2) (w1:=v1) (w2:=[x]++v2) (Srt.one x) hv (by simp) (by simpa using h1) (E4.refl _) (E4.refl _) o1 (Srt.append.2 ⟨Srt.one x,o2,by simpa using h2⟩)
theorem A3b (W:W5 lt) {y:α} {u1 u2:List α} (hu:Srt lt (u1++u2)) (h1:∀ x∈u1,lt y x=false) (h2:∀ x∈u2,lt y x=true):E4 lt ((u1++u2)++[y]) ((u1++[y])++u2)∧Srt lt ((u1++[y])++u2):=by
 obtain ⟨o1,o2,_⟩:=Srt.append.1 hu
 have:=F2 W (u1:=u1) (u2:=u2) (v1:=[y]) (v2:=[]) (w1:=u1++[y]) (w2:=u2) hu (Srt.one y) (by simp) (by simpa using h2) (E4.refl _) (by rw [List.append_nil];exact E4.refl _) (Srt.append.2 ⟨o1,Srt.one y,by simpa using h1⟩) o2
 simpa using this
def B4 (a b:C1):Bool:=decide (a.ver<b.ver∨(a.ver=b.ver∧a.flow<b.flow))
theorem A08 {a b:C1}:B4 a b=true↔a.ver<b.ver∨(a.ver=b.ver∧a.flow<b.flow):=by simp [B4]
theorem A56 {a b:C1}:B4 a b=false↔b.ver<a.ver∨(a.ver=b.ver∧b.flow≤a.flow):=by
 simp only [B4,decide_eq_false_iff_not];omega
theorem C4:W5 B4 where
 irr a:=by rw [A56];omega
 tra h g:=by rw [A08] at *;omega
 neg h g:=by rw [A56] at *;omega
def X1 (x y:Int):Int:=if x<y then -1 else if y<x then 1 else 0
def V5 (a b:C1):Int:=if X1 a.ver b.ver≠0 then X1 a.ver b.ver else X1 a.flow b.flow
theorem A95 (a b:C1):V5 a b<0↔B4 a b=true:=by
 rw [A08];unfold V5 X1
 by_cases h1:a.ver<b.ver
 ·rw [if_pos h1,if_pos (by decide)];omega
 by_cases h2:b.ver<a.ver
 ·rw [if_neg h1,if_pos h2,if_pos (by decide)];omega
 rw [if_neg h1,if_neg h2,if_neg (by decide)]
 by_cases h3:a.flow<b.flow
 ·rw [if_pos h3];omega
 by_cases h4:b.flow<a.flow
 ·rw [if_neg h3,if_pos h4];omega
 ·rw [if_neg h3,if_neg h4];omega
def O3 (r:C1):Prop:=r.ver<1∨1000<r.ver∨r.flow<0∨12≤r.flow∨r.next<0∨8≤r.next
instance (r : C1) : Decidable (O3 r) := by unfold O3; infer_instance
def Y8:Int→Option C1→List C1→Int × Int
 |_,_,[]=>(0,0)
 |i,p,r::l=>if O3 r then (3,i) else if p.any (fun q=>!B4 q r)=true then (2,i) else Y8 (i+1) (some r) l
def E5 (l:List C1):Int × Int:=if 16<l.length then (10,0) else Y8 0 none l
def L6 (l:List C1):Nat→Option C1
 |0=>none
 |j+1=>l[j]?
theorem B39 {l:List C1} {j:Nat} {R:Int × Int} {r:C1} (h:R=Y8 j (L6 l j) (l.drop j)) (hr:l[j]? =some r):
  R=if O3 r then (3,(j:Int)) else if (L6 l j).any (fun q=>!B4 q r)=true then (2,(j:Int)) else Y8 ((j+1:Nat):Int) (L6 l (j+1)) (l.drop (j+1)):=by
 obtain ⟨hj,rfl⟩:=List.getElem?_eq_some_iff.1 hr
 rw [h,List.drop_eq_getElem_cons hj,Y8]
 simp only [L6,List.getElem?_eq_getElem hj]
 rfl
theorem B3o {l:List C1} {j:Nat} {R:Int × Int} (h:R=Y8 j (L6 l j) (l.drop j)) (hj:l.length≤j):R=(0,0):=by
 rw [h,List.drop_of_length_le hj];rfl
structure A5r (l:List C1):Prop where
 len:l.length≤16
 rg:∀ r∈l,¬O3 r
 up:l.Pairwise fun a b=>B4 a b=true
theorem A4k:∀ {l:List C1} {i:Int} {p:Option C1},0≤i→((Y8 i p l).1=0↔(∀ r∈l,¬O3 r)∧(p.toList++l).Pairwise (fun a b=>B4 a b=true))
  |[],i,p,_=>by cases p<;>simp [Y8]
  |r::l,i,p,hi=>by
    rw [Y8]
    by_cases h1:O3 r
    · rw [if_pos h1]
      constructor
      · intro h;exact absurd (show (3:Int)=0 from h) (by decide)
      · intro h;exact absurd h1 (h.1 r (by simp))
    rw [if_neg h1]
    by_cases h2:p.any (fun q=>!B4 q r)=true
    · rw [if_pos h2]
      constructor
      · intro h;exact absurd (show (2:Int)=0 from h) (by decide)
      · rintro ⟨_,h⟩
        cases p with
        |none=>simp at h2
        |some q=>
          have:=(List.pairwise_cons.1 h).1 r (by simp)
          simp [this] at h2
    rw [if_neg h2,A4k (by omega)]
    have e0:(∀ x∈r::l,¬O3 x)↔∀ x∈l,¬O3 x:=by simp [h1]
    rw [e0]
    refine and_congr Iff.rfl ?_
    cases p with
    |none=>simp
    |some q=>
      have hq:B4 q r=true:=by simpa using h2
      simp only [Option.toList_some,List.cons_append,List.nil_append]
      constructor
      · intro h
        refine List.pairwise_cons.2 ⟨fun x hx=>?_,h⟩
        rcases List.mem_cons.1 hx with rfl|hx
        · exact hq
        · exact C4.tra hq ((List.pairwise_cons.1 h).1 x hx)
      · intro h;exact (List.pairwise_cons.1 h).2
theorem A20 {l:List C1}:(E5 l).1=0↔A5r l:=by
 unfold E5
 by_cases h:16<l.length
 ·rw [if_pos h]
  exact ⟨fun h=>absurd h (by decide),fun g=>by have:=g.len;omega⟩
 ·rw [if_neg h,A4k (by omega)]
  exact ⟨fun g=>⟨by omega,g.1,by simpa using g.2⟩,fun g=>⟨g.rg,by simpa using g.up⟩⟩
def C0z (l:List C1) (v f:Int):Int × Bool:=match l.find? (fun r=>r.ver==v && r.flow==f) with
 |some r=>(r.next,true)
 |none=>(0,false)
theorem B0g {l:List C1} {v f:Int} {j:Nat} {R:Int × Bool} {r:C1} (h:R=C0z (l.drop j) v f) (hr:l[j]? =some r):
  R=if r.ver=v∧r.flow=f then (r.next,true) else C0z (l.drop (j+1)) v f:=by
 obtain ⟨hj,rfl⟩:=List.getElem?_eq_some_iff.1 hr
 rw [h,List.drop_eq_getElem_cons hj]
 by_cases hc:l[j].ver=v∧l[j].flow=f
 ·rw [if_pos hc];unfold C0z;rw [List.find?_cons_of_pos (by simp [hc.1,hc.2])]
 ·rw [if_neg hc];unfold C0z;rw [List.find?_cons_of_neg (by simpa using hc)]
theorem B2e {l:List C1} {v f:Int} {j:Nat} {R:Int × Bool} (h:R=C0z (l.drop j) v f) (hj:l.length≤j):R=(0,false):=by
 rw [h,List.drop_of_length_le hj];rfl
def S0 (l:List C1) (v:Int):List C1:=l.filter fun r=>r.ver !=v
def Q9:C1→List C1→List C1
 |_,[]=>[]
 |p,r::l=>if r=p then Q9 r l else r::Q9 r l
def O6:List C1→List C1
 |[]=>[]
 |r::l=>r::Q9 r l
theorem A1x:∀ (l:List C1) (p:C1),(Q9 p l).Sublist l
 |[],_=>List.Sublist.slnil
 |r::l,p=>by
  rw [Q9];split
  ·exact (A1x l r).cons r
  ·exact (A1x l r).cons_cons r
theorem A7f:∀ l:List C1,(O6 l).Sublist l
 |[]=>List.Sublist.slnil
 |r::l=>(A1x l r).cons_cons r
theorem A4u:∀ (l:List C1) (p x:C1),x∈l→x=p∨x∈Q9 p l
 |[],_,_,h=>by simp at h
 |r::l,p,x,h=>by
  rw [Q9]
  rcases List.mem_cons.1 h with rfl|h
  ·by_cases e:x=p
   ·exact .inl e
   ·rw [if_neg e];exact .inr (by simp)
  ·rcases A4u l r x h with rfl|h'
   ·by_cases e:x=p
    ·exact .inl e
    ·rw [if_neg e];exact .inr (by simp)
   ·right;split
    ·exact h'
    ·exact List.mem_cons_of_mem _ h'
theorem A76 (l:List C1) (x:C1):x∈O6 l↔x∈l:=by
  constructor
  · exact fun h=>(A7f l).subset h
  · intro h
    cases l with
    |nil=>simp at h
    |cons r l=>
      rcases List.mem_cons.1 h with rfl|h
      · simp [O6]
      · rcases A4u l r x h with rfl|h'
        · simp [O6]
        · exact List.mem_cons_of_mem _ h'
theorem A5x:∀ (l:List C1) (p:C1),Srt B4 (p::l)→(∀ a∈p::l,∀ b∈p::l,B4 a b=false→B4 b a=false→a=b)→(p::Q9 p l).Pairwise (fun a b=>B4 a b=true)
  |[],p,_,_=>by simp [Q9]
  |r::l,p,h,hc=>by
    obtain ⟨h1,h2⟩:=List.pairwise_cons.1 h
    have ih:=A5x l r h2 fun a ha b hb=>hc a (List.mem_cons_of_mem _ ha) b (List.mem_cons_of_mem _ hb)
    rw [Q9]
    by_cases e:r=p
    · rw [if_pos e];subst e;exact ih
    · rw [if_neg e]
      have hpr:B4 p r=true:=by
        cases hh:B4 p r with
        |true=>rfl
        |false=>exact absurd (hc r (by simp) p (by simp) (h1 r (by simp)) hh) e
      refine List.pairwise_cons.2 ⟨fun x hx=>?_,ih⟩
      rcases List.mem_cons.1 hx with rfl|hx
      · exact hpr
      · exact C4.tra hpr ((List.pairwise_cons.1 ih).1 x hx)
theorem B44 (l:List C1) (h:Srt B4 l) (hc:∀ a∈l,∀ b∈l,B4 a b=false→B4 b a=false→a=b):(O6 l).Pairwise (fun a b=>B4 a b=true):=by
  cases l with
  |nil=>exact List.Pairwise.nil
  |cons r l=>exact A5x l r h hc
def A11 (l more:List C1):List C1:=O6 (S4 B4 (l++more))
def O8 (l more:List C1):List C1 × Int:=
 if (E5 l).1≠0 then ([],(E5 l).1) else if (E5 (A11 l more)).1≠0 then ([],(E5 (A11 l more)).1) else (A11 l more,0)
theorem B24 {l more:List C1} (h:(O8 l more).2=0):(O8 l more).1=A11 l more∧A5r l∧A5r (A11 l more):=by
 unfold O8 at *
 by_cases h1:(E5 l).1≠0
 ·rw [if_pos h1] at h;exact absurd h h1
 rw [if_neg h1] at h ⊢
 by_cases h2:(E5 (A11 l more)).1≠0
 ·rw [if_pos h2] at h;exact absurd h h2
 ·rw [if_neg h2];exact ⟨rfl,A20.1 (by simpa using h1),A20.1 (by simpa using h2)⟩
theorem B4g (l more:List C1) (x:C1):x∈A11 l more↔x∈l∨x∈more:=by
 unfold A11
 rw [A76,(A1w C4 (l++more)).mem C4,List.mem_append]
theorem B4r {m:List C1} (h:m.Pairwise fun a b=>B4 a b=true) {a b:C1} (ha:a∈m) (hb:b∈m) (h1:B4 a b=false) (h2:B4 b a=false):a=b:=by
  induction m with
  |nil=>simp at ha
  |cons x m ih=>
    obtain ⟨g1,g2⟩:=List.pairwise_cons.1 h
    rcases List.mem_cons.1 ha with ea|ha'<;>rcases List.mem_cons.1 hb with eb|hb'
    · rw [ea,eb]
    · rw [ea,g1 b hb'] at h1;exact absurd h1 (by decide)
    · rw [eb,g1 a ha'] at h2;exact absurd h2 (by decide)
    · exact ih g2 ha' hb'
theorem B7y {m:List C1} (h:m.Pairwise fun a b=>B4 a b=true) {r:C1} (hr:r∈m):C0z m r.ver r.flow=(r.next,true):=by
 unfold C0z
 cases hf:m.find? (fun x=>x.ver==r.ver && x.flow==r.flow) with
 |none=>
  have:=List.find?_eq_none.1 hf r hr
  simp at this
 |some x=>
  have h1:=List.find?_some hf
  have h2:=List.mem_of_find?_eq_some hf
  simp at h1
  have:x=r:=B4r h h2 hr (by rw [A56];omega) (by rw [A56];omega)
  subst this;rfl
theorem B2r:∀ {a b:List C1},a.Pairwise (fun x y=>B4 x y=true)→b.Pairwise (fun x y=>B4 x y=true)→(∀ x,x∈a↔x∈b)→a=b
  |[],b,_,_,h=>by
    cases b with
    |nil=>rfl
    |cons y b=>exact absurd ((h y).2 (by simp)) (by simp)
  |x::a,b,h1,h2,h=>by
    cases b with
    |nil=>exact absurd ((h x).1 (by simp)) (by simp)
    |cons y b=>
      obtain ⟨a1,a2⟩:=List.pairwise_cons.1 h1
      obtain ⟨b1,b2⟩:=List.pairwise_cons.1 h2
      have e:x=y:=by
        rcases List.mem_cons.1 ((h x).1 (by simp)) with e|hx
        · exact e
        rcases List.mem_cons.1 ((h y).2 (by simp)) with e|hy
        · exact e.symm
        have g1:=b1 x hx
        have g2:=C4.tra g1 (a1 y hy)
        rw [C4.irr] at g2;exact absurd g2 (by decide)
      subst e
      congr 1
      refine B2r a2 b2 fun z=>?_
      have hz:=h z
      simp only [List.mem_cons] at hz
      constructor
      · intro hza
        rcases hz.1 (.inr hza) with rfl|hzb
        · have:=a1 z hza;rw [C4.irr] at this;exact absurd this (by decide)
        · exact hzb
      · intro hzb
        rcases hz.2 (.inr hzb) with rfl|hza
        · have:=b1 z hzb;rw [C4.irr] at this;exact absurd this (by decide)
        · exact hza
variable {α : Type} {lt : α → α → Bool}
inductive Bk (lt:α→α→Bool) (k:Nat):List α→Prop
 |last {l:List α}:l.length≤k→Srt lt l→Bk lt k l
 |cons {u v:List α}:u.length=k→Srt lt u→Bk lt k v→Bk lt k (u++v)
inductive BkF (lt:α→α→Bool) (k:Nat):List α→Prop
 |nil:BkF lt k []
 |snoc {u v:List α}:BkF lt k u→v.length=k→Srt lt v→BkF lt k (u++v)
theorem BkF.to {k:Nat} {u:List α} (h:BkF lt k u):∀ {v:List α},Bk lt k v→Bk lt k (u++v):=by
 induction h with
 |nil=>intro v h;exact h
 |snoc _ h2 h3 ih=>intro v h;rw [List.append_assoc];exact ih (.cons h2 h3 h)
theorem Bk.two {k:Nat} (hk:0<k) {r:List α} (h:Bk lt k r) (hl:2 * k≤r.length):∃ u v s,r=u++(v++s)∧u.length=k∧v.length=k∧Srt lt u∧Srt lt v∧Bk lt k s:=by
  cases h with
  |last h1 h2=>omega
  |cons h1 h2 h3=>
    rename_i u v
    rw [List.length_append] at hl
    cases h3 with
    |last g1 g2=>exact ⟨u,v,[],by simp,h1,by omega,h2,g2,.last (Nat.zero_le _) Srt.nil⟩
    |cons g1 g2 g3=>exact ⟨u,_,_,rfl,h1,g1,h2,g2,g3⟩
theorem Bk.rest {k:Nat} {r:List α} (h:Bk lt k r) (hl:r.length<2 * k) (hl2:k<r.length):∃ u v,r=u++v∧u.length=k∧Srt lt u∧Srt lt v:=by
  cases h with
  |last h1 h2=>omega
  |cons h1 h2 h3=>
    rename_i u v
    rw [List.length_append] at hl
    cases h3 with
    |last g1 g2=>exact ⟨u,v,rfl,h1,h2,g2⟩
    |cons g1 g2 g3=>rw [List.length_append] at hl;omega
theorem Bk.one {k:Nat} {r:List α} (h:Bk lt k r) (hl:r.length≤k):Srt lt r:=by
  cases h with
  |last h1 h2=>exact h2
  |cons h1 h2 h3=>
    rename_i u v
    rw [List.length_append] at hl
    obtain rfl:v=[]:=List.eq_nil_of_length_eq_zero (by omega)
    rw [List.append_nil];exact h2
def StI (lt:α→α→Bool) (xs:List α) (a:Nat) (ys:List α):Prop:=∃ d r,ys=d++r∧xs=xs.take a++r∧d.length=a∧BkF lt 20 d∧E4 lt (xs.take a) d
theorem StI.zero (xs:List α):StI lt xs 0 xs:=⟨[],xs,rfl,by simp,rfl,.nil,E4.refl _⟩
theorem StI.len {xs ys:List α} {a:Nat} (h:StI lt xs a ys) (ha:a≤xs.length):ys.length=xs.length:=by
 obtain ⟨d,r,rfl,h2,h3,_⟩:=h
 have:=congrArg List.length h2
 simp only [List.length_append,List.length_take] at *;omega
theorem StI.parts {xs ys:List α} {a:Nat} (h:StI lt xs a ys) {b:Nat} (hab:a≤b) (hb:b≤xs.length):∃ p u s,ys=p++(u++s)∧p.length=a∧a+u.length=b∧(∀ v,v.length=u.length→Srt lt v→E4 lt u v→b=a+20→StI lt xs b (p++(v++s)))∧
  (∀ v,v.length=u.length→Srt lt v→E4 lt u v→b<a+20→b=xs.length→Bk lt 20 (p++(v++s))∧E4 lt xs (p++(v++s))):=by
 obtain ⟨d,r,rfl,h2,h3,h4,h5⟩:=h
 have hr:a+r.length=xs.length:=by have:=congrArg List.length h2;simp only [List.length_append,List.length_take] at this;omega
 have hrd:r=xs.drop a:=by
  have h6:xs.take a++xs.drop a=xs.take a++r:=by rw [List.take_append_drop];exact h2
  exact (List.append_cancel_left h6).symm
 refine ⟨d,r.take (b - a),r.drop (b - a),by rw [List.take_append_drop],h3,by simp;omega,?_,?_⟩
 ·intro v hv hs hst hba
  have ht:xs.take b=xs.take a++r.take (b - a):=by
   rw [hrd,←List.take_add];congr 1;omega
  refine ⟨d++v,r.drop (b - a),by rw [List.append_assoc],?_,?_,h4.snoc ?_ hs,?_⟩
  ·rw [ht,List.append_assoc,List.take_append_drop];exact h2
  ·rw [List.length_append,hv];simp;omega
  ·rw [hv];simp;omega
  ·rw [ht];exact h5.append hst
 ·intro v hv hs hst hba hbn
  have hd:r.drop (b - a)=[]:=List.drop_of_length_le (by omega)
  have htk:r.take (b - a)=r:=List.take_of_length_le (by omega)
  rw [hd,List.append_nil]
  rw [htk] at hst hv
  refine ⟨h4.to (.last (by omega) hs),?_⟩
  rw [h2];exact h5.append hst
def StM (lt:α→α→Bool) (xs:List α) (k a:Nat) (ys:List α):Prop:=∃ d r,ys=d++r∧d.length=a∧BkF lt (2 * k) d∧Bk lt k r∧E4 lt xs ys
theorem StM.zero {xs ys:List α} {k:Nat} (h:Bk lt k ys) (hs:E4 lt xs ys):StM lt xs k 0 ys:=⟨[],ys,rfl,rfl,.nil,h,hs⟩
theorem StM.two {xs ys:List α} {k a:Nat} (h:StM lt xs k a ys) (hk:0<k) (hl:a+2 * k≤ys.length):∃ p u v s,ys=p++(u++(v++s))∧p.length=a∧u.length=k∧v.length=k∧Srt lt u∧Srt lt v∧
  (∀ z,z.length=u.length+v.length→Srt lt z→E4 lt (u++v) z→StM lt xs k (a+2 * k) (p++(z++s))):=by
 obtain ⟨d,r,rfl,h2,h3,h4,h5⟩:=h
 rw [List.length_append] at hl
 obtain ⟨u,v,s,rfl,g1,g2,g3,g4,g5⟩:=h4.two hk (by omega)
 refine ⟨d,u,v,s,rfl,h2,g1,g2,g3,g4,fun z z1 z2 z3=>⟨d++z,s,by rw [List.append_assoc],by rw [List.length_append];omega,h3.snoc (by omega) z2,g5,?_⟩⟩
 refine h5.trans ?_
 have:=E4.mid z3 d s
 simpa only [List.append_assoc] using this
theorem StM.last {xs ys:List α} {k a:Nat} (h:StM lt xs k a ys) (hl:ys.length<a+2 * k) (hl2:a+k<ys.length):∃ p u v,ys=p++(u++(v++[]))∧p.length=a∧u.length=k∧Srt lt u∧Srt lt v∧
  (∀ z,z.length=u.length+v.length→Srt lt z→E4 lt (u++v) z→Bk lt (2 * k) (p++(z++[]))∧E4 lt xs (p++(z++[]))):=by
 obtain ⟨d,r,rfl,h2,h3,h4,h5⟩:=h
 rw [List.length_append] at hl hl2
 obtain ⟨u,v,rfl,g1,g2,g3⟩:=h4.rest (by omega) (by omega)
 refine ⟨d,u,v,by simp,h2,g1,g2,g3,fun z z1 z2 z3=>?_⟩
 rw [List.length_append] at hl
 rw [List.append_nil]
 refine ⟨h3.to (.last (by omega) z2),h5.trans ((E4.refl d).append z3)⟩
theorem StM.none {xs ys:List α} {k a:Nat} (h:StM lt xs k a ys) (hl:ys.length≤a+k):Bk lt (2 * k) ys∧E4 lt xs ys:=by
 obtain ⟨d,r,rfl,h2,h3,h4,h5⟩:=h
 rw [List.length_append] at hl
 exact ⟨h3.to (.last (by omega) (h4.one (by omega))),h5⟩
theorem Bk.done (W:W5 lt) {xs ys:List α} {k:Nat} (h:Bk lt k ys) (hs:E4 lt xs ys) (hl:ys.length≤k):ys=S4 lt xs:=B3c W hs (h.one hl)
theorem B0b (x:α):∀ s:List α,(ins lt x s).length=s.length+1
 |[]=>rfl
 |y::ys=>by unfold ins;split<;>simp [B0b x ys]
theorem A5l (xs:List α):(S4 lt xs).length=xs.length:=by
 have:∀ (l s:List α),(l.foldl (fun s x=>ins lt x s) s).length=s.length+l.length:=by
  intro l
  induction l with
  |nil=>intro s;rfl
  |cons x xs ih=>intro s;rw [List.foldl_cons,ih,B0b];simp;omega
 unfold S4;rw [this];simp
variable {α : Type}
def Del (p:α→Bool) (xs:List α) (m kk:Nat) (zs:List α):Prop:=zs.take kk=(xs.take m).filter (fun x=>!p x)∧kk<m∧zs.length=xs.length∧∀ i,kk≤i→zs[i]? =xs[i]?
theorem Del.start {p:α→Bool} {xs:List α} {k:Nat} {x:α} (h:∀ y∈xs.take k,p y=false) (hx:xs[k]? =some x) (hp:p x=true):Del p xs (k+1) k xs:=by
 refine ⟨?_,by omega,rfl,fun _ _=>rfl⟩
 rw [List.take_add_one,hx,List.filter_append,List.filter_eq_self.2 (fun y hy=>by simp [h y hy])]
 simp [hp]
theorem Del.skip {p:α→Bool} {xs zs:List α} {m kk:Nat} {x:α} (h:Del p xs m kk zs) (hx:xs[m]? =some x) (hp:p x=true):Del p xs (m+1) kk zs:=by
 obtain ⟨h1,h2,h3,h4⟩:=h
 refine ⟨?_,by omega,h3,h4⟩
 rw [List.take_add_one,hx,List.filter_append,←h1];simp [hp]
theorem Del.keep {p:α→Bool} {xs zs:List α} {m kk:Nat} {x:α} (h:Del p xs m kk zs) (hx:xs[m]? =some x) (hp:p x=false):Del p xs (m+1) (kk+1) (zs.set kk x):=by
 obtain ⟨h1,h2,h3,h4⟩:=h
 have hm:=(List.getElem?_eq_some_iff.1 hx).1
 refine ⟨?_,by omega,by simpa using h3,fun i hi=>?_⟩
 ·rw [List.take_add_one,List.getElem?_set_self (by omega),List.take_set_of_le (Nat.le_refl _),h1,List.take_add_one,hx,List.filter_append];simp [hp]
 ·rw [List.getElem?_set_ne (by omega)];exact h4 i (by omega)
theorem Del.done {p:α→Bool} {xs zs:List α} {m kk:Nat} (h:Del p xs m kk zs) (hm:xs.length≤m) (hk:kk≤xs.length):zs.take kk=xs.filter (fun x=>!p x)∧(xs.filter (fun x=>!p x)).length=kk:=by
 have h1:=h.1
 rw [List.take_of_length_le hm] at h1
 exact ⟨h1,by rw [←h1,List.length_take,h.2.2.1];omega⟩
theorem B1b {p:α→Bool} {xs:List α} {k:Nat} {x:α} (h:∀ y∈xs.take k,p y=false) (hx:xs[k]? =some x) (hp:p x=false):∀ y∈xs.take (k+1),p y=false:=by
 intro y hy
 rw [List.take_add_one,hx] at hy
 rcases List.mem_append.1 hy with hy|hy
 ·exact h y hy
 ·simp at hy;rw [hy];exact hp
theorem B2w {p:α→Bool} {xs:List α} {k:Nat} (h:∀ y∈xs.take k,p y=false) (hk:xs.length≤k):xs.filter (fun x=>!p x)=xs:=by
 rw [List.take_of_length_le hk] at h
 exact List.filter_eq_self.2 fun y hy=>by simp [h y hy]
def J3 (l:X9):Int × Int:=(min l.a l.b,max l.a l.b)
def T6 (n:Int) (had:List (Int × Int)) (l:X9):Int:=
 if min l.a l.b<0∨n≤max l.a l.b then 6 else if l.a=l.b then 8 else if l.cost<1∨1000<l.cost then 3 else if J3 l∈had then 7 else 0
def O4 (n:Int) (had:List (Int × Int)) (i:Int):List X9→Int × Int
 |[]=>(0,0)
 |l::r=>if T6 n had l=0 then O4 n (had++[J3 l]) (i+1) r else (T6 n had l,i)
def B6 (t:C5):Int × Int:=if t.n<1∨8<t.n∨28<t.links.length then (5,0) else O4 t.n [] 0 t.links
def A31 (a b:Int) (l:X9):Bool:=(l.a==a && l.b==b)||(l.a==b && l.b==a)
def Q7 (a b:Int):List X9→Int
 |[]=>0
 |l::r=>if A31 a b l then l.cost else Q7 a b r
def E9 (t:C5) (a b:Int):Int:=Q7 a b t.links
def B4m (t:C5) (x:Int) (out:List Int):Nat→List Int
 |0=>out
 |k+1=>let o:=B4m t x out k;if 0<E9 t x k∧(k:Int) ∉ o then o++[(k:Int)] else o
def A61 (t:C5):Nat→Nat→List Int→List Int
 |0,_,out=>out
 |f+1,i,out=>match out[i]? with
  |none=>out
  |some x=>A61 t f (i+1) (B4m t x out t.n.toNat)
def B07 (x:Int):List Int→List Int
 |[]=>[x]
 |y::r=>if x≤y then x::y::r else y::B07 x r
def B5l (l:List Int):List Int:=l.foldr B07 []
def B5t (t:C5) (s:Int):List Int:=if (B6 t).1≠0∨s<0∨t.n≤s then [] else B5l (A61 t 9 0 [s])
def E7 (t:C5) (had:List Int) (n:Int):List Int→Int × Bool
 |[]=>(n,!had.isEmpty)
 |s::r=>if s<0∨t.n≤s∨s∈had then (0,false) else match had.getLast? with
  |none=>E7 t [s] n r
  |some q=>if E9 t q s=0 then (0,false) else E7 t (had++[s]) (IntKind.i64.wrap (n+E9 t q s)) r
def S6 (t:C5) (p:List Int):Int × Bool:=E7 t [] 0 p
def F1 (n src dst:Int) (had:List Int):List Int→Int
 |[]=>0
 |s::r=>if s<0∨n≤s then 6 else if s=src∨s=dst then 8 else if s∈had then 7 else F1 n src dst (had++[s]) r
def M4 (n:Int) (f:E0):Int:=
 if f.src<0∨n≤f.src∨f.dst<0∨n≤f.dst then 6 else if f.src=f.dst then 8
 else if F1 n f.src f.dst [] f.via≠0 then F1 n f.src f.dst [] f.via
 else if F1 n f.src f.dst [] f.no≠0 then F1 n f.src f.dst [] f.no
 else if f.via.any (fun s=>decide (s∈f.no)) then 8 else 0
def Q0 (n:Int) (i:Int):List E0→Int × Int
 |[]=>(0,0)
 |f::r=>if M4 n f=0 then Q0 n (i+1) r else (M4 n f,i)
def D0 (l:List E0) (n:Int):Int × Int:=if 12<l.length then (5,0) else Q0 n 0 l
def N8 (x:Int):List Int→Option Nat
 |[]=>none
 |y::r=>if x=y then some 0 else (N8 x r).map (·+1)
abbrev Found:=Option (List Int) × Int
def Y1 (t:C5) (f:E0) (p:List Int) (cost:Int) (met:Nat) (rec:List Int→Int→Nat→Found→Found) (k:Nat) (st:Found):Found:=
 let c:=E9 t (p.getLastD 0) k
 if c=0∨(k:Int)∈p∨(k:Int)∈f.no then st
 else match N8 (k:Int) f.via with
  |none=>rec (p++[(k:Int)]) (cost+c) met st
  |some i=>if i=met then rec (p++[(k:Int)]) (cost+c) (met+1) st else st
def I7 (t:C5) (f:E0) (p:List Int) (cost:Int) (met:Nat) (rec:List Int→Int→Nat→Found→Found):Nat→Found→Found
 |0,st=>st
 |k+1,st=>Y1 t f p cost met rec k (I7 t f p cost met rec k st)
def onS (t:C5) (f:E0):Nat→List Int→Int→Nat→Found→Found
 |0,_,_,_,st=>st
 |fuel+1,p,cost,met,st=>
  if st.1.isSome∧st.2<cost then st
  else if p.getLastD 0=f.dst then (if met=f.via.length∧(st.1=none∨cost<st.2) then (some p,cost) else st)
  else I7 t f p cost met (onS t f fuel) t.n.toNat st
def I1 (t:C5) (f:E0):List Int × Int:=
 if (B6 t).1≠0 then ([],(B6 t).1)
 else if (D0 [f] t.n).1≠0 then ([],(D0 [f] t.n).1)
 else match (onS t f 9 [f.src] 0 0 (none,0)).1 with|none=>([],9)|some p=>(p,0)
def H0 (t:C5):List Int→Int
 |[]=>0
 |[_]=>0
 |a::b::r=>E9 t a b+H0 t (b::r)
def S1 (t:C5):List Int→Bool
 |[]=>true
 |[_]=>true
 |a::b::r=>decide (E9 t a b≠0) && S1 t (b::r)
structure A0j (t:C5) (f:E0) (q:List Int):Prop where
 src:q.head? =some f.src
 dst:q.getLast? =some f.dst
 link:S1 t q=true
 nodup:q.Nodup
 rng:∀ s∈q,0≤s∧s<t.n
 no:∀ s∈q,s ∉ f.no
 via:q.filter (fun s=>decide (s∈f.via))=f.via
def A2o:List Int→List Int→Bool
 |[],_=>true
 |_::_,[]=>false
 |a::r,b::s=>decide (a<b)||(decide (a=b) && A2o r s)
theorem A44:∀ l,A2o l l=true
 |[]=>rfl
 |a::r=>by simp [A2o,A44 r]
theorem A9x (p:List Int) {a b:Int} (h:a<b) (r s:List Int):A2o (p++a::r) (p++b::s)=true:=by
  induction p with
  |nil=>simp [A2o,h]
  |cons x p ih=>simp [A2o,ih]
def A6p (t:C5):Prop:=∀ a b,0≤E9 t a b
theorem Y0 (t:C5):∀ (p:List Int) (k:Int),p≠[]→H0 t (p++[k])=H0 t p+E9 t (p.getLastD 0) k
 |[],k,h=>(h rfl).elim
 |[a],k,_=>by simp [H0]
 |a::b::r,k,_=>by
  have:=Y0 t (b::r) k (by simp)
  simp only [List.cons_append,H0] at this ⊢
  rw [this]
  have e:(a::b::r).getLastD 0=(b::r).getLastD 0:=by simp [List.getLastD_eq_getLast?]
  rw [e];omega
theorem A0d {t:C5} (h:A6p t):∀ p,0≤H0 t p
 |[]=>Int.le_refl 0
 |[_]=>Int.le_refl 0
 |a::b::r=>by have:=A0d h (b::r);have:=h a b;simp only [H0];omega
theorem A2i {t:C5} (h:A6p t):∀ (p r:List Int),p≠[]→H0 t p≤H0 t (p++r)
 |[],_,h0=>(h0 rfl).elim
 |[a],r,_=>by simp only [H0];exact A0d h _
 |a::b::p,r,_=>by
  have:=A2i h (b::p) r (by simp)
  simp only [List.cons_append,H0] at this ⊢
  omega
theorem U4 (t:C5):∀ (p:List Int) (k:Int),p≠[]→S1 t (p++[k])=(S1 t p && decide (E9 t (p.getLastD 0) k≠0))
 |[],k,h=>(h rfl).elim
 |[a],k,_=>by simp [S1]
 |a::b::r,k,_=>by
  have:=U4 t (b::r) k (by simp)
  simp only [List.cons_append,S1] at this ⊢
  rw [this]
  have e:(a::b::r).getLastD 0=(b::r).getLastD 0:=by simp [List.getLastD_eq_getLast?]
  rw [e,Bool.and_assoc]
theorem A0u (t:C5):∀ (p r:List Int),S1 t (p++r)=true→S1 t p=true
 |[],_,_=>rfl
 |[_],_,_=>rfl
 |a::b::p,r,h=>by
  simp only [List.cons_append,S1,Bool.and_eq_true] at h ⊢
  exact ⟨h.1,A0u t (b::p) r h.2⟩
theorem A0c {x:Int}:∀ {l:List Int},N8 x l=none→x ∉ l
 |[],_=>by simp
 |y::r,h=>by
  unfold N8 at h
  by_cases e:x=y
  ·rw [if_pos e] at h;cases h
  ·rw [if_neg e] at h
   have:=A0c (Option.map_eq_none_iff.1 h)
   simp [e,this]
theorem S2 {x:Int}:∀ {l:List Int} {i:Nat},N8 x l=some i→l[i]? =some x
 |[],_,h=>by cases h
 |y::r,i,h=>by
  unfold N8 at h
  by_cases e:x=y
  ·rw [if_pos e] at h;cases h;simp [e]
  ·rw [if_neg e] at h
   obtain ⟨j,h1,rfl⟩:=Option.map_eq_some_iff.1 h
   simpa using S2 h1
structure B3p (t:C5) (f:E0) (p:List Int) (cost:Int) (met:Nat):Prop where
 src:p.head? =some f.src
 link:S1 t p=true
 nodup:p.Nodup
 rng:∀ s∈p,0≤s∧s<t.n
 no:∀ s∈p,s ∉ f.no
 via:p.filter (fun s=>decide (s∈f.via))=f.via.take met
 le:met≤f.via.length
 cost:cost=H0 t p
def W9 (t:C5) (st:Found) (q:List Int):Prop:=∃ b,st.1=some b∧(st.2<H0 t q∨(st.2=H0 t q∧A2o b q=true))
def A79 (t:C5) (f:E0) (st:Found):Prop:=∀ b,st.1=some b→A0j t f b∧st.2=H0 t b
def B4n (st:Found) (p:List Int):Prop:=∀ b,st.1=some b→∀ r,A2o b (p++r)=true
theorem B3p.ne {t:C5} {f:E0} {p:List Int} {cost:Int} {met:Nat} (h:B3p t f p cost met):p≠[]:=by
 rintro rfl;have:=h.src;cases this
theorem A5t {l:List Int} (h:l.Nodup) {i j:Nat} (hi:i<l.length) (hj:j<l.length) (e:l[i]=l[j]):i=j:=by
 have hp:=List.pairwise_iff_getElem.1 (List.nodup_iff_pairwise_ne.1 h)
 rcases Nat.lt_trichotomy i j with h1|h1|h1
 ·exact absurd e (hp i j hi hj h1)
 ·exact h1
 ·exact absurd e.symm (hp j i hj hi h1)
theorem A3x:∀ (n:Nat) (p:List Nat),p.Nodup→(∀ x∈p,x<n)→p.length≤n
  |0,p,_,h=>by
    cases p with
    |nil=>simp
    |cons a r=>exact absurd (h a (by simp)) (by omega)
  |n+1,p,hp,h=>by
    by_cases hm:n∈p
    · have:=A3x n (p.erase n) (hp.erase n) fun x hx=>by
        have h1:=(hp.mem_erase_iff).1 hx
        have:=h x h1.2
        have:=h1.1
        omega
      rw [List.length_erase_of_mem hm] at this
      omega
    · have:=A3x n p hp fun x hx=>by
        have:=h x hx
        have:x≠n:=fun e=>hm (e▸hx)
        omega
      omega
theorem T1 {n:Int} {p:List Int} (hp:p.Nodup) (hr:∀ s∈p,0≤s∧s<n):p.length≤n.toNat:=by
 have h1:(p.map Int.toNat).Nodup:=by
  rw [List.nodup_iff_pairwise_ne,List.pairwise_map]
  refine List.Pairwise.imp_of_mem ?_ (List.nodup_iff_pairwise_ne.1 hp)
  intro a b ha hb hne he
  have:=hr a ha;have:=hr b hb
  exact hne (by omega)
 have:=A3x n.toNat (p.map Int.toNat) h1 fun x hx=>by
  obtain ⟨a,ha,rfl⟩:=List.mem_map.1 hx
  have:=hr a ha
  omega
 simpa using this
theorem A3q {p:List Int} (h:p≠[]):p.getLast? =some (p.getLastD 0):=by
 rw [List.getLastD_eq_getLast?,List.getLast?_eq_some_getLast h];rfl
theorem W9.of_cost {t:C5} {st:Found} {q:List Int} {b:List Int} (h:st.1=some b) (hc:st.2<H0 t q):W9 t st q:=⟨b,h,.inl hc⟩
structure B3b (t:C5) (f:E0) (p:List Int) (st st':Found):Prop where
 sound:A79 t f st'
 keeps:∀ q,W9 t st q→W9 t st' q
 beats:∀ r,A0j t f (p++r)→W9 t st' (p++r)
 new:st'=st∨∃ b r,st'.1=some b∧b=p++r
theorem B5i {t:C5} {f:E0} (hc:A6p t) (hv:f.via.Nodup):∀ (fuel:Nat) (p:List Int) (cost:Int) (met:Nat) (st:Found),B3p t f p cost met→t.n.toNat+1≤fuel+p.length→A79 t f st→B4n st p→
    B3b t f p st (onS t f fuel p cost met st):=by
  intro fuel
  induction fuel with
  |zero=>
    intro p cost met st hp hl
    have:=T1 hp.nodup hp.rng
    omega
  |succ fuel ih=>
    intro p cost met st hp hl hs ha
    unfold onS
    by_cases h1:st.1.isSome∧st.2<cost
    · rw [if_pos h1]
      obtain ⟨b,hb⟩:=Option.isSome_iff_exists.1 h1.1
      refine ⟨hs,fun q h=>h,fun r hr=>W9.of_cost hb ?_,.inl rfl⟩
      have:=A2i hc p r hp.ne
      have:=hp.cost
      omega
    rw [if_neg h1]
    by_cases h2:p.getLastD 0=f.dst
    · rw [if_pos h2]
      have hend:∀ r,A0j t f (p++r)→r=[]:=by
        intro r hr
        cases hrr:r with
        |nil=>rfl
        |cons k r'=>
          subst hrr
          exfalso
          have hd:=hr.dst
          rw [List.getLast?_append,List.getLast?_eq_some_getLast (by simp:k::r'≠[])] at hd
          simp only [Option.some_or] at hd
          have m1:f.dst∈k::r':=by
            have:=Option.some.inj hd
            rw [←this];exact List.getLast_mem _
          have m2:f.dst∈p:=by
            have:=A3q hp.ne
            rw [h2] at this
            exact List.mem_of_getLast? this
          exact (List.nodup_append.1 hr.nodup).2.2 _ m2 _ m1 rfl
      have hgp:met=f.via.length→A0j t f p:=fun hm=>
        ⟨hp.src,by rw [A3q hp.ne,h2],hp.link,hp.nodup,hp.rng,hp.no,by rw [hp.via,hm,List.take_length]⟩
      by_cases h3:met=f.via.length∧(st.1=none∨cost<st.2)
      · rw [if_pos h3]
        refine ⟨?_,?_,?_,.inr ⟨p,[],rfl,by simp⟩⟩
        · intro b hb
          cases hb
          exact ⟨hgp h3.1,hp.cost⟩
        · rintro q ⟨b,hb,hq⟩
          rcases h3.2 with h|h
          · rw [h] at hb;cases hb
          · exact ⟨p,rfl,.inl (by dsimp only;omega)⟩
        · intro r hr
          obtain rfl:=hend r hr
          rw [List.append_nil]
          exact ⟨p,rfl,.inr ⟨hp.cost,A44 p⟩⟩
      · rw [if_neg h3]
        refine ⟨hs,fun q h=>h,?_,.inl rfl⟩
        intro r hr
        obtain rfl:=hend r hr
        have hm:met=f.via.length:=by
          have h4:=hr.via
          rw [List.append_nil,hp.via] at h4
          have:=congrArg List.length h4
          rw [List.length_take] at this
          have:=hp.le
          omega
        cases hb:st.1 with
        |none=>exact absurd ⟨hm,.inl hb⟩ h3
        |some b=>
          have hge:st.2≤cost:=Int.not_lt.1 fun h=>h3 ⟨hm,.inr h⟩
          have hpc:=hp.cost
          have hl:=ha b hb []
          refine ⟨b,hb,?_⟩
          rw [List.append_nil] at hl ⊢
          rcases Int.lt_or_eq_of_le hge with h|h
          · exact .inl (by omega)
          · exact .inr ⟨by omega,hl⟩
    rw [if_neg h2]
    have main:∀ m:Nat,m≤t.n.toNat→∃ sm,sm=I7 t f p cost met (onS t f fuel) m st∧A79 t f sm∧(∀ q,W9 t st q→W9 t sm q)∧
        (∀ (k:Nat) (r:List Int),k<m→A0j t f (p++(k:Int)::r)→W9 t sm (p++(k:Int)::r))∧(sm=st∨∃ b r,∃ k:Nat,k<m∧sm.1=some b∧b=p++(k:Int)::r):=by
      intro m
      induction m with
      |zero=>exact fun _=>⟨st,rfl,hs,fun q h=>h,fun k r hk=>by omega,.inl rfl⟩
      |succ m ihm=>
        intro hm
        obtain ⟨sm,hsm,g1,g2,g3,g4⟩:=ihm (by omega)
        simp only [I7]
        rw [←hsm]
        have stay:(∀ r,¬A0j t f (p++(m:Int)::r))→∃ s',s'=sm∧A79 t f s'∧(∀ q,W9 t st q→W9 t s' q)∧
            (∀ (k:Nat) (r:List Int),k<m+1→A0j t f (p++(k:Int)::r)→W9 t s' (p++(k:Int)::r))∧(s'=st∨∃ b r,∃ k:Nat,k<m+1∧s'.1=some b∧b=p++(k:Int)::r):=by
          intro hno
          refine ⟨sm,rfl,g1,g2,fun k r hk hg=>?_,g4.imp id fun ⟨b,r,k,hk,h⟩=>⟨b,r,k,by omega,h⟩⟩
          by_cases hkm:k=m
          · subst hkm;exact absurd hg (hno r)
          · exact g3 k r (by omega) hg
        have ahead:B4n sm (p++[(m:Int)]):=by
          intro b hb r
          rcases g4 with rfl|⟨b',r',k,hk,hb',rfl⟩
          · have:=ha b hb ((m:Int)::r)
            simpa using this
          · rw [hb'] at hb
            cases hb
            have:=A9x p (show (k:Int)<(m:Int) by omega) r' r
            simpa using this
        have go:∀ met',B3p t f (p++[(m:Int)]) (cost+E9 t (p.getLastD 0) m) met'→∃ s',s'=onS t f fuel (p++[(m:Int)]) (cost+E9 t (p.getLastD 0) m) met' sm∧A79 t f s'∧(∀ q,W9 t st q→W9 t s' q)∧
            (∀ (k:Nat) (r:List Int),k<m+1→A0j t f (p++(k:Int)::r)→W9 t s' (p++(k:Int)::r))∧(s'=st∨∃ b r,∃ k:Nat,k<m+1∧s'.1=some b∧b=p++(k:Int)::r):=by
          intro met' hpart
          have h:=ih (p++[(m:Int)]) _ met' sm hpart (by simp;omega) g1 ahead
          refine ⟨_,rfl,h.sound,fun q hq=>h.keeps q (g2 q hq),fun k r hk hg=>?_,?_⟩
          · by_cases hkm:k=m
            · subst hkm
              have:=h.beats r (by simpa using hg)
              simpa using this
            · exact h.keeps _ (g3 k r (by omega) hg)
          · rcases h.new with h0|⟨b,r,hb,rfl⟩
            · rw [h0]
              exact g4.imp id fun ⟨b,r,k,hk,h⟩=>⟨b,r,k,by omega,h⟩
            · exact .inr ⟨_,r,m,by omega,hb,by simp⟩
        unfold Y1
        dsimp only
        by_cases h3:E9 t (p.getLastD 0) m=0∨(m:Int)∈p∨(m:Int)∈f.no
        · rw [if_pos h3]
          refine stay fun r hg=>?_
          rcases h3 with h3|h3|h3
          · have h5:=hg.link
            rw [show p++(m:Int)::r=(p++[(m:Int)])++r by simp] at h5
            have h6:=A0u t _ _ h5
            rw [U4 t p m hp.ne,Bool.and_eq_true,decide_eq_true_eq] at h6
            exact h6.2 h3
          · exact (List.nodup_append.1 hg.nodup).2.2 _ h3 _ (by simp) rfl
          · exact hg.no m (by simp) h3
        rw [if_neg h3]
        have c0:E9 t (p.getLastD 0) m≠0:=fun h=>h3 (.inl h)
        have c1:(m:Int) ∉ p:=fun h=>h3 (.inr (.inl h))
        have c2:(m:Int) ∉ f.no:=fun h=>h3 (.inr (.inr h))
        have hsrc:(p++[(m:Int)]).head? =some f.src:=by rw [List.head?_append,hp.src];rfl
        have hlink:S1 t (p++[(m:Int)])=true:=by rw [U4 t p m hp.ne,hp.link,Bool.true_and,decide_eq_true_eq];exact c0
        have hnd:(p++[(m:Int)]).Nodup:=by
          rw [List.nodup_append]
          exact ⟨hp.nodup,List.nodup_cons.2 ⟨by simp,List.nodup_nil⟩,fun a ha b hb e=>by
            have hb':b=(m:Int):=by simpa using hb
            exact c1 (hb'▸e▸ha)⟩
        have hrng:∀ s∈p++[(m:Int)],0≤s∧s<t.n:=by
          intro s hs'
          rcases List.mem_append.1 hs' with h|h
          · exact hp.rng s h
          · simp at h;omega
        have hno:∀ s∈p++[(m:Int)],s ∉ f.no:=by
          intro s hs'
          rcases List.mem_append.1 hs' with h|h
          · exact hp.no s h
          · simp at h;subst h;exact c2
        have hcost:cost+E9 t (p.getLastD 0) m=H0 t (p++[(m:Int)]):=by rw [Y0 t p m hp.ne,←hp.cost]
        cases hi:N8 (m:Int) f.via with
        |none=>
          have hnv:=A0c hi
          exact go met ⟨hsrc,hlink,hnd,hrng,hno,by rw [List.filter_append,hp.via];simp [hnv],hp.le,hcost⟩
        |some i=>
          have hvi:=S2 hi
          have hmv:(m:Int)∈f.via:=List.mem_of_getElem? hvi
          have hil:=(List.getElem?_eq_some_iff.1 hvi).1
          dsimp only
          by_cases him:i=met
          · rw [if_pos him]
            subst him
            refine go (i+1) ⟨hsrc,hlink,hnd,hrng,hno,?_,by omega,hcost⟩
            rw [List.filter_append,hp.via,List.take_add_one,hvi]
            simp [hmv]
          · rw [if_neg him]
            refine stay fun r hg=>him ?_
            have h5:=hg.via
            rw [List.filter_append,hp.via,List.filter_cons,if_pos (by simpa using hmv)] at h5
            have hl2:(f.via.take met).length=met:=by rw [List.length_take];have:=hp.le;omega
            have h6:f.via[met]? =some (m:Int):=by
              rw [←h5,List.getElem?_append_right (by omega),hl2];simp
            have hml:=(List.getElem?_eq_some_iff.1 h6).1
            have e1:=(List.getElem?_eq_some_iff.1 hvi).2
            have e2:=(List.getElem?_eq_some_iff.1 h6).2
            exact A5t hv hil hml (e1.trans e2.symm)
    obtain ⟨sm,hsm,g1,g2,g3,g4⟩:=main t.n.toNat (Nat.le_refl _)
    rw [←hsm]
    refine ⟨g1,g2,fun r hr=>?_,g4.imp id fun ⟨b,r,k,hk,hb,he⟩=>⟨b,_,hb,he⟩⟩
    cases r with
    |nil=>
      exfalso
      rw [List.append_nil] at hr
      have:=hr.dst
      rw [A3q hp.ne] at this
      exact h2 (Option.some.inj this)
    |cons k r=>
      have hk:=hr.rng k (by simp)
      obtain ⟨j,rfl⟩:=Int.eq_ofNat_of_zero_le hk.1
      exact g3 j r (by omega) hr
structure A6r (n:Int) (l:X9):Prop where
 a0:0≤l.a
 a1:l.a<n
 b0:0≤l.b
 b1:l.b<n
 ne:l.a≠l.b
 c0:1≤l.cost
 c1:l.cost≤1000
theorem A6m {n:Int} {had:List (Int × Int)} {l:X9} (h:T6 n had l=0):A6r n l:=by
 unfold T6 at h
 by_cases h1:min l.a l.b<0∨n≤max l.a l.b
 ·rw [if_pos h1] at h;cases h
 rw [if_neg h1] at h
 by_cases h2:l.a=l.b
 ·rw [if_pos h2] at h;cases h
 rw [if_neg h2] at h
 by_cases h3:l.cost<1∨1000<l.cost
 ·rw [if_pos h3] at h;cases h
 exact ⟨by omega,by omega,by omega,by omega,h2,by omega,by omega⟩
theorem A1g {n:Int}:∀ {ls:List X9} {had:List (Int × Int)} {i:Int},(O4 n had i ls).1=0→∀ l∈ls,A6r n l
 |[],_,_,_=>by simp
 |l::r,had,i,h=>by
  unfold O4 at h
  by_cases h0:T6 n had l=0
  ·rw [if_pos h0] at h
   intro x hx
   rcases List.mem_cons.1 hx with rfl|hx
   ·exact A6m h0
   ·exact A1g h x hx
  ·rw [if_neg h0] at h;exact absurd h h0
theorem J8 {t:C5} (h:(B6 t).1=0):(1≤t.n∧t.n≤8∧t.links.length≤28)∧∀ l∈t.links,A6r t.n l:=by
 unfold B6 at h
 by_cases h0:t.n<1∨8<t.n∨28<t.links.length
 ·rw [if_pos h0] at h;cases h
 rw [if_neg h0] at h
 exact ⟨by omega,A1g h⟩
theorem A2f:∀ (ls:List X9) (n a b:Int),(∀ l∈ls,A6r n l)→0≤Q7 a b ls∧Q7 a b ls≤1000
 |[],_,_,_,_=>by simp [Q7]
 |l::r,n,a,b,h=>by
  unfold Q7
  by_cases h0:A31 a b l=true
  ·rw [if_pos h0];have:=h l (by simp);exact ⟨by have:=this.c0;omega,this.c1⟩
  ·rw [if_neg h0];exact A2f r n a b fun x hx=>h x (by simp [hx])
theorem A1q {t:C5} (h:(B6 t).1=0) (a b:Int):0≤E9 t a b∧E9 t a b≤1000:=A2f _ t.n a b (J8 h).2
theorem V7 {n s d:Int}:∀ {l had:List Int},F1 n s d had l=0→l.Nodup∧(∀ x∈l,(0≤x∧x<n)∧x≠s∧x≠d∧x ∉ had)
 |[],_,_=>by simp
 |x::r,had,h=>by
  unfold F1 at h
  by_cases h1:x<0∨n≤x
  ·rw [if_pos h1] at h;cases h
  rw [if_neg h1] at h
  by_cases h2:x=s∨x=d
  ·rw [if_pos h2] at h;cases h
  rw [if_neg h2] at h
  by_cases h3:x∈had
  ·rw [if_pos h3] at h;cases h
  rw [if_neg h3] at h
  obtain ⟨g1,g2⟩:=V7 h
  refine ⟨List.nodup_cons.2 ⟨fun hx=>(g2 x hx).2.2.2 (by simp),g1⟩,?_⟩
  intro y hy
  rcases List.mem_cons.1 hy with rfl|hy
  ·exact ⟨by omega,fun e=>h2 (.inl e),fun e=>h2 (.inr e),h3⟩
  ·obtain ⟨a,b,c,e⟩:=g2 y hy
   exact ⟨a,b,c,fun hm=>e (by simp [hm])⟩
structure A6h (n:Int) (f:E0):Prop where
 s0:0≤f.src
 s1:f.src<n
 d0:0≤f.dst
 d1:f.dst<n
 ne:f.src≠f.dst
 vnd:f.via.Nodup
 via:∀ x∈f.via,(0≤x∧x<n)∧x≠f.src∧x≠f.dst
 no:∀ x∈f.no,(0≤x∧x<n)∧x≠f.src∧x≠f.dst
 vno:∀ x∈f.via,x ∉ f.no
theorem A02 {n:Int} {f:E0} (h:M4 n f=0):A6h n f:=by
 unfold M4 at h
 by_cases h1:f.src<0∨n≤f.src∨f.dst<0∨n≤f.dst
 ·rw [if_pos h1] at h;cases h
 rw [if_neg h1] at h
 by_cases h2:f.src=f.dst
 ·rw [if_pos h2] at h;cases h
 rw [if_neg h2] at h
 by_cases h3:F1 n f.src f.dst [] f.via=0
 ·rw [if_neg (by simp [h3])] at h
  by_cases h4:F1 n f.src f.dst [] f.no=0
  ·rw [if_neg (by simp [h4])] at h
   by_cases h5:f.via.any (fun s=>decide (s∈f.no))=true
   ·rw [if_pos h5] at h;cases h
   obtain ⟨v1,v2⟩:=V7 h3
   obtain ⟨_,n2⟩:=V7 h4
   refine ⟨by omega,by omega,by omega,by omega,h2,v1,fun x hx=>⟨(v2 x hx).1,(v2 x hx).2.1,(v2 x hx).2.2.1⟩,fun x hx=>⟨(n2 x hx).1,(n2 x hx).2.1,(n2 x hx).2.2.1⟩,fun x hx hno=>h5 ?_⟩
   exact List.any_eq_true.2 ⟨x,hx,by simpa using hno⟩
  ·rw [if_pos h4] at h;exact absurd h h4
 ·rw [if_pos h3] at h;exact absurd h h3
theorem A9g {n:Int} {f:E0}:(D0 [f] n).1=M4 n f:=by
 unfold D0
 rw [if_neg (by simp)]
 simp only [Q0]
 by_cases h:M4 n f=0
 ·rw [if_pos h];exact h.symm
 ·rw [if_neg h]
theorem A2m {n:Int} {f:E0} (h:A6h n f):f.via.length≤n.toNat:=T1 h.vnd fun x hx=>(h.via x hx).1
theorem A59 {t:C5} {f:E0} (ht:(B6 t).1=0) (hf:A6h t.n f):B3b t f [f.src] (none,0) (onS t f 9 [f.src] 0 0 (none,0)):=by
 obtain ⟨⟨h1,h2,_⟩,_⟩:=J8 ht
 refine B5i (fun a b=>(A1q ht a b).1) hf.vnd 9 [f.src] 0 0 (none,0) ?_ (by simp;omega) (by intro b hb;cases hb) (by intro b hb;cases hb)
 refine ⟨rfl,rfl,by simp,?_,?_,?_,Nat.zero_le _,rfl⟩
 ·intro s hs;simp at hs;subst hs;exact ⟨hf.s0,hf.s1⟩
 ·intro s hs hno;simp at hs;subst hs;exact (hf.no _ hno).2.1 rfl
 ·have:f.src ∉ f.via:=fun h=>(hf.via _ h).2.1 rfl
  simp [this]
theorem B0p {t:C5} {f:E0} (h:(I1 t f).2=0):(B6 t).1=0∧A6h t.n f∧A0j t f (I1 t f).1∧∀ q,A0j t f q→H0 t (I1 t f).1<H0 t q∨(H0 t (I1 t f).1=H0 t q∧A2o (I1 t f).1 q=true):=by
  unfold I1 at h ⊢
  by_cases h1:(B6 t).1=0
  case neg=>rw [if_pos h1] at h;exact absurd h h1
  rw [if_neg (by simp [h1])] at h ⊢
  by_cases h2:(D0 [f] t.n).1=0
  case neg=>rw [if_pos h2] at h;exact absurd h h2
  rw [if_neg (by simp [h2])] at h ⊢
  have hf:=A02 (A9g▸h2)
  have L:=A59 h1 hf
  cases hb:(onS t f 9 [f.src] 0 0 (none,0)).1 with
  |none=>rw [hb] at h;cases h
  |some p=>
    rw [hb] at h
    obtain ⟨g1,g2⟩:=L.sound p hb
    refine ⟨h1,hf,g1,fun q hq=>?_⟩
    obtain ⟨s,r,rfl⟩:∃ s r,q=s::r:=by cases q with|nil=>have:=hq.src;cases this|cons s r=>exact ⟨s,r,rfl⟩
    obtain rfl:s=f.src:=by have:=hq.src;simpa using this
    obtain ⟨b,hb',hc⟩:=L.beats r hq
    rw [hb] at hb'
    obtain rfl:=Option.some.inj hb'
    rw [g2] at hc
    exact hc
def O1 (v:Int) (r:C1):Bool:=r.ver==v && (decide (0≤r.flow) && (decide (r.flow<12) && (decide (0≤r.next) && decide (r.next<8))))
def H7:Int→List Int→Bool
 |_,[]=>true
 |last,f::l=>decide (last<f) && (decide (0≤f) && (decide (f<12) && H7 f l))
def F3 (o:G3):Int:=
 if o.num<1∨100000<o.num∨o.ver<1∨1000<o.ver then 3
 else if o.kind=1 then (if 16<o.rules.length then 5 else if o.rules.all (O1 o.ver) then 0 else 3)
 else if o.kind=2 then (if 12<o.flows.length then 5 else if H7 (-1) o.flows then 0 else 3)
 else if o.kind=3 then 0 else 1
def W8 (x:J0):Prop:=x.flow<0∨12≤x.flow∨x.ver<1∨1000<x.ver
instance (x : J0) : Decidable (W8 x) := by unfold W8; infer_instance
def A34:Option J0→List J0→Int
 |_,[]=>0
 |p,x::l=>if W8 x then 3 else if p.any (fun q=>decide (x.flow≤q.flow))=true then 2 else A34 (some x) l
def A1j (l:List J0):Nat→Option J0
 |0=>none
 |j+1=>l[j]?
theorem B3x {l:List J0} {j:Nat} {R:Int} {x:J0} (h:R=A34 (A1j l j) (l.drop j)) (hx:l[j]? =some x):
  R=if W8 x then 3 else if (A1j l j).any (fun q=>decide (x.flow≤q.flow))=true then 2 else A34 (A1j l (j+1)) (l.drop (j+1)):=by
 obtain ⟨hj,rfl⟩:=List.getElem?_eq_some_iff.1 hx
 rw [h,List.drop_eq_getElem_cons hj,A34]
 simp only [A1j,List.getElem?_eq_getElem hj]
 rfl
theorem B4p {l:List J0} {j:Nat} {R:Int} (h:R=A34 (A1j l j) (l.drop j)) (hj:l.length≤j):R=0:=by
 rw [h,List.drop_of_length_le hj];rfl
def N3 (s:D8):Int:=if (E5 s.rules).1≠0 then (E5 s.rules).1 else A34 none s.stamps
structure A4t (s:D8):Prop where
 tab:A5r s.rules
 rg:∀ x∈s.stamps,¬W8 x
 up:s.stamps.Pairwise fun a b=>a.flow<b.flow
theorem A5s:∀ {l:List J0} {p:Option J0},A34 p l=0↔(∀ x∈l,¬W8 x)∧(p.toList++l).Pairwise (fun a b=>a.flow<b.flow)
  |[],p=>by cases p<;>simp [A34]
  |x::l,p=>by
    rw [A34]
    by_cases h1:W8 x
    · rw [if_pos h1]
      constructor
      · intro h;exact absurd h (by decide)
      · intro h;exact absurd h1 (h.1 x (by simp))
    rw [if_neg h1]
    by_cases h2:p.any (fun q=>decide (x.flow≤q.flow))=true
    · rw [if_pos h2]
      constructor
      · intro h;exact absurd h (by decide)
      · rintro ⟨_,h⟩
        cases p with
        |none=>simp at h2
        |some q=>
          have:=(List.pairwise_cons.1 h).1 x (by simp)
          simp at h2;omega
    rw [if_neg h2,A5s]
    have e0:(∀ y∈x::l,¬W8 y)↔∀ y∈l,¬W8 y:=by simp [h1]
    rw [e0]
    refine and_congr Iff.rfl ?_
    cases p with
    |none=>simp
    |some q=>
      have hq:q.flow<x.flow:=by simp at h2;omega
      simp only [Option.toList_some,List.cons_append,List.nil_append]
      constructor
      · intro h
        refine List.pairwise_cons.2 ⟨fun y hy=>?_,h⟩
        rcases List.mem_cons.1 hy with rfl|hy
        · exact hq
        · have:=(List.pairwise_cons.1 h).1 y hy;omega
      · intro h;exact (List.pairwise_cons.1 h).2
theorem A4y {s:D8}:N3 s=0↔A4t s:=by
 unfold N3
 by_cases h:(E5 s.rules).1=0
 ·rw [if_neg (by simpa using h),A5s]
  exact ⟨fun g=>⟨A20.1 h,g.1,by simpa using g.2⟩,fun g=>⟨g.rg,by simpa using g.up⟩⟩
 ·rw [if_pos h]
  exact ⟨fun g=>absurd g h,fun g=>absurd (A20.2 g.tab) h⟩
theorem A8a {hi:Int}:∀ {l:List Int} {lo:Int},l.Pairwise (·<·)→(∀ x∈l,lo≤x∧x<hi)→l.length≤(hi - lo).toNat
 |[],_,_,_=>Nat.zero_le _
 |x::l,lo,h,hr=>by
  obtain ⟨h1,h2⟩:=List.pairwise_cons.1 h
  have h3:=hr x (by simp)
  have:=A8a (hi:=hi) (lo:=x+1) h2 fun y hy=>⟨by have:=h1 y hy;omega,(hr y (List.mem_cons_of_mem _ hy)).2⟩
  simp only [List.length_cons];omega
theorem A4t.short {s:D8} (h:A4t s):s.stamps.length≤12:=by
 have h1:=A8a (hi:=12) (lo:=0) (l:=s.stamps.map (·.flow)) (List.pairwise_map.2 h.up) fun x hx=>by
  obtain ⟨y,hy,rfl⟩:=List.mem_map.1 hx
  have:=h.rg y hy
  unfold W8 at this;omega
 simpa using h1
def J5 (s:D8) (f:Int):Int:=match s.stamps.find? (fun x=>x.flow==f) with
 |some x=>x.ver
 |none=>0
theorem B37 {l:List J0} {f:Int} {j:Nat} {x:J0} {r:List C1} (hx:l[j]? =some x):J5 ⟨r,l.drop j⟩ f=if x.flow=f then x.ver else J5 ⟨r,l.drop (j+1)⟩ f:=by
 obtain ⟨hj,rfl⟩:=List.getElem?_eq_some_iff.1 hx
 rw [List.drop_eq_getElem_cons hj]
 by_cases h:l[j].flow=f
 ·rw [if_pos h];unfold J5;rw [List.find?_cons_of_pos (by simp [h])]
 ·rw [if_neg h];unfold J5;rw [List.find?_cons_of_neg (by simpa using h)]
theorem B43 {l:List J0} {f:Int} {j:Nat} {r:List C1} (hj:l.length≤j):J5 ⟨r,l.drop j⟩ f=0:=by
 rw [List.drop_of_length_le hj];rfl
def O5:D8:=⟨[],[]⟩
def Q4 (s:D8) (o:G3):D8 × Int:=
 if N3 s≠0 then (O5,N3 s)
 else if F3 o≠0 then (O5,F3 o)
 else if o.kind=1 then (if (O8 s.rules o.rules).2≠0 then (O5,(O8 s.rules o.rules).2) else (⟨(O8 s.rules o.rules).1,s.stamps⟩,0))
 else if o.kind=2 then (⟨s.rules,o.flows.map fun f=>⟨f,o.ver⟩⟩,0)
 else (⟨S0 s.rules o.ver,s.stamps⟩,0)
theorem A0k:∀ {l:List Int} {p:Int},H7 p l=true↔(∀ x∈l,0≤x∧x<12)∧(p::l).Pairwise (·<·)
 |[],p=>by simp [H7]
 |x::l,p=>by
  rw [H7]
  simp only [Bool.and_eq_true,decide_eq_true_eq]
  rw [A0k (l:=l)]
  constructor
  ·rintro ⟨h1,h2,h3,h4,h5⟩
   refine ⟨fun y hy=>?_,List.pairwise_cons.2 ⟨fun y hy=>?_,h5⟩⟩
   ·rcases List.mem_cons.1 hy with rfl|hy
    ·exact ⟨h2,h3⟩
    ·exact h4 y hy
   ·rcases List.mem_cons.1 hy with rfl|hy
    ·exact h1
    ·have:=(List.pairwise_cons.1 h5).1 y hy;omega
  ·rintro ⟨h1,h2⟩
   obtain ⟨h3,h4⟩:=List.pairwise_cons.1 h2
   exact ⟨h3 x (by simp),(h1 x (by simp)).1,(h1 x (by simp)).2,fun y hy=>h1 y (List.mem_cons_of_mem _ hy),h4⟩
theorem B1t {o:G3} (h:F3 o=0):o.kind=1∨o.kind=2∨o.kind=3:=by
 unfold F3 at h
 by_cases h1:o.num<1∨100000<o.num∨o.ver<1∨1000<o.ver
 ·rw [if_pos h1] at h;exact absurd h (by decide)
 rw [if_neg h1] at h
 by_cases k1:o.kind=1
 ·exact .inl k1
 by_cases k2:o.kind=2
 ·exact .inr (.inl k2)
 by_cases k3:o.kind=3
 ·exact .inr (.inr k3)
 rw [if_neg k1,if_neg k2,if_neg k3] at h;exact absurd h (by decide)
theorem B25 {o:G3} (h:F3 o=0) (hk:o.kind=1):o.rules.length≤16∧∀ r∈o.rules,r.ver=o.ver:=by
 unfold F3 at h
 by_cases h1:o.num<1∨100000<o.num∨o.ver<1∨1000<o.ver
 ·rw [if_pos h1] at h;exact absurd h (by decide)
 rw [if_neg h1,if_pos hk] at h
 by_cases h2:16<o.rules.length
 ·rw [if_pos h2] at h;exact absurd h (by decide)
 rw [if_neg h2] at h
 cases h3:o.rules.all (O1 o.ver)
 ·rw [h3] at h;exact absurd h (by decide)
 ·refine ⟨by omega,fun r hr=>?_⟩
  have:=List.all_eq_true.1 h3 r hr
  simp [O1] at this
  exact this.1
theorem A46 {o:G3} (h:F3 o=0) (hk:o.kind=2):o.flows.length≤12∧(∀ x∈o.flows,0≤x∧x<12)∧o.flows.Pairwise (·<·):=by
 unfold F3 at h
 by_cases h1:o.num<1∨100000<o.num∨o.ver<1∨1000<o.ver
 ·rw [if_pos h1] at h;exact absurd h (by decide)
 rw [if_neg h1,if_neg (by omega),if_pos hk] at h
 by_cases h2:12<o.flows.length
 ·rw [if_pos h2] at h;exact absurd h (by decide)
 rw [if_neg h2] at h
 cases h3:H7 (-1) o.flows
 ·rw [h3] at h;exact absurd h (by decide)
 ·obtain ⟨h4,h5⟩:=A0k.1 h3
  exact ⟨by omega,h4,(List.pairwise_cons.1 h5).2⟩
theorem B54 {s:D8} {o:G3} (h1:A4t s) (h2:F3 o=0) (h3:o.kind=1) (h4:(O8 s.rules o.rules).2=0):Q4 s o=(⟨A11 s.rules o.rules,s.stamps⟩,0):=by
 unfold Q4
 rw [if_neg (by simpa using A4y.2 h1),if_neg (by simpa using h2),if_pos h3,if_neg (by simpa using h4),(B24 h4).1]
theorem A7j {s:D8} {o:G3} (h1:A4t s) (h2:F3 o=0) (h3:o.kind=2):Q4 s o=(⟨s.rules,o.flows.map fun f=>⟨f,o.ver⟩⟩,0):=by
 unfold Q4
 rw [if_neg (by simpa using A4y.2 h1),if_neg (by simpa using h2),if_neg (by omega),if_pos h3]
theorem B08 {s:D8} {o:G3} (h1:A4t s) (h2:F3 o=0) (h3:o.kind=3):Q4 s o=(⟨S0 s.rules o.ver,s.stamps⟩,0):=by
 unfold Q4
 rw [if_neg (by simpa using A4y.2 h1),if_neg (by simpa using h2),if_neg (by omega),if_neg (by omega)]
end Go.St
