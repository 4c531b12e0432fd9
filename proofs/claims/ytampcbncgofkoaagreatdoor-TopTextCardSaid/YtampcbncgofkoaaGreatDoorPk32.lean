/- Texts of this proof, one behind the other. -/
import Derived.Test.YtampcbncgofkoaaGreatDoorPk31
import Derived.Deep.Cut
set_option linter.unusedSimpArgs false
set_option linter.unusedVariables false
set_option maxRecDepth 100000
set_option maxHeartbeats 16000000
namespace Go.St
open Go.RowKit
theorem B20 (c:Ctl) (l:List To) {x:To} (h:x∈(E6 c l).2):∃ y∈l,x.sw=y.sw∧x.order.kind=y.order.kind∧x.order.ver=y.order.ver∧x.order.rules=y.order.rules∧x.order.flows=y.order.flows:=by
  induction l generalizing c with
  |nil=>simp [E6,Z0] at h
  |cons y l ih=>
    unfold E6 at h
    rw [P5,tell,W1] at h
    simp only [List.nil_append,List.mem_append,List.mem_singleton] at h
    rcases h with rfl|h
    · exact ⟨y,by simp,rfl,rfl,rfl,rfl,rfl⟩
    · obtain ⟨z,hz,r⟩:=ih _ h
      exact ⟨z,by simp [hz],r⟩
theorem R8 {f:Int→List To} {n:Nat} {x:To} (h:x∈M5 f n):∃ s:Nat,s<n∧x∈f (s:Int):=by
 unfold M5 at h
 obtain ⟨s,hs,hx⟩:=List.mem_flatMap.1 h
 exact ⟨s,List.mem_range.1 hs,hx⟩
open Go.RowKit
def A0m (p:F5):Prop:=N6 p∧∀ s:Nat,(C6 p s).length≤1000000000
theorem A0m.none:A0m E2:=⟨N6.none,fun s=>by simp [E2,C6,D4]⟩
theorem J9.gd {t:C5} {v:Int} {l:List E0} {p:F5} (h:J9 t v l p):A0m p:=⟨h.small,fun s=>Nat.le_trans (h.short s) (by decide)⟩
theorem A4r {c:Ctl} {t:C5} (h:c.stage≠4):(C0 c t).1.now=c.now∧(C0 c t).1.next=c.next:=by
 unfold C0
 split
 ·exact ⟨rfl,rfl⟩
 split
 ·split
  ·exact ⟨rfl,rfl⟩
  ·exact (P7 _ _).2
 split
 ·exact ⟨rfl,rfl⟩
 exact ⟨rfl,rfl⟩
open Go.RowKit
def U7 (a:Int) (l:List To):Prop:=∀ (i:Nat) (x:To),l[i]? =some x→x.order.num=a+i+1
theorem U7.nil (a:Int):U7 a []:=fun i x h=>by simp at h
theorem U7.append {a b:Int} {l m:List To} (h:U7 a l) (hb:b=a+l.length) (k:U7 b m):U7 a (l++m):=fun i x hx=>by
 by_cases hi:i<l.length
 ·rw [List.getElem?_append_left hi] at hx;exact h i x hx
 ·rw [List.getElem?_append_right (by omega)] at hx
  have:=k _ x hx
  omega
theorem U7.mem {a:Int} {l:List To} (h:U7 a l) {x:To} (hx:x∈l):a<x.order.num∧x.order.num≤a+l.length:=by
 obtain ⟨i,hi⟩:=List.getElem?_of_mem hx
 have h1:=h i x hi
 have h2:=(List.getElem?_eq_some_iff.1 hi).1
 omega
theorem A7s {n:Int} (h:0≤n) (h2:n≤1000000000):up n=n+1:=IntWalk.i64_in _ (by omega)
theorem A2s (l:List To):∀ (c:Ctl),0≤c.num→c.num+l.length≤1000000→U7 c.num (E6 c l).2∧(E6 c l).1.num=c.num+l.length:=by
  induction l with
  |nil=>intro c _ _;simp only [E6,A5q];exact ⟨U7.nil _,by simp⟩
  |cons x l ih=>
    intro c h0 h1
    unfold E6
    rw [P5,tell,W1]
    have hu:=A7s h0 (by simp at h1;omega)
    simp only [List.length_cons] at h1
    obtain ⟨h2,h3⟩:=ih ⟨c.stage,c.now,c.next,up c.num,c.waits++[up c.num]⟩ (by show 0≤up c.num;omega) (by show up c.num+_≤_;omega)
    dsimp only at h2 h3 ⊢
    refine ⟨U7.append (b:=up c.num) (fun i y hy=>?_) (by rw [hu];rfl) h2,by rw [h3,hu,List.length_cons];omega⟩
    match i,hy with
    |0,hy=>
      obtain rfl:_=y:=by simpa using hy
      show up c.num=_
      rw [hu];omega
    |i+1,hy=>simp at hy
def A4q (o:G3):Prop:=1≤o.ver∧o.ver≤1000∧((o.kind=1∧o.rules.length≤16∧o.rules.all (O1 o.ver)=true)∨(o.kind=2∧o.flows.length≤12∧H7 (-1) o.flows=true)∨o.kind=3)
def B3t (t:C5) (x:To):Prop:=0≤x.sw∧x.sw<t.n∧A4q x.order
theorem A4q.right {o:G3} (h:A4q o) (h1:1≤o.num) (h2:o.num≤100000):F3 o=0:=by
 obtain ⟨k1,k2,k⟩:=h
 unfold F3
 rw [if_neg (by omega)]
 rcases k with ⟨k,k3,k4⟩|⟨k,k3,k4⟩|k
 ·rw [if_pos k,if_neg (by omega),if_pos k4]
 ·rw [if_neg (by omega),if_pos k,if_neg (by omega),if_pos k4]
 ·rw [if_neg (by omega),if_neg (by omega),if_pos k]
theorem A26 {s:Int}:∀ {l:List E0} {i last:Int},last<i→0≤i→i+l.length≤12→H7 last (F8 s i l)=true∧(F8 s i l).length≤l.length
 |[],i,last,_,_,_=>by simp [F8,H7]
 |f::r,i,last,h1,h2,h3=>by
  simp only [List.length_cons] at h3
  by_cases hf:f.src=s
  ·obtain ⟨k1,k2⟩:=A26 (s:=s) (l:=r) (i:=i+1) (last:=i) (by omega) (by omega) (by omega)
   rw [F8,if_pos hf]
   simp only [List.singleton_append,H7,k1,Bool.and_true,Bool.and_eq_true,decide_eq_true_eq,List.length_cons]
   omega
  ·obtain ⟨k1,k2⟩:=A26 (s:=s) (l:=r) (i:=i+1) (last:=last) (by omega) (by omega) (by omega)
   rw [F8,if_neg hf,List.nil_append]
   exact ⟨k1,by simp only [List.length_cons];omega⟩
section
variable {t : C5} {v : Int} {l : List E0}
theorem A1a {f:Int→List To} {n:Int} {x:To} (h:x∈M5 f n.toNat) (hf:∀ s y,y∈f s→y.sw=s):0≤x.sw∧x.sw<n:=by
 obtain ⟨s,hs,hx⟩:=R8 h
 have:=hf _ _ hx
 omega
theorem A8b {c:Ctl} (h:J9 t v l c.next):∀ x∈E1 c t,B3t t x:=fun x hx=>by
 have hs:=A1a hx (fun s y hy=>by
  unfold I9 at hy
  split at hy
  ·simp at hy
  ·obtain rfl:y=_:=by simpa using hy
   rfl)
 obtain ⟨s,_,hx⟩:=R8 hx
 unfold I9 at hx
 split at hx
 ·simp at hx
 ·obtain rfl:x=_:=by simpa using hx
  have hl:=h.len
  have hf:=h.flows
  have hv:=h.ver
  obtain ⟨k1,k2⟩:=A26 (s:=(s:Int)) (l:=c.next.flows) (i:=0) (last:=-1) (by omega) (by omega) (by rw [hf];omega)
  exact ⟨hs.1,hs.2,by show 1≤c.next.ver;rw [hv];exact h.v1,by show c.next.ver≤1000;rw [hv];exact h.v2,.inr (.inl ⟨rfl,by show (F8 _ _ _).length≤12;rw [hf] at k2 ⊢;omega,k1⟩)⟩
theorem B1h {now p:F5} (h:J9 t v l p) (hfu:N5 now p t.n.toNat=false):∀ x∈L7 p t,B3t t x:=fun x hx=>by
 have hs:=A1a hx (fun s y hy=>by
  unfold R4 at hy
  split at hy
  ·simp at hy
  ·obtain rfl:y=_:=by simpa using hy
   rfl)
 obtain ⟨s,hsn,hx⟩:=R8 hx
 unfold R4 at hx
 split at hx
 ·simp at hx
 ·obtain rfl:x=_:=by simpa using hx
  have hv:=h.ver
  have h16:¬16<(C6 now s).length+(C6 p s).length:=fun hc=>by
   have:N5 now p t.n.toNat=true:=by
    unfold N5
    rw [List.any_eq_true]
    exact ⟨s,List.mem_range.2 hsn,by unfold A36;rw [decide_eq_true_eq];exact hc⟩
   rw [this] at hfu;exact absurd hfu (by decide)
  refine ⟨hs.1,hs.2,by show 1≤p.ver;rw [hv];exact h.v1,by show p.ver≤1000;rw [hv];exact h.v2,.inl ⟨rfl,by show (C6 p s).length≤16;omega,?_⟩⟩
  show (C6 p s).all (O1 p.ver)=true
  rw [List.all_eq_true]
  intro r hr
  have ho:=h.out hr
  have hrv:=(L8.1 hr).1
  unfold O3 at ho
  unfold O1
  rw [hrv]
  simp only [beq_self_eq_true,Bool.true_and,Bool.and_eq_true,decide_eq_true_eq]
  omega
def T2 (t:C5) (p:F5):Prop:=p=E2∨∃ v l,J9 t v l p
theorem A9i {p:F5} (h:T2 t p):∀ x∈L9 p t,B3t t x:=fun x hx=>by
 have hs:=A1a hx (fun s y hy=>by
  unfold O0 at hy
  split at hy
  ·simp at hy
  ·obtain rfl:y=_:=by simpa using hy
   rfl)
 obtain ⟨s,_,hx⟩:=R8 hx
 unfold O0 at hx
 split at hx
 ·simp at hx
 rename_i hne
 obtain rfl:x=_:=by simpa using hx
 rcases h with rfl|⟨v,l,h⟩
 ·exact absurd (by simp [E2,C6,D4]) hne
 ·have hv:=h.ver
  exact ⟨hs.1,hs.2,by show 1≤p.ver;rw [hv];exact h.v1,by show p.ver≤1000;rw [hv];exact h.v2,.inr (.inr rfl)⟩
theorem T2.good {p:F5} (h:T2 t p):A0m p:=by
 rcases h with rfl|⟨v,l,h⟩
 ·exact A0m.none
 ·exact h.gd
end
theorem A8x {c:Ctl} {t:C5} (h:c.stage=4) (hw:c.waits=[]):C0 c t=(⟨0,c.next,E2,c.num,c.waits⟩,[]):=by
 unfold C0
 rw [if_neg (fun hh=>hh hw),if_neg (by omega),if_neg (by omega),if_pos h]
open Go.RowKit
theorem B0m {ok:Nat→Prop} {w:World} {ao:Option Addr} {cap:Nat} {l:List To} (h:A8 toS ok w ao cap l) {j:Nat} {x:To} (hx:l[j]? =some x):
  ∃ g off ra rc fb fd,ao=some ⟨g,off,none⟩∧g<w.heap.size∧I64 x.sw∧E3.rep ok w [.int .i64 x.order.kind,.int .i64 x.order.num,.int .i64 x.order.ver,.slice ra x.order.rules.length rc,.slice fb x.order.flows.length fd] x.order∧∀ w',Below w.heap.size w w'→
   w'.cell? ⟨g,off+j * 6,none⟩=some (.int .i64 x.sw)∧w'.cell? ⟨g,off+j * 6+1,none⟩=some (.int .i64 x.order.kind)∧w'.cell? ⟨g,off+j * 6+2,none⟩=some (.int .i64 x.order.num)∧w'.cell? ⟨g,off+j * 6+3,none⟩=some (.int .i64 x.order.ver)∧w'.cell? ⟨g,off+j * 6+4,none⟩=some (.slice ra x.order.rules.length rc)∧w'.cell? ⟨g,off+j * 6+5,none⟩=some (.slice fb x.order.flows.length fd):=by
 obtain ⟨g,off,rfl,_,hbl,cs,hcs,hce⟩:=h.get hx
 obtain ⟨ds,rfl,hsw,ho⟩:=hcs
 have ho':=ho
 obtain ⟨ra,rc,fa,fc,rfl,_⟩:=ho
 refine ⟨g,off,ra,rc,fa,fc,rfl,hbl,hsw,ho',fun w' hb=>⟨?_,?_,?_,?_,?_,?_⟩⟩
 ·have:=B8 hb hbl (hce 0 _ rfl);simpa only [toS,Nat.add_zero] using this
 ·exact B8 hb hbl (hce 1 _ rfl)
 ·exact B8 hb hbl (hce 2 _ rfl)
 ·exact B8 hb hbl (hce 3 _ rfl)
 ·exact B8 hb hbl (hce 4 _ rfl)
 ·exact B8 hb hbl (hce 5 _ rfl)
open Go.RowKit
def A75:Net:=⟨Q6,[],[],[],[],[]⟩
def D3 (t:C5):Net:=⟨Q6,List.replicate t.n.toNat O5,List.replicate t.n.toNat [],List.replicate t.n.toNat [],[],[]⟩
def U8 (os:List (List G3)) (x:To):List (List G3):=os.modify x.sw.toNat (·++[x.order])
def F9 (os:List (List G3)) (l:List To):List (List G3):=l.foldl U8 os
theorem A70 (os:List (List G3)) (l:List To) (x:To):F9 os (l++[x])=U8 (F9 os l) x:=by simp [F9]
theorem A6g {os:List (List G3)} {l:List To} {i:Nat} {x:To} (h:l[i]? =some x):F9 os (l.take (i+1))=U8 (F9 os (l.take i)) x:=by
 rw [List.take_add_one,h];exact A70 _ _ _
theorem A9k (os:List (List G3)) (x:To):(U8 os x).length=os.length:=by simp [U8]
theorem X7 (l:List To):∀ (os:List (List G3)),(F9 os l).length=os.length:=by
 induction l with
 |nil=>intro os;rfl
 |cons x l ih=>intro os;show (F9 (U8 os x) l).length=_;rw [ih,A9k]
def T8 (t:C5) (n:Net) (l:List E0):Net × Int:=
 if (G9 n.ctl t l).2.2≠0 then (n,(G9 n.ctl t l).2.2)
 else ({n with ctl:=(G9 n.ctl t l).1,plans:=n.plans++[(G9 n.ctl t l).1.next],orders:=F9 n.orders (G9 n.ctl t l).2.1},0)
def Z9 (t:C5) (n:Net):Net × Int:=
 if (G5 n.ctl t).2.2≠0 then (n,(G5 n.ctl t).2.2)
 else ({n with ctl:=(G5 n.ctl t).1,orders:=F9 n.orders (G5 n.ctl t).2.1},0)
def rowAt {α:Type} (t:C5) (l:List (List α)) (s:Int):List α:=if s<0∨t.n≤s then [] else l.getD s.toNat []
def L4 (t:C5) (n:Net) (s:Int):Net × Int:=
 match rowAt t n.orders s with
 |[]=>(n,6)
 |o::r=>
  if (Q4 (n.switches.getD s.toNat O5) o).2≠0 then (n,(Q4 (n.switches.getD s.toNat O5) o).2)
  else ({n with orders:=n.orders.set s.toNat r,switches:=n.switches.set s.toNat (Q4 (n.switches.getD s.toNat O5) o).1,backs:=n.backs.modify s.toNat (·++[o.num])},0)
def M7 (t:C5) (n:Net) (s:Int):Net × Int:=
 match rowAt t n.backs s with
 |[]=>(n,6)
 |x::r=>
  if (H8 n.ctl t x).2.2≠0 then (n,(H8 n.ctl t x).2.2)
  else ({n with backs:=n.backs.set s.toNat r,ctl:=(H8 n.ctl t x).1,orders:=F9 n.orders (H8 n.ctl t x).2.1},0)
def P2 (c:Ctl) (k:Int):Option E0:=if k<0 then none else (c.next.flows[k.toNat]?).or (c.now.flows[k.toNat]?)
def A07 (k:Int) (l:List D8):Option Nat:=l.findIdx? fun s=>decide (0<J5 s k)
def P0 (n:Net) (k:Int) (f:E0):Int:=match A07 k n.switches with
 |some s=>(s:Int)
 |none=>f.src
def J4 (n:Net) (k:Int):Net × Int:=
 if n.packets.length=40 then (n,5)
 else match P2 n.ctl k with
 |none=>(n,6)
 |some f=>({n with packets:=n.packets++[⟨k,J5 (n.switches.getD (P0 n k f).toNat O5) k,[P0 n k f],decide (J5 (n.switches.getD (P0 n k f).toNat O5) k=0)⟩]},0)
def S7 (n:Net) (k:Int):Option N2:=if k<0 then none else n.packets[k.toNat]?
def A48 (sw:List D8) (p:N2):N2:=
 if (C0z (sw.getD (p.trace.getLastD 0).toNat O5).rules p.ver p.flow).2 then {p with trace:=p.trace++[(C0z (sw.getD (p.trace.getLastD 0).toNat O5).rules p.ver p.flow).1]} else {p with done:=true}
def M6 (n:Net) (k:Int):Net × Int:=
 match S7 n k with
 |none=>(n,6)
 |some p=>if p.done then (n,6) else ({n with packets:=n.packets.set k.toNat (A48 n.switches p)},0)
def I8 (t:C5) (n:Net) (d:Do):Net × Int:=
 if d.kind=1 then T8 t n d.flows
 else if d.kind=2 then L4 t n d.n
 else if d.kind=3 then M7 t n d.n
 else if d.kind=4 then J4 n d.n
 else if d.kind=5 then M6 n d.n
 else if d.kind=6 then Z9 t n
 else (n,1)
def D5 (t:C5):Net→List Do→Net × List Int
 |n,[]=>(n,[])
 |n,d::l=>((D5 t (I8 t n d).1 l).1,(I8 t n d).2::(D5 t (I8 t n d).1 l).2)
def D9 (t:C5) (l:List Do):Net × List Int × (Int × Int):=
 if (B6 t).1≠0 then (A75,[],B6 t)
 else if 200<l.length then (A75,[],(5,0))
 else ((D5 t (D3 t) l).1,(D5 t (D3 t) l).2,(0,0))
theorem A3g (t:C5) (m:List Do):∀ (l:List Do) (n:Net),D5 t n (l++m)=((D5 t (D5 t n l).1 m).1,(D5 t n l).2++(D5 t (D5 t n l).1 m).2)
 |[],n=>rfl
 |d::l,n=>by
  rw [List.cons_append,D5,A3g t m l,D5]
  rfl
theorem B1k {t:C5} {n:Net} {l:List Do} {i:Nat} {d:Do} (h:l[i]? =some d):
  D5 t n (l.take (i+1))=((I8 t (D5 t n (l.take i)).1 d).1,(D5 t n (l.take i)).2++[(I8 t (D5 t n (l.take i)).1 d).2]):=by
 rw [List.take_add_one,h]
 show D5 t n (l.take i++[d])=_
 rw [A3g]
 rfl
structure Q1 (t:C5) (k:Nat) (c:Ctl):Prop where
 now:T2 t c.now
 next:T2 t c.next
 waits:c.waits.length≤16 * k
 lo:0≤c.num
 hi:c.num≤16 * k
theorem Q1.start (t:C5):Q1 t 0 Q6:=⟨.inl rfl,.inl rfl,by decide,by decide,by decide⟩
theorem Q1.small {t:C5} {k:Nat} {c:Ctl} (h:Q1 t k c) (hk:k≤1000):A2n c:=⟨h.now.good.1,h.next.good.1,by have:=h.waits;omega,h.now.good.2⟩
theorem Q1.more {t:C5} {k j:Nat} {c:Ctl} (h:Q1 t k c) (hj:k≤j):Q1 t j c:=⟨h.now,h.next,by have:=h.waits;omega,h.lo,by have:=h.hi;omega⟩
def Z4 (t:C5) (o:G3):Prop:=(∀ r∈o.rules,0≤r.next∧r.next<t.n)∧o.rules.length≤96∧o.flows.length≤12
def U9 (t:C5) (x:To):Prop:=0≤x.sw∧x.sw<t.n∧Z4 t x.order
theorem T2.flows12 {t:C5} {p:F5} (h:T2 t p):p.flows.length≤12:=by
 rcases h with rfl|⟨v,l,h⟩
 ·simp [E2]
 ·rw [h.flows];exact h.len
theorem A7m {t:C5} {c:Ctl} {l:List To} (h:∀ x∈l,U9 t x):∀ x∈(E6 c l).2,U9 t x:=fun x hx=>by
 obtain ⟨y,hy,h1,h2,h3,h4,h5⟩:=B20 _ _ hx
 obtain ⟨k1,k2,k3⟩:=h y hy
 unfold U9 Z4
 rw [h1,h4,h5]
 exact ⟨k1,k2,k3⟩
theorem B00 (c:Ctl) (t:C5) (hh:T2 t c.next):∀ x∈E1 c t,U9 t x:=fun x hx=>by
 have hs:=A1a hx (fun s y hy=>by
  unfold I9 at hy
  split at hy
  ·simp at hy
  ·obtain rfl:y=_:=by simpa using hy
   rfl)
 obtain ⟨s,_,hx⟩:=R8 hx
 unfold I9 at hx
 split at hx
 ·simp at hx
 ·obtain rfl:x=_:=by simpa using hx
  have h12:=hh.flows12
  exact ⟨hs.1,hs.2,fun r hr=>by simp at hr,Nat.zero_le _,Nat.le_trans (A26 (s:=(s:Int)) (l:=c.next.flows) (i:=0) (last:=-1) (by omega) (by omega) (by omega)).2 h12⟩
theorem B14 (p:F5) (t:C5):∀ x∈L9 p t,U9 t x:=fun x hx=>by
 have hs:=A1a hx (fun s y hy=>by
  unfold O0 at hy
  split at hy
  ·simp at hy
  ·obtain rfl:y=_:=by simpa using hy
   rfl)
 obtain ⟨s,_,hx⟩:=R8 hx
 unfold O0 at hx
 split at hx
 ·simp at hx
 ·obtain rfl:x=_:=by simpa using hx
  exact ⟨hs.1,hs.2,fun r hr=>by simp at hr,Nat.zero_le _,Nat.zero_le _⟩
theorem J9.next_in {t:C5} {v:Int} {l:List E0} {p:F5} (h:J9 t v l p) {s:Int} {r:C1} (hr:r∈C6 p s):0≤r.next∧r.next<t.n:=by
 obtain ⟨h1,i,q,k,h2,h3,h4,h5⟩:=L8.1 hr
 have hi:i<l.length:=by rw [←h.plen];exact (List.getElem?_eq_some_iff.1 h2).1
 exact (h.good i _ q (List.getElem?_eq_getElem hi) h2).2.2.rng _ (List.mem_of_getElem? h5)
theorem B2u {t:C5} {v:Int} {l:List E0} {p:F5} (h:J9 t v l p):∀ x∈L7 p t,U9 t x:=fun x hx=>by
 have hs:=A1a hx (fun s y hy=>by
  unfold R4 at hy
  split at hy
  ·simp at hy
  ·obtain rfl:y=_:=by simpa using hy
   rfl)
 obtain ⟨s,_,hx⟩:=R8 hx
 unfold R4 at hx
 split at hx
 ·simp at hx
 ·obtain rfl:x=_:=by simpa using hx
  exact ⟨hs.1,hs.2,fun r hr=>h.next_in hr,h.short s,Nat.zero_le _⟩
structure B2a (t:C5) (c d:Ctl) (o:List To):Prop where
 two:(d.now=c.now∧d.next=c.next)∨(d.now=c.next∧d.next=E2)
 waits:d.waits.length≤c.waits.length+8
 lo:c.num≤d.num
 hi:d.num≤c.num+8
 fit:∀ x∈o,U9 t x
theorem B18 {c:Ctl} {t:C5} (hh:T2 t c.next) (h8:t.n≤8) (h0:0≤c.num) (h1:c.num≤900000):B2a t c (C0 c t).1 (C0 c t).2:=by
 have hl:(E1 c t).length≤t.n.toNat:=Q2 (U5 _) _
 have hs1:=T0 ⟨2,c.now,c.next,c.num,c.waits⟩ (E1 c t)
 have hs2:=P7 ⟨2,c.now,c.next,c.num,c.waits⟩ (E1 c t)
 have hs3:=(A2s (E1 c t) ⟨2,c.now,c.next,c.num,c.waits⟩ h0 (by show c.num+_≤_;omega)).2
 have hs4:=A7m (c:=⟨2,c.now,c.next,c.num,c.waits⟩) (B00 c t hh)
 unfold C0
 split
 ·exact ⟨.inl ⟨rfl,rfl⟩,Nat.le_add_right _ _,Int.le_refl _,by show c.num≤_;omega,by simp⟩
 split
 ·split
  ·exact ⟨.inl ⟨rfl,rfl⟩,Nat.zero_le _,Int.le_refl _,by show c.num≤_;omega,by simp⟩
  ·dsimp only at hs1 hs2 hs3
   exact ⟨.inl ⟨hs2.2.1,hs2.2.2⟩,by omega,by omega,by omega,hs4⟩
 split
 ·exact ⟨.inl ⟨rfl,rfl⟩,Nat.le_add_right _ _,Int.le_refl _,by show c.num≤_;omega,by simp⟩
 split
 ·exact ⟨.inr ⟨rfl,rfl⟩,Nat.le_add_right _ _,Int.le_refl _,by show c.num≤_;omega,by simp⟩
 ·exact ⟨.inl ⟨rfl,rfl⟩,Nat.le_add_right _ _,Int.le_refl _,by show c.num≤_;omega,by simp⟩
theorem A1y {c:Ctl} {t:C5} {l:List To} {k:Nat} (h8:t.n≤8) (h:Q1 t k c) (hk:k≤50000) (hl:l.length≤8) (hf:∀ x∈l,U9 t x):
  Q1 t (k+1) (C0 (E6 c l).1 t).1∧(∀ x∈(E6 c l).2++(C0 (E6 c l).1 t).2,U9 t x)∧((E6 c l).2++(C0 (E6 c l).1 t).2).length≤16:=by
 have hlo:=h.lo
 have hhi:=h.hi
 have hw:=h.waits
 have hs1:=T0 c l
 have hs2:=P7 c l
 have hs3:=(A2s l c h.lo (by omega)).2
 have hs4:=A7m (c:=c) hf
 have hn:T2 t (E6 c l).1.now:=by rw [hs2.2.1];exact h.now
 have hx:T2 t (E6 c l).1.next:=by rw [hs2.2.2];exact h.next
 have hq:=B18 (c:=(E6 c l).1) (t:=t) hx h8 (by omega) (by omega)
 obtain ⟨q1,q2,q3,q4,q5⟩:=hq
 have hsl:=A30 (E6 c l).1 t
 refine ⟨⟨?_,?_,by omega,by omega,by omega⟩,fun x hx=>(List.mem_append.1 hx).elim (hs4 x) (q5 x),by rw [List.length_append];omega⟩
 ·rcases q1 with q1|q1
  ·rw [q1.1];exact hn
  ·rw [q1.1];exact hx
 ·rcases q1 with q1|q1
  ·rw [q1.2];exact hx
  ·rw [q1.2];exact .inl rfl
theorem A6i {t:C5} {k:Nat} {c:Ctl} {l:List E0} (h:Q1 t k c) (hk:k≤50000) (h0:(G9 c t l).2.2=0):
    Q1 t (k+1) (G9 c t l).1∧(∀ x∈(G9 c t l).2.1,U9 t x)∧(G9 c t l).2.1.length≤16∧J9 t (up c.now.ver) l (G9 c t l).1.next:=by
  by_cases h1:c.stage≠0
  · unfold G9 at h0;rw [if_pos h1] at h0;exact absurd h0 (by decide)
  by_cases h2:(D2 t (up c.now.ver) l).2.1≠0
  · unfold G9 at h0;rw [if_neg h1,if_pos h2] at h0;exact absurd h0 h2
  by_cases h3:N5 c.now (D2 t (up c.now.ver) l).1 t.n.toNat=true
  · unfold G9 at h0;rw [if_neg h1,if_neg h2,if_pos h3] at h0;exact absurd h0 (by decide)
  have hp:=A6v (Decidable.not_not.1 h2)
  have hn8:=hp.n8
  have e:G9 c t l=((C0 (E6 ⟨1,c.now,(D2 t (up c.now.ver) l).1,c.num,c.waits⟩ (L7 (D2 t (up c.now.ver) l).1 t)).1 t).1,
     (E6 ⟨1,c.now,(D2 t (up c.now.ver) l).1,c.num,c.waits⟩ (L7 (D2 t (up c.now.ver) l).1 t)).2++
       (C0 (E6 ⟨1,c.now,(D2 t (up c.now.ver) l).1,c.num,c.waits⟩ (L7 (D2 t (up c.now.ver) l).1 t)).1 t).2,0):=by
    unfold G9;rw [if_neg h1,if_neg h2,if_neg h3]
  rw [e]
  have hal:(L7 (D2 t (up c.now.ver) l).1 t).length≤t.n.toNat:=Q2 (Z8 _) _
  obtain ⟨g1,g2,g3⟩:=A1y (c:=⟨1,c.now,(D2 t (up c.now.ver) l).1,c.num,c.waits⟩) (t:=t) (l:=L7 (D2 t (up c.now.ver) l).1 t) (k:=k) hn8 ⟨h.now,.inr ⟨_,_,hp⟩,h.waits,h.lo,h.hi⟩ hk (by omega) (B2u hp)
  refine ⟨g1,g2,g3,?_⟩
  have hk2:=P7 ⟨1,c.now,(D2 t (up c.now.ver) l).1,c.num,c.waits⟩ (L7 (D2 t (up c.now.ver) l).1 t)
  have hst:(E6 ⟨1,c.now,(D2 t (up c.now.ver) l).1,c.num,c.waits⟩ (L7 (D2 t (up c.now.ver) l).1 t)).1.stage≠4:=by rw [hk2.1];show (1:Int)≠4;decide
  show J9 _ _ _ (C0 _ t).1.next
  rw [(A4r hst).2,hk2.2.2]
  exact hp
theorem A8g {t:C5} {k:Nat} {c:Ctl} {n:Int} (h:Q1 t k c) (hk:k≤50000) (h0:(H8 c t n).2.2=0):
  Q1 t (k+1) (H8 c t n).1∧(∀ x∈(H8 c t n).2.1,U9 t x)∧(H8 c t n).2.1.length≤16:=by
 by_cases h1:(B6 t).1≠0
 ·unfold H8 at h0;rw [if_pos h1] at h0;exact absurd h0 h1
 have hn8:=(J8 (Decidable.not_not.1 h1)).1.2.1
 cases hi:N8 n c.waits with
 |none=>unfold H8 at h0;rw [if_neg h1,hi] at h0;exact absurd (show (6:Int)=0 from h0) (by decide)
 |some i=>
  have e:H8 c t n=((C0 ⟨c.stage,c.now,c.next,c.num,c.waits.eraseIdx i⟩ t).1,(C0 ⟨c.stage,c.now,c.next,c.num,c.waits.eraseIdx i⟩ t).2,0):=by
   unfold H8;rw [if_neg h1,hi]
  rw [e]
  have hw:(c.waits.eraseIdx i).length≤16 * k:=Nat.le_trans (List.length_eraseIdx_le _ _) h.waits
  have hg:=A1y (c:=⟨c.stage,c.now,c.next,c.num,c.waits.eraseIdx i⟩) (t:=t) (l:=[]) (k:=k) hn8 ⟨h.now,h.next,hw,h.lo,h.hi⟩ hk (by simp) (by simp)
  exact hg
theorem A57 {t:C5} {k:Nat} {c:Ctl} (h:Q1 t k c) (hk:k≤50000) (h0:(G5 c t).2.2=0):
    Q1 t (k+1) (G5 c t).1∧(∀ x∈(G5 c t).2.1,U9 t x)∧(G5 c t).2.1.length≤16:=by
  by_cases h1:(B6 t).1≠0
  · unfold G5 at h0;rw [if_pos h1] at h0;exact absurd h0 h1
  have hn8:=(J8 (Decidable.not_not.1 h1)).1.2.1
  by_cases h2:c.stage≠3
  · unfold G5 at h0;rw [if_neg h1,if_pos h2] at h0;exact absurd h0 (by decide)
  have e:G5 c t=((C0 (E6 ⟨4,c.now,c.next,c.num,c.waits⟩ (L9 c.now t)).1 t).1,
     (E6 ⟨4,c.now,c.next,c.num,c.waits⟩ (L9 c.now t)).2++(C0 (E6 ⟨4,c.now,c.next,c.num,c.waits⟩ (L9 c.now t)).1 t).2,0):=by
    unfold G5;rw [if_neg h1,if_neg h2]
  rw [e]
  have hgl:(L9 c.now t).length≤t.n.toNat:=Q2 (A1s _) _
  exact A1y (c:=⟨4,c.now,c.next,c.num,c.waits⟩) (t:=t) (l:=L9 c.now t) (k:=k) hn8 ⟨h.now,h.next,h.waits,h.lo,h.hi⟩ hk (by omega) (B14 _ _)
structure F4 (t:C5) (k:Nat) (n:Net):Prop where
 ctl:Q1 t k n.ctl
 sw:n.switches.length=t.n.toNat
 os:n.orders.length=t.n.toNat
 bs:n.backs.length=t.n.toNat
 ord:∀ l∈n.orders,l.length≤16 * k∧∀ o∈l,Z4 t o
 back:∀ l∈n.backs,l.length≤k
 tab:∀ s∈n.switches,∀ r∈s.rules,0≤r.next∧r.next<t.n
 few:n.packets.length≤40
 pk:∀ p∈n.packets,p.trace≠[]∧p.trace.length≤k+1∧∀ x∈p.trace,0≤x∧x<t.n
 pn:n.plans.length≤k
 pl:∀ p∈n.plans,T2 t p
theorem F4.start {t:C5}:F4 t 0 (D3 t):=by
 refine ⟨Q1.start t,by simp [D3],by simp [D3],by simp [D3],fun l hl=>?_,fun l hl=>?_,fun s hs=>?_,by simp [D3],by simp [D3],by simp [D3],by simp [D3]⟩
 ·obtain rfl:=List.eq_of_mem_replicate hl;simp
 ·obtain rfl:=List.eq_of_mem_replicate hl;simp
 ·obtain rfl:=List.eq_of_mem_replicate hs;simp [O5]
theorem F4.more {t:C5} {k j:Nat} {n:Net} (h:F4 t k n) (hj:k≤j):F4 t j n:=
 ⟨h.ctl.more hj,h.sw,h.os,h.bs,fun l hl=>⟨by have:=(h.ord l hl).1;omega,(h.ord l hl).2⟩,fun l hl=>by have:=h.back l hl;omega,h.tab,h.few,fun p hp=>⟨(h.pk p hp).1,by have:=(h.pk p hp).2.1;omega,(h.pk p hp).2.2⟩,by have:=h.pn;omega,h.pl⟩
theorem A3e {t:C5} {P:G3→Prop}:∀ (l:List To) (os:List (List G3)) (m:Nat),(∀ o∈os,o.length≤m∧∀ x∈o,P x)→(∀ x∈l,P x.order)→∀ o∈F9 os l,o.length≤m+l.length∧∀ x∈o,P x
  |[],os,m,h,_=>fun o ho=>by have:=h o ho;exact ⟨by simpa using this.1,this.2⟩
  |x::l,os,m,h,hl=>by
    have hx:=hl x (by simp)
    have:=A3e (t:=t) l (U8 os x) (m+1) (fun o ho=>by
      obtain ⟨i,hi⟩:=List.getElem?_of_mem ho
      rw [U8,List.getElem?_modify] at hi
      cases hq:os[i]? with
      |none=>rw [hq] at hi;simp at hi
      |some r=>
        rw [hq] at hi
        have hr:=h r (List.mem_of_getElem? hq)
        split at hi
        · obtain rfl:r++[x.order]=o:=by simpa using hi
          refine ⟨by simp;omega,fun y hy=>?_⟩
          rcases List.mem_append.1 hy with hy|hy
          · exact hr.2 y hy
          · obtain rfl:y=x.order:=by simpa using hy
            exact hx
        · obtain rfl:r=o:=by simpa using hi
          exact ⟨by omega,hr.2⟩) (fun y hy=>hl y (List.mem_cons_of_mem _ hy))
    intro o ho
    have h1:=this o ho
    exact ⟨by have:=h1.1;simp only [List.length_cons];omega,h1.2⟩
theorem A06 {α:Type} {t:C5} {l:List (List α)} {s:Int} {o:α} {r:List α} (h:rowAt t l s=o::r):0≤s∧s<t.n∧l[s.toNat]? =some (o::r):=by
  unfold rowAt at h
  split at h
  · simp at h
  · rename_i hc
    refine ⟨by omega,by omega,?_⟩
    rw [List.getD_eq_getElem?_getD] at h
    cases hq:l[s.toNat]? with
    |none=>rw [hq] at h;simp at h
    |some x=>rw [hq] at h;simpa using h
theorem B31 (s:D8) (o:G3):∀ r∈(Q4 s o).1.rules,r∈s.rules∨r∈o.rules:=by
 intro r hr
 unfold Q4 at hr
 split at hr
 ·simp [O5] at hr
 split at hr
 ·simp [O5] at hr
 split at hr
 ·split at hr
  ·simp [O5] at hr
  ·rename_i h2
   have h3:(O8 s.rules o.rules).2=0:=Decidable.not_not.1 h2
   have hr':r∈(O8 s.rules o.rules).1:=hr
   unfold O8 at hr'
   split at hr'
   ·simp at hr'
   split at hr'
   ·simp at hr'
   ·exact (B4g _ _ _).1 hr'
 split at hr
 ·exact .inl hr
 ·exact .inl (List.mem_filter.1 hr).1
theorem T2.src {t:C5} {p:F5} (h:T2 t p) {f:E0} (hf:f∈p.flows):0≤f.src∧f.src<t.n:=by
  rcases h with rfl|⟨v,l,h⟩
  · simp [E2] at hf
  · obtain ⟨i,hi⟩:=List.getElem?_of_mem hf
    rw [h.flows] at hi
    have hl:=(List.getElem?_eq_some_iff.1 hi).1
    have hq:p.paths[i]? =some (p.paths[i]'(by rw [h.plen];exact hl)):=List.getElem?_eq_getElem _
    have hg:=(h.good i f _ hi hq).2.2
    have hs:=hg.src
    cases hp:p.paths[i]'(by rw [h.plen];exact hl) with
    |nil=>rw [hp] at hs;simp at hs
    |cons a q=>
      rw [hp] at hs
      obtain rfl:a=f.src:=by simpa using hs
      exact hg.rng _ (by rw [hp];simp)
theorem A8u {c:Ctl} {k:Int} {f:E0} (h:P2 c k=some f):f∈c.next.flows∨f∈c.now.flows:=by
  unfold P2 at h
  split at h
  · simp at h
  · cases hq:c.next.flows[k.toNat]? with
    |none=>rw [hq] at h;exact .inr (List.mem_of_getElem? (by simpa using h))
    |some x=>
      rw [hq] at h
      obtain rfl:x=f:=by simpa using h
      exact .inl (List.mem_of_getElem? hq)
theorem F4.at_in {t:C5} {k:Nat} {n:Net} (h:F4 t k n) (hn:0≤t.n) {j:Int} {f:E0} (hf:P2 n.ctl j=some f):0≤P0 n j f∧P0 n j f<t.n:=by
 unfold P0
 cases hs:A07 j n.switches with
 |none=>
  rcases A8u hf with hf|hf
  ·exact h.ctl.next.src hf
  ·exact h.ctl.now.src hf
 |some s=>
  have:=(List.findIdx?_eq_some_iff_getElem.1 hs).1
  rw [h.sw] at this
  show 0≤(s:Int)∧(s:Int)<t.n
  omega
theorem A4s {l:List C1} {v f:Int} (h:(C0z l v f).2=true):∃ r∈l,r.ver=v∧r.flow=f∧(C0z l v f).1=r.next:=by
  unfold C0z at *
  cases hq:l.find? (fun r=>r.ver==v && r.flow==f) with
  |none=>rw [hq] at h;simp at h
  |some r=>
    have h1:=List.find?_some hq
    simp at h1
    exact ⟨r,List.mem_of_find?_eq_some hq,h1.1,h1.2,rfl⟩
theorem Z5 {α:Type} {l:List α} {i:Nat} {a x:α} (h:x∈l.set i a):x∈l∨x=a:=by
 rcases List.mem_or_eq_of_mem_set h with h|h
 ·exact .inl h
 ·exact .inr h
theorem A8e {α:Type} {l:List α} {i:Nat} {g:α→α} {x:α} (h:x∈l.modify i g):x∈l∨∃ y∈l,x=g y:=by
  obtain ⟨j,hj⟩:=List.getElem?_of_mem h
  rw [List.getElem?_modify] at hj
  cases hq:l[j]? with
  |none=>rw [hq] at hj;simp at hj
  |some y=>
    rw [hq] at hj
    split at hj
    · exact .inr ⟨y,List.mem_of_getElem? hq,by simpa using hj.symm⟩
    · obtain rfl:y=x:=by simpa using hj
      exact .inl (List.mem_of_getElem? hq)
theorem A7y {α:Type} {l:List α} {i:Nat} {d:α}:l.getD i d∈l∨l.getD i d=d:=by
  rw [List.getD_eq_getElem?_getD]
  cases hq:l[i]? with
  |none=>exact .inr rfl
  |some x=>exact .inl (List.mem_of_getElem? hq)
theorem F4.tell {t:C5} {k:Nat} {n:Net} (h:F4 t k n) {l:List To} (hl:∀ x∈l,U9 t x) (h16:l.length≤16):∀ o∈F9 n.orders l,o.length≤16 * (k+1)∧∀ x∈o,Z4 t x:=by
 intro o ho
 have:=A3e (t:=t) (P:=Z4 t) l n.orders (16 * k) h.ord (fun x hx=>(hl x hx).2.2) o ho
 exact ⟨by omega,this.2⟩
theorem B49 {t:C5} {k:Nat} {n:Net} (h:F4 t k n) (hk:k≤50000) (l:List E0):F4 t (k+1) (T8 t n l).1:=by
 unfold T8
 split
 ·exact h.more (Nat.le_succ k)
 ·rename_i h0
  obtain ⟨g1,g2,g3,g4⟩:=A6i h.ctl hk (Decidable.not_not.1 h0)
  have h':=h.more (Nat.le_succ k)
  exact ⟨g1,h.sw,by show (F9 _ _).length=_;rw [X7];exact h.os,h.bs,h.tell g2 g3,h'.back,h.tab,h.few,h'.pk,by show (_++[_]:List F5).length≤_;have:=h.pn;simp;omega,fun p hp=>by
   rcases List.mem_append.1 hp with hp|hp
   ·exact h.pl p hp
   ·obtain rfl:=List.mem_singleton.1 hp
    exact .inr ⟨_,_,g4⟩⟩
theorem B29 {t:C5} {k:Nat} {n:Net} (h:F4 t k n) (hk:k≤50000):F4 t (k+1) (Z9 t n).1:=by
 unfold Z9
 split
 ·exact h.more (Nat.le_succ k)
 ·rename_i h0
  obtain ⟨g1,g2,g3⟩:=A57 h.ctl hk (Decidable.not_not.1 h0)
  have h':=h.more (Nat.le_succ k)
  exact ⟨g1,h.sw,by show (F9 _ _).length=_;rw [X7];exact h.os,h.bs,h.tell g2 g3,h'.back,h.tab,h.few,h'.pk,h'.pn,h.pl⟩
theorem B0j {t:C5} {k:Nat} {n:Net} (h:F4 t k n) (s:Int):F4 t (k+1) (L4 t n s).1:=by
 have h':=h.more (Nat.le_succ k)
 unfold L4
 split
 ·exact h'
 ·rename_i o r hr
  obtain ⟨b0,b1,hs⟩:=A06 hr
  have hm:=h.ord _ (List.mem_of_getElem? hs)
  split
  ·exact h'
  ·refine ⟨h'.ctl,by show (List.set _ _ _).length=_;rw [List.length_set];exact h.sw,by show (List.set _ _ _).length=_;rw [List.length_set];exact h.os,by show (List.modify _ _ _).length=_;rw [List.length_modify];exact h.bs,fun l hl=>?_,fun l hl=>?_,fun x hx=>?_,h.few,h'.pk,h'.pn,h.pl⟩
   ·rcases Z5 hl with hl|rfl
    ·exact h'.ord l hl
    ·exact ⟨by have:=hm.1;simp only [List.length_cons] at this;omega,fun o ho=>hm.2 o (List.mem_cons_of_mem _ ho)⟩
   ·rcases A8e hl with hl|⟨y,hy,rfl⟩
    ·exact h'.back l hl
    ·have:=h.back y hy;simp;omega
   ·rcases Z5 hx with hx|rfl
    ·exact h.tab x hx
    ·intro q hq
     rcases B31 _ _ q hq with hq|hq
     ·rcases A7y (l:=n.switches) (i:=s.toNat) (d:=O5) with hg|hg
      ·exact h.tab _ hg q hq
      ·rw [hg] at hq;simp [O5] at hq
     ·exact (hm.2 o (by simp)).1 q hq
theorem B2f {t:C5} {k:Nat} {n:Net} (h:F4 t k n) (hk:k≤50000) (s:Int):F4 t (k+1) (M7 t n s).1:=by
 have h':=h.more (Nat.le_succ k)
 unfold M7
 split
 ·exact h'
 ·rename_i x r hr
  obtain ⟨b0,b1,hs⟩:=A06 hr
  have hm:=h.back _ (List.mem_of_getElem? hs)
  split
  ·exact h'
  ·rename_i h0
   obtain ⟨g1,g2,g3⟩:=A8g h.ctl hk (Decidable.not_not.1 h0)
   refine ⟨g1,h.sw,by show (F9 _ _).length=_;rw [X7];exact h.os,by show (List.set _ _ _).length=_;rw [List.length_set];exact h.bs,h.tell g2 g3,fun l hl=>?_,h.tab,h.few,h'.pk,h'.pn,h.pl⟩
   rcases Z5 hl with hl|rfl
   ·exact h'.back l hl
   ·simp only [List.length_cons] at hm;omega
theorem B1q {t:C5} {k:Nat} {n:Net} (h:F4 t k n) (hn:0≤t.n) (j:Int):F4 t (k+1) (J4 n j).1:=by
 have h':=h.more (Nat.le_succ k)
 unfold J4
 split
 ·exact h'
 ·rename_i h40
  split
  ·exact h'
  ·rename_i f hf
   have ha:=h.at_in hn hf
   refine ⟨h'.ctl,h.sw,h.os,h.bs,h'.ord,h'.back,h.tab,by show (_++[_]:List N2).length≤_;have:=h.few;simp;omega,fun p hp=>?_,h'.pn,h.pl⟩
   rcases List.mem_append.1 hp with hp|hp
   ·exact h'.pk p hp
   ·obtain rfl:=List.mem_singleton.1 hp
    exact ⟨by simp,by simp,fun x hx=>by obtain rfl:=List.mem_singleton.1 hx;exact ha⟩
theorem A1i {n:Net} {j:Int} {p:N2} (h:S7 n j=some p):0≤j∧n.packets[j.toNat]? =some p:=by
 unfold S7 at h
 split at h
 ·simp at h
 ·exact ⟨by omega,h⟩
theorem B30 {t:C5} {k:Nat} {n:Net} (h:F4 t k n) (j:Int):F4 t (k+1) (M6 n j).1:=by
 have h':=h.more (Nat.le_succ k)
 unfold M6
 split
 ·exact h'
 ·rename_i p hp
  split
  ·exact h'
  ·obtain ⟨b0,hq⟩:=A1i hp
   have hm:=h.pk p (List.mem_of_getElem? hq)
   refine ⟨h'.ctl,h.sw,h.os,h.bs,h'.ord,h'.back,h.tab,by show (List.set _ _ _).length≤_;rw [List.length_set];exact h.few,fun x hx=>?_,h'.pn,h.pl⟩
   rcases Z5 hx with hx|rfl
   ·exact h'.pk x hx
   ·unfold A48
    split
    ·rename_i hn
     obtain ⟨r,hr,_,_,he⟩:=A4s hn
     refine ⟨by simp,by have:=hm.2.1;simp;omega,fun x hx=>?_⟩
     rcases List.mem_append.1 hx with hx|hx
     ·exact hm.2.2 x hx
     ·obtain rfl:=List.mem_singleton.1 hx
      rw [he]
      rcases A7y (l:=n.switches) (i:=(p.trace.getLastD 0).toNat) (d:=O5) with hg|hg
      ·exact h.tab _ hg r hr
      ·rw [hg] at hr;simp [O5] at hr
    ·exact ⟨hm.1,by have:=hm.2.1;show p.trace.length≤_;omega,hm.2.2⟩
theorem A3y {t:C5} {k:Nat} {n:Net} (h:F4 t k n) (hk:k≤50000) (hn:0≤t.n) (d:Do):F4 t (k+1) (I8 t n d).1:=by
 unfold I8
 split
 ·exact B49 h hk _
 split
 ·exact B0j h _
 split
 ·exact B2f h hk _
 split
 ·exact B1q h hn _
 split
 ·exact B30 h _
 split
 ·exact B29 h hk
 ·exact h.more (Nat.le_succ k)
theorem A7e {t:C5} (hn:0≤t.n):∀ (l:List Do) (k:Nat) (n:Net),F4 t k n→k+l.length≤50000→F4 t (k+l.length) (D5 t n l).1
 |[],k,n,h,_=>h
 |d::l,k,n,h,hk=>by
  simp only [List.length_cons] at hk
  have:=A7e hn l (k+1) _ (A3y h (by omega) hn d) (by omega)
  rw [D5]
  simp only [List.length_cons]
  rwa [show k+(l.length+1)=k+1+l.length by omega]
end Go.St
namespace Go.Proofs.YtampcbncgofkoaaGreatDoor
open Go.RowKit Go.St
structure RV where
 n0:Value
 n1:Value
 n2:Value
 x0:Value
 x1:Value
 x2:Value
 qa:Option Addr
 qc:Nat
 sb:Nat
 ob:Nat
 bb:Nat
 pa:Option Addr
 pc:Nat
 la:Option Addr
 lc:Nat
 fo:Nat→Option Addr × Nat
 fb:Nat→Option Addr × Nat
def X6 (V:RV) (N:Nat) (t:C5) (n:Net) (lka:Option Addr) (lkc:Nat):Array Value:=
 #[.int .i64 n.ctl.stage,V.n0,V.n1,V.n2,V.x0,V.x1,V.x2,.int .i64 n.ctl.num,.slice V.qa n.ctl.waits.length V.qc,.slice (some ⟨V.sb,0,none⟩) N N,.slice (some ⟨V.ob,0,none⟩) N N,.slice (some ⟨V.bb,0,none⟩) N N,.slice V.pa n.packets.length V.pc,.slice V.la n.plans.length V.lc,.int .i64 ((N:Nat):Int),.slice lka t.links.length lkc]
structure C9 (I M:Nat→Prop) (lka:Option Addr) (lkc R N:Nat) (t:C5) (w:World) (n:Net) (V:RV):Prop where
 box:A6 w R 79 (X6 V N t n lka lkc)
 st:I64 n.ctl.stage
 nu:I64 n.ctl.num
 now:B7 w I V.n0 V.n1 V.n2 n.ctl.now
 next:B7 w I V.x0 V.x1 V.x2 n.ctl.next
 wts:A8 C2 I w V.qa V.qc n.ctl.waits
 tn:t.n=((N:Nat):Int)
 lk:A8 A0e I w lka lkc t.links
 sws:qR E8 65 I R w (some ⟨V.sb,0,none⟩) N N n.switches
 ords:TQ E3 76 109 I R w V.ob N V.fo n.orders
 bks:TQ C2 41 3 I R w V.bb N V.fb n.backs
 pks:qR K0 59 I R w V.pa n.packets.length V.pc n.packets
 pls:qR C3 34 I R w V.la n.plans.length V.lc n.plans
 im:∀ b,I b→¬M b
 mR:M R
 mS:M V.sb
 mO:M V.ob
 mB:M V.bb
 mo:∀ s,s<N→∀ k,Go.St.blk (V.fo s).1=some k→M k
 mb:∀ s,s<N→∀ k,Go.St.blk (V.fb s).1=some k→M k
 mp:∀ k,Go.St.blk V.pa=some k→M k
 ml:∀ k,Go.St.blk V.la=some k→M k
 rng:∀ b,M b→R≤b∧b<w.heap.size
section
variable {I I' M M' : Nat → Prop} {lka : Option Addr} {lkc R N : Nat} {t : C5} {w w' : World} {n : Net} {V : RV}
theorem C9.frm (h:C9 I M lka lkc R N t w n V) {W:Nat→Prop} {B:Nat} (F:Frm W B w w') (hW:∀ b,b<w.heap.size→M b∨I b→W b∨b<B) (hI:∀ b,b<w.heap.size→I b→I' b) (hI':∀ b,I' b→¬M b):C9 I' M lka lkc R N t w' n V:=by
 have hM:=fun b hb=>hW b (h.rng b hb).2 (.inl hb)
 have hi:=fun b (hl:b<w.heap.size) hb=>hW b hl (.inr hb)
 have hF:∀ b,b<w.heap.size→I b→I' b∧w'.heap[b]? =w.heap[b]? :=fun b hl hb=>⟨hI b hl hb,by
  rcases hi b hl hb with h1|h1
  ·exact F.keep b hl h1
  ·exact F.below.block b h1⟩
 exact ⟨F.blk h.box (hM _ h.mR),h.st,h.nu,C3.mono h.now hF,C3.mono h.next hF,h.wts.mono hF,h.tn,h.lk.mono hF,
  h.sws.frm F (fun k hk h1=>h1.elim (fun e=>hM k (by obtain rfl:V.sb=k:=(by simpa [Go.St.blk] using e);exact h.mS)) (hi k hk)) hI,
  h.ords.frm F (hM _ h.mO) (fun i hi' k hk=>hM k (h.mo i hi' k hk)) hi hI,h.bks.frm F (hM _ h.mB) (fun i hi' k hk=>hM k (h.mb i hi' k hk)) hi hI,
  h.pks.frm F (fun k hk h1=>h1.elim (fun e=>hM k (h.mp k e)) (hi k hk)) hI,h.pls.frm F (fun k hk h1=>h1.elim (fun e=>hM k (h.ml k e)) (hi k hk)) hI,
  hI',h.mR,h.mS,h.mO,h.mB,h.mo,h.mb,h.mp,h.ml,fun b hb=>⟨(h.rng b hb).1,Nat.lt_of_lt_of_le (h.rng b hb).2 F.size⟩⟩
theorem C9.below (h:C9 I M lka lkc R N t w n V) (hb:Below w.heap.size w w'):C9 I M lka lkc R N t w' n V:=
 h.frm (W:=fun _=>True) (Frm.of hb (Nat.le_refl _)) (fun _ _ _=>.inl trivial) (fun _ _ h=>h) h.im
theorem C9.here (h:C9 I M lka lkc R N t w n V):C9 (fun b=>I b∧b<w.heap.size) M lka lkc R N t w n V:=
 h.frm (W:=fun _=>True) (Frm.refl _ 0 w) (fun _ _ _=>.inl trivial) (fun b hl hb=>⟨hb,hl⟩) (fun b hb=>h.im b hb.1)
theorem C9.far (h:C9 I M lka lkc R N t w n V) {k:Nat} {cur:Array Value} {τ:TypeId} {fr:Nat × Nat} (hk:w.heap[k]? =some (.cells cur τ fr)):
  (79≠τ→k≠R)∧(65≠τ→k≠V.sb)∧(76≠τ→k≠V.ob)∧(41≠τ→k≠V.bb)∧(109≠τ→∀ s,s<N→Go.St.blk (V.fo s).1≠some k)∧(3≠τ→∀ s,s<N→Go.St.blk (V.fb s).1≠some k)∧(59≠τ→Go.St.blk V.pa≠some k)∧(34≠τ→Go.St.blk V.la≠some k):=by
 have key:∀ {b:Nat} {cs:Array Value} {σ:TypeId},A6 w b σ cs→σ≠τ→k≠b:=fun hb hne e=>by
  subst e
  have:=hb.symm.trans hk
  simp at this
  exact hne this.2.1
 refine ⟨key h.box,fun hne e=>h.sws.noType hk hne (by rw [e];rfl),key h.ords.blk,key h.bks.blk,fun hne s hs=>(h.ords.own s hs).noType hk hne,fun hne s hs=>(h.bks.own s hs).noType hk hne,fun hne=>h.pks.noType hk hne,fun hne=>h.pls.noType hk hne⟩
theorem C9.parts (h:C9 I M lka lkc R N t w n V) {C:Nat→Prop} (F:Frm (fun b=>¬C b) R w w') (hC:∀ b,b<w.heap.size→C b→M b) (hI:∀ b,b<w.heap.size→I b→I' b):
  B7 w' I' V.n0 V.n1 V.n2 n.ctl.now∧B7 w' I' V.x0 V.x1 V.x2 n.ctl.next∧A8 C2 I' w' V.qa V.qc n.ctl.waits∧A8 A0e I' w' lka lkc t.links∧
  (¬C R→A6 w' R 79 (X6 V N t n lka lkc))∧(¬C V.sb→qR E8 65 I' R w' (some ⟨V.sb,0,none⟩) N N n.switches)∧
  (¬C V.ob→(∀ s,s<N→∀ k,Go.St.blk (V.fo s).1=some k→¬C k)→TQ E3 76 109 I' R w' V.ob N V.fo n.orders)∧
  (¬C V.bb→(∀ s,s<N→∀ k,Go.St.blk (V.fb s).1=some k→¬C k)→TQ C2 41 3 I' R w' V.bb N V.fb n.backs)∧
  ((∀ k,Go.St.blk V.pa=some k→¬C k)→qR K0 59 I' R w' V.pa n.packets.length V.pc n.packets)∧((∀ k,Go.St.blk V.la=some k→¬C k)→qR C3 34 I' R w' V.la n.plans.length V.lc n.plans):=by
 have hi:∀ b,b<w.heap.size→I b→¬C b:=fun b hl hb hc=>h.im b hb (hC b hl hc)
 have hF:∀ b,b<w.heap.size→I b→I' b∧w'.heap[b]? =w.heap[b]? :=fun b hl hb=>⟨hI b hl hb,F.keep b hl (hi b hl hb)⟩
 refine ⟨C3.mono h.now hF,C3.mono h.next hF,h.wts.mono hF,h.lk.mono hF,fun hc=>F.blk h.box (.inl hc),fun hc=>h.sws.frm F (fun k hk h1=>.inl (h1.elim (fun e=>by obtain rfl:V.sb=k:=(by simpa [Go.St.blk] using e);exact hc) (hi k hk))) hI,
  fun hc hr=>h.ords.frm F (.inl hc) (fun i hi' k hk=>.inl (hr i hi' k hk)) (fun k hk e=>.inl (hi k hk e)) hI,fun hc hr=>h.bks.frm F (.inl hc) (fun i hi' k hk=>.inl (hr i hi' k hk)) (fun k hk e=>.inl (hi k hk e)) hI,
  fun hc=>h.pks.frm F (fun k hk h1=>.inl (h1.elim (hc k) (hi k hk))) hI,fun hc=>h.pls.frm F (fun k hk h1=>.inl (h1.elim (hc k) (hi k hk))) hI⟩
theorem C9.push (h:C9 I M lka lkc R N t w n V) {s:Nat} (hs:s<N) {ao:Option Addr} {cap m:Nat} {l:List G3} (hm:m=l.length) (ho:qR E3 109 (fun b=>I b∧b<w.heap.size) R w' ao m cap l) (hg:w.grownBy w' (Go.St.blk (V.fo s).1))
  (hd:Go.St.blk ao=Go.St.blk (V.fo s).1∨Go.St.blk ao=some w.heap.size):
  C9 (fun b=>I b∧b<w.heap.size) (fun b=>M b∨Go.St.blk ao=some b) lka lkc R N t (w'.setCell ⟨V.ob,s,none⟩ (.slice ao m cap)) {n with orders:=n.orders.set s l} {V with fo:=upd V.fo s (ao,cap)}∧Frm (fun b=>¬M b) R w (w'.setCell ⟨V.ob,s,none⟩ (.slice ao m cap)):=by
 have hO:=h.far h.ords.blk
 have hrow:∀ k,Go.St.blk (V.fo s).1=some k→∃ cur,w.heap[k]? =some (.cells cur 109 (0,0)):=fun k hk=>(h.ords.own s hs).has hk
 have hIM:∀ b,(I b∧b<w.heap.size)→¬(M b∨Go.St.blk ao=some b):=fun b hb hc=>by
  rcases hc with hc|hc
  ·exact h.im b hb.1 hc
  ·rcases hd with hd|hd
   ·exact h.im b hb.1 (h.mo s hs b (by rw [←hd];exact hc))
   ·rw [hd] at hc
    have:w.heap.size=b:=by simpa using hc
    omega
 have F:Frm (fun b=>¬(b=V.ob∨Go.St.blk (V.fo s).1=some b)) R w (w'.setCell ⟨V.ob,s,none⟩ (.slice ao m cap)):=
  (Frm.grown hg (fun k hk=>⟨fun hc=>hc (.inr hk),(h.rng k (h.mo s hs k hk)).1⟩) (by have:=h.rng R h.mR;omega)).trans (Frm.set (a:=⟨V.ob,s,none⟩) (fun hc=>hc (.inl rfl)) (h.rng _ h.mO).1 _)
 have hCM:∀ b,b<w.heap.size→(b=V.ob∨Go.St.blk (V.fo s).1=some b)→M b:=fun b _ hc=>by
  rcases hc with rfl|hc
  ·exact h.mO
  ·exact h.mo s hs b hc
 obtain ⟨k1,k2,k3,k4,k5,k6,k7,k8,k9,k10⟩:=h.parts (I':=fun b=>I b∧b<w.heap.size) F hCM (fun b hl hb=>⟨hb,hl⟩)
 have hrf:∀ {σ:TypeId} {b:Nat} {cur:Array Value} {fr:Nat × Nat},w.heap[b]? =some (.cells cur σ fr)→76≠σ→109≠σ→¬(b=V.ob∨Go.St.blk (V.fo s).1=some b):=fun hb h1 h2 hc=>by
  have:=h.far hb
  rcases hc with hc|hc
  ·exact this.2.2.1 h1 hc
  ·exact this.2.2.2.2.1 h2 s hs hc
 have hsz:w.heap.size≤(w'.setCell ⟨V.ob,s,none⟩ (.slice ao m cap)).heap.size:=F.size
 refine ⟨⟨k5 (hrf h.box (by decide) (by decide)),h.st,h.nu,k1,k2,k3,h.tn,k4,k6 (let ⟨cur,hc⟩:=h.sws.has (k:=V.sb) rfl;hrf hc (by decide) (by decide)),
  h.ords.put (by decide) hs hm ho hg hd (fun b hl hb=>⟨hb,hl⟩) (fun k hk hi=>h.im k hi (h.mo s hs k hk)) (fun hi=>h.im _ hi h.mO) (fun hi=>h.im _ hi.1 h.mO),
  k8 (hrf h.bks.blk (by decide) (by decide)) (fun i hi k hk=>let ⟨cur,hc⟩:=(h.bks.own i hi).has hk;hrf hc (by decide) (by decide)),
  k9 (fun k hk=>let ⟨cur,hc⟩:=h.pks.has hk;hrf hc (by decide) (by decide)),k10 (fun k hk=>let ⟨cur,hc⟩:=h.pls.has hk;hrf hc (by decide) (by decide)),
  hIM,.inl h.mR,.inl h.mS,.inl h.mO,.inl h.mB,fun i hi k hk=>?_,fun i hi k hk=>.inl (h.mb i hi k hk),fun k hk=>.inl (h.mp k hk),fun k hk=>.inl (h.ml k hk),fun b hb=>?_⟩,F.weak (fun b _ hb=>.inl (fun hc=>hb (hCM b (by assumption) hc))) (Nat.le_refl _)⟩
 ·by_cases e:i=s
  ·subst e
   have hk':Go.St.blk (upd V.fo i (ao,cap) i).1=some k:=hk
   rw [C10] at hk'
   exact .inr hk'
  ·have hk':Go.St.blk (upd V.fo s (ao,cap) i).1=some k:=hk
   rw [O9 _ _ e] at hk'
   exact .inl (h.mo i hi k hk')
 ·rcases hb with hb|hb
  ·have:=h.rng b hb;omega
  ·have:=ho.lt b hb
   have e:(w'.setCell ⟨V.ob,s,none⟩ (.slice ao m cap)).heap.size=w'.heap.size:=by simp
   omega
end
end Go.Proofs.YtampcbncgofkoaaGreatDoor
namespace Go.St
open Go.RowKit
def ST3 (R bx ob s:Nat) (vo r v1 v2 v3 v4 v5:Value) (w:World):Prop:=w.cell? ⟨R,10,none⟩=some vo∧w.cell? ⟨ob,s,none⟩=some r∧w.cell? ⟨bx,0,none⟩=some (.int .i64 s)∧w.cell? ⟨bx,1,none⟩=some v1∧w.cell? ⟨bx,2,none⟩=some v2∧w.cell? ⟨bx,3,none⟩=some v3∧w.cell? ⟨bx,4,none⟩=some v4∧w.cell? ⟨bx,5,none⟩=some v5
theorem ST3.of {R bx ob s:Nat} {vo r v1 v2 v3 v4 v5:Value} {w:World} {t:TypeId} (h1:w.cell? ⟨R,10,none⟩=some vo) (h2:w.cell? ⟨ob,s,none⟩=some r) (h:A6 w bx t #[.int .i64 s,v1,v2,v3,v4,v5]):ST3 R bx ob s vo r v1 v2 v3 v4 v5 w:=
 ⟨h1,h2,h.cells.1 0,h.cells.1 1,h.cells.1 2,h.cells.1 3,h.cells.1 4,h.cells.1 5⟩
theorem B0y {w:World} {b:Nat} {e:TypeId} {x:G3} {ra fb:Option Addr} {rc fd:Nat} {ok:Nat→Prop} (h:A6 w b e #[.int .i64 x.kind,.int .i64 x.num,.int .i64 x.ver,.slice ra x.rules.length rc,.slice fb x.flows.length fd])
    (ho:E3.rep ok w [.int .i64 x.kind,.int .i64 x.num,.int .i64 x.ver,.slice ra x.rules.length rc,.slice fb x.flows.length fd] x):D7 E3 ok w (some ⟨b,0,none⟩) [x]:=by
  refine .inr ⟨b,0,rfl,fun i y hy=>?_⟩
  match i,hy with
  |0,hy=>
    obtain rfl:x=y:=by simpa using hy
    refine ⟨_,ho,fun j c hc=>?_⟩
    simp only [Nat.zero_mul,Nat.zero_add]
    rw [h.cells.1 j]
    simpa using hc
  |i+1,hy=>simp at hy
theorem A9y {os:List (List G3)} {x:To} (h:x.sw.toNat<os.length):U8 os x=os.set x.sw.toNat (os.getD x.sw.toNat []++[x.order]):=by
 apply List.ext_getElem?
 intro i
 rw [U8,List.getElem?_modify,List.getElem?_set,List.getD_eq_getElem?_getD]
 by_cases e:x.sw.toNat=i
 ·subst e
  rw [List.getElem?_eq_getElem h]
  simp [h]
 ·simp [e]
end Go.St
namespace Go.Proofs.YtampcbncgofkoaaGreatDoor
open Go.RowKit Go.St
theorem A3w:(Tryz.prog.info? 109).map (fun i=>(i.zero,i.size,i.bytes))=some (some (.agg #[.int .i64 0,.int .i64 0,.int .i64 0,.slice none 0 0,.slice none 0 0]),5,72):=by kernel_rfl
theorem C9.sub {I I' M:Nat→Prop} {lka:Option Addr} {lkc R N:Nat} {t:C5} {w:World} {n:Net} {V:RV} (h:C9 I M lka lkc R N t w n V) (hI:∀ b,b<w.heap.size→I b→I' b) (hI':∀ b,I' b→¬M b):C9 I' M lka lkc R N t w n V:=
 h.frm (W:=fun _=>True) (Frm.refl _ 0 w) (fun _ _ _=>.inl trivial) hI hI'
theorem A9d (I M:Nat→Prop) (lka:Option Addr) (lkc R N:Nat) (t:C5) (n:Net) (V:RV) (l:List To) (la:Option Addr) (lc:Nat) (w:World) (h:C9 I M lka lkc R N t w n V) (hl:A8 toS I w la lc l) (hf:∀ x∈l,U9 t x) (hn:N≤8) (hbd:∀ o∈n.orders,o.length+l.length≤1000000):
  Calls Tryz.prog 35 #[.pointer (some ⟨R,0,none⟩),.slice la l.length lc] w fun e w'=>e=.returned (.tuple #[])∧∃ M' V',C9 (fun b=>I b∧b<w.heap.size) M' lka lkc R N t w' {n with orders:=F9 n.orders l} V'∧Frm (fun b=>¬M b) R w w'∧∀ b,M' b→M b∨w.heap.size≤b:=by
 have hlx:=hl.len_le
 have hIM:=h.im
 have hRw:=h.rng R h.mR
 have h0:=h.here
 have htN:=h.tn
 have hS0:Hid (F9 n.orders (l.take 0)=n.orders):=rfl
 have hlen0:n.orders.length=N:=h.ords.len
 have hl0:A8 toS (fun b=>I b∧b<w.heap.size) w la lc l:=hl.anyOk fun b hb hi=>⟨hi,hb⟩
 clear h
 go_enter Tryz.func35,Tryz.ntmps35
 go_wp2
 go_loopw [5,8] (fun _ idx wr=>∃ (j:Nat) (os:List (List G3)) (M1:Nat→Prop) (V1:RV),idx=.int .i64 j∧j≤l.length∧Hid (F9 n.orders (l.take j)=os)∧(∀ o∈os,o.length+(l.length - j)≤1000000)∧C9 (fun b=>I b∧b<w.heap.size) M1 lka lkc R N t wr {n with orders:=os} V1∧Frm (fun b=>¬M b∧b<w.heap.size) R w wr∧∀ b,M1 b→M b∨w.heap.size≤b) (fun _ idx _=>l.length - (intOf idx).toNat)
 case atStart=>exact ⟨0,n.orders,M,V,rfl,Nat.zero_le _,hS0,fun o ho=>by have:=hbd o ho;omega,h0,Frm.refl _ _ _,fun b hb=>.inl hb⟩
 case round=>
  clear hS0 h0
  obtain ⟨j,os,M1,V1,rfl,hj,hS,hbo,hA,hF,hM1⟩:=hrel
  rename World=>wo
  have hso:=hF.size
  by_cases hlt:j<l.length
  case neg=>
   have b1:¬(j:Int)<(l.length:Int):=by omega
   obtain rfl:j=l.length:=by omega
   have hE:=hS.out
   rw [List.take_length] at hE
   subst hE
   clear hS
   go_wp2_with ((with_reducible refine bodyPost_end (v:=.tuple #[]) ?ra0 ?rb0 ?rc0);go_must (case ra0=>simp [results,Tryz.results35,go_sem]);go_must (case rb0=>rfl);go_must (case rc0=>exact ⟨rfl,M1,V1,hA,hF.weak (fun b hb hm=>.inl ⟨hm,hb⟩) (Nat.le_refl _),hM1⟩))
  have b1:(j:Int)<(l.length:Int):=by omega
  have b0:(0:Int)≤(j:Int):=by omega
  obtain ⟨x,hxj⟩:∃ x,l[j]? =some x:=⟨_,List.getElem?_eq_getElem hlt⟩
  have hlo:=hF.row' hl0 (fun b hb=>.inl ⟨hIM b hb.1,hb.2⟩)
  obtain ⟨ga,oa,ra,rc,fb,fd,rfl,hgl,hsw,hor,hce⟩:=B0m hlo hxj
  obtain ⟨e0,e1,e2,e3,e4,e5⟩:=hce wo (Below.refl _ _)
  have hfx:=hf x (List.mem_of_getElem? hxj)
  have hol:os.length=N:=hA.ords.len
  have htn:=hA.tn
  have hSN:=A6g (os:=n.orders) hxj
  rw [hS.out] at hSN
  have hxl:x.sw.toNat<os.length:=by have:=hfx.1;have:=hfx.2.1;omega
  rw [A9y hxl] at hSN
  obtain ⟨xs,⟨xk,xn,xv,xr,xf⟩⟩:=x
  obtain ⟨hf1,hf2,_⟩:=hfx
  dsimp only at *
  obtain ⟨s,rfl⟩:∃ s:Nat,xs=(s:Int):=⟨xs.toNat,by omega⟩
  rw [Int.toNat_natCast] at hSN hxl
  have hrm:os.getD s []∈os:=by rw [List.getD_eq_getElem?_getD,List.getElem?_eq_getElem hxl];exact List.getElem_mem hxl
  have hrr:=fun (I2 M3:Nat→Prop) (w3:World) (hA:C9 I2 M3 lka lkc R N t w3 {n with orders:=os} V1)=>(⟨hA.ords.cell (i:=s) (by omega),hA.ords.own s (by omega)⟩:w3.cell? ⟨V1.ob,s,none⟩=some (.slice (V1.fo s).1 (os.getD s []).length (V1.fo s).2)∧qR E3 109 I2 R w3 (V1.fo s).1 (os.getD s []).length (V1.fo s).2 (os.getD s []))
  have hrb:=hbo _ hrm
  generalize os.getD s []=rr at *
  have HRR:=Lib.hid hrr
  have HSN:=Lib.hid hSN
  have hsn:s<N:=by omega
  have hrl:rr.length+1≤1000000:=by omega
  have o1:(s:Int)<(N:Int):=by omega
  have o0:(0:Int)≤(s:Int):=by omega
  have o3:IntKind.i64.wrap (s:Int)=s:=IntWalk.i64_in _ (by omega)
  clear hce hxj hS hSN hrr
  have hbx:=G8 wo (.cells #[.int .i64 ((s:Nat):Int),.int .i64 xk,.int .i64 xn,.int .i64 xv,.slice ra xr.length rc,.slice fb xf.length fd] 135)
  have hX2:=I6 wo 135 #[.int .i64 ((s:Nat):Int),.int .i64 xk,.int .i64 xn,.int .i64 xv,.slice ra xr.length rc,.slice fb xf.length fd]
  have hA2:=hA.below hbx
  have hor2:=E3.below hor hbx
  have hF2:=hF.trans (Frm.of hbx (by omega))
  have hs2:(wo.alloc (.cells #[.int .i64 ((s:Nat):Int),.int .i64 xk,.int .i64 xn,.int .i64 xv,.slice ra xr.length rc,.slice fb xf.length fd] 135)).heap.size=wo.heap.size+1:=by simp
  clear hA hbx hlo hor hF
  go_upto_region 3 with fail
  generalize (wo.alloc (.cells #[.int .i64 ((s:Nat):Int),.int .i64 xk,.int .i64 xn,.int .i64 xv,.slice ra xr.length rc,.slice fb xf.length fd] 135))=w2 at *
  clear e0 e1 e2 e3 e4 e5
  have r10:w2.cell? ⟨R,10,none⟩=some (.slice (some ⟨V1.ob,0,none⟩) N N):=hA2.box.cells.1 10
  have t10:=(HRR.out _ _ _ hA2).1
  have hRl:=hA2.box.lt
  have hol2:=hA2.ords.blk.lt
  obtain ⟨i0,hi,hz0,hz1,hz2⟩:=info_parts A3w
  have hS0:ST3 R wo.heap.size V1.ob s (.slice (some ⟨V1.ob,0,none⟩) N N) (.slice (V1.fo s).1 rr.length (V1.fo s).2) (.int .i64 xk) (.int .i64 xn) (.int .i64 xv) (.slice ra xr.length rc) (.slice fb xf.length fd) w2.drew:=ST3.of r10 t10 hX2
  refine B9 (ST3 R wo.heap.size V1.ob s (.slice (some ⟨V1.ob,0,none⟩) N N) (.slice (V1.fo s).1 rr.length (V1.fo s).2) (.int .i64 xk) (.int .i64 xn) (.int .i64 xv) (.slice ra xr.length rc) (.slice fb xf.length fd)) 21 (fun a0 a' w'=>∃ v12 v13 v14 v15 v16 v17 v18 v19 v20 v21 v22 v23 v24 v25 v26 v27 v28 v29 v30 v31 v32,a'=C8 a0 [(12,v12),(13,v13),(14,v14),(15,v15),(16,v16),(17,v17),(18,v18),(19,v19),(20,v20),(21,v21),(22,v22),(23,v23),(24,v24),(25,v25),(26,v26),(27,v27),(28,v28),(29,v29),(30,v30),(31,v31),(32,v32)]∧∃ M2 V2,C9 (fun b=>I b∧b<w.heap.size) M2 lka lkc R N t w' {n with orders:=os.set s (rr++[⟨xk,xn,xv,xr,xf⟩])} V2∧Frm (fun b=>¬M b∧b<w.heap.size) R w w'∧∀ b,M2 b→M b∨w.heap.size≤b) (by kernel_rfl) ?_ ?_
  ·intro Q' hR hQp
   have hb0:Below w2.heap.size w2 w2.drew:=N4 _
   have hS:ST3 R wo.heap.size V1.ob s (.slice (some ⟨V1.ob,0,none⟩) N N) (.slice (V1.fo s).1 rr.length (V1.fo s).2) (.int .i64 xk) (.int .i64 xn) (.int .i64 xv) (.slice ra xr.length rc) (.slice fb xf.length fd) w2.drew:=hS0
   generalize w2.drew=wa at *
   have hsa:=hb0.size
   have hXa:=hX2.under hb0
   have hAa:=hA2.below hb0
   refine A9 hQp hS [0,5,7,12,16,1,6,8,13,17,2,9,3,10,4,11,14,15] ?_
   iterate 18 (refine B2 _ rfl (by kernel_rfl) (A0 (by kernel_rfl) (by intro w0 hw0;have hw1:=hw0;simp only [ST3] at hw1;first|(go_simp;done)|(go_simp;rfl))) ?_;simp only [Act.put,St.tA,St.tD,St.tE,St.tS,St.tC,St.tZ])
   refine B3 ?_
   clear hS
   refine A7 (i:=18) rfl (by kernel_rfl) (by kernel_rfl) fun K18 hK18=>?_
   go_simp
   go_wp2_with fail
   have hb3:=G8 wa (.cells #[.int .i64 xk,.int .i64 xn,.int .i64 xv,.slice ra xr.length rc,.slice fb xf.length fd] 109)
   have hN:=I6 wa 109 #[.int .i64 xk,.int .i64 xn,.int .i64 xv,.slice ra xr.length rc,.slice fb xf.length fd]
   have hXb:=hXa.under hb3
   have hAb:=hAa.below hb3
   have hb4:=hb0.trans (hb3.mono hsa)
   have horb:=E3.below hor2 hb4
   have hsrc:=B0y (x:=⟨xk,xn,xv,xr,xf⟩) hN horb
   refine hK18 _ _ (fun _=>ST3.of (hAb.box.cells.1 10) (HRR.out _ _ _ hAb).1 hXb) ?_
   clear hK18
   have hsb:(wa.alloc (.cells #[.int .i64 xk,.int .i64 xn,.int .i64 xv,.slice ra xr.length rc,.slice fb xf.length fd] 109)).heap.size=wa.heap.size+1:=by simp
   have hF4:=hF2.trans (Frm.of hb4 (by omega))
   generalize wa.alloc (.cells #[.int .i64 xk,.int .i64 xn,.int .i64 xv,.slice ra xr.length rc,.slice fb xf.length fd] 109)=wx at *
   refine A7 (i:=19) rfl (by kernel_rfl) (by kernel_rfl) fun K19 hK19=>?_
   have hown:=(HRR.out _ _ _ hAb).2
   refine A3s (sh:=E3) (n:=rr.length) (c:=1) (.tmp 27) (.tmp 30) 76 (by rfl) 109 i0 (.agg #[.int .i64 0,.int .i64 0,.int .i64 0,.slice none 0 0,.slice none 0 0]) 72 Tryz.underlying76 hi hz0 hz1 hz2 rfl (by decide) (ok:=fun b=>I b∧b<w.heap.size) (base:=R) (by rfl) hown (fun k hk hi=>hAb.im k hi (hAb.mo s hsn k hk)) (by rfl) hsrc (by simp only [maxLen];omega) (by omega) (by omega) ?_
   intro ao cap wy ho hg hd
   simp only [Act.put,St.tA,St.tD,St.tE,St.tS,St.tC,St.tZ]
   have hlen:rr.length+1=(rr++[(⟨xk,xn,xv,xr,xf⟩:G3)]).length:=by simp
   obtain ⟨hAc,hFc⟩:=hAb.push hsn hlen ho hg hd
   clear hlen
   have hne:∀ {b:Nat} {cs:Array Value} {σ:TypeId},A6 wx b σ cs→109≠σ→some b≠Go.St.blk (V1.fo s).1:=fun hb hσ e=>(hown.noType hb hσ) e.symm
   have hXy:=hXb.grown hg (hne hXb (by decide))
   have hRy:=hAb.box.grown hg (hne hAb.box (by decide))
   have hOy:=hAb.ords.blk.grown hg (hne hAb.ords.blk (by decide))
   have hSy:ST3 R wo.heap.size V1.ob s (.slice (some ⟨V1.ob,0,none⟩) N N) (.slice (V1.fo s).1 rr.length (V1.fo s).2) (.int .i64 xk) (.int .i64 xn) (.int .i64 xv) (.slice ra xr.length rc) (.slice fb xf.length fd) wy:=ST3.of (hRy.cells.1 10) (by rw [hOy.cells.1,←hAb.ords.blk.cells.1];exact (HRR.out _ _ _ hAb).1) hXy
   have hoy:=hOy.lt
   have hofz:=hOy.cells.2
   have ho10:=hSy.2.1
   refine hK19 _ _ (fun _=>hSy) ?_
   clear hK19
   refine A7 (i:=20) rfl (by kernel_rfl) (by kernel_rfl) fun K20 hK20=>?_
   go_simp
   go_wp2_with fail
   refine hK20 _ _ (fun _=>hSy) ?_
   clear hK20
   refine A7 (i:=21) rfl (by kernel_rfl) (by kernel_rfl) fun K21 hK21=>?_
   go_simp
   go_wp2_with fail
   refine hK21 _ _ (fun h=>absurd rfl h) ?_
   clear hK21
   have q1:∀ b,(I b∧b<w.heap.size)→¬(M1 b∨Go.St.blk ao=some b):=fun b hb hm=>by
    rcases hm with h1|h1
    ·exact hAb.im b hb h1
    ·rcases hd with h2|h2
     ·exact hAb.im b hb (hAb.mo s hsn b (by rw [←h2];exact h1))
     ·rw [h2] at h1
      have h3:wx.heap.size=b:=by simpa using h1
      omega
   have q2:=hF4.trans (hFc.weak (V:=fun b=>¬M b∧b<w.heap.size) (fun b _ hb=>.inl (fun h1=>(hM1 b h1).elim hb.1 (fun h2=>by omega))) (Nat.le_refl _))
   have q3:∀ b,(M1 b∨Go.St.blk ao=some b)→M b∨w.heap.size≤b:=fun b hb=>by
    rcases hb with h1|h1
    ·exact hM1 b h1
    ·rcases hd with h2|h2
     ·exact hM1 b (hAb.mo s hsn b (by rw [←h2];exact h1))
     ·rw [h2] at h1
      have h3:wx.heap.size=b:=by simpa using h1
      exact .inr (by omega)
   refine B5 (by kernel_rfl) ?_ _
   refine hR _ _ ?_
   iterate 21 apply Exists.intro
   refine ⟨?_,⟨_,_,hAc.sub (fun b _ hb=>hb.1) q1,q2,q3⟩⟩
   simp only [C8,Act.put,St.tS,St.tC,St.tZ]
   rfl
  rintro a' w8 ⟨v12,v13,v14,v15,v16,v17,v18,v19,v20,v21,v22,v23,v24,v25,v26,v27,v28,v29,v30,v31,v32,rfl,hb8⟩
  simp only [C8,Act.put,St.tS,St.tC,St.tZ]
  obtain ⟨M2,V2,hA3,hF3,hM3⟩:=hb8
  have hlen2:∀ o∈os.set s (rr++[(⟨xk,xn,xv,xr,xf⟩:G3)]),o.length+(l.length - (j+1))≤1000000:=fun o ho=>by
   rcases Z5 ho with ho|rfl
   ·have:=hbo o ho;omega
   ·rw [List.length_append]
    simp only [List.length_cons,List.length_nil]
    omega
  clear hA2 hX2 hor2 hF2 hS0 r10 t10
  go_wp2
  case roundEnd=>
   go_roundw
   case rel=>exact ⟨j+1,_,M2,V2,by go_num,by omega,HSN,hlen2,hA3,hF3,hM3⟩
   case measure=>simp [intOf]<;>omega
end Go.Proofs.YtampcbncgofkoaaGreatDoor
namespace Go.St
open Go.RowKit
theorem C7.q {α:Type} {sh:D1 α} {e:TypeId} {ok:Nat→Prop} {base:Nat} {w:World} {ao:Option Addr} {n cap:Nat} {xs:List α} (h:C7 sh e ok base w ao n cap xs):qR sh e ok base w ao n cap xs:=by
 obtain ⟨cells,⟨h1,h2,h3,h4⟩,h5,h6,_,_⟩:=h
 refine ⟨cells,⟨h1,h2,h3,h4.imp id ?_⟩,h5.symm,h6⟩
 rintro ⟨g,cur,rfl,hb,hg,hs,ht⟩
 exact ⟨g,0,cur,rfl,hb,hg,by omega,by simpa using ht⟩
end Go.St
namespace Go.Proofs.YtampcbncgofkoaaGreatDoor
open Go.RowKit Go.St
theorem B2m (l:List G3) (ok:Nat→Prop) (ax:Option Addr) (cx:Nat) (w:World) (hx:A8 E3 ok w ax cx l) (hsm:l.length≤1000000):
  Calls Tryz.prog 36 #[.slice ax l.length cx] w fun e w'=>∃ ao cap,e=.returned (.slice ao l.length cap)∧C7 E3 109 (fun b=>ok b∧b<w.heap.size) w.heap.size w' ao l.length cap l∧Below w.heap.size w w':=by
 obtain ⟨i0,hi,hz0,hz1,hz2⟩:=info_parts A3w
 have hlx:=hx.len_le
 have hnil:=O7 (P:=Tryz.prog) 76 109 Tryz.underlying76
 cases ax with
 |none=>
  obtain rfl:l=[]:=by
   obtain ⟨_,_,h|⟨_,_,h,_⟩⟩:=hx
   ·exact h
   ·cases h
  go_enter Tryz.func36,Tryz.ntmps36
  go_wp2
  go_ret;exact ⟨none,0,rfl,C7.nil _ _ _ _ _ (fun b h=>h.2),by (repeat' (first|with_reducible (first|exact Below.refl _ _|assumption|refine Below.drew ?_|refine A3 ?_ _|refine Below.alloc ?_ ?_ _|refine Below.setCell ?_ ?_ _)|omega|(simp;done)|(simp;omega)))⟩
 |some a=>
  have hx2:=hx.anyOk (ok':=fun b=>ok b∧b<w.heap.size) (fun b hb h=>⟨h,hb⟩)
  have hown:C7 E3 109 (fun b=>ok b∧b<w.heap.size) w.heap.size (w.alloc (.cells (([]:List Value)).toArray 109)) (some ⟨w.heap.size,0,none⟩) 0 0 []:=C7.lit rfl rfl (Nat.le_refl _) (by decide) (by simp) (fun _ h=>h.2)
  have hlm:l.length≤9223372036854775807:=hlx
  go_enter Tryz.func36,Tryz.ntmps36
  go_wp2_with (at_builtin;go_must (refine H4 (sh:=E3) rfl _ _ 76 rfl 109 i0 (.agg #[.int .i64 0,.int .i64 0,.int .i64 0,.slice none 0 0,.slice none 0 0]) 72 Tryz.underlying76 hi hz0 hz1 hz2 rfl (by decide) rfl hown rfl rfl ((hx2.below (by (repeat' (first|with_reducible (first|exact Below.refl _ _|assumption|refine Below.drew ?_|refine A3 ?_ _|refine Below.alloc ?_ ?_ _|refine Below.setCell ?_ ?_ _)|omega|(simp;done)|(simp;omega))))).src) (by simp only [maxLen];omega) (by omega) (by first|omega|(simp;done)|(simp;omega)) ?_);go_must (
   intro ao1 cap1 w2 hown1 hg1 hbk
   have hb2:=D6 (B:=w.heap.size) hg1 (fun k hk=>(hown.lt k hk).1) (by first|omega|(simp;done)|(simp;omega))
   rw [List.nil_append,Nat.zero_add] at hown1))
  go_ret;exact ⟨ao1,cap1,rfl,hown1,Below.trans (by (repeat' (first|with_reducible (first|exact Below.refl _ _|assumption|refine Below.drew ?_|refine A3 ?_ _|refine Below.alloc ?_ ?_ _|refine Below.setCell ?_ ?_ _)|omega|(simp;done)|(simp;omega)))) hb2⟩
end Go.Proofs.YtampcbncgofkoaaGreatDoor
namespace Go.St
open Go.RowKit
theorem A2d {b:Nat} {W:Nat→Prop} {B:Nat} (hW:¬W b) (hB:B≤b):∀ (l:List Value) (i:Nat) (w:World),Frm W B w (R3 w b i l)
 |[],i,w=>Frm.refl _ _ _
 |v::r,i,w=>(Frm.set (a:=⟨b,i,none⟩) hW hB v).trans (A2d hW hB r (i+1) _)
theorem qR.putAll {α:Type} {sh:D1 α} {e:TypeId} {ok:Nat→Prop} {base:Nat} {w:World} {n cap g q:Nat} {xs:List α} (h:qR sh e ok base w (some ⟨g,q,none⟩) n cap xs) (hng:¬ok g) {i:Nat} {x y:α} (hx:xs[i]? =some x) {cs:List Value} (hc:cs.length=sh.size) (hy:sh.rep ok w cs y):
  qR sh e ok base (R3 w g (q+i * sh.size) cs) (some ⟨g,q,none⟩) n cap (xs.set i y):=by
 have F:Frm (fun b=>b≠g) 0 w (R3 w g (q+i * sh.size) cs):=A2d (fun hc=>hc rfl) (Nat.zero_le _) cs _ w
 obtain ⟨cells,⟨hcl,hle,hm,h6⟩,rfl,h3⟩:=h
 rcases h6 with ⟨h6,_⟩|⟨g',q',cur,hg',hb,hg,hs,ht⟩
 ·cases h6
 obtain ⟨rfl,rfl⟩:g=g'∧q=q':=by simpa using hg'
 have hi:=(List.getElem?_eq_some_iff.1 hx).1
 have hp:(i+1) * sh.size≤xs.length * sh.size:=Nat.mul_le_mul_right sh.size hi
 have hcs:xs.length * sh.size≤cap * sh.size:=Nat.mul_le_mul_right sh.size hle
 rw [Nat.succ_mul] at hp
 have hrow:∀ (l:List Value) (j:Nat) (w0:World) (cu:Array Value),w0.heap[g]? =some (.cells cu e (0,0))→j+l.length≤cu.size→
   (R3 w0 g j l).heap[g]? =some (.cells (cu.toList.take j++l++cu.toList.drop (j+l.length)).toArray e (0,0)):=by
  intro l
  induction l with
  |nil=>intro j w0 cu h0 _;simp [R3,h0]
  |cons v r ih=>
   intro j w0 cu h0 hj
   simp only [List.length_cons] at hj
   have h1:(w0.setCell ⟨g,j,none⟩ v).heap[g]? =some (.cells (cu.setIfInBounds j v) e (0,0)):=by simp [World.setCell,Array.getElem?_modify,h0]
   have h2:=ih (j+1) (w0.setCell ⟨g,j,none⟩ v) (cu.setIfInBounds j v) h1 (by simp;omega)
   show (R3 (w0.setCell ⟨g,j,none⟩ v) g (j+1) r).heap[g]? =_
   rw [h2]
   congr 2
   apply Array.toList_inj.1
   have e1:(cu.setIfInBounds j v).toList.take (j+1)=cu.toList.take j++[v]:=by
    rw [Array.toList_setIfInBounds,List.take_set,List.take_add_one]
    have hl:(cu.toList.take j).length=j:=by rw [List.length_take,Array.length_toList];omega
    rw [List.set_append_right _ _ (by omega),hl,Nat.sub_self]
    have:cu.toList[j]? =some (cu.toList[j]'(by rw [Array.length_toList];omega)):=List.getElem?_eq_getElem _
    rw [this]
    rfl
   have e2:(cu.setIfInBounds j v).toList.drop (j+1+r.length)=cu.toList.drop (j+(r.length+1)):=by
    rw [Array.toList_setIfInBounds,List.drop_set,if_pos (by omega),show j+1+r.length=j+(r.length+1) by omega]
   simp only [List.length_cons,e1,e2,List.append_assoc,List.singleton_append]
 have hr:=hrow cs (q+i * sh.size) w cur hg (by omega)
 have hkeep:∀ {c2:List Value} {z:α},sh.rep ok w c2 z→sh.rep ok (R3 w g (q+i * sh.size) cs) c2 z:=fun hz=>sh.mono hz fun b hl hb=>⟨hb,F.keep b hl (fun e=>hng (e▸hb))⟩
 refine ⟨cells.take (i * sh.size)++cs++cells.drop (i * sh.size+cs.length),⟨?_,hle,hm,.inr ⟨g,q,_,rfl,hb,hr,?_,?_⟩⟩,by simp,fun k z hz=>?_⟩
 ·simp only [List.length_append,List.length_take,List.length_drop,hcl];omega
 ·simp only [List.size_toArray,List.length_append,List.length_take,List.length_drop,Array.length_toList];omega
 ·have hl:(cur.toList.take (q+i * sh.size)).length=q+i * sh.size:=by rw [List.length_take,Array.length_toList];omega
  have hck:cells.length=xs.length * sh.size:=hcl
  show List.take _ (List.drop q (cur.toList.take (q+i * sh.size)++cs++cur.toList.drop (q+i * sh.size+cs.length)))=_
  rw [List.append_assoc,List.drop_append_of_le_length (by omega),List.drop_take,show q+i * sh.size - q=i * sh.size by omega]
  have hA:List.take (i * sh.size) (List.drop q cur.toList)=cells.take (i * sh.size):=by rw [←ht,List.take_take,Nat.min_eq_left (by omega)]
  have hB:cur.toList.drop (q+i * sh.size+cs.length)=(List.drop q cur.toList).drop (i * sh.size+cs.length):=by rw [List.drop_drop,Nat.add_assoc]
  rw [hA,hB,←List.append_assoc,←ht]
  have hl2:(List.take (i * sh.size) (List.take (xs.length * sh.size) (List.drop q cur.toList))++cs).length=i * sh.size+cs.length:=by
   rw [List.length_append,ht,List.length_take];omega
  rw [List.take_append,hl2,List.take_of_length_le (by omega),List.drop_take]
 ·have hl:(cells.take (i * sh.size)).length=i * sh.size:=by rw [List.length_take];omega
  rw [List.getElem?_set] at hz
  have hget:∀ j,j<sh.size→k<xs.length→(I3 sh.size (cells.take (i * sh.size)++cs++cells.drop (i * sh.size+cs.length)) k)[j]? =if k=i then cs[j]? else (I3 sh.size cells k)[j]? :=fun j hj hk=>by
   rw [A0y hj,A0y hj]
   by_cases e1:k=i
   ·subst e1
    rw [if_pos rfl,List.append_assoc,List.getElem?_append_right (by omega),hl,List.getElem?_append_left (by omega)]
    congr 1;omega
   ·rw [if_neg e1]
    rcases Nat.lt_or_gt_of_ne e1 with e2|e2
    ·have:=Nat.mul_le_mul_right sh.size e2
     rw [Nat.succ_mul] at this
     rw [List.append_assoc,List.getElem?_append_left (by omega),List.getElem?_take,if_pos (by omega)]
    ·have:=Nat.mul_le_mul_right sh.size e2
     rw [Nat.succ_mul] at this
     rw [List.getElem?_append_right (by rw [List.length_append];omega),List.getElem?_drop,List.length_append,hl]
     congr 1;omega
  by_cases e1:i=k
  ·subst e1
   rw [if_pos rfl,if_pos hi] at hz
   obtain rfl:y=z:=by simpa using hz
   have:I3 sh.size (cells.take (i * sh.size)++cs++cells.drop (i * sh.size+cs.length)) i=cs:=by
    apply List.ext_getElem?
    intro j
    by_cases hj:j<sh.size
    ·rw [hget j hj hi,if_pos rfl]
    ·rw [W0 hj,List.getElem?_eq_none (by omega)]
   rw [this]
   exact hkeep hy
  ·rw [if_neg e1] at hz
   have hk:=(List.getElem?_eq_some_iff.1 hz).1
   have:I3 sh.size (cells.take (i * sh.size)++cs++cells.drop (i * sh.size+cs.length)) k=I3 sh.size cells k:=by
    apply List.ext_getElem?
    intro j
    by_cases hj:j<sh.size
    ·rw [hget j hj hk,if_neg (fun e=>e1 e.symm)]
    ·rw [W0 hj,W0 hj]
   rw [this]
   exact hkeep (h3 k z hz)
end Go.St
namespace Go.Proofs.YtampcbncgofkoaaGreatDoor
open Go.RowKit Go.St
section
variable {I I' M M' : Nat → Prop} {lka : Option Addr} {lkc R N : Nat} {t : C5} {w w' : World} {n : Net} {V : RV}
theorem C9.size (h:C9 I M lka lkc R N t w n V):R≤w.heap.size:=by have:=h.rng R h.mR;omega
theorem C9.pushBack (h:C9 I M lka lkc R N t w n V) {s:Nat} (hs:s<N) {ao:Option Addr} {cap m:Nat} {l:List Int} (hm:m=l.length) (ho:qR C2 3 (fun b=>I b∧b<w.heap.size) R w' ao m cap l) (hg:w.grownBy w' (Go.St.blk (V.fb s).1))
  (hd:Go.St.blk ao=Go.St.blk (V.fb s).1∨Go.St.blk ao=some w.heap.size):
  C9 (fun b=>I b∧b<w.heap.size) (fun b=>M b∨Go.St.blk ao=some b) lka lkc R N t (w'.setCell ⟨V.bb,s,none⟩ (.slice ao m cap)) {n with backs:=n.backs.set s l} {V with fb:=upd V.fb s (ao,cap)}∧Frm (fun b=>¬M b) R w (w'.setCell ⟨V.bb,s,none⟩ (.slice ao m cap)):=by
 have hIM:∀ b,(I b∧b<w.heap.size)→¬(M b∨Go.St.blk ao=some b):=fun b hb hc=>by
  rcases hc with hc|hc
  ·exact h.im b hb.1 hc
  ·rcases hd with hd|hd
   ·exact h.im b hb.1 (h.mb s hs b (by rw [←hd];exact hc))
   ·rw [hd] at hc
    have:w.heap.size=b:=by simpa using hc
    omega
 have F:Frm (fun b=>¬(b=V.bb∨Go.St.blk (V.fb s).1=some b)) R w (w'.setCell ⟨V.bb,s,none⟩ (.slice ao m cap)):=
  (Frm.grown hg (fun k hk=>⟨fun hc=>hc (.inr hk),(h.rng k (h.mb s hs k hk)).1⟩) h.size).trans (Frm.set (a:=⟨V.bb,s,none⟩) (fun hc=>hc (.inl rfl)) (h.rng _ h.mB).1 _)
 have hCM:∀ b,b<w.heap.size→(b=V.bb∨Go.St.blk (V.fb s).1=some b)→M b:=fun b _ hc=>by
  rcases hc with hc|hc
  ·subst hc;exact h.mB
  ·exact h.mb s hs b hc
 obtain ⟨k1,k2,k3,k4,k5,k6,k7,k8,k9,k10⟩:=h.parts (I':=fun b=>I b∧b<w.heap.size) F hCM (fun b hl hb=>⟨hb,hl⟩)
 have hrf:∀ {σ:TypeId} {b:Nat} {cur:Array Value} {fr:Nat × Nat},w.heap[b]? =some (.cells cur σ fr)→41≠σ→3≠σ→¬(b=V.bb∨Go.St.blk (V.fb s).1=some b):=fun hb h0 h1 hc=>by
  have:=h.far hb
  rcases hc with hc|hc
  ·exact this.2.2.2.1 h0 hc
  ·exact this.2.2.2.2.2.1 h1 s hs hc
 have hsz:w.heap.size≤(w'.setCell ⟨V.bb,s,none⟩ (.slice ao m cap)).heap.size:=F.size
 refine ⟨⟨k5 (hrf h.box (by decide) (by decide)),h.st,h.nu,k1,k2,k3,h.tn,k4,k6 (let ⟨cur,hc⟩:=h.sws.has (k:=V.sb) rfl;hrf hc (by decide) (by decide)),k7 (hrf h.ords.blk (by decide) (by decide)) (fun i hi k hk=>let ⟨cur,hc⟩:=(h.ords.own i hi).has hk;hrf hc (by decide) (by decide)),h.bks.put (by decide) hs hm ho hg hd (fun b hl hb=>⟨hb,hl⟩) (fun k hk hi=>h.im k hi (h.mb s hs k hk)) (fun hi=>h.im _ hi h.mB) (fun hi=>h.im _ hi.1 h.mB),k9 (fun k hk=>let ⟨cur,hc⟩:=h.pks.has hk;hrf hc (by decide) (by decide)),k10 (fun k hk=>let ⟨cur,hc⟩:=h.pls.has hk;hrf hc (by decide) (by decide)),
  hIM,.inl h.mR,.inl h.mS,.inl h.mO,.inl h.mB,fun i hi k hk=>.inl (h.mo i hi k hk),fun i hi k hk=>?_,fun k hk=>.inl (h.mp k hk),fun k hk=>.inl (h.ml k hk),fun b hb=>?_⟩,F.weak (fun b _ hb=>.inl (fun hc=>hb (hCM b (by assumption) hc))) (Nat.le_refl _)⟩
 ·by_cases e:i=s
  ·subst e
   have hk':Go.St.blk (upd V.fb i (ao,cap) i).1=some k:=hk
   rw [C10] at hk'
   exact .inr hk'
  ·have hk':Go.St.blk (upd V.fb s (ao,cap) i).1=some k:=hk
   rw [O9 _ _ e] at hk'
   exact .inl (h.mb i hi k hk')
 ·rcases hb with hb|hb
  ·have:=h.rng b hb;omega
  ·have:=ho.lt b hb
   have e:(w'.setCell ⟨V.bb,s,none⟩ (.slice ao m cap)).heap.size=w'.heap.size:=by simp
   omega
theorem C9.takeOrder (h:C9 I M lka lkc R N t w n V) {s:Nat} (hs:s<N) {x:G3} {l:List G3} {g o c:Nat} {ad:Option Addr} (hr:n.orders.getD s []=x::l) (hf:V.fo s=(some ⟨g,o,none⟩,c)) (had:ad=some ⟨g,o+E3.size,none⟩∨(c=1∧ad=some ⟨g,o,none⟩)):
  C9 I M lka lkc R N t (w.setCell ⟨V.ob,s,none⟩ (.slice ad l.length (c - 1))) {n with orders:=n.orders.set s l} {V with fo:=upd V.fo s (ad,c - 1)}∧Frm (fun b=>¬M b) R w (w.setCell ⟨V.ob,s,none⟩ (.slice ad l.length (c - 1))):=by
 have F:Frm (fun b=>¬(b=V.ob)) R w (w.setCell ⟨V.ob,s,none⟩ (.slice ad l.length (c - 1))):=Frm.set (a:=⟨V.ob,s,none⟩) (fun hc=>hc rfl) (h.rng _ h.mO).1 _
 have hCM:∀ b,b<w.heap.size→(b=V.ob)→M b:=fun b _ hc=>by
  subst hc;exact h.mO
 obtain ⟨k1,k2,k3,k4,k5,k6,k7,k8,k9,k10⟩:=h.parts (I':=I) F hCM (fun b hl hb=>hb)
 have hrf:∀ {σ:TypeId} {b:Nat} {cur:Array Value} {fr:Nat × Nat},w.heap[b]? =some (.cells cur σ fr)→76≠σ→¬(b=V.ob):=fun hb h0 hc=>by
  have:=h.far hb
  exact this.2.2.1 h0 hc
 have hsz:w.heap.size≤(w.setCell ⟨V.ob,s,none⟩ (.slice ad l.length (c - 1))).heap.size:=F.size
 refine ⟨⟨k5 (hrf h.box (by decide)),h.st,h.nu,k1,k2,k3,h.tn,k4,k6 (let ⟨cur,hc⟩:=h.sws.has (k:=V.sb) rfl;hrf hc (by decide)),h.ords.take (by decide) hs hr hf had (fun hi=>h.im _ hi (h.mo s hs g (by rw [hf];rfl))) (fun hi=>h.im _ hi h.mO),k8 (hrf h.bks.blk (by decide)) (fun i hi k hk=>let ⟨cur,hc⟩:=(h.bks.own i hi).has hk;hrf hc (by decide)),k9 (fun k hk=>let ⟨cur,hc⟩:=h.pks.has hk;hrf hc (by decide)),k10 (fun k hk=>let ⟨cur,hc⟩:=h.pls.has hk;hrf hc (by decide)),
  h.im,h.mR,h.mS,h.mO,h.mB,fun i hi k hk=>?_,h.mb,h.mp,h.ml,fun b hb=>by have:=h.rng b hb;omega⟩,F.weak (fun b _ hb=>.inl (fun hc=>hb (hCM b (by assumption) hc))) (Nat.le_refl _)⟩
 by_cases e:i=s
 ·subst e
  have hk':Go.St.blk (upd V.fo i (ad,c - 1) i).1=some k:=hk
  rw [C10] at hk'
  have e3:Go.St.blk ad=some g:=by rcases had with rfl|⟨_,rfl⟩<;>rfl
  have e2:g=k:=by rw [e3] at hk';simpa using hk'
  exact h.mo i hi k (by rw [hf,←e2];rfl)
 ·have hk':Go.St.blk (upd V.fo s (ad,c - 1) i).1=some k:=hk
  rw [O9 _ _ e] at hk'
  exact h.mo i hi k hk'
theorem C9.takeBack (h:C9 I M lka lkc R N t w n V) {s:Nat} (hs:s<N) {x:Int} {l:List Int} {g o c:Nat} {ad:Option Addr} (hr:n.backs.getD s []=x::l) (hf:V.fb s=(some ⟨g,o,none⟩,c)) (had:ad=some ⟨g,o+C2.size,none⟩∨(c=1∧ad=some ⟨g,o,none⟩)):
  C9 I M lka lkc R N t (w.setCell ⟨V.bb,s,none⟩ (.slice ad l.length (c - 1))) {n with backs:=n.backs.set s l} {V with fb:=upd V.fb s (ad,c - 1)}∧Frm (fun b=>¬M b) R w (w.setCell ⟨V.bb,s,none⟩ (.slice ad l.length (c - 1))):=by
 have F:Frm (fun b=>¬(b=V.bb)) R w (w.setCell ⟨V.bb,s,none⟩ (.slice ad l.length (c - 1))):=Frm.set (a:=⟨V.bb,s,none⟩) (fun hc=>hc rfl) (h.rng _ h.mB).1 _
 have hCM:∀ b,b<w.heap.size→(b=V.bb)→M b:=fun b _ hc=>by
  subst hc;exact h.mB
 obtain ⟨k1,k2,k3,k4,k5,k6,k7,k8,k9,k10⟩:=h.parts (I':=I) F hCM (fun b hl hb=>hb)
 have hrf:∀ {σ:TypeId} {b:Nat} {cur:Array Value} {fr:Nat × Nat},w.heap[b]? =some (.cells cur σ fr)→41≠σ→¬(b=V.bb):=fun hb h0 hc=>by
  have:=h.far hb
  exact this.2.2.2.1 h0 hc
 have hsz:w.heap.size≤(w.setCell ⟨V.bb,s,none⟩ (.slice ad l.length (c - 1))).heap.size:=F.size
 refine ⟨⟨k5 (hrf h.box (by decide)),h.st,h.nu,k1,k2,k3,h.tn,k4,k6 (let ⟨cur,hc⟩:=h.sws.has (k:=V.sb) rfl;hrf hc (by decide)),k7 (hrf h.ords.blk (by decide)) (fun i hi k hk=>let ⟨cur,hc⟩:=(h.ords.own i hi).has hk;hrf hc (by decide)),h.bks.take (by decide) hs hr hf had (fun hi=>h.im _ hi (h.mb s hs g (by rw [hf];rfl))) (fun hi=>h.im _ hi h.mB),k9 (fun k hk=>let ⟨cur,hc⟩:=h.pks.has hk;hrf hc (by decide)),k10 (fun k hk=>let ⟨cur,hc⟩:=h.pls.has hk;hrf hc (by decide)),
  h.im,h.mR,h.mS,h.mO,h.mB,h.mo,fun i hi k hk=>?_,h.mp,h.ml,fun b hb=>by have:=h.rng b hb;omega⟩,F.weak (fun b _ hb=>.inl (fun hc=>hb (hCM b (by assumption) hc))) (Nat.le_refl _)⟩
 by_cases e:i=s
 ·subst e
  have hk':Go.St.blk (upd V.fb i (ad,c - 1) i).1=some k:=hk
  rw [C10] at hk'
  have e3:Go.St.blk ad=some g:=by rcases had with rfl|⟨_,rfl⟩<;>rfl
  have e2:g=k:=by rw [e3] at hk';simpa using hk'
  exact h.mb i hi k (by rw [hf,←e2];rfl)
 ·have hk':Go.St.blk (upd V.fb s (ad,c - 1) i).1=some k:=hk
  rw [O9 _ _ e] at hk'
  exact h.mb i hi k hk'
theorem C9.pushPacket (h:C9 I M lka lkc R N t w n V) {ao:Option Addr} {cap m:Nat} {x:N2} (hm:m=n.packets.length+1) (ho:qR K0 59 (fun b=>I b∧b<w.heap.size) R w' ao m cap (n.packets++[x])) (hg:w.grownBy w' (Go.St.blk V.pa))
  (hd:Go.St.blk ao=Go.St.blk V.pa∨Go.St.blk ao=some w.heap.size):
  C9 (fun b=>I b∧b<w.heap.size) (fun b=>M b∨Go.St.blk ao=some b) lka lkc R N t (w'.setCell ⟨R,12,none⟩ (.slice ao m cap)) {n with packets:=n.packets++[x]} {V with pa:=ao,pc:=cap}∧Frm (fun b=>¬M b) R w (w'.setCell ⟨R,12,none⟩ (.slice ao m cap)):=by
 have hIM:∀ b,(I b∧b<w.heap.size)→¬(M b∨Go.St.blk ao=some b):=fun b hb hc=>by
  rcases hc with hc|hc
  ·exact h.im b hb.1 hc
  ·rcases hd with hd|hd
   ·exact h.im b hb.1 (h.mp b (by rw [←hd];exact hc))
   ·rw [hd] at hc
    have:w.heap.size=b:=by simpa using hc
    omega
 have F:Frm (fun b=>¬(b=R∨Go.St.blk V.pa=some b)) R w (w'.setCell ⟨R,12,none⟩ (.slice ao m cap)):=
  (Frm.grown hg (fun k hk=>⟨fun hc=>hc (.inr hk),(h.rng k (h.mp k hk)).1⟩) h.size).trans (Frm.set (a:=⟨R,12,none⟩) (fun hc=>hc (.inl rfl)) (Nat.le_refl _) _)
 have hCM:∀ b,b<w.heap.size→(b=R∨Go.St.blk V.pa=some b)→M b:=fun b _ hc=>by
  rcases hc with hc|hc
  ·subst hc;exact h.mR
  ·exact h.mp b hc
 obtain ⟨k1,k2,k3,k4,k5,k6,k7,k8,k9,k10⟩:=h.parts (I':=fun b=>I b∧b<w.heap.size) F hCM (fun b hl hb=>⟨hb,hl⟩)
 have hrf:∀ {σ:TypeId} {b:Nat} {cur:Array Value} {fr:Nat × Nat},w.heap[b]? =some (.cells cur σ fr)→79≠σ→59≠σ→¬(b=R∨Go.St.blk V.pa=some b):=fun hb h0 h1 hc=>by
  have:=h.far hb
  rcases hc with hc|hc
  ·exact this.1 h0 hc
  ·exact this.2.2.2.2.2.2.1 h1 hc
 have hsz:w.heap.size≤(w'.setCell ⟨R,12,none⟩ (.slice ao m cap)).heap.size:=F.size
 have hne:Go.St.blk V.pa≠some R:=h.pks.noType h.box (by decide)
 have hbox:A6 (w'.setCell ⟨R,12,none⟩ (.slice ao m cap)) R 79 (X6 {V with pa:=ao,pc:=cap} N t {n with packets:=n.packets++[x]} lka lkc):=by
  have h1:=(h.box.grown hg (fun e=>hne e.symm)).set 12 (.slice ao m cap)
  rw [hm] at h1 ⊢
  rw [show n.packets.length+1=(n.packets++[x]).length by simp] at h1 ⊢
  exact h1
 have hne2:Go.St.blk ao≠some R:=fun e=>by
  rcases hd with hd|hd
  ·exact hne (by rw [←hd];exact e)
  ·rw [hd] at e
   have:=h.rng R h.mR
   have:w.heap.size=R:=by simpa using e
   omega
 have htab:qR K0 59 (fun b=>I b∧b<w.heap.size) R (w'.setCell ⟨R,12,none⟩ (.slice ao m cap)) ao (n.packets++[x]).length cap (n.packets++[x]):=by
  have h2:=ho.setOther (a:=⟨R,12,none⟩) hne2 (fun hi=>h.im _ hi.1 h.mR) (.slice ao m cap)
  rwa [hm,show n.packets.length+1=(n.packets++[x]).length by simp] at h2 ⊢
 refine ⟨⟨hbox,h.st,h.nu,k1,k2,k3,h.tn,k4,k6 (let ⟨cur,hc⟩:=h.sws.has (k:=V.sb) rfl;hrf hc (by decide) (by decide)),k7 (hrf h.ords.blk (by decide) (by decide)) (fun i hi k hk=>let ⟨cur,hc⟩:=(h.ords.own i hi).has hk;hrf hc (by decide) (by decide)),k8 (hrf h.bks.blk (by decide) (by decide)) (fun i hi k hk=>let ⟨cur,hc⟩:=(h.bks.own i hi).has hk;hrf hc (by decide) (by decide)),htab,k10 (fun k hk=>let ⟨cur,hc⟩:=h.pls.has hk;hrf hc (by decide) (by decide)),
  hIM,.inl h.mR,.inl h.mS,.inl h.mO,.inl h.mB,fun i hi k hk=>.inl (h.mo i hi k hk),fun i hi k hk=>.inl (h.mb i hi k hk),fun k hk=>.inr hk,fun k hk=>.inl (h.ml k hk),fun b hb=>?_⟩,F.weak (fun b _ hb=>.inl (fun hc=>hb (hCM b (by assumption) hc))) (Nat.le_refl _)⟩
 rcases hb with hb|hb
 ·have:=h.rng b hb;omega
 ·have:=ho.lt b hb
  have e:(w'.setCell ⟨R,12,none⟩ (.slice ao m cap)).heap.size=w'.heap.size:=by simp
  omega
theorem C9.pushPlan (h:C9 I M lka lkc R N t w n V) {ao:Option Addr} {cap m:Nat} {x:F5} (hm:m=n.plans.length+1) (ho:qR C3 34 (fun b=>I b∧b<w.heap.size) R w' ao m cap (n.plans++[x])) (hg:w.grownBy w' (Go.St.blk V.la))
  (hd:Go.St.blk ao=Go.St.blk V.la∨Go.St.blk ao=some w.heap.size):
  C9 (fun b=>I b∧b<w.heap.size) (fun b=>M b∨Go.St.blk ao=some b) lka lkc R N t (w'.setCell ⟨R,13,none⟩ (.slice ao m cap)) {n with plans:=n.plans++[x]} {V with la:=ao,lc:=cap}∧Frm (fun b=>¬M b) R w (w'.setCell ⟨R,13,none⟩ (.slice ao m cap)):=by
 have hIM:∀ b,(I b∧b<w.heap.size)→¬(M b∨Go.St.blk ao=some b):=fun b hb hc=>by
  rcases hc with hc|hc
  ·exact h.im b hb.1 hc
  ·rcases hd with hd|hd
   ·exact h.im b hb.1 (h.ml b (by rw [←hd];exact hc))
   ·rw [hd] at hc
    have:w.heap.size=b:=by simpa using hc
    omega
 have F:Frm (fun b=>¬(b=R∨Go.St.blk V.la=some b)) R w (w'.setCell ⟨R,13,none⟩ (.slice ao m cap)):=
  (Frm.grown hg (fun k hk=>⟨fun hc=>hc (.inr hk),(h.rng k (h.ml k hk)).1⟩) h.size).trans (Frm.set (a:=⟨R,13,none⟩) (fun hc=>hc (.inl rfl)) (Nat.le_refl _) _)
 have hCM:∀ b,b<w.heap.size→(b=R∨Go.St.blk V.la=some b)→M b:=fun b _ hc=>by
  rcases hc with hc|hc
  ·subst hc;exact h.mR
  ·exact h.ml b hc
 obtain ⟨k1,k2,k3,k4,k5,k6,k7,k8,k9,k10⟩:=h.parts (I':=fun b=>I b∧b<w.heap.size) F hCM (fun b hl hb=>⟨hb,hl⟩)
 have hrf:∀ {σ:TypeId} {b:Nat} {cur:Array Value} {fr:Nat × Nat},w.heap[b]? =some (.cells cur σ fr)→79≠σ→34≠σ→¬(b=R∨Go.St.blk V.la=some b):=fun hb h0 h1 hc=>by
  have:=h.far hb
  rcases hc with hc|hc
  ·exact this.1 h0 hc
  ·exact this.2.2.2.2.2.2.2 h1 hc
 have hsz:w.heap.size≤(w'.setCell ⟨R,13,none⟩ (.slice ao m cap)).heap.size:=F.size
 have hne:Go.St.blk V.la≠some R:=h.pls.noType h.box (by decide)
 have hbox:A6 (w'.setCell ⟨R,13,none⟩ (.slice ao m cap)) R 79 (X6 {V with la:=ao,lc:=cap} N t {n with plans:=n.plans++[x]} lka lkc):=by
  have h1:=(h.box.grown hg (fun e=>hne e.symm)).set 13 (.slice ao m cap)
  rw [hm] at h1 ⊢
  rw [show n.plans.length+1=(n.plans++[x]).length by simp] at h1 ⊢
  exact h1
 have hne2:Go.St.blk ao≠some R:=fun e=>by
  rcases hd with hd|hd
  ·exact hne (by rw [←hd];exact e)
  ·rw [hd] at e
   have:=h.rng R h.mR
   have:w.heap.size=R:=by simpa using e
   omega
 have htab:qR C3 34 (fun b=>I b∧b<w.heap.size) R (w'.setCell ⟨R,13,none⟩ (.slice ao m cap)) ao (n.plans++[x]).length cap (n.plans++[x]):=by
  have h2:=ho.setOther (a:=⟨R,13,none⟩) hne2 (fun hi=>h.im _ hi.1 h.mR) (.slice ao m cap)
  rwa [hm,show n.plans.length+1=(n.plans++[x]).length by simp] at h2 ⊢
 refine ⟨⟨hbox,h.st,h.nu,k1,k2,k3,h.tn,k4,k6 (let ⟨cur,hc⟩:=h.sws.has (k:=V.sb) rfl;hrf hc (by decide) (by decide)),k7 (hrf h.ords.blk (by decide) (by decide)) (fun i hi k hk=>let ⟨cur,hc⟩:=(h.ords.own i hi).has hk;hrf hc (by decide) (by decide)),k8 (hrf h.bks.blk (by decide) (by decide)) (fun i hi k hk=>let ⟨cur,hc⟩:=(h.bks.own i hi).has hk;hrf hc (by decide) (by decide)),k9 (fun k hk=>let ⟨cur,hc⟩:=h.pks.has hk;hrf hc (by decide) (by decide)),htab,
  hIM,.inl h.mR,.inl h.mS,.inl h.mO,.inl h.mB,fun i hi k hk=>.inl (h.mo i hi k hk),fun i hi k hk=>.inl (h.mb i hi k hk),fun k hk=>.inl (h.mp k hk),fun k hk=>.inr hk,fun b hb=>?_⟩,F.weak (fun b _ hb=>.inl (fun hc=>hb (hCM b (by assumption) hc))) (Nat.le_refl _)⟩
 rcases hb with hb|hb
 ·have:=h.rng b hb;omega
 ·have:=ho.lt b hb
  have e:(w'.setCell ⟨R,13,none⟩ (.slice ao m cap)).heap.size=w'.heap.size:=by simp
  omega
theorem C9.setCtl (h:C9 I M lka lkc R N t w n V) {c:Ctl} {m0 m1 m2 y0 y1 y2:Value} {va:Option Addr} {vc:Nat} (c1:I64 c.stage) (c2:I64 c.num) (c3:B7 w I m0 m1 m2 c.now) (c4:B7 w I y0 y1 y2 c.next) (c5:A8 C2 I w va vc c.waits):
  C9 I M lka lkc R N t (((((((((w.setCell ⟨R,0,none⟩ (.int .i64 c.stage)).setCell ⟨R,1,none⟩ m0).setCell ⟨R,2,none⟩ m1).setCell ⟨R,3,none⟩ m2).setCell ⟨R,4,none⟩ y0).setCell ⟨R,5,none⟩ y1).setCell ⟨R,6,none⟩ y2).setCell ⟨R,7,none⟩ (.int .i64 c.num)).setCell ⟨R,8,none⟩ (.slice va c.waits.length vc)) {n with ctl:=c} {V with n0:=m0,n1:=m1,n2:=m2,x0:=y0,x1:=y1,x2:=y2,qa:=va,qc:=vc}∧Frm (fun b=>¬M b) R w (((((((((w.setCell ⟨R,0,none⟩ (.int .i64 c.stage)).setCell ⟨R,1,none⟩ m0).setCell ⟨R,2,none⟩ m1).setCell ⟨R,3,none⟩ m2).setCell ⟨R,4,none⟩ y0).setCell ⟨R,5,none⟩ y1).setCell ⟨R,6,none⟩ y2).setCell ⟨R,7,none⟩ (.int .i64 c.num)).setCell ⟨R,8,none⟩ (.slice va c.waits.length vc)):=by
 have hb:=A04 (W:=fun b=>¬(b=R)) (B:=R) (fun hc=>hc rfl) (Nat.le_refl _) [.int .i64 c.stage,m0,m1,m2,y0,y1,y2,.int .i64 c.num,.slice va c.waits.length vc] 0 w _ (show A6 w R 79 (List.toArray [_,_,_,_,_,_,_,_,_,_,_,_,_,_,_,_]) from h.box)
 obtain ⟨hbox,F⟩:A6 (((((((((w.setCell ⟨R,0,none⟩ (.int .i64 c.stage)).setCell ⟨R,1,none⟩ m0).setCell ⟨R,2,none⟩ m1).setCell ⟨R,3,none⟩ m2).setCell ⟨R,4,none⟩ y0).setCell ⟨R,5,none⟩ y1).setCell ⟨R,6,none⟩ y2).setCell ⟨R,7,none⟩ (.int .i64 c.num)).setCell ⟨R,8,none⟩ (.slice va c.waits.length vc)) R 79 (X6 {V with n0:=m0,n1:=m1,n2:=m2,x0:=y0,x1:=y1,x2:=y2,qa:=va,qc:=vc} N t {n with ctl:=c} lka lkc)∧Frm (fun b=>¬(b=R)) R w (((((((((w.setCell ⟨R,0,none⟩ (.int .i64 c.stage)).setCell ⟨R,1,none⟩ m0).setCell ⟨R,2,none⟩ m1).setCell ⟨R,3,none⟩ m2).setCell ⟨R,4,none⟩ y0).setCell ⟨R,5,none⟩ y1).setCell ⟨R,6,none⟩ y2).setCell ⟨R,7,none⟩ (.int .i64 c.num)).setCell ⟨R,8,none⟩ (.slice va c.waits.length vc)):=hb
 have hCM:∀ b,b<w.heap.size→(b=R)→M b:=fun b _ hc=>by
  subst hc;exact h.mR
 obtain ⟨k1,k2,k3,k4,k5,k6,k7,k8,k9,k10⟩:=h.parts (I':=I) F hCM (fun b hl hb=>hb)
 have hrf:∀ {σ:TypeId} {b:Nat} {cur:Array Value} {fr:Nat × Nat},w.heap[b]? =some (.cells cur σ fr)→79≠σ→¬(b=R):=fun hb h0 hc=>by
  have:=h.far hb
  exact this.1 h0 hc
 have hsz:=F.size
 exact ⟨⟨hbox,c1,c2,Frm.rep' F c3 (fun b hb=>.inl (fun e=>h.im b hb (e▸h.mR))),Frm.rep' F c4 (fun b hb=>.inl (fun e=>h.im b hb (e▸h.mR))),F.row' c5 (fun b hb=>.inl (fun e=>h.im b hb (e▸h.mR))),h.tn,k4,k6 (let ⟨cur,hc⟩:=h.sws.has (k:=V.sb) rfl;hrf hc (by decide)),k7 (hrf h.ords.blk (by decide)) (fun i hi k hk=>let ⟨cur,hc⟩:=(h.ords.own i hi).has hk;hrf hc (by decide)),k8 (hrf h.bks.blk (by decide)) (fun i hi k hk=>let ⟨cur,hc⟩:=(h.bks.own i hi).has hk;hrf hc (by decide)),k9 (fun k hk=>let ⟨cur,hc⟩:=h.pks.has hk;hrf hc (by decide)),k10 (fun k hk=>let ⟨cur,hc⟩:=h.pls.has hk;hrf hc (by decide)),
  h.im,h.mR,h.mS,h.mO,h.mB,h.mo,h.mb,h.mp,h.ml,fun b hb=>⟨(h.rng b hb).1,Nat.lt_of_lt_of_le (h.rng b hb).2 hsz⟩⟩,F.weak (fun b _ hb=>.inl (fun hc=>hb (hCM b (by assumption) hc))) (Nat.le_refl _)⟩
theorem C9.setPacket (h:C9 I M lka lkc R N t w n V) {s g q:Nat} {x y:N2} (ha:V.pa=some ⟨g,q,none⟩) (hx:n.packets[s]? =some x) {cs:List Value} (hc:cs.length=K0.size) (hy:K0.rep I w cs y):
  C9 I M lka lkc R N t (R3 w g (q+s * K0.size) cs) {n with packets:=n.packets.set s y} V∧Frm (fun b=>¬M b) R w (R3 w g (q+s * K0.size) cs):=by
 have hgM:M g:=h.mp g (by rw [ha];rfl)
 have hgI:¬I g:=fun hi=>h.im g hi hgM
 have htab0:=h.pks
 rw [ha] at htab0
 obtain ⟨cur0,hcur⟩:=htab0.has (k:=g) rfl
 have F:Frm (fun b=>¬(b=g)) R w (R3 w g (q+s * K0.size) cs):=A2d (fun hc=>hc rfl) (h.rng g hgM).1 cs _ w
 have hCM:∀ b,b<w.heap.size→(b=g)→M b:=fun b _ hc=>by subst hc;exact hgM
 obtain ⟨k1,k2,k3,k4,k5,k6,k7,k8,k9,k10⟩:=h.parts (I':=I) F hCM (fun b hl hb=>hb)
 have hrf:∀ {σ:TypeId} {b:Nat} {cur:Array Value} {fr:Nat × Nat},w.heap[b]? =some (.cells cur σ fr)→59≠σ→¬(b=g):=fun hb h0 hc=>by
  subst hc
  rw [hcur] at hb
  simp at hb
  exact h0 hb.2.1
 have htab:=htab0.putAll hgI hx hc hy
 rw [←ha] at htab
 have hsz:=F.size
 exact ⟨⟨by have e:X6 V N t {n with packets:=n.packets.set s y} lka lkc=X6 V N t n lka lkc:=(by unfold X6;simp only [List.length_set]);rw [e];exact k5 (hrf h.box (by decide)),h.st,h.nu,k1,k2,k3,h.tn,k4,k6 (let ⟨cur,hc⟩:=h.sws.has (k:=V.sb) rfl;hrf hc (by decide)),k7 (hrf h.ords.blk (by decide)) (fun i hi k hk=>let ⟨cur,hc⟩:=(h.ords.own i hi).has hk;hrf hc (by decide)),k8 (hrf h.bks.blk (by decide)) (fun i hi k hk=>let ⟨cur,hc⟩:=(h.bks.own i hi).has hk;hrf hc (by decide)),by rw [List.length_set];exact htab,k10 (fun k hk=>let ⟨cur,hc⟩:=h.pls.has hk;hrf hc (by decide)),
  h.im,h.mR,h.mS,h.mO,h.mB,h.mo,h.mb,h.mp,h.ml,fun b hb=>⟨(h.rng b hb).1,Nat.lt_of_lt_of_le (h.rng b hb).2 hsz⟩⟩,F.weak (fun b _ hb=>.inl (fun hc=>hb (hCM b (by assumption) hc))) (Nat.le_refl _)⟩
theorem C9.setSwitch (h:C9 I M lka lkc R N t w n V) {s g q:Nat} {x y:D8} (ha:(some ⟨V.sb,0,none⟩:Option Addr)=some ⟨g,q,none⟩) (hx:n.switches[s]? =some x) {cs:List Value} (hc:cs.length=E8.size) (hy:E8.rep I w cs y):
  C9 I M lka lkc R N t (R3 w g (q+s * E8.size) cs) {n with switches:=n.switches.set s y} V∧Frm (fun b=>¬M b) R w (R3 w g (q+s * E8.size) cs):=by
 have hgM:M g:=(by have e:V.sb=g:=(by simp at ha;exact ha.1);rw [←e];exact h.mS)
 have hgI:¬I g:=fun hi=>h.im g hi hgM
 have htab0:=h.sws
 rw [ha] at htab0
 obtain ⟨cur0,hcur⟩:=htab0.has (k:=g) rfl
 have F:Frm (fun b=>¬(b=g)) R w (R3 w g (q+s * E8.size) cs):=A2d (fun hc=>hc rfl) (h.rng g hgM).1 cs _ w
 have hCM:∀ b,b<w.heap.size→(b=g)→M b:=fun b _ hc=>by subst hc;exact hgM
 obtain ⟨k1,k2,k3,k4,k5,k6,k7,k8,k9,k10⟩:=h.parts (I':=I) F hCM (fun b hl hb=>hb)
 have hrf:∀ {σ:TypeId} {b:Nat} {cur:Array Value} {fr:Nat × Nat},w.heap[b]? =some (.cells cur σ fr)→65≠σ→¬(b=g):=fun hb h0 hc=>by
  subst hc
  rw [hcur] at hb
  simp at hb
  exact h0 hb.2.1
 have htab:=htab0.putAll hgI hx hc hy
 rw [←ha] at htab
 have hsz:=F.size
 exact ⟨⟨k5 (hrf h.box (by decide)),h.st,h.nu,k1,k2,k3,h.tn,k4,htab,k7 (hrf h.ords.blk (by decide)) (fun i hi k hk=>let ⟨cur,hc⟩:=(h.ords.own i hi).has hk;hrf hc (by decide)),k8 (hrf h.bks.blk (by decide)) (fun i hi k hk=>let ⟨cur,hc⟩:=(h.bks.own i hi).has hk;hrf hc (by decide)),k9 (fun k hk=>let ⟨cur,hc⟩:=h.pks.has hk;hrf hc (by decide)),k10 (fun k hk=>let ⟨cur,hc⟩:=h.pls.has hk;hrf hc (by decide)),
  h.im,h.mR,h.mS,h.mO,h.mB,h.mo,h.mb,h.mp,h.ml,fun b hb=>⟨(h.rng b hb).1,Nat.lt_of_lt_of_le (h.rng b hb).2 hsz⟩⟩,F.weak (fun b _ hb=>.inl (fun hc=>hb (hCM b (by assumption) hc))) (Nat.le_refl _)⟩
end
end Go.Proofs.YtampcbncgofkoaaGreatDoor
namespace Go.St
open Go.RowKit
def Z1 (x:To):Int × Int × Int × List C1 × List Int:=(x.sw,x.order.kind,x.order.ver,x.order.rules,x.order.flows)
theorem A2k (l:List To):∀ (c:Ctl),(E6 c l).2.map Z1=l.map Z1∧(E6 c l).1.waits=c.waits++(E6 c l).2.map (·.order.num):=by
 induction l with
 |nil=>intro c;simp [E6,Z0]
 |cons x l ih=>
  intro c
  unfold E6
  rw [P5,tell,W1]
  have h:=ih (tell (c,[]) x).1
  simp only [tell] at h
  refine ⟨?_,?_⟩
  ·simp only [List.nil_append,List.singleton_append,List.map_cons,h.1]
   rfl
  ·rw [h.2]
   simp
theorem B0d {c:Ctl} {l:List To} {i:Nat} {x:To} (h:(E6 c l).2[i]? =some x):∃ y,l[i]? =some y∧Z1 x=Z1 y:=by
  have h1:((E6 c l).2.map Z1)[i]? =some (Z1 x):=by rw [List.getElem?_map,h];rfl
  rw [(A2k l c).1,List.getElem?_map] at h1
  cases hq:l[i]? with
  |none=>rw [hq] at h1;simp at h1
  |some y=>rw [hq] at h1;exact ⟨y,rfl,by simpa using h1.symm⟩
theorem B4h {c:Ctl} {l:List To} {i:Nat} {y:To} (h:l[i]? =some y):∃ x,(E6 c l).2[i]? =some x∧Z1 x=Z1 y:=by
  have h1:(l.map Z1)[i]? =some (Z1 y):=by rw [List.getElem?_map,h];rfl
  rw [←(A2k l c).1,List.getElem?_map] at h1
  cases hq:(E6 c l).2[i]? with
  |none=>rw [hq] at h1;simp at h1
  |some x=>rw [hq] at h1;exact ⟨x,rfl,by simpa using h1⟩
structure B0t (f:Int→List To):Prop where
 one:∀ s,(f s).length≤1
 sw:∀ s x,x∈f s→x.sw=s
theorem B0u (p:F5):B0t (R4 p):=⟨Z8 p,fun s x h=>by
 unfold R4 at h
 split at h
 ·simp at h
 ·obtain rfl:=List.mem_singleton.1 h;rfl⟩
theorem A92 (p:F5):B0t (O0 p):=⟨A1s p,fun s x h=>by
 unfold O0 at h
 split at h
 ·simp at h
 ·obtain rfl:=List.mem_singleton.1 h;rfl⟩
theorem A74 (c:Ctl):B0t (I9 c):=⟨U5 c,fun s x h=>by
 unfold I9 at h
 split at h
 ·simp at h
 ·obtain rfl:=List.mem_singleton.1 h;rfl⟩
theorem B02 {f:Int→List To} (h:B0t f):∀ n,((M5 f n).map (·.sw)).Pairwise (·<·)
  |0=>by simp [A65]
  |n+1=>by
    rw [Z3,List.map_append,List.pairwise_append]
    refine ⟨B02 h n,?_,fun a ha b hb=>?_⟩
    · have:=h.one n
      match hq:f n,this with
      |[],_=>simp
      |[x],_=>simp
    · obtain ⟨x,hx,rfl⟩:=List.mem_map.1 ha
      obtain ⟨y,hy,rfl⟩:=List.mem_map.1 hb
      obtain ⟨s,hs,hx⟩:=R8 hx
      rw [h.sw _ _ hx,h.sw _ _ hy]
      omega
theorem B42 {f:Int→List To} (h:B0t f) (c:Ctl) (n:Nat):((E6 c (M5 f n)).2.map (·.sw)).Pairwise (·<·):=by
 have e:(E6 c (M5 f n)).2.map (·.sw)=(M5 f n).map (·.sw):=by
  have:=congrArg (List.map Prod.fst) (A2k (M5 f n) c).1
  simpa [List.map_map,Function.comp_def,Z1] using this
 rw [e];exact B02 h n
theorem A3p {f:Int→List To} {n:Nat} {s:Nat} {x:To} (hs:s<n) (hx:x∈f s):x∈M5 f n:=List.mem_flatMap.2 ⟨s,List.mem_range.2 hs,hx⟩
theorem A12:∀ (m:List To) (os:List (List G3)) (s:Nat),(F9 os m)[s]? =os[s]?.map (·++(m.filter fun x=>decide (x.sw.toNat=s)).map (·.order))
 |[],os,s=>by simp [F9]
 |x::m,os,s=>by
  show (F9 (U8 os x) m)[s]? =_
  rw [A12 m,U8,List.getElem?_modify]
  by_cases h:x.sw.toNat=s
  ·subst h
   rw [List.filter_cons_of_pos (by simp)]
   cases os[x.sw.toNat]? <;>simp
  ·rw [List.filter_cons_of_neg (by simpa using h)]
   cases os[s]? <;>simp [h]
theorem A4b {m:List To} (h:(m.map (·.sw)).Pairwise (·<·)) (h0:∀ x∈m,0≤x.sw) {x:To} (hx:x∈m):(m.filter fun y=>decide (y.sw.toNat=x.sw.toNat))=[x]:=by
  induction m with
  |nil=>simp at hx
  |cons y m ih=>
    rw [List.map_cons,List.pairwise_cons] at h
    have hm:∀ z∈m,y.sw<z.sw:=fun z hz=>h.1 _ (List.mem_map.2 ⟨z,hz,rfl⟩)
    rcases List.mem_cons.1 hx with rfl|hx
    · rw [List.filter_cons_of_pos (by simp)]
      congr 1
      rw [List.filter_eq_nil_iff]
      intro z hz
      have h1:=hm z hz
      have h2:=h0 z (List.mem_cons_of_mem _ hz)
      have h3:=h0 x (by simp)
      simp only [decide_eq_true_eq]
      omega
    · have h1:=hm x hx
      have h2:=h0 y (by simp)
      have h3:=h0 x (List.mem_cons_of_mem _ hx)
      rw [List.filter_cons_of_neg (by simp only [decide_eq_true_eq];omega)]
      exact ih h.2 (fun z hz=>h0 z (List.mem_cons_of_mem _ hz)) hx
theorem A84 {m:List To} {s:Nat} (h:∀ x∈m,x.sw.toNat≠s):(m.filter fun y=>decide (y.sw.toNat=s))=[]:=by
 rw [List.filter_eq_nil_iff]
 intro z hz
 simpa using h z hz
structure L3 (N:Nat) (n:Net) (a b:Nat→D8) (o:Nat→G3) (st:Nat→Nat):Prop where
 sw:n.switches.length=N
 os:n.orders.length=N
 bs:n.backs.length=N
 each:∀ s,s<N→(st s=0∧n.orders[s]? =some []∧n.backs[s]? =some []∧n.switches[s]? =some (b s))∨(st s=1∧n.orders[s]? =some [o s]∧n.backs[s]? =some []∧n.switches[s]? =some (a s)∧Q4 (a s) (o s)=(b s,0))∨(st s=2∧n.orders[s]? =some []∧n.backs[s]? =some [(o s).num]∧n.switches[s]? =some (b s))
 wait:∀ x,x∈n.ctl.waits↔∃ s,s<N∧st s≠0∧(o s).num=x
 nodup:n.ctl.waits.Nodup
 own:∀ s r,s<N→r<N→st s≠0→st r≠0→(o s).num=(o r).num→s=r
def A1e (st:Nat→Nat) (s v:Nat):Nat→Nat:=fun r=>if r=s then v else st r
theorem L3.order {N:Nat} {n:Net} {a b:Nat→D8} {o:Nat→G3} {st:Nat→Nat} (h:L3 N n a b o st) {s:Nat} (hs:s<N) (h1:st s=1):
  L3 N {n with orders:=n.orders.set s [],switches:=n.switches.set s (b s),backs:=n.backs.modify s (·++[(o s).num])} a b o (A1e st s 2):=by
 have hz:∀ r,(A1e st s 2 r≠0)↔st r≠0:=fun r=>by
  unfold A1e;split
  ·rename_i e;subst e;omega
  ·exact Iff.rfl
 refine ⟨by simp [h.sw],by simp [h.os],by simp [h.bs],fun r hr=>?_,fun x=>?_,h.nodup,fun r q hr hq h2 h3=>h.own r q hr hq ((hz r).1 h2) ((hz q).1 h3)⟩
 ·by_cases e:r=s
  ·subst e
   rcases h.each r hr with g|g|g
   ·omega
   ·right;right
    refine ⟨by simp [A1e],?_,?_,?_⟩
    ·rw [List.getElem?_set_self (by rw [h.os];exact hr)]
    ·rw [List.getElem?_modify,g.2.2.1];simp
    ·rw [List.getElem?_set_self (by rw [h.sw];exact hr)]
   ·omega
  ·have e1:(n.orders.set s [])[r]? =n.orders[r]? :=List.getElem?_set_ne (fun h=>e h.symm)
   have e2:(n.switches.set s (b s))[r]? =n.switches[r]? :=List.getElem?_set_ne (fun h=>e h.symm)
   have e3:(n.backs.modify s (·++[(o s).num]))[r]? =n.backs[r]? :=by
    rw [List.getElem?_modify]
    cases n.backs[r]? <;>simp [Ne.symm e]
   have e4:A1e st s 2 r=st r:=by simp [A1e,e]
   dsimp only
   rw [e1,e2,e3,e4]
   exact h.each r hr
 ·rw [h.wait x]
  constructor
  ·rintro ⟨r,h1,h2,h3⟩;exact ⟨r,h1,(hz r).2 h2,h3⟩
  ·rintro ⟨r,h1,h2,h3⟩;exact ⟨r,h1,(hz r).1 h2,h3⟩
theorem B58 {x:Int} {l:List Int} (h:x∈l):∃ i,N8 x l=some i:=by
  cases hq:N8 x l with
  |some i=>exact ⟨i,rfl⟩
  |none=>exact absurd h (A0c hq)
theorem B0i {x:Int} {l:List Int} {i:Nat} (hn:l.Nodup) (hi:N8 x l=some i):(l.eraseIdx i).Nodup∧∀ y,y∈l.eraseIdx i↔y∈l∧y≠x:=by
 have hx:=S2 hi
 have hl:=(List.getElem?_eq_some_iff.1 hx).1
 have hxe:l[i]=x:=(List.getElem?_eq_some_iff.1 hx).2
 refine ⟨hn.sublist (List.eraseIdx_sublist _ _),fun y=>?_⟩
 rw [List.mem_eraseIdx_iff_getElem?]
 constructor
 ·rintro ⟨j,hj,hy⟩
  refine ⟨List.mem_of_getElem? hy,fun e=>?_⟩
  subst e
  exact hj ((List.getElem?_inj (List.getElem?_eq_some_iff.1 hy).1 hn).1 (hy.trans hx.symm))
 ·rintro ⟨hy,hne⟩
  obtain ⟨j,hj⟩:=List.getElem?_of_mem hy
  refine ⟨j,fun e=>?_,hj⟩
  subst e
  rw [hx] at hj
  exact hne (by simpa using hj.symm)
theorem L3.back {N:Nat} {n:Net} {a b:Nat→D8} {o:Nat→G3} {st:Nat→Nat} (h:L3 N n a b o st) {s i:Nat} (hs:s<N) (h2:st s=2) (hi:N8 (o s).num n.ctl.waits=some i) {c:Ctl} (hc:c.waits=n.ctl.waits.eraseIdx i):
  L3 N {n with backs:=n.backs.set s [],ctl:=c} a b o (A1e st s 0):=by
 obtain ⟨k1,k2⟩:=B0i h.nodup hi
 refine ⟨h.sw,h.os,by simp [h.bs],fun r hr=>?_,fun x=>?_,by dsimp only;rw [hc];exact k1,fun r q hr hq g2 g3=>?_⟩
 ·by_cases e:r=s
  ·subst e
   rcases h.each r hr with g|g|g
   ·omega
   ·omega
   ·left
    refine ⟨by simp [A1e],g.2.1,?_,g.2.2.2⟩
    dsimp only
    rw [List.getElem?_set_self (by rw [h.bs];exact hr)]
  ·have e1:(n.backs.set s [])[r]? =n.backs[r]? :=List.getElem?_set_ne (fun h=>e h.symm)
   have e4:A1e st s 0 r=st r:=by simp [A1e,e]
   dsimp only
   rw [e1,e4]
   exact h.each r hr
 ·dsimp only
  rw [hc,k2,h.wait]
  constructor
  ·rintro ⟨⟨r,g1,g2,g3⟩,g4⟩
   refine ⟨r,g1,?_,g3⟩
   have:r≠s:=fun e=>g4 (by rw [←g3,e])
   simpa [A1e,this] using g2
  ·rintro ⟨r,g1,g2,g3⟩
   have hr:r≠s:=fun e=>by subst e;simp [A1e] at g2
   have g2':st r≠0:=by simpa [A1e,hr] using g2
   exact ⟨⟨r,g1,g2',g3⟩,fun e=>hr (h.own r s g1 hs g2' (by omega) (by rw [g3,e]))⟩
 ·have h3:∀ q,A1e st s 0 q≠0→st q≠0:=fun q hq=>by
   by_cases e:q=s
   ·subst e;simp [A1e] at hq
   ·simpa [A1e,e] using hq
  exact h.own r q hr hq (h3 r g2) (h3 q g3)
theorem L3.rest {N:Nat} {n:Net} {a b:Nat→D8} {o:Nat→G3} {st:Nat→Nat} (h:L3 N n a b o st) (hw:n.ctl.waits=[]):∀ s,s<N→st s=0:=fun s hs=>by
 by_cases e:st s=0
 ·exact e
 ·have:=(h.wait (o s).num).2 ⟨s,hs,e,rfl⟩
  rw [hw] at this;simp at this
theorem B0a {α β:Type} {f:α→β}:∀ {l:List α},(l.map f).Nodup→∀ {x y:α},x∈l→y∈l→f x=f y→x=y
 |[],_,x,y,hx,_,_=>by simp at hx
 |a::l,h,x,y,hx,hy,e=>by
  rw [List.map_cons,List.nodup_cons] at h
  rcases List.mem_cons.1 hx with hx1|hx1<;>rcases List.mem_cons.1 hy with hy1|hy1
  ·rw [hx1,hy1]
  ·exact (h.1 (List.mem_map.2 ⟨y,hy1,by rw [←e,hx1]⟩)).elim
  ·exact (h.1 (List.mem_map.2 ⟨x,hx1,by rw [e,hy1]⟩)).elim
  ·exact B0a h.2 hx1 hy1 e
def Y5 (m:List To) (s:Nat):Option To:=m.find? fun x=>decide (x.sw.toNat=s)
theorem P8 {m:List To} {s:Nat} {x:To} (h:Y5 m s=some x):x∈m∧x.sw.toNat=s:=⟨List.mem_of_find?_eq_some h,by have:=List.find?_some h;simpa using this⟩
theorem A38 {m:List To} {s:Nat} (h:Y5 m s=none):∀ x∈m,x.sw.toNat≠s:=fun x hx=>by
 have:=List.find?_eq_none.1 h x hx
 simpa using this
theorem A9z {m:List To} (hup:(m.map (·.sw)).Pairwise (·<·)) (h0:∀ x∈m,0≤x.sw) {x:To} (hx:x∈m):Y5 m x.sw.toNat=some x:=by
  cases hq:Y5 m x.sw.toNat with
  |none=>exact absurd rfl (A38 hq x hx)
  |some y=>
    obtain ⟨h1,h2⟩:=P8 hq
    have h3:y∈m.filter (fun z=>decide (z.sw.toNat=x.sw.toNat)):=List.mem_filter.2 ⟨h1,by simpa using h2⟩
    rw [A4b hup h0 hx] at h3
    rw [List.mem_singleton.1 h3]
def A4d (m:List To) (s:Nat):G3:=match Y5 m s with
 |some x=>x.order
 |none=>⟨0,0,0,[],[]⟩
def A3h (m:List To) (s:Nat):Nat:=if (Y5 m s).isSome then 1 else 0
theorem L3.begin {N:Nat} {n:Net} {a b:Nat→D8} {m:List To} {c:Ctl} (hsw:n.switches.length=N) (hos:n.orders.length=N) (hbs:n.backs.length=N)
    (h0:∀ s,s<N→n.orders[s]? =some []∧n.backs[s]? =some []∧n.switches[s]? =some (a s))
    (hup:(m.map (·.sw)).Pairwise (·<·)) (hin:∀ x∈m,0≤x.sw∧x.sw.toNat<N) (hw:c.waits=m.map (·.order.num)) (hnd:(m.map (·.order.num)).Nodup)
    (hdo:∀ x∈m,Q4 (a x.sw.toNat) x.order=(b x.sw.toNat,0)) (hno:∀ s,s<N→(∀ x∈m,x.sw.toNat≠s)→a s=b s):
    L3 N {n with ctl:=c,orders:=F9 n.orders m} a b (A4d m) (A3h m):=by
  have hi0:∀ x∈m,0≤x.sw:=fun x hx=>(hin x hx).1
  refine ⟨hsw,by show (F9 _ _).length=N;rw [X7];exact hos,hbs,fun s hs=>?_,fun y=>?_,by show c.waits.Nodup;rw [hw];exact hnd,fun s r hs hr h1 h2 e=>?_⟩
  · obtain ⟨g1,g2,g3⟩:=h0 s hs
    cases hq:Y5 m s with
    |none=>
      left
      have hn:=A38 hq
      refine ⟨by simp [A3h,hq],?_,g2,by rw [←hno s hs hn];exact g3⟩
      show (F9 _ _)[s]? =_
      rw [A12,g1,A84 hn];rfl
    |some x=>
      right;left
      obtain ⟨hx,hxs⟩:=P8 hq
      subst hxs
      refine ⟨by simp [A3h,hq],?_,g2,g3,?_⟩
      · show (F9 _ _)[x.sw.toNat]? =_
        rw [A12,g1,A4b hup hi0 hx]
        simp [A4d,hq]
      · simp only [A4d,hq];exact hdo x hx
  · show y∈c.waits↔_
    rw [hw]
    constructor
    · intro hy
      obtain ⟨x,hx,rfl⟩:=List.mem_map.1 hy
      have hq:=A9z hup hi0 hx
      exact ⟨x.sw.toNat,(hin x hx).2,by simp [A3h,hq],by simp [A4d,hq]⟩
    · rintro ⟨s,hs,h1,h2⟩
      cases hq:Y5 m s with
      |none=>simp [A3h,hq] at h1
      |some x=>
        simp only [A4d,hq] at h2
        exact List.mem_map.2 ⟨x,(P8 hq).1,h2⟩
  · cases hq:Y5 m s with
    |none=>simp [A3h,hq] at h1
    |some x=>
      cases hp:Y5 m r with
      |none=>simp [A3h,hp] at h2
      |some z=>
        simp only [A4d,hq,hp] at e
        have:=B0a hnd (P8 hq).1 (P8 hp).1 e
        rw [←(P8 hq).2,←(P8 hp).2,this]
theorem L3.still {N:Nat} {n:Net} {a b:Nat→D8} {c:Ctl} (hsw:n.switches.length=N) (hos:n.orders.length=N) (hbs:n.backs.length=N)
  (h0:∀ s,s<N→n.orders[s]? =some []∧n.backs[s]? =some []∧n.switches[s]? =some (b s)) (hw:c.waits=[]):L3 N {n with ctl:=c} a b (fun _=>⟨0,0,0,[],[]⟩) (fun _=>0):=
 ⟨hsw,hos,hbs,fun s hs=>.inl ⟨rfl,h0 s hs⟩,fun y=>by show y∈c.waits↔_;rw [hw];simp,by show c.waits.Nodup;rw [hw];exact List.Pairwise.nil,fun s r _ _ h=>absurd rfl h⟩
theorem L3.calm {N:Nat} {n:Net} {a b:Nat→D8} {o:Nat→G3} {st:Nat→Nat} (h:L3 N n a b o st) (hw:n.ctl.waits=[]):∀ s,s<N→n.orders[s]? =some []∧n.backs[s]? =some []∧n.switches[s]? =some (b s):=fun s hs=>by
 have h0:=h.rest hw s hs
 rcases h.each s hs with g|g|g
 ·exact g.2
 ·omega
 ·omega
def A0i (p:F5) (s:Nat):List J0:=(F8 (s:Int) 0 p.flows).map fun f=>⟨f,p.ver⟩
def U6 (p0:F5) (s:Nat):D8:=⟨C6 p0 s,A0i p0 s⟩
def A2v (p0 p:F5) (s:Nat):D8:=⟨C6 p0 s++C6 p s,A0i p0 s⟩
def Y4 (p0 p:F5) (s:Nat):D8:=⟨C6 p0 s++C6 p s,A0i p s⟩
section
variable {t : C5} {p0 p : F5}
theorem T2.rise (h:T2 t p) (s:Int):(C6 p s).Pairwise (fun a b=>B4 a b=true):=by
 rcases h with rfl|⟨v,l,h⟩
 ·simp [E2,C6,D4]
 ·exact h.rise s
theorem T2.out (h:T2 t p) {s:Int} {r:C1} (hr:r∈C6 p s):¬O3 r:=by
 rcases h with rfl|⟨v,l,h⟩
 ·simp [E2,C6,D4] at hr
 ·exact h.out hr
theorem T2.stamps (h:T2 t p) (s:Nat):(∀ x∈A0i p s,¬W8 x)∧(A0i p s).Pairwise (fun a b=>a.flow<b.flow):=by
 rcases h with rfl|⟨v,l,h⟩
 ·simp [E2,A0i,F8]
 ·have hl:=h.len
  have hf:=h.flows
  obtain ⟨k1,_⟩:=A26 (s:=(s:Int)) (l:=p.flows) (i:=0) (last:=-1) (by omega) (by omega) (by rw [hf];omega)
  obtain ⟨k2,k3⟩:=A0k.1 k1
  refine ⟨fun x hx=>?_,?_⟩
  ·obtain ⟨f,hf,rfl⟩:=List.mem_map.1 hx
   have:=k2 f hf
   have:=h.ver;have:=h.v1;have:=h.v2
   unfold W8
   show ¬(f<0∨12≤f∨p.ver<1∨1000<p.ver)
   omega
  ·unfold A0i
   rw [List.pairwise_map]
   exact (List.pairwise_cons.1 k3).2
theorem T2.sw (h:T2 t p) {s:Nat} (hl:(C6 p s).length≤16):A4t (U6 p s):=⟨⟨hl,fun r hr=>h.out hr,h.rise s⟩,(h.stamps s).1,(h.stamps s).2⟩
structure Y6 (t:C5) (p0 p:F5):Prop where
 held:T2 t p0
 ok:∃ l,J9 t p.ver l p
 up:p0.ver<p.ver
 few:∀ s:Nat,s<t.n.toNat→(C6 p0 s).length+(C6 p s).length≤16
theorem Y6.next (h:Y6 t p0 p):T2 t p:=let ⟨l,h⟩:=h.ok;.inr ⟨_,l,h⟩
theorem Y6.tab (h:Y6 t p0 p) {s:Nat} (hs:s<t.n.toNat):A5r (C6 p0 s++C6 p s):=by
 have hf:=h.few s hs
 refine ⟨by rw [List.length_append];exact hf,fun r hr=>(List.mem_append.1 hr).elim (fun h1=>h.held.out h1) (fun h1=>h.next.out h1),?_⟩
 rw [List.pairwise_append]
 refine ⟨h.held.rise s,h.next.rise s,fun a ha b hb=>?_⟩
 have h1:=(L8.1 ha).1
 have h2:=(L8.1 hb).1
 have:=h.up
 exact A08.2 (.inl (by omega))
theorem Y6.old (h:Y6 t p0 p) {s:Nat} (hs:s<t.n.toNat):A4t (U6 p0 s):=h.held.sw (by have:=h.few s hs;omega)
theorem Y6.mid (h:Y6 t p0 p) {s:Nat} (hs:s<t.n.toNat):A4t (A2v p0 p s):=⟨h.tab hs,(h.held.stamps s).1,(h.held.stamps s).2⟩
theorem Y6.new (h:Y6 t p0 p) {s:Nat} (hs:s<t.n.toNat):A4t (Y4 p0 p s):=⟨h.tab hs,(h.next.stamps s).1,(h.next.stamps s).2⟩
theorem B4f {l more:List C1} (h:A5r (l++more)):A11 l more=l++more:=by
 have hm:=fun x=>((A1w C4 (l++more)).mem (x:=x) C4)
 refine B2r (B44 _ (A5y C4 _) fun a ha b hb h1 h2=>B4r h.up ((hm a).1 ha) ((hm b).1 hb) h1 h2) h.up fun x=>?_
 show x∈O6 _↔_
 rw [A76,hm]
theorem Y6.add (h:Y6 t p0 p) {s:Nat} (hs:s<t.n.toNat) {o:G3} (hw:F3 o=0) (hk:o.kind=1) (hr:o.rules=C6 p s):Q4 (U6 p0 s) o=(A2v p0 p s,0):=by
 have e:A11 (U6 p0 s).rules o.rules=C6 p0 s++C6 p s:=by rw [hr];exact B4f (h.tab hs)
 have h4:(O8 (U6 p0 s).rules o.rules).2=0:=by
  unfold O8
  rw [e,if_neg (by rw [Decidable.not_not];exact A20.2 (h.old hs).tab),if_neg (by rw [Decidable.not_not];exact A20.2 (h.tab hs))]
 rw [B54 (h.old hs) hw hk h4,e]
 rfl
theorem Y6.stamp (h:Y6 t p0 p) {s:Nat} (hs:s<t.n.toNat) {o:G3} (hw:F3 o=0) (hk:o.kind=2) (hf:o.flows=F8 (s:Int) 0 p.flows) (hv:o.ver=p.ver):Q4 (A2v p0 p s) o=(Y4 p0 p s,0):=by
 rw [A7j (h.mid hs) hw hk,hf,hv]
 rfl
theorem Y6.drop (h:Y6 t p0 p) {s:Nat} (hs:s<t.n.toNat) {o:G3} (hw:F3 o=0) (hk:o.kind=3) (hv:o.ver=p0.ver):Q4 (Y4 p0 p s) o=(U6 p s,0):=by
 rw [B08 (h.new hs) hw hk,hv]
 have hup:=h.up
 have e:S0 (C6 p0 s++C6 p s) p0.ver=C6 p s:=by
  unfold S0
  rw [List.filter_append,List.filter_eq_nil_iff.2 (fun r hr=>by have:=(L8.1 hr).1;simp [this]),List.nil_append,List.filter_eq_self.2 (fun r hr=>by have:=(L8.1 hr).1;simp [this];omega)]
 show ((⟨S0 (C6 p0 s++C6 p s) p0.ver,A0i p s⟩:D8),(0:Int))=_
 rw [e]
 rfl
end
structure V4 (t:C5) (l:List F5):Prop where
 each:∀ (i:Nat) (p:F5),l[i]? =some p→p.ver=i+1∧∃ f,J9 t p.ver f p
def P9 (l:List F5) (p:F5):Prop:=(p=E2)∨(1≤p.ver∧l[(p.ver - 1).toNat]? =some p)
theorem P9.more {l:List F5} {p q:F5} (h:P9 l p):P9 (l++[q]) p:=by
 rcases h with h|⟨h1,h2⟩
 ·exact .inl h
 ·exact .inr ⟨h1,by rw [List.getElem?_append_left (List.getElem?_eq_some_iff.1 h2).1];exact h2⟩
structure B4b (t : C5) (n : Net) (p0 p : F5) (a b : Nat → D8) (o : Nat → G3) (st : Nat → Nat) : Prop where
 fl : L3 t.n.toNat n a b o st
 now : n.ctl.now = p0
 next : n.ctl.next = p
 plans : V4 t n.plans
 is0 : P9 n.plans p0
 is1 : P9 n.plans p
 at_ : (n.ctl.stage = 0 ∧ n.ctl.waits = [] ∧ p = E2 ∧ T2 t p0 ∧ p0.ver = n.plans.length ∧ (∀ s : Nat, s < t.n.toNat → (C6 p0 s).length ≤ 16) ∧ b = U6 p0) ∨
  (Y6 t p0 p ∧ p.ver = n.plans.length ∧ p0.ver = p.ver - 1 ∧
   ((n.ctl.stage = 1 ∧ n.ctl.waits ≠ [] ∧ a = U6 p0 ∧ b = A2v p0 p) ∨ (n.ctl.stage = 2 ∧ n.ctl.waits ≠ [] ∧ a = A2v p0 p ∧ b = Y4 p0 p) ∨ (n.ctl.stage = 3 ∧ n.ctl.waits = [] ∧ b = Y4 p0 p) ∨ (n.ctl.stage = 4 ∧ n.ctl.waits ≠ [] ∧ a = Y4 p0 p ∧ b = U6 p)))
structure A3v (f:Int→List To) (N:Nat) (c d:Ctl) (m:List To):Prop where
 up:(m.map (·.sw)).Pairwise (·<·)
 inn:∀ x∈m,0≤x.sw∧x.sw.toNat<N
 waits:d.waits=m.map (·.order.num)
 nodup:(m.map (·.order.num)).Nodup
 of:∀ x∈m,(∃ y∈f x.sw,Z1 x=Z1 y)∧1≤x.order.num∧x.order.num≤100000
 none:∀ s:Nat,s<N→(∀ x∈m,x.sw.toNat≠s)→f s=[]
 stage:d.stage=c.stage
 now:d.now=c.now
 next:d.next=c.next
theorem B1a {a:Int} {m:List To} (h:U7 a m):(m.map (·.order.num)).Nodup:=by
 rw [List.Nodup,List.pairwise_iff_getElem]
 intro i j hi hj hij
 simp only [List.length_map] at hi hj
 have h1:=h i _ (List.getElem?_eq_getElem hi)
 have h2:=h j _ (List.getElem?_eq_getElem hj)
 simp only [List.getElem_map]
 omega
theorem A4c {f:Int→List To} (h:B0t f) {c:Ctl} (hw:c.waits=[]) (N:Nat) (h0:0≤c.num) (h1:c.num+N≤100000):A3v f N c (E6 c (M5 f N)).1 (E6 c (M5 f N)).2:=by
 have hl:(M5 f N).length≤N:=Q2 h.one N
 have hr:=A2s (M5 f N) c h0 (by omega)
 have hk:=P7 c (M5 f N)
 have ha:=(A2k (M5 f N) c).2
 have hsl:=(T0 c (M5 f N)).1
 refine ⟨B42 h c N,fun x hx=>?_,by rw [ha,hw,List.nil_append],B1a hr.1,fun x hx=>?_,fun s hs hn=>?_,hk.1,hk.2.1,hk.2.2⟩
 ·obtain ⟨i,hi⟩:=List.getElem?_of_mem hx
  obtain ⟨y,hy,e⟩:=B0d hi
  obtain ⟨s,hs,hys⟩:=R8 (List.mem_of_getElem? hy)
  have e1:x.sw=y.sw:=congrArg Prod.fst e
  have e2:=h.sw _ _ hys
  omega
 ·obtain ⟨i,hi⟩:=List.getElem?_of_mem hx
  obtain ⟨y,hy,e⟩:=B0d hi
  obtain ⟨s,hs,hys⟩:=R8 (List.mem_of_getElem? hy)
  have e1:x.sw=y.sw:=congrArg Prod.fst e
  have e2:=h.sw _ _ hys
  have hm:=hr.1.mem hx
  refine ⟨⟨y,by rw [e1,e2];exact hys,e⟩,by omega,by omega⟩
 ·cases hq:f s with
  |nil=>rfl
  |cons y r=>
   have hy:y∈M5 f N:=A3p hs (by rw [hq];simp)
   obtain ⟨i,hi⟩:=List.getElem?_of_mem hy
   obtain ⟨x,hx,e⟩:=B4h (c:=c) hi
   have e1:x.sw=y.sw:=congrArg Prod.fst e
   have e2:=h.sw s y (by rw [hq];simp)
   exact absurd (by omega) (hn x (List.mem_of_getElem? hx))
theorem A3t {x y:To} (h:Z1 x=Z1 y):x.sw=y.sw∧x.order.kind=y.order.kind∧x.order.ver=y.order.ver∧x.order.rules=y.order.rules∧x.order.flows=y.order.flows:=by
 simp only [Z1,Prod.mk.injEq] at h
 exact h
theorem A1z {t:C5} {x y:To} (h:Z1 x=Z1 y) (hy:B3t t y) (h1:1≤x.order.num) (h2:x.order.num≤100000):F3 x.order=0:=by
 obtain ⟨e1,e2,e3,e4,e5⟩:=A3t h
 obtain ⟨_,_,hb⟩:=hy
 refine A4q.right ?_ h1 h2
 unfold A4q at *
 rw [e2,e3,e4,e5]
 exact hb
structure Y3 (N:Nat) (n:Net) (b:Nat→D8):Prop where
 sw:n.switches.length=N
 os:n.orders.length=N
 bs:n.backs.length=N
 each:∀ s,s<N→n.orders[s]? =some []∧n.backs[s]? =some []∧n.switches[s]? =some (b s)
theorem L3.toRest {N:Nat} {n:Net} {a b:Nat→D8} {o:Nat→G3} {st:Nat→Nat} (h:L3 N n a b o st) (hw:n.ctl.waits=[]):Y3 N n b:=⟨h.sw,h.os,h.bs,h.calm hw⟩
theorem Y3.flight {N:Nat} {n:Net} {b b':Nat→D8} {c:Ctl} (h:Y3 N n b) (e:∀ s,s<N→b s=b' s) (hw:c.waits=[]) (a:Nat→D8):L3 N {n with ctl:=c} a b' (fun _=>⟨0,0,0,[],[]⟩) (fun _=>0):=
 L3.still h.sw h.os h.bs (fun s hs=>by rw [←e s hs];exact h.each s hs) hw
theorem Y3.sent {N:Nat} {n:Net} {a b:Nat→D8} {f:Int→List To} {c d:Ctl} {m:List To} (h:Y3 N n a) (hs:A3v f N c d m) (hdo:∀ x∈m,∀ y∈f x.sw,Z1 x=Z1 y→1≤x.order.num→x.order.num≤100000→Q4 (a x.sw.toNat) x.order=(b x.sw.toNat,0)) (hno:∀ s:Nat,s<N→f s=[]→a s=b s):
  L3 N {n with ctl:=d,orders:=F9 n.orders m} a b (A4d m) (A3h m):=
 L3.begin h.sw h.os h.bs h.each hs.up hs.inn hs.waits hs.nodup (fun x hx=>let ⟨⟨y,hy,e⟩,h1,h2⟩:=hs.of x hx;hdo x hx y hy e h1 h2) (fun s hs' hn=>hno s hs' (hs.none s hs' hn))
theorem A3v.empty {f:Int→List To} {N:Nat} {c d:Ctl} {m:List To} (hs:A3v f N c d m) (hw:d.waits=[]):m=[]∧∀ s:Nat,s<N→f s=[]:=by
 have hm:m=[]:=by have:=hs.waits;rw [hw] at this;simpa using this.symm
 exact ⟨hm,fun s h=>hs.none s h (by rw [hm];simp)⟩
def G7 (t:C5) (n:Net):Prop:=∃ p0 p a b o st,B4b t n p0 p a b o st
theorem A78 {c:Ctl} {s:Nat} (h:I9 c s=[]):A0i c.next s=[]∧A0i c.now s=[]:=by
 unfold I9 at h
 split at h
 ·rename_i hc
  refine ⟨by unfold A0i;rw [hc.1];rfl,?_⟩
  have:F8 (s:Int) 0 c.now.flows=[]:=by
   have hb:=hc.2
   have:∀ (l:List E0) (i:Int),X5 (s:Int) l=false→F8 (s:Int) i l=[]:=by
    intro l
    induction l with
    |nil=>intro i _;rfl
    |cons f r ih=>
     intro i hf
     unfold X5 at hf
     rw [List.any_cons,Bool.or_eq_false_iff] at hf
     rw [F8,if_neg (by simpa using hf.1),List.nil_append]
     exact ih _ hf.2
   exact this _ _ hb
  unfold A0i;rw [this];rfl
 ·simp at h
theorem B2i {p:F5} {s:Int} (h:R4 p s=[]):C6 p s=[]:=by
 unfold R4 at h
 split at h
 ·assumption
 ·simp at h
theorem B0c {p:F5} {s:Int} (h:O0 p s=[]):C6 p s=[]:=by
 unfold O0 at h
 split at h
 ·assumption
 ·simp at h
section
variable {t : C5} {n : Net} {c : Ctl} {p0 p : F5}
theorem A7a (hr:Y3 t.n.toNat n (A2v p0 p)) (hn:c.now=p0) (hx:c.next=p) (hw:c.waits=[]) (hst:c.stage=1) (hp:Y6 t p0 p) (h0:0≤c.num) (h1:c.num≤90000) (hv:p.ver=n.plans.length) (hv0:p0.ver=p.ver - 1) (hpl:V4 t n.plans) (i0:P9 n.plans p0) (i1:P9 n.plans p):
  G7 t {n with ctl:=(C0 c t).1,orders:=F9 n.orders (C0 c t).2}:=by
 obtain ⟨lf,hok⟩:=hp.ok
 have h8:=hok.n8
 have hS:=A4c (A74 c) (c:=⟨2,c.now,c.next,c.num,c.waits⟩) hw t.n.toNat h0 (by show c.num+_≤_;omega)
 have e:C0 c t=if (E6 ⟨2,c.now,c.next,c.num,c.waits⟩ (M5 (I9 c) t.n.toNat)).1.waits=[] then (⟨3,c.now,c.next,c.num,[]⟩,[]) else E6 ⟨2,c.now,c.next,c.num,c.waits⟩ (M5 (I9 c) t.n.toNat):=by
  unfold C0
  rw [if_neg (fun h=>h hw),if_pos hst]
  rfl
 rw [e]
 by_cases hz:(E6 ⟨2,c.now,c.next,c.num,c.waits⟩ (M5 (I9 c) t.n.toNat)).1.waits=[]
 ·rw [if_pos hz]
  have hem:=(hS.empty hz).2
  refine ⟨p0,p,Y4 p0 p,Y4 p0 p,_,_,⟨hr.flight (c:=⟨3,c.now,c.next,c.num,[]⟩) (fun s hs=>?_) rfl _,hn,hx,hpl,i0,i1,.inr ⟨hp,hv,hv0,.inr (.inr (.inl ⟨rfl,rfl,rfl⟩))⟩⟩⟩
  obtain ⟨k1,k2⟩:=A78 (hem s hs)
  rw [hx] at k1
  rw [hn] at k2
  unfold A2v Y4
  rw [k1,k2]
 ·rw [if_neg hz]
  refine ⟨p0,p,A2v p0 p,Y4 p0 p,_,_,⟨hr.sent hS (fun x hx' y hy hb g1 g2=>?_) (fun s hs hf=>?_),hS.now.trans hn,hS.next.trans hx,hpl,i0,i1,.inr ⟨hp,hv,hv0,.inr (.inl ⟨hS.stage,hz,rfl,rfl⟩)⟩⟩⟩
  ·have hin:=hS.inn x hx'
   have hy':y∈E1 c t:=A3p (s:=x.sw.toNat) hin.2 (by rw [Int.toNat_of_nonneg hin.1];exact hy)
   have hT:=A8b (t:=t) (v:=p.ver) (l:=lf) (c:=c) (by rw [hx];exact hok) y hy'
   have hwr:=A1z hb hT g1 g2
   obtain ⟨e1,e2,e3,e4,e5⟩:=A3t hb
   unfold I9 at hy
   split at hy
   ·simp at hy
   ·obtain rfl:=List.mem_singleton.1 hy
    dsimp only at e2 e3 e5
    refine hp.stamp hin.2 hwr e2 ?_ (by rw [e3,hx])
    rw [e5,hx,Int.toNat_of_nonneg hin.1]
  ·obtain ⟨k1,k2⟩:=A78 hf
   rw [hx] at k1
   rw [hn] at k2
   unfold A2v Y4
   rw [k1,k2]
theorem B3f (hr:Y3 t.n.toNat n (Y4 p0 p)) (hn:c.now=p0) (hx:c.next=p) (hw:c.waits=[]) (hst:c.stage=2) (hp:Y6 t p0 p) (hv:p.ver=n.plans.length) (hv0:p0.ver=p.ver - 1) (hpl:V4 t n.plans) (i0:P9 n.plans p0) (i1:P9 n.plans p):
  G7 t {n with ctl:=(C0 c t).1,orders:=F9 n.orders (C0 c t).2}:=by
 have e:C0 c t=(⟨3,c.now,c.next,c.num,c.waits⟩,[]):=by
  unfold C0
  rw [if_neg (fun h=>h hw),if_neg (by omega),if_pos hst]
 rw [e]
 exact ⟨p0,p,Y4 p0 p,Y4 p0 p,_,_,⟨hr.flight (c:=⟨3,c.now,c.next,c.num,c.waits⟩) (fun s hs=>rfl) hw _,hn,hx,hpl,i0,i1,.inr ⟨hp,hv,hv0,.inr (.inr (.inl ⟨rfl,hw,rfl⟩))⟩⟩⟩
theorem A5k (hr:Y3 t.n.toNat n (U6 p)) (hx:c.next=p) (hw:c.waits=[]) (hst:c.stage=4) (hp:Y6 t p0 p) (hv:p.ver=n.plans.length) (hpl:V4 t n.plans) (i1:P9 n.plans p):
  G7 t {n with ctl:=(C0 c t).1,orders:=F9 n.orders (C0 c t).2}:=by
 rw [A8x hst hw]
 exact ⟨p,E2,U6 p,U6 p,_,_,⟨hr.flight (c:=⟨0,c.next,E2,c.num,c.waits⟩) (fun s hs=>rfl) hw _,hx,rfl,hpl,i1,.inl rfl,.inl ⟨rfl,hw,rfl,hp.next,hv,fun s hs=>by have:=hp.few s hs;omega,rfl⟩⟩⟩
end
theorem L3.pk {N:Nat} {n:Net} {a b:Nat→D8} {o:Nat→G3} {st:Nat→Nat} (h:L3 N n a b o st) (ps:List N2) (pl:List F5):L3 N {n with packets:=ps,plans:=pl} a b o st:=⟨h.sw,h.os,h.bs,h.each,h.wait,h.nodup,h.own⟩
theorem G7.pk {t:C5} {n:Net} (h:G7 t n) (ps:List N2):G7 t {n with packets:=ps}:=by
 obtain ⟨p0,p,a,b,o,st,h⟩:=h
 exact ⟨p0,p,a,b,o,st,h.fl.pk ps n.plans,h.now,h.next,h.plans,h.is0,h.is1,h.at_⟩
theorem T2.ver {t:C5} {p:F5} (h:T2 t p):0≤p.ver∧p.ver≤1000:=by
 rcases h with rfl|⟨v,l,h⟩
 ·simp [E2]
 ·have:=h.ver;have:=h.v1;have:=h.v2;omega
theorem A54 (t:C5):G7 t (D3 t):=by
 refine ⟨E2,E2,U6 E2,U6 E2,_,_,L3.still (n:=D3 t) (c:=Q6) (by simp [D3]) (by simp [D3]) (by simp [D3]) (fun s hs=>?_) rfl,rfl,rfl,⟨fun i p h=>by simp [D3] at h⟩,.inl rfl,.inl rfl,.inl ⟨rfl,rfl,rfl,.inl rfl,rfl,fun s _=>by simp [E2,C6,D4],rfl⟩⟩
 refine ⟨?_,?_,?_⟩<;>simp [D3,List.getElem?_replicate,hs]
 rfl
section
variable {t : C5} {n : Net} {k : Nat}
theorem V4.more {l:List F5} {q:F5} (h:V4 t l) (hv:q.ver=l.length+1) (hq:∃ f,J9 t q.ver f q):V4 t (l++[q]):=⟨fun i p hp=>by
 by_cases hi:i<l.length
 ·rw [List.getElem?_append_left hi] at hp;exact h.each i p hp
 ·rw [List.getElem?_append_right (by omega)] at hp
  have hj:i - l.length=0:=by
   have:=(List.getElem?_eq_some_iff.1 hp).1
   simp at this;omega
  rw [hj] at hp
  obtain rfl:q=p:=by simpa using hp
  exact ⟨by omega,hq⟩⟩
theorem B3a (h:G7 t n) (hf:F4 t k n) (hk:k≤5000) (l:List E0):G7 t (T8 t n l).1:=by
  unfold T8
  split
  · exact h
  rename_i h0
  have h0:=Decidable.not_not.1 h0
  obtain ⟨p0,p,a,b,o,st,h⟩:=h
  by_cases g1:n.ctl.stage≠0
  · unfold G9 at h0;rw [if_pos g1] at h0;exact absurd h0 (by decide)
  by_cases g2:(D2 t (up n.ctl.now.ver) l).2.1≠0
  · unfold G9 at h0;rw [if_neg g1,if_pos g2] at h0;exact absurd h0 g2
  by_cases g3:N5 n.ctl.now (D2 t (up n.ctl.now.ver) l).1 t.n.toNat=true
  · unfold G9 at h0;rw [if_neg g1,if_neg g2,if_pos g3] at h0;exact absurd h0 (by decide)
  have hp:=A6v (Decidable.not_not.1 g2)
  have e:G9 n.ctl t l=((C0 (E6 ⟨1,n.ctl.now,(D2 t (up n.ctl.now.ver) l).1,n.ctl.num,n.ctl.waits⟩ (L7 (D2 t (up n.ctl.now.ver) l).1 t)).1 t).1,
     (E6 ⟨1,n.ctl.now,(D2 t (up n.ctl.now.ver) l).1,n.ctl.num,n.ctl.waits⟩ (L7 (D2 t (up n.ctl.now.ver) l).1 t)).2++
       (C0 (E6 ⟨1,n.ctl.now,(D2 t (up n.ctl.now.ver) l).1,n.ctl.num,n.ctl.waits⟩ (L7 (D2 t (up n.ctl.now.ver) l).1 t)).1 t).2,0):=by
    unfold G9;rw [if_neg g1,if_neg g2,if_neg g3]
  rw [e]
  have g1':n.ctl.stage=0:=Decidable.not_not.1 g1
  rcases h.at_ with ⟨_,hw,_,hh,hv,hfew,rfl⟩|⟨_,_,_,hst⟩
  case inr=>exfalso;rcases hst with ⟨q,_⟩|⟨q,_⟩|⟨q,_⟩|⟨q,_⟩<;>omega
  have hver:=hh.ver
  have hup:up n.ctl.now.ver=p0.ver+1:=by rw [h.now];exact A7s (by omega) (by omega)
  rw [hup] at hp
  rw [hup,h.now] at g3
  rw [hup,h.now]
  generalize (D2 t (p0.ver+1) l).1=q at *
  have hqv:q.ver=p0.ver+1:=hp.ver
  have hpair:Y6 t p0 q:=⟨hh,⟨l,by rw [hqv];exact hp⟩,by omega,fun s hs=>by
    have g4:N5 p0 q t.n.toNat=false:=by simpa using g3
    unfold N5 at g4
    rw [List.any_eq_false] at g4
    have:=g4 s (List.mem_range.2 hs)
    unfold A36 at this
    simp only [decide_eq_true_eq] at this
    omega⟩
  have hpl:V4 t (n.plans++[q]):=h.plans.more (by omega) ⟨l,by rw [hqv];exact hp⟩
  have hi1:P9 (n.plans++[q]) q:=.inr ⟨by omega,by rw [show (q.ver - 1).toNat=n.plans.length by omega];simp⟩
  have hqn:q.ver=(n.plans++[q]).length:=by rw [List.length_append];simp;omega
  have h8:=hp.n8
  have hlo:=hf.ctl.lo
  have hhi:=hf.ctl.hi
  have hS:=A4c (B0u q) (c:=⟨1,p0,q,n.ctl.num,n.ctl.waits⟩) hw t.n.toNat hlo (by show n.ctl.num+_≤_;omega)
  have hSa:M5 (R4 q) t.n.toNat=L7 q t:=rfl
  rw [hSa] at hS
  have hrun:=(A2s (L7 q t) ⟨1,p0,q,n.ctl.num,n.ctl.waits⟩ hlo (by have:(L7 q t).length≤t.n.toNat:=Q2 (Z8 _) _;show n.ctl.num+_≤_;omega)).2
  have hal:(L7 q t).length≤t.n.toNat:=Q2 (Z8 _) _
  have hRest:Y3 t.n.toNat {n with plans:=n.plans++[q]} (U6 p0):=⟨h.fl.sw,h.fl.os,h.fl.bs,h.fl.calm hw⟩
  have hnx:(C0 (E6 ⟨1,p0,q,n.ctl.num,n.ctl.waits⟩ (L7 q t)).1 t).1.next=q:=by
    rw [(A4r (by rw [hS.stage];show (1:Int)≠4;decide)).2,hS.next]
  dsimp only
  rw [hnx]
  generalize E6 ⟨1,p0,q,n.ctl.num,n.ctl.waits⟩ (L7 q t)=sd at *
  obtain ⟨c1,m1⟩:=sd
  dsimp only at *
  by_cases hz:c1.waits=[]
  · obtain ⟨rfl,hem⟩:=hS.empty hz
    have:=A7a (n:={n with plans:=n.plans++[q]}) (c:=c1) (p0:=p0) (p:=q) ⟨hRest.sw,hRest.os,hRest.bs,fun s hs=>by
      have:=hRest.each s hs
      rwa [show A2v p0 q s=U6 p0 s by unfold A2v U6;rw [B2i (hem s hs),List.append_nil]]⟩ hS.now hS.next hz hS.stage hpair (by omega) (by omega) hqn (by omega) hpl h.is0.more hi1
    exact this
  · have e2:C0 c1 t=(c1,[]):=by unfold C0;rw [if_pos hz]
    rw [e2,List.append_nil]
    refine ⟨p0,q,U6 p0,A2v p0 q,_,_,⟨hRest.sent hS (fun x hx y hy hb k1 k2=>?_) (fun s hs hz=>?_),hS.now,hS.next,hpl,h.is0.more,hi1,.inr ⟨hpair,hqn,by omega,.inl ⟨hS.stage,hz,rfl,rfl⟩⟩⟩⟩
    · have hin:=hS.inn x hx
      have hy':y∈L7 q t:=A3p (s:=x.sw.toNat) hin.2 (by rw [Int.toNat_of_nonneg hin.1];exact hy)
      have hT:=B1h (now:=p0) hp (by simpa using g3) y hy'
      have hwr:=A1z hb hT k1 k2
      obtain ⟨e1,e2,e3,e4,e5⟩:=A3t hb
      unfold R4 at hy
      split at hy
      · simp at hy
      · obtain rfl:=List.mem_singleton.1 hy
        exact hpair.add hin.2 hwr e2 (by rw [e4,Int.toNat_of_nonneg hin.1])
    · unfold A2v U6;rw [B2i hz,List.append_nil]
theorem B15 (h:G7 t n) (hf:F4 t k n) (hk:k≤5000):G7 t (Z9 t n).1:=by
  unfold Z9
  split
  · exact h
  rename_i h0
  have h0:=Decidable.not_not.1 h0
  obtain ⟨p0,p,a,b,o,st,h⟩:=h
  by_cases h1:(B6 t).1≠0
  · unfold G5 at h0;rw [if_pos h1] at h0;exact absurd h0 h1
  have h8:=(J8 (Decidable.not_not.1 h1)).1.2.1
  by_cases h2:n.ctl.stage≠3
  · unfold G5 at h0;rw [if_neg h1,if_pos h2] at h0;exact absurd h0 (by decide)
  have e:G5 n.ctl t=((C0 (E6 ⟨4,n.ctl.now,n.ctl.next,n.ctl.num,n.ctl.waits⟩ (L9 n.ctl.now t)).1 t).1,
     (E6 ⟨4,n.ctl.now,n.ctl.next,n.ctl.num,n.ctl.waits⟩ (L9 n.ctl.now t)).2++(C0 (E6 ⟨4,n.ctl.now,n.ctl.next,n.ctl.num,n.ctl.waits⟩ (L9 n.ctl.now t)).1 t).2,0):=by
    unfold G5;rw [if_neg h1,if_neg h2]
  rw [e]
  have h2':n.ctl.stage=3:=Decidable.not_not.1 h2
  rcases h.at_ with ⟨q,_⟩|⟨hp,hv,hv0,hst⟩
  · omega
  obtain ⟨hw,rfl⟩:n.ctl.waits=[]∧b=Y4 p0 p:=by
    rcases hst with ⟨q,_⟩|⟨q,_⟩|⟨_,q⟩|⟨q,_⟩
    · omega
    · omega
    · exact q
    · omega
  have hlo:=hf.ctl.lo
  have hhi:=hf.ctl.hi
  rw [h.now,h.next]
  have hS:=A4c (A92 p0) (c:=⟨4,p0,p,n.ctl.num,n.ctl.waits⟩) hw t.n.toNat hlo (by show n.ctl.num+_≤_;omega)
  have hSa:M5 (O0 p0) t.n.toNat=L9 p0 t:=rfl
  rw [hSa] at hS
  have hRest:Y3 t.n.toNat n (Y4 p0 p):=h.fl.toRest hw
  generalize E6 ⟨4,p0,p,n.ctl.num,n.ctl.waits⟩ (L9 p0 t)=sd at *
  obtain ⟨c1,m1⟩:=sd
  dsimp only at *
  by_cases hz:c1.waits=[]
  · obtain ⟨rfl,hem⟩:=hS.empty hz
    exact A5k (n:=n) (c:=c1) (p0:=p0) (p:=p) ⟨hRest.sw,hRest.os,hRest.bs,fun s hs=>by
      have:=hRest.each s hs
      rwa [show U6 p s=Y4 p0 p s by unfold Y4 U6;rw [B0c (hem s hs),List.nil_append]]⟩ hS.next hz hS.stage hp hv h.plans h.is1
  · have e2:C0 c1 t=(c1,[]):=by unfold C0;rw [if_pos hz]
    rw [e2,List.append_nil]
    refine ⟨p0,p,Y4 p0 p,U6 p,_,_,⟨hRest.sent hS (fun x hx y hy hb k1 k2=>?_) (fun s hs hz=>?_),hS.now,hS.next,h.plans,h.is0,h.is1,.inr ⟨hp,hv,hv0,.inr (.inr (.inr ⟨hS.stage,hz,rfl,rfl⟩))⟩⟩⟩
    · have hin:=hS.inn x hx
      have hy':y∈L9 p0 t:=A3p (s:=x.sw.toNat) hin.2 (by rw [Int.toNat_of_nonneg hin.1];exact hy)
      have hT:=A9i hp.held y hy'
      have hwr:=A1z hb hT k1 k2
      obtain ⟨e1,e2,e3,e4,e5⟩:=A3t hb
      unfold O0 at hy
      split at hy
      · simp at hy
      · obtain rfl:=List.mem_singleton.1 hy
        exact hp.drop hin.2 hwr e2 e3
    · unfold Y4 U6;rw [B0c hz,List.nil_append]
theorem A49 (h:G7 t n) (s:Int):G7 t (L4 t n s).1∧((L4 t n s).2=0∨(L4 t n s).2=6):=by
 unfold L4
 split
 ·exact ⟨h,.inr rfl⟩
 rename_i x r hr
 obtain ⟨b0,b1,hs⟩:=A06 hr
 obtain ⟨p0,p,a,b,o,st,h⟩:=h
 have hsN:s.toNat<t.n.toNat:=by omega
 rcases h.fl.each _ hsN with g|g|g
 ·rw [g.2.1] at hs;simp at hs
 ·have hs2:=g.2.1
  rw [hs] at hs2
  obtain ⟨rfl,rfl⟩:x=o s.toNat∧r=[]:=by simpa using hs2
  have e1:n.switches.getD s.toNat O5=a s.toNat:=by rw [List.getD_eq_getElem?_getD,g.2.2.2.1];rfl
  rw [e1,g.2.2.2.2]
  refine ⟨?_,.inl rfl⟩
  exact ⟨p0,p,a,b,o,_,h.fl.order hsN g.1,h.now,h.next,h.plans,h.is0,h.is1,h.at_⟩
 ·rw [g.2.1] at hs;simp at hs
theorem A5n (h:G7 t n) (hf:F4 t k n) (hk:k≤5000) (ht:(B6 t).1=0) (s:Int):G7 t (M7 t n s).1∧((M7 t n s).2=0∨(M7 t n s).2=6):=by
 unfold M7
 split
 ·exact ⟨h,.inr rfl⟩
 rename_i x r hr
 obtain ⟨b0,b1,hs⟩:=A06 hr
 obtain ⟨p0,p,a,b,o,st,h⟩:=h
 have hsN:s.toNat<t.n.toNat:=by omega
 rcases h.fl.each _ hsN with g|g|g
 ·rw [g.2.2.1] at hs;simp at hs
 ·rw [g.2.2.1] at hs;simp at hs
 ·have hs2:=g.2.2.1
  rw [hs] at hs2
  obtain ⟨rfl,rfl⟩:x=(o s.toNat).num∧r=[]:=by simpa using hs2
  have hm:(o s.toNat).num∈n.ctl.waits:=(h.fl.wait _).2 ⟨_,hsN,by omega,rfl⟩
  obtain ⟨i,hi⟩:=B58 hm
  have e:H8 n.ctl t (o s.toNat).num=((C0 ⟨n.ctl.stage,n.ctl.now,n.ctl.next,n.ctl.num,n.ctl.waits.eraseIdx i⟩ t).1,(C0 ⟨n.ctl.stage,n.ctl.now,n.ctl.next,n.ctl.num,n.ctl.waits.eraseIdx i⟩ t).2,0):=by
   unfold H8;rw [if_neg (by rw [ht];decide),hi]
  rw [e]
  refine ⟨?_,.inl rfl⟩
  have hfl:=h.fl.back hsN g.1 hi (c:=⟨n.ctl.stage,n.ctl.now,n.ctl.next,n.ctl.num,n.ctl.waits.eraseIdx i⟩) rfl
  have hne:n.ctl.waits≠[]:=fun e=>by rw [e] at hm;simp at hm
  have hlo:=hf.ctl.lo
  have hhi:=hf.ctl.hi
  rcases h.at_ with ⟨_,q,_⟩|⟨hp,hv,hv0,hst⟩
  ·exact absurd q hne
  show G7 t {n with backs:=n.backs.set s.toNat [],ctl:=(C0 _ t).1,orders:=F9 n.orders (C0 _ t).2}
  by_cases hz:n.ctl.waits.eraseIdx i=[]
  ·have hR:=hfl.toRest hz
   rcases hst with ⟨q1,_,rfl,rfl⟩|⟨q1,_,rfl,rfl⟩|⟨q1,q2,_⟩|⟨q1,_,rfl,rfl⟩
   ·exact A7a hR h.now h.next hz q1 hp hlo (by show n.ctl.num≤_;omega) hv hv0 h.plans h.is0 h.is1
   ·exact B3f hR h.now h.next hz q1 hp hv hv0 h.plans h.is0 h.is1
   ·exact absurd q2 hne
   ·exact A5k hR h.next hz q1 hp hv h.plans h.is1
  ·have e2:C0 ⟨n.ctl.stage,n.ctl.now,n.ctl.next,n.ctl.num,n.ctl.waits.eraseIdx i⟩ t=(⟨n.ctl.stage,n.ctl.now,n.ctl.next,n.ctl.num,n.ctl.waits.eraseIdx i⟩,[]):=by unfold C0;rw [if_pos hz]
   rw [e2]
   refine ⟨p0,p,a,b,o,_,hfl,h.now,h.next,h.plans,h.is0,h.is1,.inr ⟨hp,hv,hv0,?_⟩⟩
   rcases hst with ⟨q1,_,q⟩|⟨q1,_,q⟩|⟨q1,q2,_⟩|⟨q1,_,q⟩
   ·exact .inl ⟨q1,hz,q⟩
   ·exact .inr (.inl ⟨q1,hz,q⟩)
   ·exact absurd q2 hne
   ·exact .inr (.inr (.inr ⟨q1,hz,q⟩))
theorem A9w (h:G7 t n) (j:Int):G7 t (J4 n j).1:=by
 unfold J4
 split
 ·exact h
 ·split
  ·exact h
  ·exact h.pk _
theorem B0k (h:G7 t n) (j:Int):G7 t (M6 n j).1:=by
 unfold M6
 split
 ·exact h
 ·split
  ·exact h
  ·exact h.pk _
theorem A5i (h:G7 t n) (hf:F4 t k n) (hk:k≤5000) (ht:(B6 t).1=0) (d:Do):G7 t (I8 t n d).1:=by
 unfold I8
 split
 ·exact B3a h hf hk _
 split
 ·exact (A49 h _).1
 split
 ·exact (A5n h hf hk ht _).1
 split
 ·exact A9w h _
 split
 ·exact B0k h _
 split
 ·exact B15 h hf hk
 ·exact h
end
theorem A63 {t:C5} (ht:(B6 t).1=0):∀ (l:List Do) (k:Nat) (n:Net),G7 t n→F4 t k n→k+l.length≤5000→G7 t (D5 t n l).1∧F4 t (k+l.length) (D5 t n l).1
 |[],k,n,h,hf,_=>⟨h,hf⟩
 |d::l,k,n,h,hf,hk=>by
  simp only [List.length_cons] at hk
  have hn:=(J8 ht).1.1
  have:=A63 ht l (k+1) _ (A5i h hf (by omega) ht d) (A3y hf (by omega) (by omega) d) (by omega)
  rw [D5]
  simp only [List.length_cons]
  rwa [show k+(l.length+1)=k+1+l.length by omega]
open Go.RowKit
theorem A4g {s:Int}:∀ {l:List E0} {i x:Int},x∈F8 s i l↔∃ (j:Nat) (f:E0),l[j]? =some f∧x=i+j∧f.src=s
  |[],i,x=>by simp [F8]
  |f::r,i,x=>by
    rw [F8,List.mem_append,A4g (l:=r)]
    constructor
    · rintro (h|⟨j,g,h1,h2,h3⟩)
      · split at h
        · rename_i hf
          exact ⟨0,f,rfl,by simpa using h,hf⟩
        · simp at h
      · exact ⟨j+1,g,by simpa using h1,by omega,h3⟩
    · rintro ⟨j,g,h1,h2,h3⟩
      match j,h1 with
      |0,h1=>
        obtain rfl:f=g:=by simpa using h1
        left;rw [if_pos h3];simp;omega
      |j+1,h1=>exact .inr ⟨j,g,by simpa using h1,by omega,h3⟩
theorem B2v {p:F5} {s:Nat} {x:J0}:x∈A0i p s↔x.ver=p.ver∧∃ (j:Nat) (f:E0),p.flows[j]? =some f∧x.flow=j∧f.src=s:=by
 unfold A0i
 rw [List.mem_map]
 constructor
 ·rintro ⟨f,hf,rfl⟩
  obtain ⟨j,g,h1,h2,h3⟩:=A4g.1 hf
  exact ⟨rfl,j,g,h1,by show f=_;omega,h3⟩
 ·rintro ⟨h0,j,f,h1,h2,h3⟩
  refine ⟨x.flow,A4g.2 ⟨j,f,h1,by omega,h3⟩,?_⟩
  cases x;simp at *;omega
section
variable {t : C5} {n : Net}
theorem L3.sw_at {N:Nat} {a b:Nat→D8} {o:Nat→G3} {st:Nat→Nat} (h:L3 N n a b o st) {s:Nat} {sw:D8} (hs:n.switches[s]? =some sw):s<N∧(sw=b s∨(sw=a s∧st s=1)):=by
 have hl:=(List.getElem?_eq_some_iff.1 hs).1
 rw [h.sw] at hl
 refine ⟨hl,?_⟩
 rcases h.each s hl with g|g|g
 ·rw [g.2.2.2] at hs;exact .inl (by simpa using hs.symm)
 ·rw [g.2.2.2.1] at hs;exact .inr ⟨by simpa using hs.symm,g.1⟩
 ·rw [g.2.2.2] at hs;exact .inl (by simpa using hs.symm)
structure A7o (t:C5) (n:Net) (s:Nat) (sw:D8):Prop where
 lt:s<t.n.toNat
 ok:A4t sw
 rules:∀ r∈sw.rules,r∈C6 n.ctl.now s∨r∈C6 n.ctl.next s
 stamps:∀ x∈sw.stamps,x∈A0i n.ctl.now s∨x∈A0i n.ctl.next s
 now:n.ctl.stage≠4→∀ r∈C6 n.ctl.now s,r∈sw.rules
 next:n.ctl.stage≠4→n.ctl.stage≠1→∀ r∈C6 n.ctl.next s,r∈sw.rules
 one:n.ctl.stage=1→∀ x∈sw.stamps,x∈A0i n.ctl.now s
theorem G7.sw (h:G7 t n) {s:Nat} {sw:D8} (hs:n.switches[s]? =some sw):A7o t n s sw:=by
 obtain ⟨p0,p,a,b,o,st,h⟩:=h
 obtain ⟨hl,hsw⟩:=h.fl.sw_at hs
 have hn:=h.now
 have hx:=h.next
 have mapp:∀ {r:C1} {l m:List C1},r∈l++m→r∈l∨r∈m:=fun h=>List.mem_append.1 h
 rcases h.at_ with ⟨q1,q2,q3,q4,q5,q6,q7⟩|⟨hp,_,_,hst⟩
 ·have h0:=h.fl.rest q2 s hl
  obtain rfl:sw=U6 p0 s:=by
   rcases hsw with e|⟨_,e⟩
   ·rw [e,q7]
   ·omega
  exact ⟨hl,q4.sw (q6 s hl),fun r hr=>.inl (by rw [hn];exact hr),fun x hx=>.inl (by rw [hn];exact hx),fun _ r hr=>by rw [hn] at hr;exact hr,fun _ _ r hr=>by rw [hx,q3] at hr;simp [E2,C6,D4] at hr,fun q=>by omega⟩
 ·have hOld:A7o t n s (U6 p0 s)∨n.ctl.stage≠1:=by
   by_cases h1:n.ctl.stage=1
   ·exact .inl ⟨hl,hp.old hl,fun r hr=>.inl (by rw [hn];exact hr),fun x hx=>.inl (by rw [hn];exact hx),fun _ r hr=>by rw [hn] at hr;exact hr,fun _ q=>absurd h1 q,fun _ x hx=>by rw [hn];exact hx⟩
   ·exact .inr h1
  have hMid:A7o t n s (A2v p0 p s):=⟨hl,hp.mid hl,fun r hr=>by rw [hn,hx];exact mapp hr,fun x hx=>.inl (by rw [hn];exact hx),fun _ r hr=>by rw [hn] at hr;exact List.mem_append_left _ hr,fun _ _ r hr=>by rw [hx] at hr;exact List.mem_append_right _ hr,fun _ x hx=>by rw [hn];exact hx⟩
  have hNew:n.ctl.stage≠1→A7o t n s (Y4 p0 p s):=fun q=>⟨hl,hp.new hl,fun r hr=>by rw [hn,hx];exact mapp hr,fun x hx'=>.inr (by rw [hx];exact hx'),fun _ r hr=>by rw [hn] at hr;exact List.mem_append_left _ hr,fun _ _ r hr=>by rw [hx] at hr;exact List.mem_append_right _ hr,fun q2=>absurd q2 q⟩
  have hLast:n.ctl.stage=4→A7o t n s (U6 p s):=fun q=>⟨hl,hp.next.sw (by have:=hp.few s hl;omega),fun r hr=>.inr (by rw [hx];exact hr),fun x hx'=>.inr (by rw [hx];exact hx'),fun q2=>absurd q q2,fun q2=>absurd q q2,fun q2=>by omega⟩
  rcases hst with ⟨q1,_,rfl,rfl⟩|⟨q1,_,rfl,rfl⟩|⟨q1,q2,rfl⟩|⟨q1,_,rfl,rfl⟩
  ·rcases hsw with rfl|⟨rfl,_⟩
   ·exact hMid
   ·rcases hOld with g|g
    ·exact g
    ·exact absurd q1 g
  ·rcases hsw with rfl|⟨rfl,_⟩
   ·exact hNew (by omega)
   ·exact hMid
  ·have h0:=h.fl.rest q2 s hl
   rcases hsw with rfl|⟨_,e⟩
   ·exact hNew (by omega)
   ·omega
  ·rcases hsw with rfl|⟨rfl,_⟩
   ·exact hLast q1
   ·exact hNew (by omega)
theorem G7.plans (h:G7 t n):V4 t n.plans∧P9 n.plans n.ctl.now∧P9 n.plans n.ctl.next:=by
 obtain ⟨p0,p,a,b,o,st,h⟩:=h
 exact ⟨h.plans,by rw [h.now];exact h.is0,by rw [h.next];exact h.is1⟩
theorem P9.get {l:List F5} {p:F5} (h:P9 l p) (h1:p≠E2):1≤p.ver∧l[(p.ver - 1).toNat]? =some p:=h.resolve_left h1
theorem B0o {s:D8} {f:Int} (h:J5 s f≠0):∃ x∈s.stamps,x.flow=f∧x.ver=J5 s f:=by
  unfold J5 at *
  cases hq:s.stamps.find? (fun x=>x.flow==f) with
  |none=>rw [hq] at h;exact absurd rfl h
  |some x=>
    have:=List.find?_some hq
    exact ⟨x,List.mem_of_find?_eq_some hq,by simpa using this,rfl⟩
theorem A4e (h:G7 t n) {s:Nat} {sw:D8} (hs:n.switches[s]? =some sw) {x:J0} (hx:x∈sw.stamps):
  ∃ q path,(q=n.ctl.now∨q=n.ctl.next)∧1≤x.ver∧q.ver=x.ver∧n.plans[(x.ver - 1).toNat]? =some q∧0≤x.flow∧q.paths[x.flow.toNat]? =some path∧path.head? =some (s:Int)∧∃ f,q.flows[x.flow.toNat]? =some f∧f.src=s:=by
 have hf:=h.sw hs
 obtain ⟨hpl,h0,h1⟩:=h.plans
 have key:∀ q,P9 n.plans q→x∈A0i q s→∃ path,1≤x.ver∧q.ver=x.ver∧n.plans[(x.ver - 1).toNat]? =some q∧0≤x.flow∧q.paths[x.flow.toNat]? =some path∧path.head? =some (s:Int)∧∃ f,q.flows[x.flow.toNat]? =some f∧f.src=s:=fun q hq hm=>by
  obtain ⟨e1,j,f,e2,e3,e4⟩:=B2v.1 hm
  have hne:q≠E2:=fun e=>by rw [e] at e2;simp [E2] at e2
  obtain ⟨v1,v2⟩:=hq.get hne
  obtain ⟨_,l,hok⟩:=hpl.each _ _ v2
  have hj:j<l.length:=by rw [←hok.flows];exact (List.getElem?_eq_some_iff.1 e2).1
  have hpj:q.paths[j]? =some (q.paths[j]'(by rw [hok.plen];exact hj)):=List.getElem?_eq_getElem _
  have hg:=(hok.good j f _ (by rw [←hok.flows];exact e2) hpj).2.2
  have ej:x.flow.toNat=j:=by omega
  exact ⟨_,by omega,e1.symm,by rw [e1];exact v2,by omega,by rw [ej];exact hpj,by rw [hg.src,e4],f,by rw [ej];exact e2,e4⟩
 rcases hf.stamps x hx with hm|hm
 ·obtain ⟨path,k⟩:=key _ h0 hm;exact ⟨_,path,.inl rfl,k⟩
 ·obtain ⟨path,k⟩:=key _ h1 hm;exact ⟨_,path,.inr rfl,k⟩
theorem A5g {α:Type} {l:List α} {i:Nat} {d:α} (h:l.getD i d≠d):l[i]? =some (l.getD i d):=by
  rw [List.getD_eq_getElem?_getD] at h ⊢
  cases hq:l[i]? with
  |none=>rw [hq] at h;exact absurd rfl h
  |some x=>rfl
theorem B11 (h:G7 t n) {s:Nat} {sw:D8} (hs:n.switches[s]? =some sw) {r:C1} (hr:r∈sw.rules):
  ∃ q,(q=n.ctl.now∨q=n.ctl.next)∧n.plans[(r.ver - 1).toNat]? =some q∧1≤r.ver∧r∈C6 q s:=by
 have hf:=h.sw hs
 obtain ⟨hpl,h0,h1⟩:=h.plans
 have key:∀ q,P9 n.plans q→r∈C6 q s→n.plans[(r.ver - 1).toNat]? =some q∧1≤r.ver:=fun q hq hm=>by
  obtain ⟨e1,i,path,k,e2,_⟩:=L8.1 hm
  have hne:q≠E2:=fun e=>by rw [e] at e2;simp [E2] at e2
  obtain ⟨v1,v2⟩:=hq.get hne
  exact ⟨by rw [e1];exact v2,by omega⟩
 rcases hf.rules r hr with hm|hm
 ·exact ⟨_,.inl rfl,(key _ h0 hm).1,(key _ h0 hm).2,hm⟩
 ·exact ⟨_,.inr rfl,(key _ h1 hm).1,(key _ h1 hm).2,hm⟩
theorem A8k {l path:List Int} (h:l<+:path) (hne:l≠[]):path[l.length - 1]? =some (l.getLastD 0):=by
 obtain ⟨r,rfl⟩:=h
 have hl:=List.length_pos_iff.2 hne
 rw [List.getElem?_append_left (by omega),List.getLastD_eq_getLast?,List.getLast?_eq_getElem?]
 rw [List.getElem?_eq_getElem (by omega)]
 rfl
theorem A7x {l path:List Int} (h:l<+:path) {x:Int} (hx:path[l.length]? =some x):l++[x]<+:path:=by
  obtain ⟨r,rfl⟩:=h
  rw [List.getElem?_append_right (Nat.le_refl _),Nat.sub_self] at hx
  cases r with
  |nil=>simp at hx
  |cons a r=>
    obtain rfl:a=x:=by simpa using hx
    exact ⟨r,by simp⟩
theorem B3u (h:G7 t n) {p:N2} {q:F5} {path:List Int} (hq:n.plans[(p.ver - 1).toNat]? =some q) (h1:1≤p.ver) (h0:0≤p.flow) (hpa:q.paths[p.flow.toNat]? =some path) (hpre:p.trace<+:path) (hne:p.trace≠[])
  (hg:(C0z (n.switches.getD (p.trace.getLastD 0).toNat O5).rules p.ver p.flow).2=true):path[p.trace.length]? =some (C0z (n.switches.getD (p.trace.getLastD 0).toNat O5).rules p.ver p.flow).1:=by
 obtain ⟨r,hr,e1,e2,e3⟩:=A4s hg
 have hs:=A5g (l:=n.switches) (i:=(p.trace.getLastD 0).toNat) (d:=O5) (fun e=>by rw [e] at hr;simp [O5] at hr)
 obtain ⟨q',hq',v1,v2,v3⟩:=B11 h hs hr
 rw [e1] at v1
 obtain rfl:q=q':=by rw [hq] at v1;simpa using v1
 obtain ⟨f1,i,path',k,f2,f3,f4,f5⟩:=L8.1 v3
 have hi:p.flow.toNat=i:=by omega
 rw [hi,f2] at hpa
 obtain rfl:path'=path:=by simpa using hpa
 have hl:=A8k hpre hne
 obtain ⟨hpl,_,_⟩:=h.plans
 obtain ⟨_,l,hok⟩:=hpl.each _ _ hq
 obtain ⟨f,hgd⟩:=hok.mem (List.mem_of_getElem? f2)
 have hlast:((p.trace.getLastD 0).toNat:Int)=p.trace.getLastD 0:=Int.toNat_of_nonneg (hgd.rng _ (List.mem_of_getElem? hl)).1
 rw [hlast] at f4
 have hk:=B34 hgd.nodup f4 hl
 have hpos:=List.length_pos_iff.2 hne
 rw [e3,←f5,hk]
 congr 1
 omega
end
open Go.RowKit
theorem A8i (t:C5):∀ (l:List Do) (n:Net) (i:Nat) (d:Do),l[i]? =some d→(D5 t n l).2[i]? =some (I8 t (D5 t n (l.take i)).1 d).2
 |[],n,i,d,h=>by simp at h
 |x::l,n,0,d,h=>by
  obtain rfl:x=d:=by simpa using h
  rfl
 |x::l,n,i+1,d,h=>by
  rw [D5]
  simp only [List.getElem?_cons_succ,List.take_succ_cons]
  rw [A8i t l _ i d (by simpa using h),D5]
theorem B6m {t:C5} {n:Net} {d:Do} (h:(I8 t n d).2≠0):(I8 t n d).1=n:=by
 unfold I8 at *
 split at h
 ·rename_i h1;rw [if_pos h1]
  unfold T8 at *
  split at h
  ·rename_i h2;rw [if_pos h2]
  ·exact absurd rfl h
 rename_i h1;rw [if_neg h1]
 split at h
 ·rename_i h2;rw [if_pos h2]
  unfold L4 at *
  split at h
  ·rfl
  ·split at h
   ·rename_i h3;rw [if_pos h3]
   ·exact absurd rfl h
 rename_i h2;rw [if_neg h2]
 split at h
 ·rename_i h3;rw [if_pos h3]
  unfold M7 at *
  split at h
  ·rfl
  ·split at h
   ·rename_i h4;rw [if_pos h4]
   ·exact absurd rfl h
 rename_i h3;rw [if_neg h3]
 split at h
 ·rename_i h4;rw [if_pos h4]
  unfold J4 at *
  split at h
  ·rename_i h5;rw [if_pos h5]
  ·rename_i h5;rw [if_neg h5]
   split at h
   ·rfl
   ·exact absurd rfl h
 rename_i h4;rw [if_neg h4]
 split at h
 ·rename_i h5;rw [if_pos h5]
  unfold M6 at *
  split at h
  ·rfl
  ·split at h
   ·rename_i h6;rw [if_pos h6]
   ·exact absurd rfl h
 rename_i h5;rw [if_neg h5]
 split at h
 ·rename_i h6;rw [if_pos h6]
  unfold Z9 at *
  split at h
  ·rename_i h7;rw [if_pos h7]
  ·exact absurd rfl h
 ·rename_i h6;rw [if_neg h6]
def B89:List Do→List Int→List Do
 |d::l,e::es=>if e=0 then d::B89 l es else B89 l es
 |_,_=>[]
theorem B8l (t:C5):∀ (l:List Do) (n:Net),(D5 t n (B89 l (D5 t n l).2)).1=(D5 t n l).1∧∀ e∈(D5 t n (B89 l (D5 t n l).2)).2,e=0
 |[],n=>⟨rfl,by simp [D5,B89]⟩
 |d::l,n=>by
  rw [D5]
  dsimp only
  rw [B89]
  by_cases h:(I8 t n d).2=0
  ·rw [if_pos h,D5]
   obtain ⟨h1,h2⟩:=B8l t l (I8 t n d).1
   refine ⟨h1,fun e he=>?_⟩
   rcases List.mem_cons.1 he with rfl|he
   ·exact h
   ·exact h2 e he
  ·rw [if_neg h]
   have:=B8l t l (I8 t n d).1
   rw [B6m h] at this ⊢
   exact this
def B8p (p q:N2):Prop:=p.trace<+:q.trace∧(p.done=true→q.trace=p.trace∧q.done=true)∧q.ver=p.ver∧q.flow=p.flow
theorem B8p.refl (p:N2):B8p p p:=⟨List.prefix_refl _,fun h=>⟨rfl,h⟩,rfl,rfl⟩
theorem B8p.trans {p q r:N2} (h:B8p p q) (k:B8p q r):B8p p r:=
 ⟨h.1.trans k.1,fun hd=>by
  obtain ⟨h1,h2⟩:=h.2.1 hd
  obtain ⟨k1,k2⟩:=k.2.1 h2
  exact ⟨k1.trans h1,k2⟩,k.2.2.1.trans h.2.2.1,k.2.2.2.trans h.2.2.2⟩
structure B8i (n m:Net):Prop where
 pk:∀ (i:Nat) (p:N2),n.packets[i]? =some p→∃ q,m.packets[i]? =some q∧B8p p q
 pl:n.plans.length≤m.plans.length
theorem B8i.refl (n:Net):B8i n n:=⟨fun i p h=>⟨p,h,B8p.refl p⟩,Nat.le_refl _⟩
theorem B8i.trans {n m o:Net} (h:B8i n m) (k:B8i m o):B8i n o:=⟨fun i p hp=>by
 obtain ⟨q,hq,h1⟩:=h.pk i p hp
 obtain ⟨r,hr,h2⟩:=k.pk i q hq
 exact ⟨r,hr,h1.trans h2⟩,Nat.le_trans h.pl k.pl⟩
theorem B7e (t:C5) (n:Net) (d:Do):B8i n (I8 t n d).1:=by
 have same:∀ m:Net,m.packets=n.packets→m.plans.length≥n.plans.length→B8i n m:=fun m h1 h2=>⟨fun i p h=>⟨p,by rw [h1];exact h,B8p.refl p⟩,h2⟩
 unfold I8
 split
 ·unfold T8
  split
  ·exact B8i.refl _
  ·exact same _ rfl (by simp)
 split
 ·unfold L4
  split
  ·exact B8i.refl _
  ·split
   ·exact B8i.refl _
   ·exact same _ rfl (Nat.le_refl _)
 split
 ·unfold M7
  split
  ·exact B8i.refl _
  ·split
   ·exact B8i.refl _
   ·exact same _ rfl (Nat.le_refl _)
 split
 ·unfold J4
  split
  ·exact B8i.refl _
  ·split
   ·exact B8i.refl _
   ·exact ⟨fun i p h=>⟨p,by show (_++_:List N2)[i]? =_;rw [List.getElem?_append_left (List.getElem?_eq_some_iff.1 h).1];exact h,B8p.refl p⟩,Nat.le_refl _⟩
 split
 ·unfold M6
  split
  ·exact B8i.refl _
  ·rename_i p hp
   split
   ·exact B8i.refl _
   ·rename_i hd
    obtain ⟨h0,hpk⟩:=A1i hp
    refine ⟨fun i x hx=>?_,Nat.le_refl _⟩
    by_cases e:d.n.toNat=i
    ·subst e
     rw [hpk] at hx
     obtain rfl:p=x:=by simpa using hx
     refine ⟨A48 n.switches p,by show (n.packets.set _ _)[_]? =_;rw [List.getElem?_set_self (List.getElem?_eq_some_iff.1 hpk).1],?_⟩
     unfold A48
     split
     ·exact ⟨List.prefix_append _ _,fun h=>absurd h hd,rfl,rfl⟩
     ·exact ⟨List.prefix_refl _,fun h=>absurd h hd,rfl,rfl⟩
    ·exact ⟨x,by show (n.packets.set _ _)[_]? =_;rw [List.getElem?_set_ne e];exact hx,B8p.refl x⟩
 split
 ·unfold Z9
  split
  ·exact B8i.refl _
  ·exact same _ rfl (Nat.le_refl _)
 ·exact B8i.refl _
theorem B8q (t:C5):∀ (l:List Do) (n:Net),B8i n (D5 t n l).1
 |[],n=>B8i.refl n
 |d::l,n=>(B7e t n d).trans (B8q t l _)
def B88 (i:Nat):Do:=⟨5,(i:Int),[]⟩
theorem B6j (t:C5) (n:Net) (i:Nat):I8 t n (B88 i)=M6 n (i:Int):=by
 unfold I8 B88
 rw [if_neg (show ¬(5:Int)=1 by decide),if_neg (show ¬(5:Int)=2 by decide),if_neg (show ¬(5:Int)=3 by decide),if_neg (show ¬(5:Int)=4 by decide),if_pos rfl]
theorem B81 {n:Net} {i:Nat} {p:N2} (hp:n.packets[i]? =some p) (hd:p.done=false):M6 n (i:Int)=({n with packets:=n.packets.set i (A48 n.switches p)},0):=by
 have e:S7 n (i:Int)=some p:=by unfold S7;rw [if_neg (by omega),Int.toNat_natCast];exact hp
 unfold M6
 rw [e]
 simp only [hd,Bool.false_eq_true,if_false,Int.toNat_natCast]
theorem B7m (n:Net) (j:Int):(M6 n j).1.plans=n.plans∧(M6 n j).1.ctl=n.ctl∧(M6 n j).1.switches=n.switches:=by
 unfold M6
 split
 ·exact ⟨rfl,rfl,rfl⟩
 ·split<;>exact ⟨rfl,rfl,rfl⟩
section
variable {t : C5} {n : Net}
theorem B83 {k:Nat} (h:G7 t n) (hf:F4 t k n) (hst:n.ctl.stage≠4) {p:N2} {q:F5} {path:List Int} (hq:n.plans[(p.ver - 1).toNat]? =some q) (h1:1≤p.ver) (h0:0≤p.flow) (hpa:q.paths[p.flow.toNat]? =some path) (hpre:p.trace<+:path) (hne:p.trace≠[])
  (hs:q=n.ctl.now∨(q=n.ctl.next∧n.ctl.stage≠1)):
  (∀ x,path[p.trace.length]? =some x→A48 n.switches p={p with trace:=p.trace++[x]})∧(path.length≤p.trace.length→A48 n.switches p={p with done:=true}):=by
 have hl:=A8k hpre hne
 obtain ⟨hver,l,hok⟩:=h.plans.1.each _ _ hq
 obtain ⟨f,hgd⟩:=hok.mem (List.mem_of_getElem? hpa)
 have hr:=hgd.rng _ (List.mem_of_getElem? hl)
 have hpos:=List.length_pos_iff.2 hne
 obtain ⟨s,hse⟩:∃ s:Nat,p.trace.getLastD 0=(s:Int):=⟨(p.trace.getLastD 0).toNat,by omega⟩
 have hsl:s<n.switches.length:=by rw [hf.sw];omega
 obtain ⟨sw,hsw⟩:∃ x,n.switches[s]? =some x:=⟨_,List.getElem?_eq_getElem hsl⟩
 have hD:n.switches.getD (p.trace.getLastD 0).toNat O5=sw:=by rw [hse,Int.toNat_natCast,List.getD_eq_getElem?_getD,hsw];rfl
 have hfit:=h.sw hsw
 refine ⟨fun x hx=>?_,fun hle=>?_⟩
 ·have hm:(⟨q.ver,p.flow,x⟩:C1)∈C6 q s:=L8.2 ⟨rfl,p.flow.toNat,path,p.trace.length - 1,hpa,by show p.flow=_;omega,by rw [hl,hse],by rw [show p.trace.length - 1+1=p.trace.length by omega];exact hx⟩
  have hin:(⟨q.ver,p.flow,x⟩:C1)∈sw.rules:=by
   rcases hs with rfl|⟨rfl,h3⟩
   ·exact hfit.now hst _ hm
   ·exact hfit.next hst h3 _ hm
  have hv:q.ver=p.ver:=by omega
  have hnx:=B7y hfit.ok.tab.up hin
  dsimp only at hnx
  rw [hv] at hnx
  unfold A48
  rw [hD,hnx]
  rfl
 ·unfold A48
  split
  ·rename_i hg
   have:=B3u h hq h1 h0 hpa hpre hne hg
   rw [List.getElem?_eq_none hle] at this
   cases this
  ·rfl
end
open Go.RowKit
def B8a (s:Nat):Do:=⟨2,(s:Int),[]⟩
def B86 (s:Nat):Do:=⟨3,(s:Int),[]⟩
def B8z (s:Nat) (os:List G3) (bs:List Int):List Do:=os.flatMap (fun _=>[B8a s,B86 s])++bs.map (fun _=>B86 s)
def B87 (n:Net):List Do:=(List.range n.switches.length).flatMap fun s=>B8z s (n.orders.getD s []) (n.backs.getD s [])
def B8f (t:C5):Nat→List Do→List Do
 |0,l=>l
 |k+1,l=>if B87 (D9 t l).1=[] then l else B8f t k (l++B87 (D9 t l).1)
def B85 (t:C5) (l:List Do):List Do:=B8f t 10 l
theorem B71 (t:C5) (n:Net) (s:Nat):I8 t n (B8a s)=L4 t n (s:Int):=by
 unfold I8 B8a
 rw [if_neg (show ¬(2:Int)=1 by decide),if_pos rfl]
theorem B7f (t:C5) (n:Net) (s:Nat):I8 t n (B86 s)=M7 t n (s:Int):=by
 unfold I8 B86
 rw [if_neg (show ¬(3:Int)=1 by decide),if_neg (show ¬(3:Int)=2 by decide),if_pos rfl]
def B8r (n:Net):Nat:=if n.ctl.stage=1 then 2 else if n.ctl.stage=2 then 1 else if n.ctl.stage=4 then 1 else 0
def B8o (st:Int):Int:=if st=0∨st=4 then 0 else 3
section
variable {t : C5} {n : Net} {p0 p : F5} {a b : Nat → D8} {o : Nat → G3} {st : Nat → Nat} {s : Nat}
def B8d (s v:Nat):List Do:=if v=0 then [] else if v=1 then [B8a s,B86 s] else [B86 s]
theorem L3.round {N:Nat} (h:L3 N n a b o st) (hs:s<N):B8z s (n.orders.getD s []) (n.backs.getD s [])=B8d s (st s):=by
 rw [List.getD_eq_getElem?_getD,List.getD_eq_getElem?_getD]
 unfold B8z B8d
 rcases h.each s hs with g|g|g
 ·rw [g.2.1,g.2.2.1,g.1];rfl
 ·rw [g.2.1,g.2.2.1,g.1];rfl
 ·rw [g.2.1,g.2.2.1,g.1];rfl
theorem B8g {α β:Type} {f g:α→List β}:∀ {l:List α},(∀ x∈l,f x=g x)→l.flatMap f=l.flatMap g
 |[],_=>rfl
 |x::l,h=>by
  rw [List.flatMap_cons,List.flatMap_cons,h x (by simp),B8g (fun y hy=>h y (List.mem_cons_of_mem _ hy))]
theorem B4b.round (h:B4b t n p0 p a b o st):B87 n=(List.range t.n.toNat).flatMap fun s=>B8d s (st s):=by
 unfold B87
 rw [h.fl.sw]
 exact B8g fun s hs=>h.fl.round (List.mem_range.1 hs)
theorem B7k (h:B4b t n p0 p a b o st) (hs:s<t.n.toNat) (h1:st s=1):
  B4b t (I8 t n (B8a s)).1 p0 p a b o (A1e st s 2)∧(I8 t n (B8a s)).1.ctl=n.ctl∧(I8 t n (B8a s)).1.plans=n.plans∧(I8 t n (B8a s)).1.packets=n.packets:=by
 rw [B71]
 rcases h.fl.each s hs with g|g|g
 ·omega
 ·have hrow:rowAt t n.orders (s:Int)=[o s]:=by
   unfold rowAt
   rw [if_neg (by omega),Int.toNat_natCast,List.getD_eq_getElem?_getD,g.2.1];rfl
  have e1:n.switches.getD (s:Int).toNat O5=a s:=by rw [Int.toNat_natCast,List.getD_eq_getElem?_getD,g.2.2.2.1];rfl
  unfold L4
  rw [hrow]
  dsimp only
  rw [e1,g.2.2.2.2]
  refine ⟨⟨?_,h.now,h.next,h.plans,h.is0,h.is1,h.at_⟩,rfl,rfl,rfl⟩
  exact h.fl.order hs h1
 ·omega
theorem B69 {c:Ctl} (hw:c.waits=[]):((C0 c t).1.stage=2∨(C0 c t).1.stage=3)∧c.stage=1∨(c.stage=2∧(C0 c t).1.stage=3)∨(c.stage=4∧(C0 c t).1.stage=0)∨(c.stage≠1∧c.stage≠2∧c.stage≠4∧(C0 c t).1=c):=by
 unfold C0
 rw [if_neg (fun h=>h hw)]
 split
 ·left
  refine ⟨?_,by assumption⟩
  split
  ·exact .inr rfl
  ·exact .inl (P7 _ _).1
 split
 ·exact .inr (.inl ⟨by assumption,rfl⟩)
 split
 ·exact .inr (.inr (.inl ⟨by assumption,rfl⟩))
 ·exact .inr (.inr (.inr ⟨by assumption,by assumption,by assumption,rfl⟩))
theorem B7n {k : Nat} (h : B4b t n p0 p a b o st) (hf : F4 t k n) (hk : k ≤ 5000) (ht : (B6 t).1 = 0) (hs : s < t.n.toNat) (h2 : st s = 2) :
    (I8 t n (B86 s)).1.plans = n.plans ∧ (I8 t n (B86 s)).1.packets = n.packets ∧
    ((B4b t (I8 t n (B86 s)).1 p0 p a b o (A1e st s 0) ∧ (I8 t n (B86 s)).1.ctl.stage = n.ctl.stage ∧ (I8 t n (B86 s)).1.ctl.waits ≠ []) ∨
     ((∀ r, r < t.n.toNat → r ≠ s → st r = 0) ∧ B8r (I8 t n (B86 s)).1 < B8r n ∧ B8o (I8 t n (B86 s)).1.ctl.stage = B8o n.ctl.stage)) := by
  rw [B7f]
  rcases h.fl.each s hs with g | g | g
  · omega
  · omega
  · have hrow : rowAt t n.backs (s : Int) = [(o s).num] := by
      unfold rowAt
      rw [if_neg (by omega), Int.toNat_natCast, List.getD_eq_getElem?_getD, g.2.2.1]; rfl
    have hm : (o s).num ∈ n.ctl.waits := (h.fl.wait _).2 ⟨_, hs, by omega, rfl⟩
    obtain ⟨i, hi⟩ := B58 hm
    have e : H8 n.ctl t (o s).num = ((C0 ⟨n.ctl.stage, n.ctl.now, n.ctl.next, n.ctl.num, n.ctl.waits.eraseIdx i⟩ t).1, (C0 ⟨n.ctl.stage, n.ctl.now, n.ctl.next, n.ctl.num, n.ctl.waits.eraseIdx i⟩ t).2, 0) := by
      unfold H8; rw [if_neg (by rw [ht]; decide), hi]
    have hne : n.ctl.waits ≠ [] := fun e => by rw [e] at hm; simp at hm
    have hE : M7 t n (s : Int) = ({ n with backs := n.backs.set s [], ctl := (C0 ⟨n.ctl.stage, n.ctl.now, n.ctl.next, n.ctl.num, n.ctl.waits.eraseIdx i⟩ t).1, orders := F9 n.orders (C0 ⟨n.ctl.stage, n.ctl.now, n.ctl.next, n.ctl.num, n.ctl.waits.eraseIdx i⟩ t).2 }, 0) := by
      unfold M7
      rw [hrow]
      dsimp only
      rw [e, if_neg (fun h => h rfl), Int.toNat_natCast]
    rw [hE]
    refine ⟨rfl, rfl, ?_⟩
    have hfl := h.fl.back hs h2 hi (c := ⟨n.ctl.stage, n.ctl.now, n.ctl.next, n.ctl.num, n.ctl.waits.eraseIdx i⟩) rfl
    rcases h.at_ with ⟨_, q, _⟩ | ⟨hp, hv, hv0, hst⟩
    · exact absurd q hne
    by_cases hz : n.ctl.waits.eraseIdx i = []
    · right
      have hR := hfl.rest hz
      refine ⟨fun r hr hrs => ?_, ?_⟩
      · have := hR r hr
        simpa [A1e, hrs] using this
      · have hq := B69 (t := t) (c := ⟨n.ctl.stage, n.ctl.now, n.ctl.next, n.ctl.num, n.ctl.waits.eraseIdx i⟩) hz
        unfold B8r B8o
        dsimp only at hq ⊢
        generalize (C0 ⟨n.ctl.stage, n.ctl.now, n.ctl.next, n.ctl.num, n.ctl.waits.eraseIdx i⟩ t).1.stage = z at *
        have h4 : n.ctl.stage = 1 ∨ n.ctl.stage = 2 ∨ n.ctl.stage = 4 := by
          rcases hst with ⟨q1, _⟩ | ⟨q1, _⟩ | ⟨_, q2, _⟩ | ⟨q1, _⟩
          · exact .inl q1
          · exact .inr (.inl q1)
          · exact absurd q2 hne
          · exact .inr (.inr q1)
        rcases hq with ⟨h5 | h5, h6⟩ | ⟨h6, h5⟩ | ⟨h6, h5⟩ | ⟨q1, q2, q3, _⟩
        · subst h5; rw [h6]; decide
        · subst h5; rw [h6]; decide
        · subst h5; rw [h6]; decide
        · subst h5; rw [h6]; decide
        · omega
    · left
      have e2 : C0 ⟨n.ctl.stage, n.ctl.now, n.ctl.next, n.ctl.num, n.ctl.waits.eraseIdx i⟩ t = (⟨n.ctl.stage, n.ctl.now, n.ctl.next, n.ctl.num, n.ctl.waits.eraseIdx i⟩, []) := by unfold C0; rw [if_pos hz]
      rw [e2]
      refine ⟨⟨hfl, h.now, h.next, h.plans, h.is0, h.is1, .inr ⟨hp, hv, hv0, ?_⟩⟩, rfl, hz⟩
      rcases hst with ⟨q1, _, q⟩ | ⟨q1, _, q⟩ | ⟨q1, q2, _⟩ | ⟨q1, _, q⟩
      · exact .inl ⟨q1, hz, q⟩
      · exact .inr (.inl ⟨q1, hz, q⟩)
      · exact absurd q2 hne
      · exact .inr (.inr (.inr ⟨q1, hz, q⟩))
end
structure B6q (t:C5) (n m:Net):Prop where
 less:B8r m<B8r n
 same:B8o m.ctl.stage=B8o n.ctl.stage
 plans:m.plans=n.plans
 packets:m.packets=n.packets
theorem B67 {st:Nat→Nat} {l:List Nat} (h:∀ r∈l,st r=0):(l.flatMap fun r=>B8d r (st r))=[]:=by
 rw [List.flatMap_eq_nil_iff]
 intro r hr
 rw [h r hr];rfl
theorem B7q {n m:Net} (h:m.ctl=n.ctl):B8r m=B8r n:=by unfold B8r;rw [h]
theorem B8x {t:C5} (ht:(B6 t).1=0) {p0 p:F5} {a b:Nat→D8} {o:Nat→G3}:∀ (m s:Nat) (n:Net) (st:Nat→Nat) (k:Nat),B4b t n p0 p a b o st→F4 t k n→s+m=t.n.toNat→k+2 * m≤5000→(∀ r,r<s→st r=0)→(∃ r,r<t.n.toNat∧st r≠0)→
    B6q t n (D5 t n ((List.range' s m).flatMap fun s=>B8d s (st s))).1
  |0,s,n,st,k,h,hf,hm,hk,hz,⟨r,hr,hne⟩=>absurd (hz r (by omega)) hne
  |m+1,s,n,st,k,h,hf,hm,hk,hz,hex=>by
    have hn:=(J8 ht).1.1
    have hs:s<t.n.toNat:=by omega
    rw [List.range'_succ,List.flatMap_cons]
    have main:∀ (n:Net) (st:Nat→Nat) (k:Nat),B4b t n p0 p a b o st→F4 t k n→k+1+2 * m≤5000→(∀ r,r<s→st r=0)→st s=2→B6q t n (D5 t n (B86 s::(List.range' (s+1) m).flatMap fun s=>B8d s (st s))).1:=by
      intro n st k h hf hk hz h2
      obtain ⟨e1,e1',hb⟩:=B7n h hf (by omega) ht hs h2
      have hF:=A3y hf (by omega) (by omega) (B86 s)
      rw [D5]
      dsimp only
      rcases hb with ⟨hI,hst,hw⟩|⟨hr0,hrk,hen⟩
      · have hc:((List.range' (s+1) m).flatMap fun s=>B8d s (st s))=((List.range' (s+1) m).flatMap fun r=>B8d r (A1e st s 0 r)):=B8g fun r hr=>by
          have:=(List.mem_range'_1.1 hr).1
          unfold A1e
          rw [if_neg (by omega)]
        rw [hc]
        have ih:=B8x ht m (s+1) _ (A1e st s 0) (k+1) hI hF (by omega) (by omega) (fun r hr=>by
          unfold A1e
          split
          · rfl
          · exact hz r (by omega)) (by
          cases hwl:(I8 t n (B86 s)).1.ctl.waits with
          |nil=>exact absurd hwl hw
          |cons x l=>
            obtain ⟨r,hr,hr2,_⟩:=(hI.fl.wait x).1 (by rw [hwl];simp)
            exact ⟨r,hr,hr2⟩)
        have er:B8r (I8 t n (B86 s)).1=B8r n:=by unfold B8r;rw [hst]
        exact ⟨er▸ih.less,by rw [ih.same,hst],ih.plans.trans e1,ih.packets.trans e1'⟩
      · rw [B67 (fun r hr=>by
          have:=List.mem_range'_1.1 hr
          exact hr0 r (by omega) (by omega))]
        exact ⟨hrk,hen,e1,e1'⟩
    rcases h.fl.each s hs with g|g|g
    · rw [g.1]
      show B6q t n (D5 t n ([]++_)).1
      rw [List.nil_append]
      exact B8x ht m (s+1) n st k h hf (by omega) (by omega) (fun r hr=>by
        by_cases e:r=s
        · rw [e];exact g.1
        · exact hz r (by omega)) hex
    · rw [g.1]
      show B6q t n (D5 t n (B8a s::B86 s::((List.range' (s+1) m).flatMap fun s=>B8d s (st s)))).1
      rw [D5]
      dsimp only
      obtain ⟨hI,e0,e1,e2⟩:=B7k h hs g.1
      have hF:=A3y hf (by omega) (by omega) (B8a s)
      have hc:((List.range' (s+1) m).flatMap fun s=>B8d s (st s))=((List.range' (s+1) m).flatMap fun r=>B8d r (A1e st s 2 r)):=B8g fun r hr=>by
        have:=(List.mem_range'_1.1 hr).1
        unfold A1e
        rw [if_neg (by omega)]
      rw [hc]
      have ih:=main _ (A1e st s 2) (k+1) hI hF (by omega) (fun r hr=>by unfold A1e;rw [if_neg (by omega)];exact hz r hr) (by simp [A1e])
      exact ⟨B7q e0▸ih.less,by rw [ih.same,e0],ih.plans.trans e1,ih.packets.trans e2⟩
    · rw [g.1]
      exact main n st k h hf (by omega) hz g.1
section
variable {t : C5} {n : Net} {k : Nat}
theorem B68 (ht:(B6 t).1=0) (h:G7 t n) (hf:F4 t k n) (hk:k≤4000) (hne:B87 n≠[]):B6q t n (D5 t n (B87 n)).1:=by
 obtain ⟨p0,p,a,b,o,st,h⟩:=h
 have h8:=(J8 ht).1.2.1
 rw [h.round] at hne ⊢
 rw [List.range_eq_range'] at hne ⊢
 refine B8x ht t.n.toNat 0 n st k h hf (by omega) (by omega) (fun r hr=>by omega) ?_
 apply Classical.byContradiction
 intro hno
 refine hne (B67 fun r hr=>?_)
 have:=List.mem_range'_1.1 hr
 apply Classical.byContradiction
 intro h0
 exact hno ⟨r,by omega,h0⟩
theorem B6z (h:G7 t n) (he:B87 n=[]):n.ctl.waits=[]:=by
 obtain ⟨p0,p,a,b,o,st,h⟩:=h
 rw [h.round,List.flatMap_eq_nil_iff] at he
 cases hw:n.ctl.waits with
 |nil=>rfl
 |cons x l=>
  obtain ⟨r,hr,h2,_⟩:=(h.fl.wait x).1 (by rw [hw];simp)
  have:=he r (List.mem_range.2 hr)
  unfold B8d at this
  rw [if_neg h2] at this
  split at this<;>simp at this
theorem B73 (h:G7 t n) (hw:n.ctl.waits=[]):n.ctl.stage=B8o n.ctl.stage:=by
 obtain ⟨p0,p,a,b,o,st,h⟩:=h
 unfold B8o
 rcases h.at_ with ⟨q,_⟩|⟨_,_,_,hst⟩
 ·rw [q];decide
 ·rcases hst with ⟨_,q,_⟩|⟨_,q,_⟩|⟨q,_⟩|⟨_,q,_⟩
  ·exact absurd hw q
  ·exact absurd hw q
  ·rw [q];decide
  ·exact absurd hw q
theorem B6x (n:Net):B8r n≤2:=by
 unfold B8r
 split
 ·exact Nat.le_refl _
 split
 ·decide
 split<;>decide
end
theorem W2 {t:C5} {l:List Do} (ht:(B6 t).1=0) (hl:l.length≤200):D9 t l=((D5 t (D3 t) l).1,(D5 t (D3 t) l).2,(0,0)):=by
 unfold D9
 rw [if_neg (by rw [ht];decide),if_neg (by omega)]
theorem X0 {t:C5} {l:List Do} (h:(D9 t l).2.2.1=0):(B6 t).1=0∧l.length≤200:=by
 unfold D9 at h
 split at h
 ·rename_i h1;exact absurd h h1
 ·rename_i h1
  split at h
  ·exact absurd h (by decide)
  ·exact ⟨Decidable.not_not.1 h1,by omega⟩
theorem A3r {t:C5} {l:List Do} (ht:(B6 t).1=0) (hl:l.length≤200):G7 t (D5 t (D3 t) l).1∧F4 t l.length (D5 t (D3 t) l).1:=by
 have:=A63 ht l 0 (D3 t) (A54 t) F4.start (by omega)
 rwa [Nat.zero_add] at this
theorem B8h (t:C5):∀ (k:Nat) (l:List Do),∃ r,B8f t k l=l++r
 |0,l=>⟨[],by simp [B8f]⟩
 |k+1,l=>by
  unfold B8f
  split
  ·exact ⟨[],by simp⟩
  ·obtain ⟨r,hr⟩:=B8h t k (l++B87 (D9 t l).1)
   exact ⟨B87 (D9 t l).1++r,by rw [hr,List.append_assoc]⟩
structure B78 (t:C5) (n m:Net):Prop where
 calm:m.ctl.waits=[]
 stage:m.ctl.stage=B8o n.ctl.stage
 plans:m.plans=n.plans
 packets:m.packets=n.packets
theorem B6a {t:C5} (ht:(B6 t).1=0):∀ (k:Nat) (l:List Do),(B8f t k l).length≤200→B8r (D5 t (D3 t) l).1<k→B78 t (D5 t (D3 t) l).1 (D5 t (D3 t) (B8f t k l)).1
 |0,l,_,h=>by omega
 |k+1,l,hl,hr=>by
  obtain ⟨r,hp⟩:=B8h t (k+1) l
  have hll:l.length≤200:=by rw [hp] at hl;simp at hl;omega
  obtain ⟨hok,hfit⟩:=A3r ht hll
  unfold B8f at hl ⊢
  rw [W2 ht hll] at hl ⊢
  dsimp only at hl ⊢
  split
  ·rename_i he
   have hw:=B6z hok he
   exact ⟨hw,B73 hok hw,rfl,rfl⟩
  ·rename_i he
   rw [if_neg he] at hl
   have hR:=B68 ht hok hfit (by omega) he
   have e:(D5 t (D3 t) (l++B87 (D5 t (D3 t) l).1)).1=(D5 t (D5 t (D3 t) l).1 (B87 (D5 t (D3 t) l).1)).1:=by rw [A3g]
   have ih:=B6a ht k (l++B87 (D5 t (D3 t) l).1) hl (by rw [e];have:=hR.less;omega)
   rw [e] at ih
   exact ⟨ih.calm,ih.stage.trans hR.same,ih.plans.trans hR.plans,ih.packets.trans hR.packets⟩
theorem B6p {t:C5} (ht:(B6 t).1=0) {l:List Do} (hl:(B85 t l).length≤200):B78 t (D5 t (D3 t) l).1 (D5 t (D3 t) (B85 t l)).1:=
 B6a ht 10 l hl (by have:=B6x (D5 t (D3 t) l).1;omega)
theorem B82 {p:F5} {s i:Nat} {f:E0} (hf:p.flows[i]? =some f):J5 (U6 p s) (i:Int)=if f.src=(s:Int) then p.ver else 0:=by
  split
  · rename_i hs
    have hm:(⟨(i:Int),p.ver⟩:J0)∈A0i p s:=B2v.2 ⟨rfl,i,f,hf,rfl,hs⟩
    unfold J5
    show (match (A0i p s).find? (fun x=>x.flow==(i:Int)) with|some x=>x.ver|none=>0)=_
    cases hq:(A0i p s).find? (fun x=>x.flow==(i:Int)) with
    |none=>
      have:=List.find?_eq_none.1 hq _ hm
      simp at this
    |some x=>exact (B2v.1 (List.mem_of_find?_eq_some hq)).1
  · rename_i hs
    apply Classical.byContradiction
    intro hne
    obtain ⟨x,hx,e1,_⟩:=B0o hne
    obtain ⟨_,j,g,h1,h2,h3⟩:=B2v.1 hx
    have:j=i:=by omega
    subst this
    rw [hf] at h1
    obtain rfl:f=g:=by simpa using h1
    exact hs h3
theorem B7x {t:C5} {m:Net} (h:G7 t m) (h0:m.ctl.stage=0):m.ctl.waits=[]∧m.ctl.next=E2∧m.ctl.now.ver=m.plans.length∧(∀ s:Nat,s<t.n.toNat→m.switches[s]? =some (U6 m.ctl.now s))∧(∀ s:Nat,s<t.n.toNat→m.orders[s]? =some []∧m.backs[s]? =some []):=by
 obtain ⟨p0,p,a,b,o,st,h⟩:=h
 rcases h.at_ with ⟨_,q2,q3,q4,q5,q6,q7⟩|⟨_,_,_,hst⟩
 ·subst q7
  refine ⟨q2,by rw [h.next];exact q3,by rw [h.now];exact q5,fun s hs=>?_,fun s hs=>?_⟩
  ·rw [h.now]
   exact (h.fl.calm q2 s hs).2.2
  ·exact ⟨(h.fl.calm q2 s hs).1,(h.fl.calm q2 s hs).2.1⟩
 ·exfalso
  rcases hst with ⟨q,_⟩|⟨q,_⟩|⟨q,_⟩|⟨q,_⟩<;>omega
def B8c (j:Int):Do:=⟨4,j,[]⟩
theorem B6b (t:C5) (n:Net) (j:Int):I8 t n (B8c j)=J4 n j:=by
 unfold I8 B8c
 rw [if_neg (show ¬(4:Int)=1 by decide),if_neg (show ¬(4:Int)=2 by decide),if_neg (show ¬(4:Int)=3 by decide),if_pos rfl]
section
variable {t : C5} {n : Net} {k : Nat}
theorem B70 (h:G7 t n) (hf:F4 t k n) (hn:0≤t.n) (h4:n.ctl.stage≠4) {j:Int} (h0:(J4 n j).2=0):
    ∃ p,(J4 n j).1={n with packets:=n.packets++[p]}∧p.flow=j∧((p.ver=0∧p.done=true)∨
      (p.done=false∧p.trace.length=1∧∃ q path,n.plans[(p.ver - 1).toNat]? =some q∧1≤p.ver∧0≤j∧q.paths[j.toNat]? =some path∧p.trace<+:path∧(q=n.ctl.now∨(q=n.ctl.next∧n.ctl.stage≠1)))):=by
  unfold J4 at *
  split at h0
  · exact absurd (show (5:Int)=0 from h0) (by decide)
  rename_i h40
  rw [if_neg h40]
  split at h0
  · exact absurd (show (6:Int)=0 from h0) (by decide)
  rename_i f hfl
  refine ⟨_,rfl,rfl,?_⟩
  have hat:=hf.at_in hn hfl
  by_cases hv:J5 (n.switches.getD (P0 n j f).toNat O5) j=0
  · exact .inl ⟨hv,decide_eq_true hv⟩
  · right
    obtain ⟨x,hx,e1,e2⟩:=B0o hv
    have hs:=A5g (l:=n.switches) (i:=(P0 n j f).toNat) (d:=O5) (fun e=>by rw [e] at hx;simp [O5] at hx)
    obtain ⟨q,path,hq,v1,v2,v3,v4,v5,v6,f',v7,_⟩:=A4e h hs hx
    refine ⟨decide_eq_false hv,rfl,q,path,by show n.plans[(J5 _ _ - 1).toNat]? =_;rw [←e2];exact v3,by show 1≤J5 _ _;rw [←e2];exact v1,by rw [←e1];exact v4,by rw [←e1];exact v5,?_,?_⟩
    · cases path with
      |nil=>simp at v6
      |cons a r=>
        obtain rfl:a=((P0 n j f).toNat:Int):=by simpa using v6
        show [P0 n j f]<+:_
        rw [Int.toNat_of_nonneg hat.1]
        exact ⟨r,rfl⟩
    · by_cases h1:n.ctl.stage=1
      · left
        have hm:=(h.sw hs).one h1 x hx
        obtain ⟨w1,w,g,w2,_⟩:=B2v.1 hm
        have hne:n.ctl.now≠E2:=fun e=>by rw [e] at w2;simp [E2] at w2
        have:=(h.plans.2.1.get hne).2
        rw [←w1,v3] at this
        simpa using this
      · rcases hq with hq|hq
        · exact .inl hq
        · exact .inr ⟨hq,h1⟩
theorem B72 (h:G7 t n) {i:Nat} {q:F5} (hq:n.plans[i]? =some q) {path:List Int} (hp:path∈q.paths):path.length≤8:=by
 obtain ⟨_,l,hok⟩:=h.plans.1.each _ _ hq
 exact (hok.plen8 hp).2
end
open Go.RowKit
def B9y (l:List E0):Do:=⟨1,0,l⟩
theorem C0u (t:C5) (n:Net) (l:List E0):I8 t n (B9y l)=T8 t n l:=by
 unfold I8 B9y
 rw [if_pos rfl]
def C0j (d:Do):Prop:=d.kind=2∨d.kind=3
theorem C0h (n:Net):∀ d∈B87 n,C0j d:=by
 intro d hd
 obtain ⟨s,_,hd⟩:=List.mem_flatMap.1 hd
 unfold B8z at hd
 rcases List.mem_append.1 hd with hd|hd
 ·obtain ⟨_,_,hd⟩:=List.mem_flatMap.1 hd
  rcases List.mem_cons.1 hd with rfl|hd
  ·exact .inl rfl
  ·obtain rfl:=List.mem_singleton.1 hd;exact .inr rfl
 ·obtain ⟨_,_,rfl⟩:=List.mem_map.1 hd;exact .inr rfl
theorem C04 (t:C5):∀ (k:Nat) (l:List Do),∃ r,B8f t k l=l++r∧∀ d∈r,C0j d
 |0,l=>⟨[],by simp [B8f],by simp⟩
 |k+1,l=>by
  unfold B8f
  split
  ·exact ⟨[],by simp,by simp⟩
  ·obtain ⟨r,hr,hc⟩:=C04 t k (l++B87 (D9 t l).1)
   exact ⟨B87 (D9 t l).1++r,by rw [hr,List.append_assoc],fun d hd=>(List.mem_append.1 hd).elim (C0h _ d) (hc d)⟩
theorem C0c (t:C5) (l:List Do):∃ r,B85 t l=l++r∧∀ d∈r,C0j d:=C04 t 10 l
theorem B62 {f:Nat→List Do} (h:∀ s,(f s).length≤2):∀ l:List Nat,(l.flatMap f).length≤2 * l.length
 |[]=>Nat.zero_le _
 |a::l=>by
  rw [List.flatMap_cons,List.length_append,List.length_cons]
  have:=h a
  have:=B62 h l
  omega
theorem B7h {t:C5} {n:Net} (h:G7 t n):(B87 n).length≤2 * t.n.toNat:=by
 obtain ⟨p0,p,a,b,o,st,h⟩:=h
 rw [h.round]
 have hp2:∀ s,(B8d s (st s)).length≤2:=fun s=>by
  unfold B8d
  split
  ·simp
  ·split<;>simp
 have:=B62 hp2 (List.range t.n.toNat)
 rwa [List.length_range] at this
theorem B93 {t:C5} (ht:(B6 t).1=0):∀ (k:Nat) (l:List Do),l.length+16 * B8r (D5 t (D3 t) l).1≤200→(B8f t k l).length≤l.length+16 * B8r (D5 t (D3 t) l).1
 |0,l,_=>Nat.le_add_right _ _
 |k+1,l,hl=>by
  have hll:l.length≤200:=by omega
  obtain ⟨hok,hfit⟩:=A3r ht hll
  have h8:=(J8 ht).1.2.1
  have hrl:=B7h hok
  unfold B8f
  rw [W2 ht hll]
  dsimp only
  split
  ·omega
  ·rename_i he
   have hR:=B68 ht hok hfit (by omega) he
   have e:(D5 t (D3 t) (l++B87 (D5 t (D3 t) l).1)).1=(D5 t (D5 t (D3 t) l).1 (B87 (D5 t (D3 t) l).1)).1:=by rw [A3g]
   have hlen:(l++B87 (D5 t (D3 t) l).1).length≤l.length+16:=by rw [List.length_append];omega
   have hls:=hR.less
   have ih:=B93 ht k (l++B87 (D5 t (D3 t) l).1) (by rw [e];omega)
   rw [e] at ih
   omega
theorem B7d {t:C5} (ht:(B6 t).1=0) {l:List Do} (hl:l.length≤168):(B85 t l).length≤l.length+32:=by
 have h2:=B6x (D5 t (D3 t) l).1
 have:=B93 ht 10 l (by omega)
 unfold B85
 omega
section
variable {t : C5} {n : Net} {k : Nat} {f : E0}
theorem C0q (h:G7 t n) (hf:F4 t k n) (hk:k≤900) (h0:n.ctl.stage=0) {l:List E0} (hp:(D2 t ((n.plans.length:Int)+1) l).2.1=0) (hfull:N5 n.ctl.now (D2 t ((n.plans.length:Int)+1) l).1 t.n.toNat=false):
    (T8 t n l).2=0∧(T8 t n l).1.plans=n.plans++[(D2 t ((n.plans.length:Int)+1) l).1]∧(T8 t n l).1.packets=n.packets∧(T8 t n l).1.ctl.stage≠0∧(T8 t n l).1.ctl.stage≠4∧(T8 t n l).1.ctl.now=n.ctl.now∧(T8 t n l).1.ctl.next=(D2 t ((n.plans.length:Int)+1) l).1:=by
  obtain ⟨_,_,hv,_⟩:=B7x h h0
  have hpn:=hf.pn
  have hup:up n.ctl.now.ver=(n.plans.length:Int)+1:=by rw [hv];exact A7s (by omega) (by omega)
  generalize hq:(D2 t ((n.plans.length:Int)+1) l)=Q at *
  have e:G9 n.ctl t l=((C0 (E6 ⟨1,n.ctl.now,Q.1,n.ctl.num,n.ctl.waits⟩ (L7 Q.1 t)).1 t).1,
     (E6 ⟨1,n.ctl.now,Q.1,n.ctl.num,n.ctl.waits⟩ (L7 Q.1 t)).2++(C0 (E6 ⟨1,n.ctl.now,Q.1,n.ctl.num,n.ctl.waits⟩ (L7 Q.1 t)).1 t).2,0):=by
    unfold G9
    rw [hup,hq,if_neg (by omega),if_neg (by rw [hp];decide),if_neg (by rw [hfull];decide)]
  have hs:=P7 ⟨1,n.ctl.now,Q.1,n.ctl.num,n.ctl.waits⟩ (L7 Q.1 t)
  generalize (E6 ⟨1,n.ctl.now,Q.1,n.ctl.num,n.ctl.waits⟩ (L7 Q.1 t)).1=c at *
  dsimp only at hs
  have hk4:=A4r (c:=c) (t:=t) (by omega)
  have hst:(C0 c t).1.stage≠0∧(C0 c t).1.stage≠4:=by
    by_cases hw:c.waits=[]
    · rcases B69 (t:=t) hw with ⟨q,_⟩|⟨q,_⟩|⟨q,_⟩|⟨q,_⟩<;>omega
    · have:C0 c t=(c,[]):=by unfold C0;rw [if_pos hw]
      rw [this]
      dsimp only
      omega
  unfold T8
  rw [e,if_neg (fun h=>h rfl)]
  exact ⟨rfl,by dsimp only;rw [hk4.2,hs.2.2],rfl,hst.1,hst.2,hk4.1.trans hs.2.1,hk4.2.trans hs.2.2⟩
end
open Go.RowKit
def C2e (n:Nat):C5:=⟨(n:Int),(List.range (n - 1)).map fun i:Nat=>⟨(i:Int),(i:Int)+1,1⟩⟩
def B98 (a b:Nat):E0:=⟨(a:Int),(b:Int),[],[]⟩
def l9:List Do:=[B9y [B98 0 2]]
theorem B9d:(D9 (C2e 3) (B85 (C2e 3) l9)).2.2=(0,0)∧(D9 (C2e 3) (B85 (C2e 3) l9)).1.ctl.stage=3∧(((D9 (C2e 3) (B85 (C2e 3) l9)).1.switches[1]?).map fun s=>s.rules.length)=some 1:=by
 refine ⟨?_,?_,?_⟩<;>decide+kernel
open Go.RowKit
section
variable {t : C5} {n : Net} {k : Nat}
structure C14 (n m:Net):Prop where
 now:m.ctl.now=n.ctl.now
 next:m.ctl.next=n.ctl.next
 plans:m.plans=n.plans
 packets:m.packets=n.packets
 s0:m.ctl.stage≠0
 s4:m.ctl.stage≠4
 s1:n.ctl.stage≠1→m.ctl.stage≠1
theorem C14.refl (h0:n.ctl.stage≠0) (h4:n.ctl.stage≠4):C14 n n:=⟨rfl,rfl,rfl,rfl,h0,h4,fun h=>h⟩
theorem C14.trans {m o:Net} (h:C14 n m) (g:C14 m o):C14 n o:=⟨g.now.trans h.now,g.next.trans h.next,g.plans.trans h.plans,g.packets.trans h.packets,g.s0,g.s4,fun e=>g.s1 (h.s1 e)⟩
theorem C16 {d:Do} (hd:C0j d) (h0:n.ctl.stage≠0) (h4:n.ctl.stage≠4):C14 n (I8 t n d).1:=by
 unfold I8
 rcases hd with hd|hd
 ·rw [if_neg (by omega),if_pos hd]
  unfold L4
  split
  ·exact C14.refl h0 h4
  ·split
   ·exact C14.refl h0 h4
   ·exact ⟨rfl,rfl,rfl,rfl,h0,h4,fun h=>h⟩
 ·rw [if_neg (by omega),if_neg (by omega),if_pos hd]
  unfold M7
  split
  ·exact C14.refl h0 h4
  ·rename_i x r hr
   split
   ·exact C14.refl h0 h4
   ·rename_i hz
    have hz:=Decidable.not_not.1 hz
    by_cases h1:(B6 t).1≠0
    ·unfold H8 at hz;rw [if_pos h1] at hz;exact absurd hz h1
    cases hi:N8 x n.ctl.waits with
    |none=>unfold H8 at hz;rw [if_neg h1,hi] at hz;exact absurd (show (6:Int)=0 from hz) (by decide)
    |some i=>
     have e:H8 n.ctl t x=((C0 ⟨n.ctl.stage,n.ctl.now,n.ctl.next,n.ctl.num,n.ctl.waits.eraseIdx i⟩ t).1,(C0 ⟨n.ctl.stage,n.ctl.now,n.ctl.next,n.ctl.num,n.ctl.waits.eraseIdx i⟩ t).2,0):=by
      unfold H8;rw [if_neg h1,hi]
     rw [e]
     have hk:=A4r (c:=⟨n.ctl.stage,n.ctl.now,n.ctl.next,n.ctl.num,n.ctl.waits.eraseIdx i⟩) (t:=t) h4
     have hs:(C0 ⟨n.ctl.stage,n.ctl.now,n.ctl.next,n.ctl.num,n.ctl.waits.eraseIdx i⟩ t).1.stage=n.ctl.stage∨(C0 ⟨n.ctl.stage,n.ctl.now,n.ctl.next,n.ctl.num,n.ctl.waits.eraseIdx i⟩ t).1.stage=2∨(C0 ⟨n.ctl.stage,n.ctl.now,n.ctl.next,n.ctl.num,n.ctl.waits.eraseIdx i⟩ t).1.stage=3:=by
      by_cases hw:n.ctl.waits.eraseIdx i=[]
      ·rcases B69 (t:=t) (c:=⟨n.ctl.stage,n.ctl.now,n.ctl.next,n.ctl.num,n.ctl.waits.eraseIdx i⟩) hw with ⟨q,_⟩|⟨_,q⟩|⟨q,_⟩|⟨_,_,_,q⟩
       ·exact .inr q
       ·exact .inr (.inr q)
       ·exact absurd q h4
       ·rw [q];exact .inl rfl
      ·have:C0 ⟨n.ctl.stage,n.ctl.now,n.ctl.next,n.ctl.num,n.ctl.waits.eraseIdx i⟩ t=(⟨n.ctl.stage,n.ctl.now,n.ctl.next,n.ctl.num,n.ctl.waits.eraseIdx i⟩,[]):=by unfold C0;rw [if_pos hw]
       rw [this];exact .inl rfl
     generalize C0 ⟨n.ctl.stage,n.ctl.now,n.ctl.next,n.ctl.num,n.ctl.waits.eraseIdx i⟩ t=S at *
     refine ⟨hk.1,hk.2,rfl,rfl,?_,?_,?_⟩<;>dsimp only<;>omega
theorem C17:∀ (l:List Do) (n:Net),(∀ d∈l,C0j d)→n.ctl.stage≠0→n.ctl.stage≠4→C14 n (D5 t n l).1
 |[],n,_,h0,h4=>C14.refl h0 h4
 |d::l,n,h,h0,h4=>by
  rw [D5]
  have g:=C16 (t:=t) (h d (by simp)) h0 h4
  exact g.trans (C17 l _ (fun x hx=>h x (List.mem_cons_of_mem _ hx)) g.s0 g.s4)
structure C15 (n:Net) (i:Nat) (p:N2) (q:F5) (path:List Int):Prop where
 at_:n.packets[i]? =some p
 plan:n.plans[(p.ver - 1).toNat]? =some q
 v1:1≤p.ver
 f0:0≤p.flow
 way:q.paths[p.flow.toNat]? =some path
 pre:p.trace<+:path
 ne:p.trace≠[]
 of:q=n.ctl.now∨(q=n.ctl.next∧n.ctl.stage≠1)
 end_:p.done=true→p.trace=path
theorem C15.kept {m:Net} {i:Nat} {p:N2} {q:F5} {path:List Int} (h:C15 n i p q path) (g:C14 n m):C15 m i p q path:=
 ⟨by rw [g.packets];exact h.at_,by rw [g.plans];exact h.plan,h.v1,h.f0,h.way,h.pre,h.ne,by rw [g.now,g.next];exact h.of.imp id (fun ⟨a,b⟩=>⟨a,g.s1 b⟩),h.end_⟩
theorem C15.move {i:Nat} {p:N2} {q:F5} {path:List Int} (h:C15 n i p q path) (hR:G7 t n) (hF:F4 t k n) (h4:n.ctl.stage≠4):
  ∃ p',C15 (M6 n (i:Int)).1 i p' q path∧(p'.done=true∨p'.trace.length=p.trace.length+1)∧(M6 n (i:Int)).1.packets.length=n.packets.length:=by
 have hi:=(List.getElem?_eq_some_iff.1 h.at_).1
 by_cases hd:p.done=true
 ·have e:M6 n (i:Int)=(n,6):=by
   have e:S7 n (i:Int)=some p:=by unfold S7;rw [if_neg (by omega),Int.toNat_natCast];exact h.at_
   unfold M6
   rw [e]
   simp only [hd,if_true]
  rw [e]
  exact ⟨p,h,.inl hd,rfl⟩
 have hd:p.done=false:=by simpa using hd
 obtain ⟨g1,g2⟩:=B83 hR hF h4 h.plan h.v1 h.f0 h.way h.pre h.ne h.of
 rw [B81 h.at_ hd]
 by_cases hl:p.trace.length<path.length
 ·obtain ⟨x,hx⟩:∃ x,path[p.trace.length]? =some x:=⟨_,List.getElem?_eq_getElem hl⟩
  rw [g1 x hx]
  refine ⟨{p with trace:=p.trace++[x]},⟨by show (n.packets.set _ _)[i]? =_;rw [List.getElem?_set_self hi],h.plan,h.v1,h.f0,h.way,A7x h.pre hx,by simp,h.of,fun e=>by rw [show ({p with trace:=p.trace++[x]}:N2).done=p.done from rfl,hd] at e;cases e⟩,.inr (by simp),by simp⟩
 ·rw [g2 (by omega)]
  have he:p.trace=path:=h.pre.eq_of_length (by have:=h.pre.length_le;omega)
  exact ⟨{p with done:=true},⟨by show (n.packets.set _ _)[i]? =_;rw [List.getElem?_set_self hi],h.plan,h.v1,h.f0,h.way,h.pre,h.ne,h.of,fun _=>he⟩,.inl rfl,by simp⟩
theorem C1b (ht:(B6 t).1=0) (i:Nat):∀ (l:List Do) (n:Net) (k:Nat) (p:N2) (q:F5) (path:List Int),G7 t n→F4 t k n→k+l.length≤5000→n.ctl.stage≠0→n.ctl.stage≠4→C15 n i p q path→(∀ d∈l,C0j d∨d=B88 i)→(p.done=false→path.length<p.trace.length+(l.filter fun d=>decide (d.kind=5)).length)→
    ∃ p',(D5 t n l).1.packets[i]? =some p'∧p'.trace=path∧p'.done=true∧(D5 t n l).1.packets.length=n.packets.length
  |[],n,k,p,q,path,_,_,_,_,_,hw,_,hm=>by
    have hd:p.done=true:=by
      cases hd:p.done with
      |true=>rfl
      |false=>have a1:=hm hd;have a2:=hw.pre.length_le;simp only [List.filter_nil,List.length_nil] at a1;omega
    exact ⟨p,hw.at_,hw.end_ hd,hd,rfl⟩
  |d::l,n,k,p,q,path,hR,hF,hk,h0,h4,hw,hl,hm=>by
    have hn:=(J8 ht).1.1
    simp only [List.length_cons] at hk
    have hR':=A5i hR hF (by omega) ht d
    have hF':=A3y hF (by omega) (by omega) d
    have hl':∀ x∈l,C0j x∨x=B88 i:=fun x hx=>hl x (List.mem_cons_of_mem _ hx)
    rw [D5]
    dsimp only
    rcases hl d (by simp) with hd|hd
    · have g:=C16 (t:=t) hd h0 h4
      have hk5:decide (d.kind=5)=false:=decide_eq_false (by rcases hd with hd|hd<;>omega)
      rw [List.filter_cons_of_neg (by simp [hk5])] at hm
      obtain ⟨p',a1,a2,a3,a4⟩:=C1b ht i l _ (k+1) p q path hR' hF' (by omega) g.s0 g.s4 (hw.kept g) hl' hm
      exact ⟨p',a1,a2,a3,by rw [a4,g.packets]⟩
    · subst hd
      rw [B6j] at hR' hF' ⊢
      obtain ⟨p',w1,w2,w3⟩:=hw.move hR hF h4
      have hr:=B7m n (i:Int)
      rw [List.filter_cons_of_pos (by rfl),List.length_cons] at hm
      obtain ⟨p2,a1,a2,a3,a4⟩:=C1b ht i l _ (k+1) p' q path hR' hF' (by omega) (by rw [hr.2.1];exact h0) (by rw [hr.2.1];exact h4) w1 hl' (fun hd=>by
        have hlen:p'.trace.length=p.trace.length+1:=by
          rcases w2 with w2|w2
          · rw [hd] at w2;cases w2
          · exact w2
        by_cases hpd:p.done=true
        · exfalso
          have e1:=hw.end_ hpd
          have:=w1.pre.length_le
          rw [hlen,e1] at this
          omega
        · have:=hm (by simpa using hpd);omega)
      exact ⟨p2,a1,a2,a3,by rw [a4,w3]⟩
theorem C1g (h:G7 t n) (hf:F4 t k n) (hn:0≤t.n) (h4:n.ctl.stage≠4) {j:Nat} (h40:n.packets.length<40) {f:E0} (hfl:P2 n.ctl (j:Int)=some f) {s:Nat} {sw:D8} (hs:n.switches[s]? =some sw) (hv:J5 sw (j:Int)≠0):
    (J4 n (j:Int)).2=0∧∃ p q path,(J4 n (j:Int)).1={n with packets:=n.packets++[p]}∧p.flow=j∧p.done=false∧p.trace.length=1∧C15 (J4 n (j:Int)).1 n.packets.length p q path:=by
  have hb:(J4 n (j:Int)).2=0:=by
    unfold J4
    rw [if_neg (by omega),hfl]
  have hvp:0<J5 sw (j:Int):=by
    obtain ⟨x,hx,e1,e2⟩:=B0o hv
    obtain ⟨_,_,_,v1,_⟩:=A4e h hs hx
    omega
  have hat:∃ s',A07 (j:Int) n.switches=some s':=by
    cases hq:A07 (j:Int) n.switches with
    |some s'=>exact ⟨s',rfl⟩
    |none=>
      unfold A07 at hq
      have:=List.findIdx?_eq_none_iff.1 hq sw (List.mem_of_getElem? hs)
      simp [hvp] at this
  obtain ⟨s',hs'⟩:=hat
  have hne:J5 (n.switches.getD (P0 n (j:Int) f).toNat O5) (j:Int)≠0:=by
    have:P0 n (j:Int) f=(s':Int):=by unfold P0;rw [hs']
    rw [this,Int.toNat_natCast]
    unfold A07 at hs'
    obtain ⟨hlt,h1,_⟩:=List.findIdx?_eq_some_iff_getElem.1 hs'
    rw [List.getD_eq_getElem?_getD,List.getElem?_eq_getElem hlt]
    have:=of_decide_eq_true h1
    show J5 n.switches[s'] (j:Int)≠0
    omega
  obtain ⟨p,e,ej,hp⟩:=B70 h hf hn h4 hb
  have hpv:p.ver≠0:=by
    unfold J4 at e
    rw [if_neg (by omega),hfl] at e
    have e2:=congrArg Net.packets e
    have e3:=List.append_cancel_left e2
    have e4:=(List.cons.inj e3).1
    rw [←e4]
    exact hne
  rcases hp with ⟨hp,_⟩|⟨hd,hl,q,path,w1,w2,w3,w4,w5,w6⟩
  · exact absurd hp hpv
  · refine ⟨hb,p,q,path,e,ej,hd,hl,?_⟩
    rw [e]
    exact ⟨by simp,w1,w2,by rw [ej];omega,by rw [ej];exact w4,w5,by intro e;rw [e] at hl;simp at hl,w6,fun e2=>by rw [hd] at e2;cases e2⟩
theorem C1n (h:G7 t n) (h0:n.ctl.stage≠0) (h4:n.ctl.stage≠4) {j:Nat} {s:Nat} (hs:s<t.n.toNat) {f:E0} (hx:n.ctl.next.flows[j]? =some f) (hfs:f.src=(s:Int))
  (hn:n.ctl.stage=3∨∃ g,n.ctl.now.flows[j]? =some g∧g.src=(s:Int)∧n.ctl.now.ver≠0):∃ sw,n.switches[s]? =some sw∧J5 sw (j:Int)≠0:=by
 obtain ⟨p0,p,a,b,o,st,h⟩:=h
 rw [h.next] at hx
 rw [h.now] at hn
 have hnew:(p.ver≠0)→∀ p0,J5 (Y4 p0 p s) (j:Int)≠0:=fun hv p0=>by
  have:=B82 (p:=p) (s:=s) hx
  rw [if_pos hfs] at this
  show J5 (U6 p s) (j:Int)≠0
  rw [this];exact hv
 rcases h.at_ with ⟨q,_⟩|⟨hp,hv,hv0,hst⟩
 ·exact absurd q h0
 have hpv:p.ver≠0:=by
  obtain ⟨l,hok⟩:=hp.ok
  have:=hok.v1
  omega
 have hold:n.ctl.stage≠3→J5 (U6 p0 s) (j:Int)≠0:=fun h3=>by
  rcases hn with hn|⟨g,g1,g2,g3⟩
  ·exact absurd hn h3
  ·have:=B82 (p:=p0) (s:=s) g1
   rw [if_pos g2] at this
   rw [this];exact g3
 rcases hst with ⟨q,_,ea,eb⟩|⟨q,_,ea,eb⟩|⟨q,_,eb⟩|⟨q,_⟩
 ·have ho:=hold (by omega)
  rcases h.fl.each s hs with g|g|g
  ·exact ⟨_,g.2.2.2,by rw [eb];exact ho⟩
  ·exact ⟨_,g.2.2.2.1,by rw [ea];exact ho⟩
  ·exact ⟨_,g.2.2.2,by rw [eb];exact ho⟩
 ·have ho:=hold (by omega)
  rcases h.fl.each s hs with g|g|g
  ·exact ⟨_,g.2.2.2,by rw [eb];exact hnew hpv p0⟩
  ·exact ⟨_,g.2.2.2.1,by rw [ea];exact ho⟩
  ·exact ⟨_,g.2.2.2,by rw [eb];exact hnew hpv p0⟩
 ·rcases h.fl.each s hs with g|g|g
  ·exact ⟨_,g.2.2.2,by rw [eb];exact hnew hpv p0⟩
  ·have hw:n.ctl.waits=[]:=by assumption
   have:=h.fl.rest hw s hs
   omega
  ·exact ⟨_,g.2.2.2,by rw [eb];exact hnew hpv p0⟩
 ·exact absurd q h4
end
def C2d:Nat→List Do
 |0=>[]
 |m+1=>C2d m++([B8c m]++List.replicate 8 (B88 m))
theorem C2i:∀ m,(C2d m).length=9 * m
 |0=>rfl
 |m+1=>by rw [C2d,List.length_append,C2i m];simp;omega
structure C3d (t:C5) (n0 n:Net) (m:Nat):Prop where
 ctl:n.ctl=n0.ctl
 sw:n.switches=n0.switches
 plans:n.plans=n0.plans
 len:n.packets.length=m
 each:∀ i,i<m→∃ p path,n.packets[i]? =some p∧n0.ctl.next.paths[i]? =some path∧p.trace=path∧p.done=true
theorem C2n (t:C5) (i:Nat):∀ (m:Nat) (n:Net),(D5 t n (List.replicate m (B88 i))).1.plans=n.plans∧(D5 t n (List.replicate m (B88 i))).1.ctl=n.ctl∧(D5 t n (List.replicate m (B88 i))).1.switches=n.switches
 |0,n=>⟨rfl,rfl,rfl⟩
 |m+1,n=>by
  rw [List.replicate_succ,D5]
  have h:=C2n t i m (I8 t n (B88 i)).1
  rw [B6j] at h ⊢
  obtain ⟨g1,g2,g3⟩:=B7m n (i:Int)
  exact ⟨h.1.trans g1,h.2.1.trans g2,h.2.2.trans g3⟩
theorem C36 {t:C5} (ht:(B6 t).1=0) {n0:Net} {k:Nat} (hR:G7 t n0) (hF:F4 t k n0) (hst:n0.ctl.stage=3) (hpk:n0.packets=[]) (hnow:n0.ctl.now=E2) {m0:Nat} (hm0:n0.ctl.next.flows.length=m0) (hkk:k≤300):∀ m,m≤m0→C3d t n0 (D5 t n0 (C2d m)).1 m
 |0,_=>⟨rfl,rfl,rfl,by show n0.packets.length=0;rw [hpk];rfl,fun i hi=>absurd hi (by omega)⟩
 |m+1,hm=>by
  have ih:=C36 ht hR hF hst hpk hnow hm0 hkk m (by omega)
  have hn:=(J8 ht).1
  have hh:=hF.ctl.next.flows12
  obtain ⟨hR1,hF1⟩:=A63 ht (C2d m) k n0 hR hF (by rw [C2i];omega)
  rw [C2d,A3g]
  dsimp only
  generalize (D5 t n0 (C2d m)).1=N1 at *
  rw [A3g]
  dsimp only
  obtain ⟨f,hf⟩:∃ f,n0.ctl.next.flows[m]? =some f:=⟨_,List.getElem?_eq_getElem (by omega)⟩
  obtain ⟨hP,_,hI⟩:=hR.plans
  obtain ⟨i1,i2⟩:=hI.get (fun e=>by rw [e] at hf;simp [E2] at hf)
  obtain ⟨_,lf,hpo⟩:=hP.each _ _ i2
  have hml:m<n0.ctl.next.paths.length:=by rw [hpo.plen,←hpo.flows];omega
  obtain ⟨path0,hpath0⟩:∃ x,n0.ctl.next.paths[m]? =some x:=⟨_,List.getElem?_eq_getElem hml⟩
  have hgd:=(hpo.good m f path0 (by rw [←hpo.flows];exact hf) hpath0).2.2
  have hsr:=hgd.rng f.src (List.mem_of_mem_head? (by rw [hgd.src];rfl))
  obtain ⟨sw,hsw,hvs⟩:=C1n hR1 (by rw [ih.ctl,hst];decide) (by rw [ih.ctl,hst];decide) (j:=m) (s:=f.src.toNat) (by omega) (by rw [ih.ctl];exact hf) (by omega) (.inl (by rw [ih.ctl];exact hst))
  have hfl:P2 N1.ctl (m:Int)=some f:=by
   unfold P2
   rw [if_neg (by omega),ih.ctl,Int.toNat_natCast,hf];rfl
  obtain ⟨b1,p,q,path,b2,b3,b4,b5,b6⟩:=C1g hR1 hF1 (by omega) (by rw [ih.ctl,hst];decide) (j:=m) (by rw [ih.len];omega) hfl hsw hvs
  have hR3:=A9w hR1 (m:Int)
  have hF3:=B1q hF1 (by omega) (m:Int)
  have e3:(D5 t N1 [B8c (m:Int)]).1=(J4 N1 (m:Int)).1:=by
   show (I8 t N1 (B8c m)).1=_
   rw [B6b]
  rw [e3]
  rw [ih.len] at b6
  have hp8:=B72 hR3 b6.plan (List.mem_of_getElem? b6.way)
  have hst3:(J4 N1 (m:Int)).1.ctl=N1.ctl:=by rw [b2]
  have hkm:=C2n t m 8 (J4 N1 (m:Int)).1
  have hpast:=B8q t (List.replicate 8 (B88 m)) (J4 N1 (m:Int)).1
  have hq:q=n0.ctl.next:=by
   rcases b6.of with h|⟨h,_⟩
   ·rw [hst3,ih.ctl,hnow] at h
    have h2:=b6.way
    rw [h] at h2
    simp [E2] at h2
   ·rw [hst3,ih.ctl] at h;exact h
  obtain ⟨p',c1,c2,c3,c4⟩:=C1b ht m (List.replicate 8 (B88 m)) _ _ p q path hR3 hF3 (by rw [C2i,List.length_replicate];omega) (by rw [hst3,ih.ctl,hst];decide) (by rw [hst3,ih.ctl,hst];decide) b6 (fun d hd=>.inr (List.eq_of_mem_replicate hd)) (fun _=>by
   rw [List.filter_eq_self.2 (fun d hd=>by rw [List.eq_of_mem_replicate hd];rfl),List.length_replicate,b5]
   omega)
  have hpl3:(J4 N1 (m:Int)).1.plans=N1.plans:=by rw [b2]
  have hsw3:(J4 N1 (m:Int)).1.switches=N1.switches:=by rw [b2]
  refine ⟨hkm.2.1.trans (hst3.trans ih.ctl),hkm.2.2.trans (hsw3.trans ih.sw),hkm.1.trans (hpl3.trans ih.plans),by rw [c4,b2];simp [ih.len],fun i hi=>?_⟩
  by_cases e:i=m
  ·subst e
   have h1:=b6.way
   rw [b3,Int.toNat_natCast,hq] at h1
   exact ⟨p',path,c1,h1,c2,c3⟩
  ·obtain ⟨p1,path1,d1,d2,d3,d4⟩:=ih.each i (by omega)
   have d1':(J4 N1 (m:Int)).1.packets[i]? =some p1:=by
    rw [b2]
    show (N1.packets++[p])[i]? =_
    rw [List.getElem?_append_left (by rw [ih.len];omega)]
    exact d1
   obtain ⟨p2,f1,f2⟩:=hpast.pk i p1 d1'
   obtain ⟨f3,f4⟩:=f2.2.1 d4
   exact ⟨p2,path1,f1,d2,by rw [f3];exact d3,f4⟩
theorem C2m {t:C5} (ht:(B6 t).1=0) (l:List E0) (hl:(B85 t [B9y l]).length≤200):
  (D5 t (D3 t) (B85 t [B9y l])).2[0]? =some (G9 Q6 t l).2.2∧
  ((G9 Q6 t l).2.2=0→(D2 t 1 l).2.1=0∧((B85 t [B9y l])++C2d l.length).length≤200→C3d t (D5 t (D3 t) (B85 t [B9y l])).1 (D5 t (D3 t) (B85 t [B9y l]++C2d l.length)).1 l.length∧(D5 t (D3 t) (B85 t [B9y l])).1.ctl.next=(D2 t 1 l).1)∧
  ((D2 t 1 l).2.1≠0→(G9 Q6 t l).2.2=(D2 t 1 l).2.1)∧((D2 t 1 l).2.1=0→(G9 Q6 t l).2.2=0∨(G9 Q6 t l).2.2=10):=by
 obtain ⟨r,hr,hc⟩:=C0c t [B9y l]
 have hup:up Q6.now.ver=1:=by decide
 have e0:(D5 t (D3 t) [B9y l]).1=(T8 t (D3 t) l).1:=by
  show (I8 t _ (B9y l)).1=_
  rw [C0u]
 refine ⟨?_,?_,?_,?_⟩
 ·rw [A8i t _ _ 0 (B9y l) (by rw [hr];rfl)]
  show some (I8 t (D3 t) (B9y l)).2=_
  rw [C0u]
  unfold T8
  show some (if (G9 Q6 t l).2.2≠0 then _ else _:Net × Int).2=_
  split
  ·rfl
  ·rename_i h;rw [Decidable.not_not.1 h]
 ·intro h0 ⟨hp,hlen⟩
  have hD:=B6p ht hl
  obtain ⟨hok,hfit⟩:=A3r ht hl
  obtain ⟨hok1,hfit1⟩:=A3r ht (l:=[B9y l]) (by simp)
  have hq:=A6v hp
  have hlast:(B85 t [B9y l]).length≤33:=by have:=B7d ht (l:=[B9y l]) (by simp);simpa using this
  have hfull:N5 E2 (D2 t 1 l).1 t.n.toNat=false:=by
   apply Classical.byContradiction
   intro hc
   have:(G9 Q6 t l).2.2=10:=by
    unfold G9
    rw [hup,if_neg (fun h=>h rfl),if_neg (by rw [hp];decide),if_pos (by show N5 E2 _ _=true;simpa using hc)]
   rw [this] at h0;exact absurd h0 (by decide)
  obtain ⟨a1,a2,a3,a4,a5,a6,a7⟩:=C0q (A54 t) (F4.start (t:=t)) (by omega) rfl (l:=l) (by show (D2 t 1 l).2.1=0;exact hp) (by show N5 E2 (D2 t 1 l).1 _=false;exact hfull)
  rw [e0] at hD
  have hk:C14 (T8 t (D3 t) l).1 (D5 t (D3 t) (B85 t [B9y l])).1:=by
   rw [hr,A3g]
   show C14 _ (D5 t (D5 t (D3 t) [B9y l]).1 r).1
   rw [e0]
   exact C17 r _ hc a4 a5
  have hst:(D5 t (D3 t) (B85 t [B9y l])).1.ctl.stage=3:=by
   rw [hD.stage]
   unfold B8o
   rw [if_neg (fun h=>h.elim a4 a5)]
  have hnx:(D5 t (D3 t) (B85 t [B9y l])).1.ctl.next=(D2 t 1 l).1:=by rw [hk.next,a7];rfl
  have hG:=C36 ht hok hfit hst (by rw [hk.packets,a3];rfl) (by rw [hk.now,a6];rfl) (m0:=l.length) (by rw [hnx,hq.flows]) (by omega) l.length (Nat.le_refl _)
  refine ⟨?_,hnx⟩
  rw [A3g]
  exact hG
 ·intro h
  unfold G9
  rw [hup,if_neg (fun h=>h rfl),if_pos h]
 ·intro h
  unfold G9
  rw [hup,if_neg (fun h=>h rfl),if_neg (by rw [h];decide)]
  split
  ·exact .inr rfl
  ·exact .inl rfl
end Go.St
