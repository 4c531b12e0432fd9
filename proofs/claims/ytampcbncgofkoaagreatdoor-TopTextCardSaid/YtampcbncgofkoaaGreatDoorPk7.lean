/- Texts of this proof, one behind the other. -/
import Derived.Laws.OwnMore
import Derived.Test.YtampcbncgofkoaaGreatDoorPk6
set_option linter.unusedSimpArgs false
set_option linter.unusedVariables false
set_option maxRecDepth 100000
set_option maxHeartbeats 16000000
namespace Go.St
open Go.RowKit
def F0 (v f s:Int):List Int→List C1
 |a::b::l=>(if a=s then [⟨v,f,b⟩] else [])++F0 v f s (b::l)
 |_=>[]
def D4 (v s:Int):Int→List (List Int)→List C1
 |_,[]=>[]
 |f,p::ps=>F0 v f s p++D4 v s (f+1) ps
def C6 (p:F5) (s:Int):List C1:=D4 p.ver s 0 p.paths
theorem A3z {v f s:Int} {p:List Int} {i:Nat} {a b:Int} (ha:p[i]? =some a) (hb:p[i+1]? =some b):F0 v f s (p.drop i)=(if a=s then [⟨v,f,b⟩] else [])++F0 v f s (p.drop (i+1)):=by
 obtain ⟨h1,rfl⟩:=List.getElem?_eq_some_iff.1 ha
 obtain ⟨h2,rfl⟩:=List.getElem?_eq_some_iff.1 hb
 rw [List.drop_eq_getElem_cons h1,List.drop_eq_getElem_cons h2,F0]
theorem A5b {v f s:Int} {p:List Int} {i:Nat} (h:p.length≤i+1):F0 v f s (p.drop i)=[]:=by
 have hl:(p.drop i).length≤1:=by simp;omega
 match hd:p.drop i,hl with
 |[],_=>rfl
 |[x],_=>rfl
theorem A4o {v s:Int} {ps:List (List Int)} {j:Nat} {p:List Int} (h:ps[j]? =some p):D4 v s (j:Int) (ps.drop j)=F0 v j s p++D4 v s ((j+1:Nat):Int) (ps.drop (j+1)):=by
 obtain ⟨h1,rfl⟩:=List.getElem?_eq_some_iff.1 h
 rw [List.drop_eq_getElem_cons h1,D4];rfl
theorem A5d {v s:Int} {ps:List (List Int)} {j:Nat} (h:ps.length≤j):D4 v s (j:Int) (ps.drop j)=[]:=by
 rw [List.drop_of_length_le h];rfl
def upd {α:Type} (f:Nat→α) (s:Nat) (x:α):Nat→α:=fun i=>if i=s then x else f i
theorem C10 {α:Type} (f:Nat→α) (s:Nat) (x:α):upd f s x s=x:=if_pos rfl
theorem O9 {α:Type} (f:Nat→α) {s i:Nat} (x:α) (h:i≠s):upd f s x i=f i:=if_neg h
def L2 (n:Nat) (f:Nat→Option Addr × Nat) (tabs:Nat→List C1):Array Value:=((List.range n).map fun i=>Value.slice (f i).1 (tabs i).length (f i).2).toArray
theorem A6y {n:Nat} {f:Nat→Option Addr × Nat} {tabs:Nat→List C1} {i:Nat} (hi:i<n):(L2 n f tabs)[i]? =some (.slice (f i).1 (tabs i).length (f i).2):=by
 simp [L2,hi]
theorem A4n (n:Nat):madeCells #[.slice none 0 0] n=L2 n (fun _=>(none,0)) (fun _=>[]):=by
 apply Array.toList_inj.1
 rw [toList_madeCells_one]
 apply List.ext_getElem
 ·simp [L2]
 ·intro i h1 h2
  simp [L2]
theorem A6x {n:Nat} {f:Nat→Option Addr × Nat} {tabs:Nat→List C1} {s:Nat} (hs:s<n) (a:Option Addr) (c:Nat) (l:List C1):(L2 n f tabs).setIfInBounds s (.slice a l.length c)=L2 n (upd f s (a,c)) (upd tabs s l):=by
 apply Array.toList_inj.1
 apply List.ext_getElem?
 intro i
 by_cases hi:i<n
 ·by_cases h:s=i
  ·subst h;simp [L2,hs,upd]
  ·have h':¬i=s:=fun e=>h e.symm
   simp [L2,List.getElem?_set,hi,h,h',upd]
 ·rw [List.getElem?_eq_none (by simp [L2];omega),List.getElem?_eq_none (by simp [L2];omega)]
structure Tbl (w:World) (ob:Nat) (te t:TypeId) (n:Nat) (f:Nat→Option Addr × Nat) (tabs:Nat→List C1):Prop where
 blk:A6 w ob te (L2 n f tabs)
 own:∀ i,i<n→C7 G6 t (fun _=>False) (ob+1) w (f i).1 (tabs i).length (f i).2 (tabs i)
 apart:∀ i j k,i<n→j<n→Go.St.blk (f i).1=some k→Go.St.blk (f j).1=some k→i=j
theorem Tbl.start {w:World} {ob:Nat} {te t:TypeId} {n:Nat} (h:w.heap.size=ob):Tbl (w.alloc (.cells (L2 n (fun _=>(none,0)) (fun _=>[])) te)) ob te t n (fun _=>(none,0)) (fun _=>[]):=
 ⟨A6.new h,fun i hi=>C7.nil' _ _ _ _,fun i j k _ _ h=>by simp [Go.St.blk] at h⟩
section
variable {w w' : World} {ob : Nat} {te t : TypeId} {n : Nat} {f : Nat → Option Addr × Nat} {tabs : Nat → List C1}
theorem Tbl.under (h:Tbl w ob te t n f tabs) (hb:Below w.heap.size w w'):Tbl w' ob te t n f tabs:=⟨h.blk.under hb,fun i hi=>(h.own i hi).below hb,h.apart⟩
theorem Tbl.cell (h:Tbl w ob te t n f tabs) {i:Nat} (hi:i<n):w.cell? ⟨ob,i,none⟩=some (.slice (f i).1 (tabs i).length (f i).2):=by
 rw [h.blk.cells.1];exact A6y hi
theorem Tbl.row (h:Tbl w ob te t n f tabs) {i:Nat} (hi:i<n):A8 G6 (fun b=>ob+1≤b) w (f i).1 (f i).2 (tabs i):=(h.own i hi).row (fun _ h=>h.elim) (fun k hk=>((h.own i hi).lt k hk).1)
theorem Tbl.congr {tabs':Nat→List C1} (h:Tbl w ob te t n f tabs) (e:∀ s,s<n→tabs s=tabs' s):Tbl w ob te t n f tabs':=by
 have ec:L2 n f tabs=L2 n f tabs':=by
  unfold L2
  congr 1
  refine List.map_congr_left fun i hi=>?_
  rw [e i (List.mem_range.1 hi)]
 exact ⟨ec▸h.blk,fun i hi=>by rw [←e i hi];exact h.own i hi,h.apart⟩
theorem Tbl.put (h:Tbl w ob te t n f tabs) {s:Nat} (hs:s<n) {ao:Option Addr} {cap m:Nat} {l:List C1} (hm:m=l.length) (ho:C7 G6 t (fun _=>False) (ob+1) w' ao m cap l) (hg:w.grownBy w' (Go.St.blk (f s).1))
  (hd:Go.St.blk ao=Go.St.blk (f s).1∨Go.St.blk ao=some w.heap.size):Tbl (w'.setCell ⟨ob,s,none⟩ (.slice ao m cap)) ob te t n (upd f s (ao,cap)) (upd tabs s l):=by
 subst hm
 have hkeep:∀ k,k≠ob→(w'.setCell ⟨ob,s,none⟩ (.slice ao l.length cap)).heap[k]? =w'.heap[k]? :=fun k hk=>Below.heap_setCell _ _ _ _ hk
 have hz:(w'.setCell ⟨ob,s,none⟩ (.slice ao l.length cap)).heap.size=w'.heap.size:=by simp
 refine ⟨?_,fun i hi=>?_,fun i j k hi hj h1 h2=>?_⟩
 ·have hb:A6 w' ob te (L2 n f tabs):=h.blk.grown hg (fun e=>by have:=((h.own s hs).lt ob e.symm).1;omega)
  have:=hb.set s (.slice ao l.length cap)
  rw [A6x hs] at this
  exact this
 ·by_cases his:i=s
  ·subst his
   rw [C10,C10]
   exact ho.keep (by rw [hz];exact Nat.le_refl _) fun k hk=>hkeep k (by
    rcases hk with hk|hk
    ·have:=(ho.lt k hk).1;omega
    ·exact hk.elim)
  ·rw [O9 _ _ his,O9 _ _ his]
   have hio:=h.own i hi
   refine hio.keep (by rw [hz];exact hg.size) fun k hk=>?_
   rcases hk with hk|hk
   ·have hk1:=hio.lt k hk
    rw [hkeep k (by omega)]
    exact hg.block k hk1.2 fun e=>his (h.apart i s k hi hs hk e.symm)
   ·exact hk.elim
 ·by_cases his:i=s<;>by_cases hjs:j=s
  ·rw [his,hjs]
  ·subst his
   rw [C10] at h1
   rw [O9 _ _ hjs] at h2
   rcases hd with hd|hd
   ·exact absurd (h.apart j i k hj hs h2 (by rw [←hd];exact h1)) hjs
   ·rw [hd] at h1
    have e1:w.heap.size=k:=by simpa using h1
    have:=((h.own j hj).lt k h2).2;omega
  ·subst hjs
   rw [C10] at h2
   rw [O9 _ _ his] at h1
   rcases hd with hd|hd
   ·exact absurd (h.apart i j k hi hs h1 (by rw [←hd];exact h2)) his
   ·rw [hd] at h2
    have e1:w.heap.size=k:=by simpa using h2
    have:=((h.own i hi).lt k h1).2;omega
  ·rw [O9 _ _ his] at h1
   rw [O9 _ _ hjs] at h2
   exact h.apart i j k hi hj h1 h2
end
def SO (ob s pb gb o:Nat) (so:Value) (v y:Int) (w:World):Prop:=w.cell? ⟨ob,s,none⟩=some so∧w.cell? ⟨pb,0,none⟩=some (.int .i64 v)∧w.cell? ⟨gb,o,none⟩=some (.int .i64 y)
theorem SO.under {ob s pb gb o:Nat} {so:Value} {v y:Int} {w w':World} (h:SO ob s pb gb o so v y w) (h1:ob<w.heap.size) (h2:pb<w.heap.size) (h3:gb<w.heap.size) (hb:Below w.heap.size w w'):SO ob s pb gb o so v y w':=
 ⟨B8 hb h1 h.1,B8 hb h2 h.2.1,B8 hb h3 h.2.2⟩
theorem S9 {α:Type} {S:D1 α} {ok:Nat→Prop} {w:World} {pa:Option Addr} {pc:Nat} {ps:List (List α)} (h:A8 (F7 S) ok w pa pc ps) {j:Nat} {p:List α} (hj:ps[j]? =some p):
  ∃ b off ao cap,pa=some ⟨b,off,none⟩∧b<w.heap.size∧A8 S ok w ao cap p∧∀ w',Below w.heap.size w w'→w'.cell? ⟨b,off+j,none⟩=some (.slice ao p.length cap):=by
 obtain ⟨b,off,rfl,_,hbl,cs,⟨ao,cap,rfl,hr⟩,hce⟩:=h.get hj
 refine ⟨b,off,ao,cap,rfl,hbl,hr,fun w' hb=>?_⟩
 have:=B8 hb hbl (hce 0 _ rfl)
 simpa only [F7,Nat.add_zero,Nat.mul_one] using this
theorem A1p {ok:Nat→Prop} {w:World} {ao:Option Addr} {cap:Nat} {p:List Int} (h:A8 C2 ok w ao cap p) {j:Nat} {x:Int} (hj:p[j]? =some x):
  ∃ b off,ao=some ⟨b,off,none⟩∧b<w.heap.size∧I64 x∧∀ w',Below w.heap.size w w'→w'.cell? ⟨b,off+j,none⟩=some (.int .i64 x):=by
 obtain ⟨b,off,rfl,_,hbl,cs,⟨rfl,hx⟩,hce⟩:=h.get hj
 refine ⟨b,off,rfl,hbl,hx,fun w' hb=>?_⟩
 have:=B8 hb hbl (hce 0 _ rfl)
 simpa only [C2,Nat.add_zero,Nat.mul_one] using this
end Go.St
