/- Texts of this proof, one behind the other. -/
import Derived.Test.YtampcbncgofkoaaGreatDoorPk39
set_option linter.unusedSimpArgs false
set_option linter.unusedVariables false
set_option maxRecDepth 100000
set_option maxHeartbeats 16000000
namespace Go.St
open Go.RowKit
def A1c {α:Type} (s:D1 α) (ok:Nat→Prop) (w:World) (ao:Option Addr) (cap:Nat) (xs:List α):Prop:=
 xs.length≤cap∧cap≤maxLen∧(xs=[]∨∃ b off,ao=some ⟨b,off,none⟩∧b<w.heap.size∧V6 s ok w b off xs)
section
variable {α : Type} {s : D1 α} {ok ok' : Nat → Prop} {w w' : World} {ao : Option Addr} {cap : Nat} {xs : List α}
theorem A8.E (h:A8 s ok w ao cap xs):A1c s ok w ao cap xs:=⟨h.1,h.2.1,h.2.2.imp id fun ⟨b,off,e,_,hl,he⟩=>⟨b,off,e,hl,he⟩⟩
theorem A1c.len_le (h:A1c s ok w ao cap xs):xs.length≤9223372036854775807:=by
 have h1:=h.1
 have h2:=h.2.1
 unfold maxLen at h2
 omega
theorem A1c.mono (h:A1c s ok w ao cap xs) (hb:Below w.heap.size w w') (hk:∀ b,b<w.heap.size→ok b→ok' b):A1c s ok' w' ao cap xs:=
 ⟨h.1,h.2.1,h.2.2.imp id fun ⟨b,off,e,hl,he⟩=>⟨b,off,e,A3d hl (hb.block b hl),he.mono (hb.block b hl) fun b hb' ho=>⟨hk b hb' ho,hb.block b hb'⟩⟩⟩
theorem A1c.below (h:A1c s ok w ao cap xs) (hb:Below w.heap.size w w'):A1c s ok w' ao cap xs:=h.mono hb (fun _ _ h=>h)
theorem A1c.anyOk (h:A1c s ok w ao cap xs) (hk:∀ b,b<w.heap.size→ok b→ok' b):A1c s ok' w ao cap xs:=h.mono (Below.refl _ _) hk
theorem A1c.get (h:A1c s ok w ao cap xs) {i:Nat} {x:α} (hx:xs[i]? =some x):∃ b off,ao=some ⟨b,off,none⟩∧b<w.heap.size∧∃ cs,s.rep ok w cs x∧∀ j c,cs[j]? =some c→w.cell? ⟨b,off+i * s.size+j,none⟩=some c:=by
 obtain ⟨h1,h2,rfl|⟨b,off,rfl,hl,he⟩⟩:=h
 ·simp at hx
 ·exact ⟨b,off,rfl,hl,he i x hx⟩
theorem C7.E {e:TypeId} {base n:Nat} (h:C7 s e ok base w ao n cap xs):A1c s ok w ao cap xs:=by
 have hr:=h.row (ok':=fun _=>True) (fun _ _=>trivial) (fun _ _=>trivial)
 refine ⟨hr.1,hr.2.1,?_⟩
 obtain ⟨cells,h1,rfl,h3,h4,h5⟩:=h
 obtain ⟨hc,hle,hm,⟨rfl,h0⟩|⟨g,cur,rfl,hb,hg,r⟩⟩:=id h1
 ·left
  exact List.eq_nil_of_length_eq_zero (by omega)
 ·right
  refine ⟨g,0,rfl,(h1.lt g rfl).2,fun i x hx=>⟨_,h3 i x hx,fun j c hj=>?_⟩⟩
  rw [Nat.zero_add]
  exact h1.cell rfl _ _ (Z2 hj)
end
def A71:D1 Int where
 size:=1
 rep _ _ cs x:=cs=[.int .i64 x]
 len h:=by rw [h];rfl
 one h:=by rw [h];simp [Value.oneCell']
 mono h _:=h
theorem B2x {w:World} {b:Nat} {e:TypeId} {x:Int} {ok:Nat→Prop} (h:A6 w b e #[.int .i64 x]):D7 A71 ok w (some ⟨b,0,none⟩) [x]:=by
  refine .inr ⟨b,0,rfl,fun i y hy=>?_⟩
  match i,hy with
  |0,hy=>
    obtain rfl:x=y:=by simpa using hy
    refine ⟨_,rfl,fun j c hc=>?_⟩
    simp only [Nat.zero_mul,Nat.zero_add]
    rw [h.cells.1 j]
    simpa using hc
  |i+1,hy=>simp at hy
theorem A8n (z:Value) (n:Nat):(madeCells #[z,z] n).toList=List.replicate n z:=by
 apply List.ext_getElem?
 intro j
 by_cases hj:j<n
 ·rcases Nat.mod_two_eq_zero_or_one j with h|h<;>simp [madeCells,hj,h]
 ·simp [madeCells,hj]
theorem A94 {z:Value} {N i:Nat} (hi:i<N):I3 2 (madeCells #[z,z] (N * 2)).toList i=[z,z]:=by
 rw [A8n]
 unfold I3
 rw [List.drop_replicate,List.take_replicate,show min 2 (N * 2 - i * 2)=2 by omega]
 rfl
def I4 (tb:Nat) (v:Value) (w:World):Prop:=w.cell? ⟨tb,0,none⟩=some v
section
variable {P : Program} {ops : Array Oper} {Q : Exit → Act → World → Prop} {md : Region.Mode} {S : World → Prop} {L : Nat}
theorem A2b {i j l:Nat} {oi oj ol:Oper} {fuel:Nat} {listed:Array Bool} {a:Act} {w:World} (hi:ops[i]? =some oi) (hj:ops[j]? =some oj) (hl:ops[l]? =some ol)
  (gi:Region.wanted oi (yielded ops a.tmps)=true) (gj:Region.wanted oj (yielded ops a.tmps)=true) (gl:Region.wanted ol (yielded ops a.tmps)=true) (hs:(Region.ready md ops listed==[i,j,l])=true)
  (h1:∀ K:Act→World→Prop,(∀ a' w',(i≠L→S w')→L5 P md ops Q S L fuel (listed.setIfInBounds i true) a' w'→K a' w')→oi.wp P a w K Q)
  (h2:∀ K:Act→World→Prop,(∀ a' w',(j≠L→S w')→L5 P md ops Q S L fuel (listed.setIfInBounds j true) a' w'→K a' w')→oj.wp P a w K Q)
  (h3:∀ K:Act→World→Prop,(∀ a' w',(l≠L→S w')→L5 P md ops Q S L fuel (listed.setIfInBounds l true) a' w'→K a' w')→ol.wp P a w K Q):
  L5 P md ops Q S L (fuel+1) listed a w:=by
 have hr:Region.ready md ops listed=[i,j,l]:=by simpa using hs
 refine ⟨fun h0=>(by rw [h0] at hr;cases hr),fun k hk=>?_⟩
 rw [hr] at hk
 have hk':k=i∨k=j∨k=l:=by simpa using hk
 rcases hk' with rfl|rfl|rfl
 ·unfold wpOp
  simp only [hi]
  rw [if_pos gi]
  exact .inl (h1 _ fun _ _ a b=>⟨a,b⟩)
 ·unfold wpOp
  simp only [hj]
  rw [if_pos gj]
  exact .inl (h2 _ fun _ _ a b=>⟨a,b⟩)
 ·unfold wpOp
  simp only [hl]
  rw [if_pos gl]
  exact .inl (h3 _ fun _ _ a b=>⟨a,b⟩)
end
end Go.St
namespace Go.Proofs.YtampcbncgofkoaaGreatDoor
open Go.RowKit Go.St
theorem C9.start {w:World} {R N sb ob bb lc:Nat} {la:Option Addr} {ls:List X9} {okl:Nat→Prop} (hR:A6 w R 79 #[.int .i64 0,.int .i64 0,.slice none 0 0,.slice none 0 0,.int .i64 0,.slice none 0 0,.slice none 0 0,.int .i64 0,.slice none 0 0,.slice (some ⟨sb,0,none⟩) N N,.slice (some ⟨ob,0,none⟩) N N,.slice (some ⟨bb,0,none⟩) N N,.slice none 0 0,.slice none 0 0,.int .i64 ((N:Nat):Int),.slice la ls.length lc])
  (hS:A6 w sb 65 (madeCells #[.slice none 0 0,.slice none 0 0] (N * 2))) (hO:A6 w ob 76 (madeCells #[.slice none 0 0] N)) (hB:A6 w bb 41 (madeCells #[.slice none 0 0] N))
  (h1:R<sb) (h2:R<ob) (h3:R<bb) (hN:N≤8) (hl:A8 A0e okl w la lc ls) (hlk:∀ b,okl b→b<R):
  ∃ M V,C9 okl M la lc R N ⟨((N:Nat):Int),ls⟩ w (D3 ⟨((N:Nat):Int),ls⟩) V∧∀ b,M b→R≤b:=by
 refine ⟨fun b=>b=R∨b=sb∨b=ob∨b=bb,⟨.int .i64 0,.slice none 0 0,.slice none 0 0,.int .i64 0,.slice none 0 0,.slice none 0 0,none,0,sb,ob,bb,none,0,none,0,fun _=>(none,0),fun _=>(none,0)⟩,?_,fun b hb=>by rcases hb with rfl|rfl|rfl|rfl<;>omega⟩
 have hNn:(D3 ⟨((N:Nat):Int),ls⟩).switches.length=N:=by simp [D3]
 have hin:∀ {α:Type} (i:Nat),(List.replicate N ([]:List α)).getD i []=[]:=fun i=>by
  rw [List.getD_eq_getElem?_getD,List.getElem?_replicate];split<;>rfl
 refine ⟨hR,(show I64 0 from I64.small (by decide) (by decide)),(show I64 0 from I64.small (by decide) (by decide)),A05 _ _,A05 _ _,A8.nil _ _ _ _,rfl,hl,?_,?_,?_,qR.nil _ _ _ _ _,qR.nil _ _ _ _ _,fun b ho hm=>?_,.inl rfl,.inr (.inl rfl),.inr (.inr (.inl rfl)),.inr (.inr (.inr rfl)),fun s _ k hk=>by simp [Go.St.blk] at hk,fun s _ k hk=>by simp [Go.St.blk] at hk,fun k hk=>by simp [Go.St.blk] at hk,fun k hk=>by simp [Go.St.blk] at hk,fun b hb=>?_⟩
 ·-- the switches
  have hz:(madeCells #[.slice none 0 0,.slice none 0 0] (N * 2)).toList.length=N * 2:=by rw [A8n];simp
  refine ⟨(madeCells #[.slice none 0 0,.slice none 0 0] (N * 2)).toList,⟨hz,Nat.le_refl _,by simp only [maxLen];omega,.inr ⟨sb,0,_,rfl,by omega,hS,?_,?_⟩⟩,hNn,fun i x hx=>?_⟩
  ·have e9:(madeCells #[.slice none 0 0,.slice none 0 0] (N * 2)).size=N * 2:=size_madeCells _ _
   show 0+N * 2≤_
   omega
  ·show List.take (N * 2) (List.drop 0 _)=_
   rw [List.drop_zero];exact List.take_of_length_le (Nat.le_of_eq hz)
  ·have hi:i<N:=by rw [←hNn];exact (List.getElem?_eq_some_iff.1 hx).1
   have hx':(List.replicate N O5)[i]? =some x:=by simpa [D3] using hx
   rw [List.getElem?_replicate,if_pos hi] at hx'
   obtain rfl:O5=x:=by simpa using hx'
   exact ⟨none,0,none,0,A94 hi,A8.nil _ _ _ _,A8.nil _ _ _ _⟩
 ·refine ⟨by simp [D3],?_,fun i hi=>?_,fun i j k hi hj hk=>by simp [Go.St.blk] at hk⟩
  ·rw [A1l] at hO
   rw [T7 (len':=fun _=>0) (fun i hi=>by show ((List.replicate _ _).getD i []).length=0;rw [show ((⟨((N:Nat):Int),ls⟩:C5).n.toNat)=N by simp,hin];rfl)]
   exact hO
  ·have e:(D3 ⟨((N:Nat):Int),ls⟩).orders.getD i []=[]:=by show (List.replicate _ _).getD i []=[];rw [show ((⟨((N:Nat):Int),ls⟩:C5).n.toNat)=N by simp,hin]
   rw [e];exact qR.nil _ _ _ _ _
 ·refine ⟨by simp [D3],?_,fun i hi=>?_,fun i j k hi hj hk=>by simp [Go.St.blk] at hk⟩
  ·rw [A1l] at hB
   rw [T7 (len':=fun _=>0) (fun i hi=>by show ((List.replicate _ _).getD i []).length=0;rw [show ((⟨((N:Nat):Int),ls⟩:C5).n.toNat)=N by simp,hin];rfl)]
   exact hB
  ·have e:(D3 ⟨((N:Nat):Int),ls⟩).backs.getD i []=[]:=by show (List.replicate _ _).getD i []=[];rw [show ((⟨((N:Nat):Int),ls⟩:C5).n.toNat)=N by simp,hin]
   rw [e];exact qR.nil _ _ _ _ _
 ·have:=hlk b ho
  rcases hm with rfl|rfl|rfl|rfl<;>omega
 ·have:=hR.lt;have:=hS.lt;have:=hO.lt;have:=hB.lt
  rcases hb with rfl|rfl|rfl|rfl<;>omega
structure Rg8 (tb R N:Nat) (la:Option Addr) (ls:List X9) (lc:Nat) (w0 w:World) (v9 v10 v11:Value) (s o b:Option Nat):Prop where
 top:w.cell? ⟨tb,0,none⟩=some (.int .i64 (N:Int))
 tr:tb<R
 box:A6 w R 79 #[.int .i64 0,.int .i64 0,.slice none 0 0,.slice none 0 0,.int .i64 0,.slice none 0 0,.slice none 0 0,.int .i64 0,.slice none 0 0,v9,v10,v11,.slice none 0 0,.slice none 0 0,.int .i64 ((N:Nat):Int),.slice la ls.length lc]
 bl:Below R w0 w
 hs:∀ x,s=some x→R<x∧A6 w x 65 (madeCells #[.slice none 0 0,.slice none 0 0] (N * 2))
 ho:∀ x,o=some x→R<x∧A6 w x 76 (madeCells #[.slice none 0 0] N)
 hb:∀ x,b=some x→R<x∧A6 w x 41 (madeCells #[.slice none 0 0] N)
section
variable {tb R N : Nat} {la : Option Addr} {ls : List X9} {lc : Nat} {w0 w w' : World} {v9 v10 v11 : Value} {s o b : Option Nat}
theorem Rg8.start {τ:TypeId} {v:Value} (ht:A6 w tb τ #[.int .i64 (N:Int),v]) (hr:A6 w R 79 #[.int .i64 0,.int .i64 0,.slice none 0 0,.slice none 0 0,.int .i64 0,.slice none 0 0,.slice none 0 0,.int .i64 0,.slice none 0 0,.slice none 0 0,.slice none 0 0,.slice none 0 0,.slice none 0 0,.slice none 0 0,.int .i64 ((N:Nat):Int),.slice la ls.length lc]) (hb:Below R w0 w) (h:tb<R):Rg8 tb R N la ls lc w0 w (.slice none 0 0) (.slice none 0 0) (.slice none 0 0) none none none:=
 ⟨ht.cells.1 0,h,hr,hb,fun _ h=>(by cases h),fun _ h=>(by cases h),fun _ h=>(by cases h)⟩
theorem Rg8.under (h:Rg8 tb R N la ls lc w0 w v9 v10 v11 s o b) (k:Below w.heap.size w w'):Rg8 tb R N la ls lc w0 w' v9 v10 v11 s o b:=
 have hl:=h.box.lt
 ⟨B8 k (Nat.lt_trans h.tr hl) h.top,h.tr,h.box.under k,h.bl.trans (k.mono (Nat.le_of_lt hl)),fun x e=>⟨(h.hs x e).1,(h.hs x e).2.under k⟩,fun x e=>⟨(h.ho x e).1,(h.ho x e).2.under k⟩,fun x e=>⟨(h.hb x e).1,(h.hb x e).2.under k⟩⟩
theorem A22 (w:World) (x:Obj):Below w.heap.size w (w.alloc x):=(Below.refl _ _).alloc (Nat.le_refl _) x
theorem Rg8.a5 (h:Rg8 tb R N la ls lc w0 w v9 v10 v11 s o b):Rg8 tb R N la ls lc w0 (w.alloc (.cells (madeCells #[.slice none 0 0,.slice none 0 0] (N * 2)) 65)) v9 v10 v11 (some w.heap.size) o b:=
 ⟨(h.under (A22 _ _)).top,h.tr,(h.under (A22 _ _)).box,(h.under (A22 _ _)).bl,fun x e=>⟨by have:=h.box.lt;simp at e;omega,A6.new (by simpa using e)⟩,(h.under (A22 _ _)).ho,(h.under (A22 _ _)).hb⟩
theorem Rg8.a8 (h:Rg8 tb R N la ls lc w0 w v9 v10 v11 s o b):Rg8 tb R N la ls lc w0 (w.alloc (.cells (madeCells #[.slice none 0 0] N) 76)) v9 v10 v11 s (some w.heap.size) b:=
 ⟨(h.under (A22 _ _)).top,h.tr,(h.under (A22 _ _)).box,(h.under (A22 _ _)).bl,(h.under (A22 _ _)).hs,fun x e=>⟨by have:=h.box.lt;simp at e;omega,A6.new (by simpa using e)⟩,(h.under (A22 _ _)).hb⟩
theorem Rg8.a11 (h:Rg8 tb R N la ls lc w0 w v9 v10 v11 s o b):Rg8 tb R N la ls lc w0 (w.alloc (.cells (madeCells #[.slice none 0 0] N) 41)) v9 v10 v11 s o (some w.heap.size):=
 ⟨(h.under (A22 _ _)).top,h.tr,(h.under (A22 _ _)).box,(h.under (A22 _ _)).bl,(h.under (A22 _ _)).hs,(h.under (A22 _ _)).ho,fun x e=>⟨by have:=h.box.lt;simp at e;omega,A6.new (by simpa using e)⟩⟩
theorem Rg8.st {u9 u10 u11:Value} (h:Rg8 tb R N la ls lc w0 w v9 v10 v11 s o b) (k:Nat) (v:Value) (hc:(#[.int .i64 0,.int .i64 0,.slice none 0 0,.slice none 0 0,.int .i64 0,.slice none 0 0,.slice none 0 0,.int .i64 0,.slice none 0 0,v9,v10,v11,.slice none 0 0,.slice none 0 0,.int .i64 ((N:Nat):Int),.slice la ls.length lc]:Array Value).setIfInBounds k v=#[.int .i64 0,.int .i64 0,.slice none 0 0,.slice none 0 0,.int .i64 0,.slice none 0 0,.slice none 0 0,.int .i64 0,.slice none 0 0,u9,u10,u11,.slice none 0 0,.slice none 0 0,.int .i64 ((N:Nat):Int),.slice la ls.length lc]):Rg8 tb R N la ls lc w0 (w.setCell ⟨R,k,none⟩ v) u9 u10 u11 s o b:=by
 have hne:∀ x,R<x→x≠(⟨R,k,none⟩:Addr).block:=fun x hx e=>by have e1:x=R:=e;omega
 refine ⟨?_,h.tr,hc▸h.box.set k v,h.bl.setCell (Nat.le_refl _) v,fun x e=>⟨(h.hs x e).1,(h.hs x e).2.setOther (hne x (h.hs x e).1) v⟩,fun x e=>⟨(h.ho x e).1,(h.ho x e).2.setOther (hne x (h.ho x e).1) v⟩,fun x e=>⟨(h.hb x e).1,(h.hb x e).2.setOther (hne x (h.hb x e).1) v⟩⟩
 have e:(w.setCell ⟨R,k,none⟩ v).heap[tb]? =w.heap[tb]? :=Below.heap_setCell _ _ _ _ (fun e=>by have e1:tb=R:=e;have:=h.tr;omega)
 have:=h.top
 simp only [World.cell?] at this ⊢
 rw [e];exact this
theorem Rg8.s9 (h:Rg8 tb R N la ls lc w0 w v9 v10 v11 s o b) (v:Value):Rg8 tb R N la ls lc w0 (w.setCell ⟨R,9,none⟩ v) v v10 v11 s o b:=h.st 9 v rfl
theorem Rg8.s10 (h:Rg8 tb R N la ls lc w0 w v9 v10 v11 s o b) (v:Value):Rg8 tb R N la ls lc w0 (w.setCell ⟨R,10,none⟩ v) v9 v v11 s o b:=h.st 10 v rfl
theorem Rg8.s11 (h:Rg8 tb R N la ls lc w0 w v9 v10 v11 s o b) (v:Value):Rg8 tb R N la ls lc w0 (w.setCell ⟨R,11,none⟩ v) v9 v10 v s o b:=h.st 11 v rfl
theorem Rg8.c9 (h:Rg8 tb R N la ls lc w0 w v9 v10 v11 s o b):w.cell? ⟨R,9,none⟩=some v9:=h.box.cells.1 9
theorem Rg8.c10 (h:Rg8 tb R N la ls lc w0 w v9 v10 v11 s o b):w.cell? ⟨R,10,none⟩=some v10:=h.box.cells.1 10
theorem Rg8.c11 (h:Rg8 tb R N la ls lc w0 w v9 v10 v11 s o b):w.cell? ⟨R,11,none⟩=some v11:=h.box.cells.1 11
theorem Rg8.all {x y z:Nat} (h:Rg8 tb R N la ls lc w0 w v9 v10 v11 (some x) (some y) (some z)):A6 w R 79 #[.int .i64 0,.int .i64 0,.slice none 0 0,.slice none 0 0,.int .i64 0,.slice none 0 0,.slice none 0 0,.int .i64 0,.slice none 0 0,v9,v10,v11,.slice none 0 0,.slice none 0 0,.int .i64 ((N:Nat):Int),.slice la ls.length lc]∧Below R w0 w∧A6 w x 65 (madeCells #[.slice none 0 0,.slice none 0 0] (N * 2))∧A6 w y 76 (madeCells #[.slice none 0 0] N)∧A6 w z 41 (madeCells #[.slice none 0 0] N)∧R<x∧R<y∧R<z:=
 ⟨h.box,h.bl,(h.hs _ rfl).2,(h.ho _ rfl).2,(h.hb _ rfl).2,(h.hs _ rfl).1,(h.ho _ rfl).1,(h.hb _ rfl).1⟩
end
theorem B23:(Tryz.prog.info? 65).map (fun i=>(i.zero,i.size,i.bytes))=some (some (.agg #[.slice none 0 0,.slice none 0 0]),2,48):=by kernel_rfl
theorem B2q:(Tryz.prog.info? 76).map (fun i=>(i.zero,i.size,i.bytes))=some (some (.slice none 0 0),1,24):=by kernel_rfl
theorem B3j:(Tryz.prog.info? 41).map (fun i=>(i.zero,i.size,i.bytes))=some (some (.slice none 0 0),1,24):=by kernel_rfl
theorem B36:(Tryz.prog.info? 27).map (fun i=>(i.zero,i.size,i.bytes))=some (some (.int .i64 0),1,8):=by kernel_rfl
theorem A5o {w:World} {ok:Nat→Prop}:A0g.rep ok w [.int .i64 0,.int .i64 0,.slice none 0 0,.slice none 0 0,.int .i64 0,.slice none 0 0,.slice none 0 0,.int .i64 0,.slice none 0 0,.slice none 0 0,.slice none 0 0,.slice none 0 0,.slice none 0 0,.slice none 0 0] A75:=
 ⟨_,none,0,none,0,none,0,none,0,none,0,rfl,P3.mk_ (c:=Q6) (I64.small (by decide) (by decide)) (I64.small (by decide) (by decide)) (A05 _ _) (A05 _ _) (A8.nil _ _ _ _),A8.nil _ _ _ _,A8.nil _ _ _ _,A8.nil _ _ _ _,A8.nil _ _ _ _,A8.nil _ _ _ _⟩
def A9c (b:Nat) (e a:Value) (w:World):Prop:=w.cell? ⟨b,0,none⟩=some e∧w.cell? ⟨b,1,none⟩=some a
theorem B53 (t:C5) (ts:List Value) (okt:Nat→Prop) (w:World) (h:I5.rep okt w ts t) (l:List Do) (da:Option Addr) (dc:Nat) (okd:Nat→Prop) (hd:A1c doS okd w da dc l):
  Calls Tryz.prog 8 #[.agg ts.toArray,.slice da l.length dc] w fun e w'=>∃ (cs:List Value) (ea:Option Addr) (ec:Nat),e=.returned (.tuple #[.agg cs.toArray,.slice ea (D9 t l).2.1.length ec,.agg #[.int .i64 (D9 t l).2.2.1,.int .i64 (D9 t l).2.2.2]])∧A0g.rep (fun b=>(okt b∨okd b)∨w.heap.size≤b) w' cs (D9 t l).1∧A8 A71 (fun b=>w.heap.size≤b) w' ea ec (D9 t l).2.1∧Below w.heap.size w w':=by
 have hT:=h
 obtain ⟨la,lc,rfl,htn,htr⟩:=h
 have hdx:=hd.len_le
 have hlx:=htr.len_le
 have hB0:Below w.heap.size w (((w.alloc (.cells #[.int .i64 t.n,.slice la t.links.length lc] 24)).alloc (.cells #[.int .i64 0,.int .i64 0,.slice none 0 0,.slice none 0 0,.int .i64 0,.slice none 0 0,.slice none 0 0,.int .i64 0,.slice none 0 0,.slice none 0 0,.slice none 0 0,.slice none 0 0,.slice none 0 0,.slice none 0 0] 50)).alloc (.cells #[.int .i64 0,.int .i64 0] 29)):=A7q _ _ _ _
 have hT0:A6 (((w.alloc (.cells #[.int .i64 t.n,.slice la t.links.length lc] 24)).alloc (.cells #[.int .i64 0,.int .i64 0,.slice none 0 0,.slice none 0 0,.int .i64 0,.slice none 0 0,.slice none 0 0,.int .i64 0,.slice none 0 0,.slice none 0 0,.slice none 0 0,.slice none 0 0,.slice none 0 0,.slice none 0 0] 50)).alloc (.cells #[.int .i64 0,.int .i64 0] 29)) w.heap.size 24 #[.int .i64 t.n,.slice la t.links.length lc]:=(A6.new rfl).alloc _|>.alloc _
 have hX0:A6 (((w.alloc (.cells #[.int .i64 t.n,.slice la t.links.length lc] 24)).alloc (.cells #[.int .i64 0,.int .i64 0,.slice none 0 0,.slice none 0 0,.int .i64 0,.slice none 0 0,.slice none 0 0,.int .i64 0,.slice none 0 0,.slice none 0 0,.slice none 0 0,.slice none 0 0,.slice none 0 0,.slice none 0 0] 50)).alloc (.cells #[.int .i64 0,.int .i64 0] 29)) (w.heap.size+1) 50 #[.int .i64 0,.int .i64 0,.slice none 0 0,.slice none 0 0,.int .i64 0,.slice none 0 0,.slice none 0 0,.int .i64 0,.slice none 0 0,.slice none 0 0,.slice none 0 0,.slice none 0 0,.slice none 0 0,.slice none 0 0]:=(A6.new (by simp)).alloc _
 have hF0:A6 (((w.alloc (.cells #[.int .i64 t.n,.slice la t.links.length lc] 24)).alloc (.cells #[.int .i64 0,.int .i64 0,.slice none 0 0,.slice none 0 0,.int .i64 0,.slice none 0 0,.slice none 0 0,.int .i64 0,.slice none 0 0,.slice none 0 0,.slice none 0 0,.slice none 0 0,.slice none 0 0,.slice none 0 0] 50)).alloc (.cells #[.int .i64 0,.int .i64 0] 29)) (w.heap.size+2) 29 #[.int .i64 0,.int .i64 0]:=A6.new (by simp)
 have HE1:Hid ((B6 t).1≠0→D9 t l=(A75,[],B6 t)):=fun h=>by unfold D9;rw [if_pos h]
 have HE2:Hid ((B6 t).1=0→200<l.length→D9 t l=(A75,[],(5,0))):=fun h h2=>by unfold D9;rw [if_neg (fun k=>k h),if_pos h2]
 have HE3:Hid ((B6 t).1=0→l.length≤200→D9 t l=((D5 t (D3 t) l).1,(D5 t (D3 t) l).2,(0,0))):=fun h h2=>W2 h h2
 have HR8:Hid ((B6 t).1=0→1≤t.n∧t.n≤8):=fun h=>by have:=(J8 h).1;omega
 go_enter Tryz.func8,Tryz.ntmps8
 go_wp2_with fail
 generalize (((w.alloc (.cells #[.int .i64 t.n,.slice la t.links.length lc] 24)).alloc (.cells #[.int .i64 0,.int .i64 0,.slice none 0 0,.slice none 0 0,.int .i64 0,.slice none 0 0,.slice none 0 0,.int .i64 0,.slice none 0 0,.slice none 0 0,.slice none 0 0,.slice none 0 0,.slice none 0 0,.slice none 0 0] 50)).alloc (.cells #[.int .i64 0,.int .i64 0] 29))=w0 at *
 refine (T9 t _ okt w0 (I5.below hT hB0)).mono ?_
 rintro e w1 ⟨rfl,hb1⟩
 have hB1:=hB0.trans (hb1.mono hB0.size)
 have hT1:=hT0.under hb1
 have hX1:=hX0.under hb1
 have hF1:=hF0.under hb1
 have hs1:=hF1.lt
 clear hB0 hT0 hX0 hF0 hb1
 have hbx:=G8 w1 (.cells #[.int .i64 (B6 t).1,.int .i64 (B6 t).2] 29)
 have hG1:=I6 w1 29 #[.int .i64 (B6 t).1,.int .i64 (B6 t).2]
 have hB2:=hB1.trans (hbx.mono hB1.size)
 have hT2:=hT1.under hbx
 have hX2:=hX1.under hbx
 have hF2:=hF1.under hbx
 clear hB1 hT1 hX1 hF1 hbx
 go_upto_region 2 with fail
 generalize w1.alloc _=w2 at *
 generalize hDD:w1.heap.size=D at *
 obtain ⟨g1,g2⟩:=hG1.cells
 have hDl:=hG1.lt
 by_cases htw:(B6 t).1=0
 case neg=>
  have HE:=Lib.hid (HE1.out htw)
  generalize B6 t=F at *
  obtain ⟨fe,fa⟩:=F
  dsimp only at *
  have e1:(fe !=0)=true:=by rw [bne_iff_ne];exact htw
  have hS0:A9c D (.int .i64 fe) (.int .i64 fa) w2.drew:=⟨hG1.cells.1 0,hG1.cells.1 1⟩
  clear htw HE1 HE2 HE3 HR8
  go_wp2
  clear e1 g1 g2
  refine B9 (A9c D (.int .i64 fe) (.int .i64 fa)) 99 (fun a0 a' w'=>∃ v16 v17,a'=C8 a0 [(16,v16),(17,v17),(5,.slice none 0 0)]∧A6 w' (w.heap.size+1) 50 #[.int .i64 0,.int .i64 0,.slice none 0 0,.slice none 0 0,.int .i64 0,.slice none 0 0,.slice none 0 0,.int .i64 0,.slice none 0 0,.slice none 0 0,.slice none 0 0,.slice none 0 0,.slice none 0 0,.slice none 0 0]∧A6 w' (w.heap.size+2) 29 #[.int .i64 fe,.int .i64 fa]∧Below w.heap.size w2 w') (by kernel_rfl) ?_ ?_
  ·intro Q' hR hQp
   have hb0:Below w2.heap.size w2 w2.drew:=N4 _
   have hS:A9c D (.int .i64 fe) (.int .i64 fa) w2.drew:=hS0
   generalize w2.drew=wa at *
   have hXa:=hX2.under hb0
   have hFa:=hF2.under hb0
   have hsa:=hb0.size
   have hGa:=hG1.under hb0
   refine A9 hQp hS [0,1] ?_
   iterate 2 (refine B2 _ rfl (by kernel_rfl) (A0 (by kernel_rfl) (by intro w0 hw0;have hw1:=hw0;simp only [A9c] at hw1;first|(go_simp;done)|(go_simp;rfl))) ?_;simp only [Act.put,St.tA,St.tD,St.tE,St.tS,St.tC,St.tZ])
   refine B3 ?_
   obtain ⟨x1,x2⟩:=hXa.cells
   have hxl:=hXa.lt
   clear hS
   refine A7 (i:=2) rfl (by kernel_rfl) (by kernel_rfl) fun K2 hK2=>?_
   go_simp
   go_wp2_with fail
   obtain ⟨hXb,FXb⟩:=B05 hXa (fun b=>b≠w.heap.size+1) w.heap.size (fun h=>h rfl) (by omega) (.int .i64 0) (.int .i64 0) (.slice none 0 0) (.slice none 0 0) (.int .i64 0) (.slice none 0 0) (.slice none 0 0) (.int .i64 0) (.slice none 0 0) (.slice none 0 0) (.slice none 0 0) (.slice none 0 0) (.slice none 0 0) (.slice none 0 0)
   have hGb:=FXb.blk hGa (.inl (by omega))
   have hS:A9c D (.int .i64 fe) (.int .i64 fa) _:=⟨hGb.cells.1 0,hGb.cells.1 1⟩
   have hFb:=FXb.blk hFa (.inl (by omega))
   refine hK2 _ _ (fun _=>hS) ?_
   clear hK2 x1 x2 hS
   generalize ((((((((((((((wa.setCell ⟨w.heap.size+1,0,none⟩ (.int .i64 0)).setCell ⟨w.heap.size+1,1,none⟩ (.int .i64 0)).setCell ⟨w.heap.size+1,2,none⟩ (.slice none 0 0)).setCell ⟨w.heap.size+1,3,none⟩ (.slice none 0 0)).setCell ⟨w.heap.size+1,4,none⟩ (.int .i64 0)).setCell ⟨w.heap.size+1,5,none⟩ (.slice none 0 0)).setCell ⟨w.heap.size+1,6,none⟩ (.slice none 0 0)).setCell ⟨w.heap.size+1,7,none⟩ (.int .i64 0)).setCell ⟨w.heap.size+1,8,none⟩ (.slice none 0 0)).setCell ⟨w.heap.size+1,9,none⟩ (.slice none 0 0)).setCell ⟨w.heap.size+1,10,none⟩ (.slice none 0 0)).setCell ⟨w.heap.size+1,11,none⟩ (.slice none 0 0)).setCell ⟨w.heap.size+1,12,none⟩ (.slice none 0 0)).setCell ⟨w.heap.size+1,13,none⟩ (.slice none 0 0))=wb at *
   have hS:A9c D (.int .i64 fe) (.int .i64 fa) wb:=⟨hGb.cells.1 0,hGb.cells.1 1⟩
   refine A9 hQp hS [3] ?_
   iterate 1 (refine B2 _ rfl (by kernel_rfl) (A0 (by kernel_rfl) (by intro w0 hw0;have hw1:=hw0;simp only [A9c] at hw1;first|(go_simp;done)|(go_simp;rfl))) ?_;simp only [Act.put,St.tA,St.tD,St.tE,St.tS,St.tC,St.tZ])
   refine B3 ?_
   obtain ⟨f1,f2⟩:=hFb.cells
   have hfl:=hFb.lt
   clear hS
   refine A7 (i:=4) rfl (by kernel_rfl) (by kernel_rfl) fun K4 hK4=>?_
   go_simp
   go_wp2_with fail
   have hGc:=(hGb.setOther (a:=⟨w.heap.size+2,0,none⟩) (by show D≠w.heap.size+2;omega) (.int .i64 fe)).setOther (a:=⟨w.heap.size+2,1,none⟩) (by show D≠w.heap.size+2;omega) (.int .i64 fa)
   refine hK4 _ _ (fun _=>⟨hGc.cells.1 0,hGc.cells.1 1⟩) ?_
   have hFc:=(hFb.set 0 (.int .i64 fe)).set 1 (.int .i64 fa)
   simp only [St.tS,St.tC,St.tZ] at hFc
   clear hK4 f1 f2
   refine B5 (by kernel_rfl) ?_ _
   refine hR _ _ ?_
   iterate 2 apply Exists.intro
   refine ⟨?_,⟨(hXb.setOther (by first|(simp;done)|(simp;omega)) _).setOther (by first|(simp;done)|(simp;omega)) _,hFc,((hb0.mono hB2.size).trans FXb.below).setCell (by show w.heap.size≤w.heap.size+2;omega) _|>.setCell (by show w.heap.size≤w.heap.size+2;omega) _⟩⟩
   simp only [C8,Act.put,St.tS,St.tC,St.tZ]
   rfl
  rintro a' w8 ⟨v16,v17,rfl,hb8⟩
  simp only [C8,Act.put,St.tS,St.tC,St.tZ]
  obtain ⟨hXz,hFz,hbz⟩:=hb8
  obtain ⟨x1,x2⟩:=hXz.cells
  obtain ⟨f1,f2⟩:=hFz.cells
  have hBz:=Lib.hid (hB2.trans hbz)
  clear hXz hFz hbz hS0
  go_wp2_with ((with_reducible refine bodyPost_ret (v:=.tuple #[.agg #[.int .i64 0,.int .i64 0,.slice none 0 0,.slice none 0 0,.int .i64 0,.slice none 0 0,.slice none 0 0,.int .i64 0,.slice none 0 0,.slice none 0 0,.slice none 0 0,.slice none 0 0,.slice none 0 0,.slice none 0 0],.slice none 0 0,.agg #[.int .i64 fe,.int .i64 fa]]) ?ra1 ?rb1 ?rc1);go_must (case ra1=>simp [results,Tryz.results8,go_sem,x1,f1]);go_must (case rb1=>rfl);go_must (case rc1=>rw [HE.out];exact ⟨_,none,0,rfl,A5o,A8.nil _ _ _ _,hBz.out⟩))
 have e1:((B6 t).1 !=0)=false:=by rw [bne_eq_false_iff_eq];exact htw
 obtain ⟨hn1,hn8⟩:=HR8.out htw
 obtain ⟨tn,ls⟩:=t
 dsimp only at *
 obtain ⟨N,rfl⟩:∃ N:Nat,tn=(N:Int):=⟨tn.toNat,by omega⟩
 by_cases hl2:l.length≤200
 case neg=>
  have HE:=Lib.hid (HE2.out htw (by omega))
  have e2:(200:Int)<(l.length:Int):=by omega
  obtain ⟨x1,x2⟩:=hX2.cells
  obtain ⟨f1,f2⟩:=hF2.cells
  have hxl:=hX2.lt
  have hfl:=hF2.lt
  obtain ⟨hXb,FXb⟩:=B05 hX2 (fun b=>b≠w.heap.size+1) w.heap.size (fun h=>h rfl) (by omega) (.int .i64 0) (.int .i64 0) (.slice none 0 0) (.slice none 0 0) (.int .i64 0) (.slice none 0 0) (.slice none 0 0) (.int .i64 0) (.slice none 0 0) (.slice none 0 0) (.slice none 0 0) (.slice none 0 0) (.slice none 0 0) (.slice none 0 0)
  have hFc:=((FXb.blk hF2 (.inl (by omega))).set 0 (.int .i64 5)).set 1 (.int .i64 0)
  simp only [St.tS,St.tC,St.tZ] at hFc
  have hXc:=(hXb.setOther (a:=⟨w.heap.size+2,0,none⟩) (by first|(simp;done)|(simp;omega)) (.int .i64 5)).setOther (a:=⟨w.heap.size+2,1,none⟩) (by first|(simp;done)|(simp;omega)) (.int .i64 0)
  have hBz:=Lib.hid (hB2.trans ((FXb.below.setCell (p:=⟨w.heap.size+2,0,none⟩) (by show w.heap.size≤w.heap.size+2;omega) (.int .i64 5)).setCell (p:=⟨w.heap.size+2,1,none⟩) (by show w.heap.size≤w.heap.size+2;omega) (.int .i64 0)))
  obtain ⟨y1,y2⟩:=hXc.cells
  obtain ⟨z1,z2⟩:=hFc.cells
  clear hXb FXb hFc hXc htw HE1 HE2 HE3 HR8 hl2
  go_wp2_with ((with_reducible refine bodyPost_ret (v:=.tuple #[.agg #[.int .i64 0,.int .i64 0,.slice none 0 0,.slice none 0 0,.int .i64 0,.slice none 0 0,.slice none 0 0,.int .i64 0,.slice none 0 0,.slice none 0 0,.slice none 0 0,.slice none 0 0,.slice none 0 0,.slice none 0 0],.slice none 0 0,.agg #[.int .i64 5,.int .i64 0]]) ?ra1 ?rb1 ?rc1);go_must (case ra1=>simp [results,Tryz.results8,go_sem,y1,z1]);go_must (case rb1=>rfl);go_must (case rc1=>rw [HE.out];exact ⟨_,none,0,rfl,A5o,A8.nil _ _ _ _,hBz.out⟩))
 have HE:=Lib.hid (HE3.out htw hl2)
 have HTW:=Lib.hid htw
 clear htw
 have e2:¬(200:Int)<(l.length:Int):=by omega
 clear HE1 HE2 HE3 HR8
 have hRx:=G8 w2 (.cells #[.int .i64 0,.int .i64 0,.slice none 0 0,.slice none 0 0,.int .i64 0,.slice none 0 0,.slice none 0 0,.int .i64 0,.slice none 0 0,.slice none 0 0,.slice none 0 0,.slice none 0 0,.slice none 0 0,.slice none 0 0,.int .i64 ((N:Nat):Int),.slice la ls.length lc] 79)
 have hR3:=I6 w2 79 #[.int .i64 0,.int .i64 0,.slice none 0 0,.slice none 0 0,.int .i64 0,.slice none 0 0,.slice none 0 0,.int .i64 0,.slice none 0 0,.slice none 0 0,.slice none 0 0,.slice none 0 0,.slice none 0 0,.slice none 0 0,.int .i64 ((N:Nat):Int),.slice la ls.length lc]
 have hT3:=hT2.under hRx
 have hX3:=hX2.under hRx
 have hF3:=hF2.under hRx
 have hB3:=hB2.trans (hRx.mono hB2.size)
 have hsw2:=hB2.size
 clear hRx
 obtain ⟨t1,t2⟩:=hT2.cells
 have htl:=hT2.lt
 go_upto_region 7 with fail
 generalize w2.alloc (.cells #[.int .i64 0,.int .i64 0,.slice none 0 0,.slice none 0 0,.int .i64 0,.slice none 0 0,.slice none 0 0,.int .i64 0,.slice none 0 0,.slice none 0 0,.slice none 0 0,.slice none 0 0,.slice none 0 0,.slice none 0 0,.int .i64 ((N:Nat):Int),.slice la ls.length lc] 79)=w3 at *
 generalize hRR:w2.heap.size=R at *
 clear t1 t2 g1 g2 e1 e2 hG1 hT2 hX2 hF2 hB2
 obtain ⟨i0,gi0,ga0,gb0,gc0⟩:=info_parts B23
 obtain ⟨i1,gi1,ga1,gb1,gc1⟩:=info_parts B2q
 obtain ⟨i2,gi2,ga2,gb2,gc2⟩:=info_parts B3j
 have r0:=fun w'=>run_make (P:=Tryz.prog) w' 44 65 i0 _ Tryz.underlying44 gi0 ga0 .i64 .i64 (N:Int) (N:Int) (by omega) (Int.le_refl _) (by rw [gc0];omega) (by omega)
 have r1:=fun w'=>run_make (P:=Tryz.prog) w' 45 76 i1 _ Tryz.underlying45 gi1 ga1 .i64 .i64 (N:Int) (N:Int) (by omega) (Int.le_refl _) (by rw [gc1];omega) (by omega)
 have r2:=fun w'=>run_make (P:=Tryz.prog) w' 46 41 i2 _ Tryz.underlying46 gi2 ga2 .i64 .i64 (N:Int) (N:Int) (by omega) (Int.le_refl _) (by rw [gc2];omega) (by omega)
 rw [gb0,Int.toNat_natCast] at r0
 rw [gb1,Nat.mul_one,Int.toNat_natCast] at r1
 rw [gb2,Nat.mul_one,Int.toNat_natCast] at r2
 have m0:∀ w',(Instr.makeSlice 44 (.int .i64 N) (.int .i64 N)).run Tryz.prog w'=.ok (.slice (some ⟨w'.heap.size,0,none⟩) N N) (w'.alloc (.cells (madeCells #[.slice none 0 0,.slice none 0 0] (N * 2)) 65)):=r0
 have m1:∀ w',(Instr.makeSlice 45 (.int .i64 N) (.int .i64 N)).run Tryz.prog w'=.ok (.slice (some ⟨w'.heap.size,0,none⟩) N N) (w'.alloc (.cells (madeCells #[.slice none 0 0] N) 76)):=r1
 have m2:∀ w',(Instr.makeSlice 46 (.int .i64 N) (.int .i64 N)).run Tryz.prog w'=.ok (.slice (some ⟨w'.heap.size,0,none⟩) N N) (w'.alloc (.cells (madeCells #[.slice none 0 0] N) 41)):=r2
 have hS0:I4 w.heap.size (.int .i64 (N:Int)) w3.drew:=hT3.cells.1 0
 clear r0 r1 r2 ga0 ga1 ga2 gb0 gb1 gb2 gc0 gc1 gc2 gi0 gi1 gi2
 refine B9 (I4 w.heap.size (.int .i64 (N:Int))) 99 (fun a0 a' w'=>∃ v26 v27 v28 v29 v30 v31 v32 v33 v34 v35 v36 v37 v38 v39 v40 v41 v42 v43 v44 v45 v46,a'=C8 a0 [(26,v26),(27,v27),(28,v28),(29,v29),(30,v30),(31,v31),(32,v32),(33,v33),(34,v34),(35,v35),(36,v36),(37,v37),(38,v38),(39,v39),(40,v40),(41,v41),(42,v42),(43,v43),(44,v44),(45,v45),(46,v46)]∧∃ sb ob bb,Rg8 w.heap.size R N la ls lc w3 w' (.slice (some ⟨sb,0,none⟩) N N) (.slice (some ⟨ob,0,none⟩) N N) (.slice (some ⟨bb,0,none⟩) N N) (some sb) (some ob) (some bb)) (by kernel_rfl) ?_ ?_
 ·intro Q' hR hQp
  have hb0:Below w3.heap.size w3 w3.drew:=N4 _
  have hS:I4 w.heap.size (.int .i64 (N:Int)) w3.drew:=hS0
  generalize w3.drew=wa at *
  have hg:=Rg8.start (hT3.under hb0) (hR3.under hb0) (hb0.mono (show R≤w3.heap.size by have:=hR3.lt;omega)) (by omega)
  refine A9 hQp hS [0,1,2,3,6,9,4,7,10] ?_
  iterate 9 (refine B2 _ rfl (by kernel_rfl) (A0 (by kernel_rfl) (by intro w0 hw0;have hw1:=hw0;simp only [I4] at hw1;first|(go_simp;done)|(go_simp;rfl))) ?_;simp only [Act.put,St.tA,St.tD,St.tE,St.tS,St.tC,St.tZ])
  refine B3 ?_
  clear hS hb0
  refine A2b (i:=5) (j:=8) (l:=11) rfl rfl rfl (by kernel_rfl) (by kernel_rfl) (by kernel_rfl) (by kernel_rfl) (fun K5 hK5=>?_) (fun K8 hK8=>?_) (fun K11 hK11=>?_)
  ·skip
   go_simp
   go_wp2_with fail
   replace hg:=hg.a5
   refine hK5 _ _ (fun _=>hg.top) ?_
   clear hK5
   generalize wa.alloc _=u1 at *
   generalize wa.heap.size=sb at *
   have hS:I4 _ _ u1:=hg.top
   refine A9 hQp hS [12,13,14] ?_
   iterate 3 (refine B2 _ rfl (by kernel_rfl) (A0 (by kernel_rfl) (by intro w0 hw0;have hw1:=hw0;simp only [I4] at hw1;first|(go_simp;done)|(go_simp;rfl))) ?_;simp only [Act.put,St.tA,St.tD,St.tE,St.tS,St.tC,St.tZ])
   refine B3 ?_
   clear hS
   refine A2b (i:=8) (j:=11) (l:=15) rfl rfl rfl (by kernel_rfl) (by kernel_rfl) (by kernel_rfl) (by kernel_rfl) (fun K8 hK8=>?_) (fun K11 hK11=>?_) (fun K15 hK15=>?_)
   ·skip
    go_simp
    go_wp2_with fail
    replace hg:=hg.a8
    refine hK8 _ _ (fun _=>hg.top) ?_
    clear hK8
    generalize u1.alloc _=u2 at *
    generalize u1.heap.size=ob at *
    refine H5 (i:=11) (j:=15) rfl rfl (by kernel_rfl) (by kernel_rfl) (by kernel_rfl) (fun K11 hK11=>?_) (fun K15 hK15=>?_)
    ·skip
     go_simp
     go_wp2_with fail
     replace hg:=hg.a11
     refine hK11 _ _ (fun _=>hg.top) ?_
     clear hK11
     generalize u2.alloc _=u3 at *
     generalize u2.heap.size=bb at *
     refine A7 (i:=15) rfl (by kernel_rfl) (by kernel_rfl) fun K15 hK15=>?_
     have z1:=hg.c9
     have z2:=hg.box.cells.2
     go_simp
     go_wp2_with fail
     clear z1 z2
     replace hg:=hg.s9 (.slice (some ⟨sb,0,none⟩) N N)
     refine hK15 _ _ (fun _=>hg.top) ?_
     clear hK15
     generalize u3.setCell _ _=u4 at *
     have hS:I4 _ _ u4:=hg.top
     refine A9 hQp hS [16,17,18] ?_
     iterate 3 (refine B2 _ rfl (by kernel_rfl) (A0 (by kernel_rfl) (by intro w0 hw0;have hw1:=hw0;simp only [I4] at hw1;first|(go_simp;done)|(go_simp;rfl))) ?_;simp only [Act.put,St.tA,St.tD,St.tE,St.tS,St.tC,St.tZ])
     refine B3 ?_
     clear hS
     refine A7 (i:=19) rfl (by kernel_rfl) (by kernel_rfl) fun K19 hK19=>?_
     have z1:=hg.c10
     have z2:=hg.box.cells.2
     go_simp
     go_wp2_with fail
     clear z1 z2
     replace hg:=hg.s10 (.slice (some ⟨ob,0,none⟩) N N)
     refine hK19 _ _ (fun _=>hg.top) ?_
     clear hK19
     generalize u4.setCell _ _=u5 at *
     have hS:I4 _ _ u5:=hg.top
     refine A9 hQp hS [20,21,22] ?_
     iterate 3 (refine B2 _ rfl (by kernel_rfl) (A0 (by kernel_rfl) (by intro w0 hw0;have hw1:=hw0;simp only [I4] at hw1;first|(go_simp;done)|(go_simp;rfl))) ?_;simp only [Act.put,St.tA,St.tD,St.tE,St.tS,St.tC,St.tZ])
     refine B3 ?_
     clear hS
     refine A7 (i:=23) rfl (by kernel_rfl) (by kernel_rfl) fun K23 hK23=>?_
     have z1:=hg.c11
     have z2:=hg.box.cells.2
     go_simp
     go_wp2_with fail
     clear z1 z2
     replace hg:=hg.s11 (.slice (some ⟨bb,0,none⟩) N N)
     refine hK23 _ _ (fun _=>hg.top) ?_
     clear hK23
     generalize u5.setCell _ _=u6 at *
     refine B5 (by kernel_rfl) ?_ _
     refine hR _ _ ?_
     iterate 21 apply Exists.intro
     refine ⟨?_,⟨_,_,_,hg⟩⟩
     simp only [C8,Act.put,St.tS,St.tC,St.tZ]
     rfl
    ·skip
     have z1:=hg.c9
     have z2:=hg.box.cells.2
     go_simp
     go_wp2_with fail
     clear z1 z2
     replace hg:=hg.s9 (.slice (some ⟨sb,0,none⟩) N N)
     refine hK15 _ _ (fun _=>hg.top) ?_
     clear hK15
     generalize u2.setCell _ _=u7 at *
     have hS:I4 _ _ u7:=hg.top
     refine A9 hQp hS [16,17,18] ?_
     iterate 3 (refine B2 _ rfl (by kernel_rfl) (A0 (by kernel_rfl) (by intro w0 hw0;have hw1:=hw0;simp only [I4] at hw1;first|(go_simp;done)|(go_simp;rfl))) ?_;simp only [Act.put,St.tA,St.tD,St.tE,St.tS,St.tC,St.tZ])
     refine B3 ?_
     clear hS
     refine H5 (i:=11) (j:=19) rfl rfl (by kernel_rfl) (by kernel_rfl) (by kernel_rfl) (fun K11 hK11=>?_) (fun K19 hK19=>?_)
     ·skip
      go_simp
      go_wp2_with fail
      replace hg:=hg.a11
      refine hK11 _ _ (fun _=>hg.top) ?_
      clear hK11
      generalize u7.alloc _=u8 at *
      generalize u7.heap.size=bb at *
      refine A7 (i:=19) rfl (by kernel_rfl) (by kernel_rfl) fun K19 hK19=>?_
      have z1:=hg.c10
      have z2:=hg.box.cells.2
      go_simp
      go_wp2_with fail
      clear z1 z2
      replace hg:=hg.s10 (.slice (some ⟨ob,0,none⟩) N N)
      refine hK19 _ _ (fun _=>hg.top) ?_
      clear hK19
      generalize u8.setCell _ _=u9 at *
      have hS:I4 _ _ u9:=hg.top
      refine A9 hQp hS [20,21,22] ?_
      iterate 3 (refine B2 _ rfl (by kernel_rfl) (A0 (by kernel_rfl) (by intro w0 hw0;have hw1:=hw0;simp only [I4] at hw1;first|(go_simp;done)|(go_simp;rfl))) ?_;simp only [Act.put,St.tA,St.tD,St.tE,St.tS,St.tC,St.tZ])
      refine B3 ?_
      clear hS
      refine A7 (i:=23) rfl (by kernel_rfl) (by kernel_rfl) fun K23 hK23=>?_
      have z1:=hg.c11
      have z2:=hg.box.cells.2
      go_simp
      go_wp2_with fail
      clear z1 z2
      replace hg:=hg.s11 (.slice (some ⟨bb,0,none⟩) N N)
      refine hK23 _ _ (fun _=>hg.top) ?_
      clear hK23
      generalize u9.setCell _ _=u10 at *
      refine B5 (by kernel_rfl) ?_ _
      refine hR _ _ ?_
      iterate 21 apply Exists.intro
      refine ⟨?_,⟨_,_,_,hg⟩⟩
      simp only [C8,Act.put,St.tS,St.tC,St.tZ]
      rfl
     ·skip
      have z1:=hg.c10
      have z2:=hg.box.cells.2
      go_simp
      go_wp2_with fail
      clear z1 z2
      replace hg:=hg.s10 (.slice (some ⟨ob,0,none⟩) N N)
      refine hK19 _ _ (fun _=>hg.top) ?_
      clear hK19
      generalize u7.setCell _ _=u11 at *
      refine A7 (i:=11) rfl (by kernel_rfl) (by kernel_rfl) fun K11 hK11=>?_
      go_simp
      go_wp2_with fail
      replace hg:=hg.a11
      refine hK11 _ _ (fun _=>hg.top) ?_
      clear hK11
      generalize u11.alloc _=u12 at *
      generalize u11.heap.size=bb at *
      have hS:I4 _ _ u12:=hg.top
      refine A9 hQp hS [20,21,22] ?_
      iterate 3 (refine B2 _ rfl (by kernel_rfl) (A0 (by kernel_rfl) (by intro w0 hw0;have hw1:=hw0;simp only [I4] at hw1;first|(go_simp;done)|(go_simp;rfl))) ?_;simp only [Act.put,St.tA,St.tD,St.tE,St.tS,St.tC,St.tZ])
      refine B3 ?_
      clear hS
      refine A7 (i:=23) rfl (by kernel_rfl) (by kernel_rfl) fun K23 hK23=>?_
      have z1:=hg.c11
      have z2:=hg.box.cells.2
      go_simp
      go_wp2_with fail
      clear z1 z2
      replace hg:=hg.s11 (.slice (some ⟨bb,0,none⟩) N N)
      refine hK23 _ _ (fun _=>hg.top) ?_
      clear hK23
      generalize u12.setCell _ _=u13 at *
      refine B5 (by kernel_rfl) ?_ _
      refine hR _ _ ?_
      iterate 21 apply Exists.intro
      refine ⟨?_,⟨_,_,_,hg⟩⟩
      simp only [C8,Act.put,St.tS,St.tC,St.tZ]
      rfl
   ·skip
    go_simp
    go_wp2_with fail
    replace hg:=hg.a11
    refine hK11 _ _ (fun _=>hg.top) ?_
    clear hK11
    generalize u1.alloc _=u14 at *
    generalize u1.heap.size=bb at *
    refine H5 (i:=8) (j:=15) rfl rfl (by kernel_rfl) (by kernel_rfl) (by kernel_rfl) (fun K8 hK8=>?_) (fun K15 hK15=>?_)
    ·skip
     go_simp
     go_wp2_with fail
     replace hg:=hg.a8
     refine hK8 _ _ (fun _=>hg.top) ?_
     clear hK8
     generalize u14.alloc _=u15 at *
     generalize u14.heap.size=ob at *
     refine A7 (i:=15) rfl (by kernel_rfl) (by kernel_rfl) fun K15 hK15=>?_
     have z1:=hg.c9
     have z2:=hg.box.cells.2
     go_simp
     go_wp2_with fail
     clear z1 z2
     replace hg:=hg.s9 (.slice (some ⟨sb,0,none⟩) N N)
     refine hK15 _ _ (fun _=>hg.top) ?_
     clear hK15
     generalize u15.setCell _ _=u16 at *
     have hS:I4 _ _ u16:=hg.top
     refine A9 hQp hS [16,17,18] ?_
     iterate 3 (refine B2 _ rfl (by kernel_rfl) (A0 (by kernel_rfl) (by intro w0 hw0;have hw1:=hw0;simp only [I4] at hw1;first|(go_simp;done)|(go_simp;rfl))) ?_;simp only [Act.put,St.tA,St.tD,St.tE,St.tS,St.tC,St.tZ])
     refine B3 ?_
     clear hS
     refine A7 (i:=19) rfl (by kernel_rfl) (by kernel_rfl) fun K19 hK19=>?_
     have z1:=hg.c10
     have z2:=hg.box.cells.2
     go_simp
     go_wp2_with fail
     clear z1 z2
     replace hg:=hg.s10 (.slice (some ⟨ob,0,none⟩) N N)
     refine hK19 _ _ (fun _=>hg.top) ?_
     clear hK19
     generalize u16.setCell _ _=u17 at *
     have hS:I4 _ _ u17:=hg.top
     refine A9 hQp hS [20,21,22] ?_
     iterate 3 (refine B2 _ rfl (by kernel_rfl) (A0 (by kernel_rfl) (by intro w0 hw0;have hw1:=hw0;simp only [I4] at hw1;first|(go_simp;done)|(go_simp;rfl))) ?_;simp only [Act.put,St.tA,St.tD,St.tE,St.tS,St.tC,St.tZ])
     refine B3 ?_
     clear hS
     refine A7 (i:=23) rfl (by kernel_rfl) (by kernel_rfl) fun K23 hK23=>?_
     have z1:=hg.c11
     have z2:=hg.box.cells.2
     go_simp
     go_wp2_with fail
     clear z1 z2
     replace hg:=hg.s11 (.slice (some ⟨bb,0,none⟩) N N)
     refine hK23 _ _ (fun _=>hg.top) ?_
     clear hK23
     generalize u17.setCell _ _=u18 at *
     refine B5 (by kernel_rfl) ?_ _
     refine hR _ _ ?_
     iterate 21 apply Exists.intro
     refine ⟨?_,⟨_,_,_,hg⟩⟩
     simp only [C8,Act.put,St.tS,St.tC,St.tZ]
     rfl
    ·skip
     have z1:=hg.c9
     have z2:=hg.box.cells.2
     go_simp
     go_wp2_with fail
     clear z1 z2
     replace hg:=hg.s9 (.slice (some ⟨sb,0,none⟩) N N)
     refine hK15 _ _ (fun _=>hg.top) ?_
     clear hK15
     generalize u14.setCell _ _=u19 at *
     refine A7 (i:=8) rfl (by kernel_rfl) (by kernel_rfl) fun K8 hK8=>?_
     go_simp
     go_wp2_with fail
     replace hg:=hg.a8
     refine hK8 _ _ (fun _=>hg.top) ?_
     clear hK8
     generalize u19.alloc _=u20 at *
     generalize u19.heap.size=ob at *
     have hS:I4 _ _ u20:=hg.top
     refine A9 hQp hS [16,17,18] ?_
     iterate 3 (refine B2 _ rfl (by kernel_rfl) (A0 (by kernel_rfl) (by intro w0 hw0;have hw1:=hw0;simp only [I4] at hw1;first|(go_simp;done)|(go_simp;rfl))) ?_;simp only [Act.put,St.tA,St.tD,St.tE,St.tS,St.tC,St.tZ])
     refine B3 ?_
     clear hS
     refine A7 (i:=19) rfl (by kernel_rfl) (by kernel_rfl) fun K19 hK19=>?_
     have z1:=hg.c10
     have z2:=hg.box.cells.2
     go_simp
     go_wp2_with fail
     clear z1 z2
     replace hg:=hg.s10 (.slice (some ⟨ob,0,none⟩) N N)
     refine hK19 _ _ (fun _=>hg.top) ?_
     clear hK19
     generalize u20.setCell _ _=u21 at *
     have hS:I4 _ _ u21:=hg.top
     refine A9 hQp hS [20,21,22] ?_
     iterate 3 (refine B2 _ rfl (by kernel_rfl) (A0 (by kernel_rfl) (by intro w0 hw0;have hw1:=hw0;simp only [I4] at hw1;first|(go_simp;done)|(go_simp;rfl))) ?_;simp only [Act.put,St.tA,St.tD,St.tE,St.tS,St.tC,St.tZ])
     refine B3 ?_
     clear hS
     refine A7 (i:=23) rfl (by kernel_rfl) (by kernel_rfl) fun K23 hK23=>?_
     have z1:=hg.c11
     have z2:=hg.box.cells.2
     go_simp
     go_wp2_with fail
     clear z1 z2
     replace hg:=hg.s11 (.slice (some ⟨bb,0,none⟩) N N)
     refine hK23 _ _ (fun _=>hg.top) ?_
     clear hK23
     generalize u21.setCell _ _=u22 at *
     refine B5 (by kernel_rfl) ?_ _
     refine hR _ _ ?_
     iterate 21 apply Exists.intro
     refine ⟨?_,⟨_,_,_,hg⟩⟩
     simp only [C8,Act.put,St.tS,St.tC,St.tZ]
     rfl
   ·skip
    have z1:=hg.c9
    have z2:=hg.box.cells.2
    go_simp
    go_wp2_with fail
    clear z1 z2
    replace hg:=hg.s9 (.slice (some ⟨sb,0,none⟩) N N)
    refine hK15 _ _ (fun _=>hg.top) ?_
    clear hK15
    generalize u1.setCell _ _=u23 at *
    refine H5 (i:=8) (j:=11) rfl rfl (by kernel_rfl) (by kernel_rfl) (by kernel_rfl) (fun K8 hK8=>?_) (fun K11 hK11=>?_)
    ·skip
     go_simp
     go_wp2_with fail
     replace hg:=hg.a8
     refine hK8 _ _ (fun _=>hg.top) ?_
     clear hK8
     generalize u23.alloc _=u24 at *
     generalize u23.heap.size=ob at *
     have hS:I4 _ _ u24:=hg.top
     refine A9 hQp hS [16,17,18] ?_
     iterate 3 (refine B2 _ rfl (by kernel_rfl) (A0 (by kernel_rfl) (by intro w0 hw0;have hw1:=hw0;simp only [I4] at hw1;first|(go_simp;done)|(go_simp;rfl))) ?_;simp only [Act.put,St.tA,St.tD,St.tE,St.tS,St.tC,St.tZ])
     refine B3 ?_
     clear hS
     refine H5 (i:=11) (j:=19) rfl rfl (by kernel_rfl) (by kernel_rfl) (by kernel_rfl) (fun K11 hK11=>?_) (fun K19 hK19=>?_)
     ·skip
      go_simp
      go_wp2_with fail
      replace hg:=hg.a11
      refine hK11 _ _ (fun _=>hg.top) ?_
      clear hK11
      generalize u24.alloc _=u25 at *
      generalize u24.heap.size=bb at *
      refine A7 (i:=19) rfl (by kernel_rfl) (by kernel_rfl) fun K19 hK19=>?_
      have z1:=hg.c10
      have z2:=hg.box.cells.2
      go_simp
      go_wp2_with fail
      clear z1 z2
      replace hg:=hg.s10 (.slice (some ⟨ob,0,none⟩) N N)
      refine hK19 _ _ (fun _=>hg.top) ?_
      clear hK19
      generalize u25.setCell _ _=u26 at *
      have hS:I4 _ _ u26:=hg.top
      refine A9 hQp hS [20,21,22] ?_
      iterate 3 (refine B2 _ rfl (by kernel_rfl) (A0 (by kernel_rfl) (by intro w0 hw0;have hw1:=hw0;simp only [I4] at hw1;first|(go_simp;done)|(go_simp;rfl))) ?_;simp only [Act.put,St.tA,St.tD,St.tE,St.tS,St.tC,St.tZ])
      refine B3 ?_
      clear hS
      refine A7 (i:=23) rfl (by kernel_rfl) (by kernel_rfl) fun K23 hK23=>?_
      have z1:=hg.c11
      have z2:=hg.box.cells.2
      go_simp
      go_wp2_with fail
      clear z1 z2
      replace hg:=hg.s11 (.slice (some ⟨bb,0,none⟩) N N)
      refine hK23 _ _ (fun _=>hg.top) ?_
      clear hK23
      generalize u26.setCell _ _=u27 at *
      refine B5 (by kernel_rfl) ?_ _
      refine hR _ _ ?_
      iterate 21 apply Exists.intro
      refine ⟨?_,⟨_,_,_,hg⟩⟩
      simp only [C8,Act.put,St.tS,St.tC,St.tZ]
      rfl
     ·skip
      have z1:=hg.c10
      have z2:=hg.box.cells.2
      go_simp
      go_wp2_with fail
      clear z1 z2
      replace hg:=hg.s10 (.slice (some ⟨ob,0,none⟩) N N)
      refine hK19 _ _ (fun _=>hg.top) ?_
      clear hK19
      generalize u24.setCell _ _=u28 at *
      refine A7 (i:=11) rfl (by kernel_rfl) (by kernel_rfl) fun K11 hK11=>?_
      go_simp
      go_wp2_with fail
      replace hg:=hg.a11
      refine hK11 _ _ (fun _=>hg.top) ?_
      clear hK11
      generalize u28.alloc _=u29 at *
      generalize u28.heap.size=bb at *
      have hS:I4 _ _ u29:=hg.top
      refine A9 hQp hS [20,21,22] ?_
      iterate 3 (refine B2 _ rfl (by kernel_rfl) (A0 (by kernel_rfl) (by intro w0 hw0;have hw1:=hw0;simp only [I4] at hw1;first|(go_simp;done)|(go_simp;rfl))) ?_;simp only [Act.put,St.tA,St.tD,St.tE,St.tS,St.tC,St.tZ])
      refine B3 ?_
      clear hS
      refine A7 (i:=23) rfl (by kernel_rfl) (by kernel_rfl) fun K23 hK23=>?_
      have z1:=hg.c11
      have z2:=hg.box.cells.2
      go_simp
      go_wp2_with fail
      clear z1 z2
      replace hg:=hg.s11 (.slice (some ⟨bb,0,none⟩) N N)
      refine hK23 _ _ (fun _=>hg.top) ?_
      clear hK23
      generalize u29.setCell _ _=u30 at *
      refine B5 (by kernel_rfl) ?_ _
      refine hR _ _ ?_
      iterate 21 apply Exists.intro
      refine ⟨?_,⟨_,_,_,hg⟩⟩
      simp only [C8,Act.put,St.tS,St.tC,St.tZ]
      rfl
    ·skip
     go_simp
     go_wp2_with fail
     replace hg:=hg.a11
     refine hK11 _ _ (fun _=>hg.top) ?_
     clear hK11
     generalize u23.alloc _=u31 at *
     generalize u23.heap.size=bb at *
     refine A7 (i:=8) rfl (by kernel_rfl) (by kernel_rfl) fun K8 hK8=>?_
     go_simp
     go_wp2_with fail
     replace hg:=hg.a8
     refine hK8 _ _ (fun _=>hg.top) ?_
     clear hK8
     generalize u31.alloc _=u32 at *
     generalize u31.heap.size=ob at *
     have hS:I4 _ _ u32:=hg.top
     refine A9 hQp hS [16,17,18] ?_
     iterate 3 (refine B2 _ rfl (by kernel_rfl) (A0 (by kernel_rfl) (by intro w0 hw0;have hw1:=hw0;simp only [I4] at hw1;first|(go_simp;done)|(go_simp;rfl))) ?_;simp only [Act.put,St.tA,St.tD,St.tE,St.tS,St.tC,St.tZ])
     refine B3 ?_
     clear hS
     refine A7 (i:=19) rfl (by kernel_rfl) (by kernel_rfl) fun K19 hK19=>?_
     have z1:=hg.c10
     have z2:=hg.box.cells.2
     go_simp
     go_wp2_with fail
     clear z1 z2
     replace hg:=hg.s10 (.slice (some ⟨ob,0,none⟩) N N)
     refine hK19 _ _ (fun _=>hg.top) ?_
     clear hK19
     generalize u32.setCell _ _=u33 at *
     have hS:I4 _ _ u33:=hg.top
     refine A9 hQp hS [20,21,22] ?_
     iterate 3 (refine B2 _ rfl (by kernel_rfl) (A0 (by kernel_rfl) (by intro w0 hw0;have hw1:=hw0;simp only [I4] at hw1;first|(go_simp;done)|(go_simp;rfl))) ?_;simp only [Act.put,St.tA,St.tD,St.tE,St.tS,St.tC,St.tZ])
     refine B3 ?_
     clear hS
     refine A7 (i:=23) rfl (by kernel_rfl) (by kernel_rfl) fun K23 hK23=>?_
     have z1:=hg.c11
     have z2:=hg.box.cells.2
     go_simp
     go_wp2_with fail
     clear z1 z2
     replace hg:=hg.s11 (.slice (some ⟨bb,0,none⟩) N N)
     refine hK23 _ _ (fun _=>hg.top) ?_
     clear hK23
     generalize u33.setCell _ _=u34 at *
     refine B5 (by kernel_rfl) ?_ _
     refine hR _ _ ?_
     iterate 21 apply Exists.intro
     refine ⟨?_,⟨_,_,_,hg⟩⟩
     simp only [C8,Act.put,St.tS,St.tC,St.tZ]
     rfl
  ·skip
   go_simp
   go_wp2_with fail
   replace hg:=hg.a8
   refine hK8 _ _ (fun _=>hg.top) ?_
   clear hK8
   generalize wa.alloc _=u35 at *
   generalize wa.heap.size=ob at *
   refine H5 (i:=5) (j:=11) rfl rfl (by kernel_rfl) (by kernel_rfl) (by kernel_rfl) (fun K5 hK5=>?_) (fun K11 hK11=>?_)
   ·skip
    go_simp
    go_wp2_with fail
    replace hg:=hg.a5
    refine hK5 _ _ (fun _=>hg.top) ?_
    clear hK5
    generalize u35.alloc _=u36 at *
    generalize u35.heap.size=sb at *
    have hS:I4 _ _ u36:=hg.top
    refine A9 hQp hS [12,13,14] ?_
    iterate 3 (refine B2 _ rfl (by kernel_rfl) (A0 (by kernel_rfl) (by intro w0 hw0;have hw1:=hw0;simp only [I4] at hw1;first|(go_simp;done)|(go_simp;rfl))) ?_;simp only [Act.put,St.tA,St.tD,St.tE,St.tS,St.tC,St.tZ])
    refine B3 ?_
    clear hS
    refine H5 (i:=11) (j:=15) rfl rfl (by kernel_rfl) (by kernel_rfl) (by kernel_rfl) (fun K11 hK11=>?_) (fun K15 hK15=>?_)
    ·skip
     go_simp
     go_wp2_with fail
     replace hg:=hg.a11
     refine hK11 _ _ (fun _=>hg.top) ?_
     clear hK11
     generalize u36.alloc _=u37 at *
     generalize u36.heap.size=bb at *
     refine A7 (i:=15) rfl (by kernel_rfl) (by kernel_rfl) fun K15 hK15=>?_
     have z1:=hg.c9
     have z2:=hg.box.cells.2
     go_simp
     go_wp2_with fail
     clear z1 z2
     replace hg:=hg.s9 (.slice (some ⟨sb,0,none⟩) N N)
     refine hK15 _ _ (fun _=>hg.top) ?_
     clear hK15
     generalize u37.setCell _ _=u38 at *
     have hS:I4 _ _ u38:=hg.top
     refine A9 hQp hS [16,17,18] ?_
     iterate 3 (refine B2 _ rfl (by kernel_rfl) (A0 (by kernel_rfl) (by intro w0 hw0;have hw1:=hw0;simp only [I4] at hw1;first|(go_simp;done)|(go_simp;rfl))) ?_;simp only [Act.put,St.tA,St.tD,St.tE,St.tS,St.tC,St.tZ])
     refine B3 ?_
     clear hS
     refine A7 (i:=19) rfl (by kernel_rfl) (by kernel_rfl) fun K19 hK19=>?_
     have z1:=hg.c10
     have z2:=hg.box.cells.2
     go_simp
     go_wp2_with fail
     clear z1 z2
     replace hg:=hg.s10 (.slice (some ⟨ob,0,none⟩) N N)
     refine hK19 _ _ (fun _=>hg.top) ?_
     clear hK19
     generalize u38.setCell _ _=u39 at *
     have hS:I4 _ _ u39:=hg.top
     refine A9 hQp hS [20,21,22] ?_
     iterate 3 (refine B2 _ rfl (by kernel_rfl) (A0 (by kernel_rfl) (by intro w0 hw0;have hw1:=hw0;simp only [I4] at hw1;first|(go_simp;done)|(go_simp;rfl))) ?_;simp only [Act.put,St.tA,St.tD,St.tE,St.tS,St.tC,St.tZ])
     refine B3 ?_
     clear hS
     refine A7 (i:=23) rfl (by kernel_rfl) (by kernel_rfl) fun K23 hK23=>?_
     have z1:=hg.c11
     have z2:=hg.box.cells.2
     go_simp
     go_wp2_with fail
     clear z1 z2
     replace hg:=hg.s11 (.slice (some ⟨bb,0,none⟩) N N)
     refine hK23 _ _ (fun _=>hg.top) ?_
     clear hK23
     generalize u39.setCell _ _=u40 at *
     refine B5 (by kernel_rfl) ?_ _
     refine hR _ _ ?_
     iterate 21 apply Exists.intro
     refine ⟨?_,⟨_,_,_,hg⟩⟩
     simp only [C8,Act.put,St.tS,St.tC,St.tZ]
     rfl
    ·skip
     have z1:=hg.c9
     have z2:=hg.box.cells.2
     go_simp
     go_wp2_with fail
     clear z1 z2
     replace hg:=hg.s9 (.slice (some ⟨sb,0,none⟩) N N)
     refine hK15 _ _ (fun _=>hg.top) ?_
     clear hK15
     generalize u36.setCell _ _=u41 at *
     have hS:I4 _ _ u41:=hg.top
     refine A9 hQp hS [16,17,18] ?_
     iterate 3 (refine B2 _ rfl (by kernel_rfl) (A0 (by kernel_rfl) (by intro w0 hw0;have hw1:=hw0;simp only [I4] at hw1;first|(go_simp;done)|(go_simp;rfl))) ?_;simp only [Act.put,St.tA,St.tD,St.tE,St.tS,St.tC,St.tZ])
     refine B3 ?_
     clear hS
     refine H5 (i:=11) (j:=19) rfl rfl (by kernel_rfl) (by kernel_rfl) (by kernel_rfl) (fun K11 hK11=>?_) (fun K19 hK19=>?_)
     ·skip
      go_simp
      go_wp2_with fail
      replace hg:=hg.a11
      refine hK11 _ _ (fun _=>hg.top) ?_
      clear hK11
      generalize u41.alloc _=u42 at *
      generalize u41.heap.size=bb at *
      refine A7 (i:=19) rfl (by kernel_rfl) (by kernel_rfl) fun K19 hK19=>?_
      have z1:=hg.c10
      have z2:=hg.box.cells.2
      go_simp
      go_wp2_with fail
      clear z1 z2
      replace hg:=hg.s10 (.slice (some ⟨ob,0,none⟩) N N)
      refine hK19 _ _ (fun _=>hg.top) ?_
      clear hK19
      generalize u42.setCell _ _=u43 at *
      have hS:I4 _ _ u43:=hg.top
      refine A9 hQp hS [20,21,22] ?_
      iterate 3 (refine B2 _ rfl (by kernel_rfl) (A0 (by kernel_rfl) (by intro w0 hw0;have hw1:=hw0;simp only [I4] at hw1;first|(go_simp;done)|(go_simp;rfl))) ?_;simp only [Act.put,St.tA,St.tD,St.tE,St.tS,St.tC,St.tZ])
      refine B3 ?_
      clear hS
      refine A7 (i:=23) rfl (by kernel_rfl) (by kernel_rfl) fun K23 hK23=>?_
      have z1:=hg.c11
      have z2:=hg.box.cells.2
      go_simp
      go_wp2_with fail
      clear z1 z2
      replace hg:=hg.s11 (.slice (some ⟨bb,0,none⟩) N N)
      refine hK23 _ _ (fun _=>hg.top) ?_
      clear hK23
      generalize u43.setCell _ _=u44 at *
      refine B5 (by kernel_rfl) ?_ _
      refine hR _ _ ?_
      iterate 21 apply Exists.intro
      refine ⟨?_,⟨_,_,_,hg⟩⟩
      simp only [C8,Act.put,St.tS,St.tC,St.tZ]
      rfl
     ·skip
      have z1:=hg.c10
      have z2:=hg.box.cells.2
      go_simp
      go_wp2_with fail
      clear z1 z2
      replace hg:=hg.s10 (.slice (some ⟨ob,0,none⟩) N N)
      refine hK19 _ _ (fun _=>hg.top) ?_
      clear hK19
      generalize u41.setCell _ _=u45 at *
      refine A7 (i:=11) rfl (by kernel_rfl) (by kernel_rfl) fun K11 hK11=>?_
      go_simp
      go_wp2_with fail
      replace hg:=hg.a11
      refine hK11 _ _ (fun _=>hg.top) ?_
      clear hK11
      generalize u45.alloc _=u46 at *
      generalize u45.heap.size=bb at *
      have hS:I4 _ _ u46:=hg.top
      refine A9 hQp hS [20,21,22] ?_
      iterate 3 (refine B2 _ rfl (by kernel_rfl) (A0 (by kernel_rfl) (by intro w0 hw0;have hw1:=hw0;simp only [I4] at hw1;first|(go_simp;done)|(go_simp;rfl))) ?_;simp only [Act.put,St.tA,St.tD,St.tE,St.tS,St.tC,St.tZ])
      refine B3 ?_
      clear hS
      refine A7 (i:=23) rfl (by kernel_rfl) (by kernel_rfl) fun K23 hK23=>?_
      have z1:=hg.c11
      have z2:=hg.box.cells.2
      go_simp
      go_wp2_with fail
      clear z1 z2
      replace hg:=hg.s11 (.slice (some ⟨bb,0,none⟩) N N)
      refine hK23 _ _ (fun _=>hg.top) ?_
      clear hK23
      generalize u46.setCell _ _=u47 at *
      refine B5 (by kernel_rfl) ?_ _
      refine hR _ _ ?_
      iterate 21 apply Exists.intro
      refine ⟨?_,⟨_,_,_,hg⟩⟩
      simp only [C8,Act.put,St.tS,St.tC,St.tZ]
      rfl
   ·skip
    go_simp
    go_wp2_with fail
    replace hg:=hg.a11
    refine hK11 _ _ (fun _=>hg.top) ?_
    clear hK11
    generalize u35.alloc _=u48 at *
    generalize u35.heap.size=bb at *
    refine A7 (i:=5) rfl (by kernel_rfl) (by kernel_rfl) fun K5 hK5=>?_
    go_simp
    go_wp2_with fail
    replace hg:=hg.a5
    refine hK5 _ _ (fun _=>hg.top) ?_
    clear hK5
    generalize u48.alloc _=u49 at *
    generalize u48.heap.size=sb at *
    have hS:I4 _ _ u49:=hg.top
    refine A9 hQp hS [12,13,14] ?_
    iterate 3 (refine B2 _ rfl (by kernel_rfl) (A0 (by kernel_rfl) (by intro w0 hw0;have hw1:=hw0;simp only [I4] at hw1;first|(go_simp;done)|(go_simp;rfl))) ?_;simp only [Act.put,St.tA,St.tD,St.tE,St.tS,St.tC,St.tZ])
    refine B3 ?_
    clear hS
    refine A7 (i:=15) rfl (by kernel_rfl) (by kernel_rfl) fun K15 hK15=>?_
    have z1:=hg.c9
    have z2:=hg.box.cells.2
    go_simp
    go_wp2_with fail
    clear z1 z2
    replace hg:=hg.s9 (.slice (some ⟨sb,0,none⟩) N N)
    refine hK15 _ _ (fun _=>hg.top) ?_
    clear hK15
    generalize u49.setCell _ _=u50 at *
    have hS:I4 _ _ u50:=hg.top
    refine A9 hQp hS [16,17,18] ?_
    iterate 3 (refine B2 _ rfl (by kernel_rfl) (A0 (by kernel_rfl) (by intro w0 hw0;have hw1:=hw0;simp only [I4] at hw1;first|(go_simp;done)|(go_simp;rfl))) ?_;simp only [Act.put,St.tA,St.tD,St.tE,St.tS,St.tC,St.tZ])
    refine B3 ?_
    clear hS
    refine A7 (i:=19) rfl (by kernel_rfl) (by kernel_rfl) fun K19 hK19=>?_
    have z1:=hg.c10
    have z2:=hg.box.cells.2
    go_simp
    go_wp2_with fail
    clear z1 z2
    replace hg:=hg.s10 (.slice (some ⟨ob,0,none⟩) N N)
    refine hK19 _ _ (fun _=>hg.top) ?_
    clear hK19
    generalize u50.setCell _ _=u51 at *
    have hS:I4 _ _ u51:=hg.top
    refine A9 hQp hS [20,21,22] ?_
    iterate 3 (refine B2 _ rfl (by kernel_rfl) (A0 (by kernel_rfl) (by intro w0 hw0;have hw1:=hw0;simp only [I4] at hw1;first|(go_simp;done)|(go_simp;rfl))) ?_;simp only [Act.put,St.tA,St.tD,St.tE,St.tS,St.tC,St.tZ])
    refine B3 ?_
    clear hS
    refine A7 (i:=23) rfl (by kernel_rfl) (by kernel_rfl) fun K23 hK23=>?_
    have z1:=hg.c11
    have z2:=hg.box.cells.2
    go_simp
    go_wp2_with fail
    clear z1 z2
    replace hg:=hg.s11 (.slice (some ⟨bb,0,none⟩) N N)
    refine hK23 _ _ (fun _=>hg.top) ?_
    clear hK23
    generalize u51.setCell _ _=u52 at *
    refine B5 (by kernel_rfl) ?_ _
    refine hR _ _ ?_
    iterate 21 apply Exists.intro
    refine ⟨?_,⟨_,_,_,hg⟩⟩
    simp only [C8,Act.put,St.tS,St.tC,St.tZ]
    rfl
  ·skip
   go_simp
   go_wp2_with fail
   replace hg:=hg.a11
   refine hK11 _ _ (fun _=>hg.top) ?_
   clear hK11
   generalize wa.alloc _=u53 at *
   generalize wa.heap.size=bb at *
   refine H5 (i:=5) (j:=8) rfl rfl (by kernel_rfl) (by kernel_rfl) (by kernel_rfl) (fun K5 hK5=>?_) (fun K8 hK8=>?_)
   ·skip
    go_simp
    go_wp2_with fail
    replace hg:=hg.a5
    refine hK5 _ _ (fun _=>hg.top) ?_
    clear hK5
    generalize u53.alloc _=u54 at *
    generalize u53.heap.size=sb at *
    have hS:I4 _ _ u54:=hg.top
    refine A9 hQp hS [12,13,14] ?_
    iterate 3 (refine B2 _ rfl (by kernel_rfl) (A0 (by kernel_rfl) (by intro w0 hw0;have hw1:=hw0;simp only [I4] at hw1;first|(go_simp;done)|(go_simp;rfl))) ?_;simp only [Act.put,St.tA,St.tD,St.tE,St.tS,St.tC,St.tZ])
    refine B3 ?_
    clear hS
    refine H5 (i:=8) (j:=15) rfl rfl (by kernel_rfl) (by kernel_rfl) (by kernel_rfl) (fun K8 hK8=>?_) (fun K15 hK15=>?_)
    ·skip
     go_simp
     go_wp2_with fail
     replace hg:=hg.a8
     refine hK8 _ _ (fun _=>hg.top) ?_
     clear hK8
     generalize u54.alloc _=u55 at *
     generalize u54.heap.size=ob at *
     refine A7 (i:=15) rfl (by kernel_rfl) (by kernel_rfl) fun K15 hK15=>?_
     have z1:=hg.c9
     have z2:=hg.box.cells.2
     go_simp
     go_wp2_with fail
     clear z1 z2
     replace hg:=hg.s9 (.slice (some ⟨sb,0,none⟩) N N)
     refine hK15 _ _ (fun _=>hg.top) ?_
     clear hK15
     generalize u55.setCell _ _=u56 at *
     have hS:I4 _ _ u56:=hg.top
     refine A9 hQp hS [16,17,18] ?_
     iterate 3 (refine B2 _ rfl (by kernel_rfl) (A0 (by kernel_rfl) (by intro w0 hw0;have hw1:=hw0;simp only [I4] at hw1;first|(go_simp;done)|(go_simp;rfl))) ?_;simp only [Act.put,St.tA,St.tD,St.tE,St.tS,St.tC,St.tZ])
     refine B3 ?_
     clear hS
     refine A7 (i:=19) rfl (by kernel_rfl) (by kernel_rfl) fun K19 hK19=>?_
     have z1:=hg.c10
     have z2:=hg.box.cells.2
     go_simp
     go_wp2_with fail
     clear z1 z2
     replace hg:=hg.s10 (.slice (some ⟨ob,0,none⟩) N N)
     refine hK19 _ _ (fun _=>hg.top) ?_
     clear hK19
     generalize u56.setCell _ _=u57 at *
     have hS:I4 _ _ u57:=hg.top
     refine A9 hQp hS [20,21,22] ?_
     iterate 3 (refine B2 _ rfl (by kernel_rfl) (A0 (by kernel_rfl) (by intro w0 hw0;have hw1:=hw0;simp only [I4] at hw1;first|(go_simp;done)|(go_simp;rfl))) ?_;simp only [Act.put,St.tA,St.tD,St.tE,St.tS,St.tC,St.tZ])
     refine B3 ?_
     clear hS
     refine A7 (i:=23) rfl (by kernel_rfl) (by kernel_rfl) fun K23 hK23=>?_
     have z1:=hg.c11
     have z2:=hg.box.cells.2
     go_simp
     go_wp2_with fail
     clear z1 z2
     replace hg:=hg.s11 (.slice (some ⟨bb,0,none⟩) N N)
     refine hK23 _ _ (fun _=>hg.top) ?_
     clear hK23
     generalize u57.setCell _ _=u58 at *
     refine B5 (by kernel_rfl) ?_ _
     refine hR _ _ ?_
     iterate 21 apply Exists.intro
     refine ⟨?_,⟨_,_,_,hg⟩⟩
     simp only [C8,Act.put,St.tS,St.tC,St.tZ]
     rfl
    ·skip
     have z1:=hg.c9
     have z2:=hg.box.cells.2
     go_simp
     go_wp2_with fail
     clear z1 z2
     replace hg:=hg.s9 (.slice (some ⟨sb,0,none⟩) N N)
     refine hK15 _ _ (fun _=>hg.top) ?_
     clear hK15
     generalize u54.setCell _ _=u59 at *
     refine A7 (i:=8) rfl (by kernel_rfl) (by kernel_rfl) fun K8 hK8=>?_
     go_simp
     go_wp2_with fail
     replace hg:=hg.a8
     refine hK8 _ _ (fun _=>hg.top) ?_
     clear hK8
     generalize u59.alloc _=u60 at *
     generalize u59.heap.size=ob at *
     have hS:I4 _ _ u60:=hg.top
     refine A9 hQp hS [16,17,18] ?_
     iterate 3 (refine B2 _ rfl (by kernel_rfl) (A0 (by kernel_rfl) (by intro w0 hw0;have hw1:=hw0;simp only [I4] at hw1;first|(go_simp;done)|(go_simp;rfl))) ?_;simp only [Act.put,St.tA,St.tD,St.tE,St.tS,St.tC,St.tZ])
     refine B3 ?_
     clear hS
     refine A7 (i:=19) rfl (by kernel_rfl) (by kernel_rfl) fun K19 hK19=>?_
     have z1:=hg.c10
     have z2:=hg.box.cells.2
     go_simp
     go_wp2_with fail
     clear z1 z2
     replace hg:=hg.s10 (.slice (some ⟨ob,0,none⟩) N N)
     refine hK19 _ _ (fun _=>hg.top) ?_
     clear hK19
     generalize u60.setCell _ _=u61 at *
     have hS:I4 _ _ u61:=hg.top
     refine A9 hQp hS [20,21,22] ?_
     iterate 3 (refine B2 _ rfl (by kernel_rfl) (A0 (by kernel_rfl) (by intro w0 hw0;have hw1:=hw0;simp only [I4] at hw1;first|(go_simp;done)|(go_simp;rfl))) ?_;simp only [Act.put,St.tA,St.tD,St.tE,St.tS,St.tC,St.tZ])
     refine B3 ?_
     clear hS
     refine A7 (i:=23) rfl (by kernel_rfl) (by kernel_rfl) fun K23 hK23=>?_
     have z1:=hg.c11
     have z2:=hg.box.cells.2
     go_simp
     go_wp2_with fail
     clear z1 z2
     replace hg:=hg.s11 (.slice (some ⟨bb,0,none⟩) N N)
     refine hK23 _ _ (fun _=>hg.top) ?_
     clear hK23
     generalize u61.setCell _ _=u62 at *
     refine B5 (by kernel_rfl) ?_ _
     refine hR _ _ ?_
     iterate 21 apply Exists.intro
     refine ⟨?_,⟨_,_,_,hg⟩⟩
     simp only [C8,Act.put,St.tS,St.tC,St.tZ]
     rfl
   ·skip
    go_simp
    go_wp2_with fail
    replace hg:=hg.a8
    refine hK8 _ _ (fun _=>hg.top) ?_
    clear hK8
    generalize u53.alloc _=u63 at *
    generalize u53.heap.size=ob at *
    refine A7 (i:=5) rfl (by kernel_rfl) (by kernel_rfl) fun K5 hK5=>?_
    go_simp
    go_wp2_with fail
    replace hg:=hg.a5
    refine hK5 _ _ (fun _=>hg.top) ?_
    clear hK5
    generalize u63.alloc _=u64 at *
    generalize u63.heap.size=sb at *
    have hS:I4 _ _ u64:=hg.top
    refine A9 hQp hS [12,13,14] ?_
    iterate 3 (refine B2 _ rfl (by kernel_rfl) (A0 (by kernel_rfl) (by intro w0 hw0;have hw1:=hw0;simp only [I4] at hw1;first|(go_simp;done)|(go_simp;rfl))) ?_;simp only [Act.put,St.tA,St.tD,St.tE,St.tS,St.tC,St.tZ])
    refine B3 ?_
    clear hS
    refine A7 (i:=15) rfl (by kernel_rfl) (by kernel_rfl) fun K15 hK15=>?_
    have z1:=hg.c9
    have z2:=hg.box.cells.2
    go_simp
    go_wp2_with fail
    clear z1 z2
    replace hg:=hg.s9 (.slice (some ⟨sb,0,none⟩) N N)
    refine hK15 _ _ (fun _=>hg.top) ?_
    clear hK15
    generalize u64.setCell _ _=u65 at *
    have hS:I4 _ _ u65:=hg.top
    refine A9 hQp hS [16,17,18] ?_
    iterate 3 (refine B2 _ rfl (by kernel_rfl) (A0 (by kernel_rfl) (by intro w0 hw0;have hw1:=hw0;simp only [I4] at hw1;first|(go_simp;done)|(go_simp;rfl))) ?_;simp only [Act.put,St.tA,St.tD,St.tE,St.tS,St.tC,St.tZ])
    refine B3 ?_
    clear hS
    refine A7 (i:=19) rfl (by kernel_rfl) (by kernel_rfl) fun K19 hK19=>?_
    have z1:=hg.c10
    have z2:=hg.box.cells.2
    go_simp
    go_wp2_with fail
    clear z1 z2
    replace hg:=hg.s10 (.slice (some ⟨ob,0,none⟩) N N)
    refine hK19 _ _ (fun _=>hg.top) ?_
    clear hK19
    generalize u65.setCell _ _=u66 at *
    have hS:I4 _ _ u66:=hg.top
    refine A9 hQp hS [20,21,22] ?_
    iterate 3 (refine B2 _ rfl (by kernel_rfl) (A0 (by kernel_rfl) (by intro w0 hw0;have hw1:=hw0;simp only [I4] at hw1;first|(go_simp;done)|(go_simp;rfl))) ?_;simp only [Act.put,St.tA,St.tD,St.tE,St.tS,St.tC,St.tZ])
    refine B3 ?_
    clear hS
    refine A7 (i:=23) rfl (by kernel_rfl) (by kernel_rfl) fun K23 hK23=>?_
    have z1:=hg.c11
    have z2:=hg.box.cells.2
    go_simp
    go_wp2_with fail
    clear z1 z2
    replace hg:=hg.s11 (.slice (some ⟨bb,0,none⟩) N N)
    refine hK23 _ _ (fun _=>hg.top) ?_
    clear hK23
    generalize u66.setCell _ _=u67 at *
    refine B5 (by kernel_rfl) ?_ _
    refine hR _ _ ?_
    iterate 21 apply Exists.intro
    refine ⟨?_,⟨_,_,_,hg⟩⟩
    simp only [C8,Act.put,St.tS,St.tC,St.tZ]
    rfl
 rintro a' w8 ⟨v26,v27,v28,v29,v30,v31,v32,v33,v34,v35,v36,v37,v38,v39,v40,v41,v42,v43,v44,v45,v46,rfl,hb8⟩
 simp only [C8,Act.put,St.tS,St.tC,St.tZ]
 obtain ⟨sb,ob,bb,hg⟩:=hb8
 obtain ⟨hR8,hb8,hM5,hM8,hM11,hq1,hq2,hq3⟩:=hg.all
 have hsR:w.heap.size+2<R:=by omega
 have hT8:=hT3.below hb8 (by omega)
 have hX8:=hX3.below hb8 (by omega)
 have hF8:=hF3.below hb8 (by omega)
 have hB8:Below w.heap.size w w8:=hB3.trans (hb8.mono (by omega))
 have hdd:A1c doS (fun b=>(okt b∨okd b)∧b<w.heap.size) w da dc l:=hd.anyOk (fun b hb hk=>⟨.inr hk,hb⟩)
 obtain ⟨M0,V0,hA0,hMR0⟩:=C9.start hR8 hM5 hM8 hM11 hq1 hq2 hq3 (by omega) ((htr.anyOk (ok':=fun b=>(okt b∨okd b)∧b<w.heap.size) (fun b hb hk=>⟨.inl hk,hb⟩)).below hB8) (fun b hb=>by have:=hb.2;omega)
 have hA0':C9 (fun b=>¬(M0 b∨((b<R∧¬((okt b∨okd b)∧b<w.heap.size))∨Go.St.blk (none:Option Addr)=some b))) M0 la lc R N ⟨((N:Nat):Int),ls⟩ w8 (D3 ⟨((N:Nat):Int),ls⟩) V0:=hA0.wideH (fun b _ h1 hh=>by
  rcases hh with hh|hh
  ·exact hh.2 h1
  ·simp [Go.St.blk] at hh)
 have hfit0:F4 ⟨((N:Nat):Int),ls⟩ 0 (D3 ⟨((N:Nat):Int),ls⟩):=F4.start
 obtain ⟨i3,gi3,ga3,gb3,gc3⟩:=info_parts B36
 clear hS0 hR8 hM5 hM8 hM11 hA0 m0 m1 m2 hb8 hR3 hT3 hX3 hF3 hB3 hMR0
 go_wp2
 go_loopw [9,49] (fun out idx wr=>∃ (i:Nat) (M:Nat→Prop) (V:RV) (ea:Option Addr) (ec:Nat),out=.slice ea i ec∧idx=.int .i64 i∧i≤l.length∧C9 (fun b=>¬(M b∨((b<R∧¬((okt b∨okd b)∧b<w.heap.size))∨Go.St.blk ea=some b))) M la lc R N ⟨((N:Nat):Int),ls⟩ wr (D5 ⟨((N:Nat):Int),ls⟩ (D3 ⟨((N:Nat):Int),ls⟩) (l.take i)).1 V∧C7 A71 27 (fun _=>False) R wr ea i ec (D5 ⟨((N:Nat):Int),ls⟩ (D3 ⟨((N:Nat):Int),ls⟩) (l.take i)).2∧(∀ k,Go.St.blk ea=some k→¬M k)∧Below R w8 wr) (fun _ idx _=>l.length - (intOf idx).toNat)
 case atStart=>exact ⟨0,M0,V0,none,0,rfl,rfl,Nat.zero_le _,hA0',C7.nil _ _ _ _ _ (fun _ h=>h.elim),fun k hk=>by simp [Go.St.blk] at hk,Below.refl _ _⟩
 case round=>
  clear hA0'
  obtain ⟨i,M,V,ea,ec,rfl,rfl,hi,hA,hO,hea,hb⟩:=hrel
  rename World=>wo
  have hfit:=A7e (t:=⟨((N:Nat):Int),ls⟩) (by show (0:Int)≤(N:Int);omega) (l.take i) 0 _ hfit0 (by rw [List.length_take];omega)
  have hpi:0+(l.take i).length=i:=by rw [List.length_take];omega
  rw [hpi] at hfit
  clear hpi
  by_cases hlt:i<l.length
  case pos=>
   have b1:(i:Int)<(l.length:Int):=by omega
   have b0:(0:Int)≤(i:Int):=by omega
   obtain ⟨d,hdi⟩:∃ d,l[i]? =some d:=⟨_,List.getElem?_eq_getElem hlt⟩
   have hPT:=Lib.hid (B1k (t:=⟨((N:Nat):Int),ls⟩) (n:=D3 ⟨((N:Nat):Int),ls⟩) hdi)
   obtain ⟨dg,dof,rfl,_,cs,⟨fa,fc,rfl,hk1,hk2,hfl⟩,hce⟩:=(hdd.below (hB8.trans (hb.mono (by omega)))).get hdi
   have e0:=hce 0 _ rfl
   have e1:=hce 1 _ rfl
   have e2:=hce 2 _ rfl
   rw [show doS.size=3 from rfl,Nat.add_zero] at e0
   rw [show doS.size=3 from rfl] at e1 e2
   generalize D5 ⟨((N:Nat):Int),ls⟩ (D3 ⟨((N:Nat):Int),ls⟩) (l.take i)=PP at *
   obtain ⟨n,es⟩:=PP
   dsimp only at *
   have hrow:A8 H6 (fun b=>¬(M b∨((b<R∧¬((okt b∨okd b)∧b<w.heap.size))∨Go.St.blk ea=some b))) wo fa fc d.flows:=hfl.anyOk (fun b _ hb=>by
    rintro (hm|hm|hm)
    ·have:=(hA.rng b hm).1;have:=hb.2;omega
    ·exact hm.2 hb
    ·have:=(hO.lt b hm).1;have:=hb.2;omega)
   clear hfl hce hdi
   go_wp2_with fail
   refine (B2j (fun b=>(b<R∧¬((okt b∨okd b)∧b<w.heap.size))∨Go.St.blk ea=some b) M la lc R N ⟨((N:Nat):Int),ls⟩ i n V d dg (dof+i * 3) fa fc wo hA hfit (by omega) (by omega) (fun b hb=>by
    have:=hA.size
    rcases hb with hb|hb
    ·omega
    ·exact (hO.lt b hb).2) e0 e1 e2 hk1 hk2 hrow).mono ?_
   rintro e w9 ⟨rfl,M9,V9,hA9,hF9,hM9⟩
   have hs9:=hF9.size
   have hO9:C7 A71 27 (fun _=>False) R w9 ea i ec es:=hO.keep hs9 (fun k hk=>hk.elim (fun e=>hF9.keep k (hO.lt k e).2 (hea k e)) (fun h=>h.elim))
   have hea9:∀ k,Go.St.blk ea=some k→¬M9 k:=fun k hk hm=>(hM9 k hm).elim (hea k hk) (fun h2=>by have:=(hO.lt k hk).2;omega)
   generalize (I8 ⟨((N:Nat):Int),ls⟩ n d).2=er at *
   have hbx:=G8 w9 (.cells #[.int .i64 er] 27)
   have hA10:=hA9.below hbx
   have hO10:=hO9.below hbx
   have hE10:=I6 w9 27 #[.int .i64 er]
   have hs10:w9.heap.size<(w9.alloc (.cells #[.int .i64 er] 27)).heap.size:=hE10.lt
   have hb10:Below R w8 (w9.alloc (.cells #[.int .i64 er] 27)):=(hb.trans hF9.below).trans (hbx.mono (by have:=hA9.rng R hA9.mR;omega))
   have hsz10:R≤(w9.alloc (.cells #[.int .i64 er] 27)).heap.size:=by have:=hA9.rng R hA9.mR;omega
   clear hA hA9 hO hO9 hF9 hrow hfit hbx e0 e1 e2 hb
   go_wp2_with (at_builtin;go_must (refine H4 (sh:=A71) (n:=i) (m:=1) rfl _ _ 51 rfl 27 i3 (.int .i64 0) 8 Tryz.underlying51 gi3 ga3 gb3 gc3 rfl (by decide) rfl hO10 rfl rfl (B2x hE10) (by simp only [maxLen];omega) (by omega) hsz10 ?_);go_must (intro ea2 ec2 w11 hO11 hg11 hd11))
   case roundEnd=>
    have hs11:(w9.alloc (.cells #[.int .i64 er] 27)).heap.size=w9.heap.size+1:=by simp
    have hF11:Frm (fun b=>Go.St.blk ea≠some b) R _ w11:=Frm.grown hg11 (fun k hk=>⟨fun hW=>hW hk,(hO10.lt k hk).1⟩) hsz10
    have hA11:=hA10.frm (I':=fun b=>¬(M9 b∨((b<R∧¬((okt b∨okd b)∧b<w.heap.size))∨Go.St.blk ea2=some b))) hF11 (fun b hb hc=>.inl (fun e=>hc.elim (hea9 b e) (fun hi=>hi (.inr (.inr e))))) (fun b hb hi hc=>by
     rcases hc with h|h|h
     ·exact hi (.inl h)
     ·exact hi (.inr (.inl h))
     ·rcases hd11 with h2|h2
      ·rw [h2] at h;exact hi (.inr (.inr h))
      ·rw [h2] at h
       have h3:_=b:=(by simpa using h)
       omega) (fun b hb hm=>hb (.inl hm))
    have hea11:∀ k,Go.St.blk ea2=some k→¬M9 k:=fun k hk hm=>by
     rcases hd11 with h2|h2
     ·rw [h2] at hk;exact hea9 k hk hm
     ·rw [h2] at hk
      have h3:_=k:=(by simpa using hk)
      have:=(hA10.rng k hm).2
      omega
    go_roundw
    case rel=>exact ⟨i+1,M9,V9,ea2,ec2,by go_num,by go_num,by omega,by rw [hPT.out];exact hA11,by rw [hPT.out];exact hO11,hea11,hb10.trans hF11.below⟩
    case measure=>simp [intOf]<;>omega
  have b1:¬(i:Int)<(l.length:Int):=by omega
  obtain rfl:i=l.length:=by omega
  rw [List.take_length] at hA hO hfit
  generalize D5 ⟨((N:Nat):Int),ls⟩ (D3 ⟨((N:Nat):Int),ls⟩) l=PP at *
  obtain ⟨n,es⟩:=PP
  dsimp only at *
  have hR2:∀ o,wo.cell? ⟨R,o,none⟩=(#[.int .i64 n.ctl.stage,V.n0,V.n1,V.n2,V.x0,V.x1,V.x2,.int .i64 n.ctl.num,.slice V.qa n.ctl.waits.length V.qc,.slice (some ⟨V.sb,0,none⟩) N N,.slice (some ⟨V.ob,0,none⟩) N N,.slice (some ⟨V.bb,0,none⟩) N N,.slice V.pa n.packets.length V.pc,.slice V.la n.plans.length V.lc,.int .i64 ((N:Nat):Int),.slice la ls.length lc])[o]? :=hA.box.cells.1
  have hRl:=hA.box.lt
  have hXo:=hX8.below hb (by omega)
  have hFo:=hF8.below hb (by omega)
  have hBo:=hB8.trans (hb.mono (by omega))
  go_wp2_with fail
  refine (B5h _ M (fun b=>b<R∧¬((okt b∨okd b)∧b<w.heap.size)) la lc R N ⟨((N:Nat):Int),ls⟩ l.length n V wo hA hfit (by omega) (by omega) (fun b hb=>hb.1) (fun b hb=>.inl hb)).mono ?_
  rintro e w9 ⟨cs,rfl,hN9,hF9⟩
  obtain ⟨ks,sa,sc,oa,oc,ba,bc,pa,pc,pl,lc2,rfl,hkc,hks,hko,hkb,hkp,hkl⟩:=hN9
  obtain ⟨n0,n1,n2,y0,y1,y2,wa,wc,rfl,hst,hnu,hnow,hnext,hwt⟩:=P3.open_ hkc
  have hX9:=hF9.blk hXo (.inr (by omega))
  have hZ9:=hF9.blk hFo (.inr (by omega))
  have hO9:C7 A71 27 (fun _=>False) R w9 ea l.length ec es:=hO.keep hF9.size (fun k hk=>hk.elim (fun e=>hF9.keep k (hO.lt k e).2 (hea k e)) (fun h=>h.elim))
  obtain ⟨lp0,lp1,lp2⟩:=B7.st (P:=Tryz.prog) hnow
  obtain ⟨lq0,lq1,lq2⟩:=B7.st (P:=Tryz.prog) hnext
  obtain ⟨hXb,FXb⟩:=B05 hX9 (fun b=>b≠w.heap.size+1) w.heap.size (fun h=>h rfl) (by omega) (.int .i64 n.ctl.stage) n0 n1 n2 y0 y1 y2 (.int .i64 n.ctl.num) (.slice wa n.ctl.waits.length wc) (.slice sa n.switches.length sc) (.slice oa n.orders.length oc) (.slice ba n.backs.length bc) (.slice pa n.packets.length pc) (.slice pl n.plans.length lc2)
  have hZb:=FXb.blk hZ9 (.inl (by omega))
  have hFz:=(Frm.set (w:=((((((((((((((w9.setCell ⟨w.heap.size+1,0,none⟩ (.int .i64 n.ctl.stage)).setCell ⟨w.heap.size+1,1,none⟩ (n0)).setCell ⟨w.heap.size+1,2,none⟩ (n1)).setCell ⟨w.heap.size+1,3,none⟩ (n2)).setCell ⟨w.heap.size+1,4,none⟩ (y0)).setCell ⟨w.heap.size+1,5,none⟩ (y1)).setCell ⟨w.heap.size+1,6,none⟩ (y2)).setCell ⟨w.heap.size+1,7,none⟩ (.int .i64 n.ctl.num)).setCell ⟨w.heap.size+1,8,none⟩ (.slice wa n.ctl.waits.length wc)).setCell ⟨w.heap.size+1,9,none⟩ (.slice sa n.switches.length sc)).setCell ⟨w.heap.size+1,10,none⟩ (.slice oa n.orders.length oc)).setCell ⟨w.heap.size+1,11,none⟩ (.slice ba n.backs.length bc)).setCell ⟨w.heap.size+1,12,none⟩ (.slice pa n.packets.length pc)).setCell ⟨w.heap.size+1,13,none⟩ (.slice pl n.plans.length lc2))) (W:=fun b=>b≠w.heap.size+2) (B:=w.heap.size) (a:=⟨w.heap.size+2,0,none⟩) (fun h=>h rfl) (by show w.heap.size≤w.heap.size+2;omega) (.int .i64 0)).trans (Frm.set (a:=⟨w.heap.size+2,1,none⟩) (fun h=>h rfl) (by show w.heap.size≤w.heap.size+2;omega) (.int .i64 0))
  have hXz:=hFz.blk hXb (.inl (by omega))
  have hZz:=(hZb.set 0 (.int .i64 0)).set 1 (.int .i64 0)
  simp only [St.tS,St.tC,St.tZ] at hZz
  have hFall:=(FXb.weak (V:=fun b=>b≠w.heap.size+1∧b≠w.heap.size+2) (fun b _ hb=>.inl hb.1) (Nat.le_refl _)).trans (hFz.weak (fun b _ hb=>.inl hb.2) (Nat.le_refl _))
  have hnet:A0g.rep (fun b=>(okt b∨okd b)∨w.heap.size≤b) _ [.int .i64 n.ctl.stage,n0,n1,n2,y0,y1,y2,.int .i64 n.ctl.num,.slice wa n.ctl.waits.length wc,.slice sa n.switches.length sc,.slice oa n.orders.length oc,.slice ba n.backs.length bc,.slice pa n.packets.length pc,.slice pl n.plans.length lc2] n:=
   A0g.mono (w:=w9) (ok:=fun b=>¬(b<R∧¬((okt b∨okd b)∧b<w.heap.size))) ⟨_,sa,sc,oa,oc,ba,bc,pa,pc,pl,lc2,rfl,hkc,hks,hko,hkb,hkp,hkl⟩ (fun b hb ho=>by
    have h9:R≤b∨((okt b∨okd b)∧b<w.heap.size):=Classical.byContradiction (fun hc=>ho ⟨by omega,fun hk=>hc (.inr hk)⟩)
    exact ⟨h9.elim (fun h=>.inr (by omega)) (fun h=>.inl h.1),hFall.keep b hb (by omega)⟩)
  have hOz:=hO9.keep hFall.size (fun k hk=>hk.elim (fun e=>hFall.keep k (hO9.lt k e).2 (by have:=(hO9.lt k e).1;omega)) (fun h=>h.elim))
  have HOUT:=Lib.hid (show _∧_∧Below w.heap.size w _ from ⟨hnet,hOz.row (ok':=fun b=>w.heap.size≤b) (fun _ h=>h.elim) (fun k2 hk2=>by have:=(hOz.lt k2 hk2).1;omega),(hBo.trans (hF9.below.mono (by omega))).trans hFall.below⟩)
  have hlen:es.length=l.length:=hO9.len_eq.symm
  have HLEN:=Lib.hid hlen
  obtain ⟨z1,z2⟩:=hX9.cells
  obtain ⟨f1,f2⟩:=hZb.cells
  obtain ⟨x1,x2⟩:=hXz.cells
  obtain ⟨q1,q2⟩:=hZz.cells
  have hxl:=hX9.lt
  have hfl:=hZb.lt
  simp only [List.cons_append,List.nil_append]
  clear hnet hOz hlen hFall hFz hXz hZz hXb FXb hZb hX9 hZ9 hO9 hO hkc hks hko hkb hkp hkl hnow hnext hwt hF9 hA hXo hFo hBo hb hfit hR2
  go_wp2_with ((with_reducible refine bodyPost_ret (v:=.tuple #[.agg #[.int .i64 n.ctl.stage,n0,n1,n2,y0,y1,y2,.int .i64 n.ctl.num,.slice wa n.ctl.waits.length wc,.slice sa n.switches.length sc,.slice oa n.orders.length oc,.slice ba n.backs.length bc,.slice pa n.packets.length pc,.slice pl n.plans.length lc2],.slice ea l.length ec,.agg #[.int .i64 0,.int .i64 0]]) ?ra1 ?rb1 ?rc1);go_must (case ra1=>simp [results,Tryz.results8,go_sem,x1,q1]);go_must (case rb1=>rfl);go_must (case rc1=>rw [HE.out];exact ⟨_,ea,ec,by rw [HLEN.out],HOUT.out.1,HOUT.out.2.1,HOUT.out.2.2⟩))
theorem B5g (t:C5) (ts:List Value) (okt:Nat→Prop) (w:World) (h:I5.rep okt w ts t) (l:List Do) (da:Option Addr) (dc:Nat) (okd:Nat→Prop) (hd:A8 doS okd w da dc l):
  Calls Tryz.prog 8 #[.agg ts.toArray,.slice da l.length dc] w fun e w'=>∃ (cs:List Value) (ea:Option Addr) (ec:Nat),e=.returned (.tuple #[.agg cs.toArray,.slice ea (D9 t l).2.1.length ec,.agg #[.int .i64 (D9 t l).2.2.1,.int .i64 (D9 t l).2.2.2]])∧A0g.rep (fun b=>(okt b∨okd b)∨w.heap.size≤b) w' cs (D9 t l).1∧A8 A71 (fun b=>w.heap.size≤b) w' ea ec (D9 t l).2.1∧Below w.heap.size w w':=
 B53 t ts okt w h l da dc okd hd.E
theorem A2z (t:C5) (ts:List Value) (okt:Nat→Prop) (w:World) (h:I5.rep okt w ts t) (l:List Do) (da:Option Addr) (dc:Nat) (okd:Nat→Prop) (hd:A8 doS okd w da dc l):
  Calls Tryz.prog 8 #[.agg ts.toArray,.slice da l.length dc] w fun e w'=>∃ (cs:List Value) (ea:Option Addr) (ec:Nat),e=.returned (.tuple #[.agg cs.toArray,.slice ea (D9 t l).2.1.length ec,.agg #[.int .i64 (D9 t l).2.2.1,.int .i64 (D9 t l).2.2.2]])∧A0g.rep (fun _=>True) w' cs (D9 t l).1∧A8 A71 (fun _=>True) w' ea ec (D9 t l).2.1∧Below w.heap.size w w':=
 (B5g t ts okt w h l da dc okd hd).mono fun _ _ ⟨cs,ea,ec,he,h1,h2,h3⟩=>⟨cs,ea,ec,he,A0g.mono h1 (fun _ _ _=>⟨trivial,rfl⟩),h2.anyOk (fun _ _ _=>trivial),h3⟩
end Go.Proofs.YtampcbncgofkoaaGreatDoor
