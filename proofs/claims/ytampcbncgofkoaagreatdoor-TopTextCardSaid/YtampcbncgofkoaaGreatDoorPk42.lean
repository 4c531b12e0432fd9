/- Texts of this proof, one behind the other. -/
import Derived.Test.YtampcbncgofkoaaGreatDoorPk40
set_option linter.unusedSimpArgs false
set_option linter.unusedVariables false
set_option maxRecDepth 100000
set_option maxHeartbeats 16000000
namespace Go.St
open Go.RowKit
structure B8b (base:Nat) (da0:Option Addr) (w0:World) (da:Option Addr) (w:World):Prop where
 below:Below base w0 w
 keep:∀ b,b<w0.heap.size→blk da0≠some b→w.heap[b]? =w0.heap[b]?
 free:blk da=blk da0∨∀ k,blk da=some k→w0.heap.size≤k
section
variable {base : Nat} {da0 da1 da da' : Option Addr} {w0 w1 w w' : World}
theorem B8b.refl (base:Nat) (da:Option Addr) (w:World):B8b base da w da w:=⟨Below.refl _ _,fun _ _ _=>rfl,.inl rfl⟩
theorem B8b.size (h:B8b base da0 w0 da w):w0.heap.size≤w.heap.size:=h.below.size
theorem B8b.frm (h:B8b base da0 w0 da w):Frm (fun b=>blk da0≠some b) base w0 w:=⟨h.below,h.keep⟩
theorem B8b.step (h:B8b base da0 w0 da w) (hb:Below w.heap.size w w') (h0:base≤w0.heap.size):B8b base da0 w0 da w':=
 ⟨h.below.trans (hb.mono (Nat.le_trans h0 h.size)),fun b hl hn=>(hb.block b (Nat.lt_of_lt_of_le hl h.size)).trans (h.keep b hl hn),h.free⟩
theorem B8b.app (h:B8b base da0 w0 da w) (hr:∀ k,blk da=some k→base≤k∧k<w.heap.size) (hg:w.grownBy w' (blk da)) (hd:blk da'=blk da∨blk da'=some w.heap.size) (h0:base≤w0.heap.size):B8b base da0 w0 da' w':=by
 refine ⟨h.below.trans (D6 hg (fun k hk=>(hr k hk).1) (Nat.le_trans h0 h.size)),fun b hl hn=>?_,?_⟩
 ·have hF:=Frm.grown (W:=fun b=>blk da≠some b) (B:=base) hg (fun k hk=>⟨fun hc=>hc hk,(hr k hk).1⟩) (Nat.le_trans h0 h.size)
  refine (hF.keep b (Nat.lt_of_lt_of_le hl h.size) fun e=>?_).trans (h.keep b hl hn)
  rcases h.free with h1|h1
  ·exact hn (h1▸e)
  ·have:=h1 b e;omega
 ·rcases hd with e|e
  ·rw [e];exact h.free
  ·right
   intro k hk
   rw [e] at hk
   have h3:w.heap.size=k:=by simpa using hk
   have:=h.size
   omega
theorem B8b.trans (h:B8b base da0 w0 da1 w1) (g:B8b base da1 w1 da w):B8b base da0 w0 da w:=by
 refine ⟨h.below.trans g.below,fun b hl hn=>(g.keep b (Nat.lt_of_lt_of_le hl h.size) fun e=>?_).trans (h.keep b hl hn),?_⟩
 ·rcases h.free with h1|h1
  ·exact hn (h1▸e)
  ·have:=h1 b e;omega
 ·rcases g.free with h1|h1
  ·rw [h1];exact h.free
  ·right;intro k hk;have:=h1 k hk;have:=h.size;omega
end
def B8m (n:Net) (s:Nat):List Do:=(List.range s).flatMap fun s=>B8z s (n.orders.getD s []) (n.backs.getD s [])
def B8k (s i:Nat):List Do:=(List.range i).flatMap fun _=>[B8a s,B86 s]
theorem B76 (s i:Nat):B8k s (i+1)=B8k s i++[B8a s,B86 s]:=by simp [B8k,List.range_succ]
theorem B8s {α β:Type} (x:List β):∀ l:List α,(l.flatMap fun _=>x)=(List.range l.length).flatMap fun _=>x
 |[]=>rfl
 |a::l=>by
  rw [List.flatMap_cons,B8s x l,List.length_cons,List.range_succ_eq_map,List.flatMap_cons,List.flatMap_map]
theorem B6k {n:Net} {s:Nat} {os:List G3} {bs:List Int} (ho:n.orders[s]? =some os) (hb:n.backs[s]? =some bs):B8m n (s+1)=B8m n s++B8k s os.length++List.replicate bs.length (B86 s):=by
 have e1:n.orders.getD s []=os:=by rw [List.getD_eq_getElem?_getD,ho];rfl
 have e2:n.backs.getD s []=bs:=by rw [List.getD_eq_getElem?_getD,hb];rfl
 unfold B8m
 rw [List.range_succ,List.flatMap_append,List.flatMap_cons,List.flatMap_nil,List.append_nil,e1,e2,List.append_assoc]
 congr 1
 unfold B8z B8k
 rw [B8s,List.map_const']
structure B6o (t:C5) (cur:List Do) (n:Net):Prop where
 sw:n.switches.length≤8
 os:n.orders.length=n.switches.length
 bs:n.backs.length=n.switches.length
 ord:∀ o∈n.orders,o.length≤4000
 back:∀ b∈n.backs,b.length≤200
 next:(cur++B87 n).length≤1000
theorem B7b (t:C5) (cur:List Do) (hl:cur.length≤1000):B6o t cur (D9 t cur).1:=by
  have hno:B6o t cur A75:=⟨by decide,rfl,rfl,fun o h=>by simp [A75] at h,fun o h=>by simp [A75] at h,by show (cur++[]).length≤1000;rw [List.append_nil];exact hl⟩
  by_cases ht:(B6 t).1=0
  case neg=>
    have:(D9 t cur).1=A75:=by unfold D9;rw [if_pos ht]
    rw [this];exact hno
  by_cases h2:cur.length≤200
  case neg=>
    have:(D9 t cur).1=A75:=by unfold D9;rw [if_neg (by rw [ht];decide),if_pos (by omega)]
    rw [this];exact hno
  obtain ⟨hok,hf⟩:=A3r ht h2
  rw [W2 ht h2]
  dsimp only
  have h8:=(J8 ht).1.2.1
  refine ⟨by rw [hf.sw];omega,by rw [hf.os,hf.sw],by rw [hf.bs,hf.sw],fun o ho=>by have:=(hf.ord o ho).1;omega,fun b hb=>by have:=hf.back b hb;omega,?_⟩
  obtain ⟨p0,p,a,b,o,st,h⟩:=hok
  rw [List.length_append,h.round]
  have:∀ l:List Nat,(l.flatMap fun s=>B8d s (st s)).length≤2 * l.length:=fun l=>by
    induction l with
    |nil=>exact Nat.zero_le _
    |cons x l ih=>
      rw [List.flatMap_cons,List.length_append,List.length_cons]
      have:(B8d x (st x)).length≤2:=by
        unfold B8d
        split
        · simp
        · split<;>simp
      omega
  have:=this (List.range t.n.toNat)
  rw [List.length_range] at this
  omega
theorem B7t {w:World} {b:Nat} {e:TypeId} {s:Nat} {ok:Nat→Prop} (h:A6 w b e #[.int .i64 2,.int .i64 (s:Int),.slice none 0 0,.int .i64 3,.int .i64 (s:Int),.slice none 0 0]) (hs:s≤1000):D7 doS ok w (some ⟨b,0,none⟩) [B8a s,B86 s]:=by
  have hc:=h.cells.1
  refine .inr ⟨b,0,rfl,fun i y hy=>?_⟩
  match i,hy with
  |0,hy=>
    obtain rfl:_=y:=by simpa using hy
    refine ⟨_,⟨none,0,rfl,I64.small (n:=2) (by decide) (by decide),I64.small (by show -1000000000000≤(s:Int);omega) (by show (s:Int)≤1000000000000;omega),A8.nil _ _ _ _⟩,fun j c hj=>?_⟩
    match j,hj with
    |0,hj=>exact (hc 0).trans hj
    |1,hj=>exact (hc 1).trans hj
    |2,hj=>exact (hc 2).trans hj
    |j+3,hj=>simp at hj
  |1,hy=>
    obtain rfl:_=y:=by simpa using hy
    refine ⟨_,⟨none,0,rfl,I64.small (n:=3) (by decide) (by decide),I64.small (by show -1000000000000≤(s:Int);omega) (by show (s:Int)≤1000000000000;omega),A8.nil _ _ _ _⟩,fun j c hj=>?_⟩
    match j,hj with
    |0,hj=>exact (hc 3).trans hj
    |1,hj=>exact (hc 4).trans hj
    |2,hj=>exact (hc 5).trans hj
    |j+3,hj=>simp at hj
  |i+2,hy=>simp at hy
theorem B66 {w:World} {b:Nat} {e:TypeId} {d:Do} {ok:Nat→Prop} (h:A6 w b e #[.int .i64 d.kind,.int .i64 d.n,.slice none 0 0]) (h1:I64 d.kind) (h2:I64 d.n) (h3:d.flows=[]):D7 doS ok w (some ⟨b,0,none⟩) [d]:=by
  have hc:=h.cells.1
  obtain ⟨k,n,fl⟩:=d
  dsimp only at *
  subst h3
  refine .inr ⟨b,0,rfl,fun i y hy=>?_⟩
  match i,hy with
  |0,hy=>
    obtain rfl:_=y:=by simpa using hy
    refine ⟨_,⟨none,0,rfl,h1,h2,A8.nil _ _ _ _⟩,fun j c hj=>?_⟩
    match j,hj with
    |0,hj=>exact (hc 0).trans hj
    |1,hj=>exact (hc 1).trans hj
    |2,hj=>exact (hc 2).trans hj
    |j+3,hj=>simp at hj
  |i+1,hy=>simp at hy
end Go.St
namespace Go.Proofs.YtampcbncgofkoaaGreatDoor
open Go.RowKit Go.St
theorem B92:(Tryz.prog.info? 40).map (fun i=>(i.zero,i.size,i.bytes))=some (some (.agg #[.int .i64 0,.int .i64 0,.slice none 0 0]),3,40):=by kernel_rfl
end Go.Proofs.YtampcbncgofkoaaGreatDoor
