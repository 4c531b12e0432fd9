/- Texts of this proof, one behind the other. -/
import Derived.MapKept
import Derived.WideKeyRuns
import Derived.Carry
import Derived.Test.YtampcbncgofkoaaGreatDoorPk4
set_option linter.unusedSimpArgs false
set_option linter.unusedVariables false
set_option maxRecDepth 100000
set_option maxHeartbeats 16000000
namespace Go.St
open Go.RowKit
def U0 {κ:Type} [DecidableEq κ] (k:κ):List (κ × Value)→Nat→Option (Nat × Value)
 |[],_=>none
 |(a,v)::r,i=>if k=a then some (i,v) else U0 k r (i+1)
def A25 {κ:Type} [DecidableEq κ] (k:κ) (ents:List (κ × Value)):Option Value:=(U0 k ents 0).map (·.2)
def A2x {κ:Type} [DecidableEq κ] (k:κ) (v:Value):List (κ × Value)→List (κ × Value)
 |[]=>[(k,v)]
 |(a,u)::r=>if k=a then (a,v)::r else (a,u)::A2x k v r
structure A0l (P:Program) (kt:TypeId) {κ:Type} [DecidableEq κ] (enc:κ→Value):Prop where
 check:∀ (e:Bool) (k:κ) (w:World),(Instr.checkKey e 10000 kt (enc k)).run P w=.ok () w
 find:∀ (k:κ) (es:List MapEntry) (ents:List (κ × Value)) (w:World),es.map (fun e=>(e.key,e.val))=ents.map (fun p=>(enc p.1,p.2))→(Instr.findKey kt (enc k) es).run P w=.ok (U0 k ents 0) w
 stay:∀ (k:κ) (w:World),(Instr.keyThatStays (enc k) (enc k)).run P w=.ok (enc k) w
theorem A0n {P:Program} {kt:TypeId} {κ:Type} [DecidableEq κ] {enc:κ→Value} (heq:∀ (a b:κ) (w:World),(Op.equal kt (enc a) (enc b)).run P w=.ok (decide (a=b)) w) (k:κ) (w:World):
  ∀ (es:List MapEntry) (ents:List (κ × Value)) (i:Nat),es.map (fun e=>(e.key,e.val))=ents.map (fun p=>(enc p.1,p.2))→(Instr.findAsking kt (enc k) es i).run P w=.ok (U0 k ents i) w
 |[],[],_,_=>by simp [Instr.findAsking,U0]
 |[],_::_,_,h=>by simp at h
 |_::_,[],_,h=>by simp at h
 |e::es,(a,v)::ents,i,h=>by
  simp only [List.map_cons,List.cons.injEq,Prod.mk.injEq] at h
  obtain ⟨⟨h1,h2⟩,h3⟩:=h
  unfold Instr.findAsking U0
  rw [h1]
  simp only [Sem.run_bind,heq,Result.andThen_ok]
  by_cases hk:k=a
  ·simp [hk,h2]
  ·simp only [hk,decide_false,Bool.false_eq_true,if_false]
   exact A0n heq k w es ents (i+1) h3
theorem A0l.asking {P:Program} {kt:TypeId} {κ:Type} [DecidableEq κ] {enc:κ→Value} (hwide:(match P.underlying kt with|some (.array _ _)|some (.struct _)=>true|_=>false)=true)
  (hc:∀ (e:Bool) (k:κ) (w:World),(Instr.checkKey e 10000 kt (enc k)).run P w=.ok () w) (heq:∀ (a b:κ) (w:World),(Op.equal kt (enc a) (enc b)).run P w=.ok (decide (a=b)) w)
  (hs:∀ (k:κ),Instr.sameBits 10000 (enc k) (enc k)=true):A0l P kt enc where
 check:=hc
 find k es ents w he:=by rw [run_findKey_eq w hwide];exact A0n heq k w es ents 0 he
 stay k w:=by simp [Instr.keyThatStays,hs]
def R6 {κ:Type} (enc:κ→Value) (w:World) (r:Nat) (ents:List (κ × Value)):Prop:=
 ∃ es clock,w.heap[r]? =some (.map es clock)∧es.toList.map (fun e=>(e.key,e.val))=ents.map (fun p=>(enc p.1,p.2))
theorem R6.keep {κ:Type} {enc:κ→Value} {w w':World} {r:Nat} {ents:List (κ × Value)} (h:R6 enc w r ents) (hr:w'.heap[r]? =w.heap[r]?):R6 enc w' r ents:=by
 obtain ⟨es,clock,h1,h2⟩:=h
 exact ⟨es,clock,hr.trans h1,h2⟩
theorem R6.lt {κ:Type} {enc:κ→Value} {w:World} {r:Nat} {ents:List (κ × Value)} (h:R6 enc w r ents):r<w.heap.size:=by
 obtain ⟨es,clock,h1,h2⟩:=h
 exact (Array.getElem?_eq_some_iff.1 h1).1
theorem R6.below {κ:Type} {enc:κ→Value} {w w':World} {r B:Nat} {ents:List (κ × Value)} (h:R6 enc w r ents) (hb:Below B w w') (hr:r<B):R6 enc w' r ents:=h.keep (hb.block r hr)
theorem R6.made {κ:Type} (enc:κ→Value) (w:World):R6 enc (w.alloc (.map #[] 0)) w.heap.size []:=
 ⟨#[],0,heap_alloc_new w _,rfl⟩
theorem R6.made' {κ:Type} (enc:κ→Value) (w:World) (r:Nat) (h:w.heap.size=r):R6 enc (w.alloc (.map #[] 0)) r []:=h▸R6.made enc w
section
variable {P : Program} {w : World}
theorem A7r {κ:Type} [DecidableEq κ] {enc:κ→Value} (mt kt et:TypeId) (hm:P.underlying mt=some (.map kt et)) (law:A0l P kt enc) {r:Nat} {ents:List (κ × Value)} (h:R6 enc w r ents) (k:κ) (z:Value)
    (hz:∀ w,(zeroValue et).run P w=.ok z w):(Instr.lookup mt (.map (some r)) (enc k) false).run P w=.ok ((A25 k ents).getD z) w:=by
  obtain ⟨es,clock,hb,he⟩:=h
  have hg:=MapKept.run_getObj_map (P:=P) hb
  simp only [Instr.lookup,Sem.run_bind,run_underlying hm,Result.andThen_ok,hg,Sem.run_pure,law.check,law.find k es.toList ents w he,A25]
  cases U0 k ents 0 with
  |none=>simp [hz,Result.andThen]
  |some p=>simp [Result.andThen]
theorem A64 {κ:Type} [DecidableEq κ] {k:κ} {v:Value}:∀ {ents:List (κ × Value)} {i:Nat},U0 k ents i=none→A2x k v ents=ents++[(k,v)]
 |[],_,_=>rfl
 |(a,u)::r,i,h=>by
  unfold U0 at h
  unfold A2x
  by_cases hk:k=a
  ·simp [hk] at h
  ·rw [if_neg hk] at h ⊢
   rw [A64 h];rfl
theorem A4l {κ:Type} [DecidableEq κ] {k:κ} {v:Value}:∀ {ents:List (κ × Value)} {i j:Nat} {u:Value},U0 k ents i=some (j,u)→i≤j∧j - i<ents.length∧ents[j - i]? =some (k,u)∧A2x k v ents=ents.set (j - i) (k,v)
 |[],_,_,_,h=>by simp [U0] at h
 |(a,x)::r,i,j,u,h=>by
  unfold U0 at h
  unfold A2x
  by_cases hk:k=a
  ·subst hk
   simp only [if_true,Option.some.injEq,Prod.mk.injEq] at h ⊢
   obtain ⟨rfl,rfl⟩:=h
   simp
  ·rw [if_neg hk] at h ⊢
   obtain ⟨h1,h2,h3,h4⟩:=A4l (v:=v) h
   have e:j - i=(j - (i+1))+1:=by omega
   refine ⟨by omega,by simp only [List.length_cons];omega,?_,?_⟩
   ·rw [e,List.getElem?_cons_succ];exact h3
   ·rw [e,List.set_cons_succ,h4]
theorem A8c {κ:Type} [DecidableEq κ] {enc:κ→Value} (mt kt et:TypeId) (hm:P.underlying mt=some (.map kt et)) (law:A0l P kt enc) {r:Nat} {ents:List (κ × Value)} (h:R6 enc w r ents) (k:κ) (v:Value):
  ∃ w',(Instr.mapUpdate mt (.map (some r)) (enc k) v).run P w=.ok () w'∧R6 enc w' r (A2x k v ents)∧w.grownBy w' (some r):=by
 obtain ⟨es,clock,hb,he⟩:=h
 have hg:=MapKept.run_getObj_map (P:=P) hb
 have hrun:∀ o,(setObj r o).run P w=.ok () {w with heap:=w.heap.setIfInBounds r o}:=fun o=>MapKept.run_setObj_map o hb
 have hset:=fun o'=>MapKept.heap_set (o':=o') hb
 simp only [Instr.mapUpdate,Sem.run_bind,run_underlying hm,Result.andThen_ok,hg,Sem.run_pure,law.check,law.find k es.toList ents w he]
 cases hf:U0 k ents 0 with
 |none=>
  refine ⟨{w with heap:=w.heap.setIfInBounds r (.map (es.push {key:=enc k,val:=v,born:=clock}) (clock+1))},by simp [hrun],?_,⟨rfl,rfl,rfl,by simp,fun i _ hi=>(hset _).2 i (fun e=>hi (by rw [e]))⟩⟩
  refine ⟨_,_,(hset _).1,?_⟩
  rw [A64 hf]
  simp [he]
 |some p=>
  obtain ⟨j,u⟩:=p
  obtain ⟨_,h2,h3,h4⟩:=A4l (v:=v) hf
  simp only [Nat.sub_zero] at h2 h3 h4
  have hlen:es.toList.length=ents.length:=by have:=congrArg List.length he;simpa using this
  have hj:j<es.size:=by rw [←Array.length_toList,hlen];exact h2
  have hkey:(es[j]?.map (·.key)).getD (enc k)=enc k:=by
   have:=congrArg (fun l=>l[j]?) he
   simp only [List.getElem?_map,h3,Option.map_some,Array.getElem?_toList,Array.getElem?_eq_getElem hj,Option.some.injEq,Prod.mk.injEq] at this
   rw [Array.getElem?_eq_getElem hj]
   exact this.1
  have hk2:(law.stay k)=(law.stay k):=rfl
  refine ⟨{w with heap:=w.heap.setIfInBounds r (.map (es.modify j fun e=>{e with key:=enc k,val:=v}) clock)},by simp [hkey,law.stay,hrun,Result.andThen],?_,⟨rfl,rfl,rfl,by simp,fun i _ hi=>(hset _).2 i (fun e=>hi (by rw [e]))⟩⟩
  refine ⟨_,_,(hset _).1,?_⟩
  rw [h4]
  apply List.ext_getElem?
  intro i
  simp only [List.getElem?_map,Array.getElem?_toList,Array.getElem?_modify,List.getElem?_set]
  have hi:=congrArg (fun l=>l[i]?) he
  simp only [List.getElem?_map,Array.getElem?_toList] at hi
  by_cases hij:j=i
  ·subst hij
   rw [if_pos rfl,if_pos rfl,if_pos h2,Array.getElem?_eq_getElem hj]
   rfl
  ·rw [if_neg hij,if_neg hij]
   exact hi
theorem S5 {κ:Type} [DecidableEq κ] {enc:κ→Value} {ops:Array Oper} {rest:List Oper} {o:Oper} {a:Act} {Q:Exit→Act→World→Prop} (hgd:o.guard=none) (m x:Operand) (mt:TypeId) (ho:o.op=.lookup mt m x false)
  (kt et:TypeId) (hm:P.underlying mt=some (.map kt et)) (law:A0l P kt enc) {r:Nat} {ents:List (κ × Value)} (h:R6 enc w r ents) (k:κ) (z:Value) (hz:∀ w,(zeroValue et).run P w=.ok z w)
  (he:a.eval m=.map (some r)) (hk:a.eval x=enc k) (hn:wpList P ops Q rest (a.put o.dst ((A25 k ents).getD z)) w):wpList P ops Q (o::rest) a w:=
 wpList_plain hgd fun K hK=>by
  have hr:=A7r (P:=P) mt kt et hm law h k z hz
  unfold Oper.wp execOp
  simp only [ho,he,hk,Sem.run_bind,hr,Result.andThen_ok,Sem.run_pure]
  exact hK _ _ hn
theorem A0s {κ:Type} [DecidableEq κ] {enc:κ→Value} {ops:Array Oper} {rest:List Oper} {o:Oper} {a:Act} {Q:Exit→Act→World→Prop} (hgd:o.guard=none) (m x y:Operand) (mt:TypeId) (ho:o.op=.insert mt m x y∨o.op=.mapUpdate mt m x y)
  (kt et:TypeId) (hm:P.underlying mt=some (.map kt et)) (law:A0l P kt enc) {r:Nat} {ents:List (κ × Value)} (h:R6 enc w r ents) (k:κ) (v:Value)
  (he:a.eval m=.map (some r)) (hk:a.eval x=enc k) (hv:a.eval y=v) (hn:∀ w',R6 enc w' r (A2x k v ents)→w.grownBy w' (some r)→wpList P ops Q rest (a.put o.dst undef) w'):wpList P ops Q (o::rest) a w:=
 wpList_plain hgd fun K hK=>by
  obtain ⟨w',hr,h1,h2⟩:=A8c (P:=P) mt kt et hm law h k v
  unfold Oper.wp execOp
  rcases ho with ho|ho
  ·simp only [ho,he,hk,hv,Sem.run_bind,hr,Result.andThen_ok,Sem.run_pure]
   exact hK _ _ (hn w' h1 h2)
  ·simp only [ho,he,hk,hv,Sem.run_bind,hr,Result.andThen_ok,Sem.run_pure]
   exact hK _ _ (hn w' h1 h2)
end
open Go.RowKit
def A6 (w:World) (b:Nat) (t:TypeId) (cs:Array Value):Prop:=w.heap[b]? =some (.cells cs t (0,0))
theorem A6.cells {w:World} {b:Nat} {t:TypeId} {cs:Array Value} (h:A6 w b t cs):(∀ o,w.cell? ⟨b,o,none⟩=cs[o]?)∧(∀ o,w.frozen? ⟨b,o,none⟩=false):=by
 unfold A6 at h
 refine ⟨fun o=>by simp [World.cell?,h],fun o=>by simp [World.frozen?,h]⟩
theorem A6.lt {w:World} {b:Nat} {t:TypeId} {cs:Array Value} (h:A6 w b t cs):b<w.heap.size:=(Array.getElem?_eq_some_iff.1 h).1
theorem A6.keep {w w':World} {b:Nat} {t:TypeId} {cs:Array Value} (h:A6 w b t cs) (e:w'.heap[b]? =w.heap[b]?):A6 w' b t cs:=e.trans h
theorem A6.below {B:Nat} {w w':World} {b:Nat} {t:TypeId} {cs:Array Value} (h:A6 w b t cs) (hb:Below B w w') (hl:b<B):A6 w' b t cs:=h.keep (hb.block b hl)
theorem A6.under {w w':World} {b:Nat} {t:TypeId} {cs:Array Value} (h:A6 w b t cs) (hb:Below w.heap.size w w'):A6 w' b t cs:=h.below hb h.lt
theorem A6.grown {w w':World} {row:Option Nat} {b:Nat} {t:TypeId} {cs:Array Value} (h:A6 w b t cs) (hg:w.grownBy w' row) (hn:some b≠row):A6 w' b t cs:=h.keep (hg.block b h.lt hn)
theorem A6.alloc {w:World} {b:Nat} {t:TypeId} {cs:Array Value} (h:A6 w b t cs) (o:Obj):A6 (w.alloc o) b t cs:=h.keep (heap_alloc_old w o b h.lt)
theorem A6.new {w:World} {b:Nat} {t:TypeId} {cs:Array Value} (h:w.heap.size=b):A6 (w.alloc (.cells cs t)) b t cs:=h▸heap_alloc_new w _
theorem A6.drewN {w:World} {b:Nat} {t:TypeId} {cs:Array Value} (h:A6 w b t cs) (n:Nat):A6 (w.drewN n) b t cs:=h
theorem A6.drew {w:World} {b:Nat} {t:TypeId} {cs:Array Value} (h:A6 w b t cs):A6 w.drew b t cs:=h
theorem A6.setOther {w:World} {b:Nat} {t:TypeId} {cs:Array Value} (h:A6 w b t cs) {a:Addr} (ha:b≠a.block) (v:Value):A6 (w.setCell a v) b t cs:=h.keep (Below.heap_setCell w a v b ha)
theorem A6.set {w:World} {b:Nat} {t:TypeId} {cs:Array Value} (h:A6 w b t cs) (o:Nat) (v:Value):A6 (w.setCell ⟨b,o,none⟩ v) b t (cs.setIfInBounds o v):=by
 unfold A6 at *
 simp [World.setCell,Array.getElem?_modify,h]
theorem C7.setCell {α:Type} {sh:D1 α} {e:TypeId} {base:Nat} {w:World} {ao:Option Addr} {n cap:Nat} {xs:List α} (h:C7 sh e (fun _=>False) base w ao n cap xs) {a:Addr} (ha:a.block<base) (v:Value):
  C7 sh e (fun _=>False) base (w.setCell a v) ao n cap xs:=
 h.keep (by simp [World.setCell]) fun k hk=>Below.heap_setCell w a v k (by
  rcases hk with hk|hk
  ·have:=(h.lt k hk).1;omega
  ·exact hk.elim)
theorem I6 (w : World) (τ : TypeId) (c : Array Value) : A6 (w.alloc (.cells c τ)) w.heap.size τ c := A6.new rfl
open Go.RowKit
structure Frm (W:Nat→Prop) (B:Nat) (w w':World):Prop where
 below:Below B w w'
 keep:∀ b,b<w.heap.size→W b→w'.heap[b]? =w.heap[b]?
section
variable {W : Nat → Prop} {B : Nat} {w w' w'' : World}
theorem Frm.refl (W:Nat→Prop) (B:Nat) (w:World):Frm W B w w:=⟨Below.refl _ _,fun _ _ _=>rfl⟩
theorem Frm.size (h:Frm W B w w'):w.heap.size≤w'.heap.size:=h.below.size
theorem Frm.trans (h:Frm W B w w') (k:Frm W B w' w''):Frm W B w w'':=
 ⟨h.below.trans k.below,fun b hb hW=>(k.keep b (Nat.lt_of_lt_of_le hb h.size) hW).trans (h.keep b hb hW)⟩
theorem Frm.of (h:Below w.heap.size w w') (hB:B≤w.heap.size):Frm W B w w':=⟨h.mono hB,fun b hb _=>h.block b hb⟩
theorem Frm.set {a:Addr} (ha:¬W a.block) (hB:B≤a.block) (v:Value):Frm W B w (w.setCell a v):=
 ⟨(Below.refl _ _).setCell hB v,fun b _ hW=>Below.heap_setCell w a v b (fun e=>ha (e▸hW))⟩
theorem Frm.grown {row:Option Nat} (hg:w.grownBy w' row) (hW:∀ k,row=some k→¬W k∧B≤k) (hB:B≤w.heap.size):Frm W B w w':=
 ⟨(Below.refl _ _).grown hg hB (fun k hk=>(hW k hk).2),fun b hb h=>hg.block b hb (fun e=>(hW b e.symm).1 h)⟩
theorem Frm.weak {V:Nat→Prop} {C:Nat} (h:Frm W B w w') (hV:∀ b,b<w.heap.size→V b→W b∨b<B) (hC:C≤B):Frm V C w w':=
 ⟨h.below.mono hC,fun b hb hv=>by
  rcases hV b hb hv with h1|h1
  ·exact h.keep b hb h1
  ·exact h.below.block b h1⟩
theorem Frm.rep {α:Type} {S:D1 α} {cs:List Value} {a:α} (h:Frm W B w w') (hr:S.rep W w cs a):S.rep W w' cs a:=S.mono hr fun b hb hW=>⟨hW,h.keep b hb hW⟩
theorem Frm.row {α:Type} {S:D1 α} {ao:Option Addr} {c:Nat} {xs:List α} (h:Frm W B w w') (hr:A8 S W w ao c xs):A8 S W w' ao c xs:=hr.mono fun b hb hW=>⟨hW,h.keep b hb hW⟩
theorem Frm.blk {b:Nat} {t:TypeId} {cs:Array Value} (h:Frm W B w w') (hk:A6 w b t cs) (hW:W b∨b<B):A6 w' b t cs:=
 hk.keep (by
  rcases hW with h1|h1
  ·exact h.keep b hk.lt h1
  ·exact h.below.block b h1)
end
theorem A8.anyOk {α:Type} {S:D1 α} {ok ok':Nat→Prop} {w:World} {ao:Option Addr} {c:Nat} {xs:List α} (h:A8 S ok w ao c xs) (hk:∀ b,b<w.heap.size→ok b→ok' b):A8 S ok' w ao c xs:=h.mono fun b hb h1=>⟨hk b hb h1,rfl⟩
theorem D1.anyOk {α:Type} (S:D1 α) {ok ok':Nat→Prop} {w:World} {cs:List Value} {a:α} (h:S.rep ok w cs a) (hk:∀ b,b<w.heap.size→ok b→ok' b):S.rep ok' w cs a:=S.mono h fun b hb h1=>⟨hk b hb h1,rfl⟩
theorem Frm.rep' {α:Type} {S:D1 α} {W ok:Nat→Prop} {B:Nat} {w w':World} {cs:List Value} {a:α} (h:Frm W B w w') (hr:S.rep ok w cs a) (hk:∀ b,ok b→W b∨b<B):S.rep ok w' cs a:=S.mono hr fun b hb ho=>⟨ho,by
 rcases hk b ho with h1|h1
 ·exact h.keep b hb h1
 ·exact h.below.block b h1⟩
theorem Frm.row' {α:Type} {S:D1 α} {W ok:Nat→Prop} {B:Nat} {w w':World} {ao:Option Addr} {c:Nat} {xs:List α} (h:Frm W B w w') (hr:A8 S ok w ao c xs) (hk:∀ b,ok b→W b∨b<B):A8 S ok w' ao c xs:=hr.mono fun b hb ho=>⟨ho,by
 rcases hk b ho with h1|h1
 ·exact h.keep b hb h1
 ·exact h.below.block b h1⟩
theorem C7.frm {α:Type} {sh:D1 α} {e:TypeId} {ok:Nat→Prop} {base:Nat} {w:World} {ao:Option Addr} {n cap:Nat} {xs:List α} {W:Nat→Prop} {B:Nat} {w':World} (h:C7 sh e ok base w ao n cap xs) (hF:Frm W B w w') (hk:∀ b,ok b→W b) (hb:∀ k,blk ao=some k→W k):C7 sh e ok base w' ao n cap xs:=by
 have h5:∀ b,ok b→b<w.heap.size:=by obtain ⟨_,_,_,_,_,h5⟩:=h;exact h5
 refine h.keep hF.size fun k hk'=>?_
 rcases hk' with hk'|hk'
 ·exact hF.keep k (h.lt k hk').2 (hb k hk')
 ·exact hF.keep k (h5 k hk') (hk k hk')
open Go.RowKit
section
variable {P : Program} {w : World}
theorem A73 (t ty e:TypeId) (i:TypeInfo) (ht:P.underlying t=some (.slice e)) (hi:P.info? e=some i) (hz:i.zero=some (.int .i64 0)) (hsize:i.size=1) (hby:i.bytes=8) {ok ok':Nat→Prop} {base:Nat}
  {b off n:Nat} {xs:List Int} (hr:A8 C2 ok w (some ⟨b,off,none⟩) n xs) (hn:xs.length=n) (hn0:0<n) {ax:Option Addr} {c:Nat} {ys:List Int} {m:Nat} (hm:ys.length=m) (hm0:0<m) (hsrc:D7 C2 ok' w ax ys)
  (h63:n+m≤1000000) (hbase:base≤w.heap.size):
  ∃ cap' w',(Builtin.append_ #[t,t] ty #[.slice (some ⟨b,off,none⟩) n n,.slice ax m c]).run P w=.ok (.slice (some ⟨w.heap.size,0,none⟩) (n+m) cap') w'∧C7 C2 e (fun _=>False) base w' (some ⟨w.heap.size,0,none⟩) (n+m) cap' (xs++ys)∧Below w.heap.size w w':=by
 have hI:∀ x∈xs++ys,I64 x:=by
  intro x hx
  rcases List.mem_append.1 hx with hx|hx
  ·obtain ⟨k,hk⟩:=List.getElem?_of_mem hx
   obtain ⟨_,_,_,_,_,cs,⟨_,h⟩,_⟩:=hr.get hk
   exact h
  ·obtain ⟨k,hk⟩:=List.getElem?_of_mem hx
   rcases hsrc with rfl|⟨_,_,_,he⟩
   ·simp at hk
   ·obtain ⟨cs,⟨_,h⟩,_⟩:=he k x hk
    exact h
 have hxs:∀ j u,(xs.map (Value.int .i64))[j]? =some u→w.cell? ((⟨b,off,none⟩:Addr).add j)=some u:=by
  intro j u hu
  rw [List.getElem?_map] at hu
  obtain ⟨x,hx,rfl⟩:=Option.map_eq_some_iff.1 hu
  obtain ⟨b',off',hbo,_,_,cs,⟨rfl,_⟩,hce⟩:=hr.get hx
  obtain ⟨rfl,rfl⟩:b=b'∧off=off':=by simpa using hbo
  have:=hce 0 _ rfl
  simp only [C2,Nat.mul_one,Nat.add_zero] at this
  rw [Addr.add_lit];exact this
 obtain ⟨a,rfl,hnew⟩:∃ a,ax=some a∧∀ j u,(ys.map (Value.int .i64))[j]? =some u→w.cell? (a.add j)=some u:=by
  rcases hsrc with rfl|⟨b',off',rfl,he⟩
  ·simp at hm;omega
  ·refine ⟨_,rfl,fun j u hu=>?_⟩
   rw [List.getElem?_map] at hu
   obtain ⟨x,hx,rfl⟩:=Option.map_eq_some_iff.1 hu
   obtain ⟨cs,⟨rfl,_⟩,hce⟩:=he j x hx
   have:=hce 0 _ rfl
   simp only [C2,Nat.mul_one,Nat.add_zero] at this
   rw [Addr.add_lit];exact this
 have hbytes:(n+m) * i.bytes≤140737488355328:=by rw [hby];omega
 have hrun:=run_append_grow (P:=P) w t ty e i (.int .i64 0) ht hi hz ⟨b,off,none⟩ n n (xs.map (Value.int .i64)) (by simp [hsize,hn]) hxs a m c (ys.map (Value.int .i64)) (by simp [hsize,hm]) hnew (by omega) (by omega) (growslice_fits (by omega) hbytes)
 have hge:=grownCap_ge w (n+m) n e
 have hcm:grownCap w (n+m) n e≤maxLen:=grownCap_le_maxLen w (n+m) n e (by simp only [maxLen];omega)
 refine ⟨_,_,hrun,⟨(xs++ys).map (Value.int .i64),⟨by simp [C2,hn,hm],hge,hcm,.inr ⟨w.heap.size,_,rfl,hbase,heap_alloc_new w.drew _,?_,?_⟩⟩,by simp [hn,hm],A4v hI,by simp,by simp⟩,?_⟩
 ·simp only [Array.size_append,List.size_toArray,List.length_map,hn,hm,size_zeroCells,C2,Value.cells]
  simp
  omega
 ·simp only [Array.toList_append,List.append_assoc,C2]
  rw [←List.append_assoc,←List.map_append]
  have:(n+m) * 1=((xs++ys).map (Value.int .i64)).length:=by simp [hn,hm]
  rw [this]
  exact List.take_left
 ·exact ((Below.refl _ _).drew).alloc (by simp) _
theorem S8 {ops:Array Oper} {rest:List Oper} {o:Oper} {a:Act} {Q:Exit→Act→World→Prop} (hgd:o.guard=none) (s x:Operand) (t:TypeId)
  (ho:o.op=.call {callee:=.builtin .append,args:=#[s,x],argTypes:=#[t,t]})
  (e:TypeId) (i:TypeInfo) (ht:P.underlying t=some (.slice e)) (hi:P.info? e=some i) (hz:i.zero=some (.int .i64 0)) (hsize:i.size=1) (hby:i.bytes=8) {ok ok':Nat→Prop} {base:Nat}
  {b off n:Nat} {xs:List Int} (hs:a.eval s=.slice (some ⟨b,off,none⟩) n n) (hr:A8 C2 ok w (some ⟨b,off,none⟩) n xs) (hn:xs.length=n) (hn0:0<n) {ax:Option Addr} {c:Nat} {ys:List Int} {m:Nat} (hx:a.eval x=.slice ax m c) (hm:ys.length=m) (hm0:0<m) (hsrc:D7 C2 ok' w ax ys)
  (h63:n+m≤1000000) (hbase:base≤w.heap.size)
  (h:∀ cap' w',C7 C2 e (fun _=>False) base w' (some ⟨w.heap.size,0,none⟩) (n+m) cap' (xs++ys)→Below w.heap.size w w'→wpList P ops Q rest (a.put o.dst (.slice (some ⟨w.heap.size,0,none⟩) (n+m) cap')) w'):wpList P ops Q (o::rest) a w:=
 wpList_plain hgd fun K hK=>by
  obtain ⟨cap',w',hrun,h2,h3⟩:=A73 (P:=P) t o.type e i ht hi hz hsize hby hr hn hn0 (c:=c) hm hm0 hsrc h63 hbase
  unfold Oper.wp execOp
  simp only [ho,resolve,invoke,builtin,Sem.run_bind,Sem.run_pure,Result.andThen_ok,List.map_toArray,List.map_cons,List.map_nil,hs,hx,hrun]
  exact hK _ _ (h cap' w' h2 h3)
end
structure But (s:Nat) (w w':World):Prop where
 os:w'.os=w.os
 tape:w'.tape=w.tape
 output:w'.output=w.output
 size:w.heap.size≤w'.heap.size
 block:∀ k,k<w.heap.size→k≠s→w'.heap[k]? =w.heap[k]?
theorem But.refl (s:Nat) (w:World):But s w w:=⟨rfl,rfl,rfl,Nat.le_refl _,fun _ _ _=>rfl⟩
theorem But.trans {s:Nat} {a b c:World} (h:But s a b) (k:But s b c):But s a c:=
 ⟨k.os.trans h.os,k.tape.trans h.tape,k.output.trans h.output,Nat.le_trans h.size k.size,fun i hi hs=>(k.block i (Nat.lt_of_lt_of_le hi h.size) hs).trans (h.block i hi hs)⟩
theorem But.of {s:Nat} {w w':World} (h:Below w.heap.size w w'):But s w w':=⟨h.os,h.tape,h.output,h.size,fun k hk _=>h.block k hk⟩
theorem But.set {s:Nat} (w:World) (o:Nat) (v:Value):But s w (w.setCell ⟨s,o,none⟩ v):=by
 refine ⟨rfl,rfl,rfl,by simp [World.setCell],fun k hk hs=>Below.heap_setCell w _ v k (by simpa using hs)⟩
theorem But.below {s B:Nat} {w w':World} (h:But s w w') (hB:B≤s) (hw:B≤w.heap.size):Below B w w':=
 ⟨h.os,h.tape,h.output,h.size,fun k hk=>h.block k (by omega) (by omega)⟩
theorem A8.but {α:Type} {sh:D1 α} {s:Nat} {w w':World} {ao:Option Addr} {cap:Nat} {xs:List α} (h:A8 sh (fun b=>b≠s) w ao cap xs) (hb:But s w w'):A8 sh (fun b=>b≠s) w' ao cap xs:=
 h.mono fun b hlt hk=>⟨hk,hb.block b hlt hk⟩
theorem But.cell {s:Nat} {w w':World} (h:But s w w') {b o:Nat} {v:Value} (hb:b<w.heap.size) (hs:b≠s) (hc:w.cell? ⟨b,o,none⟩=some v):w'.cell? ⟨b,o,none⟩=some v:=by
 rw [World.cell?_of_block (w:=w) (h.block b hb hs)];exact hc
open Go.RowKit
def oth (lo:Nat) (w:World) (ao:Option Addr):Nat→Prop:=fun b=>lo≤b∧b<w.heap.size∧blk ao≠some b
theorem oth.nil {α:Type} (sh:D1 α) (e:TypeId) (lo base:Nat) (w:World):C7 sh e (oth lo w none) base w none 0 0 []:=C7.nil _ _ _ _ _ fun _ h=>h.2.1
theorem oth.below {α:Type} {sh:D1 α} {e:TypeId} {lo base:Nat} {w w':World} {ao:Option Addr} {n cap:Nat} {xs:List α} (h:C7 sh e (oth lo w ao) base w ao n cap xs) (hb:Below w.heap.size w w'):C7 sh e (oth lo w' ao) base w' ao n cap xs:=
 (h.below hb).weaken (fun b ⟨h1,h2,h3⟩=>⟨h1,Nat.lt_of_lt_of_le h2 hb.size,h3⟩) (fun k hk h=>h.2.2 hk) (fun b h=>h.2.1)
theorem oth.grown {α:Type} {sh:D1 α} {e:TypeId} {lo base:Nat} {w w':World} {ao ao':Option Addr} {n cap:Nat} {xs:List α} (h:C7 sh e (oth lo w ao) base w' ao' n cap xs) (hs:w.heap.size≤w'.heap.size) (hd:blk ao'=blk ao∨blk ao'=some w.heap.size):C7 sh e (oth lo w' ao') base w' ao' n cap xs:=
 h.weaken (fun b ⟨h1,h2,h3⟩=>⟨h1,Nat.lt_of_lt_of_le h2 hs,fun e=>by
  rcases hd with hd|hd
  ·exact h3 (hd▸e)
  ·rw [hd] at e;have:w.heap.size=b:=by simpa using e
   omega⟩) (fun k hk h=>h.2.2 hk) (fun b h=>h.2.1)
theorem A14 {w:World} {pb fb:Nat} {tp tf:TypeId} {x0 x1 x2 y0 y1:Value} (hP:A6 w pb tp #[x0,x1,x2]) (hF:A6 w fb tf #[y0,y1]) (hne:pb≠fb) (a0 a1 a2 b0 b1:Value):
    A6 (((((w.setCell ⟨pb,0,none⟩ a0).setCell ⟨pb,1,none⟩ a1).setCell ⟨pb,2,none⟩ a2).setCell ⟨fb,0,none⟩ b0).setCell ⟨fb,1,none⟩ b1) pb tp #[a0,a1,a2]∧
      A6 (((((w.setCell ⟨pb,0,none⟩ a0).setCell ⟨pb,1,none⟩ a1).setCell ⟨pb,2,none⟩ a2).setCell ⟨fb,0,none⟩ b0).setCell ⟨fb,1,none⟩ b1) fb tf #[b0,b1]:=
  ⟨((((hP.set 0 a0).set 1 a1).set 2 a2).setOther (a:=⟨fb,0,none⟩) hne b0).setOther (a:=⟨fb,1,none⟩) hne b1,
   ((((hF.setOther (a:=⟨pb,0,none⟩) (Ne.symm hne) a0).setOther (a:=⟨pb,1,none⟩) (Ne.symm hne) a1).setOther (a:=⟨pb,2,none⟩) (Ne.symm hne) a2).set 0 b0).set 1 b1⟩
theorem A0z {w:World} {b:Nat} {e:TypeId} {ao:Option Addr} {cap:Nat} {xs:List Int} {ok:Nat→Prop} (h:A6 w b e #[.slice ao xs.length cap]) (hx:A8 C2 ok w ao cap xs):D7 (F7 C2) ok w (some ⟨b,0,none⟩) [xs]:=by
  refine .inr ⟨b,0,rfl,fun i y hy=>?_⟩
  match i,hy with
  |0,hy=>
    obtain rfl:xs=y:=by simpa using hy
    refine ⟨_,⟨ao,cap,rfl,hx⟩,fun j c hc=>?_⟩
    simp only [Nat.zero_mul,Nat.zero_add]
    rw [h.cells.1 j]
    simpa using hc
  |i+1,hy=>simp at hy
theorem B3w {w:World} {b:Nat} {e:TypeId} {x:Int} {ok:Nat→Prop} (h:A6 w b e #[.int .i64 x]) (hx:I64 x):D7 C2 ok w (some ⟨b,0,none⟩) [x]:=by
  refine .inr ⟨b,0,rfl,fun i y hy=>?_⟩
  match i,hy with
  |0,hy=>
    obtain rfl:x=y:=by simpa using hy
    refine ⟨_,⟨rfl,hx⟩,fun j c hc=>?_⟩
    simp only [Nat.zero_mul,Nat.zero_add]
    rw [h.cells.1 j]
    simpa using hc
  |i+1,hy=>simp at hy
open Go.RowKit
def A2t (r:C1):List Value:=[.int .i64 r.ver,.int .i64 r.flow,.int .i64 r.next]
def J7 (xs:List C1):List Value:=xs.flatMap A2t
def RI (r:C1):Prop:=I64 r.ver∧I64 r.flow∧I64 r.next
theorem A09 (xs:List C1):(J7 xs).length=xs.length * 3:=by
  unfold J7
  induction xs with
  |nil=>rfl
  |cons x xs ih=>simp only [List.flatMap_cons,List.length_append,ih,List.length_cons,A2t,List.length_nil];omega
theorem A45 {junk:List Value}:∀ {xs:List C1} {i:Nat} {r:C1},xs[i]? =some r→∀ k,k<3→(J7 xs++junk)[i * 3+k]? =(A2t r)[k]?
 |[],i,r,h,_,_=>by simp at h
 |x::xs,0,r,h,k,hk=>by
  obtain rfl:x=r:=by simpa using h
  simp only [J7,List.flatMap_cons,Nat.zero_mul,Nat.zero_add]
  rw [List.append_assoc,List.getElem?_append_left (by simp [A2t];omega)]
 |x::xs,i+1,r,h,k,hk=>by
  have h':xs[i]? =some r:=by simpa using h
  have:=A45 (junk:=junk) h' k hk
  simp only [J7,List.flatMap_cons]
  rw [List.append_assoc,List.getElem?_append_right (by simp [A2t];omega)]
  rw [←this]
  congr 1
  simp [A2t];omega
theorem A4f {junk:List Value} {r:C1}:∀ {xs:List C1} {i:Nat},i<xs.length→
  (((J7 xs++junk).set (i * 3) (.int .i64 r.ver)).set (i * 3+1) (.int .i64 r.flow)).set (i * 3+2) (.int .i64 r.next)=J7 (xs.set i r)++junk
 |[],i,h=>by simp at h
 |x::xs,0,h=>by simp [J7,A2t]
 |x::xs,i+1,h=>by
  have:=A4f (junk:=junk) (r:=r) (xs:=xs) (i:=i) (by simpa using h)
  have e:J7 (x::xs)++junk=.int .i64 x.ver::.int .i64 x.flow::.int .i64 x.next::(J7 xs++junk):=by simp [J7,A2t]
  have e':J7 ((x::xs).set (i+1) r)++junk=.int .i64 x.ver::.int .i64 x.flow::.int .i64 x.next::(J7 (xs.set i r)++junk):=by simp [J7,A2t]
  rw [e,e',←this]
  rw [show (i+1) * 3=i * 3+1+1+1 by omega,show i * 3+1+1+1+1=(i * 3+1)+1+1+1 by omega,show i * 3+1+1+1+2=(i * 3+2)+1+1+1 by omega]
  simp only [St.tC]
structure RR (w:World) (g:Nat) (t:TypeId) (xs:List C1) (junk:List Value):Prop where
 blk:A6 w g t (J7 xs++junk).toArray
 rng:∀ r∈xs,RI r
section
variable {w w' : World} {g : Nat} {t : TypeId} {xs : List C1} {junk : List Value}
theorem RR.lt (h:RR w g t xs junk):g<w.heap.size:=h.blk.lt
theorem RR.frz (h:RR w g t xs junk) (o:Nat):w.frozen? ⟨g,o,none⟩=false:=h.blk.cells.2 o
theorem RR.get (h:RR w g t xs junk) {i:Nat} {r:C1} (hr:xs[i]? =some r):w.cell? ⟨g,i * 3,none⟩=some (.int .i64 r.ver)∧w.cell? ⟨g,i * 3+1,none⟩=some (.int .i64 r.flow)∧w.cell? ⟨g,i * 3+2,none⟩=some (.int .i64 r.next):=by
 have e:=A45 (junk:=junk) hr
 have e0:=e 0 (by decide)
 have e1:=e 1 (by decide)
 have e2:=e 2 (by decide)
 refine ⟨?_,?_,?_⟩
 ·rw [h.blk.cells.1];simpa [A2t] using e0
 ·rw [h.blk.cells.1];simpa [A2t] using e1
 ·rw [h.blk.cells.1];simpa [A2t] using e2
theorem RR.under (h:RR w g t xs junk) (hb:Below w.heap.size w w'):RR w' g t xs junk:=⟨h.blk.under hb,h.rng⟩
theorem RR.alloc (h:RR w g t xs junk) (o:Obj):RR (w.alloc o) g t xs junk:=⟨h.blk.alloc o,h.rng⟩
theorem RR.put (h:RR w g t xs junk) {i:Nat} (hi:i<xs.length) {r:C1} (hr:RI r):
  RR (((w.setCell ⟨g,i * 3,none⟩ (.int .i64 r.ver)).setCell ⟨g,i * 3+1,none⟩ (.int .i64 r.flow)).setCell ⟨g,i * 3+2,none⟩ (.int .i64 r.next)) g t (xs.set i r) junk:=by
 refine ⟨?_,fun x hx=>?_⟩
 ·have:=((h.blk.set (i * 3) (.int .i64 r.ver)).set (i * 3+1) (.int .i64 r.flow)).set (i * 3+2) (.int .i64 r.next)
  rw [←A4f hi]
  simpa using this
 ·rcases List.mem_or_eq_of_mem_set hx with hx|rfl
  ·exact h.rng x hx
  ·exact hr
theorem RR.drew (h:RR w g t xs junk):RR w.drew g t xs junk:=⟨h.blk.drew,h.rng⟩
def B17 (w:World) (g i j:Nat) (y x:C1):World:=
 (((((w.setCell ⟨g,i * 3,none⟩ (.int .i64 y.ver)).setCell ⟨g,i * 3+1,none⟩ (.int .i64 y.flow)).setCell ⟨g,i * 3+2,none⟩ (.int .i64 y.next)).setCell ⟨g,j * 3,none⟩ (.int .i64 x.ver)).setCell ⟨g,j * 3+1,none⟩ (.int .i64 x.flow)).setCell ⟨g,j * 3+2,none⟩ (.int .i64 x.next)
theorem RR.swap (h:RR w g t xs junk) {i j:Nat} (hi:i<xs.length) (hj:j<xs.length) {x y:C1} (hx:RI x) (hy:RI y):RR (B17 w g i j y x).drew g t ((xs.set i y).set j x) junk:=
 ((h.put hi hy).put (by simpa using hj) hx).drew
theorem RR.elem (h:RR w g t xs junk) {i:Nat} {r:C1} (hr:xs[i]? =some r):RI r:=h.rng r (List.mem_of_getElem? hr)
end
def H9 (g:Nat) (w w':World):Prop:=w.grownBy w' (some g)
theorem H9.refl (g:Nat) (w:World):H9 g w w:=World.grownBy.refl _ _
theorem H9.trans {g:Nat} {a b c:World} (h:H9 g a b) (k:H9 g b c):H9 g a c:=
 ⟨k.os.trans h.os,k.tape.trans h.tape,k.output.trans h.output,Nat.le_trans h.size k.size,fun i hi hn=>(k.block i (Nat.lt_of_lt_of_le hi h.size) hn).trans (h.block i hi hn)⟩
theorem H9.below {g:Nat} {a b:World} (h:Below a.heap.size a b):H9 g a b:=⟨h.os,h.tape,h.output,h.size,fun k hk _=>h.block k hk⟩
theorem H9.then {g:Nat} {a b c:World} (h:H9 g a b) (k:Below b.heap.size b c):H9 g a c:=h.trans (H9.below k)
theorem H9.set {g:Nat} {a b:World} (h:H9 g a b) (o:Nat) (v:Value):H9 g a (b.setCell ⟨g,o,none⟩ v):=
 h.trans ⟨rfl,rfl,rfl,by simp,fun k _ hn=>Below.heap_setCell b ⟨g,o,none⟩ v k (fun e=>hn (by rw [show k=g from e]))⟩
theorem H9.drew {g:Nat} {a b:World} (h:H9 g a b):H9 g a b.drew:=⟨h.os,h.tape,h.output,h.size,h.block⟩
theorem H9.swap {g:Nat} {a b:World} (h:H9 g a b) (i j:Nat) (y x:C1):H9 g a (B17 b g i j y x).drew:=(((((((h.set _ _).set _ _).set _ _).set _ _).set _ _).set _ _)).drew
theorem H9.to {g B:Nat} {w0 a b:World} (h:H9 g a b) (hb:Below B w0 a) (hB:B≤a.heap.size) (hg:B≤g):Below B w0 b:=hb.grown h hB (fun k hk=>by simp at hk;omega)
variable {α : Type} {lt : α → α → Bool}
theorem A68 (p r:List α) (x y:α) {i:Nat} (hi:i=p.length):(p++x::r).set i y=p++y::r:=by
 subst hi;rw [List.set_append_right _ _ (Nat.le_refl _),Nat.sub_self];rfl
theorem get_at (p r:List α) (x:α) {i:Nat} (hi:i=p.length):(p++x::r)[i]? =some x:=by
 subst hi;rw [List.getElem?_append_right (Nat.le_refl _),Nat.sub_self];rfl
theorem B04 (p q r:List α) (x y:α) {i j:Nat} (hi:i=p.length) (hj:j=p.length+1+q.length):
  ((p++x::(q++y::r)).set i y).set j x=p++y::(q++x::r):=by
 rw [A68 p _ x y hi,show p++y::(q++y::r)=(p++y::q)++y::r by simp,A68 (p++y::q) _ y x (by simp;omega)]
 simp
theorem A7g (p q r:List α) (x y:α) {i j:Nat} (hi:i=p.length) (hj:j=p.length+1+q.length):
  ((p++x::(q++y::r)).set j x).set i y=p++y::(q++x::r):=by
 rw [show p++x::(q++y::r)=(p++x::q)++y::r by simp,A68 (p++x::q) _ y x (by simp;omega),show (p++x::q)++x::r=p++x::(q++x::r) by simp,A68 p _ x y hi]
def A0h (lt:α→α→Bool) (p u s:List α) (k:Nat) (ys:List α):Prop:=
 ∃ v,ys=p++(v++(u.drop k++s))∧v.length=(u.take k).length∧Srt lt v∧E4 lt (u.take k) v
def A0t (lt:α→α→Bool) (p u s:List α) (k m:Nat) (zs:List α):Prop:=
 ∃ v1 x v2,zs=p++(v1++x::(v2++(u.drop (k+1)++s)))∧v1.length=m∧v1.length+v2.length=k∧u[k]? =some x∧Srt lt (v1++v2)∧(∀ y∈v2,lt x y=true)∧E4 lt (u.take k) (v1++v2)
theorem A0h.len {p u s ys:List α} {k:Nat} (h:A0h lt p u s k ys):ys.length=(p++(u++s)).length:=by
 obtain ⟨v,rfl,h2,_⟩:=h
 simp only [List.length_append,List.length_take,List.length_drop] at *;omega
theorem A0t.len {p u s ys:List α} {k m:Nat} (h:A0t lt p u s k m ys):ys.length=(p++(u++s)).length:=by
 obtain ⟨v1,x,v2,rfl,h2,h3,h4,_⟩:=h
 have:=(List.getElem?_eq_some_iff.1 h4).1
 simp only [List.length_append,List.length_cons,List.length_drop];omega
theorem A0h.one (p u s:List α):A0h lt p u s 1 (p++(u++s)):=by
  refine ⟨u.take 1,?_,rfl,?_,E4.refl _⟩
  · rw [←List.append_assoc (u.take 1),List.take_append_drop]
  · cases u with
    |nil=>exact Srt.nil
    |cons x u=>exact Srt.one x
theorem A0h.go {p u s ys:List α} {k:Nat} (h:A0h lt p u s k ys) (hk:k<u.length):A0t lt p u s k k ys:=by
 obtain ⟨v,rfl,h2,h3,h4⟩:=h
 have hv:v.length=k:=by rw [h2,List.length_take];omega
 refine ⟨v,u[k],[],?_,hv,by simp [hv],List.getElem?_eq_getElem hk,by simpa using h3,by simp,by simpa using h4⟩
 rw [List.drop_eq_getElem_cons hk];simp only [List.append_assoc,List.cons_append,List.nil_append,List.append_nil]
theorem A0t.at {p u s zs:List α} {k m:Nat} {x y:α} (h:A0t lt p u s k (m+1) zs) (hx:zs[p.length+(m+1)]? =some x) (hy:zs[p.length+m]? =some y):
  ∃ v1 v2,zs=p++(v1++y::x::(v2++(u.drop (k+1)++s)))∧v1.length=m∧m+1+v2.length=k∧u[k]? =some x∧Srt lt ((v1++[y])++v2)∧(∀ y∈v2,lt x y=true)∧E4 lt (u.take k) ((v1++[y])++v2):=by
 obtain ⟨v1,x',v2,rfl,h1,h2,h3,h4,h5,h6⟩:=h
 rw [show p++(v1++x'::(v2++(u.drop (k+1)++s)))=(p++v1)++x'::(v2++(u.drop (k+1)++s)) by simp,get_at _ _ _ (by simp;omega)] at hx
 obtain rfl:x'=x:=by simpa using hx
 obtain ⟨v0,z,rfl⟩:∃ v0 z,v1=v0++[z]:=by
  rcases List.eq_nil_or_concat v1 with e|⟨a,b,e⟩
  ·subst e;simp at h1
  ·exact ⟨a,b,by rw [e];simp⟩
 rw [show p++(v0++[z]++x'::(v2++(u.drop (k+1)++s)))=(p++v0)++z::x'::(v2++(u.drop (k+1)++s)) by simp,get_at _ _ _ (by simp at h1 ⊢;omega)] at hy
 obtain rfl:z=y:=by simpa using hy
 exact ⟨v0,v2,by simp,by simpa using h1,by simp at h2;simp at h1;omega,h3,h4,h5,h6⟩
theorem A0t.down (W:W5 lt) {p u s zs:List α} {k m:Nat} {x y:α} (h:A0t lt p u s k (m+1) zs) (hx:zs[p.length+(m+1)]? =some x) (hy:zs[p.length+m]? =some y) (hl:lt x y=true):
  A0t lt p u s k m ((zs.set (p.length+(m+1)) y).set (p.length+m) x):=by
 obtain ⟨v1,v2,rfl,h1,h2,h3,h4,h5,h6⟩:=h.at hx hy
 refine ⟨v1,x,y::v2,?_,h1,by simp;omega,h3,by simpa using h4,?_,by simpa using h6⟩
 ·rw [show p++(v1++y::x::(v2++(u.drop (k+1)++s)))=(p++v1)++y::([]++x::(v2++(u.drop (k+1)++s))) by simp,
   A7g (p++v1) [] _ y x (by simp;omega) (by simp;omega)]
  simp
 ·intro z hz
  rcases List.mem_cons.1 hz with rfl|hz
  ·exact hl
  ·exact h5 z hz
theorem A0t.stop (W:W5 lt) {p u s zs:List α} {k m:Nat} (h:A0t lt p u s k m zs) (hs:m=0∨∃ m' x y,m=m'+1∧zs[p.length+(m'+1)]? =some x∧zs[p.length+m']? =some y∧lt x y=false):A0h lt p u s (k+1) zs:=by
 have key:∀ (v1 v2:List α) (x:α),v1.length+v2.length=k→u[k]? =some x→Srt lt (v1++v2)→(∀ y∈v2,lt x y=true)→E4 lt (u.take k) (v1++v2)→(∀ y∈v1,lt x y=false)→
   A0h lt p u s (k+1) (p++(v1++x::(v2++(u.drop (k+1)++s)))):=by
  intro v1 v2 x h2 h3 h4 h5 h6 h7
  obtain ⟨g1,g2⟩:=A3b W h4 h7 h5
  have ht:u.take (k+1)=u.take k++[x]:=by rw [List.take_add_one,h3];rfl
  have hl:=(List.getElem?_eq_some_iff.1 h3).1
  refine ⟨(v1++[x])++v2,by simp,by simp only [List.length_append,List.length_take,List.length_cons,List.length_nil];omega,g2,?_⟩
  rw [ht]
  exact (h6.append (E4.refl [x])).trans g1
 rcases hs with rfl|⟨m',x,y,rfl,hx,hy,hl⟩
 ·obtain ⟨v1,x,v2,rfl,h1,h2,h3,h4,h5,h6⟩:=h
  obtain rfl:v1=[]:=List.eq_nil_of_length_eq_zero h1
  exact key [] v2 x h2 h3 h4 h5 h6 (by simp)
 ·obtain ⟨v1,v2,rfl,h1,h2,h3,h4,h5,h6⟩:=h.at hx hy
  have:=key (v1++[y]) v2 x (by simp;omega) h3 h4 h5 h6 fun z hz=>by
   rcases List.mem_append.1 hz with hz|hz
   ·have h8:=(Srt.append.1 (Srt.append.1 h4).1).2.2 z hz y (by simp)
    exact W.neg hl h8
   ·obtain rfl:z=y:=by simpa using hz
    exact hl
  simpa using this
theorem A0h.done {p u s ys:List α} {k:Nat} (h:A0h lt p u s k ys) (hk:u.length≤k):∃ v,ys=p++(v++s)∧v.length=u.length∧Srt lt v∧E4 lt u v:=by
 obtain ⟨v,rfl,h2,h3,h4⟩:=h
 rw [List.take_of_length_le hk] at h2 h4
 exact ⟨v,by rw [List.drop_of_length_le hk];simp,h2,h3,h4⟩
def SwR (p u q v s:List α) (i:Nat) (zs:List α):Prop:=zs=p++(v.take i++u.drop i)++q++(u.take i++v.drop i)++s
theorem SwR.zero (p u q v s:List α):SwR p u q v s 0 (p++u++q++v++s):=by simp [SwR]
theorem SwR.len {p u q v s zs:List α} {i:Nat} (h:SwR p u q v s i zs) (hl:u.length=v.length) (hi:i≤u.length):zs.length=(p++u++q++v++s).length:=by
 rw [h];simp only [List.length_append,List.length_take,List.length_drop];omega
theorem SwR.step {p u q v s zs:List α} {i:Nat} (h:SwR p u q v s i zs) (hl:u.length=v.length) (hi:i<u.length) {x y:α} (hx:zs[p.length+i]? =some x) (hy:zs[p.length+u.length+q.length+i]? =some y):
  SwR p u q v s (i+1) ((zs.set (p.length+i) y).set (p.length+u.length+q.length+i) x):=by
 have hv:i<v.length:=by omega
 have e:zs=(p++v.take i)++u[i]::((u.drop (i+1)++q++u.take i)++v[i]::(v.drop (i+1)++s)):=by
  rw [h,List.drop_eq_getElem_cons hi,List.drop_eq_getElem_cons hv];simp only [List.append_assoc,List.cons_append,List.nil_append,List.append_nil]
 rw [e,get_at _ _ _ (by simp;omega)] at hx
 obtain rfl:u[i]=x:=by simpa using hx
 rw [e,show (p++v.take i)++u[i]::((u.drop (i+1)++q++u.take i)++v[i]::(v.drop (i+1)++s))=((p++v.take i)++u[i]::(u.drop (i+1)++q++u.take i))++v[i]::(v.drop (i+1)++s) by simp,
  get_at _ _ _ (by simp;omega)] at hy
 obtain rfl:v[i]=y:=by simpa using hy
 unfold SwR
 rw [e,B04 _ _ _ _ _ (by simp;omega) (by simp;omega),List.take_add_one,List.take_add_one,List.getElem?_eq_getElem hi,List.getElem?_eq_getElem hv]
 simp only [List.append_assoc,List.cons_append,List.nil_append,List.append_nil,Option.toList_some]
theorem SwR.done {p u q v s zs:List α} {i:Nat} (h:SwR p u q v s i zs) (hl:u.length=v.length) (hi:u.length≤i):zs=p++v++q++u++s:=by
 rw [h,List.take_of_length_le (by omega),List.drop_of_length_le (by omega),List.take_of_length_le (by omega),List.drop_of_length_le (by omega)];simp
def Rot (p u v s:List α) (m i j:Nat) (zs:List α):Prop:=∃ P U V E,zs=P++(U++(V++E))∧U.length=i∧V.length=j∧P.length+i=m∧P++(V++(U++E))=p++(v++(u++s))
theorem Rot.zero (p u v s:List α):Rot p u v s (p.length+u.length) u.length v.length (p++(u++(v++s))):=⟨p,u,v,s,rfl,rfl,rfl,rfl,rfl⟩
theorem Rot.len {p u v s zs:List α} {m i j:Nat} (h:Rot p u v s m i j zs):zs.length=(p++(u++(v++s))).length:=by
 obtain ⟨P,U,V,E,rfl,_,_,_,h⟩:=h
 have:=congrArg List.length h
 simp only [List.length_append] at *;omega
theorem Rot.bounds {p u v s zs:List α} {m i j:Nat} (h:Rot p u v s m i j zs):i≤m∧m+j≤zs.length:=by
 obtain ⟨P,U,V,E,rfl,_,_,_,h⟩:=h
 simp only [List.length_append] at *;omega
theorem Rot.more {p u v s zs:List α} {m i j:Nat} (h:Rot p u v s m i j zs) (hij:j<i):
  ∃ P U1 U2 V E,zs=P++U1++U2++V++E∧P.length=m - i∧U1.length=j∧V.length=j∧P.length+U1.length+U2.length=m∧Rot p u v s m (i - j) j (P++V++U2++U1++E):=by
 obtain ⟨P,U,V,E,rfl,h1,h2,h3,h4⟩:=h
 have e:U=U.take j++U.drop j:=(List.take_append_drop j U).symm
 refine ⟨P,U.take j,U.drop j,V,E,?_,by omega,by simp;omega,h2,by simp;omega,P++V,U.drop j,U.take j,E,by simp,by simp;omega,by simp;omega,by simp;omega,?_⟩
 ·rw [show P++U.take j++U.drop j++V++E=P++((U.take j++U.drop j)++(V++E)) by simp only [List.append_assoc],←e]
 ·have h5:P++(V++((U.take j++U.drop j)++E))=p++(v++(u++s)):=by rw [←e];exact h4
  rw [←h5];simp only [List.append_assoc]
theorem Rot.less {p u v s zs:List α} {m i j:Nat} (h:Rot p u v s m i j zs) (hij:i<j):
  ∃ P U V1 V2 E,zs=P++U++V1++V2++E∧P.length=m - i∧U.length=i∧V2.length=i∧P.length+U.length+V1.length=m+j - i∧Rot p u v s m i (j - i) (P++V2++V1++U++E):=by
 obtain ⟨P,U,V,E,rfl,h1,h2,h3,h4⟩:=h
 have e:V=V.take (j - i)++V.drop (j - i):=(List.take_append_drop _ V).symm
 refine ⟨P,U,V.take (j - i),V.drop (j - i),E,?_,by omega,h1,by simp;omega,by simp;omega,P,V.drop (j - i),V.take (j - i),U++E,by simp,by simp;omega,by simp;omega,h3,?_⟩
 ·rw [show P++U++V.take (j - i)++V.drop (j - i)++E=P++(U++((V.take (j - i)++V.drop (j - i))++E)) by simp only [List.append_assoc],←e]
 ·have h5:P++((V.take (j - i)++V.drop (j - i))++(U++E))=p++(v++(u++s)):=by rw [←e];exact h4
  rw [←h5];simp only [List.append_assoc]
theorem Rot.same {p u v s zs:List α} {m i:Nat} (h:Rot p u v s m i i zs):
  ∃ P U V E,zs=P++U++[]++V++E∧P.length=m - i∧U.length=i∧V.length=i∧P.length+U.length+([]:List α).length=m∧P++V++[]++U++E=p++(v++(u++s)):=by
 obtain ⟨P,U,V,E,rfl,h1,h2,h3,h4⟩:=h
 exact ⟨P,U,V,E,by simp,by omega,h1,h2,by simp;omega,by rw [←h4];simp⟩
def MvU (p:List α) (x:α) (v1 r:List α) (m:Nat) (zs:List α):Prop:=zs=p++(v1.take m++x::(v1.drop m++r))
theorem MvU.zero (p:List α) (x:α) (v1 r:List α):MvU p x v1 r 0 (p++x::(v1++r)):=by simp [MvU]
theorem MvU.step {p:List α} {x:α} {v1 r:List α} {m:Nat} {zs:List α} (h:MvU p x v1 r m zs) (hm:m<v1.length) {y z:α} (hy:zs[p.length+m]? =some y) (hz:zs[p.length+m+1]? =some z):
  MvU p x v1 r (m+1) ((zs.set (p.length+m) z).set (p.length+m+1) y):=by
 have e:zs=(p++v1.take m)++x::([]++v1[m]::(v1.drop (m+1)++r)):=by
  rw [h,List.drop_eq_getElem_cons hm];simp only [List.append_assoc,List.cons_append,List.nil_append]
 rw [e,get_at _ _ _ (by simp;omega)] at hy
 obtain rfl:x=y:=by simpa using hy
 rw [e,show (p++v1.take m)++x::([]++v1[m]::(v1.drop (m+1)++r))=((p++v1.take m)++[x])++v1[m]::(v1.drop (m+1)++r) by simp only [List.append_assoc,List.cons_append,List.nil_append],get_at _ _ _ (by simp;omega)] at hz
 obtain rfl:v1[m]=z:=by simpa using hz
 unfold MvU
 rw [e,B04 _ _ _ _ _ (by simp;omega) (by simp;omega),List.take_add_one,List.getElem?_eq_getElem hm]
 simp only [List.append_assoc,List.cons_append,List.nil_append,Option.toList_some]
theorem MvU.done {p:List α} {x:α} {v1 r:List α} {m:Nat} {zs:List α} (h:MvU p x v1 r m zs) (hm:v1.length≤m):zs=p++(v1++x::r):=by
 rw [h,List.take_of_length_le hm,List.drop_of_length_le hm];rfl
theorem MvU.len {p:List α} {x:α} {v1 r:List α} {m:Nat} {zs:List α} (h:MvU p x v1 r m zs):zs.length=(p++x::(v1++r)).length:=by
 rw [h];simp only [List.length_append,List.length_cons,List.length_take,List.length_drop];omega
def MvD (p:List α) (y:α) (u2 r:List α) (m:Nat) (zs:List α):Prop:=zs=p++(u2.take m++y::(u2.drop m++r))
theorem MvD.start (p:List α) (y:α) (u2 r:List α):MvD p y u2 r u2.length (p++(u2++y::r)):=by simp [MvD]
theorem MvD.step {p:List α} {y:α} {u2 r:List α} {m:Nat} {zs:List α} (h:MvD p y u2 r (m+1) zs) (hm:m+1≤u2.length) {x z:α} (hx:zs[p.length+(m+1)]? =some x) (hz:zs[p.length+m]? =some z):
  MvD p y u2 r m ((zs.set (p.length+(m+1)) z).set (p.length+m) x):=by
 have hm':m<u2.length:=by omega
 have e:zs=(p++u2.take m)++u2[m]::([]++y::(u2.drop (m+1)++r)):=by
  rw [h,List.take_add_one,List.getElem?_eq_getElem hm'];simp only [List.append_assoc,List.cons_append,List.nil_append,Option.toList_some]
 rw [e,get_at _ _ _ (by simp;omega)] at hz
 obtain rfl:u2[m]=z:=by simpa using hz
 rw [e,show (p++u2.take m)++u2[m]::([]++y::(u2.drop (m+1)++r))=((p++u2.take m)++[u2[m]])++y::(u2.drop (m+1)++r) by simp only [List.append_assoc,List.cons_append,List.nil_append],get_at _ _ _ (by simp;omega)] at hx
 obtain rfl:y=x:=by simpa using hx
 unfold MvD
 rw [e,A7g _ _ _ _ _ (by simp;omega) (by simp;omega),List.drop_eq_getElem_cons hm']
 simp only [List.append_assoc,List.cons_append,List.nil_append]
theorem MvD.done {p:List α} {y:α} {u2 r:List α} {zs:List α} (h:MvD p y u2 r 0 zs):zs=p++y::(u2++r):=by
 rw [h];simp
theorem MvD.len {p:List α} {y:α} {u2 r:List α} {m:Nat} {zs:List α} (h:MvD p y u2 r m zs):zs.length=(p++(u2++y::r)).length:=by
 rw [h];simp only [List.length_append,List.length_cons,List.length_take,List.length_drop];omega
end Go.St
