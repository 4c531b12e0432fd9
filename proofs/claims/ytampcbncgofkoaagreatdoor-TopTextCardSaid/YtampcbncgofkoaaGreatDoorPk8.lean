/- Texts of this proof, one behind the other. -/
import Derived.Laws.BytesArg
import Derived.Test.YtampcbncgofkoaaGreatDoorPk2
import Derived.Test.YtampcbncgofkoaaGreatDoorPk1
set_option linter.unusedSimpArgs false
set_option linter.unusedVariables false
set_option maxRecDepth 100000
set_option maxHeartbeats 16000000
namespace Go.St
open Go.RowKit
theorem A6k {P:Program} {ops:Array Oper} {Q:Exit→Act→World→Prop} {md:Region.Mode} {S:World→Prop} {L:Nat} {i:Nat} {oi:Oper} {fuel:Nat} {listed:Array Bool} {a:Act} {w:World} (hi:ops[i]? =some oi) (hg:Region.wanted oi (yielded ops a.tmps)=true)
  (hs:(Region.ready md ops listed==[i])=true) (h:oi.wp P a w (fun a' w'=>(i≠L→S w')∧L5 P md ops Q S L fuel (listed.setIfInBounds i true) a' w') Q):L5 P md ops Q S L (fuel+1) listed a w:=by
 have hr:Region.ready md ops listed=[i]:=by simpa using hs
 refine ⟨fun h0=>(by rw [h0] at hr;cases hr),fun j hj=>?_⟩
 rw [hr] at hj
 obtain rfl:j=i:=by simpa using hj
 unfold wpOp
 simp only [hi]
 rw [if_pos hg]
 exact .inl h
section
variable {P : Program} {ops : Array Oper} {Q : Exit → Act → World → Prop} {md : Region.Mode} {S : World → Prop} {L : Nat}
theorem A5f {i:Nat} {oi:Oper} {v:Value} (hi:ops[i]? =some oi) (hsel:∀ (j:Nat) (o:Oper) cs b,ops[j]? =some o→o.op≠.select cs b)
  (hQ:∀ c a w,Q (.panic c) (a.put oi.dst v) w→Q (.panic c) a w) (hL:ops.size≤L):
  ∀ (fuel:Nat) (listed:Array Bool) (a:Act) (w:World),
   (∀ j oj,ops[j]? =some oj→j≠i→listed.getD j true=false→(∀ e∈oj.after,Region.binds md e=true→e.on≠i)→oi.apart ops oj=true)→
   i∈Region.ready md ops listed→YieldsIf P ops S oi v a→S w→
   L5 P md ops Q S L fuel (listed.setIfInBounds i true) (a.put oi.dst v) w→L5 P md ops Q S L (fuel+1) listed a w:=by
 intro fuel
 induction fuel with
 |zero=>
  intro listed a w _ hr hy hS H
  refine ⟨fun h=>(by rw [h] at hr;cases hr),fun j hj=>?_⟩
  by_cases hji:j=i
  ·subst hji;exact hy.wpOp hi hS ⟨fun _=>hS,H⟩
  ·have:=ready_mono hj hji
   rw [H.1] at this
   cases this
 |succ fuel ih=>
  intro listed a w hfree hr hy hS H
  refine ⟨fun h=>(by rw [h] at hr;cases hr),fun j hj=>?_⟩
  by_cases hji:j=i
  ·subst hji;exact hy.wpOp hi hS ⟨fun _=>hS,H⟩
  ·have h1:=H.2 j (ready_mono hj hji)
   obtain ⟨hjun,oj,hoj,hall⟩:=mem_ready.1 hj
   have hnot:∀ e∈oj.after,Region.binds md e=true→e.on≠i:=fun e he hb heq=>by
    have h1:=hall e he hb
    have h0:=(mem_ready.1 hr).1
    rw [heq] at h1
    rcases Nat.lt_or_ge i listed.size with h'|h'
    ·simp [h'] at h0 h1;rw [h0] at h1;cases h1
    ·simp [Array.getElem?_eq_none h'] at h1
   have hjL:j≠L:=by
    rintro rfl
    have:=(Array.getElem?_eq_some_iff.1 hoj).1
    omega
   have h2:=wpOp_putIf hoj (hfree j oj hoj hji hjun hnot) (fun cs b=>hsel i oi cs b hi) (fun cs b=>hsel j oj cs b hoj) hQ hy h1
   have hfree':∀ k ok,ops[k]? =some ok→k≠i→(listed.setIfInBounds j true).getD k true=false→
     (∀ e∈ok.after,Region.binds md e=true→e.on≠i)→oi.apart ops ok=true:=fun k ok hk hki hun hno=>by
    refine hfree k ok hk hki ?_ hno
    by_cases hjk:j=k
    ·subst hjk;exact hjun
    ·rw [getD_set_ne true hjk] at hun;exact hun
   refine wpOp_mono (fun a' w' h3=>⟨fun _=>h3.2.1 hjL,ih (listed.setIfInBounds j true) a' w' hfree' (ready_mono hr (Ne.symm hji)) h3.1 (h3.2.1 hjL) ?_⟩) h2
   rw [Array.setIfInBounds_comm _ _ hji]
   exact h3.2.2
theorem B0 {i:Nat} {oi:Oper} (v:Value) {fuel:Nat} {listed:Array Bool} {a:Act} {w:World} (hi:ops[i]? =some oi)
  (hs:(Region.noSelect ops && Region.free md ops listed i && (Region.ready md ops listed).contains i && Nat.ble ops.size L)=true)
  (hQ:∀ c a w,Q (.panic c) (a.put oi.dst v) w→Q (.panic c) a w) (hS:S w) (hy:YieldsIf P ops S oi v a)
  (h:L5 P md ops Q S L fuel (listed.setIfInBounds i true) (a.put oi.dst v) w):L5 P md ops Q S L (fuel+1) listed a w:=by
 simp only [Bool.and_eq_true] at hs
 obtain ⟨⟨⟨h1,h2⟩,h3⟩,h4⟩:=hs
 exact A5f hi (Region.noSelect_spec h1) hQ (Nat.le_of_ble_eq_true h4) fuel listed a w (Region.free_spec hi h2) (by simpa using h3) hy hS h
end
theorem A7 {P:Program} {ops:Array Oper} {Q:Exit→Act→World→Prop} {md:Region.Mode} {S:World→Prop} {L:Nat} {i:Nat} {oi:Oper} {fuel:Nat} {listed:Array Bool} {a:Act} {w:World} (hi:ops[i]? =some oi) (hg:Region.wanted oi (yielded ops a.tmps)=true)
  (hs:(Region.ready md ops listed==[i])=true) (h:∀ K:Act→World→Prop,(∀ a' w',(i≠L→S w')→L5 P md ops Q S L fuel (listed.setIfInBounds i true) a' w'→K a' w')→oi.wp P a w K Q):L5 P md ops Q S L (fuel+1) listed a w:=
 A6k hi hg hs (h _ fun _ _ h1 h2=>⟨h1,h2⟩)
def A77 (P:Program) (md:Region.Mode) (ops:Array Oper) (Q:Exit→Act→World→Prop) (S:World→Prop) (L:Nat) (w:World):List Nat→Nat→Array Bool→Act→Prop
 |[],fuel,listed,a=>L5 P md ops Q S L fuel listed a w
 |_::_,0,_,_=>False
 |i::l,fuel+1,listed,a=>∃ oi v,ops[i]? =some oi∧(Region.noSelect ops && Region.free md ops listed i && (Region.ready md ops listed).contains i && (Nat.ble ops.size L||Region.waitsFor md ops L i))=true∧YieldsIf P ops S oi v a∧A77 P md ops Q S L w l fuel (listed.setIfInBounds i true) (a.put oi.dst v)
section
variable {P : Program} {ops : Array Oper} {Q : Exit → Act → World → Prop} {md : Region.Mode} {S : World → Prop} {L : Nat} {w : World}
theorem B3 {fuel:Nat} {listed:Array Bool} {a:Act} (h:L5 P md ops Q S L fuel listed a w):A77 P md ops Q S L w [] fuel listed a:=h
theorem B2 {i:Nat} {l:List Nat} {oi:Oper} (v:Value) {fuel:Nat} {listed:Array Bool} {a:Act} (hi:ops[i]? =some oi)
  (hs:(Region.noSelect ops && Region.free md ops listed i && (Region.ready md ops listed).contains i && (Nat.ble ops.size L||Region.waitsFor md ops L i))=true) (hy:YieldsIf P ops S oi v a)
  (h:A77 P md ops Q S L w l fuel (listed.setIfInBounds i true) (a.put oi.dst v)):A77 P md ops Q S L w (i::l) (fuel+1) listed a:=⟨oi,v,hi,hs,hy,h⟩
theorem A9 (hQ:∀ c a1 a2 w,Q (.panic c) a1 w→Q (.panic c) a2 w) (hS:S w):∀ (l:List Nat) {fuel:Nat} {listed:Array Bool} {a:Act},A77 P md ops Q S L w l fuel listed a→L5 P md ops Q S L fuel listed a w
 |[],_,_,_,h=>h
 |_::_,0,_,_,h=>h.elim
 |i::l,fuel+1,listed,a,h=>by
  obtain ⟨oi,v,hi,hs,hy,h⟩:=h
  have ih:=A9 hQ hS l h
  rw [Bool.and_eq_true,Bool.or_eq_true] at hs
  rcases hs.2 with h2|h2
  ·exact B0 v hi (by rw [Bool.and_eq_true];exact ⟨hs.1,h2⟩) (fun c a w=>hQ c _ _ w) hS hy ih
  ·exact J2 v hi (by rw [Bool.and_eq_true];exact ⟨hs.1,h2⟩) (fun c a w=>hQ c _ _ w) hS hy ih
end
end Go.St
