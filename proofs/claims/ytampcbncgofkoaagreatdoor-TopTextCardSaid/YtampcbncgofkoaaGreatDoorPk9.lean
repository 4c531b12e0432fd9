/- Texts of this proof, one behind the other. -/
import Derived.Test.YtampcbncgofkoaaGreatDoorPk8
import Derived.Test.YtampcbncgofkoaaGreatDoorPk4
set_option linter.unusedSimpArgs false
set_option linter.unusedVariables false
set_option maxRecDepth 100000
set_option maxHeartbeats 16000000
namespace Go.St
open Go.RowKit
section
variable {P : Program} {ops : Array Oper} {Q : Exit → Act → World → Prop} {md : Region.Mode} {S : World → Prop} {L : Nat}
theorem H5 {i j:Nat} {oi oj:Oper} {fuel:Nat} {listed:Array Bool} {a:Act} {w:World} (hi:ops[i]? =some oi) (hj:ops[j]? =some oj)
  (gi:Region.wanted oi (yielded ops a.tmps)=true) (gj:Region.wanted oj (yielded ops a.tmps)=true) (hs:(Region.ready md ops listed==[i,j])=true)
  (h1:∀ K:Act→World→Prop,(∀ a' w',(i≠L→S w')→L5 P md ops Q S L fuel (listed.setIfInBounds i true) a' w'→K a' w')→oi.wp P a w K Q)
  (h2:∀ K:Act→World→Prop,(∀ a' w',(j≠L→S w')→L5 P md ops Q S L fuel (listed.setIfInBounds j true) a' w'→K a' w')→oj.wp P a w K Q):
  L5 P md ops Q S L (fuel+1) listed a w:=by
 have hr:Region.ready md ops listed=[i,j]:=by simpa using hs
 refine ⟨fun h0=>(by rw [h0] at hr;cases hr),fun k hk=>?_⟩
 rw [hr] at hk
 have hk':k=i∨k=j:=by simpa using hk
 rcases hk' with rfl|rfl
 ·unfold wpOp
  simp only [hi]
  rw [if_pos gi]
  exact .inl (h1 _ fun _ _ h1 h2=>⟨h1,h2⟩)
 ·unfold wpOp
  simp only [hj]
  rw [if_pos gj]
  exact .inl (h2 _ fun _ _ h1 h2=>⟨h1,h2⟩)
end
theorem D7.flat {α:Type} {sh:D1 α} {ok ok':Nat→Prop} {w:World} {ao:Option Addr} {ys:List α} (h:D7 sh ok w ao ys) (hf:∀ {cs x},sh.rep ok w cs x→sh.rep ok' w cs x):D7 sh ok' w ao ys:=by
 rcases h with h|⟨b,off,e,he⟩
 ·exact .inl h
 ·refine .inr ⟨b,off,e,fun i x hx=>?_⟩
  obtain ⟨cs,h1,h2⟩:=he i x hx
  exact ⟨cs,hf h1,h2⟩
open Go.RowKit
def C8 (a:Act):List (Nat × Value)→Act
 |[]=>a
 |(i,v)::r=>C8 (a.put (some i) v) r
theorem B9 {P:Program} {ops:Array Oper} {Q:Exit→Act→World→Prop} (S:World→Prop) (L:Nat) (R:Act→Act→World→Prop) {id:Nat} {a:Act} {w:World} (hm:P.follows .mixedOrders=true)
  (h:∀ Q':Exit→Act→World→Prop,(∀ a' w',R a a' w'→Q' .normal a' w')→(∀ c a1 a2 w',Q' (.panic c) a1 w'→Q' (.panic c) a2 w')→L5 P .any ops Q' S L ops.size (Array.replicate ops.size false) a w.drew)
  (hK:∀ a' w',R a a' w'→Q .normal a' w'):(Code.region id ops true).wp P Q a w:=
 Code.wp_mono (Q:=fun e a' w'=>e=.normal∧R a a' w') (fun e a' w' h=>by obtain ⟨rfl,h⟩:=h;exact hK a' w' h)
  (A0v S L hm (h _ (fun a' w' h=>⟨rfl,h⟩) (fun c a1 a2 w' h=>nomatch h.1)))
end Go.St
