/- Texts of this proof, one behind the other. -/
import Derived.Deep.Slices
import Derived.ProofKit
import Derived.Test.YtampcbncgofkoaaGreatDoorPk1
set_option linter.unusedSimpArgs false
set_option linter.unusedVariables false
set_option maxRecDepth 100000
set_option maxHeartbeats 16000000
namespace Go.St
open Go.RowKit Go.Deep Go.ChangeShapes Go.WideShapes
structure O2 {α:Type} (P:Program) (t:TypeId) (S:D1 α):Prop where
 size:P.cellsOf t=S.size
 pos:0<S.size
 op:∀ {H:Type} {enc:TypeId × Value→H} {w:World} {spare:Nat→Bool} {held:Bool} {fuel:Nat} {cs:List Value} {x:DataW H × List MemPlace},DataW.trod enc P w 0 spare held fuel t cs=some x→∃ a,S.rep (fun _=>True) w cs a
theorem I64.of_wf {n:Int} (h:(Lit.int .i64 n).wf=true):I64 n:=by
 simp only [Lit.wf,Bool.and_eq_true,decide_eq_true_eq] at h
 have e1:IntKind.i64.min=-9223372036854775808:=by decide
 have e2:IntKind.i64.max=9223372036854775807:=by decide
 rw [e1,e2] at h
 exact h
theorem B0x {P:Program} {t:TypeId} (ht:P.underlying t=some (.int .i64)) (hc:P.cellsOf t=1):O2 P t C2 where
 size:=hc
 pos:=by decide
 op h:=by
  obtain ⟨n,rfl,rfl,hw⟩:=DataW.trod_int ht h
  exact ⟨n,rfl,I64.of_wf hw⟩
theorem O2.slice {α:Type} {P:Program} {t e:TypeId} {S:D1 α} (ho:O2 P e S) (ht:P.underlying t=some (.slice e)) (hc:P.cellsOf t=1):O2 P t (F7 S) where
  size:=hc
  pos:=by simp [F7]
  op {H enc w spare held fuel cs x} h:=by
    rcases open_slice ht h with ⟨rfl,_⟩|⟨a,len,cap,m,n,D,Pl,rfl,hb,hl,hm,hmm,rfl,hx⟩
    · exact ⟨[],none,0,rfl,A8.nil _ _ _ _⟩
    have hlm:len≤m:=by rw [hmm];split<;>omega
    by_cases h0:len=0
    · subst h0
      exact ⟨[],some a,cap,rfl,Nat.zero_le _,hm,.inl rfl⟩
    have each:∀ i,i<len→∃ x,∃ cs',S.rep (fun _=>True) w cs' x∧∀ j c,cs'[j]? =some c→w.cell? ((a.add (i * S.size)).add j)=some c:=by
      intro i hi
      obtain ⟨cs',h1,h2⟩:=hx i (by omega)
      obtain ⟨y,hy⟩:=ho.op h2
      refine ⟨y,cs',hy,fun j c hc=>?_⟩
      rw [ho.size] at h1
      have hj:j<S.size:=by rw [←S.len hy];exact (List.getElem?_eq_some_iff.1 hc).1
      exact ((World.cells?_some h1).2.2 j hj).trans hc
    obtain ⟨x0,_⟩:=each 0 (by omega)
    haveI:Inhabited α:=⟨x0⟩
    obtain ⟨f,hf⟩:=choose_lt each
    have ha:∃ b off,a=⟨b,off,none⟩∧b<w.heap.size:=by
      obtain ⟨cs',h1,h2⟩:=hf 0 (by omega)
      have hp:=ho.pos
      rw [←S.len h1] at hp
      have:=h2 0 cs'[0] (List.getElem?_eq_getElem hp)
      obtain ⟨b,off,sp⟩:=a
      simp only [Nat.zero_mul,Addr.add] at this
      simp only [World.cell?] at this
      refine ⟨b,off,?_⟩
      cases hbk:w.heap[b]? with
      |none=>simp [hbk] at this
      |some o=>
        refine ⟨?_,(Array.getElem?_eq_some_iff.1 hbk).1⟩
        cases sp with
        |none=>rfl
        |some s=>cases o<;>simp [hbk] at this
    obtain ⟨b,off,rfl,hlt⟩:=ha
    refine ⟨(List.range len).map f,some ⟨b,off,none⟩,cap,by simp,by simpa using hl,hm,.inr ⟨b,off,rfl,trivial,hlt,fun i x hi=>?_⟩⟩
    have hil:i<len:=by have:=(List.getElem?_eq_some_iff.1 hi).1;simpa using this
    simp [hil] at hi
    subst hi
    obtain ⟨cs',h1,h2⟩:=hf i hil
    refine ⟨cs',h1,fun j c hc=>?_⟩
    have:=h2 j c hc
    rwa [add_add,show (Addr.add ⟨b,off,none⟩ (i * S.size+j))=⟨b,off+i * S.size+j,none⟩ by unfold Addr.add;by_cases h:i * S.size+j=0<;>simp [h,Nat.add_assoc]] at this
theorem O2.row {α:Type} {P:Program} {t:TypeId} {S:D1 α} (ho:O2 P t (F7 S)) {H:Type} {enc:TypeId × Value→H} {w:World} {spare:Nat→Bool} {held:Bool} {fuel:Nat} {cs:List Value} {x:DataW H × List MemPlace} (h:DataW.trod enc P w 0 spare held fuel t cs=some x):
  ∃ xs ao cap,cs=[.slice ao xs.length cap]∧A8 S (fun _=>True) w ao cap xs:=by
 obtain ⟨xs,ao,cap,h1,h2⟩:=ho.op h
 exact ⟨xs,ao,cap,h1,h2⟩
theorem A90 {β:Type} {P:Program} {t i:TypeId} {f0 f1 f2:Field} (ht:P.underlying t=some (.struct #[f0,f1,f2])) (hc:P.cellsOf t=3) (hi:O2 P i C2)
  (t0:f0.type=i∧f0.offset=0) (t1:f1.type=i∧f1.offset=1) (t2:f2.type=i∧f2.offset=2) {S:D1 β} (hs:S.size=3) (mk:∀ a b c w,I64 a→I64 b→I64 c→∃ x,S.rep (fun _=>True) w [.int .i64 a,.int .i64 b,.int .i64 c] x):O2 P t S where
 size:=by rw [hc,hs]
 pos:=by omega
 op h:=by
  obtain ⟨xs,n,_,rfl,hl,hlen,hf⟩:=DataW.trod_struct ht h
  rename_i cs _
  rw [hc] at hl
  match cs,hl,xs,hlen with
  |[v0,v1,v2],_,[x0,x1,x2],_=>
   have h0:=hf 0 f0 rfl
   have h1:=hf 1 f1 rfl
   have h2:=hf 2 f2 rfl
   rw [t0.1,t0.2,hi.size] at h0
   rw [t1.1,t1.2,hi.size] at h1
   rw [t2.1,t2.2,hi.size] at h2
   obtain ⟨a,ha,ia⟩:=hi.op h0
   obtain ⟨b,hb,ib⟩:=hi.op h1
   obtain ⟨c,hc,ic⟩:=hi.op h2
   simp [C2] at ha hb hc
   subst ha;subst hb;subst hc
   exact mk a b c _ ia ib ic
end Go.St
