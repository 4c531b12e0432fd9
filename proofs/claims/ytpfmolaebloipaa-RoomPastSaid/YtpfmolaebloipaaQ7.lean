/- Texts of this proof, one behind the other. -/
import Derived.Test.YtpfmolaebloipaaQ1
import Derived.Test.YtpfmolaebloipaaQ6
import Derived.Test.YtpfmolaebloipaaPk31
import Derived.Test.YtpfmolaebloipaaPk19
set_option linter.unusedSimpArgs false
set_option linter.unusedVariables false
set_option maxRecDepth 100000
set_option maxHeartbeats 16000000
namespace Go.St
open Go.RowKit
section
variable {W : Nat → Prop} {B : Nat} {w w' w'' : World}
theorem Frm.row {α:Type} {S:D1 α} {ao:Option Addr} {c:Nat} {xs:List α} (h:Frm W B w w') (hr:A8 S W w ao c xs):A8 S W w' ao c xs:=hr.mono fun b hb hW=>⟨hW,h.keep b hb hW⟩
end
open Go.RowKit
section
variable {t : C5} {n : Net}
def B65 (l:List F5) (v:Int):Option F5:=l.find? fun p=>p.ver==v
theorem B63 {l:List F5} (h:V4 t l) {v:Int} (hv:1≤v):B65 l v=l[(v - 1).toNat]? :=by
 unfold B65
 cases hq:l[(v - 1).toNat]? with
 |none=>
  rw [List.find?_eq_none]
  intro p hp
  obtain ⟨i,hi⟩:=List.getElem?_of_mem hp
  have h1:=(h.each i p hi).1
  have h2:=(List.getElem?_eq_some_iff.1 hi).1
  have h3:=List.getElem?_eq_none_iff.1 hq
  simp;omega
 |some p=>
  have h1:=(h.each _ p hq).1
  cases hf:l.find? (fun p=>p.ver==v) with
  |none=>
   have:=List.find?_eq_none.1 hf p (List.mem_of_getElem? hq)
   simp at this;omega
  |some q=>
   have h2:=List.find?_some hf
   obtain ⟨i,hi⟩:=List.getElem?_of_mem (List.mem_of_find?_eq_some hf)
   have h3:=(h.each i q hi).1
   simp at h2
   have:i=(v - 1).toNat:=by omega
   rw [this,hq] at hi
   exact hi.symm
end
open Go.RowKit
theorem B6m {t:C5} {n:Net} {d:Do} (h:(I8 t n d).2≠0):(I8 t n d).1=n:=by
 unfold I8 at *
 split at h
 ·rename_i h1;rw [if_pos h1]
  unfold T8 at *
  split at h
  ·rename_i h2;rw [if_pos h2]
  ·exact absurd rfl h
 rename_i h1;rw [if_neg h1]
 split at h
 ·rename_i h2;rw [if_pos h2]
  unfold L4 at *
  split at h
  ·rfl
  ·split at h
   ·rename_i h3;rw [if_pos h3]
   ·exact absurd rfl h
 rename_i h2;rw [if_neg h2]
 split at h
 ·rename_i h3;rw [if_pos h3]
  unfold M7 at *
  split at h
  ·rfl
  ·split at h
   ·rename_i h4;rw [if_pos h4]
   ·exact absurd rfl h
 rename_i h3;rw [if_neg h3]
 split at h
 ·rename_i h4;rw [if_pos h4]
  unfold J4 at *
  split at h
  ·rename_i h5;rw [if_pos h5]
  ·rename_i h5;rw [if_neg h5]
   split at h
   ·rfl
   ·exact absurd rfl h
 rename_i h4;rw [if_neg h4]
 split at h
 ·rename_i h5;rw [if_pos h5]
  unfold M6 at *
  split at h
  ·rfl
  ·split at h
   ·rename_i h6;rw [if_pos h6]
   ·exact absurd rfl h
 rename_i h5;rw [if_neg h5]
 split at h
 ·rename_i h6;rw [if_pos h6]
  unfold Z9 at *
  split at h
  ·rename_i h7;rw [if_pos h7]
  ·exact absurd rfl h
 ·rename_i h6;rw [if_neg h6]
def B89:List Do→List Int→List Do
 |d::l,e::es=>if e=0 then d::B89 l es else B89 l es
 |_,_=>[]
theorem B8l (t:C5):∀ (l:List Do) (n:Net),(D5 t n (B89 l (D5 t n l).2)).1=(D5 t n l).1∧∀ e∈(D5 t n (B89 l (D5 t n l).2)).2,e=0
 |[],n=>⟨rfl,by simp [D5,B89]⟩
 |d::l,n=>by
  rw [D5]
  dsimp only
  rw [B89]
  by_cases h:(I8 t n d).2=0
  ·rw [if_pos h,D5]
   obtain ⟨h1,h2⟩:=B8l t l (I8 t n d).1
   refine ⟨h1,fun e he=>?_⟩
   rcases List.mem_cons.1 he with rfl|he
   ·exact h
   ·exact h2 e he
  ·rw [if_neg h]
   have:=B8l t l (I8 t n d).1
   rw [B6m h] at this ⊢
   exact this
theorem B6v:∀ (l:List Do) (es:List Int),(B89 l es).length≤l.length
 |[],es=>by simp [B89]
 |d::l,[]=>by simp [B89]
 |d::l,e::es=>by
  rw [B89]
  have:=B6v l es
  split<;>simp<;>omega
theorem B6i:∀ (l:List Do) (es:List Int) (i:Nat) (d:Do) (e:Int),l[i]? =some d→es[i]? =some e→B89 (l.take (i+1)) (es.take (i+1))=B89 (l.take i) (es.take i)++(if e=0 then [d] else [])
 |[],es,i,d,e,h,_=>by simp at h
 |x::l,[],i,d,e,_,h=>by simp at h
 |x::l,y::es,0,d,e,h,h2=>by
  obtain rfl:x=d:=by simpa using h
  obtain rfl:y=e:=by simpa using h2
  simp only [List.take_succ_cons,List.take_zero,B89]
  split<;>simp [B89]
 |x::l,y::es,i+1,d,e,h,h2=>by
  simp only [List.take_succ_cons,B89]
  rw [B6i l es i d e (by simpa using h) (by simpa using h2)]
  split<;>simp
def B8p (p q:N9):Prop:=p.trace<+:q.trace∧(p.done=true→q.trace=p.trace∧q.done=true)∧q.ver=p.ver∧q.flow=p.flow
theorem B8p.refl (p:N9):B8p p p:=⟨List.prefix_refl _,fun h=>⟨rfl,h⟩,rfl,rfl⟩
theorem B8p.trans {p q r:N9} (h:B8p p q) (k:B8p q r):B8p p r:=
 ⟨h.1.trans k.1,fun hd=>by
  obtain ⟨h1,h2⟩:=h.2.1 hd
  obtain ⟨k1,k2⟩:=k.2.1 h2
  exact ⟨k1.trans h1,k2⟩,k.2.2.1.trans h.2.2.1,k.2.2.2.trans h.2.2.2⟩
structure B8i (n m:Net):Prop where
 pk:∀ (i:Nat) (p:N9),n.packets[i]? =some p→∃ q,m.packets[i]? =some q∧B8p p q
 pl:n.plans.length≤m.plans.length
theorem B8i.refl (n:Net):B8i n n:=⟨fun i p h=>⟨p,h,B8p.refl p⟩,Nat.le_refl _⟩
theorem B8i.trans {n m o:Net} (h:B8i n m) (k:B8i m o):B8i n o:=⟨fun i p hp=>by
 obtain ⟨q,hq,h1⟩:=h.pk i p hp
 obtain ⟨r,hr,h2⟩:=k.pk i q hq
 exact ⟨r,hr,h1.trans h2⟩,Nat.le_trans h.pl k.pl⟩
theorem B7e (t:C5) (n:Net) (d:Do):B8i n (I8 t n d).1:=by
 have same:∀ m:Net,m.packets=n.packets→m.plans.length≥n.plans.length→B8i n m:=fun m h1 h2=>⟨fun i p h=>⟨p,by rw [h1];exact h,B8p.refl p⟩,h2⟩
 unfold I8
 split
 ·unfold T8
  split
  ·exact B8i.refl _
  ·exact same _ rfl (by simp)
 split
 ·unfold L4
  split
  ·exact B8i.refl _
  ·split
   ·exact B8i.refl _
   ·exact same _ rfl (Nat.le_refl _)
 split
 ·unfold M7
  split
  ·exact B8i.refl _
  ·split
   ·exact B8i.refl _
   ·exact same _ rfl (Nat.le_refl _)
 split
 ·unfold J4
  split
  ·exact B8i.refl _
  ·split
   ·exact B8i.refl _
   ·exact ⟨fun i p h=>⟨p,by show (_++_:List N9)[i]? =_;rw [List.getElem?_append_left (List.getElem?_eq_some_iff.1 h).1];exact h,B8p.refl p⟩,Nat.le_refl _⟩
 split
 ·unfold M6
  split
  ·exact B8i.refl _
  ·rename_i p hp
   split
   ·exact B8i.refl _
   ·rename_i hd
    obtain ⟨h0,hpk⟩:=A1i hp
    refine ⟨fun i x hx=>?_,Nat.le_refl _⟩
    by_cases e:d.n.toNat=i
    ·subst e
     rw [hpk] at hx
     obtain rfl:p=x:=by simpa using hx
     refine ⟨A48 n.switches p,by show (n.packets.set _ _)[_]? =_;rw [List.getElem?_set_self (List.getElem?_eq_some_iff.1 hpk).1],?_⟩
     unfold A48
     split
     ·exact ⟨List.prefix_append _ _,fun h=>absurd h hd,rfl,rfl⟩
     ·exact ⟨List.prefix_refl _,fun h=>absurd h hd,rfl,rfl⟩
    ·exact ⟨x,by show (n.packets.set _ _)[_]? =_;rw [List.getElem?_set_ne e];exact hx,B8p.refl x⟩
 split
 ·unfold Z9
  split
  ·exact B8i.refl _
  ·exact same _ rfl (Nat.le_refl _)
 ·exact B8i.refl _
theorem B8q (t:C5):∀ (l:List Do) (n:Net),B8i n (D5 t n l).1
 |[],n=>B8i.refl n
 |d::l,n=>(B7e t n d).trans (B8q t l _)
theorem B77 (t:C5) (l:List Do) (at_:Nat) (n:Net):B8i (D5 t n (l.take at_)).1 (D5 t n l).1∧(D5 t n (l.take at_)).2=(D5 t n l).2.take at_:=by
 have h:=A3g t (l.drop at_) (l.take at_) n
 rw [List.take_append_drop] at h
 rw [h]
 refine ⟨B8q t _ _,?_⟩
 by_cases hl:at_≤l.length
 ·have hn:(D5 t n (l.take at_)).2.length=at_:=by rw [A8m,List.length_take];omega
  show _=List.take at_ ((D5 t n (l.take at_)).2++_)
  rw [List.take_append_of_le_length (Nat.le_of_eq hn.symm)]
  exact (List.take_of_length_le (Nat.le_of_eq hn)).symm
 ·rw [List.take_of_length_le (l:=l) (by omega),List.drop_eq_nil_of_le (by omega)]
  have hn:(D5 t n l).2.length=l.length:=A8m t l n
  show _=List.take at_ ((D5 t n l).2++[])
  rw [List.append_nil,List.take_of_length_le (by omega)]
def B88 (i:Nat):Do:=⟨5,(i:Int),[]⟩
theorem B6j (t:C5) (n:Net) (i:Nat):I8 t n (B88 i)=M6 n (i:Int):=by
 unfold I8 B88
 rw [if_neg (show ¬(5:Int)=1 by decide),if_neg (show ¬(5:Int)=2 by decide),if_neg (show ¬(5:Int)=3 by decide),if_neg (show ¬(5:Int)=4 by decide),if_pos rfl]
theorem B81 {n:Net} {i:Nat} {p:N9} (hp:n.packets[i]? =some p) (hd:p.done=false):M6 n (i:Int)=({n with packets:=n.packets.set i (A48 n.switches p)},0):=by
 have e:S7 n (i:Int)=some p:=by unfold S7;rw [if_neg (by omega),Int.toNat_natCast];exact hp
 unfold M6
 rw [e]
 simp only [hd,Bool.false_eq_true,if_false,Int.toNat_natCast]
theorem B7m (n:Net) (j:Int):(M6 n j).1.plans=n.plans∧(M6 n j).1.ctl=n.ctl∧(M6 n j).1.switches=n.switches:=by
 unfold M6
 split
 ·exact ⟨rfl,rfl,rfl⟩
 ·split<;>exact ⟨rfl,rfl,rfl⟩
theorem B6c (t:C5) (i:Nat):∀ (m:Nat) (n:Net),(D5 t n (List.replicate m (B88 i))).1.plans=n.plans
 |0,n=>rfl
 |m+1,n=>by
  rw [List.replicate_succ,D5]
  show (D5 t (I8 t n (B88 i)).1 _).1.plans=_
  rw [B6c t i m,B6j,(B7m n _).1]
section
variable {t : C5} {n : Net}
theorem B83 {k:Nat} (h:G7 t n) (hf:F4 t k n) (hst:n.ctl.stage≠4) {p:N9} {q:F5} {path:List Int} (hq:n.plans[(p.ver - 1).toNat]? =some q) (h1:1≤p.ver) (h0:0≤p.flow) (hpa:q.paths[p.flow.toNat]? =some path) (hpre:p.trace<+:path) (hne:p.trace≠[])
  (hs:q=n.ctl.now∨(q=n.ctl.next∧n.ctl.stage≠1)):
  (∀ x,path[p.trace.length]? =some x→A48 n.switches p={p with trace:=p.trace++[x]})∧(path.length≤p.trace.length→A48 n.switches p={p with done:=true}):=by
 have hl:=A8k hpre hne
 obtain ⟨hver,l,hok⟩:=h.plans.1.each _ _ hq
 obtain ⟨f,hgd⟩:=hok.mem (List.mem_of_getElem? hpa)
 have hr:=hgd.rng _ (List.mem_of_getElem? hl)
 have hpos:=List.length_pos_iff.2 hne
 obtain ⟨s,hse⟩:∃ s:Nat,p.trace.getLastD 0=(s:Int):=⟨(p.trace.getLastD 0).toNat,by omega⟩
 have hsl:s<n.switches.length:=by rw [hf.sw];omega
 obtain ⟨sw,hsw⟩:∃ x,n.switches[s]? =some x:=⟨_,List.getElem?_eq_getElem hsl⟩
 have hD:n.switches.getD (p.trace.getLastD 0).toNat O5=sw:=by rw [hse,Int.toNat_natCast,List.getD_eq_getElem?_getD,hsw];rfl
 have hfit:=h.sw hsw
 refine ⟨fun x hx=>?_,fun hle=>?_⟩
 ·have hm:(⟨q.ver,p.flow,x⟩:C1)∈C6 q s:=L8.2 ⟨rfl,p.flow.toNat,path,p.trace.length - 1,hpa,by show p.flow=_;omega,by rw [hl,hse],by rw [show p.trace.length - 1+1=p.trace.length by omega];exact hx⟩
  have hin:(⟨q.ver,p.flow,x⟩:C1)∈sw.rules:=by
   rcases hs with rfl|⟨rfl,h3⟩
   ·exact hfit.now hst _ hm
   ·exact hfit.next hst h3 _ hm
  have hv:q.ver=p.ver:=by omega
  have hnx:=B7y hfit.ok.tab.up hin
  dsimp only at hnx
  rw [hv] at hnx
  unfold A48
  rw [hD,hnx]
  rfl
 ·unfold A48
  split
  ·rename_i hg
   have:=B3u h hq h1 h0 hpa hpre hne hg
   rw [List.getElem?_eq_none hle] at this
   cases this
  ·rfl
theorem B8y {k:Nat} (ht:(B6 t).1=0):∀ (m:Nat) (n:Net) (k i:Nat) (p:N9) (q:F5) (path:List Int),G7 t n→F4 t k n→k+m≤5000→n.ctl.stage≠4→n.packets[i]? =some p→p.done=false→n.plans[(p.ver - 1).toNat]? =some q→1≤p.ver→0≤p.flow→q.paths[p.flow.toNat]? =some path→p.trace<+:path→p.trace≠[]→
  (q=n.ctl.now∨(q=n.ctl.next∧n.ctl.stage≠1))→path.length<p.trace.length+m→
  ∃ p',(D5 t n (List.replicate m (B88 i))).1.packets[i]? =some p'∧p'.done=true∧p'.trace=path∧p'.ver=p.ver
 |0,n,k,i,p,q,path,h,hf,hk,hst,hp,hd,hq,h1,h0,hpa,hpre,hne,hs,hm=>by have:=hpre.length_le;omega
 |m+1,n,k,i,p,q,path,h,hf,hk,hst,hp,hd,hq,h1,h0,hpa,hpre,hne,hs,hm=>by
  have hn:=(J8 ht).1.1
  have hi:=(List.getElem?_eq_some_iff.1 hp).1
  obtain ⟨g1,g2⟩:=B83 h hf hst hq h1 h0 hpa hpre hne hs
  have hR:=A5i h hf (by omega) ht (B88 i)
  have hF:=A3y hf (by omega) (by omega) (B88 i)
  rw [List.replicate_succ,D5]
  show ∃ p',(D5 t (I8 t n (B88 i)).1 _).1.packets[i]? =some p'∧_
  rw [B6j,B81 hp hd] at hR hF ⊢
  dsimp only at hR hF ⊢
  by_cases hl:p.trace.length<path.length
  ·obtain ⟨x,hx⟩:∃ x,path[p.trace.length]? =some x:=⟨_,List.getElem?_eq_getElem hl⟩
   rw [g1 x hx] at hR hF ⊢
   exact B8y (k:=k) ht m _ (k+1) i {p with trace:=p.trace++[x]} q path hR hF (by omega) hst (by show (n.packets.set _ _)[i]? =_;rw [List.getElem?_set_self hi]) hd hq h1 h0 hpa (A7x hpre hx) (by simp) hs (by show _<(p.trace++[x]).length+m;simp;omega)
  ·rw [g2 (by omega)]
   have he:p.trace=path:=hpre.eq_of_length (by have:=hpre.length_le;omega)
   obtain ⟨p',hp',h2,h3,h4,_⟩:=(B8q t (List.replicate m (B88 i)) {n with packets:=n.packets.set i {p with done:=true}}).pk i {p with done:=true} (by show (n.packets.set _ _)[i]? =_;rw [List.getElem?_set_self hi])
   obtain ⟨h5,h6⟩:=h3 rfl
   exact ⟨p',hp',h6,by rw [h5];exact he,h4⟩
end
open Go.RowKit
def B8a (s:Nat):Do:=⟨2,(s:Int),[]⟩
def B86 (s:Nat):Do:=⟨3,(s:Int),[]⟩
def B8z (s:Nat) (os:List G3) (bs:List Int):List Do:=os.flatMap (fun _=>[B8a s,B86 s])++bs.map (fun _=>B86 s)
def B87 (n:Net):List Do:=(List.range n.switches.length).flatMap fun s=>B8z s (n.orders.getD s []) (n.backs.getD s [])
def B8f (t:C5):Nat→List Do→List Do
 |0,l=>l
 |k+1,l=>if B87 (D9 t l).1=[] then l else B8f t k (l++B87 (D9 t l).1)
def B85 (t:C5) (l:List Do):List Do:=B8f t 10 l
theorem B71 (t:C5) (n:Net) (s:Nat):I8 t n (B8a s)=L4 t n (s:Int):=by
 unfold I8 B8a
 rw [if_neg (show ¬(2:Int)=1 by decide),if_pos rfl]
theorem B7f (t:C5) (n:Net) (s:Nat):I8 t n (B86 s)=M7 t n (s:Int):=by
 unfold I8 B86
 rw [if_neg (show ¬(3:Int)=1 by decide),if_neg (show ¬(3:Int)=2 by decide),if_pos rfl]
def B8r (n:Net):Nat:=if n.ctl.stage=1 then 2 else if n.ctl.stage=2 then 1 else if n.ctl.stage=4 then 1 else 0
def B8o (st:Int):Int:=if st=0∨st=4 then 0 else 3
section
variable {t : C5} {n : Net} {p0 p : F5} {a b : Nat → D8} {o : Nat → G3} {st : Nat → Nat} {s : Nat}
def B8d (s v:Nat):List Do:=if v=0 then [] else if v=1 then [B8a s,B86 s] else [B86 s]
theorem L3.round {N:Nat} (h:L3 N n a b o st) (hs:s<N):B8z s (n.orders.getD s []) (n.backs.getD s [])=B8d s (st s):=by
 rw [List.getD_eq_getElem?_getD,List.getD_eq_getElem?_getD]
 unfold B8z B8d
 rcases h.each s hs with g|g|g
 ·rw [g.2.1,g.2.2.1,g.1];rfl
 ·rw [g.2.1,g.2.2.1,g.1];rfl
 ·rw [g.2.1,g.2.2.1,g.1];rfl
theorem B8g {α β:Type} {f g:α→List β}:∀ {l:List α},(∀ x∈l,f x=g x)→l.flatMap f=l.flatMap g
 |[],_=>rfl
 |x::l,h=>by
  rw [List.flatMap_cons,List.flatMap_cons,h x (by simp),B8g (fun y hy=>h y (List.mem_cons_of_mem _ hy))]
theorem B4b.round (h:B4b t n p0 p a b o st):B87 n=(List.range t.n.toNat).flatMap fun s=>B8d s (st s):=by
 unfold B87
 rw [h.fl.sw]
 exact B8g fun s hs=>h.fl.round (List.mem_range.1 hs)
theorem B7k (h:B4b t n p0 p a b o st) (hs:s<t.n.toNat) (h1:st s=1):
  B4b t (I8 t n (B8a s)).1 p0 p a b o (A1e st s 2)∧(I8 t n (B8a s)).1.ctl=n.ctl∧(I8 t n (B8a s)).1.plans=n.plans∧(I8 t n (B8a s)).1.packets=n.packets:=by
 rw [B71]
 rcases h.fl.each s hs with g|g|g
 ·omega
 ·have hrow:rowAt t n.orders (s:Int)=[o s]:=by
   unfold rowAt
   rw [if_neg (by omega),Int.toNat_natCast,List.getD_eq_getElem?_getD,g.2.1];rfl
  have e1:n.switches.getD (s:Int).toNat O5=a s:=by rw [Int.toNat_natCast,List.getD_eq_getElem?_getD,g.2.2.2.1];rfl
  unfold L4
  rw [hrow]
  dsimp only
  rw [e1,g.2.2.2.2]
  refine ⟨⟨?_,h.now,h.next,h.plans,h.is0,h.is1,h.at_⟩,rfl,rfl,rfl⟩
  exact h.fl.order hs h1
 ·omega
theorem B69 {c:Ctl} (hw:c.waits=[]):((C0 c t).1.stage=2∨(C0 c t).1.stage=3)∧c.stage=1∨(c.stage=2∧(C0 c t).1.stage=3)∨(c.stage=4∧(C0 c t).1.stage=0)∨(c.stage≠1∧c.stage≠2∧c.stage≠4∧(C0 c t).1=c):=by
 unfold C0
 rw [if_neg (fun h=>h hw)]
 split
 ·left
  refine ⟨?_,by assumption⟩
  split
  ·exact .inr rfl
  ·exact .inl (P7 _ _).1
 split
 ·exact .inr (.inl ⟨by assumption,rfl⟩)
 split
 ·exact .inr (.inr (.inl ⟨by assumption,rfl⟩))
 ·exact .inr (.inr (.inr ⟨by assumption,by assumption,by assumption,rfl⟩))
theorem B7n {k : Nat} (h : B4b t n p0 p a b o st) (hf : F4 t k n) (hk : k ≤ 5000) (ht : (B6 t).1 = 0) (hs : s < t.n.toNat) (h2 : st s = 2) :
    (I8 t n (B86 s)).1.plans = n.plans ∧ (I8 t n (B86 s)).1.packets = n.packets ∧
    ((B4b t (I8 t n (B86 s)).1 p0 p a b o (A1e st s 0) ∧ (I8 t n (B86 s)).1.ctl.stage = n.ctl.stage ∧ (I8 t n (B86 s)).1.ctl.waits ≠ []) ∨
     ((∀ r, r < t.n.toNat → r ≠ s → st r = 0) ∧ B8r (I8 t n (B86 s)).1 < B8r n ∧ B8o (I8 t n (B86 s)).1.ctl.stage = B8o n.ctl.stage)) := by
  rw [B7f]
  rcases h.fl.each s hs with g | g | g
  · omega
  · omega
  · have hrow : rowAt t n.backs (s : Int) = [(o s).num] := by
      unfold rowAt
      rw [if_neg (by omega), Int.toNat_natCast, List.getD_eq_getElem?_getD, g.2.2.1]; rfl
    have hm : (o s).num ∈ n.ctl.waits := (h.fl.wait _).2 ⟨_, hs, by omega, rfl⟩
    obtain ⟨i, hi⟩ := B58 hm
    have e : H8 n.ctl t (o s).num = ((C0 ⟨n.ctl.stage, n.ctl.now, n.ctl.next, n.ctl.num, n.ctl.waits.eraseIdx i⟩ t).1, (C0 ⟨n.ctl.stage, n.ctl.now, n.ctl.next, n.ctl.num, n.ctl.waits.eraseIdx i⟩ t).2, 0) := by
      unfold H8; rw [if_neg (by rw [ht]; decide), hi]
    have hne : n.ctl.waits ≠ [] := fun e => by rw [e] at hm; simp at hm
    have hE : M7 t n (s : Int) = ({ n with backs := n.backs.set s [], ctl := (C0 ⟨n.ctl.stage, n.ctl.now, n.ctl.next, n.ctl.num, n.ctl.waits.eraseIdx i⟩ t).1, orders := F9 n.orders (C0 ⟨n.ctl.stage, n.ctl.now, n.ctl.next, n.ctl.num, n.ctl.waits.eraseIdx i⟩ t).2 }, 0) := by
      unfold M7
      rw [hrow]
      dsimp only
      rw [e, if_neg (fun h => h rfl), Int.toNat_natCast]
    rw [hE]
    refine ⟨rfl, rfl, ?_⟩
    have hfl := h.fl.back hs h2 hi (c := ⟨n.ctl.stage, n.ctl.now, n.ctl.next, n.ctl.num, n.ctl.waits.eraseIdx i⟩) rfl
    rcases h.at_ with ⟨_, q, _⟩ | ⟨hp, hv, hv0, hst⟩
    · exact absurd q hne
    by_cases hz : n.ctl.waits.eraseIdx i = []
    · right
      have hR := hfl.rest hz
      refine ⟨fun r hr hrs => ?_, ?_⟩
      · have := hR r hr
        simpa [A1e, hrs] using this
      · have hq := B69 (t := t) (c := ⟨n.ctl.stage, n.ctl.now, n.ctl.next, n.ctl.num, n.ctl.waits.eraseIdx i⟩) hz
        unfold B8r B8o
        dsimp only at hq ⊢
        generalize (C0 ⟨n.ctl.stage, n.ctl.now, n.ctl.next, n.ctl.num, n.ctl.waits.eraseIdx i⟩ t).1.stage = z at *
        have h4 : n.ctl.stage = 1 ∨ n.ctl.stage = 2 ∨ n.ctl.stage = 4 := by
          rcases hst with ⟨q1, _⟩ | ⟨q1, _⟩ | ⟨_, q2, _⟩ | ⟨q1, _⟩
          · exact .inl q1
          · exact .inr (.inl q1)
          · exact absurd q2 hne
          · exact .inr (.inr q1)
        rcases hq with ⟨h5 | h5, h6⟩ | ⟨h6, h5⟩ | ⟨h6, h5⟩ | ⟨q1, q2, q3, _⟩
        · subst h5; rw [h6]; decide
        · subst h5; rw [h6]; decide
        · subst h5; rw [h6]; decide
        · subst h5; rw [h6]; decide
        · omega
    · left
      have e2 : C0 ⟨n.ctl.stage, n.ctl.now, n.ctl.next, n.ctl.num, n.ctl.waits.eraseIdx i⟩ t = (⟨n.ctl.stage, n.ctl.now, n.ctl.next, n.ctl.num, n.ctl.waits.eraseIdx i⟩, []) := by unfold C0; rw [if_pos hz]
      rw [e2]
      refine ⟨⟨hfl, h.now, h.next, h.plans, h.is0, h.is1, .inr ⟨hp, hv, hv0, ?_⟩⟩, rfl, hz⟩
      rcases hst with ⟨q1, _, q⟩ | ⟨q1, _, q⟩ | ⟨q1, q2, _⟩ | ⟨q1, _, q⟩
      · exact .inl ⟨q1, hz, q⟩
      · exact .inr (.inl ⟨q1, hz, q⟩)
      · exact absurd q2 hne
      · exact .inr (.inr (.inr ⟨q1, hz, q⟩))
end
structure B6q (t:C5) (n m:Net):Prop where
 less:B8r m<B8r n
 same:B8o m.ctl.stage=B8o n.ctl.stage
 plans:m.plans=n.plans
 packets:m.packets=n.packets
theorem B67 {st:Nat→Nat} {l:List Nat} (h:∀ r∈l,st r=0):(l.flatMap fun r=>B8d r (st r))=[]:=by
 rw [List.flatMap_eq_nil_iff]
 intro r hr
 rw [h r hr];rfl
theorem B7q {n m:Net} (h:m.ctl=n.ctl):B8r m=B8r n:=by unfold B8r;rw [h]
theorem B8x {t:C5} (ht:(B6 t).1=0) {p0 p:F5} {a b:Nat→D8} {o:Nat→G3}:∀ (m s:Nat) (n:Net) (st:Nat→Nat) (k:Nat),B4b t n p0 p a b o st→F4 t k n→s+m=t.n.toNat→k+2 * m≤5000→(∀ r,r<s→st r=0)→(∃ r,r<t.n.toNat∧st r≠0)→
    B6q t n (D5 t n ((List.range' s m).flatMap fun s=>B8d s (st s))).1
  |0,s,n,st,k,h,hf,hm,hk,hz,⟨r,hr,hne⟩=>absurd (hz r (by omega)) hne
  |m+1,s,n,st,k,h,hf,hm,hk,hz,hex=>by
    have hn:=(J8 ht).1.1
    have hs:s<t.n.toNat:=by omega
    rw [List.range'_succ,List.flatMap_cons]
    have main:∀ (n:Net) (st:Nat→Nat) (k:Nat),B4b t n p0 p a b o st→F4 t k n→k+1+2 * m≤5000→(∀ r,r<s→st r=0)→st s=2→B6q t n (D5 t n (B86 s::(List.range' (s+1) m).flatMap fun s=>B8d s (st s))).1:=by
      intro n st k h hf hk hz h2
      obtain ⟨e1,e1',hb⟩:=B7n h hf (by omega) ht hs h2
      have hF:=A3y hf (by omega) (by omega) (B86 s)
      rw [D5]
      dsimp only
      rcases hb with ⟨hI,hst,hw⟩|⟨hr0,hrk,hen⟩
      · have hc:((List.range' (s+1) m).flatMap fun s=>B8d s (st s))=((List.range' (s+1) m).flatMap fun r=>B8d r (A1e st s 0 r)):=B8g fun r hr=>by
          have:=(List.mem_range'_1.1 hr).1
          unfold A1e
          rw [if_neg (by omega)]
        rw [hc]
        have ih:=B8x ht m (s+1) _ (A1e st s 0) (k+1) hI hF (by omega) (by omega) (fun r hr=>by
          unfold A1e
          split
          · rfl
          · exact hz r (by omega)) (by
          cases hwl:(I8 t n (B86 s)).1.ctl.waits with
          |nil=>exact absurd hwl hw
          |cons x l=>
            obtain ⟨r,hr,hr2,_⟩:=(hI.fl.wait x).1 (by rw [hwl];simp)
            exact ⟨r,hr,hr2⟩)
        have er:B8r (I8 t n (B86 s)).1=B8r n:=by unfold B8r;rw [hst]
        exact ⟨er▸ih.less,by rw [ih.same,hst],ih.plans.trans e1,ih.packets.trans e1'⟩
      · rw [B67 (fun r hr=>by
          have:=List.mem_range'_1.1 hr
          exact hr0 r (by omega) (by omega))]
        exact ⟨hrk,hen,e1,e1'⟩
    rcases h.fl.each s hs with g|g|g
    · rw [g.1]
      show B6q t n (D5 t n ([]++_)).1
      rw [List.nil_append]
      exact B8x ht m (s+1) n st k h hf (by omega) (by omega) (fun r hr=>by
        by_cases e:r=s
        · rw [e];exact g.1
        · exact hz r (by omega)) hex
    · rw [g.1]
      show B6q t n (D5 t n (B8a s::B86 s::((List.range' (s+1) m).flatMap fun s=>B8d s (st s)))).1
      rw [D5]
      dsimp only
      obtain ⟨hI,e0,e1,e2⟩:=B7k h hs g.1
      have hF:=A3y hf (by omega) (by omega) (B8a s)
      have hc:((List.range' (s+1) m).flatMap fun s=>B8d s (st s))=((List.range' (s+1) m).flatMap fun r=>B8d r (A1e st s 2 r)):=B8g fun r hr=>by
        have:=(List.mem_range'_1.1 hr).1
        unfold A1e
        rw [if_neg (by omega)]
      rw [hc]
      have ih:=main _ (A1e st s 2) (k+1) hI hF (by omega) (fun r hr=>by unfold A1e;rw [if_neg (by omega)];exact hz r hr) (by simp [A1e])
      exact ⟨B7q e0▸ih.less,by rw [ih.same,e0],ih.plans.trans e1,ih.packets.trans e2⟩
    · rw [g.1]
      exact main n st k h hf (by omega) hz g.1
section
variable {t : C5} {n : Net} {k : Nat}
theorem B68 (ht:(B6 t).1=0) (h:G7 t n) (hf:F4 t k n) (hk:k≤4000) (hne:B87 n≠[]):B6q t n (D5 t n (B87 n)).1:=by
 obtain ⟨p0,p,a,b,o,st,h⟩:=h
 have h8:=(J8 ht).1.2.1
 rw [h.round] at hne ⊢
 rw [List.range_eq_range'] at hne ⊢
 refine B8x ht t.n.toNat 0 n st k h hf (by omega) (by omega) (fun r hr=>by omega) ?_
 apply Classical.byContradiction
 intro hno
 refine hne (B67 fun r hr=>?_)
 have:=List.mem_range'_1.1 hr
 apply Classical.byContradiction
 intro h0
 exact hno ⟨r,by omega,h0⟩
theorem B6z (h:G7 t n) (he:B87 n=[]):n.ctl.waits=[]:=by
 obtain ⟨p0,p,a,b,o,st,h⟩:=h
 rw [h.round,List.flatMap_eq_nil_iff] at he
 cases hw:n.ctl.waits with
 |nil=>rfl
 |cons x l=>
  obtain ⟨r,hr,h2,_⟩:=(h.fl.wait x).1 (by rw [hw];simp)
  have:=he r (List.mem_range.2 hr)
  unfold B8d at this
  rw [if_neg h2] at this
  split at this<;>simp at this
theorem B73 (h:G7 t n) (hw:n.ctl.waits=[]):n.ctl.stage=B8o n.ctl.stage:=by
 obtain ⟨p0,p,a,b,o,st,h⟩:=h
 unfold B8o
 rcases h.at_ with ⟨q,_⟩|⟨_,_,_,hst⟩
 ·rw [q];decide
 ·rcases hst with ⟨_,q,_⟩|⟨_,q,_⟩|⟨q,_⟩|⟨_,q,_⟩
  ·exact absurd hw q
  ·exact absurd hw q
  ·rw [q];decide
  ·exact absurd hw q
theorem B6x (n:Net):B8r n≤2:=by
 unfold B8r
 split
 ·exact Nat.le_refl _
 split
 ·decide
 split<;>decide
end
theorem B8h (t:C5):∀ (k:Nat) (l:List Do),∃ r,B8f t k l=l++r
 |0,l=>⟨[],by simp [B8f]⟩
 |k+1,l=>by
  unfold B8f
  split
  ·exact ⟨[],by simp⟩
  ·obtain ⟨r,hr⟩:=B8h t k (l++B87 (D9 t l).1)
   exact ⟨B87 (D9 t l).1++r,by rw [hr,List.append_assoc]⟩
structure B78 (t:C5) (n m:Net):Prop where
 calm:m.ctl.waits=[]
 stage:m.ctl.stage=B8o n.ctl.stage
 plans:m.plans=n.plans
 packets:m.packets=n.packets
theorem B6a {t:C5} (ht:(B6 t).1=0):∀ (k:Nat) (l:List Do),(B8f t k l).length≤200→B8r (D5 t (D3 t) l).1<k→B78 t (D5 t (D3 t) l).1 (D5 t (D3 t) (B8f t k l)).1
 |0,l,_,h=>by omega
 |k+1,l,hl,hr=>by
  obtain ⟨r,hp⟩:=B8h t (k+1) l
  have hll:l.length≤200:=by rw [hp] at hl;simp at hl;omega
  obtain ⟨hok,hfit⟩:=A3r ht hll
  unfold B8f at hl ⊢
  rw [W2 ht hll] at hl ⊢
  dsimp only at hl ⊢
  split
  ·rename_i he
   have hw:=B6z hok he
   exact ⟨hw,B73 hok hw,rfl,rfl⟩
  ·rename_i he
   rw [if_neg he] at hl
   have hR:=B68 ht hok hfit (by omega) he
   have e:(D5 t (D3 t) (l++B87 (D5 t (D3 t) l).1)).1=(D5 t (D5 t (D3 t) l).1 (B87 (D5 t (D3 t) l).1)).1:=by rw [A3g]
   have ih:=B6a ht k (l++B87 (D5 t (D3 t) l).1) hl (by rw [e];have:=hR.less;omega)
   rw [e] at ih
   exact ⟨ih.calm,ih.stage.trans hR.same,ih.plans.trans hR.plans,ih.packets.trans hR.packets⟩
theorem B6p {t:C5} (ht:(B6 t).1=0) {l:List Do} (hl:(B85 t l).length≤200):B78 t (D5 t (D3 t) l).1 (D5 t (D3 t) (B85 t l)).1:=
 B6a ht 10 l hl (by have:=B6x (D5 t (D3 t) l).1;omega)
theorem B91 (t:C5) (l:List Do):∃ r,B85 t l=l++r:=B8h t 10 l
def B8e:Do:=⟨6,0,[]⟩
theorem B7g (t:C5) (n:Net):I8 t n B8e=Z9 t n:=by
 unfold I8 B8e
 rw [if_neg (show ¬(6:Int)=1 by decide),if_neg (show ¬(6:Int)=2 by decide),if_neg (show ¬(6:Int)=3 by decide),if_neg (show ¬(6:Int)=4 by decide),if_neg (show ¬(6:Int)=5 by decide),if_pos rfl]
theorem B7o {t:C5} (ht:(B6 t).1=0) {n:Net} (h:n.ctl.stage=0∨n.ctl.stage=3):B8o (Z9 t n).1.ctl.stage=0∧(Z9 t n).1.plans=n.plans∧(Z9 t n).1.packets=n.packets:=by
  unfold Z9
  rcases h with h|h
  · have e:(G5 n.ctl t).2.2=11:=by
      unfold G5
      rw [if_neg (by rw [ht];decide),if_pos (by omega)]
    rw [if_pos (by rw [e];decide),h]
    exact ⟨by decide,rfl,rfl⟩
  · have e:G5 n.ctl t=((C0 (E6 ⟨4,n.ctl.now,n.ctl.next,n.ctl.num,n.ctl.waits⟩ (L9 n.ctl.now t)).1 t).1,
       (E6 ⟨4,n.ctl.now,n.ctl.next,n.ctl.num,n.ctl.waits⟩ (L9 n.ctl.now t)).2++(C0 (E6 ⟨4,n.ctl.now,n.ctl.next,n.ctl.num,n.ctl.waits⟩ (L9 n.ctl.now t)).1 t).2,0):=by
      unfold G5
      rw [if_neg (by rw [ht];decide),if_neg (by omega)]
    rw [e,if_neg (fun h=>h rfl)]
    refine ⟨?_,rfl,rfl⟩
    have hk:=(P7 ⟨4,n.ctl.now,n.ctl.next,n.ctl.num,n.ctl.waits⟩ (L9 n.ctl.now t)).1
    dsimp only at hk ⊢
    generalize (E6 ⟨4,n.ctl.now,n.ctl.next,n.ctl.num,n.ctl.waits⟩ (L9 n.ctl.now t)).1=c at *
    by_cases hw:c.waits=[]
    · rcases B69 (t:=t) hw with ⟨_,q⟩|⟨q,_⟩|⟨q,q2⟩|⟨_,_,q,_⟩
      · omega
      · omega
      · rw [q2];decide
      · omega
    · have e2:C0 c t=(c,[]):=by unfold C0;rw [if_pos hw]
      rw [e2]
      show B8o c.stage=0
      rw [hk];decide
theorem B82 {p:F5} {s i:Nat} {f:E0} (hf:p.flows[i]? =some f):J5 (U6 p s) (i:Int)=if f.src=(s:Int) then p.ver else 0:=by
  split
  · rename_i hs
    have hm:(⟨(i:Int),p.ver⟩:J0)∈A0i p s:=B2v.2 ⟨rfl,i,f,hf,rfl,hs⟩
    unfold J5
    show (match (A0i p s).find? (fun x=>x.flow==(i:Int)) with|some x=>x.ver|none=>0)=_
    cases hq:(A0i p s).find? (fun x=>x.flow==(i:Int)) with
    |none=>
      have:=List.find?_eq_none.1 hq _ hm
      simp at this
    |some x=>exact (B2v.1 (List.mem_of_find?_eq_some hq)).1
  · rename_i hs
    apply Classical.byContradiction
    intro hne
    obtain ⟨x,hx,e1,_⟩:=B0o hne
    obtain ⟨_,j,g,h1,h2,h3⟩:=B2v.1 hx
    have:j=i:=by omega
    subst this
    rw [hf] at h1
    obtain rfl:f=g:=by simpa using h1
    exact hs h3
structure B80 (t:C5) (n m:Net):Prop where
 stage:m.ctl.stage=0
 calm:m.ctl.waits=[]
 plans:m.plans=n.plans
 packets:m.packets=n.packets
 sw:∀ s:Nat,s<t.n.toNat→m.switches[s]? =some (U6 m.ctl.now s)
 next:m.ctl.next=E2
 ver:m.ctl.now.ver=m.plans.length
theorem B7x {t:C5} {m:Net} (h:G7 t m) (h0:m.ctl.stage=0):m.ctl.waits=[]∧m.ctl.next=E2∧m.ctl.now.ver=m.plans.length∧(∀ s:Nat,s<t.n.toNat→m.switches[s]? =some (U6 m.ctl.now s))∧(∀ s:Nat,s<t.n.toNat→m.orders[s]? =some []∧m.backs[s]? =some []):=by
 obtain ⟨p0,p,a,b,o,st,h⟩:=h
 rcases h.at_ with ⟨_,q2,q3,q4,q5,q6,q7⟩|⟨_,_,_,hst⟩
 ·subst q7
  refine ⟨q2,by rw [h.next];exact q3,by rw [h.now];exact q5,fun s hs=>?_,fun s hs=>?_⟩
  ·rw [h.now]
   exact (h.fl.calm q2 s hs).2.2
  ·exact ⟨(h.fl.calm q2 s hs).1,(h.fl.calm q2 s hs).2.1⟩
 ·exfalso
  rcases hst with ⟨q,_⟩|⟨q,_⟩|⟨q,_⟩|⟨q,_⟩<;>omega
theorem B6d {t:C5} (ht:(B6 t).1=0) {l:List Do} (hl:(B85 t (B85 t l++[B8e])).length≤200):
  B80 t (D5 t (D3 t) l).1 (D5 t (D3 t) (B85 t (B85 t l++[B8e]))).1:=by
 obtain ⟨r,hr⟩:=B91 t (B85 t l++[B8e])
 have hl1:(B85 t l++[B8e]).length≤200:=by rw [hr] at hl;simp only [List.length_append] at hl ⊢;omega
 have hl2:(B85 t l).length≤200:=by simp only [List.length_append] at hl1;omega
 obtain ⟨r2,hr2⟩:=B91 t l
 have hl3:l.length≤200:=by rw [hr2] at hl2;simp only [List.length_append] at hl2;omega
 have h1:=B6p ht hl2
 have h2:=B6p ht hl
 have hk1:=A3r ht hl2
 have hk:=A3r ht hl
 have e:(D5 t (D3 t) (B85 t l++[B8e])).1=(Z9 t (D5 t (D3 t) (B85 t l)).1).1:=by
  rw [A3g]
  show (I8 t _ B8e).1=_
  rw [B7g]
 rw [e] at h2
 have hst:(D5 t (D3 t) (B85 t l)).1.ctl.stage=0∨(D5 t (D3 t) (B85 t l)).1.ctl.stage=3:=by
  rw [h1.stage];unfold B8o;split
  ·exact .inl rfl
  ·exact .inr rfl
 obtain ⟨d1,d2,d3⟩:=B7o ht hst
 have hs0:=h2.stage.trans d1
 obtain ⟨g1,g2,g3,g4,_⟩:=B7x hk.1 hs0
 exact ⟨hs0,g1,h2.plans.trans (d2.trans h1.plans),h2.packets.trans (d3.trans h1.packets),g4,g2,g3⟩
def B8c (j:Int):Do:=⟨4,j,[]⟩
theorem B6b (t:C5) (n:Net) (j:Int):I8 t n (B8c j)=J4 n j:=by
 unfold I8 B8c
 rw [if_neg (show ¬(4:Int)=1 by decide),if_neg (show ¬(4:Int)=2 by decide),if_neg (show ¬(4:Int)=3 by decide),if_pos rfl]
section
variable {t : C5} {n : Net} {k : Nat}
theorem B70 (h:G7 t n) (hf:F4 t k n) (hn:0≤t.n) (h4:n.ctl.stage≠4) {j:Int} (h0:(J4 n j).2=0):
    ∃ p,(J4 n j).1={n with packets:=n.packets++[p]}∧p.flow=j∧((p.ver=0∧p.done=true)∨
      (p.done=false∧p.trace.length=1∧∃ q path,n.plans[(p.ver - 1).toNat]? =some q∧1≤p.ver∧0≤j∧q.paths[j.toNat]? =some path∧p.trace<+:path∧(q=n.ctl.now∨(q=n.ctl.next∧n.ctl.stage≠1)))):=by
  unfold J4 at *
  split at h0
  · exact absurd (show (5:Int)=0 from h0) (by decide)
  rename_i h40
  rw [if_neg h40]
  split at h0
  · exact absurd (show (6:Int)=0 from h0) (by decide)
  rename_i f hfl
  refine ⟨_,rfl,rfl,?_⟩
  have hat:=hf.at_in hn hfl
  by_cases hv:J5 (n.switches.getD (P0 n j f).toNat O5) j=0
  · exact .inl ⟨hv,decide_eq_true hv⟩
  · right
    obtain ⟨x,hx,e1,e2⟩:=B0o hv
    have hs:=A5g (l:=n.switches) (i:=(P0 n j f).toNat) (d:=O5) (fun e=>by rw [e] at hx;simp [O5] at hx)
    obtain ⟨q,path,hq,v1,v2,v3,v4,v5,v6,f',v7,_⟩:=A4e h hs hx
    refine ⟨decide_eq_false hv,rfl,q,path,by show n.plans[(J5 _ _ - 1).toNat]? =_;rw [←e2];exact v3,by show 1≤J5 _ _;rw [←e2];exact v1,by rw [←e1];exact v4,by rw [←e1];exact v5,?_,?_⟩
    · cases path with
      |nil=>simp at v6
      |cons a r=>
        obtain rfl:a=((P0 n j f).toNat:Int):=by simpa using v6
        show [P0 n j f]<+:_
        rw [Int.toNat_of_nonneg hat.1]
        exact ⟨r,rfl⟩
    · by_cases h1:n.ctl.stage=1
      · left
        have hm:=(h.sw hs).one h1 x hx
        obtain ⟨w1,w,g,w2,_⟩:=B2v.1 hm
        have hne:n.ctl.now≠E2:=fun e=>by rw [e] at w2;simp [E2] at w2
        have:=(h.plans.2.1.get hne).2
        rw [←w1,v3] at this
        simpa using this
      · rcases hq with hq|hq
        · exact .inl hq
        · exact .inr ⟨hq,h1⟩
theorem B72 (h:G7 t n) {i:Nat} {q:F5} (hq:n.plans[i]? =some q) {path:List Int} (hp:path∈q.paths):path.length≤8:=by
 obtain ⟨_,l,hok⟩:=h.plans.1.each _ _ hq
 exact (hok.plen8 hp).2
theorem B6e (ht:(B6 t).1=0) (h:G7 t n) (hf:F4 t k n) (hk:k≤4000) (h4:n.ctl.stage≠4) {j:Int} (h0:(J4 n j).2=0):
  ∃ p,(D5 t (J4 n j).1 (List.replicate 9 (B88 n.packets.length))).1.packets[n.packets.length]? =some p∧p.done=true∧(p.ver=0∨(p.ver≠0∧∃ q,B65 (D5 t (J4 n j).1 (List.replicate 9 (B88 n.packets.length))).1.plans p.ver=some q∧0≤j∧q.paths[j.toNat]? =some p.trace)):=by
 have hn:=(J8 ht).1.1
 have hR:=A9w h j
 have hF:=B1q hf (by omega) j
 obtain ⟨p,e,ej,hp⟩:=B70 h hf (by omega) h4 h0
 rw [e] at hR hF ⊢
 have hpk:(n.packets++[p])[n.packets.length]? =some p:=by simp
 rcases hp with ⟨hv,hd⟩|⟨hd,hl,q,path,w1,w2,w3,w4,w5,w6⟩
 ·obtain ⟨p',hp',h2,h3,h5,_⟩:=(B8q t (List.replicate 9 (B88 n.packets.length)) {n with packets:=n.packets++[p]}).pk n.packets.length p hpk
  exact ⟨p',hp',(h3 hd).2,.inl (by rw [h5];exact hv)⟩
 ·have h8:=B72 h w1 (List.mem_of_getElem? w4)
  obtain ⟨p',g1,g2,g3,g5⟩:=B8y (k:=0) ht 9 {n with packets:=n.packets++[p]} (k+1) n.packets.length p q path hR hF (by omega) h4 hpk hd w1 w2 (by omega) (by rw [ej];exact w4) w5 (by intro e;rw [e] at hl;simp at hl) w6 (by omega)
  refine ⟨p',g1,g2,.inr ⟨by omega,q,?_,w3,by rw [g3];exact w4⟩⟩
  rw [B6c]
  show B65 n.plans _=_
  rw [g5,B63 h.plans.1 w2]
  exact w1
end
open Go.RowKit
def B90 (b b' g o g' o':Nat) (pa pa' qa qa':Option Addr) (pl pc pc' ql qc qc':Nat) (w:World):Prop:=
 w.cell? ⟨b,2,none⟩=some (.slice pa pl pc)∧w.cell? ⟨b',2,none⟩=some (.slice pa' pl pc')∧w.cell? ⟨g,o,none⟩=some (.slice qa ql qc)∧w.cell? ⟨g',o',none⟩=some (.slice qa' ql qc')
end Go.St
namespace Go.Proofs.Ytpfmolaebloipaa
open Go.RowKit Go.St
theorem B8t (p:F5) (cs ds:List Value) (ok ok':Nat→Prop) (w:World) (hx:C3.rep ok w cs p) (hy:C3.rep ok' w ds p):
  Calls Try.prog 34 #[.agg cs.toArray,.agg ds.toArray] w fun e w'=>e=.returned (.bool true)∧Below w.heap.size w w':=by
 obtain ⟨fa,fc,pa,pc,rfl,hv,hfl,hpa⟩:=hx
 obtain ⟨fa',fc',pa',pc',rfl,_,hfl',hpa'⟩:=hy
 have hlp:=hpa.len_le
 have hlf:=hfl.len_le
 go_enter Try.func34,Try.ntmps34
 have hX0:A6 ((w.alloc (.cells #[.int .i64 p.ver,.slice fa p.flows.length fc,.slice pa p.paths.length pc] 30)).alloc (.cells #[.int .i64 p.ver,.slice fa' p.flows.length fc',.slice pa' p.paths.length pc'] 30)) w.heap.size 30 #[.int .i64 p.ver,.slice fa p.flows.length fc,.slice pa p.paths.length pc]:=(A6.new rfl).alloc _
 have hY0:A6 ((w.alloc (.cells #[.int .i64 p.ver,.slice fa p.flows.length fc,.slice pa p.paths.length pc] 30)).alloc (.cells #[.int .i64 p.ver,.slice fa' p.flows.length fc',.slice pa' p.paths.length pc'] 30)) (w.heap.size+1) 30 #[.int .i64 p.ver,.slice fa' p.flows.length fc',.slice pa' p.paths.length pc']:=A6.new (by simp)
 have hB0:Below w.heap.size w ((w.alloc (.cells #[.int .i64 p.ver,.slice fa p.flows.length fc,.slice pa p.paths.length pc] 30)).alloc (.cells #[.int .i64 p.ver,.slice fa' p.flows.length fc',.slice pa' p.paths.length pc'] 30)):=A1t _ _ _
 go_wp2_with fail
 generalize (w.alloc (.cells #[.int .i64 p.ver,.slice fa p.flows.length fc,.slice pa p.paths.length pc] 30)).alloc (.cells #[.int .i64 p.ver,.slice fa' p.flows.length fc',.slice pa' p.paths.length pc'] 30)=w0 at *
 refine (B6w p.flows ok ok' fa fa' fc fc' _ (hfl.below (hB0.trans (by (repeat' (first|with_reducible (first|exact Below.refl _ _|assumption|refine Below.drew ?_|refine A3 ?_ _|refine Below.alloc ?_ ?_ _|refine Below.setCell ?_ ?_ _)|omega|(simp;done)|(simp;omega)))))) (hfl'.below (hB0.trans (by (repeat' (first|with_reducible (first|exact Below.refl _ _|assumption|refine Below.drew ?_|refine A3 ?_ _|refine Below.alloc ?_ ?_ _|refine Below.setCell ?_ ?_ _)|omega|(simp;done)|(simp;omega))))))).mono ?_
 rintro e w1 ⟨rfl,hb1⟩
 have hb01:Below w0.heap.size w0 w1:=Below.trans (by (repeat' (first|with_reducible (first|exact Below.refl _ _|assumption|refine Below.drew ?_|refine A3 ?_ _|refine Below.alloc ?_ ?_ _|refine Below.setCell ?_ ?_ _)|omega|(simp;done)|(simp;omega)))) (hb1.mono (by first|omega|(simp;done)|(simp;omega)))
 have hB1:Below w.heap.size w w1:=hB0.trans (hb01.mono hB0.size)
 have hX1:=hX0.under hb01
 have hY1:=hY0.under hb01
 clear hb1 hb01 hX0 hY0 hB0 hfl hfl'
 obtain ⟨x1,x2⟩:=hX1.cells
 obtain ⟨y1,y2⟩:=hY1.cells
 go_wp2
 go_loopw [5,31] (fun _ i wr=>∃ j:Nat,j≤p.paths.length∧i=.int .i64 j∧Below w1.heap.size w1 wr) (fun _ i _=>p.paths.length - (intOf i).toNat)
 case atStart=>exact ⟨0,Nat.zero_le _,rfl,by (repeat' (first|with_reducible (first|exact Below.refl _ _|assumption|refine Below.drew ?_|refine A3 ?_ _|refine Below.alloc ?_ ?_ _|refine Below.setCell ?_ ?_ _)|omega|(simp;done)|(simp;omega)))⟩
 case round=>
  obtain ⟨j,hj,rfl,hb⟩:=hrel
  clear x1 x2 y1 y2
  have hB2:Below w.heap.size w wr:=hB1.trans (hb.mono hB1.size)
  have hsz:=hB2.size
  have hX2:=hX1.under hb
  have hY2:=hY1.under hb
  by_cases hlt:j<p.paths.length
  case neg=>
   have b1:¬(j:Int)<(p.paths.length:Int):=by omega
   go_wp2
   go_ret;exact ⟨rfl,by (repeat' (first|with_reducible (first|exact Below.refl _ _|assumption|refine Below.drew ?_|refine A3 ?_ _|refine Below.alloc ?_ ?_ _|refine Below.setCell ?_ ?_ _)|omega|(simp;done)|(simp;omega)))⟩
  have b1:(j:Int)<(p.paths.length:Int):=by omega
  obtain ⟨q,hq⟩:∃ q,p.paths[j]? =some q:=⟨_,List.getElem?_eq_getElem hlt⟩
  obtain ⟨g,o,rfl,_,hg,cs1,hcs,hce⟩:=hpa.get hq
  obtain ⟨qa,qc,rfl,hqr⟩:=hcs
  obtain ⟨g',o',rfl,_,hg',cs2,hcs',hce'⟩:=hpa'.get hq
  obtain ⟨qa',qc',rfl,hqr'⟩:=hcs'
  have e0:=B8 hB2 hg (hce 0 _ rfl)
  have f0:=B8 hB2 hg' (hce' 0 _ rfl)
  simp only [F7,Nat.add_zero,Nat.mul_one] at e0 f0
  clear hce hce' hq
  have hI:=fun w' (hw':Below w.heap.size w w')=>B1y q q ok ok' qa qa' qc qc' w' (hqr.below hw') (hqr'.below hw')
  rw [beq_self_eq_true] at hI
  have HI:=Lib.hid hI
  clear hI hqr hqr'
  go_wp2
  have hS0:B90 w.heap.size (w.heap.size+1) g (o+j) g' (o'+j) (some ⟨g,o,none⟩) (some ⟨g',o',none⟩) qa qa' p.paths.length pc pc' q.length qc qc' wr.drew:=⟨hX2.cells.1 2,hY2.cells.1 2,e0,f0⟩
  have hbd:Below w.heap.size w wr.drew:=hB2.trans (by (repeat' (first|with_reducible (first|exact Below.refl _ _|assumption|refine Below.drew ?_|refine A3 ?_ _|refine Below.alloc ?_ ?_ _|refine Below.setCell ?_ ?_ _)|omega|(simp;done)|(simp;omega))))
  have hbd1:Below w1.heap.size w1 wr.drew:=hb.trans (by (repeat' (first|with_reducible (first|exact Below.refl _ _|assumption|refine Below.drew ?_|refine A3 ?_ _|refine Below.alloc ?_ ?_ _|refine Below.setCell ?_ ?_ _)|omega|(simp;done)|(simp;omega))))
  have hzd:w.heap.size≤wr.drew.heap.size:=by simpa using hsz
  have hzy:w.heap.size+1<wr.drew.heap.size:=by have:=hY2.lt;simpa using this
  clear e0 f0
  refine A0v (B90 w.heap.size (w.heap.size+1) g (o+j) g' (o'+j) (some ⟨g,o,none⟩) (some ⟨g',o',none⟩) qa qa' p.paths.length pc pc' q.length qc qc') 99 (by kernel_rfl) ?_
  generalize wr.drew=w2 at *
  have hS:=hS0
  refine B0 (i:=0) (.pointer (some ⟨w.heap.size,2,none⟩)) rfl (by kernel_rfl) (fun _ _ _ h=>h) hS (A0 (by kernel_rfl) (by intro w0 hw0;have hw1:=hw0;simp only [B90] at hw1;go_simp)) ?_;simp only [Act.put,St.tA,St.tD,St.tE,St.tS,St.tC,St.tZ]
  refine B0 (i:=1) (.slice (some ⟨g,o,none⟩) p.paths.length pc) rfl (by kernel_rfl) (fun _ _ _ h=>h) hS (A0 (by kernel_rfl) (by intro w0 hw0;have hw1:=hw0;simp only [B90] at hw1;go_simp)) ?_;simp only [Act.put,St.tA,St.tD,St.tE,St.tS,St.tC,St.tZ]
  refine B0 (i:=2) (.int .i64 j) rfl (by kernel_rfl) (fun _ _ _ h=>h) hS (A0 (by kernel_rfl) (by intro w0 hw0;have hw1:=hw0;simp only [B90] at hw1;go_simp)) ?_;simp only [Act.put,St.tA,St.tD,St.tE,St.tS,St.tC,St.tZ]
  refine B0 (i:=3) (.pointer (some ⟨g,o+j,none⟩)) rfl (by kernel_rfl) (fun _ _ _ h=>h) hS (A0 (by kernel_rfl) (by intro w0 hw0;have hw1:=hw0;simp only [B90] at hw1;go_simp)) ?_;simp only [Act.put,St.tA,St.tD,St.tE,St.tS,St.tC,St.tZ]
  refine B0 (i:=4) (.slice qa q.length qc) rfl (by kernel_rfl) (fun _ _ _ h=>h) hS (A0 (by kernel_rfl) (by intro w0 hw0;have hw1:=hw0;simp only [B90] at hw1;go_simp)) ?_;simp only [Act.put,St.tA,St.tD,St.tE,St.tS,St.tC,St.tZ]
  refine B0 (i:=5) (.pointer (some ⟨w.heap.size+1,2,none⟩)) rfl (by kernel_rfl) (fun _ _ _ h=>h) hS (A0 (by kernel_rfl) (by intro w0 hw0;have hw1:=hw0;simp only [B90] at hw1;go_simp)) ?_;simp only [Act.put,St.tA,St.tD,St.tE,St.tS,St.tC,St.tZ]
  refine B0 (i:=6) (.slice (some ⟨g',o',none⟩) p.paths.length pc') rfl (by kernel_rfl) (fun _ _ _ h=>h) hS (A0 (by kernel_rfl) (by intro w0 hw0;have hw1:=hw0;simp only [B90] at hw1;go_simp)) ?_;simp only [Act.put,St.tA,St.tD,St.tE,St.tS,St.tC,St.tZ]
  refine B0 (i:=7) (.int .i64 j) rfl (by kernel_rfl) (fun _ _ _ h=>h) hS (A0 (by kernel_rfl) (by intro w0 hw0;have hw1:=hw0;simp only [B90] at hw1;go_simp)) ?_;simp only [Act.put,St.tA,St.tD,St.tE,St.tS,St.tC,St.tZ]
  refine B0 (i:=8) (.pointer (some ⟨g',o'+j,none⟩)) rfl (by kernel_rfl) (fun _ _ _ h=>h) hS (A0 (by kernel_rfl) (by intro w0 hw0;have hw1:=hw0;simp only [B90] at hw1;go_simp)) ?_;simp only [Act.put,St.tA,St.tD,St.tE,St.tS,St.tC,St.tZ]
  refine B0 (i:=9) (.slice qa' q.length qc') rfl (by kernel_rfl) (fun _ _ _ h=>h) hS (A0 (by kernel_rfl) (by intro w0 hw0;have hw1:=hw0;simp only [B90] at hw1;go_simp)) ?_;simp only [Act.put,St.tA,St.tD,St.tE,St.tS,St.tC,St.tZ]
  refine A7 (i:=10) rfl (by kernel_rfl) (by kernel_rfl) fun K10 hK10=>?_
  go_simp
  go_wp2_with fail
  refine (HI.out _ hbd).mono ?_
  rintro e w3 ⟨rfl,hb3⟩
  have hB3:Below w.heap.size w w3:=hbd.trans (hb3.mono hzd)
  have hb13:Below w1.heap.size w1 w3:=hbd1.trans (hb3.mono hbd1.size)
  have hS3:B90 w.heap.size (w.heap.size+1) g (o+j) g' (o'+j) (some ⟨g,o,none⟩) (some ⟨g',o',none⟩) qa qa' p.paths.length pc pc' q.length qc qc' w3:=⟨B8 hb3 (by omega) hS.1,B8 hb3 (by omega) hS.2.1,B8 hb3 (by omega) hS.2.2.1,B8 hb3 (by omega) hS.2.2.2⟩
  clear hS
  have hS:=hS3
  go_wp2_with fail
  refine hK10 _ _ (fun _=>hS) ?_
  clear hK10
  refine B0 (i:=11) (.bool false) rfl (by kernel_rfl) (fun _ _ _ h=>h) hS (A0 (by kernel_rfl) (by intro w0 hw0;have hw1:=hw0;simp only [B90] at hw1;go_simp)) ?_;simp only [Act.put,St.tA,St.tD,St.tE,St.tS,St.tC,St.tZ]
  refine B5 (by kernel_rfl) ?_ _
  clear hS
  go_wp2
  case roundEnd=>
   go_roundw
   case rel=>exact ⟨j+1,by omega,by go_num,hb13.trans (by (repeat' (first|with_reducible (first|exact Below.refl _ _|assumption|refine Below.drew ?_|refine A3 ?_ _|refine Below.alloc ?_ ?_ _|refine Below.setCell ?_ ?_ _)|omega|(simp;done)|(simp;omega))))⟩
   case measure=>simp [intOf]<;>omega
open Go.RowKit Go.St
theorem B8n (xs ys:List C1) (ok ok':Nat→Prop) (ax ay:Option Addr) (cx cy:Nat) (w:World) (hx:A8 G6 ok w ax cx xs) (hy:A8 G6 ok' w ay cy ys):
  Calls Try.prog 21 #[.slice ax xs.length cx,.slice ay ys.length cy] w fun e w'=>e=.returned (.bool (xs==ys))∧Below w.heap.size w w':=by
 have q1:Try.prog.eqGuardType Try.prog.depth 63=false:=by kernel_rfl
 by_cases hl:xs.length=ys.length
 case neg=>
  rw [A6a hl]
  have hl':((xs.length:Int)==(ys.length:Int))=false:=by rw [beq_eq_false_iff_ne];omega
  clear hl
  go_enter Try.func21,Try.ntmps21
  go_wp2
  go_ret;exact ⟨rfl,by (repeat' (first|with_reducible (first|exact Below.refl _ _|assumption|refine Below.drew ?_|refine A3 ?_ _|refine Below.alloc ?_ ?_ _|refine Below.setCell ?_ ?_ _)|omega|(simp;done)|(simp;omega)))⟩
 have hl':((xs.length:Int)==(ys.length:Int))=true:=by rw [beq_iff_eq];omega
 have hlx:=hx.len_le
 have HL:=Lib.hid hl
 clear hl
 go_enter Try.func21,Try.ntmps21
 go_wp2
 go_loopw [13] (fun i wr=>∃ j:Nat,j≤xs.length∧i=.int .i64 j∧Hid ((xs==ys)=R5 xs ys j)∧Below w.heap.size w wr) (fun i _=>xs.length - (intOf i).toNat)
 case atStart=>exact ⟨0,Nat.zero_le _,rfl,A4a _ _,Below.refl _ _⟩
 case round=>
  obtain ⟨j,hj,rfl,hall,hb⟩:=hrel
  by_cases hlt:j<xs.length
  ·have hlt2:j<ys.length:=by have:=HL.out;omega
   obtain ⟨b,off,rfl,_,hbl,cs,hcs,hce⟩:=hx.get (List.getElem?_eq_getElem hlt)
   obtain ⟨rfl,hi1,_,_⟩:=hcs
   have e0:=B8 hb hbl (hce 0 _ rfl)
   have e01:=B8 hb hbl (hce 1 _ rfl)
   have e02:=B8 hb hbl (hce 2 _ rfl)
   clear hce
   obtain ⟨b',off',rfl,_,hbl',cs',hcs',hce'⟩:=hy.get (List.getElem?_eq_getElem hlt2)
   obtain ⟨rfl,hi2,_,_⟩:=hcs'
   have e1:=B8 hb hbl' (hce' 0 _ rfl)
   have e11:=B8 hb hbl' (hce' 1 _ rfl)
   have e12:=B8 hb hbl' (hce' 2 _ rfl)
   clear hce'
   simp only [G6,Nat.add_zero] at e0 e01 e02 e1 e11 e12
   have b0:(0:Int)≤(j:Int):=by omega
   have b1:(j:Int)<(xs.length:Int):=by omega
   have b2:(j:Int)<(ys.length:Int):=by omega
   have hq:=B3l xs[j] ys[j]
   go_wp2
   go_quiet (fail)
   go_wp2
   case roundEnd=>
    go_roundw
    case rel=>exact ⟨j+1,by omega,by go_num,A5a hlt hlt2 hall.out (by (try simp only [beq_iff_eq,beq_eq_false_iff_ne,bne_iff_ne,bne_eq_false_iff_eq,ne_eq,Bool.not_eq_true',Bool.not_eq_false',decide_eq_true_eq,decide_eq_false_iff_not] at *);assumption),by (repeat' (first|with_reducible (first|exact Below.refl _ _|assumption|refine Below.drew ?_|refine A3 ?_ _|refine Below.alloc ?_ ?_ _|refine Below.setCell ?_ ?_ _)|omega|(simp;done)|(simp;omega)))⟩
    case measure=>simp [intOf];omega
   all_goals (go_ret;exact ⟨N2 (A6u hlt hlt2 hall.out (by (try simp only [beq_iff_eq,beq_eq_false_iff_ne,bne_iff_ne,bne_eq_false_iff_eq,ne_eq,Bool.not_eq_true',Bool.not_eq_false',decide_eq_true_eq,decide_eq_false_iff_not] at *);assumption)).symm,by (repeat' (first|with_reducible (first|exact Below.refl _ _|assumption|refine Below.drew ?_|refine A3 ?_ _|refine Below.alloc ?_ ?_ _|refine Below.setCell ?_ ?_ _)|omega|(simp;done)|(simp;omega)))⟩)
  ·go_wp2
   go_ret;exact ⟨N2 (A6n (by omega) (by have:=HL.out;omega) hall.out),by (repeat' (first|with_reducible (first|exact Below.refl _ _|assumption|refine Below.drew ?_|refine A3 ?_ _|refine Below.alloc ?_ ?_ _|refine Below.setCell ?_ ?_ _)|omega|(simp;done)|(simp;omega)))⟩
open Go.RowKit Go.St
theorem B7i (s:D8) (f:Int) (cs:List Value) (ok:Nat→Prop) (w:World) (h:E8.rep ok w cs s):
  Calls Try.prog 22 #[.agg cs.toArray,.int .i64 f] w fun e w'=>e=.returned (.int .i64 (J5 s f))∧Below w.heap.size w w':=by
 obtain ⟨ra,rc,sa,sc,rfl,hr,hs⟩:=h
 obtain ⟨rs,ss⟩:=s
 dsimp only at *
 have hsx:=hs.len_le
 have hst:Hid (J5 ⟨rs,ss⟩ f=J5 ⟨rs,ss.drop 0⟩ f):=rfl
 have HSTP:Hid (∀ (j:Nat) (x:J0),ss[j]? =some x→J5 ⟨rs,ss.drop j⟩ f=if x.flow=f then x.ver else J5 ⟨rs,ss.drop (j+1)⟩ f):=fun j x hx=>B37 hx
 have HEND:Hid (∀ j:Nat,ss.length≤j→J5 ⟨rs,ss.drop j⟩ f=0):=fun j hj=>B43 hj
 generalize J5 ⟨rs,ss⟩ f=c at *
 go_enter Try.func22,Try.ntmps22
 go_wp2
 go_loopw [6,10] (fun _ i wr=>∃ j:Nat,j≤ss.length∧i=.int .i64 j∧Hid (c=J5 ⟨rs,ss.drop j⟩ f)∧Below w.heap.size w wr) (fun _ i _=>ss.length - (intOf i).toNat)
 case atStart=>exact ⟨0,Nat.zero_le _,rfl,hst,by (repeat' (first|with_reducible (first|exact Below.refl _ _|assumption|refine Below.drew ?_|refine A3 ?_ _|refine Below.alloc ?_ ?_ _|refine Below.setCell ?_ ?_ _)|omega|(simp;done)|(simp;omega)))⟩
 case round=>
  clear hst
  obtain ⟨j,hj,rfl,hS,hb⟩:=hrel
  rename World=>wo
  by_cases hlt:j<ss.length
  case neg=>
   have HE:Hid (c=0):=by show _=_;rw [hS.out,HEND.out j (by omega)]
   have b1:¬(j:Int)<(ss.length:Int):=by omega
   clear hS
   go_wp2
   go_ret;exact ⟨I0 HE.out.symm,by (repeat' (first|with_reducible (first|exact Below.refl _ _|assumption|refine Below.drew ?_|refine A3 ?_ _|refine Below.alloc ?_ ?_ _|refine Below.setCell ?_ ?_ _)|omega|(simp;done)|(simp;omega)))⟩
  obtain ⟨x,hx⟩:∃ x,ss[j]? =some x:=⟨_,List.getElem?_eq_getElem hlt⟩
  obtain ⟨b,off,rfl,hbl,hri,hce⟩:=hs.stamps hx
  obtain ⟨e0,e1⟩:=hce _ hb
  have hE:=HSTP.out j x hx
  have b0:(0:Int)≤(j:Int):=by omega
  have b1:(j:Int)<(ss.length:Int):=by omega
  have hzz:=hb.size
  by_cases h1:x.flow=f
  ·rw [if_pos h1] at hE
   have HE:Hid (c=x.ver):=by show _=_;rw [hS.out,hE]
   have p1:(x.flow==f)=true:=by simpa using h1
   clear hS hE h1 hce hx
   go_wp2
   go_ret;exact ⟨I0 HE.out.symm,by (repeat' (first|with_reducible (first|exact Below.refl _ _|assumption|refine Below.drew ?_|refine A3 ?_ _|refine Below.alloc ?_ ?_ _|refine Below.setCell ?_ ?_ _)|omega|(simp;done)|(simp;omega)))⟩
  ·rw [if_neg h1] at hE
   have HE:Hid (c=J5 ⟨rs,ss.drop (j+1)⟩ f):=by show _=_;rw [hS.out,hE]
   have p1:(x.flow==f)=false:=by simpa using h1
   clear hS hE h1 hce hx
   go_wp2
   go_roundw
   case rel=>exact ⟨j+1,by omega,by go_num,HE,by (repeat' (first|with_reducible (first|exact Below.refl _ _|assumption|refine Below.drew ?_|refine A3 ?_ _|refine Below.alloc ?_ ?_ _|refine Below.setCell ?_ ?_ _)|omega|(simp;done)|(simp;omega)))⟩
   case measure=>simp [intOf]<;>omega
open Go.RowKit Go.St
theorem B7r {k n v:Int} {rs:List C1} {fs:List Int} {k' n' v':Int} {rs':List C1} {fs':List Int}:
  (decide ((⟨k,n,v,rs,fs⟩:G3)=⟨k',n',v',rs',fs'⟩))=(k==k' && (n==n' && (v==v' && (rs==rs' && fs==fs')))):=by
 rw [Bool.eq_iff_iff]
 simp [G3.mk.injEq]
theorem B6r (x y:G3) (cs ds:List Value) (ok ok':Nat→Prop) (w:World) (hx:E3.rep ok w cs x) (hy:E3.rep ok' w ds y):
  Calls Try.prog 33 #[.agg cs.toArray,.agg ds.toArray] w fun e w'=>e=.returned (.bool (decide (x=y)))∧Below w.heap.size w w':=by
 obtain ⟨ra,rc,fa,fc,rfl,_,_,_,hr,hf⟩:=hx
 obtain ⟨ra',rc',fa',fc',rfl,_,_,_,hr',hf'⟩:=hy
 obtain ⟨k,n,v,rs,fs⟩:=x
 obtain ⟨k',n',v',rs',fs'⟩:=y
 dsimp only at *
 rw [B7r]
 by_cases h1:k=k'
 case neg=>
  have h1':(k==k')=false:=by rw [beq_eq_false_iff_ne];exact h1
  rw [h1',Bool.false_and]
  clear h1
  go_enter Try.func33,Try.ntmps33
  go_wp2
  go_ret;exact ⟨rfl,by (repeat' (first|with_reducible (first|exact Below.refl _ _|assumption|refine Below.drew ?_|refine A3 ?_ _|refine Below.alloc ?_ ?_ _|refine Below.setCell ?_ ?_ _)|omega|(simp;done)|(simp;omega)))⟩
 subst h1
 by_cases h2:n=n'
 case neg=>
  have h2':(n==n')=false:=by rw [beq_eq_false_iff_ne];exact h2
  rw [h2',Bool.false_and,Bool.and_false]
  clear h2
  go_enter Try.func33,Try.ntmps33
  go_wp2
  go_ret;exact ⟨rfl,by (repeat' (first|with_reducible (first|exact Below.refl _ _|assumption|refine Below.drew ?_|refine A3 ?_ _|refine Below.alloc ?_ ?_ _|refine Below.setCell ?_ ?_ _)|omega|(simp;done)|(simp;omega)))⟩
 subst h2
 by_cases h3:v=v'
 case neg=>
  have h3':(v==v')=false:=by rw [beq_eq_false_iff_ne];exact h3
  rw [h3',Bool.false_and,Bool.and_false,Bool.and_false]
  clear h3
  go_enter Try.func33,Try.ntmps33
  go_wp2
  go_ret;exact ⟨rfl,by (repeat' (first|with_reducible (first|exact Below.refl _ _|assumption|refine Below.drew ?_|refine A3 ?_ _|refine Below.alloc ?_ ?_ _|refine Below.setCell ?_ ?_ _)|omega|(simp;done)|(simp;omega)))⟩
 subst h3
 simp only [beq_self_eq_true,Bool.true_and]
 go_enter Try.func33,Try.ntmps33
 go_wp2_with fail
 refine (B8n rs rs' ok ok' ra ra' rc rc' _ ?_ ?_).mono ?_
 ·exact hr.below (by (repeat' (first|with_reducible (first|exact Below.refl _ _|assumption|refine Below.drew ?_|refine A3 ?_ _|refine Below.alloc ?_ ?_ _|refine Below.setCell ?_ ?_ _)|omega|(simp;done)|(simp;omega))))
 ·exact hr'.below (by (repeat' (first|with_reducible (first|exact Below.refl _ _|assumption|refine Below.drew ?_|refine A3 ?_ _|refine Below.alloc ?_ ?_ _|refine Below.setCell ?_ ?_ _)|omega|(simp;done)|(simp;omega))))
 rintro e w1 ⟨rfl,hb1⟩
 obtain ⟨q1,q2⟩:=B84 hb1
 cases hrr:(rs==rs')
 ·have hB:Below w.heap.size w w1:=Below.trans (by (repeat' (first|with_reducible (first|exact Below.refl _ _|assumption|refine Below.drew ?_|refine A3 ?_ _|refine Below.alloc ?_ ?_ _|refine Below.setCell ?_ ?_ _)|omega|(simp;done)|(simp;omega)))) (hb1.mono (by simp;omega))
  have HR:=Lib.hid hrr
  clear hr hr' hf hf' hb1 hrr
  go_wp2
  go_ret;exact ⟨N2 (by rw [HR.out];rfl),by (repeat' (first|with_reducible (first|exact Below.refl _ _|assumption|refine Below.drew ?_|refine A3 ?_ _|refine Below.alloc ?_ ?_ _|refine Below.setCell ?_ ?_ _)|omega|(simp;done)|(simp;omega)))⟩
 ·have HR:=Lib.hid hrr
  clear hrr
  go_wp2_with fail
  refine (B1y fs fs' ok ok' fa fa' fc fc' _ ?_ ?_).mono ?_
  ·exact hf.below (Below.trans (by (repeat' (first|with_reducible (first|exact Below.refl _ _|assumption|refine Below.drew ?_|refine A3 ?_ _|refine Below.alloc ?_ ?_ _|refine Below.setCell ?_ ?_ _)|omega|(simp;done)|(simp;omega)))) (hb1.mono (by simp;omega)))
  ·exact hf'.below (Below.trans (by (repeat' (first|with_reducible (first|exact Below.refl _ _|assumption|refine Below.drew ?_|refine A3 ?_ _|refine Below.alloc ?_ ?_ _|refine Below.setCell ?_ ?_ _)|omega|(simp;done)|(simp;omega)))) (hb1.mono (by simp;omega)))
  rintro e w2 ⟨rfl,hb2⟩
  have hB:Below w.heap.size w w2:=Below.trans (Below.trans (by (repeat' (first|with_reducible (first|exact Below.refl _ _|assumption|refine Below.drew ?_|refine A3 ?_ _|refine Below.alloc ?_ ?_ _|refine Below.setCell ?_ ?_ _)|omega|(simp;done)|(simp;omega)))) (hb1.mono (by simp;omega))) (hb2.mono (by have:=hb1.size;simp at this;omega))
  clear hr hr' hf hf' hb1 hb2
  go_wp2
  go_ret;exact ⟨N2 (by rw [HR.out];simp),by (repeat' (first|with_reducible (first|exact Below.refl _ _|assumption|refine Below.drew ?_|refine A3 ?_ _|refine Below.alloc ?_ ?_ _|refine Below.setCell ?_ ?_ _)|omega|(simp;done)|(simp;omega)))⟩
open Go.RowKit Go.St
theorem B7c (c:Ctl) (cs ds:List Value) (ok ok':Nat→Prop) (w:World) (hx:P3.rep ok w cs c) (hy:P3.rep ok' w ds c):
  Calls Try.prog 31 #[.agg cs.toArray,.agg ds.toArray] w fun e w'=>e=.returned (.bool true)∧Below w.heap.size w w':=by
 obtain ⟨n0,n1,n2,x0,x1,x2,wa,wc,rfl,hst,hnu,hn,hx,hw⟩:=P3.open_ hx
 obtain ⟨m0,m1,m2,y0,y1,y2,va,vc,rfl,_,_,hm,hy,hv⟩:=P3.open_ hy
 obtain ⟨cst,cnow,cnext,cnum,cws⟩:=c
 dsimp only at *
 have hb0:Below w.heap.size w ((w.alloc (.cells #[.int .i64 cst,n0,n1,n2,x0,x1,x2,.int .i64 cnum,.slice wa cws.length wc] 33)).alloc (.cells #[.int .i64 cst,m0,m1,m2,y0,y1,y2,.int .i64 cnum,.slice va cws.length vc] 33)):=A1t _ _ _
 have hA0:A6 ((w.alloc (.cells #[.int .i64 cst,n0,n1,n2,x0,x1,x2,.int .i64 cnum,.slice wa cws.length wc] 33)).alloc (.cells #[.int .i64 cst,m0,m1,m2,y0,y1,y2,.int .i64 cnum,.slice va cws.length vc] 33)) w.heap.size 33 #[.int .i64 cst,n0,n1,n2,x0,x1,x2,.int .i64 cnum,.slice wa cws.length wc]:=(A6.new rfl).alloc _
 have hB0:A6 ((w.alloc (.cells #[.int .i64 cst,n0,n1,n2,x0,x1,x2,.int .i64 cnum,.slice wa cws.length wc] 33)).alloc (.cells #[.int .i64 cst,m0,m1,m2,y0,y1,y2,.int .i64 cnum,.slice va cws.length vc] 33)) (w.heap.size+1) 33 #[.int .i64 cst,m0,m1,m2,y0,y1,y2,.int .i64 cnum,.slice va cws.length vc]:=A6.new (by simp)
 obtain ⟨lx0,lx1,lx2⟩:=hx.one
 obtain ⟨ln0,ln1,ln2⟩:=hn.one
 obtain ⟨ly0,ly1,ly2⟩:=hy.one
 obtain ⟨lm0,lm1,lm2⟩:=hm.one
 have hnN:=fun (w':World) (hb:Below w.heap.size w w')=>B8t cnow _ _ _ _ w' (C3.below hn hb) (C3.below hm hb)
 have hnX:=fun (w':World) (hb:Below w.heap.size w w')=>B8t cnext _ _ _ _ w' (C3.below hx hb) (C3.below hy hb)
 have hnW:=fun (w':World) (hb:Below w.heap.size w w')=>B1y cws cws _ _ wa va wc vc w' (hw.below hb) (hv.below hb)
 rw [show (cws==cws)=true by simp] at hnW
 have HN:=Lib.hid hnN
 have HX:=Lib.hid hnX
 have HW:=Lib.hid hnW
 clear hnN hnX hnW hn hx hm hy hw hv
 go_enter Try.func31,Try.ntmps31
 go_wp2_with fail
 generalize ((w.alloc (.cells #[.int .i64 cst,n0,n1,n2,x0,x1,x2,.int .i64 cnum,.slice wa cws.length wc] 33)).alloc (.cells #[.int .i64 cst,m0,m1,m2,y0,y1,y2,.int .i64 cnum,.slice va cws.length vc] 33))=w0 at *
 refine (HN.out w0 hb0).mono ?_
 rintro e w1 ⟨rfl,hb1⟩
 have hB1:=hb0.trans (hb1.mono hb0.size)
 have hA1:=hA0.under hb1
 have hC1:=hB0.under hb1
 obtain ⟨a1,a2⟩:=hA1.cells
 obtain ⟨c1,c2⟩:=hC1.cells
 clear hA0 hB0 hb0 hb1 HN
 go_wp2_with fail
 refine (HX.out w1 hB1).mono ?_
 rintro e w2 ⟨rfl,hb2⟩
 have hB2:=hB1.trans (hb2.mono hB1.size)
 have hA2:=hA1.under hb2
 have hC2:=hC1.under hb2
 clear a1 a2 c1 c2 hA1 hC1 hB1 hb2 HX
 obtain ⟨a1,a2⟩:=hA2.cells
 obtain ⟨c1,c2⟩:=hC2.cells
 go_wp2_with fail
 refine (HW.out w2 hB2).mono ?_
 rintro e w3 ⟨rfl,hb3⟩
 have hB3:=hB2.trans (hb3.mono hB2.size)
 go_wp2
 go_ret;exact ⟨rfl,hB3⟩
end Go.Proofs.Ytpfmolaebloipaa
namespace Go.St
open Go.RowKit
theorem B7j {a b:List C1} {x y:List J0}:decide ((⟨a,x⟩:D8)=⟨b,y⟩)=(a==b && x==y):=by
 rw [Bool.eq_iff_iff];simp [D8.mk.injEq]
end Go.St
namespace Go.Proofs.Ytpfmolaebloipaa
open Go.RowKit Go.St
theorem B7l (x y:J0) (w:World):(binOp .neq 75 (.agg #[.int .i64 x.flow,.int .i64 x.ver]) (.agg #[.int .i64 y.flow,.int .i64 y.ver])).run Try.prog w=.ok (.bool (!decide (x=y))) w:=by
 obtain ⟨a,b⟩:=x
 obtain ⟨d,e⟩:=y
 rw [run_neq_struct,run_equalIn_agg _ _ _ _ _ (by kernel_rfl) (by kernel_rfl)]
 by_cases h1:a=d<;>by_cases h2:b=e<;>simp [go_sem,h1,h2,J0.mk.injEq]
theorem B6l (x y : D8) (cs ds : List Value) (ok ok' : Nat → Prop) (w : World) (hx : E8.rep ok w cs x) (hy : E8.rep ok' w ds y) :
    Calls Try.prog 32 #[.agg cs.toArray, .agg ds.toArray] w fun e w' => e = .returned (.bool (decide (x = y))) ∧ Below w.heap.size w w' := by
  have q1 : Try.prog.eqGuardType Try.prog.depth 75 = false := by kernel_rfl
  obtain ⟨ra, rc, sa, sc, rfl, hr, hs⟩ := hx
  obtain ⟨ra', rc', sa', sc', rfl, hr', hs'⟩ := hy
  obtain ⟨xr, xs⟩ := x
  obtain ⟨yr, ys⟩ := y
  dsimp only at *
  rw [B7j]
  have HR1 : Hid (xr ≠ yr → (xr == yr && xs == ys) = false) := fun h => by have : (xr == yr) = false := by simpa using h
                                                                           rw [this]; rfl
  have HR2 : Hid (xs.length ≠ ys.length → (xr == yr && xs == ys) = false) := fun h => by rw [A6a h]; simp
  have HR3 : Hid (xr = yr → (xr == yr && xs == ys) = (xs == ys)) := fun h => by subst h; simp
  generalize hres : (xr == yr && xs == ys) = res at *
  have HRES := Lib.hid hres
  clear hres
  have hsx := hs.len_le
  have hsx' := hs'.len_le
  have hb0 : Below w.heap.size w ((w.alloc (.cells #[.slice ra xr.length rc, .slice sa xs.length sc] 60)).alloc (.cells #[.slice ra' yr.length rc', .slice sa' ys.length sc'] 60)) := A1t _ _ _
  have hX0 : A6 ((w.alloc (.cells #[.slice ra xr.length rc, .slice sa xs.length sc] 60)).alloc (.cells #[.slice ra' yr.length rc', .slice sa' ys.length sc'] 60)) w.heap.size 60 #[.slice ra xr.length rc, .slice sa xs.length sc] := (A6.new rfl).alloc _
  have hY0 : A6 ((w.alloc (.cells #[.slice ra xr.length rc, .slice sa xs.length sc] 60)).alloc (.cells #[.slice ra' yr.length rc', .slice sa' ys.length sc'] 60)) (w.heap.size + 1) 60 #[.slice ra' yr.length rc', .slice sa' ys.length sc'] := A6.new (by simp)
  have hSR := B8n xr yr ok ok' ra ra' rc rc' _ (hr.below hb0) (hr'.below hb0)
  have HSR := Lib.hid hSR
  clear hSR
  go_enter Try.func32, Try.ntmps32
  go_wp2_with fail
  refine HSR.out.mono ?_
  rintro e w1 ⟨rfl, hb1⟩
  have hB1 : Below w.heap.size w w1 := hb0.trans (hb1.mono hb0.size)
  have hX1 := hX0.under hb1
  have hY1 := hY0.under hb1
  obtain ⟨x1, x2⟩ := hX1.cells
  obtain ⟨y1, y2⟩ := hY1.cells
  have hl1 := hY1.lt
  clear HSR hb0 hb1 hX0 hY0
  by_cases h1 : xr = yr
  case neg =>
    have h1' : (xr == yr) = false := by simpa using h1
    have HE := Lib.hid (HR1.out h1)
    rw [h1']
    clear h1 h1' HR1 HR2 HR3 HRES
    go_wp2
    go_ret; exact ⟨N2 HE.out.symm, hB1⟩
  subst h1
  have hst0 := HR3.out rfl
  have HST0 := Lib.hid hst0
  clear hst0 HR1 HR3 HRES
  rw [show (xr == xr) = true by simp]
  by_cases hl : xs.length = ys.length
  case neg =>
    have hl' : ((xs.length : Int) != (ys.length : Int)) = true := by rw [bne_iff_ne]; omega
    have HE := Lib.hid (HR2.out hl)
    clear hl HR2
    go_wp2
    go_ret; exact ⟨N2 HE.out.symm, hB1⟩
  have hl' : ((xs.length : Int) != (ys.length : Int)) = false := by rw [bne_eq_false_iff_eq]; omega
  have HL := Lib.hid hl
  have hst : Hid (res = R5 xs ys 0) := by show _ = _; rw [HST0.out]; exact A4a _ _
  have HSG : Hid (∀ j (h1 : j < xs.length) (h2 : j < ys.length), res = R5 xs ys j → xs[j] = ys[j] → res = R5 xs ys (j + 1)) := fun j h1 h2 h3 h4 => by rw [HST0.out] at h3 ⊢; exact A5a h1 h2 h3 h4
  have HSB : Hid (∀ j (h1 : j < xs.length) (h2 : j < ys.length), res = R5 xs ys j → xs[j] ≠ ys[j] → res = false) := fun j h1 h2 h3 h4 => by rw [HST0.out] at h3 ⊢; exact A6u h1 h2 h3 h4
  have HSE : Hid (∀ j, j = xs.length → j = ys.length → res = R5 xs ys j → true = res) := fun j h1 h2 h3 => by rw [HST0.out] at h3 ⊢; exact A6n h1 h2 h3
  clear hl HR2 HST0
  go_wp2
  go_loopw [5, 24] (fun _ i wr => ∃ j : Nat, j ≤ xs.length ∧ i = .int .i64 j ∧ Hid (res = R5 xs ys j) ∧ Below w1.heap.size w1 wr) (fun _ i _ => xs.length - (intOf i).toNat)
  case atStart => exact ⟨0, Nat.zero_le _, rfl, hst, Below.refl _ _⟩
  case round =>
    clear hst x1 x2 y1 y2 hl1
    obtain ⟨j, hj, rfl, hall, hb⟩ := hrel
    rename World => wo
    have hB : Below w.heap.size w wo := hB1.trans (hb.mono hB1.size)
    obtain ⟨x1, x2⟩ := (hX1.under hb).cells
    obtain ⟨y1, y2⟩ := (hY1.under hb).cells
    by_cases hlt : j < xs.length
    case neg =>
      have b1 : ¬ (j : Int) < (xs.length : Int) := by omega
      have HE := Lib.hid (HSE.out j (by omega) (by have := HL.out; omega) hall.out)
      clear hall
      go_wp2
      go_ret; exact ⟨N2 HE.out, by (repeat' (first | with_reducible (first | exact Below.refl _ _ | assumption | refine Below.drew ?_ | refine A3 ?_ _ | refine Below.alloc ?_ ?_ _ | refine Below.setCell ?_ ?_ _) | omega | (simp; done) | (simp; omega)))⟩
    have hlt2 : j < ys.length := by have := HL.out; omega
    obtain ⟨b, off, rfl, hbl, _, hce⟩ := hs.stamps (List.getElem?_eq_getElem hlt)
    obtain ⟨e0, e1⟩ := hce _ hB
    obtain ⟨b', off', rfl, hbl', _, hce'⟩ := hs'.stamps (List.getElem?_eq_getElem hlt2)
    obtain ⟨d0, d1⟩ := hce' _ hB
    have b0 : (0 : Int) ≤ (j : Int) := by omega
    have b1 : (j : Int) < (xs.length : Int) := by omega
    have b2 : (j : Int) < (ys.length : Int) := by omega
    have hq := B7l xs[j] ys[j]
    have HG : Hid (xs[j] = ys[j] → res = R5 xs ys (j + 1)) := fun h => HSG.out j hlt hlt2 hall.out h
    have HBD : Hid (xs[j] ≠ ys[j] → res = false) := fun h => HSB.out j hlt hlt2 hall.out h
    have hzo := hb.size
    clear hall hce hce' hj
    generalize xs[j] = x at *
    generalize ys[j] = y at *
    by_cases hxy : x = y
    · subst hxy
      rw [decide_eq_true rfl] at hq
      have HM := Lib.hid (HG.out rfl)
      clear HG HBD
      go_wp2
      go_quiet (fail)
      go_wp2
      case roundEnd =>
        go_roundw
        case rel => exact ⟨j + 1, by omega, by go_num, HM, by (repeat' (first | with_reducible (first | exact Below.refl _ _ | assumption | refine Below.drew ?_ | refine A3 ?_ _ | refine Below.alloc ?_ ?_ _ | refine Below.setCell ?_ ?_ _) | omega | (simp; done) | (simp; omega)))⟩
        case measure => simp [intOf] <;> omega
    · rw [decide_eq_false hxy] at hq
      have HM := Lib.hid (HBD.out hxy)
      clear HG HBD
      go_wp2
      go_quiet (fail)
      go_wp2
      go_ret; exact ⟨N2 HM.out.symm, by (repeat' (first | with_reducible (first | exact Below.refl _ _ | assumption | refine Below.drew ?_ | refine A3 ?_ _ | refine Below.alloc ?_ ?_ _ | refine Below.setCell ?_ ?_ _) | omega | (simp; done) | (simp; omega)))⟩
end Go.Proofs.Ytpfmolaebloipaa
namespace Go.St
open Go.RowKit
theorem B62 {f:Nat→List Do} (h:∀ s,(f s).length≤2):∀ l:List Nat,(l.flatMap f).length≤2 * l.length
 |[]=>Nat.zero_le _
 |a::l=>by
  rw [List.flatMap_cons,List.length_append,List.length_cons]
  have:=h a
  have:=B62 h l
  omega
theorem B7h {t:C5} {n:Net} (h:G7 t n):(B87 n).length≤2 * t.n.toNat:=by
 obtain ⟨p0,p,a,b,o,st,h⟩:=h
 rw [h.round]
 have hp2:∀ s,(B8d s (st s)).length≤2:=fun s=>by
  unfold B8d
  split
  ·simp
  ·split<;>simp
 have:=B62 hp2 (List.range t.n.toNat)
 rwa [List.length_range] at this
theorem B93 {t:C5} (ht:(B6 t).1=0):∀ (k:Nat) (l:List Do),l.length+16 * B8r (D5 t (D3 t) l).1≤200→(B8f t k l).length≤l.length+16 * B8r (D5 t (D3 t) l).1
 |0,l,_=>Nat.le_add_right _ _
 |k+1,l,hl=>by
  have hll:l.length≤200:=by omega
  obtain ⟨hok,hfit⟩:=A3r ht hll
  have h8:=(J8 ht).1.2.1
  have hrl:=B7h hok
  unfold B8f
  rw [W2 ht hll]
  dsimp only
  split
  ·omega
  ·rename_i he
   have hR:=B68 ht hok hfit (by omega) he
   have e:(D5 t (D3 t) (l++B87 (D5 t (D3 t) l).1)).1=(D5 t (D5 t (D3 t) l).1 (B87 (D5 t (D3 t) l).1)).1:=by rw [A3g]
   have hlen:(l++B87 (D5 t (D3 t) l).1).length≤l.length+16:=by rw [List.length_append];omega
   have hls:=hR.less
   have ih:=B93 ht k (l++B87 (D5 t (D3 t) l).1) (by rw [e];omega)
   rw [e] at ih
   omega
theorem B7d {t:C5} (ht:(B6 t).1=0) {l:List Do} (hl:l.length≤168):(B85 t l).length≤l.length+32:=by
 have h2:=B6x (D5 t (D3 t) l).1
 have:=B93 ht 10 l (by omega)
 unfold B85
 omega
end Go.St
