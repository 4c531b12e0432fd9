/- Texts of this proof, one behind the other. -/
import Derived.Test.YtampcbncgofkoaaGreatDoorPk24
import Derived.Test.YtampcbncgofkoaaGreatDoorPk22
import Derived.Test.YtampcbncgofkoaaGreatDoorPk21
import Derived.Laws.CopyRow
set_option linter.unusedSimpArgs false
set_option linter.unusedVariables false
set_option maxRecDepth 100000
set_option maxHeartbeats 16000000
namespace Go.St
open Go.RowKit
theorem B4i {ok:Nat→Prop} {w:World} {f:E0} {va na:Option Addr} {vc nc:Nat} {e:TypeId} {cap:Nat} (h1:I64 f.src) (h2:I64 f.dst) (hv:A8 C2 ok w va vc f.via) (hn:A8 C2 ok w na nc f.no):
    A8 H6 (fun b=>ok b∨b=w.heap.size) (w.alloc (.cells #[.int .i64 f.src,.int .i64 f.dst,.slice va f.via.length vc,.slice na f.no.length nc] e)) (some ⟨w.heap.size,0,none⟩) 1 [f]:=by
  refine ⟨by simp,by decide,.inr ⟨w.heap.size,0,rfl,.inr rfl,by simp,?_⟩⟩
  intro i x hx
  cases i with
  |zero=>
    simp at hx
    subst hx
    have hk:∀ b,b<w.heap.size→ok b→(ok b∨b=w.heap.size)∧(w.alloc (.cells #[.int .i64 f.src,.int .i64 f.dst,.slice va f.via.length vc,.slice na f.no.length nc] e)).heap[b]? =w.heap[b]? :=fun b hb ho=>⟨.inl ho,((Below.refl w.heap.size w).alloc (Nat.le_refl _) _).block b hb⟩
    refine ⟨_,⟨va,vc,na,nc,rfl,h1,h2,hv.mono hk,hn.mono hk⟩,fun j c hc=>?_⟩
    simp only [Nat.zero_mul,Nat.zero_add]
    rw [World.cell?_alloc_new]
    simpa using hc
  |succ i=>simp at hx
theorem B45 {w:World} {x:Int} {e:TypeId} (h:I64 x) (s:Nat) (hs:s≠w.heap.size):A8 C2 (fun b=>b≠s) (w.alloc (.cells #[.int .i64 x] e)) (some ⟨w.heap.size,0,none⟩) 1 [x]:=by
  refine ⟨by simp,by decide,.inr ⟨w.heap.size,0,rfl,fun e=>hs e.symm,by simp,?_⟩⟩
  intro i y hy
  cases i with
  |zero=>
    simp at hy
    subst hy
    refine ⟨_,⟨rfl,h⟩,fun j c hc=>?_⟩
    simp only [Nat.zero_mul,Nat.zero_add]
    rw [World.cell?_alloc_new]
    simpa using hc
  |succ i=>simp at hy
end Go.St
namespace Go.Proofs.YtampcbncgofkoaaGreatDoor
open Go.RowKit Go.St
theorem B5e (t:C5) (f:E0) (cs ds:List Value) (ok ok':Nat→Prop) (w:World) (h:I5.rep ok w cs t) (hf:H6.rep ok' w ds f):
  Calls Tryz.prog 15 #[.agg cs.toArray,.agg ds.toArray] w fun e w'=>∃ ao cap,e=.returned (.tuple #[.slice ao (I1 t f).1.length cap,.int .i64 (I1 t f).2])∧A8 C2 (fun b=>w.heap.size≤b) w' ao cap (I1 t f).1∧Below w.heap.size w w':=by
 have hT:=h
 obtain ⟨la,lc,rfl,hn,hr⟩:=h
 obtain ⟨va,vc,na,nc,rfl,hs,hd,hv,hno⟩:=id hf
 have hnil:=O7 (P:=Tryz.prog) 72 3 Tryz.underlying72
 go_enter Tryz.func15,Tryz.ntmps15
 go_wp2_with fail
 refine (T9 t _ ok _ (I5.below hT (by (repeat' (first|with_reducible (first|exact Below.refl _ _|assumption|refine Below.drew ?_|refine A3 ?_ _|refine Below.alloc ?_ ?_ _|refine Below.setCell ?_ ?_ _)|omega|(simp;done)|(simp;omega)))))).mono ?_
 rintro e w1 ⟨rfl,hb1⟩
 have hB1:Below w.heap.size w w1:=Below.trans (by (repeat' (first|with_reducible (first|exact Below.refl _ _|assumption|refine Below.drew ?_|refine A3 ?_ _|refine Below.alloc ?_ ?_ _|refine Below.setCell ?_ ?_ _)|omega|(simp;done)|(simp;omega)))) (hb1.mono (by simp;omega))
 have hT1:A6 w1 w.heap.size 24 #[.int .i64 t.n,.slice la t.links.length lc]:=((A6.new rfl).alloc _).under hb1
 have hF1:A6 w1 (w.heap.size+1) 56 #[.int .i64 f.src,.int .i64 f.dst,.slice va f.via.length vc,.slice na f.no.length nc]:=(A6.new (by simp)).under hb1
 obtain ⟨t1,t2⟩:=hT1.cells
 obtain ⟨f1,f2⟩:=hF1.cells
 have hz1:=hF1.lt
 have hz0:=hT1.lt
 clear hb1
 by_cases h1:(B6 t).1=0
 case neg=>
  have hfo:Hid (I1 t f=([],(B6 t).1)):=by show _=_;unfold I1;rw [if_pos h1]
  have h1':((B6 t).1 !=0)=true:=by rw [bne_iff_ne];exact h1
  clear h1
  go_wp2
  go_quiet (fail)
  go_wp2
  go_ret2
  rw [hfo.out]
  exact ⟨none,0,rfl,A8.nil _ _ _ _,by (repeat' (first|with_reducible (first|exact Below.refl _ _|assumption|refine Below.drew ?_|refine A3 ?_ _|refine Below.alloc ?_ ?_ _|refine Below.setCell ?_ ?_ _)|omega|(simp;done)|(simp;omega)))⟩
 have h1':((B6 t).1 !=0)=false:=by rw [bne_eq_false_iff_eq];exact h1
 have hrow1:A8 H6 (fun _=>True) ((w1.alloc (.cells #[.int .i64 0,.int .i64 (B6 t).2] 29)).alloc (.cells #[.int .i64 f.src,.int .i64 f.dst,.slice va f.via.length vc,.slice na f.no.length nc] 56)) (some ⟨w1.heap.size+1,0,none⟩) 1 [f]:=by
  have:=B4i (w:=w1.alloc (.cells #[.int .i64 0,.int .i64 (B6 t).2] 29)) (e:=56) (cap:=1) hs hd (hv.below (by (repeat' (first|with_reducible (first|exact Below.refl _ _|assumption|refine Below.drew ?_|refine A3 ?_ _|refine Below.alloc ?_ ?_ _|refine Below.setCell ?_ ?_ _)|omega|(simp;done)|(simp;omega))))) (hno.below (by (repeat' (first|with_reducible (first|exact Below.refl _ _|assumption|refine Below.drew ?_|refine A3 ?_ _|refine Below.alloc ?_ ?_ _|refine Below.setCell ?_ ?_ _)|omega|(simp;done)|(simp;omega)))))
  rw [show (w1.alloc (.cells #[.int .i64 0,.int .i64 (B6 t).2] 29)).heap.size=w1.heap.size+1 by simp] at this
  exact this.mono fun b hb _=>⟨trivial,rfl⟩
 have hW:=A2h [f] t.n (fun _=>True) _ 1 _ hrow1
 simp only [List.length_cons,List.length_nil,Nat.zero_add] at hW
 rw [←h1] at hrow1
 have HW:=Lib.hid hW
 clear hW hrow1
 go_wp2_with fail
 refine HW.out.mono ?_
 rintro e w2 ⟨rfl,hb2⟩
 clear HW
 have hB2:Below w.heap.size w w2:=Below.trans (by (repeat' (first|with_reducible (first|exact Below.refl _ _|assumption|refine Below.drew ?_|refine A3 ?_ _|refine Below.alloc ?_ ?_ _|refine Below.setCell ?_ ?_ _)|omega|(simp;done)|(simp;omega)))) (hb2.mono (by simp;omega))
 have hT2:A6 w2 w.heap.size 24 #[.int .i64 t.n,.slice la t.links.length lc]:=((hT1.alloc _).alloc _).under hb2
 have hF2:A6 w2 (w.heap.size+1) 56 #[.int .i64 f.src,.int .i64 f.dst,.slice va f.via.length vc,.slice na f.no.length nc]:=((hF1.alloc _).alloc _).under hb2
 clear t1 t2 f1 f2 hb2 hT1 hF1
 obtain ⟨t1,t2⟩:=hT2.cells
 obtain ⟨f1,f2⟩:=hF2.cells
 have hy1:=hF2.lt
 have hy0:=hT2.lt
 by_cases h2:(D0 [f] t.n).1=0
 case neg=>
  have hfo:Hid (I1 t f=([],(D0 [f] t.n).1)):=by show _=_;unfold I1;rw [if_neg (by simp [h1]),if_pos h2]
  have h2':((D0 [f] t.n).1 !=0)=true:=by rw [bne_iff_ne];exact h2
  clear h2
  go_wp2
  go_quiet (fail)
  go_wp2
  go_ret2
  rw [hfo.out]
  exact ⟨none,0,rfl,A8.nil _ _ _ _,by (repeat' (first|with_reducible (first|exact Below.refl _ _|assumption|refine Below.drew ?_|refine A3 ?_ _|refine Below.alloc ?_ ?_ _|refine Below.setCell ?_ ?_ _)|omega|(simp;done)|(simp;omega)))⟩
 have h2':((D0 [f] t.n).1 !=0)=false:=by rw [bne_eq_false_iff_eq];exact h2
 have hfo:Hid (I1 t f=(match (onS t f 9 [f.src] 0 0 (none,0)).1 with|none=>([],9)|some p=>(p,0))):=by show _=_;unfold I1;rw [if_neg (by simp [h1]),if_neg (by simp [h2])];rfl
 have hfl:=A02 (A9g▸h2)
 obtain ⟨⟨n1,n8,_⟩,_⟩:=J8 h1
 have hcr:=A1q h1
 have hvl:=A2m hfl
 have hW3:Below w.heap.size w (((w2.alloc (.cells #[.int .i64 0,.int .i64 (D0 [f] t.n).2] 29)).alloc (.cells #[.int .i64 t.n,.slice la t.links.length lc,.pointer (some ⟨w.heap.size+1,0,none⟩),.slice none 0 0,.int .i64 0] 99)).alloc (.cells #[.int .i64 f.src] 3)):=by (repeat' (first|with_reducible (first|exact Below.refl _ _|assumption|refine Below.drew ?_|refine A3 ?_ _|refine Below.alloc ?_ ?_ _|refine Below.setCell ?_ ?_ _)|omega|(simp;done)|(simp;omega)))
 have hF3:A6 (((w2.alloc (.cells #[.int .i64 0,.int .i64 (D0 [f] t.n).2] 29)).alloc (.cells #[.int .i64 t.n,.slice la t.links.length lc,.pointer (some ⟨w.heap.size+1,0,none⟩),.slice none 0 0,.int .i64 0] 99)).alloc (.cells #[.int .i64 f.src] 3)) (w.heap.size+1) 56 #[.int .i64 f.src,.int .i64 f.dst,.slice va f.via.length vc,.slice na f.no.length nc]:=((hF2.alloc _).alloc _).alloc _
 have hsz3:(((w2.alloc (.cells #[.int .i64 0,.int .i64 (D0 [f] t.n).2] 29)).alloc (.cells #[.int .i64 t.n,.slice la t.links.length lc,.pointer (some ⟨w.heap.size+1,0,none⟩),.slice none 0 0,.int .i64 0] 99)).alloc (.cells #[.int .i64 f.src] 3)).heap.size=w2.heap.size+3:=by simp
 have hin:A4i (((w2.alloc (.cells #[.int .i64 0,.int .i64 (D0 [f] t.n).2] 29)).alloc (.cells #[.int .i64 t.n,.slice la t.links.length lc,.pointer (some ⟨w.heap.size+1,0,none⟩),.slice none 0 0,.int .i64 0] 99)).alloc (.cells #[.int .i64 f.src] 3)) (w2.heap.size+1) (w.heap.size+1) 0 t f la va na lc vc nc:=
  ⟨hr.mono fun b hb _=>⟨by omega,hW3.block b hb⟩,(hF3.cells).1 0,(hF3.cells).1 1,(hF3.cells).1 2,(hF3.cells).1 3,hv.mono fun b hb _=>⟨by omega,hW3.block b hb⟩,hno.mono fun b hb _=>⟨by omega,hW3.block b hb⟩,by omega,by omega,by omega⟩
 have hbest:A1f 99 (((w2.alloc (.cells #[.int .i64 0,.int .i64 (D0 [f] t.n).2] 29)).alloc (.cells #[.int .i64 t.n,.slice la t.links.length lc,.pointer (some ⟨w.heap.size+1,0,none⟩),.slice none 0 0,.int .i64 0] 99)).alloc (.cells #[.int .i64 f.src] 3)) (w2.heap.size+1) (w.heap.size+1) 0 t.n la t.links.length lc (none,0):=⟨none,0,0,(A6.new (by simp)).alloc _,rfl,rfl,rfl⟩
 have hps:A8 C2 (fun b=>b≠w2.heap.size+1) (((w2.alloc (.cells #[.int .i64 0,.int .i64 (D0 [f] t.n).2] 29)).alloc (.cells #[.int .i64 t.n,.slice la t.links.length lc,.pointer (some ⟨w.heap.size+1,0,none⟩),.slice none 0 0,.int .i64 0] 99)).alloc (.cells #[.int .i64 f.src] 3)) (some ⟨w2.heap.size+2,0,none⟩) 1 [f.src]:=by
  have:=B45 (w:=(w2.alloc (.cells #[.int .i64 0,.int .i64 (D0 [f] t.n).2] 29)).alloc (.cells #[.int .i64 t.n,.slice la t.links.length lc,.pointer (some ⟨w.heap.size+1,0,none⟩),.slice none 0 0,.int .i64 0] 99)) (e:=3) hs (w2.heap.size+1) (by simp)
  rwa [show ((w2.alloc (.cells #[.int .i64 0,.int .i64 (D0 [f] t.n).2] 29)).alloc (.cells #[.int .i64 t.n,.slice la t.links.length lc,.pointer (some ⟨w.heap.size+1,0,none⟩),.slice none 0 0,.int .i64 0] 99)).heap.size=w2.heap.size+2 by simp] at this
 have hO:=B5w t f (w2.heap.size+1) (w.heap.size+1) 0 la va na lc vc nc n8 hcr (by omega) 9 [f.src] 0 0 (none,0) _ _ 1 hin hbest hps (by simp) (by simp) (by intro s hs';simp at hs';subst hs';exact ⟨hfl.s0,hfl.s1⟩) (by simp;omega) (by decide) (by simp) (by simp)
 simp only [List.length_cons,List.length_nil,Nat.zero_add] at hO
 have HO:=Lib.hid hO
 clear hO hps hin hcr hvl hfl n1 n8 hv hno hr
 go_wp2_with fail
 refine HO.out.mono ?_
 rintro e w4 ⟨rfl,ho4,ba,bl,bc,hB4,hbi⟩
 have hB:Below w.heap.size w w4:=hW3.trans (ho4.below (by omega) (by omega))
 obtain ⟨z1,z2⟩:=hB4.cells
 clear HO hbest ho4 hW3 hF3 t1 t2 f1 f2
 generalize onS t f 9 [f.src] 0 0 (none,0)=st at *
 obtain ⟨so,sc⟩:=st
 cases so with
 |none=>
  obtain ⟨rfl,rfl,rfl⟩:=hbi
  dsimp only at *
  go_wp2
  go_ret2
  rw [hfo.out]
  exact ⟨none,0,rfl,A8.nil _ _ _ _,by (repeat' (first|with_reducible (first|exact Below.refl _ _|assumption|refine Below.drew ?_|refine A3 ?_ _|refine Below.alloc ?_ ?_ _|refine Below.setCell ?_ ?_ _)|omega|(simp;done)|(simp;omega)))⟩
 |some p=>
  obtain ⟨hba,rfl,hbr⟩:=hbi
  obtain ⟨ba,rfl⟩:=Option.isSome_iff_exists.1 hba
  dsimp only at *
  go_wp2
  go_ret2
  rw [hfo.out]
  exact ⟨some ba,bc,rfl,hbr.mono (fun b hb hk=>⟨by have hk':w2.heap.size+1<b:=hk;omega,rfl⟩),by (repeat' (first|with_reducible (first|exact Below.refl _ _|assumption|refine Below.drew ?_|refine A3 ?_ _|refine Below.alloc ?_ ?_ _|refine Below.setCell ?_ ?_ _)|omega|(simp;done)|(simp;omega)))⟩
end Go.Proofs.YtampcbncgofkoaaGreatDoor
namespace Go.St
def E2:F5:=⟨0,[],[]⟩
def C2c (t:C5) (v:Int) (all:List E0):Int→List (List Int)→List E0→F5 × (Int × Int)
 |_,ps,[]=>(⟨v,all,ps⟩,(0,0))
 |i,ps,f::r=>if (I1 t f).2=0 then C2c t v all (i+1) (ps++[(I1 t f).1]) r else (E2,((I1 t f).2,i))
def D2 (t:C5) (v:Int) (l:List E0):F5 × (Int × Int):=
 if (B6 t).1≠0 then (E2,B6 t) else if v<1∨1000<v then (E2,(3,0)) else if (D0 l t.n).1≠0 then (E2,D0 l t.n) else C2c t v l 0 [] l
theorem B41 {t:C5} {v:Int} {l:List E0} {j:Nat} {ps:List (List Int)} {c:F5 × (Int × Int)} {f:E0} (h:c=C2c t v l j ps (l.drop j)) (hf:l[j]? =some f) (h0:(I1 t f).2=0):
  c=C2c t v l ((j+1:Nat):Int) (ps++[(I1 t f).1]) (l.drop (j+1)):=by
 obtain ⟨hj,rfl⟩:=List.getElem?_eq_some_iff.1 hf
 rw [h,List.drop_eq_getElem_cons hj,C2c,if_pos h0]
 rfl
theorem B3h {t:C5} {v:Int} {l:List E0} {j:Nat} {ps:List (List Int)} {c:F5 × (Int × Int)} {f:E0} (h:c=C2c t v l j ps (l.drop j)) (hf:l[j]? =some f) (h0:(I1 t f).2≠0):c=(E2,((I1 t f).2,(j:Int))):=by
 obtain ⟨hj,rfl⟩:=List.getElem?_eq_some_iff.1 hf
 rw [h,List.drop_eq_getElem_cons hj,C2c,if_neg h0]
theorem B2d {t:C5} {v:Int} {l:List E0} {j:Nat} {ps:List (List Int)} {c:F5 × (Int × Int)} (h:c=C2c t v l j ps (l.drop j)) (hj:l.length≤j):c=(⟨v,l,ps⟩,(0,0)):=by
 rw [h,List.drop_of_length_le hj];rfl
open Go.RowKit
def Q6:Ctl:=⟨0,E2,E2,0,[]⟩
def up (n:Int):Int:=IntKind.i64.wrap (n+1)
def tell (s:Ctl × List To) (x:To):Ctl × List To:=
 (⟨s.1.stage,s.1.now,s.1.next,up s.1.num,s.1.waits++[up s.1.num]⟩,s.2++[⟨x.sw,⟨x.order.kind,up s.1.num,x.order.ver,x.order.rules,x.order.flows⟩⟩])
def Z0 (s:Ctl × List To) (l:List To):Ctl × List To:=l.foldl tell s
def E6 (c:Ctl) (l:List To):Ctl × List To:=Z0 (c,[]) l
theorem A5q (s:Ctl × List To):Z0 s []=s:=rfl
theorem P5 (s:Ctl × List To) (x:To) (l:List To):Z0 s (x::l)=Z0 (tell s x) l:=rfl
theorem A99 (s:Ctl × List To) (l:List To) (x:To):Z0 s (l++[x])=tell (Z0 s l) x:=by simp [Z0]
theorem W1 (l:List To):∀ (c:Ctl) (out:List To),Z0 (c,out) l=((E6 c l).1,out++(E6 c l).2):=by
 induction l with
 |nil=>intro c out;simp [E6,Z0]
 |cons x l ih=>
  intro c out
  unfold E6
  rw [P5,P5,tell,tell,ih,ih]
  simp
theorem B0q {c:Ctl} {l:List To} {i:Nat} {x:To} (h:l[i]? =some x):E6 c (l.take (i+1))=tell (E6 c (l.take i)) x:=by
 rw [List.take_add_one,h];exact A99 _ _ _
theorem T0 (c:Ctl) (l:List To):(E6 c l).2.length=l.length∧(E6 c l).1.waits.length=c.waits.length+l.length:=by
  induction l generalizing c with
  |nil=>simp [E6,Z0]
  |cons x l ih=>
    unfold E6
    rw [P5,tell,W1]
    have h:=ih (tell (c,[]) x).1
    simp only [tell] at h
    simp [h];omega
theorem P7 (c:Ctl) (l:List To):(E6 c l).1.stage=c.stage∧(E6 c l).1.now=c.now∧(E6 c l).1.next=c.next:=by
  induction l generalizing c with
  |nil=>simp [E6,Z0]
  |cons x l ih=>
    unfold E6
    rw [P5,tell,W1]
    exact ih (tell (c,[]) x).1
theorem A6j (n:Int):I64 (up n):=by
 unfold up I64
 rw [IntKind.wrap_i64];omega
theorem A4m (c:Ctl) (l:List To) (h:I64 c.num):I64 (E6 c l).1.num:=by
  induction l generalizing c with
  |nil=>exact h
  |cons x l ih=>
    unfold E6
    rw [P5,tell,W1]
    exact ih (tell (c,[]) x).1 (A6j _)
def F8 (s:Int):Int→List E0→List Int
 |_,[]=>[]
 |i,f::r=>(if f.src=s then [i] else [])++F8 s (i+1) r
def X5 (s:Int) (l:List E0):Bool:=l.any fun f=>f.src==s
def I9 (c:Ctl) (s:Int):List To:=if F8 s 0 c.next.flows=[]∧X5 s c.now.flows=false then [] else [⟨s,⟨2,0,c.next.ver,[],F8 s 0 c.next.flows⟩⟩]
def R4 (p:F5) (s:Int):List To:=if C6 p s=[] then [] else [⟨s,⟨1,0,p.ver,C6 p s,[]⟩⟩]
def O0 (p:F5) (s:Int):List To:=if C6 p s=[] then [] else [⟨s,⟨3,0,p.ver,[],[]⟩⟩]
def M5 (f:Int→List To) (n:Nat):List To:=(List.range n).flatMap fun s:Nat=>f (s:Int)
theorem A65 (f:Int→List To):M5 f 0=[]:=rfl
theorem Z3 (f:Int→List To) (n:Nat):M5 f (n+1)=M5 f n++f n:=by simp [M5,List.range_succ]
theorem Q2 {f:Int→List To} (h:∀ s,(f s).length≤1) (n:Nat):(M5 f n).length≤n:=by
  induction n with
  |zero=>simp [A65]
  |succ n ih=>rw [Z3,List.length_append];have:=h n;omega
theorem U5 (c:Ctl) (s:Int):(I9 c s).length≤1:=by unfold I9;split<;>simp
theorem Z8 (p:F5) (s:Int):(R4 p s).length≤1:=by unfold R4;split<;>simp
theorem A1s (p:F5) (s:Int):(O0 p s).length≤1:=by unfold O0;split<;>simp
def E1 (c:Ctl) (t:C5):List To:=M5 (I9 c) t.n.toNat
def L7 (p:F5) (t:C5):List To:=M5 (R4 p) t.n.toNat
def L9 (p:F5) (t:C5):List To:=M5 (O0 p) t.n.toNat
def A36 (now p:F5) (s:Int):Bool:=decide (16<(C6 now s).length+(C6 p s).length)
def N5 (now p:F5) (n:Nat):Bool:=(List.range n).any fun s:Nat=>A36 now p (s:Int)
theorem A82 (now p:F5) (n:Nat):N5 now p (n+1)=(N5 now p n||A36 now p n):=by simp [N5,List.range_succ]
def C0 (c : Ctl) (t : C5) : Ctl × List To :=
 if c.waits ≠ [] then (c, [])
 else if c.stage = 1 then
  (if (E6 ⟨2, c.now, c.next, c.num, c.waits⟩ (E1 c t)).1.waits = [] then
   (⟨3, c.now, c.next, c.num, []⟩, []) else E6 ⟨2, c.now, c.next, c.num, c.waits⟩ (E1 c t))
 else if c.stage = 2 then (⟨3, c.now, c.next, c.num, c.waits⟩, [])
 else if c.stage = 4 then (⟨0, c.next, E2, c.num, c.waits⟩, [])
 else (c, [])
def G9 (c : Ctl) (t : C5) (l : List E0) : Ctl × List To × Int :=
  if c.stage ≠ 0 then (Q6, [], 11)
  else if (D2 t (up c.now.ver) l).2.1 ≠ 0 then (Q6, [], (D2 t (up c.now.ver) l).2.1)
  else if N5 c.now (D2 t (up c.now.ver) l).1 t.n.toNat = true then (Q6, [], 10)
  else
    ((C0 (E6 ⟨1, c.now, (D2 t (up c.now.ver) l).1, c.num, c.waits⟩ (L7 (D2 t (up c.now.ver) l).1 t)).1 t).1,
     (E6 ⟨1, c.now, (D2 t (up c.now.ver) l).1, c.num, c.waits⟩ (L7 (D2 t (up c.now.ver) l).1 t)).2 ++
       (C0 (E6 ⟨1, c.now, (D2 t (up c.now.ver) l).1, c.num, c.waits⟩ (L7 (D2 t (up c.now.ver) l).1 t)).1 t).2, 0)
def H8 (c:Ctl) (t:C5) (n:Int):Ctl × List To × Int:=
 if (B6 t).1≠0 then (Q6,[],(B6 t).1)
 else match N8 n c.waits with
  |none=>(Q6,[],6)
  |some i=>((C0 ⟨c.stage,c.now,c.next,c.num,c.waits.eraseIdx i⟩ t).1,(C0 ⟨c.stage,c.now,c.next,c.num,c.waits.eraseIdx i⟩ t).2,0)
def G5 (c : Ctl) (t : C5) : Ctl × List To × Int :=
  if (B6 t).1 ≠ 0 then (Q6, [], (B6 t).1)
  else if c.stage ≠ 3 then (Q6, [], 11)
  else
    ((C0 (E6 ⟨4, c.now, c.next, c.num, c.waits⟩ (L9 c.now t)).1 t).1,
     (E6 ⟨4, c.now, c.next, c.num, c.waits⟩ (L9 c.now t)).2 ++ (C0 (E6 ⟨4, c.now, c.next, c.num, c.waits⟩ (L9 c.now t)).1 t).2, 0)
open Go.RowKit
def B7 (w:World) (ok:Nat→Prop) (n0 n1 n2:Value) (p:F5):Prop:=C3.rep ok w [n0,n1,n2] p
theorem B7.of {ok:Nat→Prop} {w:World} {cs:List Value} {p:F5} (h:C3.rep ok w cs p):∃ n0 n1 n2,cs=[n0,n1,n2]∧B7 w ok n0 n1 n2 p:=by
 obtain ⟨fa,fc,pa,pc,rfl,h1,h2,h3⟩:=h
 exact ⟨_,_,_,rfl,fa,fc,pa,pc,rfl,h1,h2,h3⟩
theorem B7.one {ok:Nat→Prop} {w:World} {n0 n1 n2:Value} {p:F5} (h:B7 w ok n0 n1 n2 p):n0.oneCell'=true∧n1.oneCell'=true∧n2.oneCell'=true:=by
 have:=C3.one h
 exact ⟨this _ (by simp),this _ (by simp),this _ (by simp)⟩
theorem A05 (ok:Nat→Prop) (w:World):B7 w ok (.int .i64 0) (.slice none 0 0) (.slice none 0 0) E2:=⟨none,0,none,0,rfl,I64.small (by decide) (by decide),A8.nil _ _ _ _,A8.nil _ _ _ _⟩
theorem P3.open_ {ok:Nat→Prop} {w:World} {cs:List Value} {c:Ctl} (h:P3.rep ok w cs c):∃ n0 n1 n2 x0 x1 x2 wa wc,cs=[.int .i64 c.stage,n0,n1,n2,x0,x1,x2,.int .i64 c.num,.slice wa c.waits.length wc]∧
  I64 c.stage∧I64 c.num∧B7 w ok n0 n1 n2 c.now∧B7 w ok x0 x1 x2 c.next∧A8 C2 ok w wa wc c.waits:=by
 obtain ⟨ns,xs,wa,wc,rfl,h1,h2,h3,h4,h5⟩:=h
 obtain ⟨n0,n1,n2,rfl,h3⟩:=B7.of h3
 obtain ⟨x0,x1,x2,rfl,h4⟩:=B7.of h4
 exact ⟨n0,n1,n2,x0,x1,x2,wa,wc,rfl,h1,h2,h3,h4,h5⟩
theorem P3.mk_ {ok:Nat→Prop} {w:World} {n0 n1 n2 x0 x1 x2:Value} {wa:Option Addr} {wc:Nat} {c:Ctl} (h1:I64 c.stage) (h2:I64 c.num) (h3:B7 w ok n0 n1 n2 c.now) (h4:B7 w ok x0 x1 x2 c.next) (h5:A8 C2 ok w wa wc c.waits):
  P3.rep ok w [.int .i64 c.stage,n0,n1,n2,x0,x1,x2,.int .i64 c.num,.slice wa c.waits.length wc] c:=⟨_,_,wa,wc,rfl,h1,h2,h3,h4,h5⟩
theorem Q5 {P:Program} {v:Value} (h:v.oneCell'=true):∀ (w:World) (a:Addr) (m:Mode),(store a v m).run P w=stored P w a v m:=fun w a m=>run_store P w a v m h
theorem B7.st {P:Program} {ok:Nat→Prop} {w:World} {n0 n1 n2:Value} {p:F5} (h:B7 w ok n0 n1 n2 p):
  (∀ (w:World) (a:Addr) (m:Mode),(store a n0 m).run P w=stored P w a n0 m)∧(∀ (w:World) (a:Addr) (m:Mode),(store a n1 m).run P w=stored P w a n1 m)∧(∀ (w:World) (a:Addr) (m:Mode),(store a n2 m).run P w=stored P w a n2 m):=
 ⟨Q5 h.one.1,Q5 h.one.2.1,Q5 h.one.2.2⟩
def R3 (w:World) (b:Nat):Nat→List Value→World
 |_,[]=>w
 |i,v::r=>R3 (w.setCell ⟨b,i,none⟩ v) b (i+1) r
def B3d (cs:List Value):Nat→List Value→List Value
 |_,[]=>cs
 |i,v::r=>B3d (cs.set i v) (i+1) r
theorem A04 {b:Nat} {t:TypeId} {W:Nat→Prop} {B:Nat} (hW:¬W b) (hB:B≤b):∀ (l:List Value) (i:Nat) (w:World) (cs:List Value),A6 w b t cs.toArray→A6 (R3 w b i l) b t (B3d cs i l).toArray∧Frm W B w (R3 w b i l)
 |[],i,w,cs,h=>⟨h,Frm.refl _ _ _⟩
 |v::r,i,w,cs,h=>by
  have h1:=h.set i v
  rw [List.setIfInBounds_toArray] at h1
  have h2:=A04 hW hB r (i+1) _ _ h1
  exact ⟨h2.1,(Frm.set (a:=⟨b,i,none⟩) hW hB v).trans h2.2⟩
theorem Y7 {w:World} {b:Nat} {t:TypeId} {z0 z1 z2 z3 z4 z5 z6 z7 z8:Value} (h:A6 w b t #[z0,z1,z2,z3,z4,z5,z6,z7,z8]) (W:Nat→Prop) (B:Nat) (hW:¬W b) (hB:B≤b) (a0 a1 a2 a3 a4 a5 a6 a7 a8:Value):
  A6 (((((((((w.setCell ⟨b,0,none⟩ a0).setCell ⟨b,1,none⟩ a1).setCell ⟨b,2,none⟩ a2).setCell ⟨b,3,none⟩ a3).setCell ⟨b,4,none⟩ a4).setCell ⟨b,5,none⟩ a5).setCell ⟨b,6,none⟩ a6).setCell ⟨b,7,none⟩ a7).setCell ⟨b,8,none⟩ a8) b t #[a0,a1,a2,a3,a4,a5,a6,a7,a8]∧Frm W B w (((((((((w.setCell ⟨b,0,none⟩ a0).setCell ⟨b,1,none⟩ a1).setCell ⟨b,2,none⟩ a2).setCell ⟨b,3,none⟩ a3).setCell ⟨b,4,none⟩ a4).setCell ⟨b,5,none⟩ a5).setCell ⟨b,6,none⟩ a6).setCell ⟨b,7,none⟩ a7).setCell ⟨b,8,none⟩ a8):=
 A04 hW hB [a0,a1,a2,a3,a4,a5,a6,a7,a8] 0 w [z0,z1,z2,z3,z4,z5,z6,z7,z8] h
theorem B5x {w:World} {b:Nat} {t:TypeId} {z0 z1 z2 z3 z4 z5 z6 z7 z8:Value} (h:A6 w b t #[z0,z1,z2,z3,z4,z5,z6,z7,z8]) (W:Nat→Prop) (B:Nat) (hW:¬W b) (hB:B≤b) (a0 a1 a2 a3 a4 a5 a6:Value):
  A6 (((((((w.setCell ⟨b,0,none⟩ a0).setCell ⟨b,1,none⟩ a1).setCell ⟨b,2,none⟩ a2).setCell ⟨b,3,none⟩ a3).setCell ⟨b,4,none⟩ a4).setCell ⟨b,5,none⟩ a5).setCell ⟨b,6,none⟩ a6) b t #[a0,a1,a2,a3,a4,a5,a6,z7,z8]∧Frm W B w (((((((w.setCell ⟨b,0,none⟩ a0).setCell ⟨b,1,none⟩ a1).setCell ⟨b,2,none⟩ a2).setCell ⟨b,3,none⟩ a3).setCell ⟨b,4,none⟩ a4).setCell ⟨b,5,none⟩ a5).setCell ⟨b,6,none⟩ a6):=
 A04 hW hB [a0,a1,a2,a3,a4,a5,a6] 0 w [z0,z1,z2,z3,z4,z5,z6,z7,z8] h
theorem B5y {w:World} {b:Nat} {t:TypeId} {cs:List Value} (h:A6 w b t cs.toArray) (o:Nat) (W:Nat→Prop) (B:Nat) (hW:¬W b) (hB:B≤b) (a0 a1 a2:Value):
  A6 (((w.setCell ⟨b,o,none⟩ a0).setCell ⟨b,o+1,none⟩ a1).setCell ⟨b,o+2,none⟩ a2) b t (((cs.set o a0).set (o+1) a1).set (o+2) a2).toArray∧Frm W B w (((w.setCell ⟨b,o,none⟩ a0).setCell ⟨b,o+1,none⟩ a1).setCell ⟨b,o+2,none⟩ a2):=
 A04 hW hB [a0,a1,a2] o w cs h
open Go.RowKit
theorem A0y {size:Nat} {l:List Value} {k j:Nat} (h:j<size):(I3 size l k)[j]? =l[k * size+j]? :=by
 unfold I3
 rw [List.getElem?_take,if_pos h,List.getElem?_drop]
theorem W0 {size:Nat} {l:List Value} {k j:Nat} (h:¬j<size):(I3 size l k)[j]? =none:=by
 unfold I3
 rw [List.getElem?_take,if_neg h]
theorem B2s {size i k o j:Nat} (hik:i≠k) (ho:o<size) (hj:j<size):i * size+o≠k * size+j:=by
 intro e
 rcases Nat.lt_or_gt_of_ne hik with h|h
 ·have:=Nat.mul_le_mul_right size h
  rw [Nat.succ_mul] at this
  omega
 ·have:=Nat.mul_le_mul_right size h
  rw [Nat.succ_mul] at this
  omega
theorem A5v {size:Nat} {l:List Value} {i o:Nat} (ho:o<size) (v:Value) (k:Nat):I3 size (l.set (i * size+o) v) k=if k=i then (I3 size l i).set o v else I3 size l k:=by
 apply List.ext_getElem?
 intro j
 by_cases hj:j<size
 case neg=>
  rw [W0 hj]
  split
  ·rw [List.getElem?_set]
   split
   ·subst_vars;exact absurd ho hj
   ·rw [W0 hj]
  ·rw [W0 hj]
 rw [A0y hj,List.getElem?_set]
 split
 case isTrue h1=>
  by_cases hk:k=i
  ·subst hk
   have:o=j:=by omega
   subst this
   have hlen:(k * size+o<l.length)=(o<(I3 size l k).length):=by
    apply propext
    unfold I3
    rw [List.length_take,List.length_drop]
    omega
   simp only [if_true,List.getElem?_set]
   simp only [hlen]
  ·exact absurd h1 (B2s (Ne.symm hk) ho hj)
 case isFalse h1=>
  by_cases hk:k=i
  ·subst hk
   have:o≠j:=fun e=>h1 (by rw [e])
   rw [if_pos rfl,List.getElem?_set,if_neg this,A0y hj]
  ·rw [if_neg hk,A0y hj]
section
variable {α : Type} {sh : D1 α} {e : TypeId} {ok : Nat → Prop} {base : Nat} {w : World} {ao : Option Addr} {n cap : Nat} {xs : List α}
theorem C7.at (h:C7 sh e ok base w ao n cap xs) {i:Nat} {x:α} (hx:xs[i]? =some x):∃ g cs,ao=some ⟨g,0,none⟩∧base≤g∧g<w.heap.size∧¬ok g∧sh.rep ok w cs x∧
  (∀ j c,cs[j]? =some c→w.cell? ⟨g,i * sh.size+j,none⟩=some c)∧(∀ o,w.frozen? ⟨g,o,none⟩=false)∧∃ cur,w.heap[g]? =some (.cells cur e (0,0)):=by
 obtain ⟨cells,h1,rfl,h3,h4,h5⟩:=h
 have h1':=h1
 obtain ⟨hc,hle,hm,⟨rfl,h0⟩|⟨g,cur,rfl,hb,hg,hs,ht⟩⟩:=h1
 ·have:=(List.getElem?_eq_some_iff.1 hx).1
  omega
 ·refine ⟨g,_,rfl,hb,(h1'.lt g rfl).2,h4 g rfl,h3 i x hx,fun j c hj=>h1'.cell rfl _ _ (Z2 hj),fun o=>?_,cur,hg⟩
  simp [World.frozen?,hg]
theorem C7.put1 {g:Nat} (h:C7 sh e ok base w (some ⟨g,0,none⟩) n cap xs) {i o:Nat} {x y:α} (hx:xs[i]? =some x) (ho:o<sh.size) (v:Value)
  (hy:∀ cs,sh.rep ok w cs x→sh.rep ok w (cs.set o v) y):C7 sh e ok base (w.setCell ⟨g,i * sh.size+o,none⟩ v) (some ⟨g,0,none⟩) n cap (xs.set i y):=by
 have hg0:=(h.lt g rfl).2
 obtain ⟨cells,⟨hc,hle,hm,h6⟩,rfl,h3,h4,h5⟩:=h
 have hng:=h4 g rfl
 rcases h6 with ⟨h6,_⟩|⟨g',cur,hg',hb,hg,hs,ht⟩
 ·cases h6
 obtain rfl:g=g':=by simpa using hg'
 have hi:=(List.getElem?_eq_some_iff.1 hx).1
 have hp:i * sh.size+o<xs.length * sh.size:=by
  have:=Nat.mul_le_mul_right sh.size hi
  rw [Nat.succ_mul] at this
  omega
 have hmono:∀ {cs:List Value} {a:α},sh.rep ok w cs a→sh.rep ok (w.setCell ⟨g,i * sh.size+o,none⟩ v) cs a:=fun h=>sh.mono h fun b _ hb=>⟨hb,Below.heap_setCell _ _ _ _ (fun e=>hng (by have e1:b=g:=e;rw [←e1];exact hb))⟩
 refine ⟨cells.set (i * sh.size+o) v,⟨by rw [List.length_set];exact hc,hle,hm,.inr ⟨g,cur.setIfInBounds (i * sh.size+o) v,rfl,hb,?_,by simpa using hs,?_⟩⟩,by simp,?_,h4,fun b hb=>by simpa using h5 b hb⟩
 ·have:w.heap[g]? =some (.cells cur e (0,0)):=hg
  simp [World.setCell,Array.getElem?_modify,this]
 ·rw [Array.toList_setIfInBounds,List.take_set,ht]
 ·intro k z hz
  rw [A5v ho]
  rw [List.getElem?_set] at hz
  by_cases hk:k=i
  ·subst hk
   rw [if_pos rfl]
   rw [if_pos rfl,if_pos hi] at hz
   obtain rfl:y=z:=by simpa using hz
   exact hmono (hy _ (h3 k x hx))
  ·rw [if_neg hk]
   rw [if_neg (Ne.symm hk)] at hz
   exact hmono (h3 k z hz)
theorem C7.not (h:C7 sh e ok base w ao n cap xs):∀ k,blk ao=some k→¬ok k:=by obtain ⟨_,_,_,_,h4,_⟩:=h;exact h4
theorem C7.okLt (h:C7 sh e ok base w ao n cap xs):∀ b,ok b→b<w.heap.size:=by obtain ⟨_,_,_,_,_,h5⟩:=h;exact h5
theorem C7.setAt (h:C7 sh e ok base w ao n cap xs) {a:Addr} (hne:blk ao≠some a.block) (hok:¬ok a.block) (v:Value):C7 sh e ok base (w.setCell a v) ao n cap xs:=
 h.keep (by simp) fun k hk=>Below.heap_setCell _ _ _ _ (by
  rintro rfl
  rcases hk with hk|hk
  ·exact hne hk
  ·exact hok hk)
theorem C7.noType (h:C7 sh e ok base w ao n cap xs) {g:Nat} {cur:Array Value} {e':TypeId} {fr:Nat × Nat} (hg:w.heap[g]? =some (.cells cur e' fr)) (hne:e≠e'):blk ao≠some g:=by
 obtain ⟨cells,⟨_,_,_,⟨rfl,_⟩|⟨g',cur',rfl,_,hg',_⟩⟩,_⟩:=h
 ·simp [blk]
 ·intro hk
  obtain rfl:g'=g:=by simpa [blk] using hk
  rw [hg'] at hg
  simp at hg
  exact hne hg.2.1
theorem C7.oldGrown (h:C7 sh e ok base w ao n cap xs) {w':World} {row:Option Nat} (hg:w.grownBy w' row) (h1:∀ k,row=some k→blk ao≠some k∧¬ok k):C7 sh e ok base w' ao n cap xs:=
 h.keep hg.size fun k hk=>hg.block k (by
  rcases hk with hk|hk
  ·exact (h.lt k hk).2
  ·exact h.okLt k hk) (fun e=>by
   have h2:=h1 k e.symm
   rcases hk with hk|hk
   ·exact h2.1 hk
   ·exact h2.2 hk)
end
theorem C7.apart {α β:Type} {sh:D1 α} {sh':D1 β} {e e':TypeId} {ok ok':Nat→Prop} {base base':Nat} {w:World} {ao bo:Option Addr} {n cap m cap':Nat} {xs:List α} {ys:List β} (h:C7 sh e ok base w ao n cap xs) (k:C7 sh' e' ok' base' w bo m cap' ys) (hne:e≠e'):∀ g,blk ao=some g→blk bo≠some g:=by
 intro g hg
 obtain ⟨cells,⟨_,_,_,⟨rfl,_⟩|⟨g',cur',rfl,_,hg',_⟩⟩,_⟩:=h
 ·simp [blk] at hg
 ·obtain rfl:g'=g:=by simpa [blk] using hg
  exact k.noType hg' (Ne.symm hne)
def A42 (x:To) (n:Int):To:=⟨x.sw,⟨x.order.kind,n,x.order.ver,x.order.rules,x.order.flows⟩⟩
theorem toS.num {ok:Nat→Prop} {w:World} {cs:List Value} {x:To} (h:toS.rep ok w cs x) {n:Int} (hn:I64 n):toS.rep ok w (cs.set 2 (.int .i64 n)) (A42 x n):=by
 obtain ⟨ds,rfl,h1,oa,oc,fa,fc,rfl,h2,h3,h4,h5,h6⟩:=h
 exact ⟨_,rfl,h1,oa,oc,fa,fc,rfl,h2,hn,h4,h5,h6⟩
open Go.RowKit
section
variable {α : Type} {sh : D1 α} {e : TypeId} {ok : Nat → Prop} {base : Nat} {w : World} {ao : Option Addr} {n cap : Nat} {xs : List α}
theorem C7.first (h:C7 sh e ok base w ao n cap xs) {i:Nat} (hi:i≤n):C7 sh e ok base w ao i cap (xs.take i):=by
 obtain ⟨cells,⟨hc,hle,hm,h6⟩,rfl,h3,h4,h5⟩:=h
 have hm2:i * sh.size≤xs.length * sh.size:=Nat.mul_le_mul_right _ hi
 refine ⟨cells.take (i * sh.size),⟨by rw [List.length_take];omega,by omega,hm,h6.imp id ?_⟩,by rw [List.length_take];omega,?_,h4,h5⟩
 ·rintro ⟨g,cur,e1,e2,e3,e4,e5⟩
  refine ⟨g,cur,e1,e2,e3,e4,?_⟩
  rw [←e5,List.take_take,Nat.min_eq_left hm2]
 ·intro k x hx
  rw [List.getElem?_take] at hx
  split at hx
  case isFalse=>cases hx
  case isTrue hk=>
   have hq:I3 sh.size (cells.take (i * sh.size)) k=I3 sh.size cells k:=by
    have:=Nat.mul_le_mul_right sh.size hk
    rw [Nat.succ_mul] at this
    unfold I3
    rw [List.drop_take,List.take_take,Nat.min_eq_left (by omega)]
   rw [hq]
   exact h3 k x hx
theorem C7.beyond {g:Nat} (h:C7 sh e ok base w (some ⟨g,0,none⟩) n cap xs) {j:Nat} (hj:n * sh.size≤j) (v:Value):C7 sh e ok base (w.setCell ⟨g,j,none⟩ v) (some ⟨g,0,none⟩) n cap xs:=by
 have hng:=h.not g rfl
 obtain ⟨cells,⟨hc,hle,hm,h6⟩,rfl,h3,h4,h5⟩:=h
 rcases h6 with ⟨h6,_⟩|⟨g',cur,hg',hb,hg,hs,ht⟩
 ·cases h6
 obtain rfl:g=g':=by simpa using hg'
 refine ⟨cells,⟨hc,hle,hm,.inr ⟨g,cur.setIfInBounds j v,rfl,hb,?_,by simpa using hs,?_⟩⟩,rfl,fun k x hx=>sh.mono (h3 k x hx) fun b _ hb=>⟨hb,Below.heap_setCell _ _ _ _ (fun e1=>hng (by have e2:b=g:=e1;rw [←e2];exact hb))⟩,h4,fun b hb=>by simpa using h5 b hb⟩
 ·have:w.heap[g]? =some (.cells cur e (0,0)):=hg
  simp [World.setCell,Array.getElem?_modify,this]
 ·rw [Array.toList_setIfInBounds,List.take_set_of_le hj,ht]
theorem C7.cellAny {g:Nat} (h:C7 sh e ok base w (some ⟨g,0,none⟩) n cap xs) {j:Nat} (hj:j<cap * sh.size):(∃ v,w.cell? ⟨g,j,none⟩=some v)∧w.frozen? ⟨g,j,none⟩=false:=by
 obtain ⟨cells,⟨hc,hle,hm,h6⟩,rfl,h3,h4,h5⟩:=h
 rcases h6 with ⟨h6,_⟩|⟨g',cur,hg',hb,hg,hs,ht⟩
 ·cases h6
 obtain rfl:g=g':=by simpa using hg'
 have hlt:j<cur.size:=by rw [hs];exact hj
 refine ⟨⟨cur[j],?_⟩,?_⟩
 ·simp [World.cell?,hg,hlt]
 ·simp [World.frozen?,hg]
theorem C7.behind {g:Nat} (h:C7 sh e ok base w (some ⟨g,0,none⟩) n cap xs) (k:Nat) (hk:k≤n):D7 sh ok w (some ⟨g,k * sh.size,none⟩) (xs.drop k):=by
 obtain ⟨cells,h1,rfl,h3,h4,h5⟩:=h
 refine .inr ⟨g,k * sh.size,rfl,fun i x hx=>?_⟩
 rw [List.getElem?_drop] at hx
 refine ⟨_,h3 _ x hx,fun j c hj=>?_⟩
 have:=h1.cell rfl _ _ (Z2 hj)
 rwa [show k * sh.size+i * sh.size+j=(k+i) * sh.size+j by rw [Nat.add_mul]]
end
section
variable {P : Program} {w : World}
theorem A4h {α:Type} {sh:D1 α} {o:Oper} {a:Act} {K:Act→World→Prop} {Q:Exit→Act→World→Prop} (s x:Operand) (t:TypeId)
  (ho:o.op=.call {callee:=.builtin .append,args:=#[s,x],argTypes:=#[t,t]})
  (e:TypeId) (i:TypeInfo) (ht:P.underlying t=some (.slice e)) (hi:P.info? e=some i)
  (hsize:i.size=sh.size) (hsz:0<sh.size) {ok:Nat→Prop} {base:Nat}
  {ao:Option Addr} {n cap:Nat} {xs:List α} (hs:a.eval s=.slice ao n cap) (hown:C7 sh e ok base w ao n cap xs)
  {ax:Option Addr} {m c:Nat} {ys:List α} (hx:a.eval x=.slice ax m c) (hm:ys.length=m) (hsrc:D7 sh ok w ax ys) (hroom:n+m≤cap)
  (h:∀ w',C7 sh e ok base w' ao (n+m) cap (xs++ys)→w.grownBy w' (blk ao)→K (a.put o.dst (.slice ao (n+m) cap)) w'):o.wp P a w K Q:=by
 obtain ⟨w',hr,h2,h3⟩:=A2c (P:=P) t o.type e i ht hi hsize hsz hown (c:=c) hm hsrc hroom
 unfold Oper.wp execOp
 simp only [ho,resolve,invoke,builtin,Sem.run_bind,Sem.run_pure,Result.andThen_ok,List.map_toArray,List.map_cons,List.map_nil,hs,hx,hr]
 exact h w' h2 h3
theorem A1m {t e ty:TypeId} {i:TypeInfo} {g k c:Nat} {v:Value} (ht:P.underlying t=some (.slice e)) (hi:P.info? e=some i) (hz:i.zero=some (.int .i64 0)) (hc:w.cell? ⟨g,k,none⟩=some v) (hf:w.frozen? ⟨g,k,none⟩=false):
  (Builtin.clear_ #[t] ty #[.slice (some ⟨g,k,none⟩) 1 c]).run P w=.ok (.tuple #[]) (w.setCell ⟨g,k,none⟩ (.int .i64 0)):=by
 simp [Builtin.clear_,run_underlying ht,zeroValue,typeInfo,hi,hz,Builtin.zeroCells,storeCells,go_sem,hc,hf,Value.cells]
end
def SG (g:Nat) (w:World):Prop:=w.frozen? ⟨g,0,none⟩=false
end Go.St
namespace Go.Proofs.YtampcbncgofkoaaGreatDoor
open Go.RowKit Go.St
theorem B0z (W:Nat→Prop) (B:Nat) (ws:List Int) (i:Nat) (wa:Option Addr) (wc n:Nat) (w:World) (h:C7 C2 3 W B w wa n wc ws) (hB:B≤w.heap.size) (hi:i<n) (hn:n≤10000000000):
  Calls Tryz.prog 66 #[.slice wa n wc,.int .i64 i,.int .i64 ((i:Int)+1)] w fun e w'=>e=.returned (.slice wa (n - 1) wc)∧C7 C2 3 W B w' wa (n - 1) wc (ws.eraseIdx i)∧Frm (fun b=>blk wa≠some b) B w w':=by
 obtain ⟨x,hx⟩:∃ x,ws[i]? =some x:=⟨_,List.getElem?_eq_getElem (by have:=h.len_eq;omega)⟩
 obtain ⟨g,cs,rfl,hgB,hgl,hgW,hdr,hdc,hdf,cur,hdh⟩:=h.at hx
 have hlen:=h.len_eq
 have hcap:n≤wc∧wc≤maxLen:=by obtain ⟨_,⟨_,h1,h2,_⟩,_⟩:=h;exact ⟨h1,h2⟩
 simp only [maxLen] at hcap
 obtain ⟨i0,hi0,hz0,hz1,hz2⟩:=info_parts P6
 have hxd:ws.eraseIdx i=ws.take i++ws.drop (i+1):=List.eraseIdx_eq_take_drop_succ ws i
 have hfirst:=h.first (Nat.le_of_lt hi)
 have hbeh:=h.behind (i+1) hi
 have hdl:(ws.drop (i+1)).length=n - (i+1):=by rw [List.length_drop];omega
 have HDL:=Lib.hid hdl
 have HXD:=Lib.hid hxd
 have hmx:Hid (i+(n - (i+1))=n - 1):=by show _=_;omega
 clear hx hdr hdc hxd hdl hlen
 have b0:(0:Int)≤(i:Int):=by omega
 have b1:(i:Int)≤(i:Int)+1:=by omega
 have b2:(i:Int)+1≤(n:Int):=by omega
 have b3:(n:Int)≤(wc:Int):=by omega
 have b4:((i:Int)==(i:Int)+1)=false:=by rw [beq_eq_false_iff_ne];omega
 have b5:(i:Int)≤(wc:Int):=by omega
 have b6:((i:Int)+1).toNat=i+1:=by omega
 have b7:(0:Int)≤(i:Int)+1:=by omega
 by_cases hcw:wc=i+1
 case' pos=>
  obtain rfl:n=i+1:=by omega
  subst hcw
  have hd0:ws.drop (i+1)=[]:=List.eq_nil_of_length_eq_zero (by rw [HDL.out];omega)
  have b8:((i:Int)+1 - ((i:Int)+1)).toNat=0:=by omega
  have HXE:Hid (ws.eraseIdx i=ws.take i++[]):=by show _=_;rw [HXD.out,hd0]
  have hsrc:D7 C2 W w (some ⟨g,(i+1) * C2.size,none⟩) []:=.inl rfl
  have hml:([]:List Int).length=0:=rfl
  clear hd0 hbeh
 case' neg=>
  have b8:¬wc=i+1:=hcw
  have HXE:=HXD
  have hsrc:=hbeh
  have hml:=HDL.out
  clear hbeh hcw
 ·have HML:=Lib.hid hml
  clear hml
  go_enter Tryz.func66,Tryz.ntmps66
  go_wp2
  have hS0:SG g w.drew:=hdf 0
  refine B9 (SG g) 99 (fun a0 a' w'=>∃ v20 v21 v22 v23 v24 v25,a'=C8 a0 [(20,v20),(21,v21),(22,v22),(23,v23),(24,v24),(25,v25),(0,.slice (some ⟨g,0,none⟩) (i+(n - (i+1))) wc),(26,.slice (some ⟨g,0,none⟩) (i+(n - (i+1))) wc)]∧C7 C2 3 W B w' (some ⟨g,0,none⟩) (i+(n - (i+1))) wc (ws.take i++(ws.drop (i+1)))∧Frm (fun b=>blk (some ⟨g,0,none⟩)≠some b) B w w') (by kernel_rfl) ?_ ?_
  ·intro Q' hR hQp
   have hb0:Below w.heap.size w w.drew:=N4 _
   have hS:SG g w.drew:=hS0
   generalize w.drew=wa at *
   have hFa:=hfirst.below hb0
   have hSr:D7 C2 W wa (some ⟨g,i+1,none⟩) (ws.drop (i+1)):=(by have h9:=(h.below hb0).behind (i+1) hi;rw [show (i+1) * C2.size=i+1 from Nat.mul_one _] at h9;exact h9)
   refine A9 hQp hS [0,1,3,4,2,5] ?_
   iterate 6 (refine B2 _ rfl (by kernel_rfl) (A0 (by kernel_rfl) (by intro w0 hw0;have hw1:=hw0;simp only [SG] at hw1;first|(go_simp;done)|(go_simp;rfl))) ?_;simp only [Act.put,St.tA,St.tD,St.tE,St.tS,St.tC,St.tZ])
   refine B3 ?_
   clear hS
   refine A7 (i:=6) rfl (by kernel_rfl) (by kernel_rfl) fun K6 hK6=>?_
   refine A4h (sh:=C2) (n:=i) (m:=(n - (i+1))) (ys:=(ws.drop (i+1))) (.tmp 22) (.tmp 25) 41 (by rfl) 3 i0 Tryz.underlying41 hi0 hz1 (by decide) (ok:=W) (base:=B) (by rfl) hFa (by rfl) HML.out hSr (by omega) ?_
   intro wb hob hgb
   simp only [Act.put,St.tA,St.tD,St.tE,St.tS,St.tC,St.tZ]
   have hS:_:=(hob.cellAny (j:=0) (by show 0<wc * 1;omega)).2
   refine hK6 _ _ (fun _=>hS) ?_
   clear hK6
   refine A9 hQp hS [7] ?_
   iterate 1 (refine B2 _ rfl (by kernel_rfl) (A0 (by kernel_rfl) (by intro w0 hw0;have hw1:=hw0;simp only [SG] at hw1;first|(go_simp;done)|(go_simp;rfl))) ?_;simp only [Act.put,St.tA,St.tD,St.tE,St.tS,St.tC,St.tZ])
   refine B3 ?_
   refine B5 (by kernel_rfl) ?_ _
   refine hR _ _ ?_
   iterate 6 apply Exists.intro
   refine ⟨?_,⟨hob,(Frm.of hb0 hB).trans (Frm.grown hgb (fun k hk=>⟨fun e=>e hk,(hFa.lt k hk).1⟩) (Nat.le_trans hB hb0.size))⟩⟩
   simp only [C8,Act.put,St.tS,St.tC,St.tZ]
   rfl
  rintro a' w8 ⟨v20,v21,v22,v23,v24,v25,rfl,hb8⟩
  simp only [C8,Act.put,St.tS,St.tC,St.tZ]
  obtain ⟨hob,hF⟩:=hb8
  have hm8:i+(n - (i+1))=(n - 1):=by omega
  have h8b:(n - 1)<wc:=by omega
  rw [hm8] at hob
  have HO:=Lib.hid (hob.cellAny (j:=(n - 1)) (by show (n - 1)<wc * 1;omega))
  obtain ⟨⟨v,hv⟩,hf⟩:=HO.out
  have c1:((((n - 1):Nat):Int))≤(((n:Nat)):Int):=by omega
  have c2:(((n:Nat)):Int)≤(((wc:Nat)):Int):=by omega
  have c3:((((n - 1):Nat):Int)).toNat=(n - 1):=by omega
  have c4:n - ((n - 1))=1:=by omega
  have c5:(0:Int)≤(((n - 1):Nat):Int):=by omega
  have hcl:=fun (ty:TypeId) (c:Nat)=>A1m (P:=Tryz.prog) (w:=w8) (t:=41) (ty:=ty) (c:=c) (g:=g) (k:=(n - 1)) Tryz.underlying41 hi0 hz0 hv hf
  rw [hm8]
  clear hm8
  go_wp2
  go_ret;refine ⟨by first|rfl|simp,by rw [HXE.out];exact hob.beyond (by show ((n - 1)) * 1≤(n - 1);omega) _,hF.trans (Frm.set (a:=⟨g,(n - 1),none⟩) (fun e=>e rfl) hgB _)⟩
 ·have HML:=Lib.hid hml
  clear hml
  go_enter Tryz.func66,Tryz.ntmps66
  go_wp2
  have hS0:SG g w.drew:=hdf 0
  refine B9 (SG g) 99 (fun a0 a' w'=>∃ v20 v21 v22 v23 v24 v25,a'=C8 a0 [(20,v20),(21,v21),(22,v22),(23,v23),(24,v24),(25,v25),(0,.slice (some ⟨g,0,none⟩) (i+0) (i+1)),(26,.slice (some ⟨g,0,none⟩) (i+0) (i+1))]∧C7 C2 3 W B w' (some ⟨g,0,none⟩) (i+0) (i+1) (ws.take i++[])∧Frm (fun b=>blk (some ⟨g,0,none⟩)≠some b) B w w') (by kernel_rfl) ?_ ?_
  ·intro Q' hR hQp
   have hb0:Below w.heap.size w w.drew:=N4 _
   have hS:SG g w.drew:=hS0
   generalize w.drew=wa at *
   have hFa:=hfirst.below hb0
   have hSr:D7 C2 W wa (some ⟨g,0,none⟩) []:=(.inl rfl)
   refine A9 hQp hS [0,1,3,4,2,5] ?_
   iterate 6 (refine B2 _ rfl (by kernel_rfl) (A0 (by kernel_rfl) (by intro w0 hw0;have hw1:=hw0;simp only [SG] at hw1;first|(go_simp;done)|(go_simp;rfl))) ?_;simp only [Act.put,St.tA,St.tD,St.tE,St.tS,St.tC,St.tZ])
   refine B3 ?_
   clear hS
   refine A7 (i:=6) rfl (by kernel_rfl) (by kernel_rfl) fun K6 hK6=>?_
   refine A4h (sh:=C2) (n:=i) (m:=0) (ys:=[]) (.tmp 22) (.tmp 25) 41 (by rfl) 3 i0 Tryz.underlying41 hi0 hz1 (by decide) (ok:=W) (base:=B) (by rfl) hFa (by rfl) HML.out hSr (by omega) ?_
   intro wb hob hgb
   simp only [Act.put,St.tA,St.tD,St.tE,St.tS,St.tC,St.tZ]
   have hS:_:=(hob.cellAny (j:=0) (by show 0<(i+1) * 1;omega)).2
   refine hK6 _ _ (fun _=>hS) ?_
   clear hK6
   refine A9 hQp hS [7] ?_
   iterate 1 (refine B2 _ rfl (by kernel_rfl) (A0 (by kernel_rfl) (by intro w0 hw0;have hw1:=hw0;simp only [SG] at hw1;first|(go_simp;done)|(go_simp;rfl))) ?_;simp only [Act.put,St.tA,St.tD,St.tE,St.tS,St.tC,St.tZ])
   refine B3 ?_
   refine B5 (by kernel_rfl) ?_ _
   refine hR _ _ ?_
   iterate 6 apply Exists.intro
   refine ⟨?_,⟨hob,(Frm.of hb0 hB).trans (Frm.grown hgb (fun k hk=>⟨fun e=>e hk,(hFa.lt k hk).1⟩) (Nat.le_trans hB hb0.size))⟩⟩
   simp only [C8,Act.put,St.tS,St.tC,St.tZ]
   rfl
  rintro a' w8 ⟨v20,v21,v22,v23,v24,v25,rfl,hb8⟩
  simp only [C8,Act.put,St.tS,St.tC,St.tZ]
  obtain ⟨hob,hF⟩:=hb8
  have hm8:i+0=i:=by omega
  have h8b:i<(i+1):=by omega
  rw [hm8] at hob
  have HO:=Lib.hid (hob.cellAny (j:=i) (by show i<(i+1) * 1;omega))
  obtain ⟨⟨v,hv⟩,hf⟩:=HO.out
  have c1:(((i:Nat):Int))≤((((i+1):Nat)):Int):=by omega
  have c2:((((i+1):Nat)):Int)≤((((i+1):Nat)):Int):=by omega
  have c3:(((i:Nat):Int)).toNat=i:=by omega
  have c4:(i+1) - (i)=1:=by omega
  have c5:(0:Int)≤((i:Nat):Int):=by omega
  have hcl:=fun (ty:TypeId) (c:Nat)=>A1m (P:=Tryz.prog) (w:=w8) (t:=41) (ty:=ty) (c:=c) (g:=g) (k:=i) Tryz.underlying41 hi0 hz0 hv hf
  rw [hm8]
  clear hm8
  go_wp2
  go_ret;refine ⟨by first|rfl|simp,by rw [HXE.out];exact hob.beyond (by show (i) * 1≤i;omega) _,hF.trans (Frm.set (a:=⟨g,i,none⟩) (fun e=>e rfl) hgB _)⟩
end Go.Proofs.YtampcbncgofkoaaGreatDoor
namespace Go.St
open Go.RowKit
def A2j (e:TypeId) (size base:Nat) (w:World) (ao:Option Addr) (n cap:Nat) (cells:List Value):Prop:=
 cells.length=n * size∧n≤cap∧cap≤maxLen∧
 ((ao=none∧cap=0)∨∃ g o cur,ao=some ⟨g,o,none⟩∧base≤g∧w.heap[g]? =some (.cells cur e (0,0))∧o+cap * size≤cur.size∧(cur.toList.drop o).take (n * size)=cells)
theorem A2j.nil (e:TypeId) (size base:Nat) (w:World):A2j e size base w none 0 0 []:=⟨by simp,Nat.le_refl _,Nat.zero_le _,.inl ⟨rfl,rfl⟩⟩
theorem A2j.lt {e:TypeId} {size base:Nat} {w:World} {ao:Option Addr} {n cap:Nat} {cells:List Value} (h:A2j e size base w ao n cap cells):∀ k,blk ao=some k→base≤k∧k<w.heap.size:=by
 intro k hk
 obtain ⟨_,_,_,⟨rfl,_⟩|⟨g,o,cur,rfl,hb,hg,_⟩⟩:=h
 ·simp [blk] at hk
 ·simp [blk] at hk
  subst hk
  exact ⟨hb,(Array.getElem?_eq_some_iff.1 hg).1⟩
theorem A2j.keep {e:TypeId} {size base:Nat} {w w':World} {ao:Option Addr} {n cap:Nat} {cells:List Value} (h:A2j e size base w ao n cap cells)
  (hk:∀ k,blk ao=some k→w'.heap[k]? =w.heap[k]?):A2j e size base w' ao n cap cells:=by
 obtain ⟨h1,h2,h3,h4⟩:=h
 refine ⟨h1,h2,h3,h4.imp id ?_⟩
 rintro ⟨g,o,cur,rfl,hb,hg,r⟩
 exact ⟨g,o,cur,rfl,hb,(hk g rfl).trans hg,r⟩
theorem A2j.cell {e:TypeId} {size base:Nat} {w:World} {n cap:Nat} {cells:List Value} {g o:Nat} (h:A2j e size base w (some ⟨g,o,none⟩) n cap cells):∀ j u,cells[j]? =some u→w.cell? ⟨g,o+j,none⟩=some u:=by
 intro j u hu
 obtain ⟨_,_,_,⟨h,_⟩|⟨g',o',cur,hq,hb,hgg,hs,ht⟩⟩:=h
 ·cases h
 ·obtain ⟨rfl,rfl⟩:g=g'∧o=o':=by simpa using hq
  rw [cell_of_row w g (o+j) cur e (0,0) hgg]
  rw [←ht,List.getElem?_take,List.getElem?_drop] at hu
  split at hu
  ·simpa using hu
  ·cases hu
section
variable {P : Program} (w : World)
theorem B1g (t ty e:TypeId) (i:TypeInfo) (z:Value) (size bytes:Nat) (ht:P.underlying t=some (.slice e)) (hi:P.info? e=some i) (hz:i.zero=some z)
  (hsize:i.size=size) (hby:i.bytes=bytes) (hzs:z.cells.size=size) (hsz:0<size) (base:Nat)
  (ao:Option Addr) (n cap:Nat) (xs:List Value) (hown:A2j e size base w ao n cap xs)
  (a:Addr) (m c:Nat) (hm:0<m) (news:List Value) (hl:news.length=m * size) (hnews:∀ j u,news[j]? =some u→w.cell? (a.add j)=some u) (h1:∀ u∈news,u.oneCell'=true)
  (h63:n+m≤maxLen) (hbytes:(n+m) * bytes≤140737488355328) (hbase:base≤w.heap.size):
  ∃ ao' cap' w',(Builtin.append_ #[t,t] ty #[.slice ao n cap,.slice (some a) m c]).run P w=.ok (.slice ao' (n+m) cap') w'∧A2j e size base w' ao' (n+m) cap' (xs++news)∧w.grownBy w' (blk ao)∧
   (blk ao'=blk ao∨blk ao'=some w.heap.size):=by
 subst hsize
 subst hby
 have hsmall:n+m≤9223372036854775807:=by simp only [maxLen] at h63;omega
 have hlen:(xs++news).length=(n+m) * i.size:=by rw [List.length_append,hown.1,hl,Nat.add_mul]
 have grown:∀ (old:Nat),old<n+m→∀ (row:Option Nat),
   A2j e i.size base (w.drew.alloc (.cells (xs.toArray++news.toArray++Builtin.zeroCells z.cells (grownCap w (n+m) old e - (n+m))) e))
    (some ⟨w.heap.size,0,none⟩) (n+m) (grownCap w (n+m) old e) (xs++news)∧
   w.grownBy (w.drew.alloc (.cells (xs.toArray++news.toArray++Builtin.zeroCells z.cells (grownCap w (n+m) old e - (n+m))) e)) row:=by
  intro old ho row
  have hge:=grownCap_ge w (n+m) old e
  have hcm:grownCap w (n+m) old e≤maxLen:=grownCap_le_maxLen w (n+m) old e h63
  refine ⟨⟨hlen,hge,hcm,.inr ⟨w.heap.size,0,_,rfl,hbase,heap_alloc_new w.drew _,?_,?_⟩⟩,⟨rfl,rfl,rfl,by simp,fun k hk _=>by first|exact heap_alloc_old w.drew _ hk|exact heap_alloc_old w.drew _ k hk⟩⟩
  ·simp only [Array.size_append,List.size_toArray,size_zeroCells,hzs,hown.1,hl,←Nat.add_mul]
   rw [Nat.zero_add]
   apply Nat.mul_le_mul_right
   omega
  ·simp only [Array.toList_append,List.append_assoc,List.drop_zero]
   rw [←List.append_assoc,←hlen]
   exact List.take_left
 obtain ⟨_,hnc,hcm,⟨rfl,rfl⟩|⟨g,o,cur,rfl,hbg,hg,hcs,htake⟩⟩:=hown
 ·obtain rfl:n=0:=by omega
  have hx:xs=[]:=List.eq_nil_of_length_eq_zero (by simp only [List.length_append,hl] at hlen;simpa using hlen)
  subst hx
  have hr:=run_append_nil (P:=P) w t ty e i z ht hi hz a m c news hl hnews (by omega) (by omega) (by have hb:=hbytes;simp only [Nat.zero_add] at hb;omega)
  have hgr:=grown 0 (by omega) (blk none)
  simp only [Nat.zero_add,List.nil_append,Array.empty_append] at hgr ⊢
  exact ⟨_,_,_,hr,hgr.1,hgr.2,.inr rfl⟩
 ·by_cases hroom:n+m≤cap
  ·have hmul:(n+m) * i.size≤cap * i.size:=Nat.mul_le_mul_right _ hroom
   have hfit:o+n * i.size+news.length≤cur.size:=by rw [hl];rw [Nat.add_mul] at hmul;omega
   have hf:=run_firstCells_some (P:=P) w i.size m a m c news hl hnews
   have hst:=run_storeCells_at P g (o+n * i.size) e news 0 cur w hg (by simpa using hfit) h1
   simp only [Nat.add_zero] at hst
   have hr:(Builtin.append_ #[t,t] ty #[.slice (some ⟨g,o,none⟩) n cap,.slice (some a) m c]).run P w=.ok (.slice (some ⟨g,o,none⟩) (n+m) cap) (w.setRow g (cur.toList.take (o+n * i.size)++news++cur.toList.drop (o+n * i.size+news.length)).toArray):=by
    simp [Builtin.append_,run_underlying ht,sizeOf,typeInfo,hi,Builtin.lenOf,hroom,hf,Addr.add_lit,hst]
   refine ⟨_,_,_,hr,⟨hlen,hroom,hcm,.inr ⟨g,o,_,rfl,hbg,setRow_heap w g cur _ e _ hg,?_,?_⟩⟩,⟨rfl,rfl,rfl,by simp,fun k _ hk=>setRow_other w g k _ (fun e=>hk (by simp [blk,e]))⟩,.inl rfl⟩
   ·simp only [List.size_toArray,List.length_append,List.length_take,List.length_drop,Array.length_toList]
    omega
   ·have hlt:(cur.toList.take (o+n * i.size)).length=o+n * i.size:=by rw [List.length_take,Array.length_toList];omega
    show List.take _ (List.drop o (cur.toList.take (o+n * i.size)++news++cur.toList.drop (o+n * i.size+news.length)))=_
    rw [List.append_assoc,List.drop_append_of_le_length (by omega),List.drop_take,show o+n * i.size - o=n * i.size by omega,htake,←List.append_assoc,←hlen]
    exact List.take_left
  ·have holds:∀ j u,xs[j]? =some u→w.cell? ((⟨g,o,none⟩:Addr).add j)=some u:=by
    intro j u hu
    rw [Addr.add_lit,cell_of_row w g (o+j) cur e (0,0) hg]
    rw [←htake,List.getElem?_take,List.getElem?_drop] at hu
    split at hu
    ·simpa using hu
    ·cases hu
   have hr:=run_append_grow (P:=P) w t ty e i z ht hi hz ⟨g,o,none⟩ n cap xs (by simp only [List.length_append,hl,Nat.add_mul] at hlen;omega) holds a m c news hl hnews (by omega) (by omega) (growslice_fits (by omega) hbytes)
   have hgr:=grown cap (by omega) (blk (some ⟨g,o,none⟩))
   exact ⟨_,_,_,hr,hgr.1,hgr.2,.inr rfl⟩
end
def qR {α:Type} (sh:D1 α) (e:TypeId) (ok:Nat→Prop) (base:Nat) (w:World) (ao:Option Addr) (n cap:Nat) (xs:List α):Prop:=
 ∃ cells,A2j e sh.size base w ao n cap cells∧xs.length=n∧∀ i x,xs[i]? =some x→sh.rep ok w (I3 sh.size cells i) x
section
variable {α : Type} {sh : D1 α} {e : TypeId} {ok ok' : Nat → Prop} {base : Nat} {w w' : World} {ao : Option Addr} {n cap : Nat} {xs : List α}
theorem qR.nil (sh:D1 α) (e:TypeId) (ok:Nat→Prop) (base:Nat) (w:World):qR sh e ok base w none 0 0 []:=⟨[],A2j.nil _ _ _ _,rfl,by simp⟩
theorem qR.lt (h:qR sh e ok base w ao n cap xs):∀ k,blk ao=some k→base≤k∧k<w.heap.size:=by obtain ⟨_,h,_⟩:=h;exact h.lt
theorem qR.len (h:qR sh e ok base w ao n cap xs):xs.length=n:=by obtain ⟨_,_,h,_⟩:=h;exact h
theorem qR.caps (h:qR sh e ok base w ao n cap xs):n≤cap∧cap≤maxLen:=by obtain ⟨_,h,_⟩:=h;exact ⟨h.2.1,h.2.2.1⟩
theorem qR.keep (h:qR sh e ok base w ao n cap xs) (hk:∀ k,k<w.heap.size→blk ao=some k∨ok k→w'.heap[k]? =w.heap[k]?) (ho:∀ k,k<w.heap.size→ok k→ok' k):qR sh e ok' base w' ao n cap xs:=by
 obtain ⟨cells,h1,h2,h3⟩:=h
 exact ⟨cells,h1.keep fun k hk'=>hk k (h1.lt k hk').2 (.inl hk'),h2,fun i x hx=>sh.mono (h3 i x hx) fun b hb hb2=>⟨ho b hb hb2,hk b hb (.inr hb2)⟩⟩
theorem qR.below (h:qR sh e ok base w ao n cap xs) (hb:Below w.heap.size w w'):qR sh e ok base w' ao n cap xs:=h.keep (fun k hk _=>hb.block k hk) (fun _ _ h=>h)
theorem qR.frm {W:Nat→Prop} {B:Nat} (h:qR sh e ok base w ao n cap xs) (F:Frm W B w w') (hk:∀ k,k<w.heap.size→blk ao=some k∨ok k→W k∨k<B) (ho:∀ k,k<w.heap.size→ok k→ok' k):qR sh e ok' base w' ao n cap xs:=
 h.keep (fun k hl h1=>by
  rcases hk k hl h1 with h2|h2
  ·exact F.keep k hl h2
  ·exact F.below.block k h2) ho
theorem qR.at (h:qR sh e ok base w ao n cap xs) {i:Nat} {x:α} (hx:xs[i]? =some x):∃ g o cs,ao=some ⟨g,o,none⟩∧base≤g∧g<w.heap.size∧sh.rep ok w cs x∧
  (∀ j c,cs[j]? =some c→w.cell? ⟨g,o+i * sh.size+j,none⟩=some c)∧(∀ o,w.frozen? ⟨g,o,none⟩=false)∧∃ cur,w.heap[g]? =some (.cells cur e (0,0)):=by
 obtain ⟨cells,h1,rfl,h3⟩:=h
 have h1':=h1
 obtain ⟨hc,hle,hm,⟨rfl,h0⟩|⟨g,o,cur,rfl,hb,hg,hs,ht⟩⟩:=h1
 ·have:=(List.getElem?_eq_some_iff.1 hx).1
  omega
 ·refine ⟨g,o,_,rfl,hb,(h1'.lt g rfl).2,h3 i x hx,fun j c hj=>?_,fun o=>by simp [World.frozen?,hg],cur,hg⟩
  have:=h1'.cell _ _ (Z2 hj)
  rwa [show o+i * sh.size+j=o+(i * sh.size+j) by omega]
theorem qR.row (h:qR sh e ok base w ao n cap xs) (ho:∀ b,ok b→ok' b) (hb:∀ k,blk ao=some k→ok' k):A8 sh ok' w ao cap xs:=by
 have hn:=h.len
 have hc:=h.caps
 refine ⟨by omega,hc.2,?_⟩
 by_cases hx:xs=[]
 ·exact .inl hx
 ·right
  obtain ⟨x,hx0⟩:∃ x,xs[0]? =some x:=⟨_,List.getElem?_eq_getElem (List.length_pos_iff.2 hx)⟩
  obtain ⟨g,o,_,rfl,_,hg,_⟩:=h.at hx0
  refine ⟨g,o,rfl,hb g rfl,hg,fun i x hi=>?_⟩
  obtain ⟨g',o',cs,e1,_,_,hr,hc,_⟩:=h.at hi
  obtain ⟨rfl,rfl⟩:g=g'∧o=o':=by simpa using e1
  exact ⟨cs,sh.anyOk hr fun b _ hb=>ho b hb,hc⟩
theorem qR.pop {g o:Nat} {x:α} (h:qR sh e ok base w (some ⟨g,o,none⟩) (n+1) cap (x::xs)):qR sh e ok base w (some ⟨g,o+sh.size,none⟩) n (cap - 1) xs:=by
 obtain ⟨cells,⟨h1,h2,h3,h4⟩,hl,h5⟩:=h
 rcases h4 with ⟨h4,_⟩|⟨g',o',cur,hq,hb,hg,hs,ht⟩
 ·cases h4
 obtain ⟨rfl,rfl⟩:g=g'∧o=o':=by simpa using hq
 have hcap:cap=(cap - 1)+1:=by omega
 rw [hcap,Nat.succ_mul] at hs
 refine ⟨cells.drop sh.size,⟨by rw [List.length_drop,h1,Nat.succ_mul];omega,by omega,by omega,.inr ⟨g,o+sh.size,cur,rfl,hb,hg,by omega,?_⟩⟩,by simpa using hl,fun i y hy=>?_⟩
 ·rw [←ht,List.drop_take,List.drop_drop,Nat.succ_mul]
  congr 1
  omega
 ·have:=h5 (i+1) y (by simpa using hy)
  unfold I3 at this ⊢
  rw [List.drop_drop]
  rwa [show sh.size+i * sh.size=(i+1) * sh.size by rw [Nat.succ_mul];omega]
theorem qR.pop2 {g o:Nat} {x:α} {ad:Option Addr} (h:qR sh e ok base w (some ⟨g,o,none⟩) (n+1) cap (x::xs)) (had:ad=some ⟨g,o+sh.size,none⟩∨(cap=1∧ad=some ⟨g,o,none⟩)):qR sh e ok base w ad n (cap - 1) xs:=by
 rcases had with rfl|⟨hc,rfl⟩
 ·exact h.pop
 ·obtain ⟨cells,⟨h1,h2,h3,h4⟩,hl,h5⟩:=h
  rcases h4 with ⟨h4,_⟩|⟨g',o',cur,hq,hb,hg,hs,ht⟩
  ·cases h4
  obtain ⟨rfl,rfl⟩:g=g'∧o=o':=by simpa using hq
  subst hc
  obtain rfl:n=0:=by omega
  obtain rfl:xs=[]:=List.eq_nil_of_length_eq_zero (by simpa using hl)
  exact ⟨[],⟨by simp,Nat.zero_le _,by omega,.inr ⟨g,o,cur,rfl,hb,hg,by omega,by simp⟩⟩,rfl,by simp⟩
theorem qR.noType (h:qR sh e ok base w ao n cap xs) {g:Nat} {cur:Array Value} {e':TypeId} {fr:Nat × Nat} (hg:w.heap[g]? =some (.cells cur e' fr)) (hne:e≠e'):blk ao≠some g:=by
 obtain ⟨cells,⟨_,_,_,⟨rfl,_⟩|⟨g',o,cur',rfl,_,hg',_⟩⟩,_⟩:=h
 ·simp [blk]
 ·intro hk
  obtain rfl:g'=g:=by simpa [blk] using hk
  rw [hg'] at hg
  simp at hg
  exact hne hg.2.1
theorem qR.has (h:qR sh e ok base w ao n cap xs) {k:Nat} (hk:blk ao=some k):∃ cur,w.heap[k]? =some (.cells cur e (0,0)):=by
 obtain ⟨cells,⟨_,_,_,⟨rfl,_⟩|⟨g',o,cur',rfl,_,hg',_⟩⟩,_⟩:=h
 ·simp [blk] at hk
 ·obtain rfl:g'=k:=by simpa [blk] using hk
  exact ⟨_,hg'⟩
theorem qR.put1 {g q:Nat} (h:qR sh e ok base w (some ⟨g,q,none⟩) n cap xs) (hng:¬ok g) {i o:Nat} {x y:α} (hx:xs[i]? =some x) (ho:o<sh.size) (v:Value)
  (hy:∀ cs,sh.rep ok w cs x→sh.rep ok w (cs.set o v) y):qR sh e ok base (w.setCell ⟨g,q+i * sh.size+o,none⟩ v) (some ⟨g,q,none⟩) n cap (xs.set i y):=by
 obtain ⟨cells,⟨hc,hle,hm,h6⟩,rfl,h3⟩:=h
 rcases h6 with ⟨h6,_⟩|⟨g',q',cur,hg',hb,hg,hs,ht⟩
 ·cases h6
 obtain ⟨rfl,rfl⟩:g=g'∧q=q':=by simpa using hg'
 have hi:=(List.getElem?_eq_some_iff.1 hx).1
 have hp:i * sh.size+o<xs.length * sh.size:=by
  have:=Nat.mul_le_mul_right sh.size hi
  rw [Nat.succ_mul] at this
  omega
 have hmono:∀ {cs:List Value} {a:α},sh.rep ok w cs a→sh.rep ok (w.setCell ⟨g,q+i * sh.size+o,none⟩ v) cs a:=fun h=>sh.mono h fun b _ hb=>⟨hb,Below.heap_setCell _ _ _ _ (fun e=>hng (by have e1:b=g:=e;rw [←e1];exact hb))⟩
 refine ⟨cells.set (i * sh.size+o) v,⟨by rw [List.length_set];exact hc,hle,hm,.inr ⟨g,q,cur.setIfInBounds (q+i * sh.size+o) v,rfl,hb,?_,by simpa using hs,?_⟩⟩,by simp,?_⟩
 ·have:w.heap[g]? =some (.cells cur e (0,0)):=hg
  simp [World.setCell,Array.getElem?_modify,this]
 ·rw [Array.toList_setIfInBounds,show q+i * sh.size+o=q+(i * sh.size+o) by omega,List.drop_set,if_neg (by omega),List.take_set,ht]
  congr 1
  omega
 ·intro k z hz
  rw [A5v ho]
  rw [List.getElem?_set] at hz
  by_cases hk:k=i
  ·subst hk
   rw [if_pos rfl]
   rw [if_pos rfl,if_pos hi] at hz
   obtain rfl:y=z:=by simpa using hz
   exact hmono (hy _ (h3 k x hx))
  ·rw [if_neg hk]
   rw [if_neg (Ne.symm hk)] at hz
   exact hmono (h3 k z hz)
theorem qR.setOther (h:qR sh e ok base w ao n cap xs) {a:Addr} (hne:blk ao≠some a.block) (hok:¬ok a.block) (v:Value):qR sh e ok base (w.setCell a v) ao n cap xs:=
 h.keep (fun k _ hk=>Below.heap_setCell _ _ _ _ (by
  rintro rfl
  rcases hk with hk|hk
  ·exact hne hk
  ·exact hok hk)) (fun _ _ h=>h)
end
section
variable {P : Program} {w : World}
theorem B2k {α:Type} {sh:D1 α} (t ty e:TypeId) (i:TypeInfo) (z:Value) (bytes:Nat) (ht:P.underlying t=some (.slice e)) (hi:P.info? e=some i) (hz:i.zero=some z)
  (hsize:i.size=sh.size) (hby:i.bytes=bytes) (hzs:z.cells.size=sh.size) (hsz:0<sh.size) {ok:Nat→Prop} {base:Nat}
  {ao:Option Addr} {n cap:Nat} {xs:List α} (hown:qR sh e ok base w ao n cap xs) (hng:∀ k,blk ao=some k→¬ok k)
  {ax:Option Addr} {c:Nat} {y:α} (hsrc:D7 sh ok w ax [y])
  (h63:n+1≤maxLen) (hbytes:(n+1) * bytes≤140737488355328) (hbase:base≤w.heap.size):
  ∃ ao' cap' w',(Builtin.append_ #[t,t] ty #[.slice ao n cap,.slice ax 1 c]).run P w=.ok (.slice ao' (n+1) cap') w'∧qR sh e (fun b=>ok b∧b<w.heap.size) base w' ao' (n+1) cap' (xs++[y])∧w.grownBy w' (blk ao)∧
   (blk ao'=blk ao∨blk ao'=some w.heap.size):=by
 obtain ⟨cells,h1,h2,h3⟩:=hown
 rcases hsrc with hsrc|⟨b,off,rfl,he⟩
 ·cases hsrc
 obtain ⟨news,n1,n2,n3,n4⟩:=he.cells
 obtain ⟨ao',cap',w',hr,ho,hg,hd⟩:=B1g (P:=P) w t ty e i z sh.size bytes ht hi hz hsize hby hzs hsz base ao n cap cells h1 ⟨b,off,none⟩ 1 c (by decide) news (by simpa using n1) (fun j u hu=>by rw [Addr.add_lit];exact n3 j u hu) n4 h63 hbytes hbase
 have hkeep:∀ b,b<w.heap.size→ok b→w'.heap[b]? =w.heap[b]? :=fun b hl hb=>hg.block b hl (fun e=>hng b e.symm hb)
 refine ⟨ao',cap',w',hr,⟨_,ho,by rw [List.length_append,←h2];rfl,?_⟩,hg,hd⟩
 intro i x hx
 by_cases hi:i<xs.length
 ·rw [List.getElem?_append_left hi] at hx
  rw [A21 h1.1 (by omega)]
  exact sh.mono (h3 i x hx) fun b hl hb=>⟨⟨hb,hl⟩,hkeep b hl hb⟩
 ·rw [List.getElem?_append_right (by omega)] at hx
  have:=X8 (size:=sh.size) (xs:=cells) (ys:=news) (i - xs.length) h1.1
  rw [show n+(i - xs.length)=i by omega] at this
  rw [this]
  exact sh.mono (n2 _ x hx) fun b hl hb=>⟨⟨hb,hl⟩,hkeep b hl hb⟩
theorem A3s {α:Type} {sh:D1 α} {o:Oper} {a:Act} {K:Act→World→Prop} {Q:Exit→Act→World→Prop} (s x:Operand) (t:TypeId)
  (ho:o.op=.call {callee:=.builtin .append,args:=#[s,x],argTypes:=#[t,t]})
  (e:TypeId) (i:TypeInfo) (z:Value) (bytes:Nat) (ht:P.underlying t=some (.slice e)) (hi:P.info? e=some i) (hz:i.zero=some z)
  (hsize:i.size=sh.size) (hby:i.bytes=bytes) (hzs:z.cells.size=sh.size) (hsz:0<sh.size) {ok:Nat→Prop} {base:Nat}
  {ao:Option Addr} {n cap:Nat} {xs:List α} (hs:a.eval s=.slice ao n cap) (hown:qR sh e ok base w ao n cap xs) (hng:∀ k,blk ao=some k→¬ok k)
  {ax:Option Addr} {c:Nat} {y:α} (hx:a.eval x=.slice ax 1 c) (hsrc:D7 sh ok w ax [y])
  (h63:n+1≤maxLen) (hbytes:(n+1) * bytes≤140737488355328) (hbase:base≤w.heap.size)
  (h:∀ ao' cap' w',qR sh e (fun b=>ok b∧b<w.heap.size) base w' ao' (n+1) cap' (xs++[y])→w.grownBy w' (blk ao)→(blk ao'=blk ao∨blk ao'=some w.heap.size)→K (a.put o.dst (.slice ao' (n+1) cap')) w'):o.wp P a w K Q:=by
 obtain ⟨ao',cap',w',hr,h2,h3,h4⟩:=B2k (P:=P) t o.type e i z bytes ht hi hz hsize hby hzs hsz hown hng (c:=c) hsrc h63 hbytes hbase
 unfold Oper.wp execOp
 simp only [ho,resolve,invoke,builtin,Sem.run_bind,Sem.run_pure,Result.andThen_ok,List.map_toArray,List.map_cons,List.map_nil,hs,hx,hr]
 exact h ao' cap' w' h2 h3 h4
theorem A3c {α:Type} {sh:D1 α} {ops:Array Oper} {rest:List Oper} {o:Oper} {a:Act} {Q:Exit→Act→World→Prop} (hgd:o.guard=none) (s x:Operand) (t:TypeId)
  (ho:o.op=.call {callee:=.builtin .append,args:=#[s,x],argTypes:=#[t,t]})
  (e:TypeId) (i:TypeInfo) (z:Value) (bytes:Nat) (ht:P.underlying t=some (.slice e)) (hi:P.info? e=some i) (hz:i.zero=some z)
  (hsize:i.size=sh.size) (hby:i.bytes=bytes) (hzs:z.cells.size=sh.size) (hsz:0<sh.size) {ok:Nat→Prop} {base:Nat}
  {ao:Option Addr} {n cap:Nat} {xs:List α} (hs:a.eval s=.slice ao n cap) (hown:qR sh e ok base w ao n cap xs) (hng:∀ k,blk ao=some k→¬ok k)
  {ax:Option Addr} {c:Nat} {y:α} (hx:a.eval x=.slice ax 1 c) (hsrc:D7 sh ok w ax [y])
  (h63:n+1≤maxLen) (hbytes:(n+1) * bytes≤140737488355328) (hbase:base≤w.heap.size)
  (h:∀ ao' cap' w',qR sh e (fun b=>ok b∧b<w.heap.size) base w' ao' (n+1) cap' (xs++[y])→w.grownBy w' (blk ao)→(blk ao'=blk ao∨blk ao'=some w.heap.size)→wpList P ops Q rest (a.put o.dst (.slice ao' (n+1) cap')) w'):wpList P ops Q (o::rest) a w:=
 wpList_plain hgd fun _ hK=>A3s s x t ho e i z bytes ht hi hz hsize hby hzs hsz hs hown hng hx hsrc h63 hbytes hbase fun ao' cap' w' h2 h3 h4=>hK _ _ (h ao' cap' w' h2 h3 h4)
end
theorem P1 {v f s:Int} {x:C1}:∀ {p:List Int},x∈F0 v f s p↔x.ver=v∧x.flow=f∧∃ k,p[k]? =some s∧p[k+1]? =some x.next
  |[]=>by simp [F0]
  |[a]=>by
    simp [F0]
  |a::b::l=>by
    rw [F0,List.mem_append,P1 (p:=b::l)]
    constructor
    · rintro (h|⟨h1,h2,k,h3,h4⟩)
      · by_cases e:a=s
        · rw [if_pos e] at h
          obtain rfl:=List.mem_singleton.1 h
          exact ⟨rfl,rfl,0,by simp [e],by simp⟩
        · rw [if_neg e] at h;simp at h
      · exact ⟨h1,h2,k+1,by simpa using h3,by simpa using h4⟩
    · rintro ⟨h1,h2,k,h3,h4⟩
      cases k with
      |zero=>
        left
        have e:a=s:=by simpa using h3
        have e2:b=x.next:=by simpa using h4
        rw [if_pos e,List.mem_singleton]
        obtain ⟨xv,xf,xn⟩:=x
        simp at h1 h2 e2
        rw [h1,h2,e2]
      |succ k=>exact .inr ⟨h1,h2,k,by simpa using h3,by simpa using h4⟩
theorem Y2 {v s : Int} {x : C1} : ∀ {ps : List (List Int)} {f : Int}, x ∈ D4 v s f ps ↔ ∃ (i : Nat) (p : List Int), ps[i]? = some p ∧ x ∈ F0 v (f + i) s p
  | [], f => by simp [D4]
  | p :: ps, f => by
    rw [D4, List.mem_append, Y2 (ps := ps)]
    constructor
    · rintro (h | ⟨i, q, h1, h2⟩)
      · exact ⟨0, p, rfl, by simpa using h⟩
      · exact ⟨i + 1, q, by simpa using h1, by rw [show f + ((i + 1 : Nat) : Int) = f + 1 + (i : Int) by omega]; exact h2⟩
    · rintro ⟨i, q, h1, h2⟩
      cases i with
      | zero => obtain rfl : p = q := by simpa using h1
                exact .inl (by simpa using h2)
      | succ i => exact .inr ⟨i, q, by simpa using h1, by rw [show f + 1 + (i : Int) = f + ((i + 1 : Nat) : Int) by omega]; exact h2⟩
theorem L8 {p:F5} {s:Int} {x:C1}:x∈C6 p s↔x.ver=p.ver∧∃ (i:Nat) (q:List Int) (k:Nat),p.paths[i]? =some q∧x.flow=i∧q[k]? =some s∧q[k+1]? =some x.next:=by
 unfold C6
 rw [Y2]
 constructor
 ·rintro ⟨i,q,h1,h2⟩
  obtain ⟨h3,h4,k,h5,h6⟩:=P1.1 h2
  exact ⟨h3,i,q,k,h1,by omega,h5,h6⟩
 ·rintro ⟨h3,i,q,k,h1,h4,h5,h6⟩
  exact ⟨i,q,h1,P1.2 ⟨h3,by omega,k,h5,h6⟩⟩
theorem B34 {p:List Int} (h:p.Nodup) {i j:Nat} {x:Int} (hi:p[i]? =some x) (hj:p[j]? =some x):i=j:=by
 obtain ⟨h1,rfl⟩:=List.getElem?_eq_some_iff.1 hi
 obtain ⟨h2,e⟩:=List.getElem?_eq_some_iff.1 hj
 rcases Nat.lt_trichotomy i j with h3|h3|h3
 ·exact absurd e.symm (List.pairwise_iff_getElem.1 h i j h1 h2 h3)
 ·exact h3
 ·exact absurd e (List.pairwise_iff_getElem.1 h j i h2 h1 h3)
theorem A0f {v f s:Int}:∀ {p:List Int},p.Nodup→(F0 v f s p).Pairwise (fun a b=>B4 a b=true)
 |[],_=>by simp [F0]
 |[a],_=>by simp [F0]
 |a::b::l,h=>by
  have ih:=A0f (v:=v) (f:=f) (s:=s) (List.nodup_cons.1 h).2
  rw [F0]
  by_cases e:a=s
  ·rw [if_pos e]
   have:F0 v f s (b::l)=[]:=by
    rw [List.eq_nil_iff_forall_not_mem]
    intro x hx
    obtain ⟨_,_,k,h1,_⟩:=P1.1 hx
    exact (List.nodup_cons.1 h).1 (by rw [e];exact List.mem_of_getElem? h1)
   rw [this];simp
  ·rw [if_neg e];exact ih
theorem A2g {v s:Int}:∀ {ps:List (List Int)} {f:Int},(∀ p∈ps,p.Nodup)→(D4 v s f ps).Pairwise (fun a b=>B4 a b=true)
 |[],_,_=>by simp [D4]
 |p::ps,f,h=>by
  rw [D4]
  refine List.pairwise_append.2 ⟨A0f (h p (by simp)),A2g fun q hq=>h q (List.mem_cons_of_mem _ hq),fun x hx y hy=>?_⟩
  obtain ⟨h1,h2,_⟩:=P1.1 hx
  obtain ⟨i,q,_,h3⟩:=Y2.1 hy
  obtain ⟨h4,h5,_⟩:=P1.1 h3
  rw [A08];omega
theorem A1o {v f s:Int}:∀ (p:List Int),(F0 v f s p).length≤p.length
 |[]=>by simp [F0]
 |[a]=>by simp [F0]
 |a::b::l=>by
  have:=A1o (v:=v) (f:=f) (s:=s) (b::l)
  rw [F0,List.length_append]
  simp only [List.length_cons] at *
  split<;>simp<;>omega
theorem A1k {v s:Int} {k:Nat}:∀ {ps:List (List Int)} {f:Int},(∀ p∈ps,p.length≤k)→(D4 v s f ps).length≤ps.length * k
 |[],_,_=>by simp [D4]
 |p::ps,f,h=>by
  have h1:=A1k (v:=v) (s:=s) (f:=f+1) (ps:=ps) fun q hq=>h q (List.mem_cons_of_mem _ hq)
  have h2:=A1o (v:=v) (f:=f) (s:=s) p
  have h3:=h p (by simp)
  rw [D4,List.length_append,List.length_cons,Nat.add_mul];omega
theorem A3i {t:C5} {v:Int} {all:List E0}:∀ {r:List E0} {i:Int} {ps:List (List Int)},0≤i→(C2c t v all i ps r).2.1=0→(C2c t v all i ps r).1=⟨v,all,ps++r.map fun f=>(I1 t f).1⟩∧∀ f∈r,(I1 t f).2=0
 |[],i,ps,_,_=>by simp [C2c]
 |f::r,i,ps,hi,h=>by
  rw [C2c] at h ⊢
  by_cases h0:(I1 t f).2=0
  ·rw [if_pos h0] at h ⊢
   obtain ⟨h1,h2⟩:=A3i (by omega) h
   refine ⟨by rw [h1];simp,fun g hg=>?_⟩
   rcases List.mem_cons.1 hg with rfl|hg
   ·exact h0
   ·exact h2 g hg
  ·rw [if_neg h0] at h;exact absurd h h0
structure J9 (t:C5) (v:Int) (l:List E0) (p:F5):Prop where
 topo:(B6 t).1=0
 n1:1≤t.n
 n8:t.n≤8
 v1:1≤v
 v2:v≤1000
 len:l.length≤12
 ver:p.ver=v
 flows:p.flows=l
 plen:p.paths.length=l.length
 good:∀ (i:Nat) (f:E0) (q:List Int),l[i]? =some f→p.paths[i]? =some q→(I1 t f).2=0∧q=(I1 t f).1∧A0j t f q
theorem A6v {t:C5} {v:Int} {l:List E0} (h:(D2 t v l).2.1=0):J9 t v l (D2 t v l).1:=by
 unfold D2 at *
 by_cases h1:(B6 t).1=0
 case neg=>rw [if_pos h1] at h;exact absurd h h1
 rw [if_neg (by simpa using h1)] at h ⊢
 by_cases h2:v<1∨1000<v
 ·rw [if_pos h2] at h;exact absurd (show (3:Int)=0 from h) (by decide)
 rw [if_neg h2] at h ⊢
 by_cases h3:(D0 l t.n).1=0
 case neg=>rw [if_pos h3] at h;exact absurd h h3
 rw [if_neg (by simpa using h3)] at h ⊢
 obtain ⟨h4,h5⟩:=A3i (Int.le_refl 0) h
 rw [h4,List.nil_append]
 have hn:¬(t.n<1∨8<t.n∨28<t.links.length):=fun hc=>by
  unfold B6 at h1;rw [if_pos hc] at h1;exact absurd (show (5:Int)=0 from h1) (by decide)
 have hl:¬12<l.length:=fun hc=>by
  unfold D0 at h3;rw [if_pos hc] at h3;exact absurd (show (5:Int)=0 from h3) (by decide)
 refine ⟨h1,by omega,by omega,by omega,by omega,by omega,rfl,rfl,by simp,fun i f q hf hq=>?_⟩
 have e:q=(I1 t f).1:=by
  simp only [List.getElem?_map,hf,Option.map_some,Option.some.injEq] at hq
  exact hq.symm
 have h0:=h5 f (List.mem_of_getElem? hf)
 exact ⟨h0,e,e▸(B0p h0).2.2.1⟩
section
variable {t : C5} {v : Int} {l : List E0} {p : F5}
theorem J9.at (h:J9 t v l p) {i:Nat} {q:List Int} (hq:p.paths[i]? =some q):∃ f,l[i]? =some f∧A0j t f q:=by
 have hi:=(List.getElem?_eq_some_iff.1 hq).1
 rw [h.plen] at hi
 exact ⟨_,List.getElem?_eq_getElem hi,(h.good i _ q (List.getElem?_eq_getElem hi) hq).2.2⟩
theorem J9.mem (h:J9 t v l p) {q:List Int} (hq:q∈p.paths):∃ f,A0j t f q:=by
 obtain ⟨i,hi⟩:=List.getElem?_of_mem hq
 obtain ⟨f,_,hg⟩:=h.at hi
 exact ⟨f,hg⟩
theorem J9.rise (h:J9 t v l p) (s:Int):(C6 p s).Pairwise (fun a b=>B4 a b=true):=
 A2g fun q hq=>let ⟨_,hg⟩:=h.mem hq;hg.nodup
theorem J9.plen8 (h:J9 t v l p) {q:List Int} (hq:q∈p.paths):1≤q.length∧q.length≤8:=by
  obtain ⟨f,hg⟩:=h.mem hq
  have h8:=h.n8
  refine ⟨?_,?_⟩
  · have:=hg.src
    cases q with
    |nil=>simp at this
    |cons a b=>simp
  · have h1:=T1 hg.nodup hg.rng
    omega
theorem J9.short (h:J9 t v l p) (s:Int):(C6 p s).length≤96:=by
 have h1:=A1k (v:=p.ver) (s:=s) (f:=0) (ps:=p.paths) (k:=8) fun q hq=>(h.plen8 hq).2
 have h2:=h.plen
 have h3:=h.len
 unfold C6
 omega
theorem J9.out (h:J9 t v l p) {s:Int} {r:C1} (hr:r∈C6 p s):¬O3 r:=by
 obtain ⟨h1,i,q,k,h2,h3,h4,h5⟩:=L8.1 hr
 obtain ⟨f,hf,hg⟩:=h.at h2
 have h6:=(List.getElem?_eq_some_iff.1 hf).1
 have h7:=hg.rng _ (List.mem_of_getElem? h5)
 have:=h.n8;have:=h.v1;have:=h.v2;have:=h.ver;have:=h.len
 unfold O3;omega
end
open Go.RowKit
def N7 (n:Nat) (f:Nat→Option Addr × Nat) (len:Nat→Nat):Array Value:=((List.range n).map fun i=>Value.slice (f i).1 (len i) (f i).2).toArray
theorem X4 {n:Nat} {f:Nat→Option Addr × Nat} {len:Nat→Nat} {i:Nat} (hi:i<n):(N7 n f len)[i]? =some (.slice (f i).1 (len i) (f i).2):=by simp [N7,hi]
theorem A1l (n:Nat):madeCells #[.slice none 0 0] n=N7 n (fun _=>(none,0)) (fun _=>0):=by
 apply Array.toList_inj.1
 rw [toList_madeCells_one]
 apply List.ext_getElem
 ·simp [N7]
 ·intro i h1 h2
  simp [N7]
theorem A3a {n:Nat} {f:Nat→Option Addr × Nat} {len:Nat→Nat} {s:Nat} (hs:s<n) (a:Option Addr) (c m:Nat):(N7 n f len).setIfInBounds s (.slice a m c)=N7 n (upd f s (a,c)) (upd len s m):=by
 apply Array.toList_inj.1
 apply List.ext_getElem?
 intro i
 by_cases hi:i<n
 ·by_cases h:s=i
  ·subst h;simp [N7,hs,upd]
  ·have h':¬i=s:=fun e=>h e.symm
   simp [N7,List.getElem?_set,hi,h,h',upd]
 ·rw [List.getElem?_eq_none (by simp [N7];omega),List.getElem?_eq_none (by simp [N7];omega)]
theorem T7 {n:Nat} {f:Nat→Option Addr × Nat} {len len':Nat→Nat} (h:∀ i,i<n→len i=len' i):N7 n f len=N7 n f len':=by
 unfold N7
 congr 1
 exact List.map_congr_left fun i hi=>by rw [h i (List.mem_range.1 hi)]
structure TQ {α:Type} (sh:D1 α) (te t:TypeId) (ok:Nat→Prop) (base:Nat) (w:World) (ob n:Nat) (f:Nat→Option Addr × Nat) (rows:List (List α)):Prop where
 len:rows.length=n
 blk:A6 w ob te (N7 n f fun i=>(rows.getD i []).length)
 own:∀ i,i<n→qR sh t ok base w (f i).1 (rows.getD i []).length (f i).2 (rows.getD i [])
 apart:∀ i j k,i<n→j<n→Go.St.blk (f i).1=some k→Go.St.blk (f j).1=some k→i=j
section
variable {α : Type} {sh : D1 α} {te t : TypeId} {ok ok' : Nat → Prop} {base : Nat} {w w' : World} {ob n : Nat} {f : Nat → Option Addr × Nat} {rows : List (List α)}
theorem TQ.cell (h:TQ sh te t ok base w ob n f rows) {i:Nat} (hi:i<n):w.cell? ⟨ob,i,none⟩=some (.slice (f i).1 (rows.getD i []).length (f i).2):=by
 rw [h.blk.cells.1];exact X4 hi
theorem TQ.frm {W:Nat→Prop} {B:Nat} (h:TQ sh te t ok base w ob n f rows) (F:Frm W B w w') (h0:W ob∨ob<B) (h1:∀ i,i<n→∀ k,Go.St.blk (f i).1=some k→W k∨k<B) (h2:∀ k,k<w.heap.size→ok k→W k∨k<B) (h3:∀ k,k<w.heap.size→ok k→ok' k):TQ sh te t ok' base w' ob n f rows:=
 ⟨h.len,F.blk h.blk h0,fun i hi=>(h.own i hi).frm F (fun k hk h4=>h4.elim (h1 i hi k) (h2 k hk)) h3,h.apart⟩
theorem TQ.put (h:TQ sh te t ok base w ob n f rows) (hte:t≠te) {s:Nat} (hs:s<n) {ao:Option Addr} {cap m:Nat} {l:List α} (hm:m=l.length) (ho:qR sh t ok' base w' ao m cap l) (hg:w.grownBy w' (Go.St.blk (f s).1))
  (hd:Go.St.blk ao=Go.St.blk (f s).1∨Go.St.blk ao=some w.heap.size) (hok:∀ b,b<w.heap.size→ok b→ok' b) (hnr:∀ k,Go.St.blk (f s).1=some k→¬ok k) (hob:¬ok ob) (hob':¬ok' ob):
  TQ sh te t ok' base (w'.setCell ⟨ob,s,none⟩ (.slice ao m cap)) ob n (upd f s (ao,cap)) (rows.set s l):=by
 subst hm
 have hkeep:∀ k,k≠ob→(w'.setCell ⟨ob,s,none⟩ (.slice ao l.length cap)).heap[k]? =w'.heap[k]? :=fun k hk=>Below.heap_setCell _ _ _ _ hk
 have hsl:s<rows.length:=by rw [h.len];exact hs
 have hrow:∀ i,(rows.set s l).getD i []=if i=s then l else rows.getD i []:=fun i=>by
  rw [List.getD_eq_getElem?_getD,List.getElem?_set]
  by_cases e:i=s
  ·subst e;simp [hsl]
  ·have e':¬s=i:=fun h=>e h.symm
   simp [e,e',List.getD_eq_getElem?_getD]
 have hbn:∀ i,i<n→Go.St.blk (f i).1≠some ob:=fun i hi=>(h.own i hi).noType h.blk hte
 have hb:A6 w' ob te (N7 n f fun i=>(rows.getD i []).length):=h.blk.grown hg (fun e=>hbn s hs e.symm)
 refine ⟨by rw [List.length_set];exact h.len,?_,fun i hi=>?_,fun i j k hi hj h1 h2=>?_⟩
 ·have:=hb.set s (.slice ao l.length cap)
  rw [A3a hs] at this
  rw [T7 (f:=upd f s (ao,cap)) (len':=upd (fun i=>(rows.getD i []).length) s l.length) (fun i hi=>by
   rw [hrow]
   by_cases e:i=s
   ·subst e;rw [if_pos rfl,C10]
   ·rw [if_neg e,O9 _ _ e])]
  exact this
 ·rw [hrow]
  by_cases his:i=s
  ·subst his
   rw [if_pos rfl,C10]
   exact ho.setOther (a:=⟨ob,i,none⟩) (ho.noType (g:=ob) hb hte) hob' _
  ·rw [if_neg his,O9 _ _ his]
   refine (h.own i hi).keep (fun k hk h1=>?_) hok
   have hne:k≠ob:=fun e=>by
    subst e
    rcases h1 with h1|h1
    ·exact hbn i hi h1
    ·exact hob h1
   rw [hkeep k hne]
   refine hg.block k hk fun e=>?_
   rcases h1 with h1|h1
   ·exact his (h.apart i s k hi hs h1 e.symm)
   ·exact hnr k e.symm h1
 ·by_cases his:i=s<;>by_cases hjs:j=s
  ·rw [his,hjs]
  ·subst his
   rw [C10] at h1
   rw [O9 _ _ hjs] at h2
   rcases hd with hd|hd
   ·exact absurd (h.apart j i k hj hs h2 (by rw [←hd];exact h1)) hjs
   ·rw [hd] at h1
    have e1:w.heap.size=k:=by simpa using h1
    have:=((h.own j hj).lt k h2).2;omega
  ·subst hjs
   rw [C10] at h2
   rw [O9 _ _ his] at h1
   rcases hd with hd|hd
   ·exact absurd (h.apart i j k hi hs h1 (by rw [←hd];exact h2)) his
   ·rw [hd] at h2
    have e1:w.heap.size=k:=by simpa using h2
    have:=((h.own i hi).lt k h1).2;omega
  ·rw [O9 _ _ his] at h1
   rw [O9 _ _ hjs] at h2
   exact h.apart i j k hi hj h1 h2
theorem A6z (w:World) (row:Option Nat):w.grownBy w row:=⟨rfl,rfl,rfl,Nat.le_refl _,fun _ _ _=>rfl⟩
theorem TQ.take (h:TQ sh te t ok base w ob n f rows) (hte:t≠te) {s:Nat} (hs:s<n) {x:α} {l:List α} {g o c:Nat} {ad:Option Addr} (hr:rows.getD s []=x::l) (hf:f s=(some ⟨g,o,none⟩,c)) (had:ad=some ⟨g,o+sh.size,none⟩∨(c=1∧ad=some ⟨g,o,none⟩)) (hnr:¬ok g) (hob:¬ok ob):
  TQ sh te t ok base (w.setCell ⟨ob,s,none⟩ (.slice ad l.length (c - 1))) ob n (upd f s (ad,c - 1)) (rows.set s l):=by
 have h1:=h.own s hs
 rw [hr,hf] at h1
 have hb:Go.St.blk ad=some g:=by rcases had with rfl|⟨_,rfl⟩<;>rfl
 exact h.put hte hs rfl (h1.pop2 had) (A6z _ _) (by rw [hf,hb];exact .inl rfl) (fun _ _ h=>h) (fun k hk=>by rw [hf] at hk;have e:g=k:=(by simpa [Go.St.blk] using hk);rw [←e];exact hnr) hob hob
end
open Go.RowKit
def twn (lo:Nat) (w:World) (ao bo:Option Addr):Nat→Prop:=fun b=>lo≤b∧b<w.heap.size∧blk ao≠some b∧blk bo≠some b
def two {α β:Type} (sa:D1 α) (ea:TypeId) (sb:D1 β) (eb:TypeId) (lo:Nat) (w:World) (ao:Option Addr) (n ca:Nat) (xs:List α) (bo:Option Addr) (m cb:Nat) (ys:List β):Prop:=
 C7 sa ea (twn lo w ao bo) lo w ao n ca xs∧C7 sb eb (twn lo w ao bo) lo w bo m cb ys∧∀ k,blk ao=some k→blk bo≠some k
section
variable {α β : Type} {sa : D1 α} {ea : TypeId} {sb : D1 β} {eb : TypeId} {lo : Nat} {w w' : World} {ao bo ao' bo' : Option Addr} {n ca m cb n' ca' m' cb' : Nat} {xs xs' : List α} {ys ys' : List β}
theorem two.nil (sa:D1 α) (ea:TypeId) (sb:D1 β) (eb:TypeId) (lo:Nat) (w:World):two sa ea sb eb lo w none 0 0 [] none 0 0 []:=
 ⟨C7.nil _ _ _ _ _ fun _ h=>h.2.1,C7.nil _ _ _ _ _ fun _ h=>h.2.1,by simp [blk]⟩
theorem two.below (h:two sa ea sb eb lo w ao n ca xs bo m cb ys) (hb:Below w.heap.size w w'):two sa ea sb eb lo w' ao n ca xs bo m cb ys:=
  ⟨(h.1.below hb).weaken (fun b ⟨h1,h2,h3⟩=>⟨h1,Nat.lt_of_lt_of_le h2 hb.size,h3⟩) (fun k hk h=>h.2.2.1 hk) (fun b h=>h.2.1),
   (h.2.1.below hb).weaken (fun b ⟨h1,h2,h3⟩=>⟨h1,Nat.lt_of_lt_of_le h2 hb.size,h3⟩) (fun k hk h=>h.2.2.2 hk) (fun b h=>h.2.1),h.2.2⟩
theorem two.setOther {ob o:Nat} {v:Value} (h:two sa ea sb eb lo w ao n ca xs bo m cb ys) (hb:ob<lo):two sa ea sb eb lo (w.setCell ⟨ob,o,none⟩ v) ao n ca xs bo m cb ys:=by
 have hs:(w.setCell ⟨ob,o,none⟩ v).heap.size=w.heap.size:=by simp
 have hk:∀ k,lo≤k→(w.setCell ⟨ob,o,none⟩ v).heap[k]? =w.heap[k]? :=fun k hk=>Below.heap_setCell _ _ _ _ (by simp;omega)
 refine ⟨(h.1.keep (by rw [hs];exact Nat.le_refl _) fun k hh=>hk k ?_).weaken (fun b ⟨h1,h2,h3⟩=>⟨h1,by rw [hs];exact h2,h3⟩) (fun k hk h=>h.2.2.1 hk) (fun b h=>h.2.1),
  (h.2.1.keep (by rw [hs];exact Nat.le_refl _) fun k hh=>hk k ?_).weaken (fun b ⟨h1,h2,h3⟩=>⟨h1,by rw [hs];exact h2,h3⟩) (fun k hk h=>h.2.2.2 hk) (fun b h=>h.2.1),h.2.2⟩
 ·rcases hh with hh|hh
  ·exact (h.1.lt k hh).1
  ·exact hh.1
 ·rcases hh with hh|hh
  ·exact (h.2.1.lt k hh).1
  ·exact hh.1
theorem two.grownA (h:two sa ea sb eb lo w ao n ca xs bo m cb ys) (ho:C7 sa ea (twn lo w ao bo) lo w' ao' n' ca' xs') (hg:w.grownBy w' (blk ao)) (hd:blk ao'=blk ao∨blk ao'=some w.heap.size):
  two sa ea sb eb lo w' ao' n' ca' xs' bo m cb ys:=by
 have hs:w.heap.size≤w'.heap.size:=hg.size
 have hne:∀ b,twn lo w ao bo b→twn lo w' ao' bo b:=fun b ⟨h1,h2,h3,h4⟩=>⟨h1,Nat.lt_of_lt_of_le h2 hs,fun e=>by
  rcases hd with hd|hd
  ·exact h3 (hd▸e)
  ·rw [hd] at e;have:w.heap.size=b:=by simpa using e
   omega,h4⟩
 refine ⟨ho.weaken hne (fun k hk h=>h.2.2.1 hk) (fun b h=>h.2.1),(h.2.1.keep hs fun k hk=>?_).weaken hne (fun k hk h=>h.2.2.2 hk) (fun b h=>h.2.1),fun k hk hb=>?_⟩
 ·refine hg.block k ?_ ?_
  ·rcases hk with hk|hk
   ·exact (h.2.1.lt k hk).2
   ·exact hk.2.1
  ·intro e
   rcases hk with hk|hk
   ·exact h.2.2 k e.symm hk
   ·exact hk.2.2.1 e.symm
 ·rcases hd with hd|hd
  ·exact h.2.2 k (hd▸hk) hb
  ·rw [hd] at hk;have:w.heap.size=k:=by simpa using hk
   have:=(h.2.1.lt k hb).2;omega
theorem two.grownB (h:two sa ea sb eb lo w ao n ca xs bo m cb ys) (ho:C7 sb eb (twn lo w ao bo) lo w' bo' m' cb' ys') (hg:w.grownBy w' (blk bo)) (hd:blk bo'=blk bo∨blk bo'=some w.heap.size):
  two sa ea sb eb lo w' ao n ca xs bo' m' cb' ys':=by
 have hs:w.heap.size≤w'.heap.size:=hg.size
 have hne:∀ b,twn lo w ao bo b→twn lo w' ao bo' b:=fun b ⟨h1,h2,h3,h4⟩=>⟨h1,Nat.lt_of_lt_of_le h2 hs,h3,fun e=>by
  rcases hd with hd|hd
  ·exact h4 (hd▸e)
  ·rw [hd] at e;have:w.heap.size=b:=by simpa using e
   omega⟩
 refine ⟨(h.1.keep hs fun k hk=>?_).weaken hne (fun k hk h=>h.2.2.1 hk) (fun b h=>h.2.1),ho.weaken hne (fun k hk h=>h.2.2.2 hk) (fun b h=>h.2.1),fun k hk hb=>?_⟩
 ·refine hg.block k ?_ ?_
  ·rcases hk with hk|hk
   ·exact (h.1.lt k hk).2
   ·exact hk.2.1
  ·intro e
   rcases hk with hk|hk
   ·exact h.2.2 k hk e.symm
   ·exact hk.2.2.2 e.symm
 ·rcases hd with hd|hd
  ·exact h.2.2 k hk (hd▸hb)
  ·rw [hd] at hb;have:w.heap.size=k:=by simpa using hb
   have:=(h.1.lt k hk).2;omega
theorem two.okof {γ:Type} {sh:D1 γ} {ax:Option Addr} {B cap:Nat} {zs:List γ} (h:A8 sh (fun b=>B≤b) w ax cap zs) (hB:lo≤B) (ha:∀ k,blk ao=some k→k<B) (hb:∀ k,blk bo=some k→k<B):A8 sh (twn lo w ao bo) w ax cap zs:=
 h.mono (fun b hbb hh=>⟨⟨Nat.le_trans hB hh,hbb,fun e=>by have hh':B≤b:=hh;have:=ha b e;omega,fun e=>by have hh':B≤b:=hh;have:=hb b e;omega⟩,rfl⟩)
end
theorem A03 {w:World} {b:Nat} {e:TypeId} {f:E0} {va na:Option Addr} {vc nc:Nat} {ok:Nat→Prop} (h:A6 w b e #[.int .i64 f.src,.int .i64 f.dst,.slice va f.via.length vc,.slice na f.no.length nc])
    (h1:I64 f.src) (h2:I64 f.dst) (hv:A8 C2 ok w va vc f.via) (hn:A8 C2 ok w na nc f.no):D7 H6 ok w (some ⟨b,0,none⟩) [f]:=by
  refine .inr ⟨b,0,rfl,fun i y hy=>?_⟩
  match i,hy with
  |0,hy=>
    obtain rfl:f=y:=by simpa using hy
    refine ⟨_,⟨va,vc,na,nc,rfl,h1,h2,hv,hn⟩,fun j c hc=>?_⟩
    simp only [Nat.zero_mul,Nat.zero_add]
    rw [h.cells.1 j]
    simpa using hc
  |i+1,hy=>simp at hy
theorem A5w {t:C5} {f:E0} (h:(I1 t f).2=0):f.via.length≤8∧f.no.length≤8:=by
 unfold I1 at h
 by_cases h1:(B6 t).1=0
 case neg=>rw [if_pos h1] at h;exact absurd h h1
 rw [if_neg (by simp [h1])] at h
 by_cases h2:(D0 [f] t.n).1=0
 case neg=>rw [if_pos h2] at h;exact absurd h h2
 have hn:=(J8 h1).1
 have hb:M4 t.n f=0:=A9g▸h2
 have hf:=A02 hb
 have h3:=A2m hf
 have h4:f.no.Nodup:=by
  unfold M4 at hb
  rw [if_neg (by have:=hf.s0;have:=hf.s1;have:=hf.d0;have:=hf.d1;omega),if_neg hf.ne] at hb
  by_cases h3:F1 t.n f.src f.dst [] f.via=0
  ·rw [if_neg (by simp [h3])] at hb
   by_cases h4:F1 t.n f.src f.dst [] f.no=0
   ·exact (V7 h4).1
   ·rw [if_pos h4] at hb;exact absurd hb h4
  ·rw [if_pos h3] at hb;exact absurd hb h3
 have h5:=T1 h4 fun x hx=>(hf.no x hx).1
 omega
theorem A0b {ok:Nat→Prop} {w:World}:C3.rep ok w [.int .i64 0,.slice none 0 0,.slice none 0 0] E2:=⟨none,0,none,0,rfl,I64.small (by decide) (by decide),A8.nil _ _ _ _,A8.nil _ _ _ _⟩
end Go.St
