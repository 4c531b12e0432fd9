/- Texts of this proof, one behind the other. -/
import Derived.Test.YtampcbncgofkoaaQ2
import Derived.Test.YtampcbncgofkoaaPk49
set_option linter.unusedSimpArgs false
set_option linter.unusedVariables false
set_option maxRecDepth 100000
set_option maxHeartbeats 16000000
namespace Go.St
open Go.RowKit
section
variable {P : Program} {ops : Array Oper} {Q : Exit → Act → World → Prop} {md : Region.Mode} {S : World → Prop} {L : Nat}
theorem C1x {fuel:Nat} {listed:Array Bool} {a:Act} {w:World} (h:∀ (W:Nat→Array Bool→Act→World→Prop) (a0:Act),a0=a→(∀ f l l' a w,(l==l')=true→W f l' a w→L5 P md ops Q S L f l a w)→(∀ f l a w,L5 P md ops Q S L f l a w→W f l a w)→W fuel listed a0 w):L5 P md ops Q S L fuel listed a w:=
 h (L5 P md ops Q S L) a rfl (fun f l l' a w e h=>by rw [eq_of_beq e];exact h) (fun _ _ _ _ h=>h)
def Br (P:Program) (ops:Array Oper) (Q:Exit→Act→World→Prop) (md:Region.Mode) (S:World→Prop) (L:Nat) (fuel:Nat) (listed:Array Bool) (a:Act) (w:World):List Nat→Prop
 |[]=>True
 |i::l=>(∃ oi,ops[i]? =some oi∧Region.wanted oi (yielded ops a.tmps)=true∧∀ K:Act→World→Prop,(∀ a' w',(i≠L→S w')→L5 P md ops Q S L fuel (listed.setIfInBounds i true) a' w'→K a' w')→oi.wp P a w K Q)∧Br P ops Q md S L fuel listed a w l
theorem C1q {i:Nat} {oi:Oper} {l:List Nat} {fuel:Nat} {listed:Array Bool} {a:Act} {w:World} (hi:ops[i]? =some oi) (hg:Region.wanted oi (yielded ops a.tmps)=true) (h:∀ K:Act→World→Prop,(∀ a' w',(i≠L→S w')→L5 P md ops Q S L fuel (listed.setIfInBounds i true) a' w'→K a' w')→oi.wp P a w K Q) (t:Br P ops Q md S L fuel listed a w l):Br P ops Q md S L fuel listed a w (i::l):=⟨⟨oi,hi,hg,h⟩,t⟩
theorem Br.mem {fuel:Nat} {listed:Array Bool} {a:Act} {w:World}:∀ {l:List Nat},Br P ops Q md S L fuel listed a w l→∀ i∈l,wpOp P ops Q i (fun a' w'=>(i≠L→S w')∧L5 P md ops Q S L fuel (listed.setIfInBounds i true) a' w') a w
 |[],_,i,h=>nomatch h
 |j::l,hb,i,h=>by
  rcases List.mem_cons.1 h with rfl|h
  ·obtain ⟨⟨oi,hi,hg,h1⟩,_⟩:=hb
   unfold wpOp
   simp only [hi]
   rw [if_pos hg]
   exact .inl (h1 _ fun _ _ a b=>⟨a,b⟩)
  ·exact Br.mem hb.2 i h
theorem C1r (rs:List Nat) {fuel:Nat} {listed:Array Bool} {a:Act} {w:World} (hs:(Region.ready md ops listed==rs && !rs.isEmpty)=true) (h:Br P ops Q md S L fuel listed a w rs):L5 P md ops Q S L (fuel+1) listed a w:=by
 rw [Bool.and_eq_true] at hs
 have hr:Region.ready md ops listed=rs:=eq_of_beq hs.1
 refine ⟨fun h0=>?_,fun i hi=>?_⟩
 ·rw [hr] at h0
  rw [h0] at hs
  exact absurd hs.2 (by decide)
 ·rw [hr] at hi
  exact h.mem i hi
end
theorem C1v (a:Act):∀ (l r:List (Nat × Value)),C8 a (l++r)=C8 (C8 a l) r
 |[],_=>rfl
 |(i,v)::l,r=>by rw [List.cons_append,C8,C8,C1v _ l r]
theorem C29 (a:Act) {i j:Nat} (h:i≠j) (v x:Value):(a.put (some i) v).put (some j) x=(a.put (some j) x).put (some i) v:=by
 unfold Act.put
 simp only [Array.setIfInBounds_comm _ _ h]
theorem C2b (a:Act) (i:Nat) (v x:Value):(a.put (some i) v).put (some i) x=a.put (some i) x:=by
 unfold Act.put
 simp only [Array.setIfInBounds_setIfInBounds]
theorem C20 (i:Nat) (v:Value):∀ (l:List (Nat × Value)) (a:Act),(l.all fun p=>p.1 !=i)=true→(C8 a l).put (some i) v=C8 (a.put (some i) v) l
 |[],_,_=>rfl
 |(j,x)::l,a,h=>by
  rw [List.all_cons,Bool.and_eq_true] at h
  have hj:j≠i:=by simpa using h.1
  rw [C8,C8,C20 i v l _ h.2,C29 a hj]
theorem C1p (a:Act) (i:Nat) (x v:Value) (l r:List (Nat × Value)) (h:(r.all fun p=>p.1 !=i)=true):(C8 a (l++(i,x)::r)).put (some i) v=C8 a (l++(i,v)::r):=by
 rw [C1v,C1v,C8,C8,C20 i v r _ h,C2b]
theorem C1s (i:Nat):∀ (l:List (Nat × Value)) (a:Act),(l.all fun p=>p.1 !=i)=true→(C8 a l).eval (.tmp i)=a.eval (.tmp i)
 |[],_,_=>rfl
 |(j,x)::l,a,h=>by
  rw [List.all_cons,Bool.and_eq_true] at h
  have hj:j≠i:=by simpa using h.1
  rw [C8,C1s i l _ h.2]
  unfold Act.put Act.eval
  simp only [Array.getD_eq_getD_getElem?]
  rw [Array.getElem?_setIfInBounds_ne hj]
theorem C21:∀ (l:List (Nat × Value)) (a:Act),(C8 a l).tmps.size=a.tmps.size
 |[],_=>rfl
 |(j,x)::l,a=>by rw [C8,C21 l];simp [Act.put]
theorem C1u (a:Act) (i:Nat) (x:Value) (l r:List (Nat × Value)) (hs:i<a.tmps.size) (h:(r.all fun p=>p.1 !=i)=true):(C8 a (l++(i,x)::r)).eval (.tmp i)=x:=by
 rw [C1v,C8,C1s i r _ h]
 unfold Act.put Act.eval
 simp only [Array.getD_eq_getD_getElem?]
 rw [Array.getElem?_setIfInBounds_self_of_lt (by rw [C21];exact hs)]
 rfl
theorem C1t (a:Act) (i:Nat):a.tmps[i]?.getD undef=a.eval (.tmp i):=by
 show _=a.tmps.getD i undef
 rw [Array.getD_eq_getD_getElem?]
structure Bz (DT WT FT:TypeId) (ac zc fc:Array Value) (B:Nat) (w0:World) (l:List Do) (ma:Option Addr) (mc:Nat) (m7 m14 m15:Bool) (g7 g14 g15:Nat) (w:World):Prop where
 below:Below B w0 w
 size:B≤w.heap.size
 row:C7 doS DT (fun b=>b<B) B w ma l.length mc l
 ne:∀ k,blk ma=some k→(m7=true→k≠g7)∧(m14=true→k≠g14)∧(m15=true→k≠g15)
 s7:m7=true→B≤g7∧A6 w g7 DT ac
 s14:m14=true→B≤g14∧A6 w g14 WT zc
 s15:m15=true→B≤g15∧A6 w g15 FT fc
 n14:m14=true→m15=true→g14≠g15
section
variable {DT WT FT : TypeId} {ac zc fc : Array Value} {B : Nat} {w0 w : World} {l : List Do} {ma : Option Addr} {mc : Nat} {m7 m14 m15 : Bool} {g7 g14 g15 : Nat}
theorem Bz.start (hb:Below B w0 w) (hs:B≤w.heap.size):Bz DT WT FT ac zc fc B w0 [] none 0 false false false 0 0 0 w:=
 ⟨hb,hs,C7.nil _ _ _ _ _ (fun b hb=>Nat.lt_of_lt_of_le hb hs),fun k hk=>by simp [Go.St.blk] at hk,(fun h=>nomatch h),(fun h=>nomatch h),(fun h=>nomatch h),(fun h=>nomatch h)⟩
theorem Bz.wide (h:Bz DT WT FT ac zc fc B w0 l ma mc m7 m14 m15 g7 g14 g15 w) (o:Obj):Below B w0 (w.alloc o)∧B≤(w.alloc o).heap.size:=
 ⟨h.below.trans ((Below.refl _ _).alloc h.size o),Nat.le_trans h.size ((Below.refl _ _).alloc (Nat.le_refl _) o).size⟩
theorem Bz.op1 (h:Bz DT WT FT ac zc fc B w0 [] none 0 m7 m14 m15 g7 g14 g15 w):Bz DT WT FT ac zc fc B w0 [] (some ⟨w.heap.size,0,none⟩) 0 m7 m14 m15 g7 g14 g15 (w.alloc (.cells #[] DT)):=by
 have hw:=h.wide (.cells #[] DT)
 refine ⟨hw.1,hw.2,⟨[],A1b.made _ _ _ _ #[] 0 h.size (Nat.zero_le _) rfl,rfl,by simp,fun k hk=>?_,fun b hb=>Nat.lt_of_lt_of_le hb hw.2⟩,fun k hk=>?_,fun e=>⟨(h.s7 e).1,(h.s7 e).2.alloc _⟩,fun e=>⟨(h.s14 e).1,(h.s14 e).2.alloc _⟩,fun e=>⟨(h.s15 e).1,(h.s15 e).2.alloc _⟩,h.n14⟩
 ·have:w.heap.size=k:=by simpa [Go.St.blk] using hk
  have:=h.size;omega
 ·have:w.heap.size=k:=by simpa [Go.St.blk] using hk
  subst this
  exact ⟨fun e=>by have:=(h.s7 e).2.lt;omega,fun e=>by have:=(h.s14 e).2.lt;omega,fun e=>by have:=(h.s15 e).2.lt;omega⟩
theorem Bz.app (h:Bz DT WT FT ac zc fc B w0 l ma mc m7 m14 m15 g7 g14 g15 w) {l':List Do} {ma':Option Addr} {mc':Nat} {w':World} (hO:C7 doS DT (fun b=>b<B) B w' ma' l'.length mc' l') (hg:w.grownBy w' (blk ma)) (hd:blk ma'=blk ma∨blk ma'=some w.heap.size):
  Bz DT WT FT ac zc fc B w0 l' ma' mc' m7 m14 m15 g7 g14 g15 w':=by
 have hb:Below B w w':=D6 hg (fun k hk=>(h.row.lt k hk).1) h.size
 refine ⟨h.below.trans hb,Nat.le_trans h.size hb.size,hO,fun k hk=>?_,fun e=>⟨(h.s7 e).1,(h.s7 e).2.grown hg fun e2=>((h.ne _ e2.symm).1 e) rfl⟩,fun e=>⟨(h.s14 e).1,(h.s14 e).2.grown hg fun e2=>((h.ne _ e2.symm).2.1 e) rfl⟩,fun e=>⟨(h.s15 e).1,(h.s15 e).2.grown hg fun e2=>((h.ne _ e2.symm).2.2 e) rfl⟩,h.n14⟩
 rcases hd with e|e
 ·rw [e] at hk;exact h.ne k hk
 ·rw [e] at hk
  have:w.heap.size=k:=by simpa using hk
  subst this
  exact ⟨fun e=>by have:=(h.s7 e).2.lt;omega,fun e=>by have:=(h.s14 e).2.lt;omega,fun e=>by have:=(h.s15 e).2.lt;omega⟩
theorem Bz.new (h:Bz DT WT FT ac zc fc B w0 l ma mc m7 m14 m15 g7 g14 g15 w) (o:Obj):C7 doS DT (fun b=>b<B) B (w.alloc o) ma l.length mc l∧∀ k,blk ma=some k→k≠w.heap.size:=
 ⟨h.row.alloc o,fun k hk e=>by have:=(h.row.lt k hk).2;omega⟩
theorem Bz.op7 (h:Bz DT WT FT ac zc fc B w0 l ma mc false m14 m15 g7 g14 g15 w):Bz DT WT FT ac zc fc B w0 l ma mc true m14 m15 w.heap.size g14 g15 (w.alloc (.cells ac DT)):=
 have hw:=h.wide (.cells ac DT)
 have hn:=h.new (.cells ac DT)
 ⟨hw.1,hw.2,hn.1,fun k hk=>⟨fun _=>hn.2 k hk,(h.ne k hk).2⟩,fun _=>⟨h.size,A6.new rfl⟩,fun e=>⟨(h.s14 e).1,(h.s14 e).2.alloc _⟩,fun e=>⟨(h.s15 e).1,(h.s15 e).2.alloc _⟩,h.n14⟩
theorem Bz.op14 (h:Bz DT WT FT ac zc fc B w0 l ma mc m7 false m15 g7 g14 g15 w):Bz DT WT FT ac zc fc B w0 l ma mc m7 true m15 g7 w.heap.size g15 (w.alloc (.cells zc WT)):=
 have hw:=h.wide (.cells zc WT)
 have hn:=h.new (.cells zc WT)
 ⟨hw.1,hw.2,hn.1,fun k hk=>⟨(h.ne k hk).1,fun _=>hn.2 k hk,(h.ne k hk).2.2⟩,fun e=>⟨(h.s7 e).1,(h.s7 e).2.alloc _⟩,fun _=>⟨h.size,A6.new rfl⟩,fun e=>⟨(h.s15 e).1,(h.s15 e).2.alloc _⟩,fun _ e=>by have:=(h.s15 e).2.lt;omega⟩
theorem Bz.op15 (h:Bz DT WT FT ac zc fc B w0 l ma mc m7 m14 false g7 g14 g15 w):Bz DT WT FT ac zc fc B w0 l ma mc m7 m14 true g7 g14 w.heap.size (w.alloc (.cells fc FT)):=
 have hw:=h.wide (.cells fc FT)
 have hn:=h.new (.cells fc FT)
 ⟨hw.1,hw.2,hn.1,fun k hk=>⟨(h.ne k hk).1,(h.ne k hk).2.1,fun _=>hn.2 k hk⟩,fun e=>⟨(h.s7 e).1,(h.s7 e).2.alloc _⟩,fun e=>⟨(h.s14 e).1,(h.s14 e).2.alloc _⟩,fun _=>⟨h.size,A6.new rfl⟩,fun e _=>by have:=(h.s14 e).2.lt;omega⟩
end
structure By (WT FT:TypeId) (zc fc:Array Value) (B:Nat) (w0:World) (cs:List Value) (n:Net) (ea:Option Addr) (ec:Nat) (es:List Int) (m14 m15:Bool) (g14 g15:Nat) (w:World):Prop where
 below:Below B w0 w
 size:B≤w.heap.size
 net:A0g.rep (fun _=>True) w cs n
 errs:A8 A71 (fun b=>(m14=true→b≠g14)∧(m15=true→b≠g15)) w ea ec es
 s14:m14=true→B≤g14∧A6 w g14 WT zc
 s15:m15=true→B≤g15∧A6 w g15 FT fc
 n14:m14=true→m15=true→g14≠g15
section
variable {DT WT FT : TypeId} {ac zc fc : Array Value} {B : Nat} {w0 w : World} {l : List Do} {ma : Option Addr} {mc : Nat} {m7 m14 m15 : Bool} {g7 g14 g15 : Nat} {cs : List Value} {n : Net} {ea : Option Addr} {ec : Nat} {es : List Int}
theorem Bz.play (h:Bz DT WT FT ac zc fc B w0 l ma mc m7 m14 m15 g7 g14 g15 w) {w':World} {ok:Nat→Prop} (hb:Below w.heap.size w w') (hn:A0g.rep ok w' cs n) (he:A8 A71 (fun b=>w.heap.size≤b) w' ea ec es):By WT FT zc fc B w0 cs n ea ec es m14 m15 g14 g15 w':=
 ⟨h.below.trans (hb.mono h.size),Nat.le_trans h.size hb.size,A0g.mono hn (fun _ _ _=>⟨trivial,rfl⟩),he.anyOk (fun b _ ho=>⟨fun e=>by have:=(h.s14 e).2.lt;omega,fun e=>by have:=(h.s15 e).2.lt;omega⟩),fun e=>⟨(h.s14 e).1,(h.s14 e).2.under hb⟩,fun e=>⟨(h.s15 e).1,(h.s15 e).2.under hb⟩,h.n14⟩
theorem By.wide (h:By WT FT zc fc B w0 cs n ea ec es m14 m15 g14 g15 w) (o:Obj):Below B w0 (w.alloc o)∧B≤(w.alloc o).heap.size∧Below w.heap.size w (w.alloc o):=
 have hb:=(Below.refl w.heap.size w).alloc (Nat.le_refl _) o
 ⟨h.below.trans (hb.mono h.size),Nat.le_trans h.size hb.size,hb⟩
theorem By.op14 (h:By WT FT zc fc B w0 cs n ea ec es false m15 g14 g15 w):By WT FT zc fc B w0 cs n ea ec es true m15 w.heap.size g15 (w.alloc (.cells zc WT)):=
 have hw:=h.wide (.cells zc WT)
 ⟨hw.1,hw.2.1,A0g.below h.net hw.2.2,(h.errs.anyOk (fun b hl ho=>⟨fun _=>by omega,ho.2⟩)).below hw.2.2,fun _=>⟨h.size,A6.new rfl⟩,fun e=>⟨(h.s15 e).1,(h.s15 e).2.alloc _⟩,fun _ e=>by have:=(h.s15 e).2.lt;omega⟩
theorem By.op15 (h:By WT FT zc fc B w0 cs n ea ec es m14 false g14 g15 w):By WT FT zc fc B w0 cs n ea ec es m14 true g14 w.heap.size (w.alloc (.cells fc FT)):=
 have hw:=h.wide (.cells fc FT)
 ⟨hw.1,hw.2.1,A0g.below h.net hw.2.2,(h.errs.anyOk (fun b hl ho=>⟨ho.1,fun _=>by omega⟩)).below hw.2.2,fun e=>⟨(h.s14 e).1,(h.s14 e).2.alloc _⟩,fun _=>⟨h.size,A6.new rfl⟩,fun e _=>by have:=(h.s14 e).2.lt;omega⟩
end
theorem C28 {t:C5} {f:E0} (hw:(I1 t f).2=0) {c:List Do} (hc:c=C02 t f 1) {i:Nat} (hi:i≤c.length):
  (D9 t (c.take i++[B9y [f]])).2.2=(0,0)∧(D9 t (c.take i)).2.2=(0,0)∧∃ e,(D9 t (c.take i++[B9y [f]])).2.1[i]? =some e∧(((D9 t (c.take i)).1.ctl.stage=0∧e=0)∨((D9 t (c.take i)).1.ctl.stage≠0∧e=11)):=by
 subst hc
 have ht:=(B0p hw).1
 obtain ⟨h1,h2⟩:=C25 hw hi
 have h3:((C02 t f 1).take i).length≤200:=by rw [List.length_append] at h1;omega
 rw [W2 ht h1,W2 ht h3]
 exact ⟨rfl,rfl,h2⟩
end Go.St
namespace Go.Proofs.Ytampcbncgofkoaa
open Go.RowKit Go.St
theorem C26 (w:World) (t:C5) (ts:List Value) (okt:Nat→Prop) (h:I5.rep okt w ts t) (a:Int) (ha:I64 a) (b:Int) (hb:I64 b) (m:Int) (hm:I64 m):
  Calls Try.prog 5 #[.agg ts.toArray,.int .i64 a,.int .i64 b,.int .i64 m] w fun e w'=>e=.returned (.bool true)∧Below w.heap.size w w':=by
 have hT:=h
 obtain ⟨la,lc0,rfl,htn,htr⟩:=h
 obtain ⟨i0,gi,gz0,gz1,gz2⟩:=info_parts B92
 have hB0:=G8 w (.cells #[.int .i64 t.n,.slice la t.links.length lc0] 24)
 have hT0:=I6 w 24 #[.int .i64 t.n,.slice la t.links.length lc0]
 go_enter Try.func5,Try.ntmps5
 go_wp2_with fail
 generalize w.alloc _=w0 at *
 refine (B9f _).mono ?_
 rintro e w1 ⟨rfl,hb1⟩
 have hB1:=hB0.trans (hb1.mono hB0.size)
 have hT1:=hT0.under hb1
 have htb1:w.heap.size<w1.heap.size:=hT1.lt
 obtain ⟨t1,t2⟩:=hT1.cells
 have htl:=hT1.lt
 clear hB0 hT0 hb1
 have hbx:Below w1.heap.size w1 ((w1.alloc (.cells #[.int .i64 a,.int .i64 b,.slice none 0 0,.slice none 0 0] 28)).alloc (.cells #[.int .i64 1,.int .i64 0,.slice (some ⟨w1.heap.size,0,none⟩) 1 1] 41)):=A1t _ _ _
 have hF2:A6 ((w1.alloc (.cells #[.int .i64 a,.int .i64 b,.slice none 0 0,.slice none 0 0] 28)).alloc (.cells #[.int .i64 1,.int .i64 0,.slice (some ⟨w1.heap.size,0,none⟩) 1 1] 41)) w1.heap.size 28 #[.int .i64 a,.int .i64 b,.slice none 0 0,.slice none 0 0]:=(A6.new rfl).alloc _
 have hD2:A6 ((w1.alloc (.cells #[.int .i64 a,.int .i64 b,.slice none 0 0,.slice none 0 0] 28)).alloc (.cells #[.int .i64 1,.int .i64 0,.slice (some ⟨w1.heap.size,0,none⟩) 1 1] 41)) (w1.heap.size+1) 41 #[.int .i64 1,.int .i64 0,.slice (some ⟨w1.heap.size,0,none⟩) 1 1]:=A6.new (by simp)
 have hB2:=hB1.trans (hbx.mono hB1.size)
 have hT2:=hT1.under hbx
 clear hbx hT1 hB1
 go_upto_region 4 with fail
 generalize ((w1.alloc (.cells #[.int .i64 a,.int .i64 b,.slice none 0 0,.slice none 0 0] 28)).alloc (.cells #[.int .i64 1,.int .i64 0,.slice (some ⟨w1.heap.size,0,none⟩) 1 1] 41))=w2 at *
 generalize w1.heap.size=fb at *
 clear t1 t2 htl
 have hTr2:I5.rep (fun b=>okt b∧b<w.heap.size) w2 [.int .i64 t.n,.slice la t.links.length lc0] t:=I5.mono hT (fun b hb ho=>⟨⟨ho,hb⟩,hB2.block b hb⟩)
 have hfb2:fb+1<w2.heap.size:=hD2.lt
 have hFr2:=B9h hF2 ha hb
 have HWB:=Lib.hid (show w.heap.size<fb by omega)
 generalize htb:w.heap.size=tb at hT2 htb1 ⊢
 have HTB:=Lib.hid htb
 clear htb
 have hS1:SC [(⟨tb,0,none⟩,(.int .i64 t.n)),(⟨tb,1,none⟩,(.slice la t.links.length lc0)),(⟨fb+1,0,none⟩,(.int .i64 1)),(⟨fb+1,1,none⟩,(.int .i64 0)),(⟨fb+1,2,none⟩,(.slice (some ⟨fb,0,none⟩) 1 1)),(⟨fb,0,none⟩,(.int .i64 a)),(⟨fb,1,none⟩,(.int .i64 b)),(⟨fb,2,none⟩,(.slice none 0 0)),(⟨fb,3,none⟩,(.slice none 0 0))] w2:=⟨hT2.cells.1 0,hT2.cells.1 1,hD2.cells.1 0,hD2.cells.1 1,hD2.cells.1 2,hF2.cells.1 0,hF2.cells.1 1,hF2.cells.1 2,hF2.cells.1 3,trivial⟩
 have hS0:SC [(⟨tb,0,none⟩,(.int .i64 t.n)),(⟨tb,1,none⟩,(.slice la t.links.length lc0)),(⟨fb+1,0,none⟩,(.int .i64 1)),(⟨fb+1,1,none⟩,(.int .i64 0)),(⟨fb+1,2,none⟩,(.slice (some ⟨fb,0,none⟩) 1 1)),(⟨fb,0,none⟩,(.int .i64 a)),(⟨fb,1,none⟩,(.int .i64 b)),(⟨fb,2,none⟩,(.slice none 0 0)),(⟨fb,3,none⟩,(.slice none 0 0))] w2.drew:=hS1
 have HFI:=Lib.hid (fun (w':World) (hb':Below w2.heap.size w2 w')=>B9r t ⟨a,b,[],[]⟩ _ [.int .i64 a,.int .i64 b,.slice none 0 0,.slice none 0 0] _ (fun _=>True) w' (I5.below hTr2 hb') ⟨_,_,_,_,rfl,ha,hb,A8.nil _ _ _ _,A8.nil _ _ _ _⟩)
 refine B9 (SC [(⟨tb,0,none⟩,(.int .i64 t.n)),(⟨tb,1,none⟩,(.slice la t.links.length lc0)),(⟨fb+1,0,none⟩,(.int .i64 1)),(⟨fb+1,1,none⟩,(.int .i64 0)),(⟨fb+1,2,none⟩,(.slice (some ⟨fb,0,none⟩) 1 1)),(⟨fb,0,none⟩,(.int .i64 a)),(⟨fb,1,none⟩,(.int .i64 b)),(⟨fb,2,none⟩,(.slice none 0 0)),(⟨fb,3,none⟩,(.slice none 0 0))]) 99 (fun a0 a' w'=>∃ v10 v11 v26 v27 v28 v29 v30 v31 v32 v33 v34,a'=C8 a0 [(10,v10),(11,v11),(26,v26),(27,v27),(28,v28),(29,v29),(30,v30),(31,v31),(32,v32),(33,v33),(34,v34)]∧∃ (pa:Option Addr) (pc:Nat),v10=.slice pa (I1 t ⟨a,b,[],[]⟩).1.length pc∧v11=.int .i64 (I1 t ⟨a,b,[],[]⟩).2∧A8 C2 (fun _=>True) w' pa pc (I1 t ⟨a,b,[],[]⟩).1∧Below w2.heap.size w2 w') (by kernel_rfl) ?_ ?_
 ·intro Q' hR hQp
  have hb0:Below w2.heap.size w2 w2.drew:=N4 _
  have hS:SC [(⟨tb,0,none⟩,(.int .i64 t.n)),(⟨tb,1,none⟩,(.slice la t.links.length lc0)),(⟨fb+1,0,none⟩,(.int .i64 1)),(⟨fb+1,1,none⟩,(.int .i64 0)),(⟨fb+1,2,none⟩,(.slice (some ⟨fb,0,none⟩) 1 1)),(⟨fb,0,none⟩,(.int .i64 a)),(⟨fb,1,none⟩,(.int .i64 b)),(⟨fb,2,none⟩,(.slice none 0 0)),(⟨fb,3,none⟩,(.slice none 0 0))] w2.drew:=hS0
  generalize w2.drew=wa at *
  refine A9 hQp hS [0,1,2,3,4] ?_
  iterate 5 (refine B2 _ rfl (by kernel_rfl) (A0 (by kernel_rfl) (by intro w0 hw0;have hw1:=hw0;simp only [SC] at hw1;first|(go_simp;done)|(go_simp;rfl))) ?_;simp only [Act.put,St.tA,St.tD,St.tE,St.tS,St.tC,St.tZ])
  refine B3 ?_
  clear hS
  refine A7 (i:=5) rfl (by kernel_rfl) (by kernel_rfl) fun K5 hK5=>?_
  go_simp
  go_wp2_with fail
  refine (HFI.out wa hb0).mono ?_
  rintro e wb ⟨pa,pc,rfl,hpr,hb1⟩
  have hb2:=hb0.trans (hb1.mono hb0.size)
  go_wp2_with fail
  have hS:_:=SC.later hb2 hS1
  refine hK5 _ _ (fun _=>hS) ?_
  clear hK5
  refine A9 hQp hS [6,7,8,9,10] ?_
  iterate 5 (refine B2 _ rfl (by kernel_rfl) (A0 (by kernel_rfl) (by intro w0 hw0;have hw1:=hw0;simp only [SC] at hw1;first|(go_simp;done)|(go_simp;rfl))) ?_;simp only [Act.put,St.tA,St.tD,St.tE,St.tS,St.tC,St.tZ])
  refine B3 ?_
  refine B5 (by kernel_rfl) ?_ _
  refine hR _ _ ?_
  iterate 11 apply Exists.intro
  refine ⟨?_,⟨pa,pc,rfl,rfl,hpr,hb2⟩⟩
  simp only [C8,Act.put,St.tS,St.tC,St.tZ]
  rfl
 rintro a' w8 ⟨v10,v11,v26,v27,v28,v29,v30,v31,v32,v33,v34,rfl,hb8⟩
 simp only [C8,Act.put,St.tS,St.tC,St.tZ]
 obtain ⟨pa,pc,rfl,rfl,hpr,hb8⟩:=hb8
 rename World=>w3
 have hS3:=SC.later hb8 hS1
 have hB3:=hB2.trans (hb8.mono hB2.size)
 have hTr3:=I5.below hTr2 hb8
 have hFr3:=hFr2.below hb8
 have hz3:=hb8.size
 have hfb3:fb+1<w3.heap.size:=by omega
 have htb3:tb<w3.heap.size:=by omega
 clear hS0 hS1 HFI hb8 hB2 hTr2 hFr2 hF2 hD2 hT2
 by_cases he:(I1 t ⟨a,b,[],[]⟩).2=0
 case neg=>
  have e1:((I1 t ⟨a,b,[],[]⟩).2 !=0)=true:=by rw [bne_iff_ne];exact he
  clear he
  go_wp2
  go_ret;exact ⟨rfl,hB3⟩
 have HE:=Lib.hid he
 have e1:((I1 t ⟨a,b,[],[]⟩).2 !=0)=false:=by rw [he];decide
 clear he hpr
 have hlow:∀ x∈([(⟨tb,0,none⟩,(.int .i64 t.n)),(⟨tb,1,none⟩,(.slice la t.links.length lc0)),(⟨fb+1,0,none⟩,(.int .i64 1)),(⟨fb+1,1,none⟩,(.int .i64 0)),(⟨fb+1,2,none⟩,(.slice (some ⟨fb,0,none⟩) 1 1)),(⟨fb,0,none⟩,(.int .i64 a)),(⟨fb,1,none⟩,(.int .i64 b)),(⟨fb,2,none⟩,(.slice none 0 0)),(⟨fb,3,none⟩,(.slice none 0 0))]:List (Addr × Value)),x.1.block<w3.heap.size:=by
  intro x hx
  simp only [List.mem_cons,List.not_mem_nil,or_false] at hx
  rcases hx with rfl|rfl|rfl|rfl|rfl|rfl|rfl|rfl|rfl<;>first|exact htb3|exact hfb3|(show fb<w3.heap.size;omega)
 have hO7:=C0t (e:=41) (fl:=[⟨a,b,[],[]⟩]) ((hFr3.anyOk (ok':=fun b=>b<w3.heap.size) (fun k hl _=>hl))) (Nat.le_refl w3.heap.size)
 have hbx:=B8j w3 (.cells #[.int .i64 1,.int .i64 0,.slice (some ⟨fb,0,none⟩) 1 1] 41)
 have hT7:=I5.below hTr3 hbx
 have hz7:=hbx.size
 have HS3:=Lib.hid hS3
 obtain ⟨t1,t2,d1,d2,d3,f1,f2,f3,f4,_⟩:=hS3
 go_wp2_with fail
 generalize w3.alloc _=w7 at *
 clear t1 t2 d1 d2 d3 f1 f2 f3 f4 e1
 refine (B9q t _ (fun b=>okt b∧b<w.heap.size) (fun b=>b<w3.heap.size) w3.heap.size w7 hT7 [B9y [⟨a,b,[],[]⟩]] _ _ hO7 hz7 (fun b hb e=>by have h9:w3.heap.size=b:=(by simpa [Go.St.blk] using e);have:=hb.2;have:=HTB.out;omega) (by simp)).mono ?_
 rintro e w8 ⟨ma,mc,rfl,hO8,hG8⟩
 have hB8:Below w3.heap.size w3 w8:=hbx.trans hG8.below
 have hm1:=C03 t [B9y [⟨a,b,[],[]⟩]]
 have hl0:([B9y [⟨a,b,[],[]⟩]]:List Do).length=1:=rfl
 rw [hl0] at hm1
 obtain ⟨c1,hc1⟩:∃ c1,B85 t [B9y [⟨a,b,[],[]⟩]]=c1:=⟨_,rfl⟩
 rw [hc1] at hO8 hm1 ⊢
 obtain ⟨c2,hc2⟩:∃ c2,B85 t (c1++[B8e])=c2:=⟨_,rfl⟩
 have hl1:(c1++[B8e]).length=c1.length+1:=by simp
 have HC2:Hid (c2=C02 t ⟨a,b,[],[]⟩ 1):=Lib.hid (by rw [←hc2,←hc1];rfl)
 have hm2:=C03 t (c1++[B8e])
 rw [hc2,hl1] at hm2
 have hcl:c1.length≤216:=by omega
 have hcl2:c2.length≤217:=by omega
 have HD2:=Lib.hid hc2
 have HL1:=Lib.hid hl1
 have hS8:=SC.low hB8 hlow HS3.out
 have hz8:=hB8.size
 have hTo8:I5.rep (fun b=>okt b∧b<w.heap.size) w8 [.int .i64 t.n,.slice la t.links.length lc0] t:=I5.mono hTr3 (fun b hb ho=>⟨ho,hB8.block b (by have:=ho.2;have:=HTB.out;omega)⟩)
 have hS0:=hS8
 clear hm1 hl0 hc1 hc2 hl1 hm2 hO7 hbx hT7 hz7 hG8
 go_upto_region 8 with fail
 refine B9 (SC [(⟨tb,0,none⟩,(.int .i64 t.n)),(⟨tb,1,none⟩,(.slice la t.links.length lc0)),(⟨fb+1,0,none⟩,(.int .i64 1)),(⟨fb+1,1,none⟩,(.int .i64 0)),(⟨fb+1,2,none⟩,(.slice (some ⟨fb,0,none⟩) 1 1)),(⟨fb,0,none⟩,(.int .i64 a)),(⟨fb,1,none⟩,(.int .i64 b)),(⟨fb,2,none⟩,(.slice none 0 0)),(⟨fb,3,none⟩,(.slice none 0 0))]) 99 (fun a0 a' w'=>∃ v12 v41 v42 v43 v44 v45 v46,a'=C8 a0 [(12,v12),(41,v41),(42,v42),(43,v43),(44,v44),(45,v45),(46,v46)]∧∃ (ma:Option Addr) (mc:Nat),v12=.slice ma c2.length mc∧C7 doS 41 (fun b=>b<w3.heap.size) w3.heap.size w' ma c2.length mc c2∧Below w3.heap.size w8 w') (by kernel_rfl) ?_ ?_
 ·intro Q' hR hQp
  have hb0:Below w8.heap.size w8 w8.drew:=N4 _
  have hS:SC [(⟨tb,0,none⟩,(.int .i64 t.n)),(⟨tb,1,none⟩,(.slice la t.links.length lc0)),(⟨fb+1,0,none⟩,(.int .i64 1)),(⟨fb+1,1,none⟩,(.int .i64 0)),(⟨fb+1,2,none⟩,(.slice (some ⟨fb,0,none⟩) 1 1)),(⟨fb,0,none⟩,(.int .i64 a)),(⟨fb,1,none⟩,(.int .i64 b)),(⟨fb,2,none⟩,(.slice none 0 0)),(⟨fb,3,none⟩,(.slice none 0 0))] w8.drew:=hS0
  generalize w8.drew=wa at *
  refine A9 hQp hS [0,1] ?_
  iterate 2 (refine B2 _ rfl (by kernel_rfl) (A0 (by kernel_rfl) (by intro w0 hw0;have hw1:=hw0;simp only [SC] at hw1;first|(go_simp;done)|(go_simp;rfl))) ?_;simp only [Act.put,St.tA,St.tD,St.tE,St.tS,St.tC,St.tZ])
  refine B3 ?_
  clear hS
  refine A7 (i:=2) rfl (by kernel_rfl) (by kernel_rfl) fun K2 hK2=>?_
  go_simp
  go_wp2_with fail
  refine (B9t _ _ _).mono ?_
  rintro e wm ⟨rfl,hbm1⟩
  have hbm:=hb0.trans (hbm1.mono hb0.size)
  go_wp2_with fail
  have hS:_:=SC.later hbm hS8
  refine hK2 _ _ (fun _=>hS) ?_
  clear hK2
  clear hbm1 hb0
  refine A7 (i:=3) rfl (by kernel_rfl) (by kernel_rfl) fun K3 hK3=>?_
  go_simp
  go_wp2_with fail
  have hbx:Below wm.heap.size wm (wm.alloc (.cells #[.int .i64 6,.int .i64 0,.slice none 0 0] 41)):=B8j _ _
  have hE:=I6 wm 41 #[.int .i64 6,.int .i64 0,.slice none 0 0]
  have hb3:=hbm.trans (hbx.mono hbm.size)
  have hO3:=hO8.below hb3
  have hsrc:=B9l (sh:=doS) (ok:=fun b=>b<w3.heap.size) (x:=B8e) hE ⟨none,0,rfl,I64.small (n:=6) (by decide) (by decide),I64.small (n:=0) (by decide) (by decide),A8.nil _ _ _ _⟩
  have hz9:w3.heap.size≤(wm.alloc (.cells #[.int .i64 6,.int .i64 0,.slice none 0 0] 41)).heap.size:=Nat.le_trans hz8 hb3.size
  have hS:_:=SC.later hb3 hS8
  refine hK3 _ _ (fun _=>hS) ?_
  clear hK3
  generalize wm.alloc _=wb at *
  generalize wm.heap.size=ab at *
  clear hbx hE hbm hS
  refine A7 (i:=4) rfl (by kernel_rfl) (by kernel_rfl) fun K4 hK4=>?_
  refine Q3 (sh:=doS) (n:=c1.length) (m:=1) (.tmp 42) (.tmp 44) 38 (by rfl) 41 i0 (.agg #[.int .i64 0,.int .i64 0,.slice none 0 0]) 40 Try.underlying38 gi gz0 gz1 gz2 rfl (by decide) (by rfl) hO3 (by rfl) rfl hsrc (by simp only [maxLen];omega) (by omega) hz9 ?_
  intro ma3 mc3 w6 hO6 hg6 hd6
  have hB6:Below w3.heap.size w8 w6:=(hb3.mono hz8).trans (D6 hg6 (fun k hk=>(hO3.lt k hk).1) hz9)
  have hS:_:=SC.low hB6 hlow hS8
  refine hK4 _ _ (fun _=>hS) ?_
  clear hK4
  have hz6:=hB6.size
  have hTr6:=I5.mono hTo8 (w':=w6) (ok':=fun b=>okt b∧b<w.heap.size) (fun b hb ho=>⟨ho,hB6.block b (by have:=ho.2;have:=HTB.out;omega)⟩)
  clear hO3 hsrc hz9 hg6 hd6 hb3
  clear hS
  refine A7 (i:=5) rfl (by kernel_rfl) (by kernel_rfl) fun K5 hK5=>?_
  go_simp
  go_wp2_with fail
  have HDR:=B9q t _ (fun b=>okt b∧b<w.heap.size) (fun b=>b<w3.heap.size) w3.heap.size w6 hTr6 (c1++[B8e]) ma3 mc3 (by rw [HL1.out];exact hO6) (by omega) (fun b hb e=>by have:=(hO6.lt b e).1;have:=hb.2;have:=HTB.out;omega) (by rw [HL1.out];omega)
  rw [HD2.out,HL1.out] at HDR
  refine HDR.mono ?_
  rintro e w7 ⟨ma2,mc2,rfl,hO7,hG7⟩
  have hB7:=hB6.trans hG7.below
  go_wp2_with fail
  have hS:_:=SC.low hB7 hlow hS8
  refine hK5 _ _ (fun _=>hS) ?_
  clear hK5
  refine A9 hQp hS [6] ?_
  iterate 1 (refine B2 _ rfl (by kernel_rfl) (A0 (by kernel_rfl) (by intro w0 hw0;have hw1:=hw0;simp only [SC] at hw1;first|(go_simp;done)|(go_simp;rfl))) ?_;simp only [Act.put,St.tA,St.tD,St.tE,St.tS,St.tC,St.tZ])
  refine B3 ?_
  refine B5 (by kernel_rfl) ?_ _
  refine hR _ _ ?_
  iterate 7 apply Exists.intro
  refine ⟨?_,⟨ma2,mc2,rfl,hO7,hB7⟩⟩
  simp only [C8,Act.put,St.tS,St.tC,St.tZ]
  rfl
 rintro a' w8 ⟨v12,v41,v42,v43,v44,v45,v46,rfl,hb8⟩
 simp only [C8,Act.put,St.tS,St.tC,St.tZ]
 obtain ⟨ma5,mc5,rfl,hO9,hB9⟩:=hb8
 rename World=>w9
 have hB39:Below w3.heap.size w3 w9:=hB8.trans hB9
 have hS9:=SC.low hB39 hlow HS3.out
 have hz9:=hB39.size
 have hB09:Below w.heap.size w w9:=hB3.trans (hB39.mono (by have:=HTB.out;omega))
 clear hS0 hS8 hTo8 hO8 hB9 hB8 HD2 HL1
 by_cases hm1:m<1
 case pos=>
  go_wp2
  go_ret;exact ⟨rfl,hB09⟩
 by_cases hm2:(c2.length:Int)<m
 case pos=>
  go_wp2
  go_ret;exact ⟨rfl,hB09⟩
 obtain ⟨A,rfl⟩:∃ A:Nat,m=(A:Int):=⟨m.toNat,by omega⟩
 have hAc:A≤c2.length:=by omega
 have HBP:=Lib.hid (C28 HE.out HC2.out hAc)
 have hT9:I5.rep (fun b=>okt b∧b<w.heap.size) w9 [.int .i64 t.n,.slice la t.links.length lc0] t:=I5.mono hTr3 (fun b hb ho=>⟨ho,hB39.block b (by have:=ho.2;have:=HTB.out;omega)⟩)
 have hF9:A8 H6 (fun b=>b<w9.heap.size) w9 (some ⟨fb,0,none⟩) 1 [⟨a,b,[],[]⟩]:=(hFr3.mono (ok':=fun b=>b<w9.heap.size) (fun b hl ho=>⟨by have:=hB39.size;omega,hB39.block b hl⟩))
 have hR9:=hO9.row (ok':=fun b=>b<w9.heap.size) (fun b hb=>Nat.lt_of_lt_of_le hb hz9) (fun k hk=>(hO9.lt k hk).2)
 have hsr9:=(hR9.take A).src
 have hcap:=hR9.1
 have htk:(c2.take A).length=A:=by rw [List.length_take];omega
 have HTK:=Lib.hid htk
 have HSR:=Lib.hid (fun (w':World) (hb:Below w9.heap.size w9 w')=>((hR9.take A).mono (w':=w') (ok':=fun b=>b<w9.heap.size) (fun b hl ho=>⟨ho,hb.block b ho⟩)).src)
 have HTT:=Lib.hid (fun (w':World) (hb:Below w9.heap.size w9 w')=>I5.below hT9 hb)
 have HRR:=Lib.hid (fun (w':World) (hb:Below w9.heap.size w9 w')=>((hR9.take A).mono (w':=w') (ok':=fun b=>b<w9.heap.size) (fun b hl ho=>⟨ho,hb.block b ho⟩)))
 have HFF:=Lib.hid (fun (w':World) (hb:Below w9.heap.size w9 w')=>hF9.mono (w':=w') (ok':=fun b=>b<w9.heap.size) (fun b hl ho=>⟨ho,hb.block b ho⟩))
 obtain ⟨l1,hl1⟩:∃ l1,c2.take A=l1:=⟨_,rfl⟩
 obtain ⟨l2,hl2⟩:∃ l2,l1++[B9y [⟨a,b,[],[]⟩]]=l2:=⟨_,rfl⟩
 rw [hl1] at HTK HSR HRR HBP
 rw [hl2] at HBP
 have HL2:=Lib.hid hl2
 have hl12:l2.length=A+1:=by rw [←hl2,List.length_append,HTK.out];rfl
 have HLN:=Lib.hid hl12
 have hkA:A≤217:=by omega
 have HPL1:=Lib.hid (fun (w':World) (hb:Below w9.heap.size w9 w') (ma:Option Addr) (mc:Nat) (hO:A1c doS (fun b=>b<w9.heap.size) w' ma mc l2)=>B53 t _ _ w' (HTT.out w' hb) l2 ma mc _ hO)
 have HPL2:=Lib.hid (fun (w':World) (hb:Below w9.heap.size w9 w')=>B53 t _ _ w' (HTT.out w' hb) l1 ma5 mc5 _ (HRR.out w' hb).E)
 rw [HLN.out] at HPL1
 rw [HTK.out] at HPL2
 generalize D9 t l1=R2 at *
 obtain ⟨n2,es2,fe2,ff2⟩:=R2
 generalize D9 t l2=R1 at *
 obtain ⟨n1,es1,fe1,ff1⟩:=R1
 dsimp only at *
 obtain ⟨h91,h92,e9,he9,hst9⟩:=HBP.out
 obtain ⟨rfl,rfl⟩:fe1=0∧ff1=0:=by simpa using h91
 obtain ⟨rfl,rfl⟩:fe2=0∧ff2=0:=by simpa using h92
 have HE9:=Lib.hid he9
 have HST:=Lib.hid hst9
 have k2:(0:Int)≤(A:Int):=by omega
 have k3:(A:Int)≤(mc5:Int):=by omega
 have k4:(A:Int).toNat=A:=by omega
 have hS0:SC [(⟨tb,0,none⟩,(.int .i64 t.n)),(⟨tb,1,none⟩,(.slice la t.links.length lc0)),(⟨fb+1,0,none⟩,(.int .i64 1)),(⟨fb+1,1,none⟩,(.int .i64 0)),(⟨fb+1,2,none⟩,(.slice (some ⟨fb,0,none⟩) 1 1)),(⟨fb,0,none⟩,(.int .i64 a)),(⟨fb,1,none⟩,(.int .i64 b)),(⟨fb,2,none⟩,(.slice none 0 0)),(⟨fb,3,none⟩,(.slice none 0 0))] w9.drew:=hS9
 clear hl1 hl2 htk hl12 hR9 hsr9 h91 h92 he9 hst9 HBP hT9 hF9 hO9 hTr3 hFr3
 go_upto_region 11 with fail
 refine B9 (SC [(⟨tb,0,none⟩,(.int .i64 t.n)),(⟨tb,1,none⟩,(.slice la t.links.length lc0)),(⟨fb+1,0,none⟩,(.int .i64 1)),(⟨fb+1,1,none⟩,(.int .i64 0)),(⟨fb+1,2,none⟩,(.slice (some ⟨fb,0,none⟩) 1 1)),(⟨fb,0,none⟩,(.int .i64 a)),(⟨fb,1,none⟩,(.int .i64 b)),(⟨fb,2,none⟩,(.slice none 0 0)),(⟨fb,3,none⟩,(.slice none 0 0))]) 99 (fun a0 a' w'=>∃ v13 v14 v15 v55 v56 v57 v58 v59 v60 v61 v62 v63 v64 v65 v66 v67 v68,a'=C8 a0 [(13,v13),(14,v14),(15,v15),(55,v55),(56,v56),(57,v57),(58,v58),(59,v59),(60,v60),(61,v61),(62,v62),(63,v63),(64,v64),(65,v65),(66,v66),(67,v67),(68,v68)]∧∃ (gb:Nat) (ea:Option Addr) (ec:Nat),v14=.slice ea es1.length ec∧v15=.pointer (some ⟨gb,0,none⟩)∧A6 w' gb 35 #[.int .i64 0,.int .i64 0]∧A8 A71 (fun _=>True) w' ea ec es1∧Below w9.heap.size w9 w') (by kernel_rfl) ?_ ?_
 ·intro Q' hR hQp
  have hb0:Below w9.heap.size w9 w9.drew:=N4 _
  have hS:SC [(⟨tb,0,none⟩,(.int .i64 t.n)),(⟨tb,1,none⟩,(.slice la t.links.length lc0)),(⟨fb+1,0,none⟩,(.int .i64 1)),(⟨fb+1,1,none⟩,(.int .i64 0)),(⟨fb+1,2,none⟩,(.slice (some ⟨fb,0,none⟩) 1 1)),(⟨fb,0,none⟩,(.int .i64 a)),(⟨fb,1,none⟩,(.int .i64 b)),(⟨fb,2,none⟩,(.slice none 0 0)),(⟨fb,3,none⟩,(.slice none 0 0))] w9.drew:=hS0
  generalize w9.drew=wa at *
  refine A9 hQp hS [0,2,3,6,4] ?_
  iterate 5 (refine B2 _ rfl (by kernel_rfl) (A0 (by kernel_rfl) (by intro w0 hw0;have hw1:=hw0;simp only [SC] at hw1;first|(go_simp;done)|(go_simp;rfl))) ?_;simp only [Act.put,St.tA,St.tD,St.tE,St.tS,St.tC,St.tZ])
  refine B3 ?_
  have hz0:Bz 41 51 35 #[.int .i64 1,.int .i64 0,.slice (some ⟨fb,0,none⟩) 1 1] #[.int .i64 0,.int .i64 0,.slice none 0 0,.slice none 0 0,.int .i64 0,.slice none 0 0,.slice none 0 0,.int .i64 0,.slice none 0 0,.slice none 0 0,.slice none 0 0,.slice none 0 0,.slice none 0 0,.slice none 0 0] #[.int .i64 0,.int .i64 0] w9.heap.size w9 [] none 0 false false false 0 0 0 wa:=Bz.start hb0 hb0.size
  refine C1x fun W a0 ha0 hi ho=>?_
  replace hi:=Lib.hid hi
  replace ho:=Lib.hid ho
  have hsz:a0.tmps.size=105:=by rw [ha0];rfl
  have h56:a0.eval (.tmp 56)=.agg #[.int .i64 t.n,.slice la t.links.length lc0]:=by rw [ha0];rfl
  have h60:a0.eval (.tmp 60)=.slice ma5 A mc5:=by rw [ha0];rfl
  have h62:a0.eval (.tmp 62)=.agg #[.int .i64 1,.int .i64 0,.slice (some ⟨fb,0,none⟩) 1 1]:=by rw [ha0];rfl
  have HA0:=Lib.hid ha0
  clear ha0
  have s5111:∀ (ac:Act) (w:World),(∃ (v57:Value) (v61:Value) (v63:Value) (v64:Value) (cs:List Value) (ea:Option Addr) (ec:Nat) (g14:Nat) (g15:Nat),ac=C8 a0 [(57,v57),(61,v61),(63,v63),(64,v64),(13,.pointer (some ⟨g14,0,none⟩)),(15,.pointer (some ⟨g15,0,none⟩)),(65,.tuple #[.agg cs.toArray,.slice ea es1.length ec,.agg #[.int .i64 0,.int .i64 0]]),(55,.tuple #[.agg cs.toArray,.slice ea es1.length ec,.agg #[.int .i64 0,.int .i64 0]]),(66,.agg cs.toArray),(67,.slice ea es1.length ec),(68,.agg #[.int .i64 0,.int .i64 0])]∧By 51 35 #[.int .i64 0,.int .i64 0,.slice none 0 0,.slice none 0 0,.int .i64 0,.slice none 0 0,.slice none 0 0,.int .i64 0,.slice none 0 0,.slice none 0 0,.slice none 0 0,.slice none 0 0,.slice none 0 0,.slice none 0 0] #[.int .i64 0,.int .i64 0] w9.heap.size w9 cs n1 ea ec es1 true true g14 g15 w)→W 3 #[true,true,true,true,true,true,true,true,true,true,true,true,true,true,true,true,false,false,false] ac w:=by
   rintro ac w ⟨v57,v61,v63,v64,cs,ea,ec,g14,g15,rfl,hz⟩
   rw [HA0.out]
   simp only [C8,Act.put,St.tS,St.tC,St.tZ]
   refine ho.out _ _ _ _ ?_
   obtain ⟨n0,n1',n2',y0,y1,y2,wa,wc,sa,sc,oa,oc,ba,bc,pa,pc,pl,lc,rfl,-,-,hnow,hnext,-,-,-,-,-,-⟩:=A0g.open8 hz.net
   obtain ⟨lp0,lp1,lp2⟩:=B7.st (P:=Try.prog) hnow
   obtain ⟨lq0,lq1,lq2⟩:=B7.st (P:=Try.prog) hnext
   have hA:=(hz.s14 (by trivial)).2
   have hG2:=(hz.s15 (by trivial)).2
   have hlowA:=(hz.s14 (by trivial)).1
   have hlowG:=(hz.s15 (by trivial)).1
   have hneq:=hz.n14 (by trivial) (by trivial)
   have hB:=hz.below
   have he4:=hz.errs
   clear hz hnow hnext
   obtain ⟨x1,x2⟩:=hA.cells
   have hxl:=hA.lt
   refine A7 (i:=16) rfl (by kernel_rfl) (by kernel_rfl) fun K16 hK16=>?_
   go_simp
   go_wp2_with fail
   clear x1 x2
   obtain ⟨hAb,FXb⟩:=B05 hA (fun b=>b≠g14) w9.heap.size (fun h=>h rfl) hlowA (.int .i64 n1.ctl.stage) n0 n1' n2' y0 y1 y2 (.int .i64 n1.ctl.num) (.slice wa n1.ctl.waits.length wc) (.slice sa n1.switches.length sc) (.slice oa n1.orders.length oc) (.slice ba n1.backs.length bc) (.slice pa n1.packets.length pc) (.slice pl n1.plans.length lc)
   have he5:=(FXb.row' he4 (fun b hb=>.inl (hb.1 (by trivial)))).anyOk (ok':=fun b=>b≠g15) (fun b hb ho=>ho.2 (by trivial))
   have hG3:=FXb.blk hG2 (.inl (fun e=>hneq e.symm))
   replace hB:=hB.trans FXb.below
   refine hK16 _ _ (fun _=>SC.later hB hS9) ?_
   clear hK16 hA he4 hG2 FXb lp0 lp1 lp2 lq0 lq1 lq2
   generalize ((((((((((((((w.setCell ⟨g14,0,none⟩ (.int .i64 n1.ctl.stage)).setCell ⟨g14,1,none⟩ n0).setCell ⟨g14,2,none⟩ n1').setCell ⟨g14,3,none⟩ n2').setCell ⟨g14,4,none⟩ y0).setCell ⟨g14,5,none⟩ y1).setCell ⟨g14,6,none⟩ y2).setCell ⟨g14,7,none⟩ (.int .i64 n1.ctl.num)).setCell ⟨g14,8,none⟩ (.slice wa n1.ctl.waits.length wc)).setCell ⟨g14,9,none⟩ (.slice sa n1.switches.length sc)).setCell ⟨g14,10,none⟩ (.slice oa n1.orders.length oc)).setCell ⟨g14,11,none⟩ (.slice ba n1.backs.length bc)).setCell ⟨g14,12,none⟩ (.slice pa n1.packets.length pc)).setCell ⟨g14,13,none⟩ (.slice pl n1.plans.length lc))=kz at hAb he5 hG3 hB ⊢
   have hS:SC [(⟨tb,0,none⟩,(.int .i64 t.n)),(⟨tb,1,none⟩,(.slice la t.links.length lc0)),(⟨fb+1,0,none⟩,(.int .i64 1)),(⟨fb+1,1,none⟩,(.int .i64 0)),(⟨fb+1,2,none⟩,(.slice (some ⟨fb,0,none⟩) 1 1)),(⟨fb,0,none⟩,(.int .i64 a)),(⟨fb,1,none⟩,(.int .i64 b)),(⟨fb,2,none⟩,(.slice none 0 0)),(⟨fb,3,none⟩,(.slice none 0 0))] kz:=SC.later hB hS9
   refine A9 hQp hS [17] ?_
   iterate 1 (refine B2 _ rfl (by kernel_rfl) (A0 (by kernel_rfl) (by intro w0 hw0;have hw1:=hw0;simp only [SC] at hw1;first|(go_simp;done)|(go_simp;rfl))) ?_;simp only [Act.put,St.tA,St.tD,St.tE,St.tS,St.tC,St.tZ])
   refine B3 ?_
   clear hS
   obtain ⟨f1,f2⟩:=hG3.cells
   have hfl:=hG3.lt
   refine A7 (i:=18) rfl (by kernel_rfl) (by kernel_rfl) fun K18 hK18=>?_
   go_simp
   go_wp2_with fail
   clear f1 f2
   have hFz:=(Frm.set (w:=kz) (W:=fun b=>b≠g15) (B:=w9.heap.size) (a:=⟨g15,0,none⟩) (fun h=>h rfl) hlowG (.int .i64 0)).trans (Frm.set (a:=⟨g15,1,none⟩) (fun h=>h rfl) hlowG (.int .i64 0))
   have hGz:=(hG3.set 0 (.int .i64 0)).set 1 (.int .i64 0)
   simp only [St.tS,St.tC,St.tZ] at hGz
   have he6:=(hFz.row' he5 (fun b hb=>.inl hb)).anyOk (ok':=fun _=>True) (fun _ _ _=>trivial)
   replace hB:=hB.trans hFz.below
   refine hK18 _ _ (fun _=>SC.later hB hS9) ?_
   clear hK18
   refine B5 (by kernel_rfl) ?_ _
   refine hR _ _ ?_
   iterate 17 apply Exists.intro
   refine ⟨?_,⟨g15,ea,ec,rfl,rfl,hGz,he6,hB⟩⟩
   simp only [C8,Act.put,St.tS,St.tC,St.tZ]
   rfl
  replace s5111:=Lib.hid s5111
  have s5110:∀ (ac:Act) (w:World),(∃ (v57:Value) (v61:Value) (v63:Value) (v64:Value) (v15:Value) (cs:List Value) (ea:Option Addr) (ec:Nat) (g14:Nat) (g15:Nat),ac=C8 a0 [(57,v57),(61,v61),(63,v63),(64,v64),(13,.pointer (some ⟨g14,0,none⟩)),(15,v15),(65,.tuple #[.agg cs.toArray,.slice ea es1.length ec,.agg #[.int .i64 0,.int .i64 0]]),(55,.tuple #[.agg cs.toArray,.slice ea es1.length ec,.agg #[.int .i64 0,.int .i64 0]]),(66,.agg cs.toArray),(67,.slice ea es1.length ec),(68,.agg #[.int .i64 0,.int .i64 0])]∧By 51 35 #[.int .i64 0,.int .i64 0,.slice none 0 0,.slice none 0 0,.int .i64 0,.slice none 0 0,.slice none 0 0,.int .i64 0,.slice none 0 0,.slice none 0 0,.slice none 0 0,.slice none 0 0,.slice none 0 0,.slice none 0 0] #[.int .i64 0,.int .i64 0] w9.heap.size w9 cs n1 ea ec es1 true false g14 g15 w)→W 4 #[true,true,true,true,true,true,true,true,true,true,true,true,true,true,true,false,false,false,false] ac w:=by
   rintro ac w ⟨v57,v61,v63,v64,v15,cs,ea,ec,g14,g15,ha,hz⟩
   have HA:=Lib.hid ha
   clear ha
   refine ho.out _ _ _ _ ?_
   refine C1r [15] (by kernel_rfl) ?_
   refine C1q rfl (by kernel_rfl) (fun K15 hK15=>?_) ?_
   ·skip
    go_simp
    go_wp2_with fail
    refine hK15 _ _ (fun _=>SC.later (hz.op15).below hS9) ?_
    exact hi.out _ _ _ _ _ (by kernel_rfl) (s5111.out _ _ ⟨_,_,_,_,_,_,_,_,_,by rw [HA.out];exact C1p a0 15 _ _ [(57,_),(61,_),(63,_),(64,_),(13,_)] [(65,_),(55,_),(66,_),(67,_),(68,_)] rfl,hz.op15⟩)
   exact trivial
  replace s5110:=Lib.hid s5110
  have s5101:∀ (ac:Act) (w:World),(∃ (v57:Value) (v61:Value) (v63:Value) (v64:Value) (v13:Value) (cs:List Value) (ea:Option Addr) (ec:Nat) (g14:Nat) (g15:Nat),ac=C8 a0 [(57,v57),(61,v61),(63,v63),(64,v64),(13,v13),(15,.pointer (some ⟨g15,0,none⟩)),(65,.tuple #[.agg cs.toArray,.slice ea es1.length ec,.agg #[.int .i64 0,.int .i64 0]]),(55,.tuple #[.agg cs.toArray,.slice ea es1.length ec,.agg #[.int .i64 0,.int .i64 0]]),(66,.agg cs.toArray),(67,.slice ea es1.length ec),(68,.agg #[.int .i64 0,.int .i64 0])]∧By 51 35 #[.int .i64 0,.int .i64 0,.slice none 0 0,.slice none 0 0,.int .i64 0,.slice none 0 0,.slice none 0 0,.int .i64 0,.slice none 0 0,.slice none 0 0,.slice none 0 0,.slice none 0 0,.slice none 0 0,.slice none 0 0] #[.int .i64 0,.int .i64 0] w9.heap.size w9 cs n1 ea ec es1 false true g14 g15 w)→W 4 #[true,true,true,true,true,true,true,true,true,true,true,true,true,true,false,true,false,false,false] ac w:=by
   rintro ac w ⟨v57,v61,v63,v64,v13,cs,ea,ec,g14,g15,ha,hz⟩
   have HA:=Lib.hid ha
   clear ha
   refine ho.out _ _ _ _ ?_
   refine C1r [14] (by kernel_rfl) ?_
   refine C1q rfl (by kernel_rfl) (fun K14 hK14=>?_) ?_
   ·skip
    go_simp
    go_wp2_with fail
    refine hK14 _ _ (fun _=>SC.later (hz.op14).below hS9) ?_
    exact hi.out _ _ _ _ _ (by kernel_rfl) (s5111.out _ _ ⟨_,_,_,_,_,_,_,_,_,by rw [HA.out];exact C1p a0 13 _ _ [(57,_),(61,_),(63,_),(64,_)] [(15,_),(65,_),(55,_),(66,_),(67,_),(68,_)] rfl,hz.op14⟩)
   exact trivial
  replace s5101:=Lib.hid s5101
  have s5100:∀ (ac:Act) (w:World),(∃ (v57:Value) (v61:Value) (v63:Value) (v64:Value) (v13:Value) (v15:Value) (cs:List Value) (ea:Option Addr) (ec:Nat) (g14:Nat) (g15:Nat),ac=C8 a0 [(57,v57),(61,v61),(63,v63),(64,v64),(13,v13),(15,v15),(65,.tuple #[.agg cs.toArray,.slice ea es1.length ec,.agg #[.int .i64 0,.int .i64 0]]),(55,.tuple #[.agg cs.toArray,.slice ea es1.length ec,.agg #[.int .i64 0,.int .i64 0]]),(66,.agg cs.toArray),(67,.slice ea es1.length ec),(68,.agg #[.int .i64 0,.int .i64 0])]∧By 51 35 #[.int .i64 0,.int .i64 0,.slice none 0 0,.slice none 0 0,.int .i64 0,.slice none 0 0,.slice none 0 0,.int .i64 0,.slice none 0 0,.slice none 0 0,.slice none 0 0,.slice none 0 0,.slice none 0 0,.slice none 0 0] #[.int .i64 0,.int .i64 0] w9.heap.size w9 cs n1 ea ec es1 false false g14 g15 w)→W 5 #[true,true,true,true,true,true,true,true,true,true,true,true,true,true,false,false,false,false,false] ac w:=by
   rintro ac w ⟨v57,v61,v63,v64,v13,v15,cs,ea,ec,g14,g15,ha,hz⟩
   have HA:=Lib.hid ha
   clear ha
   refine ho.out _ _ _ _ ?_
   refine C1r [14,15] (by kernel_rfl) ?_
   refine C1q rfl (by kernel_rfl) (fun K14 hK14=>?_) ?_
   ·skip
    go_simp
    go_wp2_with fail
    refine hK14 _ _ (fun _=>SC.later (hz.op14).below hS9) ?_
    exact hi.out _ _ _ _ _ (by kernel_rfl) (s5110.out _ _ ⟨_,_,_,_,_,_,_,_,_,_,by rw [HA.out];exact C1p a0 13 _ _ [(57,_),(61,_),(63,_),(64,_)] [(15,_),(65,_),(55,_),(66,_),(67,_),(68,_)] rfl,hz.op14⟩)
   refine C1q rfl (by kernel_rfl) (fun K15 hK15=>?_) ?_
   ·skip
    go_simp
    go_wp2_with fail
    refine hK15 _ _ (fun _=>SC.later (hz.op15).below hS9) ?_
    exact hi.out _ _ _ _ _ (by kernel_rfl) (s5101.out _ _ ⟨_,_,_,_,_,_,_,_,_,_,by rw [HA.out];exact C1p a0 15 _ _ [(57,_),(61,_),(63,_),(64,_),(13,_)] [(65,_),(55,_),(66,_),(67,_),(68,_)] rfl,hz.op15⟩)
   exact trivial
  replace s5100:=Lib.hid s5100
  have s4111:∀ (ac:Act) (w:World),(∃ (v57:Value) (v61:Value) (v63:Value) (v64:Value) (cs:List Value) (ea:Option Addr) (ec:Nat) (g14:Nat) (g15:Nat),ac=C8 a0 [(57,v57),(61,v61),(63,v63),(64,v64),(13,.pointer (some ⟨g14,0,none⟩)),(15,.pointer (some ⟨g15,0,none⟩)),(65,.tuple #[.agg cs.toArray,.slice ea es1.length ec,.agg #[.int .i64 0,.int .i64 0]])]∧By 51 35 #[.int .i64 0,.int .i64 0,.slice none 0 0,.slice none 0 0,.int .i64 0,.slice none 0 0,.slice none 0 0,.int .i64 0,.slice none 0 0,.slice none 0 0,.slice none 0 0,.slice none 0 0,.slice none 0 0,.slice none 0 0] #[.int .i64 0,.int .i64 0] w9.heap.size w9 cs n1 ea ec es1 true true g14 g15 w)→W 7 #[true,true,true,true,true,true,true,true,true,true,false,false,false,false,true,true,false,false,false] ac w:=by
   rintro ac w ⟨v57,v61,v63,v64,cs,ea,ec,g14,g15,rfl,hz⟩
   rw [HA0.out]
   simp only [C8,Act.put,St.tS,St.tC,St.tZ]
   refine ho.out _ _ _ _ ?_
   have hS:SC [(⟨tb,0,none⟩,(.int .i64 t.n)),(⟨tb,1,none⟩,(.slice la t.links.length lc0)),(⟨fb+1,0,none⟩,(.int .i64 1)),(⟨fb+1,1,none⟩,(.int .i64 0)),(⟨fb+1,2,none⟩,(.slice (some ⟨fb,0,none⟩) 1 1)),(⟨fb,0,none⟩,(.int .i64 a)),(⟨fb,1,none⟩,(.int .i64 b)),(⟨fb,2,none⟩,(.slice none 0 0)),(⟨fb,3,none⟩,(.slice none 0 0))] w:=SC.later hz.below hS9
   refine A9 hQp hS [10,11,12,13] ?_
   iterate 4 (refine B2 _ rfl (by kernel_rfl) (A0 (by kernel_rfl) (by intro w0 hw0;have hw1:=hw0;simp only [SC] at hw1;first|(go_simp;done)|(go_simp;rfl))) ?_;simp only [Act.put,St.tA,St.tD,St.tE,St.tS,St.tC,St.tZ])
   refine B3 ?_
   refine hi.out _ _ _ _ _ (by kernel_rfl) (s5111.out _ _ ?_)
   iterate 9 apply Exists.intro
   refine ⟨?_,hz⟩
   rw [HA0.out]
   simp only [C8,Act.put,St.tS,St.tC,St.tZ]
   rfl
  replace s4111:=Lib.hid s4111
  have s4110:∀ (ac:Act) (w:World),(∃ (v57:Value) (v61:Value) (v63:Value) (v64:Value) (v15:Value) (cs:List Value) (ea:Option Addr) (ec:Nat) (g14:Nat) (g15:Nat),ac=C8 a0 [(57,v57),(61,v61),(63,v63),(64,v64),(13,.pointer (some ⟨g14,0,none⟩)),(15,v15),(65,.tuple #[.agg cs.toArray,.slice ea es1.length ec,.agg #[.int .i64 0,.int .i64 0]])]∧By 51 35 #[.int .i64 0,.int .i64 0,.slice none 0 0,.slice none 0 0,.int .i64 0,.slice none 0 0,.slice none 0 0,.int .i64 0,.slice none 0 0,.slice none 0 0,.slice none 0 0,.slice none 0 0,.slice none 0 0,.slice none 0 0] #[.int .i64 0,.int .i64 0] w9.heap.size w9 cs n1 ea ec es1 true false g14 g15 w)→W 8 #[true,true,true,true,true,true,true,true,true,true,false,false,false,false,true,false,false,false,false] ac w:=by
   rintro ac w ⟨v57,v61,v63,v64,v15,cs,ea,ec,g14,g15,rfl,hz⟩
   rw [HA0.out]
   simp only [C8,Act.put,St.tS,St.tC,St.tZ]
   refine ho.out _ _ _ _ ?_
   have hS:SC [(⟨tb,0,none⟩,(.int .i64 t.n)),(⟨tb,1,none⟩,(.slice la t.links.length lc0)),(⟨fb+1,0,none⟩,(.int .i64 1)),(⟨fb+1,1,none⟩,(.int .i64 0)),(⟨fb+1,2,none⟩,(.slice (some ⟨fb,0,none⟩) 1 1)),(⟨fb,0,none⟩,(.int .i64 a)),(⟨fb,1,none⟩,(.int .i64 b)),(⟨fb,2,none⟩,(.slice none 0 0)),(⟨fb,3,none⟩,(.slice none 0 0))] w:=SC.later hz.below hS9
   refine A9 hQp hS [10,11,12,13] ?_
   iterate 4 (refine B2 _ rfl (by kernel_rfl) (A0 (by kernel_rfl) (by intro w0 hw0;have hw1:=hw0;simp only [SC] at hw1;first|(go_simp;done)|(go_simp;rfl))) ?_;simp only [Act.put,St.tA,St.tD,St.tE,St.tS,St.tC,St.tZ])
   refine B3 ?_
   refine hi.out _ _ _ _ _ (by kernel_rfl) (s5110.out _ _ ?_)
   iterate 10 apply Exists.intro
   refine ⟨?_,hz⟩
   rw [HA0.out]
   simp only [C8,Act.put,St.tS,St.tC,St.tZ]
   rfl
  replace s4110:=Lib.hid s4110
  have s4101:∀ (ac:Act) (w:World),(∃ (v57:Value) (v61:Value) (v63:Value) (v64:Value) (v13:Value) (cs:List Value) (ea:Option Addr) (ec:Nat) (g14:Nat) (g15:Nat),ac=C8 a0 [(57,v57),(61,v61),(63,v63),(64,v64),(13,v13),(15,.pointer (some ⟨g15,0,none⟩)),(65,.tuple #[.agg cs.toArray,.slice ea es1.length ec,.agg #[.int .i64 0,.int .i64 0]])]∧By 51 35 #[.int .i64 0,.int .i64 0,.slice none 0 0,.slice none 0 0,.int .i64 0,.slice none 0 0,.slice none 0 0,.int .i64 0,.slice none 0 0,.slice none 0 0,.slice none 0 0,.slice none 0 0,.slice none 0 0,.slice none 0 0] #[.int .i64 0,.int .i64 0] w9.heap.size w9 cs n1 ea ec es1 false true g14 g15 w)→W 8 #[true,true,true,true,true,true,true,true,true,true,false,false,false,false,false,true,false,false,false] ac w:=by
   rintro ac w ⟨v57,v61,v63,v64,v13,cs,ea,ec,g14,g15,rfl,hz⟩
   rw [HA0.out]
   simp only [C8,Act.put,St.tS,St.tC,St.tZ]
   refine ho.out _ _ _ _ ?_
   have hS:SC [(⟨tb,0,none⟩,(.int .i64 t.n)),(⟨tb,1,none⟩,(.slice la t.links.length lc0)),(⟨fb+1,0,none⟩,(.int .i64 1)),(⟨fb+1,1,none⟩,(.int .i64 0)),(⟨fb+1,2,none⟩,(.slice (some ⟨fb,0,none⟩) 1 1)),(⟨fb,0,none⟩,(.int .i64 a)),(⟨fb,1,none⟩,(.int .i64 b)),(⟨fb,2,none⟩,(.slice none 0 0)),(⟨fb,3,none⟩,(.slice none 0 0))] w:=SC.later hz.below hS9
   refine A9 hQp hS [10,11,12,13] ?_
   iterate 4 (refine B2 _ rfl (by kernel_rfl) (A0 (by kernel_rfl) (by intro w0 hw0;have hw1:=hw0;simp only [SC] at hw1;first|(go_simp;done)|(go_simp;rfl))) ?_;simp only [Act.put,St.tA,St.tD,St.tE,St.tS,St.tC,St.tZ])
   refine B3 ?_
   refine hi.out _ _ _ _ _ (by kernel_rfl) (s5101.out _ _ ?_)
   iterate 10 apply Exists.intro
   refine ⟨?_,hz⟩
   rw [HA0.out]
   simp only [C8,Act.put,St.tS,St.tC,St.tZ]
   rfl
  replace s4101:=Lib.hid s4101
  have s3111:∀ (ac:Act) (w:World),(∃ (v57:Value) (v61:Value) (ma:Option Addr) (mc:Nat) (g7:Nat) (g14:Nat) (g15:Nat),ac=C8 a0 [(57,v57),(61,v61),(63,.slice (some ⟨g7,0,none⟩) 1 1),(64,.slice ma (A+1) mc),(13,.pointer (some ⟨g14,0,none⟩)),(15,.pointer (some ⟨g15,0,none⟩))]∧Bz 41 51 35 #[.int .i64 1,.int .i64 0,.slice (some ⟨fb,0,none⟩) 1 1] #[.int .i64 0,.int .i64 0,.slice none 0 0,.slice none 0 0,.int .i64 0,.slice none 0 0,.slice none 0 0,.int .i64 0,.slice none 0 0,.slice none 0 0,.slice none 0 0,.slice none 0 0,.slice none 0 0,.slice none 0 0] #[.int .i64 0,.int .i64 0] w9.heap.size w9 l2 ma mc true true true g7 g14 g15 w)→W 8 #[true,true,true,true,true,true,true,true,true,false,false,false,false,false,true,true,false,false,false] ac w:=by
   rintro ac w ⟨v57,v61,ma,mc,g7,g14,g15,ha,hz⟩
   have HA:=Lib.hid ha
   clear ha
   refine ho.out _ _ _ _ ?_
   refine C1r [9] (by kernel_rfl) ?_
   refine C1q rfl (by kernel_rfl) (fun K9 hK9=>?_) ?_
   ·skip
    have e56:ac.eval (.tmp 56)=.agg #[.int .i64 t.n,.slice la t.links.length lc0]:=(by rw [HA.out,C1s 56 _ _ rfl];exact h56)
    have e64:ac.eval (.tmp 64)=.slice ma (A+1) mc:=(by rw [HA.out];exact C1u a0 64 _ [(57,_),(61,_),(63,_)] [(13,_),(15,_)] (by rw [hsz];decide) rfl)
    go_simp
    rw [C1t,e56,C1t,e64]
    go_wp2_with fail
    refine (HPL1.out _ hz.below _ _ hz.row.E).mono ?_
    rintro e w3' ⟨cs,ea,ec,rfl,hn3,he3,hb3⟩
    go_wp2_with fail
    have hz3:=hz.play hb3 hn3 he3
    refine hK9 _ _ (fun _=>SC.later (hz3).below hS9) ?_
    exact hi.out _ _ _ _ _ (by kernel_rfl) (s4111.out _ _ ⟨_,_,_,_,_,_,_,_,_,by rw [HA.out];exact (C1v a0 [(57,_),(61,_),(63,_),(64,_),(13,_),(15,_)] [(65,_)]).symm,hz3⟩)
   exact trivial
  replace s3111:=Lib.hid s3111
  have s4100:∀ (ac:Act) (w:World),(∃ (v57:Value) (v61:Value) (v63:Value) (v64:Value) (v13:Value) (v15:Value) (cs:List Value) (ea:Option Addr) (ec:Nat) (g14:Nat) (g15:Nat),ac=C8 a0 [(57,v57),(61,v61),(63,v63),(64,v64),(13,v13),(15,v15),(65,.tuple #[.agg cs.toArray,.slice ea es1.length ec,.agg #[.int .i64 0,.int .i64 0]])]∧By 51 35 #[.int .i64 0,.int .i64 0,.slice none 0 0,.slice none 0 0,.int .i64 0,.slice none 0 0,.slice none 0 0,.int .i64 0,.slice none 0 0,.slice none 0 0,.slice none 0 0,.slice none 0 0,.slice none 0 0,.slice none 0 0] #[.int .i64 0,.int .i64 0] w9.heap.size w9 cs n1 ea ec es1 false false g14 g15 w)→W 9 #[true,true,true,true,true,true,true,true,true,true,false,false,false,false,false,false,false,false,false] ac w:=by
   rintro ac w ⟨v57,v61,v63,v64,v13,v15,cs,ea,ec,g14,g15,rfl,hz⟩
   rw [HA0.out]
   simp only [C8,Act.put,St.tS,St.tC,St.tZ]
   refine ho.out _ _ _ _ ?_
   have hS:SC [(⟨tb,0,none⟩,(.int .i64 t.n)),(⟨tb,1,none⟩,(.slice la t.links.length lc0)),(⟨fb+1,0,none⟩,(.int .i64 1)),(⟨fb+1,1,none⟩,(.int .i64 0)),(⟨fb+1,2,none⟩,(.slice (some ⟨fb,0,none⟩) 1 1)),(⟨fb,0,none⟩,(.int .i64 a)),(⟨fb,1,none⟩,(.int .i64 b)),(⟨fb,2,none⟩,(.slice none 0 0)),(⟨fb,3,none⟩,(.slice none 0 0))] w:=SC.later hz.below hS9
   refine A9 hQp hS [10,11,12,13] ?_
   iterate 4 (refine B2 _ rfl (by kernel_rfl) (A0 (by kernel_rfl) (by intro w0 hw0;have hw1:=hw0;simp only [SC] at hw1;first|(go_simp;done)|(go_simp;rfl))) ?_;simp only [Act.put,St.tA,St.tD,St.tE,St.tS,St.tC,St.tZ])
   refine B3 ?_
   refine hi.out _ _ _ _ _ (by kernel_rfl) (s5100.out _ _ ?_)
   iterate 11 apply Exists.intro
   refine ⟨?_,hz⟩
   rw [HA0.out]
   simp only [C8,Act.put,St.tS,St.tC,St.tZ]
   rfl
  replace s4100:=Lib.hid s4100
  have s3110:∀ (ac:Act) (w:World),(∃ (v57:Value) (v61:Value) (v15:Value) (ma:Option Addr) (mc:Nat) (g7:Nat) (g14:Nat) (g15:Nat),ac=C8 a0 [(57,v57),(61,v61),(63,.slice (some ⟨g7,0,none⟩) 1 1),(64,.slice ma (A+1) mc),(13,.pointer (some ⟨g14,0,none⟩)),(15,v15)]∧Bz 41 51 35 #[.int .i64 1,.int .i64 0,.slice (some ⟨fb,0,none⟩) 1 1] #[.int .i64 0,.int .i64 0,.slice none 0 0,.slice none 0 0,.int .i64 0,.slice none 0 0,.slice none 0 0,.int .i64 0,.slice none 0 0,.slice none 0 0,.slice none 0 0,.slice none 0 0,.slice none 0 0,.slice none 0 0] #[.int .i64 0,.int .i64 0] w9.heap.size w9 l2 ma mc true true false g7 g14 g15 w)→W 9 #[true,true,true,true,true,true,true,true,true,false,false,false,false,false,true,false,false,false,false] ac w:=by
   rintro ac w ⟨v57,v61,v15,ma,mc,g7,g14,g15,ha,hz⟩
   have HA:=Lib.hid ha
   clear ha
   refine ho.out _ _ _ _ ?_
   refine C1r [9,15] (by kernel_rfl) ?_
   refine C1q rfl (by kernel_rfl) (fun K9 hK9=>?_) ?_
   ·skip
    have e56:ac.eval (.tmp 56)=.agg #[.int .i64 t.n,.slice la t.links.length lc0]:=(by rw [HA.out,C1s 56 _ _ rfl];exact h56)
    have e64:ac.eval (.tmp 64)=.slice ma (A+1) mc:=(by rw [HA.out];exact C1u a0 64 _ [(57,_),(61,_),(63,_)] [(13,_),(15,_)] (by rw [hsz];decide) rfl)
    go_simp
    rw [C1t,e56,C1t,e64]
    go_wp2_with fail
    refine (HPL1.out _ hz.below _ _ hz.row.E).mono ?_
    rintro e w3' ⟨cs,ea,ec,rfl,hn3,he3,hb3⟩
    go_wp2_with fail
    have hz3:=hz.play hb3 hn3 he3
    refine hK9 _ _ (fun _=>SC.later (hz3).below hS9) ?_
    exact hi.out _ _ _ _ _ (by kernel_rfl) (s4110.out _ _ ⟨_,_,_,_,_,_,_,_,_,_,by rw [HA.out];exact (C1v a0 [(57,_),(61,_),(63,_),(64,_),(13,_),(15,_)] [(65,_)]).symm,hz3⟩)
   refine C1q rfl (by kernel_rfl) (fun K15 hK15=>?_) ?_
   ·skip
    go_simp
    go_wp2_with fail
    refine hK15 _ _ (fun _=>SC.later (hz.op15).below hS9) ?_
    exact hi.out _ _ _ _ _ (by kernel_rfl) (s3111.out _ _ ⟨_,_,_,_,_,_,_,by rw [HA.out];exact C1p a0 15 _ _ [(57,_),(61,_),(63,_),(64,_),(13,_)] [] rfl,hz.op15⟩)
   exact trivial
  replace s3110:=Lib.hid s3110
  have s3101:∀ (ac:Act) (w:World),(∃ (v57:Value) (v61:Value) (v13:Value) (ma:Option Addr) (mc:Nat) (g7:Nat) (g14:Nat) (g15:Nat),ac=C8 a0 [(57,v57),(61,v61),(63,.slice (some ⟨g7,0,none⟩) 1 1),(64,.slice ma (A+1) mc),(13,v13),(15,.pointer (some ⟨g15,0,none⟩))]∧Bz 41 51 35 #[.int .i64 1,.int .i64 0,.slice (some ⟨fb,0,none⟩) 1 1] #[.int .i64 0,.int .i64 0,.slice none 0 0,.slice none 0 0,.int .i64 0,.slice none 0 0,.slice none 0 0,.int .i64 0,.slice none 0 0,.slice none 0 0,.slice none 0 0,.slice none 0 0,.slice none 0 0,.slice none 0 0] #[.int .i64 0,.int .i64 0] w9.heap.size w9 l2 ma mc true false true g7 g14 g15 w)→W 9 #[true,true,true,true,true,true,true,true,true,false,false,false,false,false,false,true,false,false,false] ac w:=by
   rintro ac w ⟨v57,v61,v13,ma,mc,g7,g14,g15,ha,hz⟩
   have HA:=Lib.hid ha
   clear ha
   refine ho.out _ _ _ _ ?_
   refine C1r [9,14] (by kernel_rfl) ?_
   refine C1q rfl (by kernel_rfl) (fun K9 hK9=>?_) ?_
   ·skip
    have e56:ac.eval (.tmp 56)=.agg #[.int .i64 t.n,.slice la t.links.length lc0]:=(by rw [HA.out,C1s 56 _ _ rfl];exact h56)
    have e64:ac.eval (.tmp 64)=.slice ma (A+1) mc:=(by rw [HA.out];exact C1u a0 64 _ [(57,_),(61,_),(63,_)] [(13,_),(15,_)] (by rw [hsz];decide) rfl)
    go_simp
    rw [C1t,e56,C1t,e64]
    go_wp2_with fail
    refine (HPL1.out _ hz.below _ _ hz.row.E).mono ?_
    rintro e w3' ⟨cs,ea,ec,rfl,hn3,he3,hb3⟩
    go_wp2_with fail
    have hz3:=hz.play hb3 hn3 he3
    refine hK9 _ _ (fun _=>SC.later (hz3).below hS9) ?_
    exact hi.out _ _ _ _ _ (by kernel_rfl) (s4101.out _ _ ⟨_,_,_,_,_,_,_,_,_,_,by rw [HA.out];exact (C1v a0 [(57,_),(61,_),(63,_),(64,_),(13,_),(15,_)] [(65,_)]).symm,hz3⟩)
   refine C1q rfl (by kernel_rfl) (fun K14 hK14=>?_) ?_
   ·skip
    go_simp
    go_wp2_with fail
    refine hK14 _ _ (fun _=>SC.later (hz.op14).below hS9) ?_
    exact hi.out _ _ _ _ _ (by kernel_rfl) (s3111.out _ _ ⟨_,_,_,_,_,_,_,by rw [HA.out];exact C1p a0 13 _ _ [(57,_),(61,_),(63,_),(64,_)] [(15,_)] rfl,hz.op14⟩)
   exact trivial
  replace s3101:=Lib.hid s3101
  have s2111:∀ (ac:Act) (w:World),(∃ (v57:Value) (v64:Value) (ma:Option Addr) (mc:Nat) (g7:Nat) (g14:Nat) (g15:Nat),ac=C8 a0 [(57,v57),(61,.slice ma A mc),(63,.slice (some ⟨g7,0,none⟩) 1 1),(64,v64),(13,.pointer (some ⟨g14,0,none⟩)),(15,.pointer (some ⟨g15,0,none⟩))]∧Bz 41 51 35 #[.int .i64 1,.int .i64 0,.slice (some ⟨fb,0,none⟩) 1 1] #[.int .i64 0,.int .i64 0,.slice none 0 0,.slice none 0 0,.int .i64 0,.slice none 0 0,.slice none 0 0,.int .i64 0,.slice none 0 0,.slice none 0 0,.slice none 0 0,.slice none 0 0,.slice none 0 0,.slice none 0 0] #[.int .i64 0,.int .i64 0] w9.heap.size w9 l1 ma mc true true true g7 g14 g15 w)→W 9 #[true,true,true,true,true,true,true,true,false,false,false,false,false,false,true,true,false,false,false] ac w:=by
   rintro ac w ⟨v57,v64,ma,mc,g7,g14,g15,ha,hz⟩
   have HA:=Lib.hid ha
   clear ha
   refine ho.out _ _ _ _ ?_
   refine C1r [8] (by kernel_rfl) ?_
   refine C1q rfl (by kernel_rfl) (fun K8 hK8=>?_) ?_
   ·skip
    have hsrc:=B9l (sh:=doS) (ok:=fun b=>b<w9.heap.size) (x:=B9y [⟨a,b,[],[]⟩]) (hz.s7 (by trivial)).2 (C0f (HFF.out _ hz.below))
    have hrw:=hz.row
    rw [HTK.out] at hrw
    refine Q3 (sh:=doS) (n:=A) (m:=1) (.tmp 61) (.tmp 63) 38 (by rfl) 41 i0 (.agg #[.int .i64 0,.int .i64 0,.slice none 0 0]) 40 Try.underlying38 gi gz0 gz1 gz2 rfl (by decide) (by rw [HA.out];exact C1u a0 61 _ [(57,_)] [(63,_),(64,_),(13,_),(15,_)] (by rw [hsz];decide) rfl) hrw (by rw [HA.out];exact C1u a0 63 _ [(57,_),(61,_)] [(64,_),(13,_),(15,_)] (by rw [hsz];decide) rfl) rfl hsrc (by simp only [maxLen];omega) (by omega) hz.size ?_
    intro ma3 mc3 w3' hO3 hg3 hd3
    rw [HL2.out,←HLN.out] at hO3
    have hz3:=hz.app hO3 hg3 hd3
    refine hK8 _ _ (fun _=>SC.later (hz3).below hS9) ?_
    exact hi.out _ _ _ _ _ (by kernel_rfl) (s3111.out _ _ ⟨_,_,_,_,_,_,_,by rw [HA.out];exact C1p a0 64 _ _ [(57,_),(61,_),(63,_)] [(13,_),(15,_)] rfl,hz3⟩)
   exact trivial
  replace s2111:=Lib.hid s2111
  have s3100:∀ (ac:Act) (w:World),(∃ (v57:Value) (v61:Value) (v13:Value) (v15:Value) (ma:Option Addr) (mc:Nat) (g7:Nat) (g14:Nat) (g15:Nat),ac=C8 a0 [(57,v57),(61,v61),(63,.slice (some ⟨g7,0,none⟩) 1 1),(64,.slice ma (A+1) mc),(13,v13),(15,v15)]∧Bz 41 51 35 #[.int .i64 1,.int .i64 0,.slice (some ⟨fb,0,none⟩) 1 1] #[.int .i64 0,.int .i64 0,.slice none 0 0,.slice none 0 0,.int .i64 0,.slice none 0 0,.slice none 0 0,.int .i64 0,.slice none 0 0,.slice none 0 0,.slice none 0 0,.slice none 0 0,.slice none 0 0,.slice none 0 0] #[.int .i64 0,.int .i64 0] w9.heap.size w9 l2 ma mc true false false g7 g14 g15 w)→W 10 #[true,true,true,true,true,true,true,true,true,false,false,false,false,false,false,false,false,false,false] ac w:=by
   rintro ac w ⟨v57,v61,v13,v15,ma,mc,g7,g14,g15,ha,hz⟩
   have HA:=Lib.hid ha
   clear ha
   refine ho.out _ _ _ _ ?_
   refine C1r [9,14,15] (by kernel_rfl) ?_
   refine C1q rfl (by kernel_rfl) (fun K9 hK9=>?_) ?_
   ·skip
    have e56:ac.eval (.tmp 56)=.agg #[.int .i64 t.n,.slice la t.links.length lc0]:=(by rw [HA.out,C1s 56 _ _ rfl];exact h56)
    have e64:ac.eval (.tmp 64)=.slice ma (A+1) mc:=(by rw [HA.out];exact C1u a0 64 _ [(57,_),(61,_),(63,_)] [(13,_),(15,_)] (by rw [hsz];decide) rfl)
    go_simp
    rw [C1t,e56,C1t,e64]
    go_wp2_with fail
    refine (HPL1.out _ hz.below _ _ hz.row.E).mono ?_
    rintro e w3' ⟨cs,ea,ec,rfl,hn3,he3,hb3⟩
    go_wp2_with fail
    have hz3:=hz.play hb3 hn3 he3
    refine hK9 _ _ (fun _=>SC.later (hz3).below hS9) ?_
    exact hi.out _ _ _ _ _ (by kernel_rfl) (s4100.out _ _ ⟨_,_,_,_,_,_,_,_,_,_,_,by rw [HA.out];exact (C1v a0 [(57,_),(61,_),(63,_),(64,_),(13,_),(15,_)] [(65,_)]).symm,hz3⟩)
   refine C1q rfl (by kernel_rfl) (fun K14 hK14=>?_) ?_
   ·skip
    go_simp
    go_wp2_with fail
    refine hK14 _ _ (fun _=>SC.later (hz.op14).below hS9) ?_
    exact hi.out _ _ _ _ _ (by kernel_rfl) (s3110.out _ _ ⟨_,_,_,_,_,_,_,_,by rw [HA.out];exact C1p a0 13 _ _ [(57,_),(61,_),(63,_),(64,_)] [(15,_)] rfl,hz.op14⟩)
   refine C1q rfl (by kernel_rfl) (fun K15 hK15=>?_) ?_
   ·skip
    go_simp
    go_wp2_with fail
    refine hK15 _ _ (fun _=>SC.later (hz.op15).below hS9) ?_
    exact hi.out _ _ _ _ _ (by kernel_rfl) (s3101.out _ _ ⟨_,_,_,_,_,_,_,_,by rw [HA.out];exact C1p a0 15 _ _ [(57,_),(61,_),(63,_),(64,_),(13,_)] [] rfl,hz.op15⟩)
   exact trivial
  replace s3100:=Lib.hid s3100
  have s2110:∀ (ac:Act) (w:World),(∃ (v57:Value) (v64:Value) (v15:Value) (ma:Option Addr) (mc:Nat) (g7:Nat) (g14:Nat) (g15:Nat),ac=C8 a0 [(57,v57),(61,.slice ma A mc),(63,.slice (some ⟨g7,0,none⟩) 1 1),(64,v64),(13,.pointer (some ⟨g14,0,none⟩)),(15,v15)]∧Bz 41 51 35 #[.int .i64 1,.int .i64 0,.slice (some ⟨fb,0,none⟩) 1 1] #[.int .i64 0,.int .i64 0,.slice none 0 0,.slice none 0 0,.int .i64 0,.slice none 0 0,.slice none 0 0,.int .i64 0,.slice none 0 0,.slice none 0 0,.slice none 0 0,.slice none 0 0,.slice none 0 0,.slice none 0 0] #[.int .i64 0,.int .i64 0] w9.heap.size w9 l1 ma mc true true false g7 g14 g15 w)→W 10 #[true,true,true,true,true,true,true,true,false,false,false,false,false,false,true,false,false,false,false] ac w:=by
   rintro ac w ⟨v57,v64,v15,ma,mc,g7,g14,g15,ha,hz⟩
   have HA:=Lib.hid ha
   clear ha
   refine ho.out _ _ _ _ ?_
   refine C1r [8,15] (by kernel_rfl) ?_
   refine C1q rfl (by kernel_rfl) (fun K8 hK8=>?_) ?_
   ·skip
    have hsrc:=B9l (sh:=doS) (ok:=fun b=>b<w9.heap.size) (x:=B9y [⟨a,b,[],[]⟩]) (hz.s7 (by trivial)).2 (C0f (HFF.out _ hz.below))
    have hrw:=hz.row
    rw [HTK.out] at hrw
    refine Q3 (sh:=doS) (n:=A) (m:=1) (.tmp 61) (.tmp 63) 38 (by rfl) 41 i0 (.agg #[.int .i64 0,.int .i64 0,.slice none 0 0]) 40 Try.underlying38 gi gz0 gz1 gz2 rfl (by decide) (by rw [HA.out];exact C1u a0 61 _ [(57,_)] [(63,_),(64,_),(13,_),(15,_)] (by rw [hsz];decide) rfl) hrw (by rw [HA.out];exact C1u a0 63 _ [(57,_),(61,_)] [(64,_),(13,_),(15,_)] (by rw [hsz];decide) rfl) rfl hsrc (by simp only [maxLen];omega) (by omega) hz.size ?_
    intro ma3 mc3 w3' hO3 hg3 hd3
    rw [HL2.out,←HLN.out] at hO3
    have hz3:=hz.app hO3 hg3 hd3
    refine hK8 _ _ (fun _=>SC.later (hz3).below hS9) ?_
    exact hi.out _ _ _ _ _ (by kernel_rfl) (s3110.out _ _ ⟨_,_,_,_,_,_,_,_,by rw [HA.out];exact C1p a0 64 _ _ [(57,_),(61,_),(63,_)] [(13,_),(15,_)] rfl,hz3⟩)
   refine C1q rfl (by kernel_rfl) (fun K15 hK15=>?_) ?_
   ·skip
    go_simp
    go_wp2_with fail
    refine hK15 _ _ (fun _=>SC.later (hz.op15).below hS9) ?_
    exact hi.out _ _ _ _ _ (by kernel_rfl) (s2111.out _ _ ⟨_,_,_,_,_,_,_,by rw [HA.out];exact C1p a0 15 _ _ [(57,_),(61,_),(63,_),(64,_),(13,_)] [] rfl,hz.op15⟩)
   exact trivial
  replace s2110:=Lib.hid s2110
  have s2101:∀ (ac:Act) (w:World),(∃ (v57:Value) (v64:Value) (v13:Value) (ma:Option Addr) (mc:Nat) (g7:Nat) (g14:Nat) (g15:Nat),ac=C8 a0 [(57,v57),(61,.slice ma A mc),(63,.slice (some ⟨g7,0,none⟩) 1 1),(64,v64),(13,v13),(15,.pointer (some ⟨g15,0,none⟩))]∧Bz 41 51 35 #[.int .i64 1,.int .i64 0,.slice (some ⟨fb,0,none⟩) 1 1] #[.int .i64 0,.int .i64 0,.slice none 0 0,.slice none 0 0,.int .i64 0,.slice none 0 0,.slice none 0 0,.int .i64 0,.slice none 0 0,.slice none 0 0,.slice none 0 0,.slice none 0 0,.slice none 0 0,.slice none 0 0] #[.int .i64 0,.int .i64 0] w9.heap.size w9 l1 ma mc true false true g7 g14 g15 w)→W 10 #[true,true,true,true,true,true,true,true,false,false,false,false,false,false,false,true,false,false,false] ac w:=by
   rintro ac w ⟨v57,v64,v13,ma,mc,g7,g14,g15,ha,hz⟩
   have HA:=Lib.hid ha
   clear ha
   refine ho.out _ _ _ _ ?_
   refine C1r [8,14] (by kernel_rfl) ?_
   refine C1q rfl (by kernel_rfl) (fun K8 hK8=>?_) ?_
   ·skip
    have hsrc:=B9l (sh:=doS) (ok:=fun b=>b<w9.heap.size) (x:=B9y [⟨a,b,[],[]⟩]) (hz.s7 (by trivial)).2 (C0f (HFF.out _ hz.below))
    have hrw:=hz.row
    rw [HTK.out] at hrw
    refine Q3 (sh:=doS) (n:=A) (m:=1) (.tmp 61) (.tmp 63) 38 (by rfl) 41 i0 (.agg #[.int .i64 0,.int .i64 0,.slice none 0 0]) 40 Try.underlying38 gi gz0 gz1 gz2 rfl (by decide) (by rw [HA.out];exact C1u a0 61 _ [(57,_)] [(63,_),(64,_),(13,_),(15,_)] (by rw [hsz];decide) rfl) hrw (by rw [HA.out];exact C1u a0 63 _ [(57,_),(61,_)] [(64,_),(13,_),(15,_)] (by rw [hsz];decide) rfl) rfl hsrc (by simp only [maxLen];omega) (by omega) hz.size ?_
    intro ma3 mc3 w3' hO3 hg3 hd3
    rw [HL2.out,←HLN.out] at hO3
    have hz3:=hz.app hO3 hg3 hd3
    refine hK8 _ _ (fun _=>SC.later (hz3).below hS9) ?_
    exact hi.out _ _ _ _ _ (by kernel_rfl) (s3101.out _ _ ⟨_,_,_,_,_,_,_,_,by rw [HA.out];exact C1p a0 64 _ _ [(57,_),(61,_),(63,_)] [(13,_),(15,_)] rfl,hz3⟩)
   refine C1q rfl (by kernel_rfl) (fun K14 hK14=>?_) ?_
   ·skip
    go_simp
    go_wp2_with fail
    refine hK14 _ _ (fun _=>SC.later (hz.op14).below hS9) ?_
    exact hi.out _ _ _ _ _ (by kernel_rfl) (s2111.out _ _ ⟨_,_,_,_,_,_,_,by rw [HA.out];exact C1p a0 13 _ _ [(57,_),(61,_),(63,_),(64,_)] [(15,_)] rfl,hz.op14⟩)
   exact trivial
  replace s2101:=Lib.hid s2101
  have s2011:∀ (ac:Act) (w:World),(∃ (v57:Value) (v63:Value) (v64:Value) (ma:Option Addr) (mc:Nat) (g7:Nat) (g14:Nat) (g15:Nat),ac=C8 a0 [(57,v57),(61,.slice ma A mc),(63,v63),(64,v64),(13,.pointer (some ⟨g14,0,none⟩)),(15,.pointer (some ⟨g15,0,none⟩))]∧Bz 41 51 35 #[.int .i64 1,.int .i64 0,.slice (some ⟨fb,0,none⟩) 1 1] #[.int .i64 0,.int .i64 0,.slice none 0 0,.slice none 0 0,.int .i64 0,.slice none 0 0,.slice none 0 0,.int .i64 0,.slice none 0 0,.slice none 0 0,.slice none 0 0,.slice none 0 0,.slice none 0 0,.slice none 0 0] #[.int .i64 0,.int .i64 0] w9.heap.size w9 l1 ma mc false true true g7 g14 g15 w)→W 10 #[true,true,true,true,true,true,true,false,false,false,false,false,false,false,true,true,false,false,false] ac w:=by
   rintro ac w ⟨v57,v63,v64,ma,mc,g7,g14,g15,ha,hz⟩
   have HA:=Lib.hid ha
   clear ha
   refine ho.out _ _ _ _ ?_
   refine C1r [7] (by kernel_rfl) ?_
   refine C1q rfl (by kernel_rfl) (fun K7 hK7=>?_) ?_
   ·skip
    obtain ⟨-,-,d1,d2,d3,-⟩:=SC.later hz.below hS9
    have e62:ac.eval (.tmp 62)=.agg #[.int .i64 1,.int .i64 0,.slice (some ⟨fb,0,none⟩) 1 1]:=(by rw [HA.out,C1s 62 _ _ rfl];exact h62)
    go_simp
    try rw [C1t,e62]
    go_wp2_with fail
    refine hK7 _ _ (fun _=>SC.later (hz.op7).below hS9) ?_
    exact hi.out _ _ _ _ _ (by kernel_rfl) (s2111.out _ _ ⟨_,_,_,_,_,_,_,by rw [HA.out];exact C1p a0 63 _ _ [(57,_),(61,_)] [(64,_),(13,_),(15,_)] rfl,hz.op7⟩)
   exact trivial
  replace s2011:=Lib.hid s2011
  have s1111:∀ (ac:Act) (w:World),(∃ (v61:Value) (v64:Value) (ma:Option Addr) (mc:Nat) (g7:Nat) (g14:Nat) (g15:Nat),ac=C8 a0 [(57,.slice ma 0 mc),(61,v61),(63,.slice (some ⟨g7,0,none⟩) 1 1),(64,v64),(13,.pointer (some ⟨g14,0,none⟩)),(15,.pointer (some ⟨g15,0,none⟩))]∧Bz 41 51 35 #[.int .i64 1,.int .i64 0,.slice (some ⟨fb,0,none⟩) 1 1] #[.int .i64 0,.int .i64 0,.slice none 0 0,.slice none 0 0,.int .i64 0,.slice none 0 0,.slice none 0 0,.int .i64 0,.slice none 0 0,.slice none 0 0,.slice none 0 0,.slice none 0 0,.slice none 0 0,.slice none 0 0] #[.int .i64 0,.int .i64 0] w9.heap.size w9 [] ma mc true true true g7 g14 g15 w)→W 10 #[true,true,true,true,true,false,true,true,false,false,false,false,false,false,true,true,false,false,false] ac w:=by
   rintro ac w ⟨v61,v64,ma,mc,g7,g14,g15,ha,hz⟩
   have HA:=Lib.hid ha
   clear ha
   refine ho.out _ _ _ _ ?_
   refine C1r [5] (by kernel_rfl) ?_
   refine C1q rfl (by kernel_rfl) (fun K5 hK5=>?_) ?_
   ·skip
    refine Q3 (sh:=doS) (n:=0) (m:=A) (.tmp 57) (.tmp 60) 38 (by rfl) 41 i0 (.agg #[.int .i64 0,.int .i64 0,.slice none 0 0]) 40 Try.underlying38 gi gz0 gz1 gz2 rfl (by decide) (by rw [HA.out];exact C1u a0 57 _ [] [(61,_),(63,_),(64,_),(13,_),(15,_)] (by rw [hsz];decide) rfl) hz.row (by rw [HA.out,C1s 60 _ _ rfl];exact h60) HTK.out (HSR.out _ hz.below) (by simp only [maxLen];omega) (by omega) hz.size ?_
    intro ma3 mc3 w3' hO3 hg3 hd3
    rw [List.nil_append,Nat.zero_add,←HTK.out] at hO3
    rw [Nat.zero_add]
    have hz3:=hz.app hO3 hg3 hd3
    refine hK5 _ _ (fun _=>SC.later (hz3).below hS9) ?_
    exact hi.out _ _ _ _ _ (by kernel_rfl) (s2111.out _ _ ⟨_,_,_,_,_,_,_,by rw [HA.out];exact C1p a0 61 _ _ [(57,_)] [(63,_),(64,_),(13,_),(15,_)] rfl,hz3⟩)
   exact trivial
  replace s1111:=Lib.hid s1111
  have s2100:∀ (ac:Act) (w:World),(∃ (v57:Value) (v64:Value) (v13:Value) (v15:Value) (ma:Option Addr) (mc:Nat) (g7:Nat) (g14:Nat) (g15:Nat),ac=C8 a0 [(57,v57),(61,.slice ma A mc),(63,.slice (some ⟨g7,0,none⟩) 1 1),(64,v64),(13,v13),(15,v15)]∧Bz 41 51 35 #[.int .i64 1,.int .i64 0,.slice (some ⟨fb,0,none⟩) 1 1] #[.int .i64 0,.int .i64 0,.slice none 0 0,.slice none 0 0,.int .i64 0,.slice none 0 0,.slice none 0 0,.int .i64 0,.slice none 0 0,.slice none 0 0,.slice none 0 0,.slice none 0 0,.slice none 0 0,.slice none 0 0] #[.int .i64 0,.int .i64 0] w9.heap.size w9 l1 ma mc true false false g7 g14 g15 w)→W 11 #[true,true,true,true,true,true,true,true,false,false,false,false,false,false,false,false,false,false,false] ac w:=by
   rintro ac w ⟨v57,v64,v13,v15,ma,mc,g7,g14,g15,ha,hz⟩
   have HA:=Lib.hid ha
   clear ha
   refine ho.out _ _ _ _ ?_
   refine C1r [8,14,15] (by kernel_rfl) ?_
   refine C1q rfl (by kernel_rfl) (fun K8 hK8=>?_) ?_
   ·skip
    have hsrc:=B9l (sh:=doS) (ok:=fun b=>b<w9.heap.size) (x:=B9y [⟨a,b,[],[]⟩]) (hz.s7 (by trivial)).2 (C0f (HFF.out _ hz.below))
    have hrw:=hz.row
    rw [HTK.out] at hrw
    refine Q3 (sh:=doS) (n:=A) (m:=1) (.tmp 61) (.tmp 63) 38 (by rfl) 41 i0 (.agg #[.int .i64 0,.int .i64 0,.slice none 0 0]) 40 Try.underlying38 gi gz0 gz1 gz2 rfl (by decide) (by rw [HA.out];exact C1u a0 61 _ [(57,_)] [(63,_),(64,_),(13,_),(15,_)] (by rw [hsz];decide) rfl) hrw (by rw [HA.out];exact C1u a0 63 _ [(57,_),(61,_)] [(64,_),(13,_),(15,_)] (by rw [hsz];decide) rfl) rfl hsrc (by simp only [maxLen];omega) (by omega) hz.size ?_
    intro ma3 mc3 w3' hO3 hg3 hd3
    rw [HL2.out,←HLN.out] at hO3
    have hz3:=hz.app hO3 hg3 hd3
    refine hK8 _ _ (fun _=>SC.later (hz3).below hS9) ?_
    exact hi.out _ _ _ _ _ (by kernel_rfl) (s3100.out _ _ ⟨_,_,_,_,_,_,_,_,_,by rw [HA.out];exact C1p a0 64 _ _ [(57,_),(61,_),(63,_)] [(13,_),(15,_)] rfl,hz3⟩)
   refine C1q rfl (by kernel_rfl) (fun K14 hK14=>?_) ?_
   ·skip
    go_simp
    go_wp2_with fail
    refine hK14 _ _ (fun _=>SC.later (hz.op14).below hS9) ?_
    exact hi.out _ _ _ _ _ (by kernel_rfl) (s2110.out _ _ ⟨_,_,_,_,_,_,_,_,by rw [HA.out];exact C1p a0 13 _ _ [(57,_),(61,_),(63,_),(64,_)] [(15,_)] rfl,hz.op14⟩)
   refine C1q rfl (by kernel_rfl) (fun K15 hK15=>?_) ?_
   ·skip
    go_simp
    go_wp2_with fail
    refine hK15 _ _ (fun _=>SC.later (hz.op15).below hS9) ?_
    exact hi.out _ _ _ _ _ (by kernel_rfl) (s2101.out _ _ ⟨_,_,_,_,_,_,_,_,by rw [HA.out];exact C1p a0 15 _ _ [(57,_),(61,_),(63,_),(64,_),(13,_)] [] rfl,hz.op15⟩)
   exact trivial
  replace s2100:=Lib.hid s2100
  have s2010:∀ (ac:Act) (w:World),(∃ (v57:Value) (v63:Value) (v64:Value) (v15:Value) (ma:Option Addr) (mc:Nat) (g7:Nat) (g14:Nat) (g15:Nat),ac=C8 a0 [(57,v57),(61,.slice ma A mc),(63,v63),(64,v64),(13,.pointer (some ⟨g14,0,none⟩)),(15,v15)]∧Bz 41 51 35 #[.int .i64 1,.int .i64 0,.slice (some ⟨fb,0,none⟩) 1 1] #[.int .i64 0,.int .i64 0,.slice none 0 0,.slice none 0 0,.int .i64 0,.slice none 0 0,.slice none 0 0,.int .i64 0,.slice none 0 0,.slice none 0 0,.slice none 0 0,.slice none 0 0,.slice none 0 0,.slice none 0 0] #[.int .i64 0,.int .i64 0] w9.heap.size w9 l1 ma mc false true false g7 g14 g15 w)→W 11 #[true,true,true,true,true,true,true,false,false,false,false,false,false,false,true,false,false,false,false] ac w:=by
   rintro ac w ⟨v57,v63,v64,v15,ma,mc,g7,g14,g15,ha,hz⟩
   have HA:=Lib.hid ha
   clear ha
   refine ho.out _ _ _ _ ?_
   refine C1r [7,15] (by kernel_rfl) ?_
   refine C1q rfl (by kernel_rfl) (fun K7 hK7=>?_) ?_
   ·skip
    obtain ⟨-,-,d1,d2,d3,-⟩:=SC.later hz.below hS9
    have e62:ac.eval (.tmp 62)=.agg #[.int .i64 1,.int .i64 0,.slice (some ⟨fb,0,none⟩) 1 1]:=(by rw [HA.out,C1s 62 _ _ rfl];exact h62)
    go_simp
    try rw [C1t,e62]
    go_wp2_with fail
    refine hK7 _ _ (fun _=>SC.later (hz.op7).below hS9) ?_
    exact hi.out _ _ _ _ _ (by kernel_rfl) (s2110.out _ _ ⟨_,_,_,_,_,_,_,_,by rw [HA.out];exact C1p a0 63 _ _ [(57,_),(61,_)] [(64,_),(13,_),(15,_)] rfl,hz.op7⟩)
   refine C1q rfl (by kernel_rfl) (fun K15 hK15=>?_) ?_
   ·skip
    go_simp
    go_wp2_with fail
    refine hK15 _ _ (fun _=>SC.later (hz.op15).below hS9) ?_
    exact hi.out _ _ _ _ _ (by kernel_rfl) (s2011.out _ _ ⟨_,_,_,_,_,_,_,_,by rw [HA.out];exact C1p a0 15 _ _ [(57,_),(61,_),(63,_),(64,_),(13,_)] [] rfl,hz.op15⟩)
   exact trivial
  replace s2010:=Lib.hid s2010
  have s2001:∀ (ac:Act) (w:World),(∃ (v57:Value) (v63:Value) (v64:Value) (v13:Value) (ma:Option Addr) (mc:Nat) (g7:Nat) (g14:Nat) (g15:Nat),ac=C8 a0 [(57,v57),(61,.slice ma A mc),(63,v63),(64,v64),(13,v13),(15,.pointer (some ⟨g15,0,none⟩))]∧Bz 41 51 35 #[.int .i64 1,.int .i64 0,.slice (some ⟨fb,0,none⟩) 1 1] #[.int .i64 0,.int .i64 0,.slice none 0 0,.slice none 0 0,.int .i64 0,.slice none 0 0,.slice none 0 0,.int .i64 0,.slice none 0 0,.slice none 0 0,.slice none 0 0,.slice none 0 0,.slice none 0 0,.slice none 0 0] #[.int .i64 0,.int .i64 0] w9.heap.size w9 l1 ma mc false false true g7 g14 g15 w)→W 11 #[true,true,true,true,true,true,true,false,false,false,false,false,false,false,false,true,false,false,false] ac w:=by
   rintro ac w ⟨v57,v63,v64,v13,ma,mc,g7,g14,g15,ha,hz⟩
   have HA:=Lib.hid ha
   clear ha
   refine ho.out _ _ _ _ ?_
   refine C1r [7,14] (by kernel_rfl) ?_
   refine C1q rfl (by kernel_rfl) (fun K7 hK7=>?_) ?_
   ·skip
    obtain ⟨-,-,d1,d2,d3,-⟩:=SC.later hz.below hS9
    have e62:ac.eval (.tmp 62)=.agg #[.int .i64 1,.int .i64 0,.slice (some ⟨fb,0,none⟩) 1 1]:=(by rw [HA.out,C1s 62 _ _ rfl];exact h62)
    go_simp
    try rw [C1t,e62]
    go_wp2_with fail
    refine hK7 _ _ (fun _=>SC.later (hz.op7).below hS9) ?_
    exact hi.out _ _ _ _ _ (by kernel_rfl) (s2101.out _ _ ⟨_,_,_,_,_,_,_,_,by rw [HA.out];exact C1p a0 63 _ _ [(57,_),(61,_)] [(64,_),(13,_),(15,_)] rfl,hz.op7⟩)
   refine C1q rfl (by kernel_rfl) (fun K14 hK14=>?_) ?_
   ·skip
    go_simp
    go_wp2_with fail
    refine hK14 _ _ (fun _=>SC.later (hz.op14).below hS9) ?_
    exact hi.out _ _ _ _ _ (by kernel_rfl) (s2011.out _ _ ⟨_,_,_,_,_,_,_,_,by rw [HA.out];exact C1p a0 13 _ _ [(57,_),(61,_),(63,_),(64,_)] [(15,_)] rfl,hz.op14⟩)
   exact trivial
  replace s2001:=Lib.hid s2001
  have s1110:∀ (ac:Act) (w:World),(∃ (v61:Value) (v64:Value) (v15:Value) (ma:Option Addr) (mc:Nat) (g7:Nat) (g14:Nat) (g15:Nat),ac=C8 a0 [(57,.slice ma 0 mc),(61,v61),(63,.slice (some ⟨g7,0,none⟩) 1 1),(64,v64),(13,.pointer (some ⟨g14,0,none⟩)),(15,v15)]∧Bz 41 51 35 #[.int .i64 1,.int .i64 0,.slice (some ⟨fb,0,none⟩) 1 1] #[.int .i64 0,.int .i64 0,.slice none 0 0,.slice none 0 0,.int .i64 0,.slice none 0 0,.slice none 0 0,.int .i64 0,.slice none 0 0,.slice none 0 0,.slice none 0 0,.slice none 0 0,.slice none 0 0,.slice none 0 0] #[.int .i64 0,.int .i64 0] w9.heap.size w9 [] ma mc true true false g7 g14 g15 w)→W 11 #[true,true,true,true,true,false,true,true,false,false,false,false,false,false,true,false,false,false,false] ac w:=by
   rintro ac w ⟨v61,v64,v15,ma,mc,g7,g14,g15,ha,hz⟩
   have HA:=Lib.hid ha
   clear ha
   refine ho.out _ _ _ _ ?_
   refine C1r [5,15] (by kernel_rfl) ?_
   refine C1q rfl (by kernel_rfl) (fun K5 hK5=>?_) ?_
   ·skip
    refine Q3 (sh:=doS) (n:=0) (m:=A) (.tmp 57) (.tmp 60) 38 (by rfl) 41 i0 (.agg #[.int .i64 0,.int .i64 0,.slice none 0 0]) 40 Try.underlying38 gi gz0 gz1 gz2 rfl (by decide) (by rw [HA.out];exact C1u a0 57 _ [] [(61,_),(63,_),(64,_),(13,_),(15,_)] (by rw [hsz];decide) rfl) hz.row (by rw [HA.out,C1s 60 _ _ rfl];exact h60) HTK.out (HSR.out _ hz.below) (by simp only [maxLen];omega) (by omega) hz.size ?_
    intro ma3 mc3 w3' hO3 hg3 hd3
    rw [List.nil_append,Nat.zero_add,←HTK.out] at hO3
    rw [Nat.zero_add]
    have hz3:=hz.app hO3 hg3 hd3
    refine hK5 _ _ (fun _=>SC.later (hz3).below hS9) ?_
    exact hi.out _ _ _ _ _ (by kernel_rfl) (s2110.out _ _ ⟨_,_,_,_,_,_,_,_,by rw [HA.out];exact C1p a0 61 _ _ [(57,_)] [(63,_),(64,_),(13,_),(15,_)] rfl,hz3⟩)
   refine C1q rfl (by kernel_rfl) (fun K15 hK15=>?_) ?_
   ·skip
    go_simp
    go_wp2_with fail
    refine hK15 _ _ (fun _=>SC.later (hz.op15).below hS9) ?_
    exact hi.out _ _ _ _ _ (by kernel_rfl) (s1111.out _ _ ⟨_,_,_,_,_,_,_,by rw [HA.out];exact C1p a0 15 _ _ [(57,_),(61,_),(63,_),(64,_),(13,_)] [] rfl,hz.op15⟩)
   exact trivial
  replace s1110:=Lib.hid s1110
  have s1101:∀ (ac:Act) (w:World),(∃ (v61:Value) (v64:Value) (v13:Value) (ma:Option Addr) (mc:Nat) (g7:Nat) (g14:Nat) (g15:Nat),ac=C8 a0 [(57,.slice ma 0 mc),(61,v61),(63,.slice (some ⟨g7,0,none⟩) 1 1),(64,v64),(13,v13),(15,.pointer (some ⟨g15,0,none⟩))]∧Bz 41 51 35 #[.int .i64 1,.int .i64 0,.slice (some ⟨fb,0,none⟩) 1 1] #[.int .i64 0,.int .i64 0,.slice none 0 0,.slice none 0 0,.int .i64 0,.slice none 0 0,.slice none 0 0,.int .i64 0,.slice none 0 0,.slice none 0 0,.slice none 0 0,.slice none 0 0,.slice none 0 0,.slice none 0 0] #[.int .i64 0,.int .i64 0] w9.heap.size w9 [] ma mc true false true g7 g14 g15 w)→W 11 #[true,true,true,true,true,false,true,true,false,false,false,false,false,false,false,true,false,false,false] ac w:=by
   rintro ac w ⟨v61,v64,v13,ma,mc,g7,g14,g15,ha,hz⟩
   have HA:=Lib.hid ha
   clear ha
   refine ho.out _ _ _ _ ?_
   refine C1r [5,14] (by kernel_rfl) ?_
   refine C1q rfl (by kernel_rfl) (fun K5 hK5=>?_) ?_
   ·skip
    refine Q3 (sh:=doS) (n:=0) (m:=A) (.tmp 57) (.tmp 60) 38 (by rfl) 41 i0 (.agg #[.int .i64 0,.int .i64 0,.slice none 0 0]) 40 Try.underlying38 gi gz0 gz1 gz2 rfl (by decide) (by rw [HA.out];exact C1u a0 57 _ [] [(61,_),(63,_),(64,_),(13,_),(15,_)] (by rw [hsz];decide) rfl) hz.row (by rw [HA.out,C1s 60 _ _ rfl];exact h60) HTK.out (HSR.out _ hz.below) (by simp only [maxLen];omega) (by omega) hz.size ?_
    intro ma3 mc3 w3' hO3 hg3 hd3
    rw [List.nil_append,Nat.zero_add,←HTK.out] at hO3
    rw [Nat.zero_add]
    have hz3:=hz.app hO3 hg3 hd3
    refine hK5 _ _ (fun _=>SC.later (hz3).below hS9) ?_
    exact hi.out _ _ _ _ _ (by kernel_rfl) (s2101.out _ _ ⟨_,_,_,_,_,_,_,_,by rw [HA.out];exact C1p a0 61 _ _ [(57,_)] [(63,_),(64,_),(13,_),(15,_)] rfl,hz3⟩)
   refine C1q rfl (by kernel_rfl) (fun K14 hK14=>?_) ?_
   ·skip
    go_simp
    go_wp2_with fail
    refine hK14 _ _ (fun _=>SC.later (hz.op14).below hS9) ?_
    exact hi.out _ _ _ _ _ (by kernel_rfl) (s1111.out _ _ ⟨_,_,_,_,_,_,_,by rw [HA.out];exact C1p a0 13 _ _ [(57,_),(61,_),(63,_),(64,_)] [(15,_)] rfl,hz.op14⟩)
   exact trivial
  replace s1101:=Lib.hid s1101
  have s1011:∀ (ac:Act) (w:World),(∃ (v61:Value) (v63:Value) (v64:Value) (ma:Option Addr) (mc:Nat) (g7:Nat) (g14:Nat) (g15:Nat),ac=C8 a0 [(57,.slice ma 0 mc),(61,v61),(63,v63),(64,v64),(13,.pointer (some ⟨g14,0,none⟩)),(15,.pointer (some ⟨g15,0,none⟩))]∧Bz 41 51 35 #[.int .i64 1,.int .i64 0,.slice (some ⟨fb,0,none⟩) 1 1] #[.int .i64 0,.int .i64 0,.slice none 0 0,.slice none 0 0,.int .i64 0,.slice none 0 0,.slice none 0 0,.int .i64 0,.slice none 0 0,.slice none 0 0,.slice none 0 0,.slice none 0 0,.slice none 0 0,.slice none 0 0] #[.int .i64 0,.int .i64 0] w9.heap.size w9 [] ma mc false true true g7 g14 g15 w)→W 11 #[true,true,true,true,true,false,true,false,false,false,false,false,false,false,true,true,false,false,false] ac w:=by
   rintro ac w ⟨v61,v63,v64,ma,mc,g7,g14,g15,ha,hz⟩
   have HA:=Lib.hid ha
   clear ha
   refine ho.out _ _ _ _ ?_
   refine C1r [5,7] (by kernel_rfl) ?_
   refine C1q rfl (by kernel_rfl) (fun K5 hK5=>?_) ?_
   ·skip
    refine Q3 (sh:=doS) (n:=0) (m:=A) (.tmp 57) (.tmp 60) 38 (by rfl) 41 i0 (.agg #[.int .i64 0,.int .i64 0,.slice none 0 0]) 40 Try.underlying38 gi gz0 gz1 gz2 rfl (by decide) (by rw [HA.out];exact C1u a0 57 _ [] [(61,_),(63,_),(64,_),(13,_),(15,_)] (by rw [hsz];decide) rfl) hz.row (by rw [HA.out,C1s 60 _ _ rfl];exact h60) HTK.out (HSR.out _ hz.below) (by simp only [maxLen];omega) (by omega) hz.size ?_
    intro ma3 mc3 w3' hO3 hg3 hd3
    rw [List.nil_append,Nat.zero_add,←HTK.out] at hO3
    rw [Nat.zero_add]
    have hz3:=hz.app hO3 hg3 hd3
    refine hK5 _ _ (fun _=>SC.later (hz3).below hS9) ?_
    exact hi.out _ _ _ _ _ (by kernel_rfl) (s2011.out _ _ ⟨_,_,_,_,_,_,_,_,by rw [HA.out];exact C1p a0 61 _ _ [(57,_)] [(63,_),(64,_),(13,_),(15,_)] rfl,hz3⟩)
   refine C1q rfl (by kernel_rfl) (fun K7 hK7=>?_) ?_
   ·skip
    obtain ⟨-,-,d1,d2,d3,-⟩:=SC.later hz.below hS9
    have e62:ac.eval (.tmp 62)=.agg #[.int .i64 1,.int .i64 0,.slice (some ⟨fb,0,none⟩) 1 1]:=(by rw [HA.out,C1s 62 _ _ rfl];exact h62)
    go_simp
    try rw [C1t,e62]
    go_wp2_with fail
    refine hK7 _ _ (fun _=>SC.later (hz.op7).below hS9) ?_
    exact hi.out _ _ _ _ _ (by kernel_rfl) (s1111.out _ _ ⟨_,_,_,_,_,_,_,by rw [HA.out];exact C1p a0 63 _ _ [(57,_),(61,_)] [(64,_),(13,_),(15,_)] rfl,hz.op7⟩)
   exact trivial
  replace s1011:=Lib.hid s1011
  have s0111:∀ (ac:Act) (w:World),(∃ (v57:Value) (v61:Value) (v64:Value) (g7:Nat) (g14:Nat) (g15:Nat),ac=C8 a0 [(57,v57),(61,v61),(63,.slice (some ⟨g7,0,none⟩) 1 1),(64,v64),(13,.pointer (some ⟨g14,0,none⟩)),(15,.pointer (some ⟨g15,0,none⟩))]∧Bz 41 51 35 #[.int .i64 1,.int .i64 0,.slice (some ⟨fb,0,none⟩) 1 1] #[.int .i64 0,.int .i64 0,.slice none 0 0,.slice none 0 0,.int .i64 0,.slice none 0 0,.slice none 0 0,.int .i64 0,.slice none 0 0,.slice none 0 0,.slice none 0 0,.slice none 0 0,.slice none 0 0,.slice none 0 0] #[.int .i64 0,.int .i64 0] w9.heap.size w9 [] none 0 true true true g7 g14 g15 w)→W 11 #[true,false,true,true,true,false,true,true,false,false,false,false,false,false,true,true,false,false,false] ac w:=by
   rintro ac w ⟨v57,v61,v64,g7,g14,g15,ha,hz⟩
   have HA:=Lib.hid ha
   clear ha
   refine ho.out _ _ _ _ ?_
   refine C1r [1] (by kernel_rfl) ?_
   refine C1q rfl (by kernel_rfl) (fun K1 hK1=>?_) ?_
   ·skip
    go_simp
    go_wp2_with fail
    refine hK1 _ _ (fun _=>SC.later (hz.op1).below hS9) ?_
    exact hi.out _ _ _ _ _ (by kernel_rfl) (s1111.out _ _ ⟨_,_,_,_,_,_,_,by rw [HA.out];exact C1p a0 57 _ _ [] [(61,_),(63,_),(64,_),(13,_),(15,_)] rfl,hz.op1⟩)
   exact trivial
  replace s0111:=Lib.hid s0111
  have s2000:∀ (ac:Act) (w:World),(∃ (v57:Value) (v63:Value) (v64:Value) (v13:Value) (v15:Value) (ma:Option Addr) (mc:Nat) (g7:Nat) (g14:Nat) (g15:Nat),ac=C8 a0 [(57,v57),(61,.slice ma A mc),(63,v63),(64,v64),(13,v13),(15,v15)]∧Bz 41 51 35 #[.int .i64 1,.int .i64 0,.slice (some ⟨fb,0,none⟩) 1 1] #[.int .i64 0,.int .i64 0,.slice none 0 0,.slice none 0 0,.int .i64 0,.slice none 0 0,.slice none 0 0,.int .i64 0,.slice none 0 0,.slice none 0 0,.slice none 0 0,.slice none 0 0,.slice none 0 0,.slice none 0 0] #[.int .i64 0,.int .i64 0] w9.heap.size w9 l1 ma mc false false false g7 g14 g15 w)→W 12 #[true,true,true,true,true,true,true,false,false,false,false,false,false,false,false,false,false,false,false] ac w:=by
   rintro ac w ⟨v57,v63,v64,v13,v15,ma,mc,g7,g14,g15,ha,hz⟩
   have HA:=Lib.hid ha
   clear ha
   refine ho.out _ _ _ _ ?_
   refine C1r [7,14,15] (by kernel_rfl) ?_
   refine C1q rfl (by kernel_rfl) (fun K7 hK7=>?_) ?_
   ·skip
    obtain ⟨-,-,d1,d2,d3,-⟩:=SC.later hz.below hS9
    have e62:ac.eval (.tmp 62)=.agg #[.int .i64 1,.int .i64 0,.slice (some ⟨fb,0,none⟩) 1 1]:=(by rw [HA.out,C1s 62 _ _ rfl];exact h62)
    go_simp
    try rw [C1t,e62]
    go_wp2_with fail
    refine hK7 _ _ (fun _=>SC.later (hz.op7).below hS9) ?_
    exact hi.out _ _ _ _ _ (by kernel_rfl) (s2100.out _ _ ⟨_,_,_,_,_,_,_,_,_,by rw [HA.out];exact C1p a0 63 _ _ [(57,_),(61,_)] [(64,_),(13,_),(15,_)] rfl,hz.op7⟩)
   refine C1q rfl (by kernel_rfl) (fun K14 hK14=>?_) ?_
   ·skip
    go_simp
    go_wp2_with fail
    refine hK14 _ _ (fun _=>SC.later (hz.op14).below hS9) ?_
    exact hi.out _ _ _ _ _ (by kernel_rfl) (s2010.out _ _ ⟨_,_,_,_,_,_,_,_,_,by rw [HA.out];exact C1p a0 13 _ _ [(57,_),(61,_),(63,_),(64,_)] [(15,_)] rfl,hz.op14⟩)
   refine C1q rfl (by kernel_rfl) (fun K15 hK15=>?_) ?_
   ·skip
    go_simp
    go_wp2_with fail
    refine hK15 _ _ (fun _=>SC.later (hz.op15).below hS9) ?_
    exact hi.out _ _ _ _ _ (by kernel_rfl) (s2001.out _ _ ⟨_,_,_,_,_,_,_,_,_,by rw [HA.out];exact C1p a0 15 _ _ [(57,_),(61,_),(63,_),(64,_),(13,_)] [] rfl,hz.op15⟩)
   exact trivial
  replace s2000:=Lib.hid s2000
  have s1100:∀ (ac:Act) (w:World),(∃ (v61:Value) (v64:Value) (v13:Value) (v15:Value) (ma:Option Addr) (mc:Nat) (g7:Nat) (g14:Nat) (g15:Nat),ac=C8 a0 [(57,.slice ma 0 mc),(61,v61),(63,.slice (some ⟨g7,0,none⟩) 1 1),(64,v64),(13,v13),(15,v15)]∧Bz 41 51 35 #[.int .i64 1,.int .i64 0,.slice (some ⟨fb,0,none⟩) 1 1] #[.int .i64 0,.int .i64 0,.slice none 0 0,.slice none 0 0,.int .i64 0,.slice none 0 0,.slice none 0 0,.int .i64 0,.slice none 0 0,.slice none 0 0,.slice none 0 0,.slice none 0 0,.slice none 0 0,.slice none 0 0] #[.int .i64 0,.int .i64 0] w9.heap.size w9 [] ma mc true false false g7 g14 g15 w)→W 12 #[true,true,true,true,true,false,true,true,false,false,false,false,false,false,false,false,false,false,false] ac w:=by
   rintro ac w ⟨v61,v64,v13,v15,ma,mc,g7,g14,g15,ha,hz⟩
   have HA:=Lib.hid ha
   clear ha
   refine ho.out _ _ _ _ ?_
   refine C1r [5,14,15] (by kernel_rfl) ?_
   refine C1q rfl (by kernel_rfl) (fun K5 hK5=>?_) ?_
   ·skip
    refine Q3 (sh:=doS) (n:=0) (m:=A) (.tmp 57) (.tmp 60) 38 (by rfl) 41 i0 (.agg #[.int .i64 0,.int .i64 0,.slice none 0 0]) 40 Try.underlying38 gi gz0 gz1 gz2 rfl (by decide) (by rw [HA.out];exact C1u a0 57 _ [] [(61,_),(63,_),(64,_),(13,_),(15,_)] (by rw [hsz];decide) rfl) hz.row (by rw [HA.out,C1s 60 _ _ rfl];exact h60) HTK.out (HSR.out _ hz.below) (by simp only [maxLen];omega) (by omega) hz.size ?_
    intro ma3 mc3 w3' hO3 hg3 hd3
    rw [List.nil_append,Nat.zero_add,←HTK.out] at hO3
    rw [Nat.zero_add]
    have hz3:=hz.app hO3 hg3 hd3
    refine hK5 _ _ (fun _=>SC.later (hz3).below hS9) ?_
    exact hi.out _ _ _ _ _ (by kernel_rfl) (s2100.out _ _ ⟨_,_,_,_,_,_,_,_,_,by rw [HA.out];exact C1p a0 61 _ _ [(57,_)] [(63,_),(64,_),(13,_),(15,_)] rfl,hz3⟩)
   refine C1q rfl (by kernel_rfl) (fun K14 hK14=>?_) ?_
   ·skip
    go_simp
    go_wp2_with fail
    refine hK14 _ _ (fun _=>SC.later (hz.op14).below hS9) ?_
    exact hi.out _ _ _ _ _ (by kernel_rfl) (s1110.out _ _ ⟨_,_,_,_,_,_,_,_,by rw [HA.out];exact C1p a0 13 _ _ [(57,_),(61,_),(63,_),(64,_)] [(15,_)] rfl,hz.op14⟩)
   refine C1q rfl (by kernel_rfl) (fun K15 hK15=>?_) ?_
   ·skip
    go_simp
    go_wp2_with fail
    refine hK15 _ _ (fun _=>SC.later (hz.op15).below hS9) ?_
    exact hi.out _ _ _ _ _ (by kernel_rfl) (s1101.out _ _ ⟨_,_,_,_,_,_,_,_,by rw [HA.out];exact C1p a0 15 _ _ [(57,_),(61,_),(63,_),(64,_),(13,_)] [] rfl,hz.op15⟩)
   exact trivial
  replace s1100:=Lib.hid s1100
  have s1010:∀ (ac:Act) (w:World),(∃ (v61:Value) (v63:Value) (v64:Value) (v15:Value) (ma:Option Addr) (mc:Nat) (g7:Nat) (g14:Nat) (g15:Nat),ac=C8 a0 [(57,.slice ma 0 mc),(61,v61),(63,v63),(64,v64),(13,.pointer (some ⟨g14,0,none⟩)),(15,v15)]∧Bz 41 51 35 #[.int .i64 1,.int .i64 0,.slice (some ⟨fb,0,none⟩) 1 1] #[.int .i64 0,.int .i64 0,.slice none 0 0,.slice none 0 0,.int .i64 0,.slice none 0 0,.slice none 0 0,.int .i64 0,.slice none 0 0,.slice none 0 0,.slice none 0 0,.slice none 0 0,.slice none 0 0,.slice none 0 0] #[.int .i64 0,.int .i64 0] w9.heap.size w9 [] ma mc false true false g7 g14 g15 w)→W 12 #[true,true,true,true,true,false,true,false,false,false,false,false,false,false,true,false,false,false,false] ac w:=by
   rintro ac w ⟨v61,v63,v64,v15,ma,mc,g7,g14,g15,ha,hz⟩
   have HA:=Lib.hid ha
   clear ha
   refine ho.out _ _ _ _ ?_
   refine C1r [5,7,15] (by kernel_rfl) ?_
   refine C1q rfl (by kernel_rfl) (fun K5 hK5=>?_) ?_
   ·skip
    refine Q3 (sh:=doS) (n:=0) (m:=A) (.tmp 57) (.tmp 60) 38 (by rfl) 41 i0 (.agg #[.int .i64 0,.int .i64 0,.slice none 0 0]) 40 Try.underlying38 gi gz0 gz1 gz2 rfl (by decide) (by rw [HA.out];exact C1u a0 57 _ [] [(61,_),(63,_),(64,_),(13,_),(15,_)] (by rw [hsz];decide) rfl) hz.row (by rw [HA.out,C1s 60 _ _ rfl];exact h60) HTK.out (HSR.out _ hz.below) (by simp only [maxLen];omega) (by omega) hz.size ?_
    intro ma3 mc3 w3' hO3 hg3 hd3
    rw [List.nil_append,Nat.zero_add,←HTK.out] at hO3
    rw [Nat.zero_add]
    have hz3:=hz.app hO3 hg3 hd3
    refine hK5 _ _ (fun _=>SC.later (hz3).below hS9) ?_
    exact hi.out _ _ _ _ _ (by kernel_rfl) (s2010.out _ _ ⟨_,_,_,_,_,_,_,_,_,by rw [HA.out];exact C1p a0 61 _ _ [(57,_)] [(63,_),(64,_),(13,_),(15,_)] rfl,hz3⟩)
   refine C1q rfl (by kernel_rfl) (fun K7 hK7=>?_) ?_
   ·skip
    obtain ⟨-,-,d1,d2,d3,-⟩:=SC.later hz.below hS9
    have e62:ac.eval (.tmp 62)=.agg #[.int .i64 1,.int .i64 0,.slice (some ⟨fb,0,none⟩) 1 1]:=(by rw [HA.out,C1s 62 _ _ rfl];exact h62)
    go_simp
    try rw [C1t,e62]
    go_wp2_with fail
    refine hK7 _ _ (fun _=>SC.later (hz.op7).below hS9) ?_
    exact hi.out _ _ _ _ _ (by kernel_rfl) (s1110.out _ _ ⟨_,_,_,_,_,_,_,_,by rw [HA.out];exact C1p a0 63 _ _ [(57,_),(61,_)] [(64,_),(13,_),(15,_)] rfl,hz.op7⟩)
   refine C1q rfl (by kernel_rfl) (fun K15 hK15=>?_) ?_
   ·skip
    go_simp
    go_wp2_with fail
    refine hK15 _ _ (fun _=>SC.later (hz.op15).below hS9) ?_
    exact hi.out _ _ _ _ _ (by kernel_rfl) (s1011.out _ _ ⟨_,_,_,_,_,_,_,_,by rw [HA.out];exact C1p a0 15 _ _ [(57,_),(61,_),(63,_),(64,_),(13,_)] [] rfl,hz.op15⟩)
   exact trivial
  replace s1010:=Lib.hid s1010
  have s1001:∀ (ac:Act) (w:World),(∃ (v61:Value) (v63:Value) (v64:Value) (v13:Value) (ma:Option Addr) (mc:Nat) (g7:Nat) (g14:Nat) (g15:Nat),ac=C8 a0 [(57,.slice ma 0 mc),(61,v61),(63,v63),(64,v64),(13,v13),(15,.pointer (some ⟨g15,0,none⟩))]∧Bz 41 51 35 #[.int .i64 1,.int .i64 0,.slice (some ⟨fb,0,none⟩) 1 1] #[.int .i64 0,.int .i64 0,.slice none 0 0,.slice none 0 0,.int .i64 0,.slice none 0 0,.slice none 0 0,.int .i64 0,.slice none 0 0,.slice none 0 0,.slice none 0 0,.slice none 0 0,.slice none 0 0,.slice none 0 0] #[.int .i64 0,.int .i64 0] w9.heap.size w9 [] ma mc false false true g7 g14 g15 w)→W 12 #[true,true,true,true,true,false,true,false,false,false,false,false,false,false,false,true,false,false,false] ac w:=by
   rintro ac w ⟨v61,v63,v64,v13,ma,mc,g7,g14,g15,ha,hz⟩
   have HA:=Lib.hid ha
   clear ha
   refine ho.out _ _ _ _ ?_
   refine C1r [5,7,14] (by kernel_rfl) ?_
   refine C1q rfl (by kernel_rfl) (fun K5 hK5=>?_) ?_
   ·skip
    refine Q3 (sh:=doS) (n:=0) (m:=A) (.tmp 57) (.tmp 60) 38 (by rfl) 41 i0 (.agg #[.int .i64 0,.int .i64 0,.slice none 0 0]) 40 Try.underlying38 gi gz0 gz1 gz2 rfl (by decide) (by rw [HA.out];exact C1u a0 57 _ [] [(61,_),(63,_),(64,_),(13,_),(15,_)] (by rw [hsz];decide) rfl) hz.row (by rw [HA.out,C1s 60 _ _ rfl];exact h60) HTK.out (HSR.out _ hz.below) (by simp only [maxLen];omega) (by omega) hz.size ?_
    intro ma3 mc3 w3' hO3 hg3 hd3
    rw [List.nil_append,Nat.zero_add,←HTK.out] at hO3
    rw [Nat.zero_add]
    have hz3:=hz.app hO3 hg3 hd3
    refine hK5 _ _ (fun _=>SC.later (hz3).below hS9) ?_
    exact hi.out _ _ _ _ _ (by kernel_rfl) (s2001.out _ _ ⟨_,_,_,_,_,_,_,_,_,by rw [HA.out];exact C1p a0 61 _ _ [(57,_)] [(63,_),(64,_),(13,_),(15,_)] rfl,hz3⟩)
   refine C1q rfl (by kernel_rfl) (fun K7 hK7=>?_) ?_
   ·skip
    obtain ⟨-,-,d1,d2,d3,-⟩:=SC.later hz.below hS9
    have e62:ac.eval (.tmp 62)=.agg #[.int .i64 1,.int .i64 0,.slice (some ⟨fb,0,none⟩) 1 1]:=(by rw [HA.out,C1s 62 _ _ rfl];exact h62)
    go_simp
    try rw [C1t,e62]
    go_wp2_with fail
    refine hK7 _ _ (fun _=>SC.later (hz.op7).below hS9) ?_
    exact hi.out _ _ _ _ _ (by kernel_rfl) (s1101.out _ _ ⟨_,_,_,_,_,_,_,_,by rw [HA.out];exact C1p a0 63 _ _ [(57,_),(61,_)] [(64,_),(13,_),(15,_)] rfl,hz.op7⟩)
   refine C1q rfl (by kernel_rfl) (fun K14 hK14=>?_) ?_
   ·skip
    go_simp
    go_wp2_with fail
    refine hK14 _ _ (fun _=>SC.later (hz.op14).below hS9) ?_
    exact hi.out _ _ _ _ _ (by kernel_rfl) (s1011.out _ _ ⟨_,_,_,_,_,_,_,_,by rw [HA.out];exact C1p a0 13 _ _ [(57,_),(61,_),(63,_),(64,_)] [(15,_)] rfl,hz.op14⟩)
   exact trivial
  replace s1001:=Lib.hid s1001
  have s0110:∀ (ac:Act) (w:World),(∃ (v57:Value) (v61:Value) (v64:Value) (v15:Value) (g7:Nat) (g14:Nat) (g15:Nat),ac=C8 a0 [(57,v57),(61,v61),(63,.slice (some ⟨g7,0,none⟩) 1 1),(64,v64),(13,.pointer (some ⟨g14,0,none⟩)),(15,v15)]∧Bz 41 51 35 #[.int .i64 1,.int .i64 0,.slice (some ⟨fb,0,none⟩) 1 1] #[.int .i64 0,.int .i64 0,.slice none 0 0,.slice none 0 0,.int .i64 0,.slice none 0 0,.slice none 0 0,.int .i64 0,.slice none 0 0,.slice none 0 0,.slice none 0 0,.slice none 0 0,.slice none 0 0,.slice none 0 0] #[.int .i64 0,.int .i64 0] w9.heap.size w9 [] none 0 true true false g7 g14 g15 w)→W 12 #[true,false,true,true,true,false,true,true,false,false,false,false,false,false,true,false,false,false,false] ac w:=by
   rintro ac w ⟨v57,v61,v64,v15,g7,g14,g15,ha,hz⟩
   have HA:=Lib.hid ha
   clear ha
   refine ho.out _ _ _ _ ?_
   refine C1r [1,15] (by kernel_rfl) ?_
   refine C1q rfl (by kernel_rfl) (fun K1 hK1=>?_) ?_
   ·skip
    go_simp
    go_wp2_with fail
    refine hK1 _ _ (fun _=>SC.later (hz.op1).below hS9) ?_
    exact hi.out _ _ _ _ _ (by kernel_rfl) (s1110.out _ _ ⟨_,_,_,_,_,_,_,_,by rw [HA.out];exact C1p a0 57 _ _ [] [(61,_),(63,_),(64,_),(13,_),(15,_)] rfl,hz.op1⟩)
   refine C1q rfl (by kernel_rfl) (fun K15 hK15=>?_) ?_
   ·skip
    go_simp
    go_wp2_with fail
    refine hK15 _ _ (fun _=>SC.later (hz.op15).below hS9) ?_
    exact hi.out _ _ _ _ _ (by kernel_rfl) (s0111.out _ _ ⟨_,_,_,_,_,_,by rw [HA.out];exact C1p a0 15 _ _ [(57,_),(61,_),(63,_),(64,_),(13,_)] [] rfl,hz.op15⟩)
   exact trivial
  replace s0110:=Lib.hid s0110
  have s0101:∀ (ac:Act) (w:World),(∃ (v57:Value) (v61:Value) (v64:Value) (v13:Value) (g7:Nat) (g14:Nat) (g15:Nat),ac=C8 a0 [(57,v57),(61,v61),(63,.slice (some ⟨g7,0,none⟩) 1 1),(64,v64),(13,v13),(15,.pointer (some ⟨g15,0,none⟩))]∧Bz 41 51 35 #[.int .i64 1,.int .i64 0,.slice (some ⟨fb,0,none⟩) 1 1] #[.int .i64 0,.int .i64 0,.slice none 0 0,.slice none 0 0,.int .i64 0,.slice none 0 0,.slice none 0 0,.int .i64 0,.slice none 0 0,.slice none 0 0,.slice none 0 0,.slice none 0 0,.slice none 0 0,.slice none 0 0] #[.int .i64 0,.int .i64 0] w9.heap.size w9 [] none 0 true false true g7 g14 g15 w)→W 12 #[true,false,true,true,true,false,true,true,false,false,false,false,false,false,false,true,false,false,false] ac w:=by
   rintro ac w ⟨v57,v61,v64,v13,g7,g14,g15,ha,hz⟩
   have HA:=Lib.hid ha
   clear ha
   refine ho.out _ _ _ _ ?_
   refine C1r [1,14] (by kernel_rfl) ?_
   refine C1q rfl (by kernel_rfl) (fun K1 hK1=>?_) ?_
   ·skip
    go_simp
    go_wp2_with fail
    refine hK1 _ _ (fun _=>SC.later (hz.op1).below hS9) ?_
    exact hi.out _ _ _ _ _ (by kernel_rfl) (s1101.out _ _ ⟨_,_,_,_,_,_,_,_,by rw [HA.out];exact C1p a0 57 _ _ [] [(61,_),(63,_),(64,_),(13,_),(15,_)] rfl,hz.op1⟩)
   refine C1q rfl (by kernel_rfl) (fun K14 hK14=>?_) ?_
   ·skip
    go_simp
    go_wp2_with fail
    refine hK14 _ _ (fun _=>SC.later (hz.op14).below hS9) ?_
    exact hi.out _ _ _ _ _ (by kernel_rfl) (s0111.out _ _ ⟨_,_,_,_,_,_,by rw [HA.out];exact C1p a0 13 _ _ [(57,_),(61,_),(63,_),(64,_)] [(15,_)] rfl,hz.op14⟩)
   exact trivial
  replace s0101:=Lib.hid s0101
  have s0011:∀ (ac:Act) (w:World),(∃ (v57:Value) (v61:Value) (v63:Value) (v64:Value) (g7:Nat) (g14:Nat) (g15:Nat),ac=C8 a0 [(57,v57),(61,v61),(63,v63),(64,v64),(13,.pointer (some ⟨g14,0,none⟩)),(15,.pointer (some ⟨g15,0,none⟩))]∧Bz 41 51 35 #[.int .i64 1,.int .i64 0,.slice (some ⟨fb,0,none⟩) 1 1] #[.int .i64 0,.int .i64 0,.slice none 0 0,.slice none 0 0,.int .i64 0,.slice none 0 0,.slice none 0 0,.int .i64 0,.slice none 0 0,.slice none 0 0,.slice none 0 0,.slice none 0 0,.slice none 0 0,.slice none 0 0] #[.int .i64 0,.int .i64 0] w9.heap.size w9 [] none 0 false true true g7 g14 g15 w)→W 12 #[true,false,true,true,true,false,true,false,false,false,false,false,false,false,true,true,false,false,false] ac w:=by
   rintro ac w ⟨v57,v61,v63,v64,g7,g14,g15,ha,hz⟩
   have HA:=Lib.hid ha
   clear ha
   refine ho.out _ _ _ _ ?_
   refine C1r [1,7] (by kernel_rfl) ?_
   refine C1q rfl (by kernel_rfl) (fun K1 hK1=>?_) ?_
   ·skip
    go_simp
    go_wp2_with fail
    refine hK1 _ _ (fun _=>SC.later (hz.op1).below hS9) ?_
    exact hi.out _ _ _ _ _ (by kernel_rfl) (s1011.out _ _ ⟨_,_,_,_,_,_,_,_,by rw [HA.out];exact C1p a0 57 _ _ [] [(61,_),(63,_),(64,_),(13,_),(15,_)] rfl,hz.op1⟩)
   refine C1q rfl (by kernel_rfl) (fun K7 hK7=>?_) ?_
   ·skip
    obtain ⟨-,-,d1,d2,d3,-⟩:=SC.later hz.below hS9
    have e62:ac.eval (.tmp 62)=.agg #[.int .i64 1,.int .i64 0,.slice (some ⟨fb,0,none⟩) 1 1]:=(by rw [HA.out,C1s 62 _ _ rfl];exact h62)
    go_simp
    try rw [C1t,e62]
    go_wp2_with fail
    refine hK7 _ _ (fun _=>SC.later (hz.op7).below hS9) ?_
    exact hi.out _ _ _ _ _ (by kernel_rfl) (s0111.out _ _ ⟨_,_,_,_,_,_,by rw [HA.out];exact C1p a0 63 _ _ [(57,_),(61,_)] [(64,_),(13,_),(15,_)] rfl,hz.op7⟩)
   exact trivial
  replace s0011:=Lib.hid s0011
  have s1000:∀ (ac:Act) (w:World),(∃ (v61:Value) (v63:Value) (v64:Value) (v13:Value) (v15:Value) (ma:Option Addr) (mc:Nat) (g7:Nat) (g14:Nat) (g15:Nat),ac=C8 a0 [(57,.slice ma 0 mc),(61,v61),(63,v63),(64,v64),(13,v13),(15,v15)]∧Bz 41 51 35 #[.int .i64 1,.int .i64 0,.slice (some ⟨fb,0,none⟩) 1 1] #[.int .i64 0,.int .i64 0,.slice none 0 0,.slice none 0 0,.int .i64 0,.slice none 0 0,.slice none 0 0,.int .i64 0,.slice none 0 0,.slice none 0 0,.slice none 0 0,.slice none 0 0,.slice none 0 0,.slice none 0 0] #[.int .i64 0,.int .i64 0] w9.heap.size w9 [] ma mc false false false g7 g14 g15 w)→W 13 #[true,true,true,true,true,false,true,false,false,false,false,false,false,false,false,false,false,false,false] ac w:=by
   rintro ac w ⟨v61,v63,v64,v13,v15,ma,mc,g7,g14,g15,ha,hz⟩
   have HA:=Lib.hid ha
   clear ha
   refine ho.out _ _ _ _ ?_
   refine C1r [5,7,14,15] (by kernel_rfl) ?_
   refine C1q rfl (by kernel_rfl) (fun K5 hK5=>?_) ?_
   ·skip
    refine Q3 (sh:=doS) (n:=0) (m:=A) (.tmp 57) (.tmp 60) 38 (by rfl) 41 i0 (.agg #[.int .i64 0,.int .i64 0,.slice none 0 0]) 40 Try.underlying38 gi gz0 gz1 gz2 rfl (by decide) (by rw [HA.out];exact C1u a0 57 _ [] [(61,_),(63,_),(64,_),(13,_),(15,_)] (by rw [hsz];decide) rfl) hz.row (by rw [HA.out,C1s 60 _ _ rfl];exact h60) HTK.out (HSR.out _ hz.below) (by simp only [maxLen];omega) (by omega) hz.size ?_
    intro ma3 mc3 w3' hO3 hg3 hd3
    rw [List.nil_append,Nat.zero_add,←HTK.out] at hO3
    rw [Nat.zero_add]
    have hz3:=hz.app hO3 hg3 hd3
    refine hK5 _ _ (fun _=>SC.later (hz3).below hS9) ?_
    exact hi.out _ _ _ _ _ (by kernel_rfl) (s2000.out _ _ ⟨_,_,_,_,_,_,_,_,_,_,by rw [HA.out];exact C1p a0 61 _ _ [(57,_)] [(63,_),(64,_),(13,_),(15,_)] rfl,hz3⟩)
   refine C1q rfl (by kernel_rfl) (fun K7 hK7=>?_) ?_
   ·skip
    obtain ⟨-,-,d1,d2,d3,-⟩:=SC.later hz.below hS9
    have e62:ac.eval (.tmp 62)=.agg #[.int .i64 1,.int .i64 0,.slice (some ⟨fb,0,none⟩) 1 1]:=(by rw [HA.out,C1s 62 _ _ rfl];exact h62)
    go_simp
    try rw [C1t,e62]
    go_wp2_with fail
    refine hK7 _ _ (fun _=>SC.later (hz.op7).below hS9) ?_
    exact hi.out _ _ _ _ _ (by kernel_rfl) (s1100.out _ _ ⟨_,_,_,_,_,_,_,_,_,by rw [HA.out];exact C1p a0 63 _ _ [(57,_),(61,_)] [(64,_),(13,_),(15,_)] rfl,hz.op7⟩)
   refine C1q rfl (by kernel_rfl) (fun K14 hK14=>?_) ?_
   ·skip
    go_simp
    go_wp2_with fail
    refine hK14 _ _ (fun _=>SC.later (hz.op14).below hS9) ?_
    exact hi.out _ _ _ _ _ (by kernel_rfl) (s1010.out _ _ ⟨_,_,_,_,_,_,_,_,_,by rw [HA.out];exact C1p a0 13 _ _ [(57,_),(61,_),(63,_),(64,_)] [(15,_)] rfl,hz.op14⟩)
   refine C1q rfl (by kernel_rfl) (fun K15 hK15=>?_) ?_
   ·skip
    go_simp
    go_wp2_with fail
    refine hK15 _ _ (fun _=>SC.later (hz.op15).below hS9) ?_
    exact hi.out _ _ _ _ _ (by kernel_rfl) (s1001.out _ _ ⟨_,_,_,_,_,_,_,_,_,by rw [HA.out];exact C1p a0 15 _ _ [(57,_),(61,_),(63,_),(64,_),(13,_)] [] rfl,hz.op15⟩)
   exact trivial
  replace s1000:=Lib.hid s1000
  have s0100:∀ (ac:Act) (w:World),(∃ (v57:Value) (v61:Value) (v64:Value) (v13:Value) (v15:Value) (g7:Nat) (g14:Nat) (g15:Nat),ac=C8 a0 [(57,v57),(61,v61),(63,.slice (some ⟨g7,0,none⟩) 1 1),(64,v64),(13,v13),(15,v15)]∧Bz 41 51 35 #[.int .i64 1,.int .i64 0,.slice (some ⟨fb,0,none⟩) 1 1] #[.int .i64 0,.int .i64 0,.slice none 0 0,.slice none 0 0,.int .i64 0,.slice none 0 0,.slice none 0 0,.int .i64 0,.slice none 0 0,.slice none 0 0,.slice none 0 0,.slice none 0 0,.slice none 0 0,.slice none 0 0] #[.int .i64 0,.int .i64 0] w9.heap.size w9 [] none 0 true false false g7 g14 g15 w)→W 13 #[true,false,true,true,true,false,true,true,false,false,false,false,false,false,false,false,false,false,false] ac w:=by
   rintro ac w ⟨v57,v61,v64,v13,v15,g7,g14,g15,ha,hz⟩
   have HA:=Lib.hid ha
   clear ha
   refine ho.out _ _ _ _ ?_
   refine C1r [1,14,15] (by kernel_rfl) ?_
   refine C1q rfl (by kernel_rfl) (fun K1 hK1=>?_) ?_
   ·skip
    go_simp
    go_wp2_with fail
    refine hK1 _ _ (fun _=>SC.later (hz.op1).below hS9) ?_
    exact hi.out _ _ _ _ _ (by kernel_rfl) (s1100.out _ _ ⟨_,_,_,_,_,_,_,_,_,by rw [HA.out];exact C1p a0 57 _ _ [] [(61,_),(63,_),(64,_),(13,_),(15,_)] rfl,hz.op1⟩)
   refine C1q rfl (by kernel_rfl) (fun K14 hK14=>?_) ?_
   ·skip
    go_simp
    go_wp2_with fail
    refine hK14 _ _ (fun _=>SC.later (hz.op14).below hS9) ?_
    exact hi.out _ _ _ _ _ (by kernel_rfl) (s0110.out _ _ ⟨_,_,_,_,_,_,_,by rw [HA.out];exact C1p a0 13 _ _ [(57,_),(61,_),(63,_),(64,_)] [(15,_)] rfl,hz.op14⟩)
   refine C1q rfl (by kernel_rfl) (fun K15 hK15=>?_) ?_
   ·skip
    go_simp
    go_wp2_with fail
    refine hK15 _ _ (fun _=>SC.later (hz.op15).below hS9) ?_
    exact hi.out _ _ _ _ _ (by kernel_rfl) (s0101.out _ _ ⟨_,_,_,_,_,_,_,by rw [HA.out];exact C1p a0 15 _ _ [(57,_),(61,_),(63,_),(64,_),(13,_)] [] rfl,hz.op15⟩)
   exact trivial
  replace s0100:=Lib.hid s0100
  have s0010:∀ (ac:Act) (w:World),(∃ (v57:Value) (v61:Value) (v63:Value) (v64:Value) (v15:Value) (g7:Nat) (g14:Nat) (g15:Nat),ac=C8 a0 [(57,v57),(61,v61),(63,v63),(64,v64),(13,.pointer (some ⟨g14,0,none⟩)),(15,v15)]∧Bz 41 51 35 #[.int .i64 1,.int .i64 0,.slice (some ⟨fb,0,none⟩) 1 1] #[.int .i64 0,.int .i64 0,.slice none 0 0,.slice none 0 0,.int .i64 0,.slice none 0 0,.slice none 0 0,.int .i64 0,.slice none 0 0,.slice none 0 0,.slice none 0 0,.slice none 0 0,.slice none 0 0,.slice none 0 0] #[.int .i64 0,.int .i64 0] w9.heap.size w9 [] none 0 false true false g7 g14 g15 w)→W 13 #[true,false,true,true,true,false,true,false,false,false,false,false,false,false,true,false,false,false,false] ac w:=by
   rintro ac w ⟨v57,v61,v63,v64,v15,g7,g14,g15,ha,hz⟩
   have HA:=Lib.hid ha
   clear ha
   refine ho.out _ _ _ _ ?_
   refine C1r [1,7,15] (by kernel_rfl) ?_
   refine C1q rfl (by kernel_rfl) (fun K1 hK1=>?_) ?_
   ·skip
    go_simp
    go_wp2_with fail
    refine hK1 _ _ (fun _=>SC.later (hz.op1).below hS9) ?_
    exact hi.out _ _ _ _ _ (by kernel_rfl) (s1010.out _ _ ⟨_,_,_,_,_,_,_,_,_,by rw [HA.out];exact C1p a0 57 _ _ [] [(61,_),(63,_),(64,_),(13,_),(15,_)] rfl,hz.op1⟩)
   refine C1q rfl (by kernel_rfl) (fun K7 hK7=>?_) ?_
   ·skip
    obtain ⟨-,-,d1,d2,d3,-⟩:=SC.later hz.below hS9
    have e62:ac.eval (.tmp 62)=.agg #[.int .i64 1,.int .i64 0,.slice (some ⟨fb,0,none⟩) 1 1]:=(by rw [HA.out,C1s 62 _ _ rfl];exact h62)
    go_simp
    try rw [C1t,e62]
    go_wp2_with fail
    refine hK7 _ _ (fun _=>SC.later (hz.op7).below hS9) ?_
    exact hi.out _ _ _ _ _ (by kernel_rfl) (s0110.out _ _ ⟨_,_,_,_,_,_,_,by rw [HA.out];exact C1p a0 63 _ _ [(57,_),(61,_)] [(64,_),(13,_),(15,_)] rfl,hz.op7⟩)
   refine C1q rfl (by kernel_rfl) (fun K15 hK15=>?_) ?_
   ·skip
    go_simp
    go_wp2_with fail
    refine hK15 _ _ (fun _=>SC.later (hz.op15).below hS9) ?_
    exact hi.out _ _ _ _ _ (by kernel_rfl) (s0011.out _ _ ⟨_,_,_,_,_,_,_,by rw [HA.out];exact C1p a0 15 _ _ [(57,_),(61,_),(63,_),(64,_),(13,_)] [] rfl,hz.op15⟩)
   exact trivial
  replace s0010:=Lib.hid s0010
  have s0001:∀ (ac:Act) (w:World),(∃ (v57:Value) (v61:Value) (v63:Value) (v64:Value) (v13:Value) (g7:Nat) (g14:Nat) (g15:Nat),ac=C8 a0 [(57,v57),(61,v61),(63,v63),(64,v64),(13,v13),(15,.pointer (some ⟨g15,0,none⟩))]∧Bz 41 51 35 #[.int .i64 1,.int .i64 0,.slice (some ⟨fb,0,none⟩) 1 1] #[.int .i64 0,.int .i64 0,.slice none 0 0,.slice none 0 0,.int .i64 0,.slice none 0 0,.slice none 0 0,.int .i64 0,.slice none 0 0,.slice none 0 0,.slice none 0 0,.slice none 0 0,.slice none 0 0,.slice none 0 0] #[.int .i64 0,.int .i64 0] w9.heap.size w9 [] none 0 false false true g7 g14 g15 w)→W 13 #[true,false,true,true,true,false,true,false,false,false,false,false,false,false,false,true,false,false,false] ac w:=by
   rintro ac w ⟨v57,v61,v63,v64,v13,g7,g14,g15,ha,hz⟩
   have HA:=Lib.hid ha
   clear ha
   refine ho.out _ _ _ _ ?_
   refine C1r [1,7,14] (by kernel_rfl) ?_
   refine C1q rfl (by kernel_rfl) (fun K1 hK1=>?_) ?_
   ·skip
    go_simp
    go_wp2_with fail
    refine hK1 _ _ (fun _=>SC.later (hz.op1).below hS9) ?_
    exact hi.out _ _ _ _ _ (by kernel_rfl) (s1001.out _ _ ⟨_,_,_,_,_,_,_,_,_,by rw [HA.out];exact C1p a0 57 _ _ [] [(61,_),(63,_),(64,_),(13,_),(15,_)] rfl,hz.op1⟩)
   refine C1q rfl (by kernel_rfl) (fun K7 hK7=>?_) ?_
   ·skip
    obtain ⟨-,-,d1,d2,d3,-⟩:=SC.later hz.below hS9
    have e62:ac.eval (.tmp 62)=.agg #[.int .i64 1,.int .i64 0,.slice (some ⟨fb,0,none⟩) 1 1]:=(by rw [HA.out,C1s 62 _ _ rfl];exact h62)
    go_simp
    try rw [C1t,e62]
    go_wp2_with fail
    refine hK7 _ _ (fun _=>SC.later (hz.op7).below hS9) ?_
    exact hi.out _ _ _ _ _ (by kernel_rfl) (s0101.out _ _ ⟨_,_,_,_,_,_,_,by rw [HA.out];exact C1p a0 63 _ _ [(57,_),(61,_)] [(64,_),(13,_),(15,_)] rfl,hz.op7⟩)
   refine C1q rfl (by kernel_rfl) (fun K14 hK14=>?_) ?_
   ·skip
    go_simp
    go_wp2_with fail
    refine hK14 _ _ (fun _=>SC.later (hz.op14).below hS9) ?_
    exact hi.out _ _ _ _ _ (by kernel_rfl) (s0011.out _ _ ⟨_,_,_,_,_,_,_,by rw [HA.out];exact C1p a0 13 _ _ [(57,_),(61,_),(63,_),(64,_)] [(15,_)] rfl,hz.op14⟩)
   exact trivial
  replace s0001:=Lib.hid s0001
  have s0000:∀ (ac:Act) (w:World),(∃ (v57:Value) (v61:Value) (v63:Value) (v64:Value) (v13:Value) (v15:Value) (g7:Nat) (g14:Nat) (g15:Nat),ac=C8 a0 [(57,v57),(61,v61),(63,v63),(64,v64),(13,v13),(15,v15)]∧Bz 41 51 35 #[.int .i64 1,.int .i64 0,.slice (some ⟨fb,0,none⟩) 1 1] #[.int .i64 0,.int .i64 0,.slice none 0 0,.slice none 0 0,.int .i64 0,.slice none 0 0,.slice none 0 0,.int .i64 0,.slice none 0 0,.slice none 0 0,.slice none 0 0,.slice none 0 0,.slice none 0 0,.slice none 0 0] #[.int .i64 0,.int .i64 0] w9.heap.size w9 [] none 0 false false false g7 g14 g15 w)→W 14 #[true,false,true,true,true,false,true,false,false,false,false,false,false,false,false,false,false,false,false] ac w:=by
   rintro ac w ⟨v57,v61,v63,v64,v13,v15,g7,g14,g15,ha,hz⟩
   have HA:=Lib.hid ha
   clear ha
   refine ho.out _ _ _ _ ?_
   refine C1r [1,7,14,15] (by kernel_rfl) ?_
   refine C1q rfl (by kernel_rfl) (fun K1 hK1=>?_) ?_
   ·skip
    go_simp
    go_wp2_with fail
    refine hK1 _ _ (fun _=>SC.later (hz.op1).below hS9) ?_
    exact hi.out _ _ _ _ _ (by kernel_rfl) (s1000.out _ _ ⟨_,_,_,_,_,_,_,_,_,_,by rw [HA.out];exact C1p a0 57 _ _ [] [(61,_),(63,_),(64,_),(13,_),(15,_)] rfl,hz.op1⟩)
   refine C1q rfl (by kernel_rfl) (fun K7 hK7=>?_) ?_
   ·skip
    obtain ⟨-,-,d1,d2,d3,-⟩:=SC.later hz.below hS9
    have e62:ac.eval (.tmp 62)=.agg #[.int .i64 1,.int .i64 0,.slice (some ⟨fb,0,none⟩) 1 1]:=(by rw [HA.out,C1s 62 _ _ rfl];exact h62)
    go_simp
    try rw [C1t,e62]
    go_wp2_with fail
    refine hK7 _ _ (fun _=>SC.later (hz.op7).below hS9) ?_
    exact hi.out _ _ _ _ _ (by kernel_rfl) (s0100.out _ _ ⟨_,_,_,_,_,_,_,_,by rw [HA.out];exact C1p a0 63 _ _ [(57,_),(61,_)] [(64,_),(13,_),(15,_)] rfl,hz.op7⟩)
   refine C1q rfl (by kernel_rfl) (fun K14 hK14=>?_) ?_
   ·skip
    go_simp
    go_wp2_with fail
    refine hK14 _ _ (fun _=>SC.later (hz.op14).below hS9) ?_
    exact hi.out _ _ _ _ _ (by kernel_rfl) (s0010.out _ _ ⟨_,_,_,_,_,_,_,_,by rw [HA.out];exact C1p a0 13 _ _ [(57,_),(61,_),(63,_),(64,_)] [(15,_)] rfl,hz.op14⟩)
   refine C1q rfl (by kernel_rfl) (fun K15 hK15=>?_) ?_
   ·skip
    go_simp
    go_wp2_with fail
    refine hK15 _ _ (fun _=>SC.later (hz.op15).below hS9) ?_
    exact hi.out _ _ _ _ _ (by kernel_rfl) (s0001.out _ _ ⟨_,_,_,_,_,_,_,_,by rw [HA.out];exact C1p a0 15 _ _ [(57,_),(61,_),(63,_),(64,_),(13,_)] [] rfl,hz.op15⟩)
   exact trivial
  replace s0000:=Lib.hid s0000
  exact s0000.out _ _ ⟨_,_,_,_,_,_,_,_,_,by simp only [C8,Act.put,HA0.out,St.tS,St.tC,St.tZ];rfl,hz0⟩
 rintro a' w8 ⟨v13,v14,v15,v55,v56,v57,v58,v59,v60,v61,v62,v63,v64,v65,v66,v67,v68,rfl,hb8⟩
 simp only [C8,Act.put,St.tS,St.tC,St.tZ]
 obtain ⟨gb,ea1,ec1,rfl,rfl,hGb,hes1,hB911⟩:=hb8
 rename World=>w11
 have hS11:=SC.later hB911 hS9
 have hS0:SC [(⟨tb,0,none⟩,(.int .i64 t.n)),(⟨tb,1,none⟩,(.slice la t.links.length lc0)),(⟨fb+1,0,none⟩,(.int .i64 1)),(⟨fb+1,1,none⟩,(.int .i64 0)),(⟨fb+1,2,none⟩,(.slice (some ⟨fb,0,none⟩) 1 1)),(⟨fb,0,none⟩,(.int .i64 a)),(⟨fb,1,none⟩,(.int .i64 b)),(⟨fb,2,none⟩,(.slice none 0 0)),(⟨fb,3,none⟩,(.slice none 0 0))] w11.drew:=hS11
 have hB011:=hB09.trans (hB911.mono hB09.size)
 clear hS9 HSR HFF HL2 HLN HPL1 HTT HRR
 go_upto_region 12 with fail
 refine B9 (SC [(⟨tb,0,none⟩,(.int .i64 t.n)),(⟨tb,1,none⟩,(.slice la t.links.length lc0)),(⟨fb+1,0,none⟩,(.int .i64 1)),(⟨fb+1,1,none⟩,(.int .i64 0)),(⟨fb+1,2,none⟩,(.slice (some ⟨fb,0,none⟩) 1 1)),(⟨fb,0,none⟩,(.int .i64 a)),(⟨fb,1,none⟩,(.int .i64 b)),(⟨fb,2,none⟩,(.slice none 0 0)),(⟨fb,3,none⟩,(.slice none 0 0))]) 99 (fun a0 a' w'=>∃ v16 v17 v18 v69 v70 v71 v72 v73 v74 v75 v76 v77,a'=C8 a0 [(16,v16),(17,v17),(18,v18),(69,v69),(70,v70),(71,v71),(72,v72),(73,v73),(74,v74),(75,v75),(76,v76),(77,v77)]∧∃ (xb:Nat),v16=.pointer (some ⟨xb,0,none⟩)∧w'.cell? ⟨xb,0,none⟩=some (.int .i64 n2.ctl.stage)∧Below w11.heap.size w11 w') (by kernel_rfl) ?_ ?_
 ·intro Q' hR hQp
  have hb0:Below w11.heap.size w11 w11.drew:=N4 _
  have hS:SC [(⟨tb,0,none⟩,(.int .i64 t.n)),(⟨tb,1,none⟩,(.slice la t.links.length lc0)),(⟨fb+1,0,none⟩,(.int .i64 1)),(⟨fb+1,1,none⟩,(.int .i64 0)),(⟨fb+1,2,none⟩,(.slice (some ⟨fb,0,none⟩) 1 1)),(⟨fb,0,none⟩,(.int .i64 a)),(⟨fb,1,none⟩,(.int .i64 b)),(⟨fb,2,none⟩,(.slice none 0 0)),(⟨fb,3,none⟩,(.slice none 0 0))] w11.drew:=hS0
  generalize w11.drew=wa at *
  refine A9 hQp hS [0,1,2,3] ?_
  iterate 4 (refine B2 _ rfl (by kernel_rfl) (A0 (by kernel_rfl) (by intro w0 hw0;have hw1:=hw0;simp only [SC] at hw1;first|(go_simp;done)|(go_simp;rfl))) ?_;simp only [Act.put,St.tA,St.tD,St.tE,St.tS,St.tC,St.tZ])
  refine B3 ?_
  have hz0:Bz 41 51 35 #[.int .i64 1,.int .i64 0,.slice (some ⟨fb,0,none⟩) 1 1] #[.int .i64 0,.int .i64 0,.slice none 0 0,.slice none 0 0,.int .i64 0,.slice none 0 0,.slice none 0 0,.int .i64 0,.slice none 0 0,.slice none 0 0,.slice none 0 0,.slice none 0 0,.slice none 0 0,.slice none 0 0] #[.int .i64 0,.int .i64 0] w11.heap.size w11 [] none 0 false false false 0 0 0 wa:=Bz.start hb0 hb0.size
  refine C1x fun W a0 ha0 hi ho=>?_
  replace hi:=Lib.hid hi
  replace ho:=Lib.hid ho
  have h70:a0.eval (.tmp 70)=.agg #[.int .i64 t.n,.slice la t.links.length lc0]:=by rw [ha0];rfl
  have h73:a0.eval (.tmp 73)=.slice ma5 A mc5:=by rw [ha0];rfl
  have HA0:=Lib.hid ha0
  clear ha0
  have q211:∀ (ac:Act) (w:World),(∃ (cs:List Value) (ea:Option Addr) (ec:Nat) (g14:Nat) (g15:Nat),ac=C8 a0 [(16,.pointer (some ⟨g14,0,none⟩)),(18,.pointer (some ⟨g15,0,none⟩)),(74,.tuple #[.agg cs.toArray,.slice ea es2.length ec,.agg #[.int .i64 0,.int .i64 0]]),(69,.tuple #[.agg cs.toArray,.slice ea es2.length ec,.agg #[.int .i64 0,.int .i64 0]]),(75,.agg cs.toArray),(76,.slice ea es2.length ec),(77,.agg #[.int .i64 0,.int .i64 0])]∧By 51 35 #[.int .i64 0,.int .i64 0,.slice none 0 0,.slice none 0 0,.int .i64 0,.slice none 0 0,.slice none 0 0,.int .i64 0,.slice none 0 0,.slice none 0 0,.slice none 0 0,.slice none 0 0,.slice none 0 0,.slice none 0 0] #[.int .i64 0,.int .i64 0] w11.heap.size w11 cs n2 ea ec es2 true true g14 g15 w)→W 3 #[true,true,true,true,true,true,true,true,true,true,true,false,false,false] ac w:=by
   rintro ac w ⟨cs,ea,ec,g14,g15,rfl,hz⟩
   rw [HA0.out]
   simp only [C8,Act.put,St.tS,St.tC,St.tZ]
   refine ho.out _ _ _ _ ?_
   obtain ⟨n0,n1',n2',y0,y1,y2,wa,wc,sa,sc,oa,oc,ba,bc,pa,pc,pl,lc,rfl,-,-,hnow,hnext,-,-,-,-,-,-⟩:=A0g.open8 hz.net
   obtain ⟨lp0,lp1,lp2⟩:=B7.st (P:=Try.prog) hnow
   obtain ⟨lq0,lq1,lq2⟩:=B7.st (P:=Try.prog) hnext
   have hA:=(hz.s14 (by trivial)).2
   have hG2:=(hz.s15 (by trivial)).2
   have hlowA:=(hz.s14 (by trivial)).1
   have hlowG:=(hz.s15 (by trivial)).1
   have hneq:=hz.n14 (by trivial) (by trivial)
   have hB:=hz.below
   clear hz hnow hnext
   obtain ⟨x1,x2⟩:=hA.cells
   have hxl:=hA.lt
   refine A7 (i:=11) rfl (by kernel_rfl) (by kernel_rfl) fun K11 hK11=>?_
   go_simp
   go_wp2_with fail
   clear x1 x2
   obtain ⟨hAb,FXb⟩:=B05 hA (fun b=>b≠g14) w11.heap.size (fun h=>h rfl) hlowA (.int .i64 n2.ctl.stage) n0 n1' n2' y0 y1 y2 (.int .i64 n2.ctl.num) (.slice wa n2.ctl.waits.length wc) (.slice sa n2.switches.length sc) (.slice oa n2.orders.length oc) (.slice ba n2.backs.length bc) (.slice pa n2.packets.length pc) (.slice pl n2.plans.length lc)
   have hG3:=FXb.blk hG2 (.inl (fun e=>hneq e.symm))
   replace hB:=hB.trans FXb.below
   refine hK11 _ _ (fun _=>SC.later hB hS11) ?_
   clear hK11 hA hG2 FXb lp0 lp1 lp2 lq0 lq1 lq2
   generalize ((((((((((((((w.setCell ⟨g14,0,none⟩ (.int .i64 n2.ctl.stage)).setCell ⟨g14,1,none⟩ n0).setCell ⟨g14,2,none⟩ n1').setCell ⟨g14,3,none⟩ n2').setCell ⟨g14,4,none⟩ y0).setCell ⟨g14,5,none⟩ y1).setCell ⟨g14,6,none⟩ y2).setCell ⟨g14,7,none⟩ (.int .i64 n2.ctl.num)).setCell ⟨g14,8,none⟩ (.slice wa n2.ctl.waits.length wc)).setCell ⟨g14,9,none⟩ (.slice sa n2.switches.length sc)).setCell ⟨g14,10,none⟩ (.slice oa n2.orders.length oc)).setCell ⟨g14,11,none⟩ (.slice ba n2.backs.length bc)).setCell ⟨g14,12,none⟩ (.slice pa n2.packets.length pc)).setCell ⟨g14,13,none⟩ (.slice pl n2.plans.length lc))=kz at hAb hG3 hB ⊢
   have hS:SC [(⟨tb,0,none⟩,(.int .i64 t.n)),(⟨tb,1,none⟩,(.slice la t.links.length lc0)),(⟨fb+1,0,none⟩,(.int .i64 1)),(⟨fb+1,1,none⟩,(.int .i64 0)),(⟨fb+1,2,none⟩,(.slice (some ⟨fb,0,none⟩) 1 1)),(⟨fb,0,none⟩,(.int .i64 a)),(⟨fb,1,none⟩,(.int .i64 b)),(⟨fb,2,none⟩,(.slice none 0 0)),(⟨fb,3,none⟩,(.slice none 0 0))] kz:=SC.later hB hS11
   refine A9 hQp hS [12] ?_
   iterate 1 (refine B2 _ rfl (by kernel_rfl) (A0 (by kernel_rfl) (by intro w0 hw0;have hw1:=hw0;simp only [SC] at hw1;first|(go_simp;done)|(go_simp;rfl))) ?_;simp only [Act.put,St.tA,St.tD,St.tE,St.tS,St.tC,St.tZ])
   refine B3 ?_
   clear hS
   obtain ⟨f1,f2⟩:=hG3.cells
   have hfl:=hG3.lt
   refine A7 (i:=13) rfl (by kernel_rfl) (by kernel_rfl) fun K13 hK13=>?_
   go_simp
   go_wp2_with fail
   clear f1 f2
   have hFz:=(Frm.set (w:=kz) (W:=fun b=>b≠g15) (B:=w11.heap.size) (a:=⟨g15,0,none⟩) (fun h=>h rfl) hlowG (.int .i64 0)).trans (Frm.set (a:=⟨g15,1,none⟩) (fun h=>h rfl) hlowG (.int .i64 0))
   have hAz:=hFz.blk hAb (.inl hneq)
   replace hB:=hB.trans hFz.below
   refine hK13 _ _ (fun _=>SC.later hB hS11) ?_
   clear hK13
   refine B5 (by kernel_rfl) ?_ _
   refine hR _ _ ?_
   iterate 12 apply Exists.intro
   refine ⟨?_,⟨g14,rfl,hAz.cells.1 0,hB⟩⟩
   simp only [C8,Act.put,St.tS,St.tC,St.tZ]
   rfl
  replace q211:=Lib.hid q211
  have q210:∀ (ac:Act) (w:World),(∃ (v18:Value) (cs:List Value) (ea:Option Addr) (ec:Nat) (g14:Nat) (g15:Nat),ac=C8 a0 [(16,.pointer (some ⟨g14,0,none⟩)),(18,v18),(74,.tuple #[.agg cs.toArray,.slice ea es2.length ec,.agg #[.int .i64 0,.int .i64 0]]),(69,.tuple #[.agg cs.toArray,.slice ea es2.length ec,.agg #[.int .i64 0,.int .i64 0]]),(75,.agg cs.toArray),(76,.slice ea es2.length ec),(77,.agg #[.int .i64 0,.int .i64 0])]∧By 51 35 #[.int .i64 0,.int .i64 0,.slice none 0 0,.slice none 0 0,.int .i64 0,.slice none 0 0,.slice none 0 0,.int .i64 0,.slice none 0 0,.slice none 0 0,.slice none 0 0,.slice none 0 0,.slice none 0 0,.slice none 0 0] #[.int .i64 0,.int .i64 0] w11.heap.size w11 cs n2 ea ec es2 true false g14 g15 w)→W 4 #[true,true,true,true,true,true,true,true,true,true,false,false,false,false] ac w:=by
   rintro ac w ⟨v18,cs,ea,ec,g14,g15,ha,hz⟩
   have HA:=Lib.hid ha
   clear ha
   refine ho.out _ _ _ _ ?_
   refine C1r [10] (by kernel_rfl) ?_
   refine C1q rfl (by kernel_rfl) (fun K10 hK10=>?_) ?_
   ·skip
    go_simp
    go_wp2_with fail
    refine hK10 _ _ (fun _=>SC.later (hz.op15).below hS11) ?_
    exact hi.out _ _ _ _ _ (by kernel_rfl) (q211.out _ _ ⟨_,_,_,_,_,by rw [HA.out];exact C1p a0 18 _ _ [(16,_)] [(74,_),(69,_),(75,_),(76,_),(77,_)] rfl,hz.op15⟩)
   exact trivial
  replace q210:=Lib.hid q210
  have q201:∀ (ac:Act) (w:World),(∃ (v16:Value) (cs:List Value) (ea:Option Addr) (ec:Nat) (g14:Nat) (g15:Nat),ac=C8 a0 [(16,v16),(18,.pointer (some ⟨g15,0,none⟩)),(74,.tuple #[.agg cs.toArray,.slice ea es2.length ec,.agg #[.int .i64 0,.int .i64 0]]),(69,.tuple #[.agg cs.toArray,.slice ea es2.length ec,.agg #[.int .i64 0,.int .i64 0]]),(75,.agg cs.toArray),(76,.slice ea es2.length ec),(77,.agg #[.int .i64 0,.int .i64 0])]∧By 51 35 #[.int .i64 0,.int .i64 0,.slice none 0 0,.slice none 0 0,.int .i64 0,.slice none 0 0,.slice none 0 0,.int .i64 0,.slice none 0 0,.slice none 0 0,.slice none 0 0,.slice none 0 0,.slice none 0 0,.slice none 0 0] #[.int .i64 0,.int .i64 0] w11.heap.size w11 cs n2 ea ec es2 false true g14 g15 w)→W 4 #[true,true,true,true,true,true,true,true,true,false,true,false,false,false] ac w:=by
   rintro ac w ⟨v16,cs,ea,ec,g14,g15,ha,hz⟩
   have HA:=Lib.hid ha
   clear ha
   refine ho.out _ _ _ _ ?_
   refine C1r [9] (by kernel_rfl) ?_
   refine C1q rfl (by kernel_rfl) (fun K9 hK9=>?_) ?_
   ·skip
    go_simp
    go_wp2_with fail
    refine hK9 _ _ (fun _=>SC.later (hz.op14).below hS11) ?_
    exact hi.out _ _ _ _ _ (by kernel_rfl) (q211.out _ _ ⟨_,_,_,_,_,by rw [HA.out];exact C1p a0 16 _ _ [] [(18,_),(74,_),(69,_),(75,_),(76,_),(77,_)] rfl,hz.op14⟩)
   exact trivial
  replace q201:=Lib.hid q201
  have q200:∀ (ac:Act) (w:World),(∃ (v16:Value) (v18:Value) (cs:List Value) (ea:Option Addr) (ec:Nat) (g14:Nat) (g15:Nat),ac=C8 a0 [(16,v16),(18,v18),(74,.tuple #[.agg cs.toArray,.slice ea es2.length ec,.agg #[.int .i64 0,.int .i64 0]]),(69,.tuple #[.agg cs.toArray,.slice ea es2.length ec,.agg #[.int .i64 0,.int .i64 0]]),(75,.agg cs.toArray),(76,.slice ea es2.length ec),(77,.agg #[.int .i64 0,.int .i64 0])]∧By 51 35 #[.int .i64 0,.int .i64 0,.slice none 0 0,.slice none 0 0,.int .i64 0,.slice none 0 0,.slice none 0 0,.int .i64 0,.slice none 0 0,.slice none 0 0,.slice none 0 0,.slice none 0 0,.slice none 0 0,.slice none 0 0] #[.int .i64 0,.int .i64 0] w11.heap.size w11 cs n2 ea ec es2 false false g14 g15 w)→W 5 #[true,true,true,true,true,true,true,true,true,false,false,false,false,false] ac w:=by
   rintro ac w ⟨v16,v18,cs,ea,ec,g14,g15,ha,hz⟩
   have HA:=Lib.hid ha
   clear ha
   refine ho.out _ _ _ _ ?_
   refine C1r [9,10] (by kernel_rfl) ?_
   refine C1q rfl (by kernel_rfl) (fun K9 hK9=>?_) ?_
   ·skip
    go_simp
    go_wp2_with fail
    refine hK9 _ _ (fun _=>SC.later (hz.op14).below hS11) ?_
    exact hi.out _ _ _ _ _ (by kernel_rfl) (q210.out _ _ ⟨_,_,_,_,_,_,by rw [HA.out];exact C1p a0 16 _ _ [] [(18,_),(74,_),(69,_),(75,_),(76,_),(77,_)] rfl,hz.op14⟩)
   refine C1q rfl (by kernel_rfl) (fun K10 hK10=>?_) ?_
   ·skip
    go_simp
    go_wp2_with fail
    refine hK10 _ _ (fun _=>SC.later (hz.op15).below hS11) ?_
    exact hi.out _ _ _ _ _ (by kernel_rfl) (q201.out _ _ ⟨_,_,_,_,_,_,by rw [HA.out];exact C1p a0 18 _ _ [(16,_)] [(74,_),(69,_),(75,_),(76,_),(77,_)] rfl,hz.op15⟩)
   exact trivial
  replace q200:=Lib.hid q200
  have q111:∀ (ac:Act) (w:World),(∃ (cs:List Value) (ea:Option Addr) (ec:Nat) (g14:Nat) (g15:Nat),ac=C8 a0 [(16,.pointer (some ⟨g14,0,none⟩)),(18,.pointer (some ⟨g15,0,none⟩)),(74,.tuple #[.agg cs.toArray,.slice ea es2.length ec,.agg #[.int .i64 0,.int .i64 0]])]∧By 51 35 #[.int .i64 0,.int .i64 0,.slice none 0 0,.slice none 0 0,.int .i64 0,.slice none 0 0,.slice none 0 0,.int .i64 0,.slice none 0 0,.slice none 0 0,.slice none 0 0,.slice none 0 0,.slice none 0 0,.slice none 0 0] #[.int .i64 0,.int .i64 0] w11.heap.size w11 cs n2 ea ec es2 true true g14 g15 w)→W 7 #[true,true,true,true,true,false,false,false,false,true,true,false,false,false] ac w:=by
   rintro ac w ⟨cs,ea,ec,g14,g15,rfl,hz⟩
   rw [HA0.out]
   simp only [C8,Act.put,St.tS,St.tC,St.tZ]
   refine ho.out _ _ _ _ ?_
   have hS:SC [(⟨tb,0,none⟩,(.int .i64 t.n)),(⟨tb,1,none⟩,(.slice la t.links.length lc0)),(⟨fb+1,0,none⟩,(.int .i64 1)),(⟨fb+1,1,none⟩,(.int .i64 0)),(⟨fb+1,2,none⟩,(.slice (some ⟨fb,0,none⟩) 1 1)),(⟨fb,0,none⟩,(.int .i64 a)),(⟨fb,1,none⟩,(.int .i64 b)),(⟨fb,2,none⟩,(.slice none 0 0)),(⟨fb,3,none⟩,(.slice none 0 0))] w:=SC.later hz.below hS11
   refine A9 hQp hS [5,6,7,8] ?_
   iterate 4 (refine B2 _ rfl (by kernel_rfl) (A0 (by kernel_rfl) (by intro w0 hw0;have hw1:=hw0;simp only [SC] at hw1;first|(go_simp;done)|(go_simp;rfl))) ?_;simp only [Act.put,St.tA,St.tD,St.tE,St.tS,St.tC,St.tZ])
   refine B3 ?_
   refine hi.out _ _ _ _ _ (by kernel_rfl) (q211.out _ _ ?_)
   iterate 5 apply Exists.intro
   refine ⟨?_,hz⟩
   rw [HA0.out]
   simp only [C8,Act.put,St.tS,St.tC,St.tZ]
   try rfl
  replace q111:=Lib.hid q111
  have q110:∀ (ac:Act) (w:World),(∃ (v18:Value) (cs:List Value) (ea:Option Addr) (ec:Nat) (g14:Nat) (g15:Nat),ac=C8 a0 [(16,.pointer (some ⟨g14,0,none⟩)),(18,v18),(74,.tuple #[.agg cs.toArray,.slice ea es2.length ec,.agg #[.int .i64 0,.int .i64 0]])]∧By 51 35 #[.int .i64 0,.int .i64 0,.slice none 0 0,.slice none 0 0,.int .i64 0,.slice none 0 0,.slice none 0 0,.int .i64 0,.slice none 0 0,.slice none 0 0,.slice none 0 0,.slice none 0 0,.slice none 0 0,.slice none 0 0] #[.int .i64 0,.int .i64 0] w11.heap.size w11 cs n2 ea ec es2 true false g14 g15 w)→W 8 #[true,true,true,true,true,false,false,false,false,true,false,false,false,false] ac w:=by
   rintro ac w ⟨v18,cs,ea,ec,g14,g15,rfl,hz⟩
   rw [HA0.out]
   simp only [C8,Act.put,St.tS,St.tC,St.tZ]
   refine ho.out _ _ _ _ ?_
   have hS:SC [(⟨tb,0,none⟩,(.int .i64 t.n)),(⟨tb,1,none⟩,(.slice la t.links.length lc0)),(⟨fb+1,0,none⟩,(.int .i64 1)),(⟨fb+1,1,none⟩,(.int .i64 0)),(⟨fb+1,2,none⟩,(.slice (some ⟨fb,0,none⟩) 1 1)),(⟨fb,0,none⟩,(.int .i64 a)),(⟨fb,1,none⟩,(.int .i64 b)),(⟨fb,2,none⟩,(.slice none 0 0)),(⟨fb,3,none⟩,(.slice none 0 0))] w:=SC.later hz.below hS11
   refine A9 hQp hS [5,6,7,8] ?_
   iterate 4 (refine B2 _ rfl (by kernel_rfl) (A0 (by kernel_rfl) (by intro w0 hw0;have hw1:=hw0;simp only [SC] at hw1;first|(go_simp;done)|(go_simp;rfl))) ?_;simp only [Act.put,St.tA,St.tD,St.tE,St.tS,St.tC,St.tZ])
   refine B3 ?_
   refine hi.out _ _ _ _ _ (by kernel_rfl) (q210.out _ _ ?_)
   iterate 6 apply Exists.intro
   refine ⟨?_,hz⟩
   rw [HA0.out]
   simp only [C8,Act.put,St.tS,St.tC,St.tZ]
   try rfl
  replace q110:=Lib.hid q110
  have q101:∀ (ac:Act) (w:World),(∃ (v16:Value) (cs:List Value) (ea:Option Addr) (ec:Nat) (g14:Nat) (g15:Nat),ac=C8 a0 [(16,v16),(18,.pointer (some ⟨g15,0,none⟩)),(74,.tuple #[.agg cs.toArray,.slice ea es2.length ec,.agg #[.int .i64 0,.int .i64 0]])]∧By 51 35 #[.int .i64 0,.int .i64 0,.slice none 0 0,.slice none 0 0,.int .i64 0,.slice none 0 0,.slice none 0 0,.int .i64 0,.slice none 0 0,.slice none 0 0,.slice none 0 0,.slice none 0 0,.slice none 0 0,.slice none 0 0] #[.int .i64 0,.int .i64 0] w11.heap.size w11 cs n2 ea ec es2 false true g14 g15 w)→W 8 #[true,true,true,true,true,false,false,false,false,false,true,false,false,false] ac w:=by
   rintro ac w ⟨v16,cs,ea,ec,g14,g15,rfl,hz⟩
   rw [HA0.out]
   simp only [C8,Act.put,St.tS,St.tC,St.tZ]
   refine ho.out _ _ _ _ ?_
   have hS:SC [(⟨tb,0,none⟩,(.int .i64 t.n)),(⟨tb,1,none⟩,(.slice la t.links.length lc0)),(⟨fb+1,0,none⟩,(.int .i64 1)),(⟨fb+1,1,none⟩,(.int .i64 0)),(⟨fb+1,2,none⟩,(.slice (some ⟨fb,0,none⟩) 1 1)),(⟨fb,0,none⟩,(.int .i64 a)),(⟨fb,1,none⟩,(.int .i64 b)),(⟨fb,2,none⟩,(.slice none 0 0)),(⟨fb,3,none⟩,(.slice none 0 0))] w:=SC.later hz.below hS11
   refine A9 hQp hS [5,6,7,8] ?_
   iterate 4 (refine B2 _ rfl (by kernel_rfl) (A0 (by kernel_rfl) (by intro w0 hw0;have hw1:=hw0;simp only [SC] at hw1;first|(go_simp;done)|(go_simp;rfl))) ?_;simp only [Act.put,St.tA,St.tD,St.tE,St.tS,St.tC,St.tZ])
   refine B3 ?_
   refine hi.out _ _ _ _ _ (by kernel_rfl) (q201.out _ _ ?_)
   iterate 6 apply Exists.intro
   refine ⟨?_,hz⟩
   rw [HA0.out]
   simp only [C8,Act.put,St.tS,St.tC,St.tZ]
   try rfl
  replace q101:=Lib.hid q101
  have q011:∀ (ac:Act) (w:World),(∃ (g14:Nat) (g15:Nat),ac=C8 a0 [(16,.pointer (some ⟨g14,0,none⟩)),(18,.pointer (some ⟨g15,0,none⟩))]∧Bz 41 51 35 #[.int .i64 1,.int .i64 0,.slice (some ⟨fb,0,none⟩) 1 1] #[.int .i64 0,.int .i64 0,.slice none 0 0,.slice none 0 0,.int .i64 0,.slice none 0 0,.slice none 0 0,.int .i64 0,.slice none 0 0,.slice none 0 0,.slice none 0 0,.slice none 0 0,.slice none 0 0,.slice none 0 0] #[.int .i64 0,.int .i64 0] w11.heap.size w11 [] none 0 false true true 0 g14 g15 w)→W 8 #[true,true,true,true,false,false,false,false,false,true,true,false,false,false] ac w:=by
   rintro ac w ⟨g14,g15,ha,hz⟩
   have HA:=Lib.hid ha
   clear ha
   refine ho.out _ _ _ _ ?_
   refine C1r [4] (by kernel_rfl) ?_
   refine C1q rfl (by kernel_rfl) (fun K4 hK4=>?_) ?_
   ·skip
    have e70:ac.eval (.tmp 70)=.agg #[.int .i64 t.n,.slice la t.links.length lc0]:=by rw [HA.out,C1s 70 _ _ rfl];exact h70
    have e73:ac.eval (.tmp 73)=.slice ma5 A mc5:=by rw [HA.out,C1s 73 _ _ rfl];exact h73
    go_simp
    rw [C1t,e70,C1t,e73]
    go_wp2_with fail
    refine (HPL2.out _ (hB911.trans (hz.below.mono hB911.size))).mono ?_
    rintro e w3' ⟨cs,ea,ec,rfl,hn3,he3,hb3⟩
    go_wp2_with fail
    have hz3:=hz.play hb3 hn3 he3
    refine hK4 _ _ (fun _=>SC.later (hz3).below hS11) ?_
    exact hi.out _ _ _ _ _ (by kernel_rfl) (q111.out _ _ ⟨_,_,_,_,_,by rw [HA.out];exact (C1v a0 [(16,_),(18,_)] [(74,_)]).symm,hz3⟩)
   exact trivial
  replace q011:=Lib.hid q011
  have q100:∀ (ac:Act) (w:World),(∃ (v16:Value) (v18:Value) (cs:List Value) (ea:Option Addr) (ec:Nat) (g14:Nat) (g15:Nat),ac=C8 a0 [(16,v16),(18,v18),(74,.tuple #[.agg cs.toArray,.slice ea es2.length ec,.agg #[.int .i64 0,.int .i64 0]])]∧By 51 35 #[.int .i64 0,.int .i64 0,.slice none 0 0,.slice none 0 0,.int .i64 0,.slice none 0 0,.slice none 0 0,.int .i64 0,.slice none 0 0,.slice none 0 0,.slice none 0 0,.slice none 0 0,.slice none 0 0,.slice none 0 0] #[.int .i64 0,.int .i64 0] w11.heap.size w11 cs n2 ea ec es2 false false g14 g15 w)→W 9 #[true,true,true,true,true,false,false,false,false,false,false,false,false,false] ac w:=by
   rintro ac w ⟨v16,v18,cs,ea,ec,g14,g15,rfl,hz⟩
   rw [HA0.out]
   simp only [C8,Act.put,St.tS,St.tC,St.tZ]
   refine ho.out _ _ _ _ ?_
   have hS:SC [(⟨tb,0,none⟩,(.int .i64 t.n)),(⟨tb,1,none⟩,(.slice la t.links.length lc0)),(⟨fb+1,0,none⟩,(.int .i64 1)),(⟨fb+1,1,none⟩,(.int .i64 0)),(⟨fb+1,2,none⟩,(.slice (some ⟨fb,0,none⟩) 1 1)),(⟨fb,0,none⟩,(.int .i64 a)),(⟨fb,1,none⟩,(.int .i64 b)),(⟨fb,2,none⟩,(.slice none 0 0)),(⟨fb,3,none⟩,(.slice none 0 0))] w:=SC.later hz.below hS11
   refine A9 hQp hS [5,6,7,8] ?_
   iterate 4 (refine B2 _ rfl (by kernel_rfl) (A0 (by kernel_rfl) (by intro w0 hw0;have hw1:=hw0;simp only [SC] at hw1;first|(go_simp;done)|(go_simp;rfl))) ?_;simp only [Act.put,St.tA,St.tD,St.tE,St.tS,St.tC,St.tZ])
   refine B3 ?_
   refine hi.out _ _ _ _ _ (by kernel_rfl) (q200.out _ _ ?_)
   iterate 7 apply Exists.intro
   refine ⟨?_,hz⟩
   rw [HA0.out]
   simp only [C8,Act.put,St.tS,St.tC,St.tZ]
   try rfl
  replace q100:=Lib.hid q100
  have q010:∀ (ac:Act) (w:World),(∃ (v18:Value) (g14:Nat) (g15:Nat),ac=C8 a0 [(16,.pointer (some ⟨g14,0,none⟩)),(18,v18)]∧Bz 41 51 35 #[.int .i64 1,.int .i64 0,.slice (some ⟨fb,0,none⟩) 1 1] #[.int .i64 0,.int .i64 0,.slice none 0 0,.slice none 0 0,.int .i64 0,.slice none 0 0,.slice none 0 0,.int .i64 0,.slice none 0 0,.slice none 0 0,.slice none 0 0,.slice none 0 0,.slice none 0 0,.slice none 0 0] #[.int .i64 0,.int .i64 0] w11.heap.size w11 [] none 0 false true false 0 g14 g15 w)→W 9 #[true,true,true,true,false,false,false,false,false,true,false,false,false,false] ac w:=by
   rintro ac w ⟨v18,g14,g15,ha,hz⟩
   have HA:=Lib.hid ha
   clear ha
   refine ho.out _ _ _ _ ?_
   refine C1r [4,10] (by kernel_rfl) ?_
   refine C1q rfl (by kernel_rfl) (fun K4 hK4=>?_) ?_
   ·skip
    have e70:ac.eval (.tmp 70)=.agg #[.int .i64 t.n,.slice la t.links.length lc0]:=by rw [HA.out,C1s 70 _ _ rfl];exact h70
    have e73:ac.eval (.tmp 73)=.slice ma5 A mc5:=by rw [HA.out,C1s 73 _ _ rfl];exact h73
    go_simp
    rw [C1t,e70,C1t,e73]
    go_wp2_with fail
    refine (HPL2.out _ (hB911.trans (hz.below.mono hB911.size))).mono ?_
    rintro e w3' ⟨cs,ea,ec,rfl,hn3,he3,hb3⟩
    go_wp2_with fail
    have hz3:=hz.play hb3 hn3 he3
    refine hK4 _ _ (fun _=>SC.later (hz3).below hS11) ?_
    exact hi.out _ _ _ _ _ (by kernel_rfl) (q110.out _ _ ⟨_,_,_,_,_,_,by rw [HA.out];exact (C1v a0 [(16,_),(18,_)] [(74,_)]).symm,hz3⟩)
   refine C1q rfl (by kernel_rfl) (fun K10 hK10=>?_) ?_
   ·skip
    go_simp
    go_wp2_with fail
    refine hK10 _ _ (fun _=>SC.later (hz.op15).below hS11) ?_
    exact hi.out _ _ _ _ _ (by kernel_rfl) (q011.out _ _ ⟨_,_,by rw [HA.out];exact C1p a0 18 _ _ [(16,_)] [] rfl,hz.op15⟩)
   exact trivial
  replace q010:=Lib.hid q010
  have q001:∀ (ac:Act) (w:World),(∃ (v16:Value) (g14:Nat) (g15:Nat),ac=C8 a0 [(16,v16),(18,.pointer (some ⟨g15,0,none⟩))]∧Bz 41 51 35 #[.int .i64 1,.int .i64 0,.slice (some ⟨fb,0,none⟩) 1 1] #[.int .i64 0,.int .i64 0,.slice none 0 0,.slice none 0 0,.int .i64 0,.slice none 0 0,.slice none 0 0,.int .i64 0,.slice none 0 0,.slice none 0 0,.slice none 0 0,.slice none 0 0,.slice none 0 0,.slice none 0 0] #[.int .i64 0,.int .i64 0] w11.heap.size w11 [] none 0 false false true 0 g14 g15 w)→W 9 #[true,true,true,true,false,false,false,false,false,false,true,false,false,false] ac w:=by
   rintro ac w ⟨v16,g14,g15,ha,hz⟩
   have HA:=Lib.hid ha
   clear ha
   refine ho.out _ _ _ _ ?_
   refine C1r [4,9] (by kernel_rfl) ?_
   refine C1q rfl (by kernel_rfl) (fun K4 hK4=>?_) ?_
   ·skip
    have e70:ac.eval (.tmp 70)=.agg #[.int .i64 t.n,.slice la t.links.length lc0]:=by rw [HA.out,C1s 70 _ _ rfl];exact h70
    have e73:ac.eval (.tmp 73)=.slice ma5 A mc5:=by rw [HA.out,C1s 73 _ _ rfl];exact h73
    go_simp
    rw [C1t,e70,C1t,e73]
    go_wp2_with fail
    refine (HPL2.out _ (hB911.trans (hz.below.mono hB911.size))).mono ?_
    rintro e w3' ⟨cs,ea,ec,rfl,hn3,he3,hb3⟩
    go_wp2_with fail
    have hz3:=hz.play hb3 hn3 he3
    refine hK4 _ _ (fun _=>SC.later (hz3).below hS11) ?_
    exact hi.out _ _ _ _ _ (by kernel_rfl) (q101.out _ _ ⟨_,_,_,_,_,_,by rw [HA.out];exact (C1v a0 [(16,_),(18,_)] [(74,_)]).symm,hz3⟩)
   refine C1q rfl (by kernel_rfl) (fun K9 hK9=>?_) ?_
   ·skip
    go_simp
    go_wp2_with fail
    refine hK9 _ _ (fun _=>SC.later (hz.op14).below hS11) ?_
    exact hi.out _ _ _ _ _ (by kernel_rfl) (q011.out _ _ ⟨_,_,by rw [HA.out];exact C1p a0 16 _ _ [] [(18,_)] rfl,hz.op14⟩)
   exact trivial
  replace q001:=Lib.hid q001
  have q000:∀ (ac:Act) (w:World),(∃ (v16:Value) (v18:Value) (g14:Nat) (g15:Nat),ac=C8 a0 [(16,v16),(18,v18)]∧Bz 41 51 35 #[.int .i64 1,.int .i64 0,.slice (some ⟨fb,0,none⟩) 1 1] #[.int .i64 0,.int .i64 0,.slice none 0 0,.slice none 0 0,.int .i64 0,.slice none 0 0,.slice none 0 0,.int .i64 0,.slice none 0 0,.slice none 0 0,.slice none 0 0,.slice none 0 0,.slice none 0 0,.slice none 0 0] #[.int .i64 0,.int .i64 0] w11.heap.size w11 [] none 0 false false false 0 g14 g15 w)→W 10 #[true,true,true,true,false,false,false,false,false,false,false,false,false,false] ac w:=by
   rintro ac w ⟨v16,v18,g14,g15,ha,hz⟩
   have HA:=Lib.hid ha
   clear ha
   refine ho.out _ _ _ _ ?_
   refine C1r [4,9,10] (by kernel_rfl) ?_
   refine C1q rfl (by kernel_rfl) (fun K4 hK4=>?_) ?_
   ·skip
    have e70:ac.eval (.tmp 70)=.agg #[.int .i64 t.n,.slice la t.links.length lc0]:=by rw [HA.out,C1s 70 _ _ rfl];exact h70
    have e73:ac.eval (.tmp 73)=.slice ma5 A mc5:=by rw [HA.out,C1s 73 _ _ rfl];exact h73
    go_simp
    rw [C1t,e70,C1t,e73]
    go_wp2_with fail
    refine (HPL2.out _ (hB911.trans (hz.below.mono hB911.size))).mono ?_
    rintro e w3' ⟨cs,ea,ec,rfl,hn3,he3,hb3⟩
    go_wp2_with fail
    have hz3:=hz.play hb3 hn3 he3
    refine hK4 _ _ (fun _=>SC.later (hz3).below hS11) ?_
    exact hi.out _ _ _ _ _ (by kernel_rfl) (q100.out _ _ ⟨_,_,_,_,_,_,_,by rw [HA.out];exact (C1v a0 [(16,_),(18,_)] [(74,_)]).symm,hz3⟩)
   refine C1q rfl (by kernel_rfl) (fun K9 hK9=>?_) ?_
   ·skip
    go_simp
    go_wp2_with fail
    refine hK9 _ _ (fun _=>SC.later (hz.op14).below hS11) ?_
    exact hi.out _ _ _ _ _ (by kernel_rfl) (q010.out _ _ ⟨_,_,_,by rw [HA.out];exact C1p a0 16 _ _ [] [(18,_)] rfl,hz.op14⟩)
   refine C1q rfl (by kernel_rfl) (fun K10 hK10=>?_) ?_
   ·skip
    go_simp
    go_wp2_with fail
    refine hK10 _ _ (fun _=>SC.later (hz.op15).below hS11) ?_
    exact hi.out _ _ _ _ _ (by kernel_rfl) (q001.out _ _ ⟨_,_,_,by rw [HA.out];exact C1p a0 18 _ _ [(16,_)] [] rfl,hz.op15⟩)
   exact trivial
  replace q000:=Lib.hid q000
  exact q000.out _ _ ⟨_,_,_,_,by simp only [C8,Act.put,HA0.out,St.tS,St.tC,St.tZ];rfl,hz0⟩
 rintro a' w8 ⟨v16,v17,v18,v69,v70,v71,v72,v73,v74,v75,v76,v77,rfl,hb8⟩
 simp only [C8,Act.put,St.tS,St.tC,St.tZ]
 obtain ⟨xb,rfl,hst,hB12⟩:=hb8
 rename World=>w12
 have hB012:=hB011.trans (hB12.mono hB011.size)
 have hG12:=hGb.under hB12
 obtain ⟨eg,eof,rfl,-,hel,cs,rfl,hce⟩:=(hes1.below hB12).get HE9.out
 have e0:=hce 0 _ rfl
 rw [show A71.size=1 from rfl,Nat.add_zero,Nat.mul_one] at e0
 have hal:A<es1.length:=(List.getElem?_eq_some_iff.1 HE9.out).1
 have c1:(A:Int)<(es1.length:Int):=by omega
 obtain ⟨f1,f2⟩:=hG12.cells
 have hfl:=hG12.lt
 clear hS0 hS11 hce hes1 hGb hB911 hB12 HPL2 hB011
 go_upto_region 15 with fail
 generalize n2.ctl.stage=sg at *
 clear f1 f2
 rcases HST.out with ⟨rfl,rfl⟩|⟨hsg,rfl⟩
 ·have hS0:SC [(⟨eg,eof+A,none⟩,.int .i64 0),(⟨xb,0,none⟩,.int .i64 0)] w12.drew:=⟨e0,hst,trivial⟩
  refine B9 (SC [(⟨eg,eof+A,none⟩,.int .i64 0),(⟨xb,0,none⟩,.int .i64 0)]) 99 (fun a0 a' w'=>∃ v81 v82 v83 v84 v85 v86 v87 v88 v89 v90 v91 v92 v93 v94 v95 v96 v97 v98 v99 v100 v101 v102 v103 v104,a'=C8 a0 [(81,v81),(82,v82),(83,v83),(84,v84),(85,v85),(86,v86),(87,v87),(88,v88),(89,v89),(90,v90),(91,v91),(92,v92),(93,v93),(94,v94),(95,v95),(96,v96),(97,v97),(98,v98),(99,v99),(100,v100),(101,v101),(102,v102),(103,v103),(104,v104),(8,.bool true)]∧Below w12.heap.size w12 w') (by kernel_rfl) ?_ ?_
  ·intro Q' hR hQp
   have hb0:Below w12.heap.size w12 w12.drew:=N4 _
   have hS:SC [(⟨eg,eof+A,none⟩,.int .i64 0),(⟨xb,0,none⟩,.int .i64 0)] w12.drew:=hS0
   generalize w12.drew=wa at *
   refine A9 hQp hS [0,1,2,3,4,5,6,7,8,9,10,11,12,13,14,15,16] ?_
   iterate 17 (refine B2 _ rfl (by kernel_rfl) (A0 (by kernel_rfl) (by intro w0 hw0;have hw1:=hw0;simp only [SC] at hw1;first|(go_simp;done)|(go_simp;rfl))) ?_;simp only [Act.put,St.tA,St.tD,St.tE,St.tS,St.tC,St.tZ])
   refine B3 ?_
   refine B0 (i:=17) undef rfl (by kernel_rfl) (fun _ _ _ h=>hQp _ _ _ _ h) hS (.inr ⟨by kernel_rfl,rfl⟩) ?_;simp only [Act.put,St.tA,St.tD,St.tE,St.tS,St.tC,St.tZ]
   refine B0 (i:=18) undef rfl (by kernel_rfl) (fun _ _ _ h=>hQp _ _ _ _ h) hS (.inr ⟨by kernel_rfl,rfl⟩) ?_;simp only [Act.put,St.tA,St.tD,St.tE,St.tS,St.tC,St.tZ]
   refine B0 (i:=19) undef rfl (by kernel_rfl) (fun _ _ _ h=>hQp _ _ _ _ h) hS (.inr ⟨by kernel_rfl,rfl⟩) ?_;simp only [Act.put,St.tA,St.tD,St.tE,St.tS,St.tC,St.tZ]
   refine B0 (i:=20) undef rfl (by kernel_rfl) (fun _ _ _ h=>hQp _ _ _ _ h) hS (.inr ⟨by kernel_rfl,rfl⟩) ?_;simp only [Act.put,St.tA,St.tD,St.tE,St.tS,St.tC,St.tZ]
   refine B0 (i:=21) undef rfl (by kernel_rfl) (fun _ _ _ h=>hQp _ _ _ _ h) hS (.inr ⟨by kernel_rfl,rfl⟩) ?_;simp only [Act.put,St.tA,St.tD,St.tE,St.tS,St.tC,St.tZ]
   refine A9 hQp hS [22,23,24] ?_
   iterate 3 (refine B2 _ rfl (by kernel_rfl) (A0 (by kernel_rfl) (by intro w0 hw0;have hw1:=hw0;simp only [SC] at hw1;first|(go_simp;done)|(go_simp;rfl))) ?_;simp only [Act.put,St.tA,St.tD,St.tE,St.tS,St.tC,St.tZ])
   refine B3 ?_
   refine B5 (by kernel_rfl) ?_ _
   refine hR _ _ ?_
   iterate 24 apply Exists.intro
   refine ⟨?_,hb0⟩
   simp only [C8,Act.put,St.tS,St.tC,St.tZ]
   rfl
  rintro a' w8 ⟨v81,v82,v83,v84,v85,v86,v87,v88,v89,v90,v91,v92,v93,v94,v95,v96,v97,v98,v99,v100,v101,v102,v103,v104,rfl,hb8⟩
  simp only [C8,Act.put,St.tS,St.tC,St.tZ]
  have hBf:=hB012.trans (hb8.mono hB012.size)
  go_wp2
  go_ret;exact ⟨rfl,hBf⟩
 ·have k5:(sg==0)=false:=by rw [beq_eq_false_iff_ne];exact hsg
  clear hsg HST
  have hS0:SC [(⟨eg,eof+A,none⟩,.int .i64 11),(⟨xb,0,none⟩,.int .i64 sg)] w12.drew:=⟨e0,hst,trivial⟩
  refine B9 (SC [(⟨eg,eof+A,none⟩,.int .i64 11),(⟨xb,0,none⟩,.int .i64 sg)]) 99 (fun a0 a' w'=>∃ v81 v82 v83 v84 v85 v86 v87 v88 v89 v90 v91 v92 v93 v94 v95 v96 v97 v98 v99 v100 v101 v102 v103 v104,a'=C8 a0 [(81,v81),(82,v82),(83,v83),(84,v84),(85,v85),(86,v86),(87,v87),(88,v88),(89,v89),(90,v90),(91,v91),(92,v92),(93,v93),(94,v94),(95,v95),(96,v96),(97,v97),(98,v98),(99,v99),(100,v100),(101,v101),(102,v102),(103,v103),(104,v104),(8,.bool true)]∧Below w12.heap.size w12 w') (by kernel_rfl) ?_ ?_
  ·intro Q' hR hQp
   have hb0:Below w12.heap.size w12 w12.drew:=N4 _
   have hS:SC [(⟨eg,eof+A,none⟩,.int .i64 11),(⟨xb,0,none⟩,.int .i64 sg)] w12.drew:=hS0
   generalize w12.drew=wa at *
   refine A9 hQp hS [0,1,2,3,4,5,6,7,8,9,10,11,12,13,14,15,16,17,18,19,20,21,22,23,24] ?_
   iterate 25 (refine B2 _ rfl (by kernel_rfl) (A0 (by kernel_rfl) (by intro w0 hw0;have hw1:=hw0;simp only [SC] at hw1;first|(go_simp;done)|(go_simp;rfl))) ?_;simp only [Act.put,St.tA,St.tD,St.tE,St.tS,St.tC,St.tZ])
   refine B3 ?_
   refine B5 (by kernel_rfl) ?_ _
   refine hR _ _ ?_
   iterate 24 apply Exists.intro
   refine ⟨?_,hb0⟩
   simp only [C8,Act.put,St.tS,St.tC,St.tZ]
   rfl
  rintro a' w8 ⟨v81,v82,v83,v84,v85,v86,v87,v88,v89,v90,v91,v92,v93,v94,v95,v96,v97,v98,v99,v100,v101,v102,v103,v104,rfl,hb8⟩
  simp only [C8,Act.put,St.tS,St.tC,St.tZ]
  have hBf:=hB012.trans (hb8.mono hB012.size)
  go_wp2
  go_ret;exact ⟨rfl,hBf⟩
end Go.Proofs.Ytampcbncgofkoaa
