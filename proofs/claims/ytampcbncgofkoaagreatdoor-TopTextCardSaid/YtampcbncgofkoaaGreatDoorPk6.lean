/- Texts of this proof, one behind the other. -/
import Derived.Lib.AppendZerosOnto
import Derived.Test.YtampcbncgofkoaaGreatDoorPk5
set_option linter.unusedSimpArgs false
set_option linter.unusedVariables false
set_option maxRecDepth 100000
set_option maxHeartbeats 16000000
namespace Go.St
open Go.RowKit
theorem A5z:∀ (xs:List C1) (cells:List Value),cells.length=xs.length * 3→(∀ i x,xs[i]? =some x→I3 3 cells i=A2t x)→cells=J7 xs
 |[],cells,hl,_=>List.eq_nil_of_length_eq_zero (by simpa using hl)
 |x::xs,cells,hl,h=>by
  have h0:=h 0 x rfl
  have h1:=A5z xs (cells.drop 3) (by simp at hl ⊢;omega) fun i y hy=>by
   have:=h (i+1) y (by simpa using hy)
   unfold I3 at *
   rw [List.drop_drop,show 3+i * 3=(i+1) * 3 by omega];exact this
  have e:cells=cells.take 3++cells.drop 3:=(List.take_append_drop 3 cells).symm
  have e0:cells.take 3=A2t x:=by simpa [I3] using h0
  rw [e,h1,e0];rfl
theorem C7.rr {e:TypeId} {ok:Nat→Prop} {base:Nat} {w:World} {g n cap:Nat} {xs:List C1} (h:C7 G6 e ok base w (some ⟨g,0,none⟩) n cap xs):
  ∃ junk,RR w g e xs junk∧base≤g∧n=xs.length∧n≤cap∧cap≤maxLen:=by
 have hlt:=h.lt g rfl
 obtain ⟨cells,⟨h1,h2,h3,h4⟩,h5,h6,h7,h8⟩:=h
 rcases h4 with ⟨h4,_⟩|⟨g',cur,hg',hb,hg,hs,ht⟩
 ·cases h4
 obtain rfl:g=g':=by simpa using hg'
 have hc:cells=J7 xs:=A5z xs cells (by rw [h1,h5];rfl) fun i x hx=>(h6 i x hx).1
 refine ⟨cur.toList.drop (n * 3),⟨?_,fun r hr=>?_⟩,hb,h5,h2,h3⟩
 ·unfold A6
  rw [hg]
  have:cur=(J7 xs++cur.toList.drop (n * 3)).toArray:=by
   rw [←hc,←ht]
   show cur=(cur.toList.take (n * 3)++cur.toList.drop (n * 3)).toArray
   rw [List.take_append_drop,Array.toArray_toList]
  rw [←this]
 ·obtain ⟨i,hi⟩:=List.getElem?_of_mem hr
  exact (h6 i r hi).2
theorem RR.row {w:World} {g:Nat} {t:TypeId} {xs:List C1} {junk:List Value} (h:RR w g t xs junk) {cap:Nat} (h1:xs.length≤cap) (h2:cap≤maxLen) {ok:Nat→Prop} (hok:ok g):A8 G6 ok w (some ⟨g,0,none⟩) cap xs:=by
  refine ⟨h1,h2,.inr ⟨g,0,rfl,hok,h.lt,fun i x hx=>⟨_,⟨rfl,h.elem hx⟩,fun j c hc=>?_⟩⟩⟩
  obtain ⟨e0,e1,e2⟩:=h.get hx
  simp only [G6,Nat.zero_add]
  match j,hc with
  |0,hc=>simp at hc;rw [←hc];exact e0
  |1,hc=>simp at hc;rw [←hc];exact e1
  |2,hc=>simp at hc;rw [←hc];exact e2
  |j+3,hc=>simp at hc
theorem A7c (xs:List C1) (junk:List Value) {k:Nat} (hk:k≤xs.length):(J7 xs++junk).take (k * 3)=J7 (xs.take k):=by
 rw [List.take_append_of_le_length (by rw [A09];omega)]
 have e:J7 xs=J7 (xs.take k)++J7 (xs.drop k):=by
  unfold J7;rw [←List.flatMap_append,List.take_append_drop]
 rw [e,List.take_append_of_le_length (by rw [A09];simp;omega),List.take_of_length_le (by rw [A09];simp;omega)]
theorem A2e {P:Program} {w:World} {t e g n k:Nat} {zs:List C1} {junk:List Value} (ht:P.underlying t=some (.slice e)) {i:TypeInfo} {z:Value} (hi:P.info? e=some i) (hz:i.zero=some z) (hzs:z.cells.size=3) (h1:∀ v∈z.cells,v.oneCell'=true)
  (h:RR w g e zs junk) (hn:zs.length=n) (hk:k<n):∃ w',(∀ ty c,(Builtin.clear_ #[t] ty #[.slice (some ⟨g,k * 3,none⟩) (n - k) c]).run P w=.ok (.tuple #[]) w')∧(∃ junk',RR w' g e (zs.take k) junk')∧H9 g w w':=by
 have hl:(Builtin.zeroCells z.cells (n - k)).toList.length=(n - k) * 3:=by rw [Array.length_toList,size_zeroCells,hzs]
 have hone:∀ v∈(Builtin.zeroCells z.cells (n - k)).toList,v.oneCell'=true:=by
  intro v hv
  unfold Builtin.zeroCells at hv
  rw [Array.toList_map] at hv
  obtain ⟨j,hj,rfl⟩:=List.mem_map.1 hv
  have hjm:j % z.cells.size<z.cells.size:=Nat.mod_lt _ (by omega)
  rw [getElem!_pos z.cells _ hjm]
  exact h1 _ (Array.getElem_mem hjm)
 have hst:=run_storeCells_at (P:=P) g (k * 3) e (Builtin.zeroCells z.cells (n - k)).toList 0 (J7 zs++junk).toArray w h.blk (by rw [hl];simp [A09];omega) hone
 obtain ⟨cs',hcs,hw⟩:∃ cs':List Value,(storeCells ⟨g,k * 3,none⟩ (Builtin.zeroCells z.cells (n - k)).toList 0).run P w=.ok () (w.setRow g cs'.toArray)∧∃ junk',cs'=J7 (zs.take k)++junk':=
  ⟨_,hst,_,by rw [show (J7 zs++junk).toArray.toList=J7 zs++junk from rfl,Nat.add_zero,A7c zs junk (by omega),List.append_assoc]⟩
 obtain ⟨junk',rfl⟩:=hw
 refine ⟨w.setRow g (J7 (zs.take k)++junk').toArray,fun ty c=>?_,⟨junk',?_,fun r hr=>h.rng r (List.mem_of_mem_take hr)⟩,?_⟩
 ·obtain ⟨m,hm⟩:∃ m,n - k=m+1:=⟨n - k - 1,by omega⟩
  rw [hm] at hcs ⊢
  simp [Builtin.clear_,run_underlying ht,zeroValue,typeInfo,hi,hz,hcs]
 ·exact setRow_heap w g _ _ e (0,0) h.blk
 ·exact ⟨rfl,rfl,rfl,by simp,fun b hb hne=>setRow_other w g b _ (fun e=>hne (by rw [e]))⟩
section
variable {P : Program} {w : World}
theorem A6t (t ty e:TypeId) (i:TypeInfo) (size:Nat) (ht:P.underlying t=some (.slice e)) (hi:P.info? e=some i)
  (hsize:i.size=size) (hsz:0<size) (base:Nat)
  (ao:Option Addr) (n cap:Nat) (xs:List Value) (hown:A1b e size base w ao n cap xs)
  (ax:Option Addr) (m c:Nat) (news:List Value) (hl:news.length=m * size) (hnews:m=0∨∃ ad,ax=some ad∧∀ j u,news[j]? =some u→w.cell? (ad.add j)=some u) (h1:∀ u∈news,u.oneCell'=true)
  (hroom:n+m≤cap):
  ∃ w',(Builtin.append_ #[t,t] ty #[.slice ao n cap,.slice ax m c]).run P w=.ok (.slice ao (n+m) cap) w'∧A1b e size base w' ao (n+m) cap (xs++news)∧w.grownBy w' (blk ao):=by
 subst hsize
 have hlen:(xs++news).length=(n+m) * i.size:=by rw [List.length_append,hown.1,hl,Nat.add_mul]
 by_cases hm:m=0
 ·subst hm
  have hn:news=[]:=List.eq_nil_of_length_eq_zero (by simpa using hl)
  subst hn
  have hnc:=hown.2.1
  refine ⟨w,?_,by simpa using hown,⟨rfl,rfl,rfl,Nat.le_refl _,fun _ _ _=>rfl⟩⟩
  cases ao<;>cases ax<;>simp [Builtin.append_,run_underlying ht,sizeOf,typeInfo,hi,Builtin.lenOf,Builtin.firstCells,loadCells,loadCellsFrom,hnc,storeCells]
 obtain ⟨a,rfl,hnew'⟩:=hnews.resolve_left hm
 clear hnews
 obtain ⟨_,hnc,hcm,⟨rfl,rfl⟩|⟨g,cur,rfl,hbg,hg,hcs,htake⟩⟩:=hown
 ·omega
 ·have hfit:n * i.size+news.length≤cur.size:=by rw [hl,hcs,←Nat.add_mul];exact Nat.mul_le_mul_right _ hroom
  have hr:=run_append_room (P:=P) w t ty e i ht hi g n cap cur hg a m c news hl hnew' h1 hroom hfit
  refine ⟨_,hr,⟨hlen,hroom,hcm,.inr ⟨g,_,rfl,hbg,setRow_heap w g cur _ e _ hg,?_,?_⟩⟩,⟨rfl,rfl,rfl,by simp,fun k _ hk=>setRow_other w g k _ (fun e=>hk (by simp [blk,e]))⟩⟩
  ·simp only [List.size_toArray,List.length_append,List.length_take,List.length_drop,Array.length_toList]
   omega
  ·rw [htake,←hlen]
   exact List.take_left
theorem A2c {α:Type} {sh:D1 α} (t ty e:TypeId) (i:TypeInfo) (ht:P.underlying t=some (.slice e)) (hi:P.info? e=some i)
  (hsize:i.size=sh.size) (hsz:0<sh.size) {ok:Nat→Prop} {base:Nat}
  {ao:Option Addr} {n cap:Nat} {xs:List α} (hown:C7 sh e ok base w ao n cap xs)
  {ax:Option Addr} {m c:Nat} {ys:List α} (hm:ys.length=m) (hsrc:D7 sh ok w ax ys) (hroom:n+m≤cap):
  ∃ w',(Builtin.append_ #[t,t] ty #[.slice ao n cap,.slice ax m c]).run P w=.ok (.slice ao (n+m) cap) w'∧C7 sh e ok base w' ao (n+m) cap (xs++ys)∧w.grownBy w' (blk ao):=by
 obtain ⟨cells,h1,h2,h3,h4,h5⟩:=hown
 have hnews:∃ news:List Value,news.length=m * sh.size∧(∀ i x,ys[i]? =some x→sh.rep ok w (I3 sh.size news i) x)∧(m=0∨∃ ad,ax=some ad∧∀ j u,news[j]? =some u→w.cell? (ad.add j)=some u)∧∀ u∈news,u.oneCell'=true:=by
  rcases hsrc with rfl|⟨b,off,rfl,he⟩
  ·exact ⟨[],by simp at hm;subst hm;simp,by simp,.inl hm.symm,by simp⟩
  ·obtain ⟨news,n1,n2,n3,n4⟩:=he.cells
   refine ⟨news,by rw [n1,hm],n2,.inr ⟨_,rfl,fun j u hu=>?_⟩,n4⟩
   rw [Addr.add_lit]
   exact n3 j u hu
 obtain ⟨news,n1,n2,n3,n4⟩:=hnews
 obtain ⟨w',hr,ho,hg⟩:=A6t (P:=P) t ty e i sh.size ht hi hsize hsz base ao n cap cells h1 ax m c news n1 n3 n4 hroom
 have hkeep:∀ b,ok b→w'.heap[b]? =w.heap[b]? :=fun b hb=>hg.block b (h5 b hb) (fun e=>h4 b e.symm hb)
 refine ⟨w',hr,⟨_,ho,by rw [List.length_append,←h2,hm],?_,h4,fun b hb=>Nat.lt_of_lt_of_le (h5 b hb) hg.size⟩,hg⟩
 ·intro i x hx
  by_cases hi:i<xs.length
  ·rw [List.getElem?_append_left hi] at hx
   rw [A21 h1.1 (by omega)]
   exact sh.mono (h3 i x hx) fun b _ hb=>⟨hb,hkeep b hb⟩
  ·rw [List.getElem?_append_right (by omega)] at hx
   have:=X8 (size:=sh.size) (xs:=cells) (ys:=news) (i - xs.length) h1.1
   rw [show n+(i - xs.length)=i by omega] at this
   rw [this]
   exact sh.mono (n2 _ x hx) fun b _ hb=>⟨hb,hkeep b hb⟩
theorem A0x {α:Type} {sh:D1 α} {ops:Array Oper} {rest:List Oper} {o:Oper} {a:Act} {Q:Exit→Act→World→Prop} (hgd:o.guard=none) (s x:Operand) (t:TypeId)
  (ho:o.op=.call {callee:=.builtin .append,args:=#[s,x],argTypes:=#[t,t]})
  (e:TypeId) (i:TypeInfo) (ht:P.underlying t=some (.slice e)) (hi:P.info? e=some i)
  (hsize:i.size=sh.size) (hsz:0<sh.size) {ok:Nat→Prop} {base:Nat}
  {ao:Option Addr} {n cap:Nat} {xs:List α} (hs:a.eval s=.slice ao n cap) (hown:C7 sh e ok base w ao n cap xs)
  {ax:Option Addr} {m c:Nat} {ys:List α} (hx:a.eval x=.slice ax m c) (hm:ys.length=m) (hsrc:D7 sh ok w ax ys) (hroom:n+m≤cap)
  (h:∀ w',C7 sh e ok base w' ao (n+m) cap (xs++ys)→w.grownBy w' (blk ao)→wpList P ops Q rest (a.put o.dst (.slice ao (n+m) cap)) w'):wpList P ops Q (o::rest) a w:=by
 obtain ⟨w',hr,h2,h3⟩:=A2c (P:=P) t o.type e i ht hi hsize hsz hown (c:=c) hm hsrc hroom
 exact Go.Lib.wpList_append_run w hgd s x t t ho _ _ hs hx _ _ hr (h w' h2 h3)
theorem C7.room {α:Type} {sh:D1 α} {e:TypeId} {ok:Nat→Prop} {base:Nat} {w:World} (cur:Array Value) (cap:Nat) (hb:base≤w.heap.size) (hm:cap≤maxLen) (hs:cur.size=cap * sh.size) (hk:∀ b,ok b→b<w.heap.size):
  C7 sh e ok base (w.alloc (.cells cur e)) (some ⟨w.heap.size,0,none⟩) 0 cap []:=
 ⟨[],⟨by simp,Nat.zero_le _,hm,.inr ⟨w.heap.size,cur,rfl,hb,heap_alloc_new w _,hs,by simp⟩⟩,rfl,by simp,fun k hk'=>by
  obtain rfl:w.heap.size=k:=by simpa [blk] using hk'
  exact fun h=>absurd (hk _ h) (by omega),fun b hb=>by have:=hk b hb;simp;omega⟩
end
end Go.St
