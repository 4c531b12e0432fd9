/- Texts of this proof, one behind the other. -/
import Derived.Deep.RegionLaw
import Derived.Test.YtampcbncgofkoaaGreatDoorPk3
set_option linter.unusedSimpArgs false
set_option linter.unusedVariables false
set_option maxRecDepth 100000
set_option maxHeartbeats 16000000
namespace Go.St
open Go.RowKit
def blk (ao:Option Addr):Option Nat:=ao.map (·.block)
def A1b (e:TypeId) (size base:Nat) (w:World) (ao:Option Addr) (n cap:Nat) (cells:List Value):Prop:=
 cells.length=n * size∧n≤cap∧cap≤maxLen∧
 ((ao=none∧cap=0)∨∃ g cur,ao=some ⟨g,0,none⟩∧base≤g∧w.heap[g]? =some (.cells cur e (0,0))∧cur.size=cap * size∧cur.toList.take (n * size)=cells)
theorem A1b.nil (e:TypeId) (size base:Nat) (w:World):A1b e size base w none 0 0 []:=⟨by simp,Nat.le_refl _,Nat.zero_le _,.inl ⟨rfl,rfl⟩⟩
theorem A1b.lt {e:TypeId} {size base:Nat} {w:World} {ao:Option Addr} {n cap:Nat} {cells:List Value} (h:A1b e size base w ao n cap cells):∀ k,blk ao=some k→base≤k∧k<w.heap.size:=by
 intro k hk
 obtain ⟨_,_,_,⟨rfl,_⟩|⟨g,cur,rfl,hb,hg,_⟩⟩:=h
 ·simp [blk] at hk
 ·simp [blk] at hk
  subst hk
  exact ⟨hb,(Array.getElem?_eq_some_iff.1 hg).1⟩
theorem A1b.keep {e:TypeId} {size base:Nat} {w w':World} {ao:Option Addr} {n cap:Nat} {cells:List Value} (h:A1b e size base w ao n cap cells)
  (hk:∀ k,blk ao=some k→w'.heap[k]? =w.heap[k]?):A1b e size base w' ao n cap cells:=by
 obtain ⟨h1,h2,h3,h4⟩:=h
 refine ⟨h1,h2,h3,h4.imp id ?_⟩
 rintro ⟨g,cur,rfl,hb,hg,r⟩
 exact ⟨g,cur,rfl,hb,(hk g rfl).trans hg,r⟩
theorem A1b.cell {e:TypeId} {size base:Nat} {w:World} {ao:Option Addr} {n cap:Nat} {cells:List Value} (h:A1b e size base w ao n cap cells)
  {g:Nat} (hg:ao=some ⟨g,0,none⟩):∀ j u,cells[j]? =some u→w.cell? ⟨g,j,none⟩=some u:=by
 intro j u hu
 obtain ⟨_,_,_,⟨rfl,_⟩|⟨g',cur,rfl,hb,hgg,hs,ht⟩⟩:=h
 ·cases hg
 ·obtain rfl:g'=g:=by simpa using hg
  rw [cell_of_row w g' j cur e (0,0) hgg]
  rw [←ht,List.getElem?_take] at hu
  split at hu
  ·simpa using hu
  ·cases hu
section
variable {P : Program} (w : World)
theorem B3z (t ty e:TypeId) (i:TypeInfo) (z:Value) (size bytes:Nat) (ht:P.underlying t=some (.slice e)) (hi:P.info? e=some i) (hz:i.zero=some z)
  (hsize:i.size=size) (hby:i.bytes=bytes) (hzs:z.cells.size=size) (hsz:0<size) (base:Nat)
  (ao:Option Addr) (n cap:Nat) (xs:List Value) (hown:A1b e size base w ao n cap xs)
  (ax:Option Addr) (m c:Nat) (news:List Value) (hl:news.length=m * size) (hnews:m=0∨∃ ad,ax=some ad∧∀ j u,news[j]? =some u→w.cell? (ad.add j)=some u) (h1:∀ u∈news,u.oneCell'=true)
  (h63:n+m≤maxLen) (hbytes:(n+m) * bytes≤140737488355328) (hbase:base≤w.heap.size):
  ∃ ao' cap' w',(Builtin.append_ #[t,t] ty #[.slice ao n cap,.slice ax m c]).run P w=.ok (.slice ao' (n+m) cap') w'∧A1b e size base w' ao' (n+m) cap' (xs++news)∧w.grownBy w' (blk ao)∧
   (blk ao'=blk ao∨blk ao'=some w.heap.size):=by
 subst hsize
 subst hby
 have hsmall:n+m≤9223372036854775807:=by simp only [maxLen] at h63;omega
 have hlen:(xs++news).length=(n+m) * i.size:=by rw [List.length_append,hown.1,hl,Nat.add_mul]
 have grown:∀ (old:Nat),old<n+m→∀ (row:Option Nat),
   A1b e i.size base (w.drew.alloc (.cells (xs.toArray++news.toArray++Builtin.zeroCells z.cells (grownCap w (n+m) old e - (n+m))) e))
    (some ⟨w.heap.size,0,none⟩) (n+m) (grownCap w (n+m) old e) (xs++news)∧
   w.grownBy (w.drew.alloc (.cells (xs.toArray++news.toArray++Builtin.zeroCells z.cells (grownCap w (n+m) old e - (n+m))) e)) row:=by
  intro old ho row
  have hge:=grownCap_ge w (n+m) old e
  have hcm:grownCap w (n+m) old e≤maxLen:=grownCap_le_maxLen w (n+m) old e h63
  refine ⟨⟨hlen,hge,hcm,.inr ⟨w.heap.size,_,rfl,hbase,heap_alloc_new w.drew _,?_,?_⟩⟩,⟨rfl,rfl,rfl,by simp,fun k hk _=>heap_alloc_old w.drew _ k hk⟩⟩
  ·simp only [Array.size_append,List.size_toArray,size_zeroCells,hzs,hown.1,hl,←Nat.add_mul]
   congr 1
   omega
  ·simp only [Array.toList_append,List.append_assoc]
   rw [←List.append_assoc,←hlen]
   exact List.take_left
 by_cases hm:m=0
 ·subst hm
  have hn:news=[]:=List.eq_nil_of_length_eq_zero (by simpa using hl)
  subst hn
  have hnc:=hown.2.1
  refine ⟨ao,cap,w,?_,by simpa using hown,⟨rfl,rfl,rfl,Nat.le_refl _,fun _ _ _=>rfl⟩,.inl rfl⟩
  cases ao<;>cases ax<;>simp [Builtin.append_,run_underlying ht,sizeOf,typeInfo,hi,Builtin.lenOf,Builtin.firstCells,loadCells,loadCellsFrom,hnc,storeCells]
 obtain ⟨a,rfl,hnew'⟩:=hnews.resolve_left hm
 clear hnews
 obtain ⟨_,hnc,hcm,⟨rfl,rfl⟩|⟨g,cur,rfl,hbg,hg,hcs,htake⟩⟩:=hown
 ·obtain rfl:n=0:=by omega
  have hx:xs=[]:=List.eq_nil_of_length_eq_zero (by simp only [List.length_append,hl] at hlen;simpa using hlen)
  subst hx
  have hr:=run_append_nil (P:=P) w t ty e i z ht hi hz a m c news hl hnew' (by omega) (by omega) (by have hb:=hbytes;simp only [Nat.zero_add] at hb;omega)
  have hgr:=grown 0 (by omega) (blk none)
  simp only [Nat.zero_add,List.nil_append,Array.empty_append] at hgr ⊢
  exact ⟨_,_,_,hr,hgr.1,hgr.2,.inr rfl⟩
 ·by_cases hroom:n+m≤cap
  ·have hfit:n * i.size+news.length≤cur.size:=by rw [hl,hcs,←Nat.add_mul];exact Nat.mul_le_mul_right _ hroom
   have hr:=run_append_room (P:=P) w t ty e i ht hi g n cap cur hg a m c news hl hnew' h1 hroom hfit
   refine ⟨_,_,_,hr,⟨hlen,hroom,hcm,.inr ⟨g,_,rfl,hbg,setRow_heap w g cur _ e _ hg,?_,?_⟩⟩,⟨rfl,rfl,rfl,by simp,fun k _ hk=>setRow_other w g k _ (fun e=>hk (by simp [blk,e]))⟩,.inl rfl⟩
   ·simp only [List.size_toArray,List.length_append,List.length_take,List.length_drop,Array.length_toList]
    omega
   ·rw [htake,←hlen]
    exact List.take_left
  ·have holds:∀ j u,xs[j]? =some u→w.cell? ((⟨g,0,none⟩:Addr).add j)=some u:=by
    intro j u hu
    have hadd:(⟨g,0,none⟩:Addr).add j=⟨g,j,none⟩:=by unfold Addr.add;split<;>simp_all
    rw [hadd,cell_of_row w g j cur e (0,0) hg]
    rw [←htake,List.getElem?_take] at hu
    split at hu
    ·simpa using hu
    ·cases hu
   have hr:=run_append_grow (P:=P) w t ty e i z ht hi hz ⟨g,0,none⟩ n cap xs (by simp only [List.length_append,hl,Nat.add_mul] at hlen;omega) holds a m c news hl hnew' (by omega) (by omega) (growslice_fits (by omega) hbytes)
   have hgr:=grown cap (by omega) (blk (some ⟨g,0,none⟩))
   exact ⟨_,_,_,hr,hgr.1,hgr.2,.inr rfl⟩
end
def I3 (size:Nat) (cells:List Value) (i:Nat):List Value:=(cells.drop (i * size)).take size
theorem A21 {size:Nat} {xs ys:List Value} {n i:Nat} (hx:xs.length=n * size) (hi:i<n):I3 size (xs++ys) i=I3 size xs i:=by
 have h:i * size+size≤n * size:=by rw [←Nat.succ_mul];exact Nat.mul_le_mul_right _ hi
 unfold I3
 rw [List.drop_append_of_le_length (by omega),List.take_append_of_le_length (by rw [List.length_drop];omega)]
theorem X8 {size:Nat} {xs ys:List Value} {n:Nat} (i:Nat) (hx:xs.length=n * size):I3 size (xs++ys) (n+i)=I3 size ys i:=by
 unfold I3
 rw [List.drop_append,List.drop_of_length_le (by rw [hx,Nat.add_mul];omega),List.nil_append,hx,Nat.add_mul,Nat.add_sub_cancel_left]
theorem Z2 {size:Nat} {xs:List Value} {i j:Nat} {u:Value} (h:(I3 size xs i)[j]? =some u):xs[i * size+j]? =some u:=by
 unfold I3 at h
 rw [List.getElem?_take] at h
 split at h
 ·rwa [List.getElem?_drop] at h
 ·cases h
def C7 {α:Type} (sh:D1 α) (e:TypeId) (ok:Nat→Prop) (base:Nat) (w:World) (ao:Option Addr) (n cap:Nat) (xs:List α):Prop:=
 ∃ cells,A1b e sh.size base w ao n cap cells∧n=xs.length∧(∀ i x,xs[i]? =some x→sh.rep ok w (I3 sh.size cells i) x)∧(∀ k,blk ao=some k→¬ok k)∧(∀ b,ok b→b<w.heap.size)
theorem C7.nil {α:Type} (sh:D1 α) (e:TypeId) (ok:Nat→Prop) (base:Nat) (w:World) (h:∀ b,ok b→b<w.heap.size):C7 sh e ok base w none 0 0 []:=
 ⟨[],A1b.nil _ _ _ _,rfl,by simp,by simp [blk],h⟩
theorem C7.nil' {α:Type} (sh:D1 α) (e:TypeId) (base:Nat) (w:World):C7 sh e (fun _=>False) base w none 0 0 []:=C7.nil _ _ _ _ _ (fun _ h=>h.elim)
theorem C7.lt {α:Type} {sh:D1 α} {e:TypeId} {ok:Nat→Prop} {base:Nat} {w:World} {ao:Option Addr} {n cap:Nat} {xs:List α} (h:C7 sh e ok base w ao n cap xs):∀ k,blk ao=some k→base≤k∧k<w.heap.size:=by
 obtain ⟨cells,h1,_⟩:=h
 exact h1.lt
theorem C7.keep {α:Type} {sh:D1 α} {e:TypeId} {ok:Nat→Prop} {base:Nat} {w w':World} {ao:Option Addr} {n cap:Nat} {xs:List α} (h:C7 sh e ok base w ao n cap xs)
  (hs:w.heap.size≤w'.heap.size) (hk:∀ k,(blk ao=some k∨ok k)→w'.heap[k]? =w.heap[k]?):C7 sh e ok base w' ao n cap xs:=by
 obtain ⟨cells,h1,h2,h3,h4,h5⟩:=h
 exact ⟨cells,h1.keep fun k hh=>hk k (.inl hh),h2,fun i x hx=>sh.mono (h3 i x hx) fun b hb ho=>⟨ho,hk b (.inr ho)⟩,h4,fun b hb=>Nat.lt_of_lt_of_le (h5 b hb) hs⟩
theorem C7.below {α:Type} {sh:D1 α} {e:TypeId} {ok:Nat→Prop} {base:Nat} {w w':World} {ao:Option Addr} {n cap:Nat} {xs:List α} (h:C7 sh e ok base w ao n cap xs)
  (hb:Below w.heap.size w w'):C7 sh e ok base w' ao n cap xs:=
 h.keep hb.size fun k hk=>hb.block k (by
  rcases hk with hk|hk
  ·exact (h.lt k hk).2
  ·obtain ⟨_,_,_,_,_,h5⟩:=h;exact h5 k hk)
theorem C7.weaken {α:Type} {sh:D1 α} {e:TypeId} {ok ok':Nat→Prop} {base:Nat} {w:World} {ao:Option Addr} {n cap:Nat} {xs:List α} (h:C7 sh e ok base w ao n cap xs)
  (hk:∀ b,ok b→ok' b) (ho:∀ k,blk ao=some k→¬ok' k) (hb:∀ b,ok' b→b<w.heap.size):C7 sh e ok' base w ao n cap xs:=by
 obtain ⟨cells,h1,h2,h3,h4,h5⟩:=h
 exact ⟨cells,h1,h2,fun i x hx=>sh.mono (h3 i x hx) fun b _ hh=>⟨hk b hh,rfl⟩,ho,hb⟩
theorem C7.base {α:Type} {sh:D1 α} {e:TypeId} {ok:Nat→Prop} {base base':Nat} {w:World} {ao:Option Addr} {n cap:Nat} {xs:List α} (h:C7 sh e ok base w ao n cap xs) (hb:base'≤base):C7 sh e ok base' w ao n cap xs:=by
 obtain ⟨cells,⟨h1,h2,h3,h4⟩,r⟩:=h
 refine ⟨cells,⟨h1,h2,h3,h4.imp id ?_⟩,r⟩
 rintro ⟨g,cur,e,hg,r⟩
 exact ⟨g,cur,e,Nat.le_trans hb hg,r⟩
theorem C7.row {α:Type} {sh:D1 α} {e:TypeId} {ok ok':Nat→Prop} {base:Nat} {w:World} {ao:Option Addr} {n cap:Nat} {xs:List α} (h:C7 sh e ok base w ao n cap xs)
  (hk:∀ b,ok b→ok' b) (ho:∀ k,blk ao=some k→ok' k):A8 sh ok' w ao cap xs:=by
 obtain ⟨cells,h1,rfl,h3,h4,h5⟩:=h
 refine ⟨h1.2.1,h1.2.2.1,?_⟩
 obtain ⟨hc,hle,hm,⟨rfl,h0⟩|⟨g,cur,rfl,hb,hg,r⟩⟩:=id h1
 ·left
  exact List.eq_nil_of_length_eq_zero (by omega)
 ·right
  refine ⟨g,0,rfl,ho g rfl,(h1.lt g rfl).2,fun i x hx=>⟨_,sh.mono (h3 i x hx) fun b _ hh=>⟨hk b hh,rfl⟩,fun j c hj=>?_⟩⟩
  rw [Nat.zero_add]
  exact h1.cell rfl _ _ (Z2 hj)
def D7 {α:Type} (sh:D1 α) (ok:Nat→Prop) (w:World) (ax:Option Addr) (ys:List α):Prop:=
 ys=[]∨∃ b off,ax=some ⟨b,off,none⟩∧V6 sh ok w b off ys
theorem A8.src {α:Type} {sh:D1 α} {ok:Nat→Prop} {w:World} {ao:Option Addr} {cap:Nat} {xs:List α} (h:A8 sh ok w ao cap xs):D7 sh ok w ao xs:=by
 obtain ⟨_,_,h|⟨b,off,rfl,_,_,he⟩⟩:=h
 ·exact .inl h
 ·exact .inr ⟨b,off,rfl,he⟩
theorem V6.cells {α:Type} {sh:D1 α} {ok:Nat→Prop} {w:World} {b:Nat} {ys:List α}:∀ {off:Nat},V6 sh ok w b off ys→
    ∃ news:List Value,news.length=ys.length * sh.size∧(∀ i x,ys[i]? =some x→sh.rep ok w (I3 sh.size news i) x)∧(∀ j u,news[j]? =some u→w.cell? ⟨b,off+j,none⟩=some u)∧∀ u∈news,u.oneCell'=true:=by
  induction ys with
  |nil=>exact fun _=>⟨[],by simp⟩
  |cons y ys ih=>
    intro off h
    obtain ⟨cs,hr,hc⟩:=h 0 y rfl
    have hl:=sh.len hr
    have h':V6 sh ok w b (off+sh.size) ys:=by
      intro i x hx
      obtain ⟨ds,h1,h2⟩:=h (i+1) x (by simpa using hx)
      refine ⟨ds,h1,fun j c hj=>?_⟩
      have:=h2 j c hj
      rwa [show off+(i+1) * sh.size+j=off+sh.size+i * sh.size+j by rw [Nat.add_mul,Nat.one_mul];omega] at this
    obtain ⟨news,n1,n2,n3,n4⟩:=ih h'
    refine ⟨cs++news,?_,?_,?_,?_⟩
    · rw [List.length_append,hl,n1,List.length_cons,Nat.succ_mul];omega
    · intro i x hx
      cases i with
      |zero=>
        obtain rfl:y=x:=by simpa using hx
        have hq:I3 sh.size (cs++news) 0=cs:=by
          unfold I3
          rw [Nat.zero_mul,List.drop_zero,List.take_append_of_le_length (by omega),List.take_of_length_le (by omega)]
        rw [hq]
        exact hr
      |succ i=>
        have:=X8 (size:=sh.size) (xs:=cs) (ys:=news) (n:=1) i (by omega)
        rw [show i+1=1+i by omega,this]
        exact n2 i x (by simpa using hx)
    · intro j u hu
      by_cases hj:j<cs.length
      · rw [List.getElem?_append_left hj] at hu
        have:=hc j u hu
        simpa using this
      · rw [List.getElem?_append_right (by omega)] at hu
        have:=n3 _ u hu
        rwa [show off+sh.size+(j - cs.length)=off+j by omega] at this
    · intro u hu
      rcases List.mem_append.1 hu with hu|hu
      · exact sh.one hr u hu
      · exact n4 u hu
theorem D7.lit {α:Type} {sh:D1 α} {ok:Nat→Prop} {w:World} {cs:List Value} {e:TypeId} {ys:List α} (h:∀ i x,ys[i]? =some x→sh.rep ok (w.alloc (.cells cs.toArray e)) (I3 sh.size cs i) x):
  D7 sh ok (w.alloc (.cells cs.toArray e)) (some ⟨w.heap.size,0,none⟩) ys:=by
 right
 refine ⟨w.heap.size,0,rfl,fun i x hx=>⟨_,h i x hx,fun j c hj=>?_⟩⟩
 rw [Nat.zero_add,cell_of_row (w.alloc (.cells cs.toArray e)) w.heap.size _ cs.toArray e (0,0) (heap_alloc_new w _)]
 simpa using Z2 hj
theorem C7.alloc {α:Type} {sh:D1 α} {e:TypeId} {ok:Nat→Prop} {base:Nat} {w:World} {ao:Option Addr} {n cap:Nat} {xs:List α} (h:C7 sh e ok base w ao n cap xs) (o:Obj):
  C7 sh e ok base (w.alloc o) ao n cap xs:=h.below ((Below.refl _ _).alloc (Nat.le_refl _) o)
theorem C7.len_eq {α:Type} {sh:D1 α} {e:TypeId} {ok:Nat→Prop} {base:Nat} {w:World} {ao:Option Addr} {n cap:Nat} {xs:List α} (h:C7 sh e ok base w ao n cap xs):n=xs.length:=by
 obtain ⟨_,_,h2,_⟩:=h;exact h2
theorem C7.lit {α:Type} {sh:D1 α} {e:TypeId} {ok:Nat→Prop} {base:Nat} {w:World} {cs:List Value} {xs:List α} {n:Nat} (hn:xs.length=n) (hcs:cs.length=n * sh.size) (hb:base≤w.heap.size) (hm:n≤maxLen)
  (h:∀ i x,xs[i]? =some x→sh.rep ok (w.alloc (.cells cs.toArray e)) (I3 sh.size cs i) x) (hk:∀ b,ok b→b<w.heap.size):
  C7 sh e ok base (w.alloc (.cells cs.toArray e)) (some ⟨w.heap.size,0,none⟩) n n xs:=by
 refine ⟨cs,⟨hcs,Nat.le_refl _,hm,.inr ⟨w.heap.size,cs.toArray,rfl,hb,heap_alloc_new w _,by simpa using hcs,?_⟩⟩,hn.symm,h,fun k hk'=>?_,fun b hb=>?_⟩
 ·rw [←hcs];simp
 ·obtain rfl:w.heap.size=k:=by simpa [blk] using hk'
  exact fun h=>absurd (hk _ h) (by omega)
 ·have:=hk b hb;simp;omega
theorem B13 {cs:List Value} {i:Nat} {v:Value} (h:cs[i]? =some v):I3 1 cs i=[v]:=by
 unfold I3
 obtain ⟨hlt,rfl⟩:=List.getElem?_eq_some_iff.1 h
 rw [Nat.mul_one,List.drop_eq_getElem_cons hlt]
 rfl
theorem A4v {ok:Nat→Prop} {w:World} {xs:List Int} (h:∀ x∈xs,I64 x):∀ i x,xs[i]? =some x→C2.rep ok w (I3 C2.size (xs.map (Value.int .i64)) i) x:=by
 intro i x hx
 show I3 1 _ i=_∧_
 rw [B13 (v:=.int .i64 x) (by rw [List.getElem?_map,hx];rfl)]
 exact ⟨rfl,h x (List.mem_of_getElem? hx)⟩
theorem D7.ints {e:TypeId} {w:World} (xs:List Int) {b:Nat} (hb:w.heap.size=b) (h:∀ x∈xs,I64 x) {ok:Nat→Prop}:
  D7 C2 ok (w.alloc (.cells (xs.map (Value.int .i64)).toArray e)) (some ⟨b,0,none⟩) xs:=hb▸D7.lit (A4v h)
theorem B27 {ok:Nat→Prop} {w:World} {r:C1} (h1:I64 r.ver) (h2:I64 r.flow) (h3:I64 r.next):∀ i x,[r][i]? =some x→G6.rep ok w (I3 G6.size [.int .i64 r.ver,.int .i64 r.flow,.int .i64 r.next] i) x:=by
  intro i x hx
  cases i with
  |zero=>
    obtain rfl:r=x:=by simpa using hx
    exact ⟨rfl,h1,h2,h3⟩
  |succ i=>simp at hx
theorem D7.rule {e:TypeId} {w:World} (r:C1) {b:Nat} (hb:w.heap.size=b) (h1:I64 r.ver) (h2:I64 r.flow) (h3:I64 r.next) {ok:Nat→Prop}:
  D7 G6 ok (w.alloc (.cells #[.int .i64 r.ver,.int .i64 r.flow,.int .i64 r.next] e)) (some ⟨b,0,none⟩) [r]:=hb▸D7.lit (cs:=[.int .i64 r.ver,.int .i64 r.flow,.int .i64 r.next]) (B27 h1 h2 h3)
theorem C7.ints {e:TypeId} {base:Nat} {w:World} (xs:List Int) (h:∀ x∈xs,I64 x) (hb:base≤w.heap.size) (hm:xs.length≤maxLen):
  C7 C2 e (fun _=>False) base (w.alloc (.cells (xs.map (Value.int .i64)).toArray e)) (some ⟨w.heap.size,0,none⟩) xs.length xs.length xs:=
 C7.lit rfl (by simp [C2]) hb hm (A4v h) (fun _ h=>h.elim)
theorem D6 {B:Nat} {w w':World} {row:Option Nat} (hg:w.grownBy w' row) (hB:∀ k,row=some k→B≤k) (hs:B≤w.heap.size):Below B w w':=
 (Below.refl B w).grown hg hs hB
section
variable {P : Program} {w : World}
theorem B33 {α:Type} {sh:D1 α} (t ty e:TypeId) (i:TypeInfo) (z:Value) (bytes:Nat) (ht:P.underlying t=some (.slice e)) (hi:P.info? e=some i) (hz:i.zero=some z)
  (hsize:i.size=sh.size) (hby:i.bytes=bytes) (hzs:z.cells.size=sh.size) (hsz:0<sh.size) {ok:Nat→Prop} {base:Nat}
  {ao:Option Addr} {n cap:Nat} {xs:List α} (hown:C7 sh e ok base w ao n cap xs)
  {ax:Option Addr} {m c:Nat} {ys:List α} (hm:ys.length=m) (hsrc:D7 sh ok w ax ys)
  (h63:n+m≤maxLen) (hbytes:(n+m) * bytes≤140737488355328) (hbase:base≤w.heap.size):
  ∃ ao' cap' w',(Builtin.append_ #[t,t] ty #[.slice ao n cap,.slice ax m c]).run P w=.ok (.slice ao' (n+m) cap') w'∧C7 sh e ok base w' ao' (n+m) cap' (xs++ys)∧w.grownBy w' (blk ao)∧
   (blk ao'=blk ao∨blk ao'=some w.heap.size):=by
 obtain ⟨cells,h1,h2,h3,h4,h5⟩:=hown
 have hnews:∃ news:List Value,news.length=m * sh.size∧(∀ i x,ys[i]? =some x→sh.rep ok w (I3 sh.size news i) x)∧(m=0∨∃ ad,ax=some ad∧∀ j u,news[j]? =some u→w.cell? (ad.add j)=some u)∧∀ u∈news,u.oneCell'=true:=by
  rcases hsrc with rfl|⟨b,off,rfl,he⟩
  ·exact ⟨[],by simp at hm;subst hm;simp,by simp,.inl hm.symm,by simp⟩
  ·obtain ⟨news,n1,n2,n3,n4⟩:=he.cells
   refine ⟨news,by rw [n1,hm],n2,.inr ⟨_,rfl,fun j u hu=>?_⟩,n4⟩
   rw [Addr.add_lit]
   exact n3 j u hu
 obtain ⟨news,n1,n2,n3,n4⟩:=hnews
 obtain ⟨ao',cap',w',hr,ho,hg,hd⟩:=B3z (P:=P) w t ty e i z sh.size bytes ht hi hz hsize hby hzs hsz base ao n cap cells h1 ax m c news n1 n3 n4 h63 hbytes hbase
 have hkeep:∀ b,ok b→w'.heap[b]? =w.heap[b]? :=fun b hb=>hg.block b (h5 b hb) (fun e=>h4 b e.symm hb)
 refine ⟨ao',cap',w',hr,⟨_,ho,by rw [List.length_append,←h2,hm],?_,?_,fun b hb=>Nat.lt_of_lt_of_le (h5 b hb) hg.size⟩,hg,hd⟩
 ·intro i x hx
  by_cases hi:i<xs.length
  ·rw [List.getElem?_append_left hi] at hx
   rw [A21 h1.1 (by omega)]
   exact sh.mono (h3 i x hx) fun b _ hb=>⟨hb,hkeep b hb⟩
  ·rw [List.getElem?_append_right (by omega)] at hx
   have:=X8 (size:=sh.size) (xs:=cells) (ys:=news) (i - xs.length) h1.1
   rw [show n+(i - xs.length)=i by omega] at this
   rw [this]
   exact sh.mono (n2 _ x hx) fun b _ hb=>⟨hb,hkeep b hb⟩
 ·intro k hk hb
  rcases hd with hd|hd
  ·exact h4 k (hd▸hk) hb
  ·rw [hd] at hk
   obtain rfl:w.heap.size=k:=by simpa using hk
   exact absurd (h5 _ hb) (by omega)
theorem Q3 {α:Type} {sh:D1 α} {o:Oper} {a:Act} {K:Act→World→Prop} {Q:Exit→Act→World→Prop} (s x:Operand) (t:TypeId)
  (ho:o.op=.call {callee:=.builtin .append,args:=#[s,x],argTypes:=#[t,t]})
  (e:TypeId) (i:TypeInfo) (z:Value) (bytes:Nat) (ht:P.underlying t=some (.slice e)) (hi:P.info? e=some i) (hz:i.zero=some z)
  (hsize:i.size=sh.size) (hby:i.bytes=bytes) (hzs:z.cells.size=sh.size) (hsz:0<sh.size) {ok:Nat→Prop} {base:Nat}
  {ao:Option Addr} {n cap:Nat} {xs:List α} (hs:a.eval s=.slice ao n cap) (hown:C7 sh e ok base w ao n cap xs)
  {ax:Option Addr} {m c:Nat} {ys:List α} (hx:a.eval x=.slice ax m c) (hm:ys.length=m) (hsrc:D7 sh ok w ax ys)
  (h63:n+m≤maxLen) (hbytes:(n+m) * bytes≤140737488355328) (hbase:base≤w.heap.size)
  (h:∀ ao' cap' w',C7 sh e ok base w' ao' (n+m) cap' (xs++ys)→w.grownBy w' (blk ao)→(blk ao'=blk ao∨blk ao'=some w.heap.size)→K (a.put o.dst (.slice ao' (n+m) cap')) w'):o.wp P a w K Q:=by
 obtain ⟨ao',cap',w',hr,h2,h3,h4⟩:=B33 (P:=P) t o.type e i z bytes ht hi hz hsize hby hzs hsz hown (c:=c) hm hsrc h63 hbytes hbase
 unfold Oper.wp execOp
 simp only [ho,resolve,invoke,builtin,Sem.run_bind,Sem.run_pure,Result.andThen_ok,List.map_toArray,List.map_cons,List.map_nil,hs,hx,hr]
 exact h ao' cap' w' h2 h3 h4
theorem H4 {α:Type} {sh:D1 α} {ops:Array Oper} {rest:List Oper} {o:Oper} {a:Act} {Q:Exit→Act→World→Prop} (hgd:o.guard=none) (s x:Operand) (t:TypeId)
  (ho:o.op=.call {callee:=.builtin .append,args:=#[s,x],argTypes:=#[t,t]})
  (e:TypeId) (i:TypeInfo) (z:Value) (bytes:Nat) (ht:P.underlying t=some (.slice e)) (hi:P.info? e=some i) (hz:i.zero=some z)
  (hsize:i.size=sh.size) (hby:i.bytes=bytes) (hzs:z.cells.size=sh.size) (hsz:0<sh.size) {ok:Nat→Prop} {base:Nat}
  {ao:Option Addr} {n cap:Nat} {xs:List α} (hs:a.eval s=.slice ao n cap) (hown:C7 sh e ok base w ao n cap xs)
  {ax:Option Addr} {m c:Nat} {ys:List α} (hx:a.eval x=.slice ax m c) (hm:ys.length=m) (hsrc:D7 sh ok w ax ys)
  (h63:n+m≤maxLen) (hbytes:(n+m) * bytes≤140737488355328) (hbase:base≤w.heap.size)
  (h:∀ ao' cap' w',C7 sh e ok base w' ao' (n+m) cap' (xs++ys)→w.grownBy w' (blk ao)→(blk ao'=blk ao∨blk ao'=some w.heap.size)→wpList P ops Q rest (a.put o.dst (.slice ao' (n+m) cap')) w'):wpList P ops Q (o::rest) a w:=
 wpList_plain hgd fun _ hK=>Q3 s x t ho e i z bytes ht hi hz hsize hby hzs hsz hs hown hx hm hsrc h63 hbytes hbase fun ao' cap' w' h2 h3 h4=>hK _ _ (h ao' cap' w' h2 h3 h4)
end
end Go.St
