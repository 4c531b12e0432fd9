/- Texts of this proof, one behind the other. -/
import Derived.ChangeKeysEq
import Derived.Test.YtampcbncgofkoaaPk7
import Derived.Laws.Cover3
import Derived.Test.YtampcbncgofkoaaPk18
import Derived.Test.YtampcbncgofkoaaPk19
set_option linter.unusedSimpArgs false
set_option linter.unusedVariables false
set_option maxRecDepth 100000
set_option maxHeartbeats 16000000
namespace Go.Proofs.Ytampcbncgofkoaa
open Go.RowKit Go.St
def R5 {α:Type} [DecidableEq α] (a b:List α) (j:Nat):Bool:=a.drop j==b.drop j
theorem A4a {α:Type} [DecidableEq α] (a b:List α):(a==b)=R5 a b 0:=rfl
theorem A6u {α:Type} [DecidableEq α] {a b:List α} {j:Nat} (h1:j<a.length) (h2:j<b.length) (hi:(a==b)=R5 a b j) (hne:a[j]≠b[j]):(a==b)=false:=by
 rw [hi,R5,W3 h1,W3 h2,beq_eq_false_iff_ne]
 intro e
 exact hne (List.cons.inj e).1
theorem A5a {α:Type} [DecidableEq α] {a b:List α} {j:Nat} (h1:j<a.length) (h2:j<b.length) (hi:(a==b)=R5 a b j) (he:a[j]=b[j]):(a==b)=R5 a b (j+1):=by
 rw [hi,R5,W3 h1,W3 h2,R5,he,Bool.eq_iff_iff,beq_iff_eq,beq_iff_eq]
 exact ⟨fun e=>(List.cons.inj e).2,fun e=>by rw [e]⟩
theorem A6n {α:Type} [DecidableEq α] {a b:List α} {j:Nat} (h1:j=a.length) (h2:j=b.length) (hi:(a==b)=R5 a b j):true=(a==b):=by
 rw [hi,R5,h1,List.drop_length,←h1,h2,List.drop_length];rfl
theorem A6a {α:Type} [DecidableEq α] {a b:List α} (h:a.length≠b.length):(a==b)=false:=by
 rw [beq_eq_false_iff_ne]
 rintro rfl
 exact h rfl
theorem B1y (xs ys:List Int) (ok ok':Nat→Prop) (ax ay:Option Addr) (cx cy:Nat) (w:World) (hx:A8 C2 ok w ax cx xs) (hy:A8 C2 ok' w ay cy ys):
  Calls Try.prog 14 #[.slice ax xs.length cx,.slice ay ys.length cy] w fun e w'=>e=.returned (.bool (xs==ys))∧Below w.heap.size w w':=by
 by_cases hl:xs.length=ys.length
 case neg=>
  rw [A6a hl]
  have hl':((xs.length:Int)==(ys.length:Int))=false:=by rw [beq_eq_false_iff_ne];omega
  clear hl
  go_enter Try.func14,Try.ntmps14
  go_wp2
  go_ret;exact ⟨rfl,by (repeat' (first|with_reducible (first|exact Below.refl _ _|assumption|refine Below.drew ?_|refine A3 ?_ _|refine Below.alloc ?_ ?_ _|refine Below.setCell ?_ ?_ _)|omega|(simp;done)|(simp;omega)))⟩
 have hl':((xs.length:Int)==(ys.length:Int))=true:=by rw [beq_iff_eq];omega
 have hlx:=hx.len_le
 have HL:=Lib.hid hl
 clear hl
 go_enter Try.func14,Try.ntmps14
 go_wp2
 go_loopw [13] (fun i wr=>∃ j:Nat,j≤xs.length∧i=.int .i64 j∧Hid ((xs==ys)=R5 xs ys j)∧Below w.heap.size w wr) (fun i _=>xs.length - (intOf i).toNat)
 case atStart=>exact ⟨0,Nat.zero_le _,rfl,A4a _ _,Below.refl _ _⟩
 case round=>
  obtain ⟨j,hj,rfl,hall,hb⟩:=hrel
  by_cases hlt:j<xs.length
  ·have hlt2:j<ys.length:=by have:=HL.out;omega
   obtain ⟨b,off,rfl,_,hbl,cs,hcs,hce⟩:=hx.get (List.getElem?_eq_getElem hlt)
   obtain ⟨rfl,hi1⟩:=hcs
   have e0:=B8 hb hbl (hce 0 _ rfl)
   clear hce
   obtain ⟨b',off',rfl,_,hbl',cs',hcs',hce'⟩:=hy.get (List.getElem?_eq_getElem hlt2)
   obtain ⟨rfl,hi2⟩:=hcs'
   have e1:=B8 hb hbl' (hce' 0 _ rfl)
   clear hce'
   simp only [C2,Nat.add_zero,Nat.mul_one] at e0 e1
   have b0:(0:Int)≤(j:Int):=by omega
   have b1:(j:Int)<(xs.length:Int):=by omega
   have b2:(j:Int)<(ys.length:Int):=by omega
   go_wp2
   go_quiet (fail)
   go_wp2
   case roundEnd=>
    go_roundw
    case rel=>exact ⟨j+1,by omega,by go_num,A5a hlt hlt2 hall.out (by (try simp only [beq_iff_eq,beq_eq_false_iff_ne,bne_iff_ne,bne_eq_false_iff_eq,ne_eq,Bool.not_eq_true',Bool.not_eq_false',decide_eq_true_eq,decide_eq_false_iff_not] at *);assumption),by (repeat' (first|with_reducible (first|exact Below.refl _ _|assumption|refine Below.drew ?_|refine A3 ?_ _|refine Below.alloc ?_ ?_ _|refine Below.setCell ?_ ?_ _)|omega|(simp;done)|(simp;omega)))⟩
    case measure=>simp [intOf];omega
   all_goals (go_ret;exact ⟨C13 (A6u hlt hlt2 hall.out (by (try simp only [beq_iff_eq,beq_eq_false_iff_ne,bne_iff_ne,bne_eq_false_iff_eq,ne_eq,Bool.not_eq_true',Bool.not_eq_false',decide_eq_true_eq,decide_eq_false_iff_not] at *);assumption)).symm,by (repeat' (first|with_reducible (first|exact Below.refl _ _|assumption|refine Below.drew ?_|refine A3 ?_ _|refine Below.alloc ?_ ?_ _|refine Below.setCell ?_ ?_ _)|omega|(simp;done)|(simp;omega)))⟩)
  ·go_wp2
   go_ret;exact ⟨C13 (A6n (by omega) (by have:=HL.out;omega) hall.out),by (repeat' (first|with_reducible (first|exact Below.refl _ _|assumption|refine Below.drew ?_|refine A3 ?_ _|refine Below.alloc ?_ ?_ _|refine Below.setCell ?_ ?_ _)|omega|(simp;done)|(simp;omega)))⟩
open Go.RowKit Go.St
def A3l (p:Int × Int):Value:=.agg #[.int .i64 p.1,.int .i64 p.2]
theorem Z7:A0l Try.prog 97 A3l:=by
  have hp:Try.prog.plainKey 3=true:=by kernel_rfl
  have hc:Try.prog.cellsOf 3=1:=by kernel_rfl
  obtain ⟨i0,hi,hi1⟩:∃ i,Try.prog.info? 3=some i∧i.size=1:=by
    have h:(Try.prog.info? 3).map (·.size)=some 1:=by kernel_rfl
    cases hh:Try.prog.info? 3 with
    |none=>rw [hh] at h;cases h
    |some i=>rw [hh] at h;exact ⟨i,rfl,by simpa using h⟩
  refine A0l.asking (by simp [Try.underlying97]) ?_ ?_ ?_
  · intro e k w
    have p0:=run_part_plain (P:=Try.prog) (w:=w) hp (xs:=#[.int .i64 k.1,.int .i64 k.2]) (off:=0) (v:=.int .i64 k.1) rfl
    have p1:=run_part_plain (P:=Try.prog) (w:=w) hp (xs:=#[.int .i64 k.1,.int .i64 k.2]) (off:=1) (v:=.int .i64 k.2) rfl
    have hk:∀ z:Int,(Instr.checkKey e 9999 3 (.int .i64 z)).run Try.prog w=.ok () w:=fun z=>by
      rw [Instr.checkKey];simp [run_underlying Try.underlying3]
    rw [Instr.checkKey]
    simp only [Sem.run_bind,run_underlying Try.underlying97,Result.andThen_ok,A3l]
    simp only [Std.Legacy.Range.forIn_eq_forIn_range',Std.Legacy.Range.size,Nat.sub_zero,Nat.add_one_sub_one,Nat.div_one]
    simp [List.range',run_sizeOf w hi,hi1,hc,p0,p1,hk]
  · intro a b w
    rw [Op.equal,show Op.maxDepth=9999+1 from rfl,A3l,A3l,run_equalIn_array (w:=w) 9999 _ _ Try.underlying97 hi]
    have a0:=fun w:World=>run_part_plain (P:=Try.prog) (w:=w) hp (xs:=#[.int .i64 a.1,.int .i64 a.2]) (off:=0) (v:=.int .i64 a.1) rfl
    have a1:=fun w:World=>run_part_plain (P:=Try.prog) (w:=w) hp (xs:=#[.int .i64 a.1,.int .i64 a.2]) (off:=1) (v:=.int .i64 a.2) rfl
    have b0:=fun w:World=>run_part_plain (P:=Try.prog) (w:=w) hp (xs:=#[.int .i64 b.1,.int .i64 b.2]) (off:=0) (v:=.int .i64 b.1) rfl
    have b1:=fun w:World=>run_part_plain (P:=Try.prog) (w:=w) hp (xs:=#[.int .i64 b.1,.int .i64 b.2]) (off:=1) (v:=.int .i64 b.2) rfl
    have hq:=fun (w:World) (x y:Int)=>run_equalIn_int (P:=Try.prog) w 9998 3 .i64 .i64 x y Try.underlying3
    rw [hc,show List.range 2=[0,1] from rfl]
    obtain ⟨x,y⟩:=a
    obtain ⟨z,u⟩:=b
    dsimp only at a0 a1 b0 b1 ⊢
    simp [Op.eqItems,a0,a1,b0,b1,hq]
    by_cases h1:x=z<;>by_cases h2:y=u<;>simp [h1,h2]
  · intro k
    simp [A3l,Instr.sameBits]
open Go.RowKit Go.St
theorem B3l (x y:C1) (w:World):(binOp .neq 95 (.agg #[.int .i64 x.ver,.int .i64 x.flow,.int .i64 x.next]) (.agg #[.int .i64 y.ver,.int .i64 y.flow,.int .i64 y.next])).run Try.prog w=.ok (.bool (!decide (x=y))) w:=by
 obtain ⟨a,b,c⟩:=x
 obtain ⟨d,e,f⟩:=y
 rw [run_neq_struct,run_equalIn_agg _ _ _ _ _ (by kernel_rfl) (by kernel_rfl)]
 by_cases h1:a=d<;>by_cases h2:b=e<;>by_cases h3:c=f<;>simp [go_sem,h1,h2,h3,C1.mk.injEq]
end Go.Proofs.Ytampcbncgofkoaa
namespace Go.St
theorem V8 {a:Option Addr} {n m c:Nat} (h:n=m):Ending.returned (.slice a n c)=.returned (.slice a m c):=by rw [h]
theorem RR.drewN {w:World} {g:Nat} {t:TypeId} {xs:List C1} {junk:List Value} (h:RR w g t xs junk) (n:Nat):RR (w.drewN n) g t xs junk:=⟨h.blk.drewN n,h.rng⟩
theorem H9.drewN {g:Nat} {a b:World} (h:H9 g a b) (n:Nat):H9 g a (b.drewN n):=⟨h.os,h.tape,h.output,h.size,h.block⟩
def Cmp (xs:List C1) (m kk:Nat) (zs:List C1):Prop:=zs.take kk=O6 (xs.take m)∧kk<m∧1≤kk∧zs.length=xs.length∧∀ i,kk≤i→zs[i]? =xs[i]?
theorem A3f:∀ (l:List C1) (p q r:C1),(p::l).getLast? =some q→Q9 p (l++[r])=if r=q then Q9 p l else Q9 p l++[r]
 |[],p,q,r,h=>by
  obtain rfl:p=q:=by simpa using h
  simp only [List.nil_append,Q9]
 |x::l,p,q,r,h=>by
  have h':(x::l).getLast? =some q:=by rw [List.getLast?_cons_cons] at h;exact h
  have ih:=A3f l x q r h'
  simp only [List.cons_append,Q9]
  rw [ih]
  by_cases e1:x=p<;>by_cases e2:r=q<;>simp [e1,e2]
theorem B19 (l:List C1) (q r:C1) (h:l.getLast? =some q):O6 (l++[r])=if r=q then O6 l else O6 l++[r]:=by
  cases l with
  |nil=>simp at h
  |cons p l=>
    show p::Q9 p (l++[r])=_
    rw [A3f l p q r h]
    split<;>rfl
theorem A15 {xs:List C1} {m:Nat} {q r:C1} (hm:1≤m) (hq:xs[m - 1]? =some q) (hr:xs[m]? =some r):O6 (xs.take (m+1))=if r=q then O6 (xs.take m) else O6 (xs.take m)++[r]:=by
 have hl:=(List.getElem?_eq_some_iff.1 hr).1
 rw [List.take_add_one,hr]
 refine B19 _ q r ?_
 rw [List.getLast?_eq_getElem?,List.length_take,show min m xs.length - 1=m - 1 by omega,List.getElem?_take,if_pos (by omega),hq]
theorem B3i (xs:List C1):O6 (xs.take 1)=xs.take 1:=by
 cases xs<;>rfl
theorem B1r {xs:List C1} {k:Nat} {q r:C1} (h:O6 (xs.take k)=xs.take k) (hk:1≤k) (hq:xs[k - 1]? =some q) (hr:xs[k]? =some r) (hne:r≠q):O6 (xs.take (k+1))=xs.take (k+1):=by
 rw [A15 hk hq hr,if_neg hne,h,List.take_add_one,hr];rfl
theorem Cmp.start {xs:List C1} {k:Nat} {q:C1} (h:O6 (xs.take k)=xs.take k) (hk:1≤k) (hq:xs[k - 1]? =some q) (hr:xs[k]? =some q):Cmp xs (k+1) k xs:=
 ⟨by rw [A15 hk hq hr,if_pos rfl,h],by omega,hk,rfl,fun _ _=>rfl⟩
theorem Cmp.skip {xs zs:List C1} {m kk:Nat} {q:C1} (h:Cmp xs m kk zs) (hq:xs[m - 1]? =some q) (hr:xs[m]? =some q):Cmp xs (m+1) kk zs:=by
 obtain ⟨h1,h2,h3,h4,h5⟩:=h
 exact ⟨by rw [A15 (by omega) hq hr,if_pos rfl,h1],by omega,h3,h4,h5⟩
theorem Cmp.keep {xs zs:List C1} {m kk:Nat} {q r:C1} (h:Cmp xs m kk zs) (hq:xs[m - 1]? =some q) (hr:xs[m]? =some r) (hne:r≠q):Cmp xs (m+1) (kk+1) (zs.set kk r):=by
 obtain ⟨h1,h2,h3,h4,h5⟩:=h
 have hm:=(List.getElem?_eq_some_iff.1 hr).1
 refine ⟨?_,by omega,by omega,by simpa using h4,fun i hi=>?_⟩
 ·rw [A15 (by omega) hq hr,if_neg hne,List.take_add_one,List.getElem?_set_self (by omega),List.take_set_of_le (Nat.le_refl _),h1];rfl
 ·rw [List.getElem?_set_ne (by omega)];exact h5 i (by omega)
theorem Cmp.done {xs zs:List C1} {m kk:Nat} (h:Cmp xs m kk zs) (hm:xs.length≤m):zs.take kk=O6 xs∧(O6 xs).length=min kk zs.length:=by
 have h1:=h.1
 rw [List.take_of_length_le hm] at h1
 exact ⟨h1,by rw [←h1];simp⟩
theorem A9r (xs:List C1) (h:xs.length<2):O6 xs=xs:=by
 match xs,h with
 |[],_=>rfl
 |[x],_=>rfl
end Go.St
namespace Go.Proofs.Ytampcbncgofkoaa
open Go.RowKit Go.St
theorem W7:(Try.prog.info? 95).map (fun i=>(i.zero,i.size,i.bytes))=some (some (.agg #[.int .i64 0,.int .i64 0,.int .i64 0]),3,24):=by kernel_rfl
theorem B3k (x y:C1) (w:World):(binOp .eql 95 (.agg #[.int .i64 x.ver,.int .i64 x.flow,.int .i64 x.next]) (.agg #[.int .i64 y.ver,.int .i64 y.flow,.int .i64 y.next])).run Try.prog w=.ok (.bool (decide (x=y))) w:=by
 obtain ⟨a,b,c⟩:=x
 obtain ⟨d,e,f⟩:=y
 rw [run_eql_struct,run_equalIn_agg _ _ _ _ _ (by kernel_rfl) (by kernel_rfl)]
 by_cases h1:a=d<;>by_cases h2:b=e<;>by_cases h3:c=f<;>simp [go_sem,h1,h2,h3,C1.mk.injEq]
theorem B1c (n:Nat) (hn:0<n) (hbig:n * 24≤281474976710656) (w:World):
  Calls Try.prog 76 #[.slice none 0 0,.int .i64 n] w fun e w'=>∃ cap,e=.returned (.slice (some ⟨w.heap.size,0,none⟩) 0 cap)∧n≤cap∧(∀ ok:Nat→Prop,(∀ b,ok b→b<w.heap.size)→C7 G6 95 ok w.heap.size w' (some ⟨w.heap.size,0,none⟩) 0 cap [])∧Below w.heap.size w w':=by
 obtain ⟨i0,hi,hz0,hz1,hz2⟩:=info_parts W7
 have hrz:∀ ty,(Builtin.append_ #[73,3] ty #[.slice none 0 0,.int .i64 n]).run Try.prog w=
   .ok (.slice (some ⟨w.heap.size,0,none⟩) n (grownCap w n 0 95)) (w.drew.alloc (.cells ((#[]:Array Value)++Builtin.zeroCells #[.int .i64 0,.int .i64 0,.int .i64 0] n++Builtin.zeroCells #[.int .i64 0,.int .i64 0,.int .i64 0] (grownCap w n 0 95 - n)) 95)):=fun ty=>by
  have h:=Lib.run_append_grow_zeros (P:=Try.prog) w 73 3 ty 95 i0 _ .i64 .i64 Try.underlying73 Try.underlying3 hi hz0 none 0 0 [] (run_firstCells_none w.drew i0.size 0 0 0) n hn (by omega) (by omega) (by omega) (by rw [hz2];exact hbig) (by rw [Nat.zero_add,nextslicecap_zero hn,hz2];exact hbig)
  rw [Nat.zero_add] at h
  exact h
 have hge:=grownCap_ge w n 0 95
 have hcm:grownCap w n 0 95≤maxLen:=grownCap_le_maxLen w n 0 _ (by simp only [maxLen];omega)
 have hc63:grownCap w n 0 95≤9223372036854775807:=by simp only [maxLen] at hcm;omega
 generalize grownCap w n 0 95=cap at *
 have b1:¬((n:Int)<0):=by omega
 have b2:(n:Int)>0:=by omega
 have b3:IntKind.i64.wrap (n:Int)=n:=IntWalk.i64_in _ (by omega)
 go_enter Try.func76,Try.ntmps76
 go_wp2_with (at_builtin;go_must (refine Lib.wpList_append_run _ rfl _ _ _ _ rfl _ _ rfl rfl _ _ (hrz _) ?_))
 go_ret;exact ⟨cap,rfl,hge,fun ok hok=>C7.room _ cap (by simp) hcm (by simp [size_zeroCells,G6];omega) (by simpa using hok),by (repeat' (first|with_reducible (first|exact Below.refl _ _|assumption|refine Below.drew ?_|refine A3 ?_ _|refine Below.alloc ?_ ?_ _|refine Below.setCell ?_ ?_ _)|omega|(simp;done)|(simp;omega)))⟩
theorem A8y (w:World):
  Calls Try.prog 76 #[.slice none 0 0,.int .i64 0] w fun e w'=>e=.returned (.slice none 0 0)∧w'=w:=by
 go_enter Try.func76,Try.ntmps76
 go_wp2
 go_ret;exact ⟨rfl,rfl⟩
def B5z (n1 n2:Nat) (i s:Nat):Prop:=(i=0∧s=0)∨(i=1∧s=n1)∨(i=2∧s=n1+n2)
theorem B2g (xs ys:List C1) (ok ok':Nat→Prop) (ax ay:Option Addr) (cx cy b:Nat) (w:World) (hx:A8 G6 ok w ax cx xs) (hy:A8 G6 ok' w ay cy ys)
  (c0:w.cell? ⟨b,0,none⟩=some (.slice ax xs.length cx)) (c1:w.cell? ⟨b,1,none⟩=some (.slice ay ys.length cy)) (hbig:xs.length * 24≤140737488355328) (hbig2:ys.length * 24≤140737488355328):
  Calls Try.prog 64 #[.slice (some ⟨b,0,none⟩) 2 2] w fun e w'=>((xs++ys=[]∧e=.returned (.slice none 0 0))∨
   (∃ g cap junk,e=.returned (.slice (some ⟨g,0,none⟩) (xs++ys).length cap)∧(xs++ys).length≤cap∧cap≤maxLen∧w.heap.size≤g∧RR w' g 95 (xs++ys) junk))∧Below w.heap.size w w':=by
 obtain ⟨i0,hi,hz0,hz1,hz2⟩:=info_parts W7
 have hbl:b<w.heap.size:=by
  rcases Nat.lt_or_ge b w.heap.size with h|h
  ·exact h
  ·simp [World.cell?,Array.getElem?_eq_none h] at c0
 have hlz:(xs++ys).length=xs.length+ys.length:=List.length_append
 generalize hn1:xs.length=n1 at *
 generalize hn2:ys.length=n2 at *
 go_enter Try.func64,Try.ntmps64
 go_wp2
 go_loop [3,5,11] (fun ss _ ii=>∃ i s:Nat,ss=.int .i64 s∧ii=.int .i64 i∧B5z n1 n2 i s) (fun _ _ ii=>2 - (intOf ii).toNat)
 case atStart=>exact ⟨0,0,rfl,rfl,.inl ⟨rfl,rfl⟩⟩
 case round=>
  obtain ⟨i,s,rfl,rfl,(⟨rfl,rfl⟩|⟨rfl,rfl⟩|⟨rfl,rfl⟩)⟩:=hrel
  ·go_wp2
   go_round
   case rel=>exact ⟨1,n1,by go_num,by go_num,.inr (.inl ⟨rfl,rfl⟩)⟩
   case measure=>simp [intOf]
  ·have b1:¬((s:Int)+(n2:Int)<0):=by omega
   go_wp2
   go_round
   case rel=>exact ⟨2,s+n2,by go_num,by go_num,.inr (.inr ⟨rfl,rfl⟩)⟩
   case measure=>simp [intOf]
  by_cases hz:n1+n2=0
  ·obtain rfl:n1=0:=by omega
   obtain rfl:n2=0:=by omega
   obtain rfl:xs=[]:=List.eq_nil_of_length_eq_zero hn1
   obtain rfl:ys=[]:=List.eq_nil_of_length_eq_zero hn2
   go_wp2_with fail
   refine (A8y _).mono ?_
   rintro e w1 ⟨rfl,rfl⟩
   rename World=>w
   have hr0:∀ (ty:TypeId) (a:Option Addr) (c:Nat) (w:World),(Builtin.append_ #[73,73] ty #[.slice none 0 0,.slice a 0 c]).run Try.prog w=.ok (.slice none 0 0) w:=fun ty a c w=>by
    cases a<;>simp [Builtin.append_,run_underlying (P:=Try.prog) Try.underlying73,sizeOf,typeInfo,hi,Builtin.lenOf,Builtin.firstCells,loadCells,loadCellsFrom,storeCells]
   go_wp2
   go_loop [6,8,27] (fun ss _ ii=>∃ i:Nat,ss=.slice none 0 0∧ii=.int .i64 i∧i≤2) (fun _ _ ii=>2 - (intOf ii).toNat)
   case atStart=>exact ⟨0,rfl,rfl,by omega⟩
   case round=>
    obtain ⟨i,rfl,rfl,hi2⟩:=hrel
    rcases (show i=0∨i=1∨i=2 by omega) with rfl|rfl|rfl
    ·go_wp2_with (at_builtin;go_must (refine Lib.wpList_append_run _ rfl _ _ _ _ rfl _ _ rfl rfl _ _ (hr0 _ _ _ _) ?_))
     go_round
     case rel=>exact ⟨1,rfl,by go_num,by omega⟩
     case measure=>simp [intOf]
    ·go_wp2_with (at_builtin;go_must (refine Lib.wpList_append_run _ rfl _ _ _ _ rfl _ _ rfl rfl _ _ (hr0 _ _ _ _) ?_))
     go_round
     case rel=>exact ⟨2,rfl,by go_num,by omega⟩
     case measure=>simp [intOf]
    ·go_wp2
     go_ret;exact ⟨.inl rfl,by (repeat' (first|with_reducible (first|exact Below.refl _ _|assumption|refine Below.drew ?_|refine A3 ?_ _|refine Below.alloc ?_ ?_ _|refine Below.setCell ?_ ?_ _)|omega|(simp;done)|(simp;omega)))⟩
  have hgr:=B1c (n1+n2) (by omega) (by omega) w
  have HN1:=Lib.hid hn1
  have HN2:=Lib.hid hn2
  have HLZ:=Lib.hid hlz
  clear hn1 hn2 hz hlz
  rw [Int.natCast_add] at hgr
  go_wp2_with fail
  refine hgr.mono ?_
  rintro e w1 ⟨cap,rfl,hcap,hown,hb1⟩
  have hown1:=hown (fun k=>k<w.heap.size) (fun _ h=>h)
  have hx0:A8 G6 (fun k=>k<w.heap.size) w ax cx xs:=hx.mono fun b hb _=>⟨hb,rfl⟩
  have hy0:A8 G6 (fun k=>k<w.heap.size) w ay cy ys:=hy.mono fun b hb _=>⟨hb,rfl⟩
  clear hown hgr hx hy
  go_wp2
  go_loopw [6,8,27] (fun ss _ ii wr=>∃ (i s:Nat) (zs:List C1),ss=.slice (some ⟨w.heap.size,0,none⟩) s cap∧ii=.int .i64 i∧((i=0∧zs=[]∧s=0)∨(i=1∧zs=xs∧s=n1)∨(i=2∧zs=xs++ys∧s=n1+n2))∧C7 G6 95 (fun k=>k<w.heap.size) w.heap.size wr (some ⟨w.heap.size,0,none⟩) s cap zs∧Below w.heap.size w wr) (fun _ _ ii _=>2 - (intOf ii).toNat)
  case atStart=>exact ⟨0,0,[],rfl,rfl,.inl ⟨rfl,rfl,rfl⟩,hown1,hb1⟩
  case round=>
   clear hown1 hb1
   obtain ⟨i,s,zs,rfl,rfl,hI,hown,hb⟩:=hrel
   rename World=>wo
   have q0:=(B8 hb hbl c0)
   have q1:=(B8 hb hbl c1)
   have hxo:=hx0.below hb
   have hyo:=hy0.below hb
   have hz:=hb.size
   have HN1:=HN1.out
   have HN2:=HN2.out
   rcases hI with ⟨rfl,rfl,rfl⟩|⟨rfl,rfl,rfl⟩|⟨rfl,rfl,rfl⟩
   ·have H1:=Lib.hid HN1
    have H2:=Lib.hid HN2
    clear HN1 HN2 hyo
    go_wp2_with (at_builtin;go_must (refine A0x (sh:=G6) rfl _ _ 73 rfl 95 i0 Try.underlying73 hi hz1 (by decide) rfl hown rfl H1.out hxo.src (by omega) ?_);go_must (
     intro w2 hown1 hg1
     have hb2:=D6 (B:=w.heap.size) hg1 (fun k hk=>(hown.lt k hk).1) hz
     rw [List.nil_append,Nat.zero_add] at hown1))
    go_roundw
    case rel=>exact ⟨1,_,_,rfl,by go_num,.inr (.inl ⟨rfl,rfl,rfl⟩),hown1,hb.trans hb2⟩
    case measure=>simp [intOf]
   ·have H1:=Lib.hid HN1
    have H2:=Lib.hid HN2
    clear HN1 HN2 hxo
    go_wp2_with (at_builtin;go_must (refine A0x (sh:=G6) rfl _ _ 73 rfl 95 i0 Try.underlying73 hi hz1 (by decide) rfl hown rfl H2.out hyo.src (by omega) ?_);go_must (
     intro w2 hown1 hg1
     have hb2:=D6 (B:=w.heap.size) hg1 (fun k hk=>(hown.lt k hk).1) hz))
    go_roundw
    case rel=>exact ⟨2,_,_,rfl,by go_num,.inr (.inr ⟨rfl,rfl,rfl⟩),hown1,hb.trans hb2⟩
    case measure=>simp [intOf]
   ·have H1:=Lib.hid HN1
    have H2:=Lib.hid HN2
    clear HN1 HN2 hxo hyo
    go_wp2
    obtain ⟨junk,hRR,k1,k2,k3,k4⟩:=hown.rr
    go_ret;exact ⟨.inr ⟨w.heap.size,cap,junk,V8 k2,by omega,k4,k1,hRR⟩,by (repeat' (first|with_reducible (first|exact Below.refl _ _|assumption|refine Below.drew ?_|refine A3 ?_ _|refine Below.alloc ?_ ?_ _|refine Below.setCell ?_ ?_ _)|omega|(simp;done)|(simp;omega)))⟩
theorem B12 (g n cap:Nat) (xs:List C1) (junk:List Value) (w:World) (h:RR w g 95 xs junk) (hn:xs.length=n) (hnc:n≤cap) (hcm:cap≤maxLen) (hbig:n≤100000000000000):
  Calls Try.prog 67 #[.slice (some ⟨g,0,none⟩) n cap] w fun e w'=>e=.returned (.slice (some ⟨g,0,none⟩) (O6 xs).length cap)∧(O6 xs).length≤n∧(∃ junk',RR w' g 95 (O6 xs) junk')∧H9 g w w':=by
 obtain ⟨i0,hi,hz0,hz1,hz2⟩:=info_parts W7
 have hN0:Hid (H9 g w w):=H9.refl _ _
 have hc63:cap≤9223372036854775807:=by simp only [maxLen] at hcm;omega
 have q1:Try.prog.eqGuardType Try.prog.depth 95=false:=by kernel_rfl
 by_cases h2:n<2
 ·have HE:Hid (O6 xs=xs):=A9r xs (by omega)
  have HN:=Lib.hid hn
  have b1:(n:Int)<2:=by omega
  clear hn h2
  go_enter Try.func67,Try.ntmps67
  go_wp2
  go_ret;exact ⟨V8 (by rw [HE.out,HN.out]),by rw [HE.out,HN.out];exact Nat.le_refl _,⟨junk,by rw [HE.out];exact h⟩,hN0.out⟩
 have b1:¬(n:Int)<2:=by omega
 have hst:Hid (O6 (xs.take 1)=xs.take 1):=B3i xs
 have hxl:∀ k,k<n→∃ x,xs[k]? =some x:=fun k hk=>⟨_,List.getElem?_eq_getElem (by omega)⟩
 have HXL:=Lib.hid hxl
 have HN:=Lib.hid hn
 have HEN:Hid (O6 (xs.take n)=xs.take n→O6 xs=xs):=fun h=>by rw [List.take_of_length_le (by omega)] at h;exact h
 have HDN:Hid (∀ m kk zs,Cmp xs m kk zs→n≤m→zs.take kk=O6 xs∧(O6 xs).length=min kk zs.length):=fun m kk zs h1 h2=>h1.done (by omega)
 have HLN:Hid (∀ m kk zs,Cmp xs m kk zs→zs.length=n):=fun m kk zs h1=>by rw [h1.2.2.2.1,hn]
 clear hn hxl
 go_enter Try.func67,Try.ntmps67
 go_wp2
 go_loopw [3] (fun kk wr=>∃ k:Nat,kk=.int .i64 k∧1≤k∧k≤n∧Hid (O6 (xs.take k)=xs.take k)∧RR wr g 95 xs junk∧Hid (H9 g w wr)) (fun kk _=>n - (intOf kk).toNat)
 case atStart=>exact ⟨1,rfl,Nat.le_refl _,by omega,hst,h,hN0⟩
 case round=>
  clear hst h hN0
  obtain ⟨k,rfl,hk1,hkn,hS,hR,hN⟩:=hrel
  rename World=>wo
  by_cases hlt:k<n
  case neg=>
   obtain rfl:k=n:=by omega
   have HE:=Lib.hid (HEN.out hS.out)
   clear hS
   go_wp2
   go_ret;exact ⟨V8 (by rw [HE.out,HN.out]),by rw [HE.out,HN.out];exact Nat.le_refl _,⟨junk,by rw [HE.out];exact hR⟩,hN.out⟩
  obtain ⟨x,hx⟩:=HXL.out k hlt
  obtain ⟨y,hy⟩:=HXL.out (k - 1) (by omega)
  have b2:(k:Int)<(n:Int):=by omega
  have e1:(k:Int) - 1=((k - 1:Nat):Int):=by omega
  have b3:((k - 1:Nat):Int)<(n:Int):=by omega
  obtain ⟨x0,x1,x2⟩:=hR.get hx
  obtain ⟨y0,y1,y2⟩:=hR.get hy
  have hq:=B3k x y
  have HX:=Lib.hid hx
  have HY:=Lib.hid hy
  clear hx hy
  by_cases hxy:x=y
  ·subst hxy
   rw [decide_eq_true rfl] at hq
   have hC:=Lib.hid (Cmp.start hS.out hk1 HY.out HX.out)
   clear hS
   go_wp2
   go_quiet (fail)
   go_wp2
   clear x0 x1 x2 y0 y1 y2 hq
   go_loopw [3,5] (fun kk jj wr=>∃ (q j:Nat) (zs:List C1),kk=.int .i64 q∧jj=.int .i64 j∧1≤j∧k+j≤n∧q<k+j∧1≤q∧Hid (Cmp xs (k+j) q zs)∧RR wr g 95 zs junk∧Hid (H9 g w wr)) (fun _ jj _=>n - (intOf jj).toNat)
   case atStart=>exact ⟨k,1,xs,rfl,rfl,Nat.le_refl _,by omega,by omega,hk1,hC,hR.drewN _,hN.out.drewN _⟩
   case round=>
    clear hC hR hN
    obtain ⟨q,j,zs,rfl,rfl,hj1,hjn,hqj,hq1,hC,hR,hN⟩:=hrel
    rename World=>wi
    have hzl:=HLN.out _ _ _ hC.out
    by_cases hlt2:k+j<n
    case neg=>
     obtain ⟨g1,g2⟩:=HDN.out _ _ _ hC.out (by omega)
     obtain ⟨wc,hcl,⟨junk',hRc⟩,hNc⟩:=A2e (P:=Try.prog) (t:=73) (k:=q) (n:=n) Try.underlying73 hi hz0 rfl (by decide) hR hzl (by omega)
     have HG1:=Lib.hid g1
     have hlq:(O6 xs).length=q:=by rw [g2];omega
     have HLQ:=Lib.hid hlq
     have hjn':j=n - k:=by omega
     have b4:¬(j:Int)<((n - k:Nat):Int):=by omega
     have HNC:=Lib.hid hNc
     clear hC g1 g2 hlq hNc hzl
     go_wp2
     go_ret;exact ⟨V8 (by rw [HLQ.out]),by rw [HLQ.out];omega,⟨junk',by rw [←HG1.out];exact hRc⟩,hN.out.trans HNC.out⟩
    obtain ⟨r,hr⟩:=HXL.out (k+j) hlt2
    obtain ⟨p,hp⟩:=HXL.out (k+j - 1) (by omega)
    have hrz:zs[k+j]? =some r:=by rw [←hr];exact hC.out.2.2.2.2 _ (by omega)
    have hpz:zs[k+j - 1]? =some p:=by rw [←hp];exact hC.out.2.2.2.2 _ (by omega)
    obtain ⟨x0,x1,x2⟩:=hR.get hrz
    obtain ⟨y0,y1,y2⟩:=hR.get hpz
    have hri:=hR.elem hrz
    have e5:(k+j - 1) * 3=k * 3+(j - 1) * 3:=by omega
    have e6:(k+j) * 3=k * 3+j * 3:=by omega
    rw [e6] at x0 x1 x2
    rw [e5] at y0 y1 y2
    have b4:(j:Int)<((n - k:Nat):Int):=by omega
    have e7:(j:Int) - 1=((j - 1:Nat):Int):=by omega
    have b5:((j - 1:Nat):Int)<((n - k:Nat):Int):=by omega
    have b6:(q:Int)<(n:Int):=by omega
    have hfz:=hR.frz
    have hq:=B3l r p
    have HRX:=Lib.hid hr
    have HPX:=Lib.hid hp
    clear hr hp hrz hpz
    by_cases hrp:r=p
    ·subst hrp
     rw [decide_eq_true rfl] at hq
     have hC2:=Lib.hid (hC.out.skip HPX.out HRX.out)
     clear hC
     go_wp2
     go_quiet (fail)
     go_wp2
     case roundEnd=>
      go_roundw
      case rel=>exact ⟨q,j+1,zs,rfl,by go_num,by omega,by omega,by omega,hq1,hC2,hR.drewN _,hN.out.drewN _⟩
      case measure=>simp [intOf]<;>omega
    ·rw [decide_eq_false hrp] at hq
     have hC2:=Lib.hid (hC.out.keep HPX.out HRX.out hrp)
     obtain ⟨o,ho⟩:∃ o,zs[q]? =some o:=⟨_,List.getElem?_eq_getElem (by omega)⟩
     obtain ⟨o0,o1,o2⟩:=hR.get ho
     clear hC ho
     go_wp2
     go_quiet (fail)
     have hR2:=(hR.drewN nq).put (i:=q) (by omega) hri
     have hN2:=Lib.hid ((((hN.out.drewN nq).set (q * 3) (.int .i64 r.ver)).set (q * 3+1) (.int .i64 r.flow)).set (q * 3+2) (.int .i64 r.next))
     go_wp2
     case roundEnd=>
      go_roundw
      case rel=>exact ⟨q+1,j+1,_,by go_num,by go_num,by omega,by omega,by omega,by omega,hC2,hR2,hN2⟩
      case measure=>simp [intOf]<;>omega
  ·rw [decide_eq_false hxy] at hq
   have hS2:=Lib.hid (B1r hS.out hk1 HY.out HX.out hxy)
   clear hS
   go_wp2
   go_quiet (fail)
   go_wp2
   case roundEnd=>
    go_roundw
    case rel=>exact ⟨k+1,by go_num,by omega,by omega,hS2,hR.drewN _,hN.out.drewN _⟩
    case measure=>simp [intOf]<;>omega
theorem A6c (ao:Option Addr) (cap:Nat) (w:World):
  Calls Try.prog 67 #[.slice ao 0 cap] w fun e w'=>e=.returned (.slice ao 0 cap)∧w'=w:=by
 go_enter Try.func67,Try.ntmps67
 go_wp2
 go_ret;exact ⟨rfl,rfl⟩
end Go.Proofs.Ytampcbncgofkoaa
namespace Go.St
open Go.RowKit
theorem O7 {P:Program} (t e:TypeId) (h:P.underlying t=some (.slice e)) (w:World) (a:Option Addr) (l c:Nat):(binOp .eql t (.slice a l c) (.slice none 0 0)).run P w=.ok (.bool a.isNone) w:=by
 show ((do return .bool (←Op.equal t _ _)):Sem Value).run P w=_
 simp [run_equal_slice_nil w t e a l c h]
def A1r (x:Int) (l:List Int):Int:=match N8 x l with|none=>-1|some i=>i
theorem B09 {x:Int}:∀ {l:List Int} {j:Nat},x ∉ l.take j→l[j]? =some x→N8 x l=some j
 |[],j,_,h=>by simp at h
 |y::r,0,_,h=>by simp at h;simp [N8,h]
 |y::r,j+1,h0,h=>by
  simp only [List.take_succ_cons,List.mem_cons,not_or] at h0
  simp only [N8]
  rw [if_neg h0.1,B09 h0.2 (by simpa using h)]
  rfl
theorem B06 {x:Int}:∀ {l:List Int},x ∉ l→N8 x l=none
 |[],_=>rfl
 |y::r,h=>by
  simp only [List.mem_cons,not_or] at h
  simp only [N8]
  rw [if_neg h.1,B06 h.2]
  rfl
theorem A8o {x:Int} {l:List Int} {j:Nat} (h:x ∉ l.take j) (hj:j<l.length) (he:(x==l[j])=true):A1r x l=j:=by
 unfold A1r
 rw [B09 h (by rw [List.getElem?_eq_getElem hj];simpa using (beq_iff_eq.1 he).symm)]
theorem A3u {x:Int} {l:List Int} {j:Nat} (h:x ∉ l.take j) (hj:j<l.length) (he:(x==l[j])=false):x ∉ l.take (j+1):=by
 rw [List.take_succ_eq_append_getElem hj]
 intro hm
 rcases List.mem_append.1 hm with hm|hm
 ·exact h hm
 ·simp at hm;simp [hm] at he
theorem A85 {x:Int} {l:List Int} {j:Nat} (h:x ∉ l.take j) (hj:¬j<l.length):A1r x l=-1:=by
 rw [List.take_of_length_le (by omega)] at h
 unfold A1r
 rw [B06 h]
theorem B2l {x:Int} {l:List Int}:decide (A1r x l≥0)=decide (x∈l):=by
  unfold A1r
  cases h:N8 x l with
  |none=>simp [A0c h]
  |some i=>simp [List.mem_of_getElem? (S2 h)]
theorem A66 {x:Int} {l:List Int}:decide (0≤A1r x l)=decide (x∈l):=B2l
end Go.St
namespace Go.Proofs.Ytampcbncgofkoaa
open Go.RowKit Go.St
theorem P6:(Try.prog.info? 3).map (fun i=>(i.zero,i.size,i.bytes))=some (some (.int .i64 0),1,8):=by kernel_rfl
theorem A29 (l:List Int) (x:Int) (ok:Nat→Prop) (ax:Option Addr) (cx:Nat) (w:World) (hx:A8 C2 ok w ax cx l):
  Calls Try.prog 42 #[.slice ax l.length cx,.int .i64 x] w fun e w'=>e=.returned (.int .i64 (A1r x l))∧w'=w:=by
 have hlx:=hx.len_le
 go_enter Try.func42,Try.ntmps42
 go_wp2
 go_loop [5,8] (fun _ i=>∃ j:Nat,j≤l.length∧i=.int .i64 j∧Hid (x ∉ l.take j)) (fun _ i=>l.length - (intOf i).toNat)
 case atStart=>exact ⟨0,Nat.zero_le _,rfl,by show x ∉ _;simp⟩
 case round=>
  obtain ⟨j,hj,rfl,hall⟩:=hrel
  by_cases hlt:j<l.length
  ·obtain ⟨b,off,rfl,_,hbl,cs,hcs,hce⟩:=hx.get (List.getElem?_eq_getElem hlt)
   obtain ⟨rfl,hi1,hi2⟩:=hcs
   have e0:=hce 0 _ rfl
   clear hce
   simp only [C2,Nat.add_zero,Nat.mul_one] at e0
   have hgo:=A3u hall.out hlt
   have hhit:=A8o hall.out hlt
   generalize l[j]=y at *
   cases p1:(x==y)
   ·have HG:=Lib.hid (hgo p1)
    clear hgo hhit
    go_wp2
    go_round
    case rel=>exact ⟨j+1,by omega,by go_num,HG⟩
    case measure=>simp [intOf];omega
   ·have HH:=Lib.hid (hhit p1)
    clear hgo hhit
    go_wp2
    go_ret;exact ⟨I0 HH.out.symm,rfl⟩
  ·have HE:=Lib.hid (A85 hall.out hlt)
   go_wp2
   go_ret;exact ⟨I0 HE.out.symm,rfl⟩
theorem X3 (l:List Int) (x:Int) (ok:Nat→Prop) (ax:Option Addr) (cx:Nat) (w:World) (hx:A8 C2 ok w ax cx l):
  Calls Try.prog 31 #[.slice ax l.length cx,.int .i64 x] w fun e w'=>e=.returned (.bool (decide (x∈l)))∧w'=w:=by
 go_enter Try.func31,Try.ntmps31
 go_wp2_with fail
 refine (A29 l x ok ax cx w hx).mono ?_
 rintro e w' ⟨rfl,rfl⟩
 go_wp2
 go_ret;exact ⟨C13 A66,rfl⟩
theorem B21 (l:List Int) (ok:Nat→Prop) (ax:Option Addr) (cx:Nat) (w:World) (hx:A8 C2 ok w ax cx l) (hn:ax=none→cx=0) (hsm:l.length≤1000000):
  Calls Try.prog 22 #[.slice ax l.length cx] w fun e w'=>∃ ao cap,e=.returned (.slice ao l.length cap)∧A8 C2 (fun b=>w.heap.size≤b) w' ao cap l∧(ao=none↔ax=none)∧Below w.heap.size w w':=by
 obtain ⟨i0,hi,hz0,hz1,hz2⟩:=info_parts P6
 have hlx:=hx.len_le
 have hnil:=O7 (P:=Try.prog) 26 3 Try.underlying26
 cases ax with
 |none=>
  obtain rfl:l=[]:=by
   obtain ⟨_,_,h|⟨_,_,h,_⟩⟩:=hx
   ·exact h
   ·cases h
  obtain rfl:=hn rfl
  go_enter Try.func22,Try.ntmps22
  go_wp2
  go_ret;exact ⟨none,0,rfl,A8.nil _ _ _ _,by simp,by (repeat' (first|with_reducible (first|exact Below.refl _ _|assumption|refine Below.drew ?_|refine A3 ?_ _|refine Below.alloc ?_ ?_ _|refine Below.setCell ?_ ?_ _)|omega|(simp;done)|(simp;omega)))⟩
 |some a=>
  have hown:C7 C2 3 (fun _=>False) w.heap.size (w.alloc (.cells (([]:List Int).map (Value.int .i64)).toArray 3)) (some ⟨w.heap.size,0,none⟩) 0 0 []:=C7.lit rfl rfl (Nat.le_refl _) (by decide) (by simp) (fun _ h=>h.elim)
  have hlm:l.length≤9223372036854775807:=hlx
  go_enter Try.func22,Try.ntmps22
  go_wp2_with (at_builtin;go_must (refine H4 (sh:=C2) rfl _ _ 26 rfl 3 i0 (.int .i64 0) 8 Try.underlying26 hi hz0 hz1 hz2 rfl (by decide) rfl hown rfl rfl ((hx.below (by (repeat' (first|with_reducible (first|exact Below.refl _ _|assumption|refine Below.drew ?_|refine A3 ?_ _|refine Below.alloc ?_ ?_ _|refine Below.setCell ?_ ?_ _)|omega|(simp;done)|(simp;omega))))).src) (by simp only [maxLen];omega) (by omega) (by first|omega|(simp;done)|(simp;omega)) ?_);go_must (
   intro ao1 cap1 w2 hown1 hg1 hbk
   have hb2:=D6 (B:=w.heap.size) hg1 (fun k hk=>(hown.lt k hk).1) (by first|omega|(simp;done)|(simp;omega))
   rw [List.nil_append,Nat.zero_add] at hown1))
  have hrow:A8 C2 (fun b=>w.heap.size≤b) w2 ao1 cap1 l:=hown1.row (fun _ h=>h.elim) (fun k hk=>(hown1.lt k hk).1)
  have hne:ao1≠none:=by rintro rfl;simp [blk] at hbk
  go_ret;exact ⟨ao1,cap1,rfl,hrow,by simp [hne],Below.trans (by (repeat' (first|with_reducible (first|exact Below.refl _ _|assumption|refine Below.drew ?_|refine A3 ?_ _|refine Below.alloc ?_ ?_ _|refine Below.setCell ?_ ?_ _)|omega|(simp;done)|(simp;omega)))) hb2⟩
theorem B32 (l:List Int) (x:Int) (ok:Nat→Prop) (ax:Option Addr) (cx:Nat) (w:World) (hx:A8 C2 ok w ax cx l):
  Calls Try.prog 43 #[.slice ax l.length cx,.int .i64 x] w fun e w'=>e=.returned (.int .i64 (A1r x l))∧w'=w:=by
 have hlx:=hx.len_le
 go_enter Try.func43,Try.ntmps43
 go_wp2
 go_loop [5,8] (fun _ i=>∃ j:Nat,j≤l.length∧i=.int .i64 j∧Hid (x ∉ l.take j)) (fun _ i=>l.length - (intOf i).toNat)
 case atStart=>exact ⟨0,Nat.zero_le _,rfl,by show x ∉ _;simp⟩
 case round=>
  obtain ⟨j,hj,rfl,hall⟩:=hrel
  by_cases hlt:j<l.length
  ·obtain ⟨b,off,rfl,_,hbl,cs,hcs,hce⟩:=hx.get (List.getElem?_eq_getElem hlt)
   obtain ⟨rfl,hi1,hi2⟩:=hcs
   have e0:=hce 0 _ rfl
   clear hce
   simp only [C2,Nat.add_zero,Nat.mul_one] at e0
   have hgo:=A3u hall.out hlt
   have hhit:=A8o hall.out hlt
   generalize l[j]=y at *
   cases p1:(x==y)
   ·have HG:=Lib.hid (hgo p1)
    clear hgo hhit
    go_wp2
    go_round
    case rel=>exact ⟨j+1,by omega,by go_num,HG⟩
    case measure=>simp [intOf];omega
   ·have HH:=Lib.hid (hhit p1)
    clear hgo hhit
    go_wp2
    go_ret;exact ⟨I0 HH.out.symm,rfl⟩
  ·have HE:=Lib.hid (A85 hall.out hlt)
   go_wp2
   go_ret;exact ⟨I0 HE.out.symm,rfl⟩
theorem A39 (l:List Int) (x:Int) (ok:Nat→Prop) (ax:Option Addr) (cx:Nat) (w:World) (hx:A8 C2 ok w ax cx l):
  Calls Try.prog 26 #[.slice ax l.length cx,.int .i64 x] w fun e w'=>e=.returned (.bool (decide (x∈l)))∧w'=w:=by
 go_enter Try.func26,Try.ntmps26
 go_wp2_with fail
 refine (B32 l x ok ax cx w hx).mono ?_
 rintro e w' ⟨rfl,rfl⟩
 go_wp2
 go_ret;exact ⟨C13 A66,rfl⟩
theorem A7l (l:List Int) (ok:Nat→Prop) (ax:Option Addr) (cx:Nat) (w:World) (hx:A8 C2 ok w ax cx l) (hn:ax=none→cx=0) (hsm:l.length≤1000000):
  Calls Try.prog 41 #[.slice ax l.length cx] w fun e w'=>∃ ao cap,e=.returned (.slice ao l.length cap)∧A8 C2 (fun b=>w.heap.size≤b) w' ao cap l∧(ao=none↔ax=none)∧Below w.heap.size w w':=by
 obtain ⟨i0,hi,hz0,hz1,hz2⟩:=info_parts P6
 have hlx:=hx.len_le
 have hnil:=O7 (P:=Try.prog) 58 3 Try.underlying58
 cases ax with
 |none=>
  obtain rfl:l=[]:=by
   obtain ⟨_,_,h|⟨_,_,h,_⟩⟩:=hx
   ·exact h
   ·cases h
  obtain rfl:=hn rfl
  go_enter Try.func41,Try.ntmps41
  go_wp2
  go_ret;exact ⟨none,0,rfl,A8.nil _ _ _ _,by simp,by (repeat' (first|with_reducible (first|exact Below.refl _ _|assumption|refine Below.drew ?_|refine A3 ?_ _|refine Below.alloc ?_ ?_ _|refine Below.setCell ?_ ?_ _)|omega|(simp;done)|(simp;omega)))⟩
 |some a=>
  have hown:C7 C2 3 (fun _=>False) w.heap.size (w.alloc (.cells (([]:List Int).map (Value.int .i64)).toArray 3)) (some ⟨w.heap.size,0,none⟩) 0 0 []:=C7.lit rfl rfl (Nat.le_refl _) (by decide) (by simp) (fun _ h=>h.elim)
  have hlm:l.length≤9223372036854775807:=hlx
  go_enter Try.func41,Try.ntmps41
  go_wp2_with (at_builtin;go_must (refine H4 (sh:=C2) rfl _ _ 58 rfl 3 i0 (.int .i64 0) 8 Try.underlying58 hi hz0 hz1 hz2 rfl (by decide) rfl hown rfl rfl ((hx.below (by (repeat' (first|with_reducible (first|exact Below.refl _ _|assumption|refine Below.drew ?_|refine A3 ?_ _|refine Below.alloc ?_ ?_ _|refine Below.setCell ?_ ?_ _)|omega|(simp;done)|(simp;omega))))).src) (by simp only [maxLen];omega) (by omega) (by first|omega|(simp;done)|(simp;omega)) ?_);go_must (
   intro ao1 cap1 w2 hown1 hg1 hbk
   have hb2:=D6 (B:=w.heap.size) hg1 (fun k hk=>(hown.lt k hk).1) (by first|omega|(simp;done)|(simp;omega))
   rw [List.nil_append,Nat.zero_add] at hown1))
  have hrow:A8 C2 (fun b=>w.heap.size≤b) w2 ao1 cap1 l:=hown1.row (fun _ h=>h.elim) (fun k hk=>(hown1.lt k hk).1)
  have hne:ao1≠none:=by rintro rfl;simp [blk] at hbk
  go_ret;exact ⟨ao1,cap1,rfl,hrow,by simp [hne],Below.trans (by (repeat' (first|with_reducible (first|exact Below.refl _ _|assumption|refine Below.drew ?_|refine A3 ?_ _|refine Below.alloc ?_ ?_ _|refine Below.setCell ?_ ?_ _)|omega|(simp;done)|(simp;omega)))) hb2⟩
end Go.Proofs.Ytampcbncgofkoaa
namespace Go.St
theorem B57 {n src dst c:Int} {l:List Int} {j:Nat} (hj:j<l.length) (h:c=F1 n src dst (l.take j) (l.drop j)) (h1:¬(l[j]<0∨n≤l[j])) (h2:¬(l[j]=src∨l[j]=dst)) (h3:l[j] ∉ l.take j):
  c=F1 n src dst (l.take (j+1)) (l.drop (j+1)):=by
 rw [h,List.drop_eq_getElem_cons hj,F1,if_neg h1,if_neg h2,if_neg h3,List.take_succ_eq_append_getElem hj]
theorem B5s {n src dst c:Int} {l:List Int} {j:Nat} (hj:j<l.length) (h:c=F1 n src dst (l.take j) (l.drop j)) (h1:l[j]<0∨n≤l[j]):c=6:=by
 rw [h,List.drop_eq_getElem_cons hj,F1,if_pos h1]
theorem B5q {n src dst c:Int} {l:List Int} {j:Nat} (hj:j<l.length) (h:c=F1 n src dst (l.take j) (l.drop j)) (h1:¬(l[j]<0∨n≤l[j])) (h2:l[j]=src∨l[j]=dst):c=8:=by
 rw [h,List.drop_eq_getElem_cons hj,F1,if_neg h1,if_pos h2]
theorem B5m {n src dst c:Int} {l:List Int} {j:Nat} (hj:j<l.length) (h:c=F1 n src dst (l.take j) (l.drop j)) (h1:¬(l[j]<0∨n≤l[j])) (h2:¬(l[j]=src∨l[j]=dst)) (h3:l[j]∈l.take j):c=7:=by
 rw [h,List.drop_eq_getElem_cons hj,F1,if_neg h1,if_neg h2,if_pos h3]
theorem B46 {n src dst c:Int} {l:List Int} {j:Nat} (hj:¬j<l.length) (h:c=F1 n src dst (l.take j) (l.drop j)):c=0:=by
 rw [h,List.drop_of_length_le (by omega)];rfl
end Go.St
namespace Go.Proofs.Ytampcbncgofkoaa
open Go.RowKit Go.St
theorem A43 (l:List Int) (n src dst:Int) (ok:Nat→Prop) (ax:Option Addr) (cx b o:Nat) (w:World) (hx:A8 C2 ok w ax cx l) (f0:w.cell? ⟨b,o,none⟩=some (.int .i64 src)) (f1:w.cell? ⟨b,o+1,none⟩=some (.int .i64 dst)):
  Calls Try.prog 28 #[.slice ax l.length cx,.pointer (some ⟨b,o,none⟩),.int .i64 n] w fun e w'=>e=.returned (.int .i64 (F1 n src dst [] l))∧w'=w:=by
 have hlx:=hx.len_le
 have hcx:=hx.1
 have hst:Hid (F1 n src dst [] l=F1 n src dst (l.take 0) (l.drop 0)):=rfl
 generalize F1 n src dst [] l=c at *
 go_enter Try.func28,Try.ntmps28
 go_wp2
 go_loop [7,8,11] (fun _ _ i=>∃ j:Nat,j≤l.length∧i=.int .i64 j∧Hid (c=F1 n src dst (l.take j) (l.drop j))) (fun _ _ i=>l.length - (intOf i).toNat)
 case atStart=>exact ⟨0,Nat.zero_le _,rfl,hst⟩
 case round=>
  obtain ⟨j,hj,rfl,hall⟩:=hrel
  by_cases hlt:j<l.length
  ·obtain ⟨g,off,rfl,_,hbl,cs,hcs,hce⟩:=hx.get (List.getElem?_eq_getElem hlt)
   obtain ⟨rfl,_⟩:=hcs
   have e0:=hce 0 _ rfl
   clear hce
   simp only [C2,Nat.add_zero,Nat.mul_one] at e0
   have b0:(0:Int)≤(j:Int):=by omega
   have b1:(j:Int)<(l.length:Int):=by omega
   have b2:(j:Int)≤(cx:Int):=by omega
   have b3:((j:Int)).toNat=j:=by omega
   have hcon:Calls Try.prog 31 #[.slice (some ⟨g,off,none⟩) j cx,.int .i64 l[j]] w fun e w'=>e=.returned (.bool (decide (l[j]∈l.take j)))∧w'=w:=by
    have:=X3 (l.take j) l[j] ok _ cx w (hx.take j)
    rwa [List.length_take,Nat.min_eq_left hj] at this
   have g0:=B57 (c:=c) hlt hall.out
   have g1:=B5s (c:=c) hlt hall.out
   have g2:=B5q (c:=c) hlt hall.out
   have g3:=B5m (c:=c) hlt hall.out
   clear hall
   generalize l[j]=x at *
   by_cases p1:x<0
   ·have HH:=Lib.hid (g1 (.inl p1))
    clear g0 g1 g2 g3 hcon
    go_wp2
    go_ret;exact ⟨I0 HH.out.symm,rfl⟩
   by_cases p2:n≤x
   ·have HH:=Lib.hid (g1 (.inr p2))
    clear g0 g1 g2 g3 hcon
    go_wp2
    go_ret;exact ⟨I0 HH.out.symm,rfl⟩
   have p12:¬(x<0∨n≤x):=by omega
   cases p3:(x==src)
   case true=>
    have HH:=Lib.hid (g2 p12 (.inl (beq_iff_eq.1 p3)))
    clear g0 g1 g2 g3 hcon p12
    go_wp2
    go_ret;exact ⟨I0 HH.out.symm,rfl⟩
   cases p4:(x==dst)
   case true=>
    have HH:=Lib.hid (g2 p12 (.inr (beq_iff_eq.1 p4)))
    clear g0 g1 g2 g3 hcon p12
    go_wp2
    go_ret;exact ⟨I0 HH.out.symm,rfl⟩
   have p34:¬(x=src∨x=dst):=by
    rintro (h|h)
    ·exact (beq_eq_false_iff_ne.1 p3) h
    ·exact (beq_eq_false_iff_ne.1 p4) h
   by_cases p5:x∈l.take j
   ·have HH:=Lib.hid (g3 p12 p34 p5)
    have hd:decide (x∈l.take j)=true:=decide_eq_true p5
    rw [hd] at hcon
    clear g0 g1 g2 g3 p12 p34 p5 hd
    have HC:=Lib.hid hcon
    clear hcon
    go_wp2_with fail
    refine HC.out.mono ?_
    rintro e w1 ⟨rfl,rfl⟩
    go_wp2
    go_ret;exact ⟨I0 HH.out.symm,rfl⟩
   ·have HH:=Lib.hid (g0 p12 p34 p5)
    have hd:decide (x∈l.take j)=false:=decide_eq_false p5
    rw [hd] at hcon
    clear g0 g1 g2 g3 p12 p34 p5 hd
    have HC:=Lib.hid hcon
    clear hcon
    go_wp2_with fail
    refine HC.out.mono ?_
    rintro e w1 ⟨rfl,rfl⟩
    go_wp2
    go_round
    case rel=>exact ⟨j+1,by omega,by go_num,HH⟩
    case measure=>simp [intOf];omega
  ·have HE:=Lib.hid (B46 hlt hall.out)
   have b1:¬(j:Int)<(l.length:Int):=by omega
   clear hall
   go_wp2
   go_ret;exact ⟨I0 HE.out.symm,rfl⟩
end Go.Proofs.Ytampcbncgofkoaa
namespace Go.St
open Go.RowKit
theorem B5b {l no:List Int} {j:Nat} (hj:j<l.length) (h:∀ x∈l.take j,x ∉ no) (h1:l[j] ∉ no):∀ x∈l.take (j+1),x ∉ no:=by
 intro x hx
 rw [List.take_succ_eq_append_getElem hj] at hx
 rcases List.mem_append.1 hx with hx|hx
 ·exact h x hx
 ·simp at hx;exact hx▸h1
theorem B3y {l no:List Int} {j:Nat} (hj:j<l.length) (h1:l[j]∈no):l.any (fun s=>decide (s∈no))=true:=List.any_eq_true.2 ⟨l[j],List.getElem_mem hj,by simpa using h1⟩
theorem B4k {l no:List Int} {j:Nat} (hj:¬j<l.length) (h:∀ x∈l.take j,x ∉ no):l.any (fun s=>decide (s∈no))=false:=by
 rw [List.take_of_length_le (by omega)] at h
 rw [List.any_eq_false]
 intro x hx;simpa using h x hx
theorem M8 {P:Program} {f:FuncId} {args:Array Value} {w:World} {k n:Nat} {v:Value}
  (h:Calls P f args (w.drewN (k+n)) fun e w'=>e=.returned v∧w'=w.drewN (k+n)):Calls P f args (w.drewN (k+n)) fun e w''=>e=.returned v∧∃ m,w''=w.drewN (k+m):=
 h.mono fun _ _ ⟨he,hm⟩=>⟨he,n,hm⟩
theorem B4s {n:Int} {l:List E0} {c:Int × Int} {j:Nat} (hj:j<l.length) (h:c=Q0 n j (l.drop j)) (h1:M4 n l[j]=0):c=Q0 n ((j+1:Nat):Int) (l.drop (j+1)):=by
 rw [h,List.drop_eq_getElem_cons hj,Q0,if_pos h1];rfl
theorem B4d {n:Int} {l:List E0} {c:Int × Int} {j:Nat} (hj:j<l.length) (h:c=Q0 n j (l.drop j)) {e:Int} (h1:M4 n l[j]=e) (he:e≠0):c=(e,(j:Int)):=by
 rw [h,List.drop_eq_getElem_cons hj,Q0,h1,if_neg he]
theorem B48 {n:Int} {l:List E0} {c:Int × Int} {j:Nat} (hj:¬j<l.length) (h:c=Q0 n j (l.drop j)):c=(0,0):=by
 rw [h,List.drop_of_length_le (by omega)];rfl
end Go.St
namespace Go.Proofs.Ytampcbncgofkoaa
open Go.RowKit Go.St
theorem B2t (x:Int) (no:List Int) (ok:Nat→Prop) (na:Option Addr) (nc p b o:Nat) (w:World) (hp:w.cell? ⟨p,0,none⟩=some (.pointer (some ⟨b,o,none⟩))) (hf:w.cell? ⟨b,o+3,none⟩=some (.slice na no.length nc)) (hn:A8 C2 ok w na nc no):
  Calls Try.prog 30 #[.int .i64 x,.pointer (some ⟨p,0,none⟩)] w fun e w'=>e=.returned (.bool (decide (x∈no)))∧w'=w:=by
 go_enter Try.func30,Try.ntmps30
 go_wp2_with fail
 refine (X3 no x ok na nc w hn).mono ?_
 rintro e w' ⟨rfl,rfl⟩
 go_wp2
 go_ret;exact ⟨rfl,rfl⟩
theorem B0h (l no:List Int) (ok ok':Nat→Prop) (ax na:Option Addr) (cx nc p b o:Nat) (w:World) (hx:A8 C2 ok w ax cx l) (hp:w.cell? ⟨p,0,none⟩=some (.pointer (some ⟨b,o,none⟩))) (hf:w.cell? ⟨b,o+3,none⟩=some (.slice na no.length nc)) (hn:A8 C2 ok' w na nc no):
  Calls Try.prog 44 #[.slice ax l.length cx,.func (.func 30) #[] #[.pointer (some ⟨p,0,none⟩)]] w fun e w'=>∃ k:Int,e=.returned (.int .i64 k)∧decide (0≤k)=l.any (fun s=>decide (s∈no))∧w'=w:=by
 have hlx:=hx.len_le
 go_enter Try.func44,Try.ntmps44
 go_wp2
 go_loop [5,8] (fun _ i=>∃ j:Nat,j≤l.length∧i=.int .i64 j∧Hid (∀ x∈l.take j,x ∉ no)) (fun _ i=>l.length - (intOf i).toNat)
 case atStart=>exact ⟨0,Nat.zero_le _,rfl,by show ∀ x∈_,_;simp⟩
 case round=>
  obtain ⟨j,hj,rfl,hall⟩:=hrel
  by_cases hlt:j<l.length
  ·obtain ⟨g,off,rfl,_,hbl,cs,hcs,hce⟩:=hx.get (List.getElem?_eq_getElem hlt)
   obtain ⟨rfl,_⟩:=hcs
   have e0:=hce 0 _ rfl
   clear hce
   simp only [C2,Nat.add_zero,Nat.mul_one] at e0
   have b0:(0:Int)≤(j:Int):=by omega
   have b1:(j:Int)<(l.length:Int):=by omega
   have g1:=B5b hlt hall.out
   have g2:=B3y (no:=no) hlt
   clear hall
   generalize l[j]=x at *
   by_cases p5:x∈no
   ·have HH:=Lib.hid (g2 p5)
    have hd:decide (x∈no)=true:=decide_eq_true p5
    have HC:=Lib.hid (B2t x no ok' na nc p b o w hp hf hn)
    rw [hd] at HC
    clear g1 g2 p5 hd
    go_wp2_with fail
    refine HC.out.mono ?_
    rintro e w1 ⟨rfl,rfl⟩
    go_wp2
    go_ret;exact ⟨j,rfl,by rw [HH.out];simp,rfl⟩
   ·have HH:=Lib.hid (g1 p5)
    have hd:decide (x∈no)=false:=decide_eq_false p5
    have HC:=Lib.hid (B2t x no ok' na nc p b o w hp hf hn)
    rw [hd] at HC
    clear g1 g2 p5 hd
    go_wp2_with fail
    refine HC.out.mono ?_
    rintro e w1 ⟨rfl,rfl⟩
    go_wp2
    go_round
    case rel=>exact ⟨j+1,by omega,by go_num,HH⟩
    case measure=>simp [intOf];omega
  ·have HE:=Lib.hid (B4k hlt hall.out)
   have b1:¬(j:Int)<(l.length:Int):=by omega
   clear hall
   go_wp2
   go_ret;exact ⟨-1,rfl,by rw [HE.out];rfl,rfl⟩
theorem A6w (l no:List Int) (ok ok':Nat→Prop) (ax na:Option Addr) (cx nc p b o:Nat) (w:World) (hx:A8 C2 ok w ax cx l) (hp:w.cell? ⟨p,0,none⟩=some (.pointer (some ⟨b,o,none⟩))) (hf:w.cell? ⟨b,o+3,none⟩=some (.slice na no.length nc)) (hn:A8 C2 ok' w na nc no):
  Calls Try.prog 29 #[.slice ax l.length cx,.func (.func 30) #[] #[.pointer (some ⟨p,0,none⟩)]] w fun e w'=>e=.returned (.bool (l.any (fun s=>decide (s∈no))))∧w'=w:=by
 go_enter Try.func29,Try.ntmps29
 go_wp2_with fail
 refine (B0h l no ok ok' ax na cx nc p b o w hx hp hf hn).mono ?_
 rintro e w' ⟨k,rfl,hk,rfl⟩
 have HK:=Lib.hid hk
 clear hk
 go_wp2
 go_ret;exact ⟨C13 HK.out,rfl⟩
open Go.RowKit Go.St
theorem B35 (ao:Option Addr) (cap:Nat) (cf:Value) (w:World):
  Calls Try.prog 84 #[.slice ao 0 cap,.int .i64 0,.int .i64 0,cf] w fun e w'=>e=.returned (.tuple #[])∧w'=w:=by
 go_enter Try.func84,Try.ntmps84
 go_wp2
 go_loopw [8,9] (fun ii _ wr=>ii=.int .i64 1∧wr=w) (fun ii _ _=>0)
 case atStart=>exact ⟨rfl,rfl⟩
 case round=>
  obtain ⟨rfl,rfl⟩:=hrel
  go_wp2
  go_returns;exact ⟨rfl,rfl⟩
theorem B2y (g n cap : Nat) (xs : List C1) (junk : List Value) (w : World) (h : RR w g 95 xs junk) (hn : xs.length = n) (hbig : n ≤ 100000000000000) :
  Calls Try.prog 77 #[.slice (some ⟨g, 0, none⟩) n cap, .int .i64 n, .func (.func 66) #[] #[]] w fun e w' => e = .returned (.tuple #[]) ∧ RR w' g 95 (S4 B4 xs) junk ∧ H9 g w w' := by
 have hst : Hid (StI B4 xs 0 xs) := StI.zero xs
 have hN0 : Hid (H9 g w w) := H9.refl _ _
 have HL : Hid (∀ a ys, StI B4 xs a ys → a ≤ n → ys.length = n) := fun a ys h1 h2 => by rw [h1.len (by omega), hn]
 have HP : Hid (∀ a b ys, StI B4 xs a ys → a ≤ b → b ≤ n → ∃ p u s, ys = p ++ (u ++ s) ∧ p.length = a ∧ a + u.length = b ∧ (∀ v, v.length = u.length → Srt B4 v → E4 B4 u v → b = a + 20 → StI B4 xs b (p ++ (v ++ s))) ∧
  (∀ v, v.length = u.length → Srt B4 v → E4 B4 u v → b < a + 20 → b = n → Bk B4 20 (p ++ (v ++ s)) ∧ E4 B4 xs (p ++ (v ++ s)))) := fun a b ys h1 h2 h3 => by
   have := h1.parts h2 (by omega)
   rw [hn] at this; exact this
 have HSL : Hid (∀ ys, E4 B4 xs ys → ys.length = n → ∀ k, Bk B4 k ys → n ≤ k → ys = S4 B4 xs) := fun ys h1 h2 k h3 h4 => h3.done C4 h1 (by omega)
 clear hn
 go_enter Try.func77, Try.ntmps77
 go_wp2
 go_loopw [7, 8] (fun aa bb wr => ∃ (a : Nat) (ys : List C1), aa = .int .i64 a ∧ bb = .int .i64 ((a + 20 : Nat) : Int) ∧ a ≤ n ∧ Hid (StI B4 xs a ys) ∧ RR wr g 95 ys junk ∧ Hid (H9 g w wr)) (fun aa _ _ => n - (intOf aa).toNat)
 case atStart => exact ⟨0, xs, rfl, rfl, Nat.zero_le _, hst, h, hN0⟩
 case round =>
  clear hst h hN0
  obtain ⟨a, ys, rfl, rfl, han, hS, hR, hN⟩ := hrel
  rename World => wo
  have hl := HL.out a ys hS.out han
  by_cases hlt : a + 20 ≤ n
  ·obtain ⟨p, u, s, rfl, f1, f2, f3, _⟩ := HP.out a (a + 20) ys hS.out (by omega) hlt
   have HC := Lib.hid (A5p g n cap a (a + 20) p u s junk wo hR hl hbig f1 f2)
   have HF := Lib.hid f3
   have b1 : ((a + 20 : Nat) : Int) ≤ (n : Int) := by omega
   clear hS hR f1 f2 f3 hl
   go_wp2_with fail
   refine HC.out.mono ?_
   rintro e w1 ⟨rfl, ⟨v, hR, hvl, hvs, hvt⟩, hn1⟩
   have HS := Lib.hid (HF.out v hvl hvs hvt (by first | trivial | rfl))
   have HN := Lib.hid (hN.out.trans hn1)
   clear HF HC hvl hvs hvt hn1 hN b1
   go_wp2
   case roundEnd =>
    go_roundw
    case rel => exact ⟨a + 20, _, rfl, by go_num, hlt, HS, hR, HN⟩
    case measure => simp [intOf] <;> omega
  obtain ⟨p, u, s, rfl, f1, f2, _, f3⟩ := HP.out a n ys hS.out (by omega) (Nat.le_refl _)
  have HC := Lib.hid (A5p g n cap a n p u s junk wo hR hl hbig f1 f2)
  have HF := Lib.hid f3
  have b1 : ¬ ((a + 20 : Nat) : Int) ≤ (n : Int) := by omega
  have hpl : p.length + (u.length + s.length) = n := by rw [← hl]; simp [List.length_append]
  clear hS hR f1 f2 f3 hl
  go_wp2_with fail
  refine HC.out.mono ?_
  rintro e w1 ⟨rfl, ⟨v, hR, hvl, hvs, hvt⟩, hn1⟩
  obtain ⟨hbk, hsb⟩ := HF.out v hvl hvs hvt (by omega) (by first | trivial | rfl)
  have HB := Lib.hid hbk
  have HT := Lib.hid hsb
  have HN := Lib.hid (hN.out.trans hn1)
  have hzl : (p ++ (v ++ s)).length = n := by simp only [List.length_append]; omega
  clear HF HC hvl hvs hvt hn1 hN b1 hbk hsb HP HL hpl
  generalize p ++ (v ++ s) = z0 at *
  go_wp2
  go_loopw [6, 7, 8, 9] (fun kk aa bb mm wr => ∃ (k : Nat) (zs : List C1), kk = .int .i64 k ∧ 20 ≤ k ∧ k ≤ 2 * n + 20 ∧ zs.length = n ∧ Hid (Bk B4 k zs) ∧ Hid (E4 B4 xs zs) ∧ RR wr g 95 zs junk ∧ Hid (H9 g w wr)) (fun kk _ _ _ _ => 2 * n + 20 - (intOf kk).toNat)
  case atStart => exact ⟨20, z0, rfl, Nat.le_refl _, by omega, hzl, HB, HT, hR, HN⟩
  case round =>
  clear HB HT hR HN hzl
  obtain ⟨k, zs, rfl, hk20, hkn, hzl, hB, hT, hR, hN⟩ := hrel
  rename World => wi
  by_cases hkl : k < n
  case neg =>
   have b1 : ¬ (k : Int) < (n : Int) := by omega
   have HE := Lib.hid (HSL.out zs hT.out hzl k hB.out (by omega))
   clear hB hT
   go_wp2
   go_returns; exact ⟨rfl, by rw [← HE.out]; exact hR, hN.out⟩
  have b1 : (k : Int) < (n : Int) := by omega
  have hM := Lib.hid (StM.zero hB.out hT.out)
  have e0 : IntKind.i64.wrap (2 * (k : Int)) = ((2 * k : Nat) : Int) := by rw [IntWalk.i64_in _ (by omega)]; omega
  have e9 : IntKind.i64.wrap ((k : Int) * 2) = ((2 * k : Nat) : Int) := by rw [IntWalk.i64_in _ (by omega)]; omega
  clear hB hT
  go_wp2
  go_loopw [7, 8] (fun aa bb wr => ∃ (a : Nat) (ys : List C1), aa = .int .i64 a ∧ bb = .int .i64 ((a + 2 * k : Nat) : Int) ∧ a ≤ n ∧ ys.length = n ∧ Hid (StM B4 xs k a ys) ∧ RR wr g 95 ys junk ∧ Hid (H9 g w wr)) (fun aa _ _ => n - (intOf aa).toNat)
  case atStart => exact ⟨0, zs, rfl, by simp, Nat.zero_le _, hzl, hM, hR, hN⟩
  case round =>
  clear hM hR hN hzl
  obtain ⟨a, ys, rfl, rfl, han, hyl, hM, hR, hN⟩ := hrel
  rename World => wj
  by_cases hlt : a + 2 * k ≤ n
  ·obtain ⟨p, u, v, s, rfl, f1, f2, f3, f4, f5, f6⟩ := hM.out.two (by omega) (by omega)
   have HC := Lib.hid (B1z g n cap junk hbig _ a (a + k) (a + 2 * k) p u v s wj (Nat.le_refl _) hR hyl f1 (by omega) (by omega) f4 f5 (by omega) (by omega))
   have HF := Lib.hid f6
   have b2 : ((a + 2 * k : Nat) : Int) ≤ (n : Int) := by omega
   have e2 : IntKind.i64.wrap ((a : Int) + (k : Int)) = ((a + k : Nat) : Int) := by rw [IntWalk.i64_in _ (by omega)]; omega
   have hzz : ∀ z : List C1, z.length = u.length + v.length → (p ++ (z ++ s)).length = n := fun z h1 => by simp only [List.length_append] at hyl ⊢; omega
   have HZ := Lib.hid hzz
   clear hM hR f1 f2 f3 f4 f5 f6 hyl hzz
   unfold A19 at HC
   go_wp2_with fail
   refine HC.out.mono ?_
   rintro e w1 ⟨rfl, ⟨z, hR, hvl, hvs, hvt⟩, hn1⟩
   have HS := Lib.hid (HF.out z hvl hvs hvt)
   have HN := Lib.hid (hN.out.trans hn1)
   have hyl := HZ.out z hvl
   have e3 : IntKind.i64.wrap (((a + 2 * k : Nat) : Int) + ((2 * k : Nat) : Int)) = ((a + 2 * k + 2 * k : Nat) : Int) := by rw [IntWalk.i64_in _ (by omega)]; omega
   clear HF HC hvl hvs hvt hn1 hN b2 HZ
   go_wp2
   case roundEnd =>
    go_roundw
    case rel => exact ⟨a + 2 * k, _, rfl, by first | rfl | (simp; omega), hlt, hyl, HS, hR, HN⟩
    case measure => simp [intOf] <;> omega
  have b2 : ¬ ((a + 2 * k : Nat) : Int) ≤ (n : Int) := by omega
  have e2 : IntKind.i64.wrap ((a : Int) + (k : Int)) = ((a + k : Nat) : Int) := by rw [IntWalk.i64_in _ (by omega)]; omega
  by_cases hml : a + k < n
  case neg =>
   obtain ⟨g1, g2⟩ := hM.out.none (by omega)
   have HB := Lib.hid g1
   have HT := Lib.hid g2
   have b3 : ¬ ((a + k : Nat) : Int) < (n : Int) := by omega
   clear hM g1 g2
   go_wp2
   case roundEnd =>
    go_roundw
    case rel => exact ⟨2 * k, _, rfl, by omega, by omega, hyl, HB, HT, hR, hN⟩
    case measure => simp [intOf] <;> omega
  have b3 : ((a + k : Nat) : Int) < (n : Int) := by omega
  obtain ⟨p, u, v, rfl, f1, f2, f4, f5, f6⟩ := hM.out.last (by omega) (by omega)
  have hvl : v.length + (a + k) = n := by simp only [List.length_append, List.length_nil] at hyl; omega
  have HC := Lib.hid (B1z g n cap junk hbig _ a (a + k) n p u v [] wj (Nat.le_refl _) hR hyl f1 (by omega) (by omega) f4 f5 (by omega) (by omega))
  have HF := Lib.hid f6
  have hzz : ∀ z : List C1, z.length = u.length + v.length → (p ++ (z ++ [])).length = n := fun z h1 => by simp only [List.length_append, List.length_nil] at hyl ⊢; omega
  have HZ := Lib.hid hzz
  clear hM hR f1 f2 f4 f5 f6 hyl hzz hvl
  unfold A19 at HC
  go_wp2_with fail
  refine HC.out.mono ?_
  rintro e w1 ⟨rfl, ⟨z, hR, hvl, hvs, hvt⟩, hn1⟩
  obtain ⟨g1, g2⟩ := HF.out z hvl hvs hvt
  have HB := Lib.hid g1
  have HT := Lib.hid g2
  have HN := Lib.hid (hN.out.trans hn1)
  have hyl := HZ.out z hvl
  clear HF HC hvl hvs hvt hn1 hN HZ g1 g2
  go_wp2
  case roundEnd =>
   go_roundw
   case rel => exact ⟨2 * k, _, rfl, by omega, by omega, hyl, HB, HT, hR, HN⟩
   case measure => simp [intOf] <;> omega
theorem A8q (ao:Option Addr) (cap:Nat) (cf:Value) (w:World):
  Calls Try.prog 77 #[.slice ao 0 cap,.int .i64 0,cf] w fun e w'=>e=.returned (.tuple #[])∧w'=w:=by
 go_enter Try.func77,Try.ntmps77
 go_wp2
 go_loopw [7,8] (fun aa bb wr=>aa=.int .i64 0∧bb=.int .i64 20∧wr=w) (fun aa _ _=>0)
 case atStart=>exact ⟨rfl,rfl,rfl⟩
 case round=>
  obtain ⟨rfl,rfl,rfl⟩:=hrel
  go_wp2_with fail
  refine (B35 ao cap cf _).mono ?_
  rintro e w1 ⟨rfl,rfl⟩
  go_wp2
  rename World=>wq
  go_loopw [6] (fun aa wr=>aa=.int .i64 20∧wr=wq) (fun aa _=>0)
  case atStart=>exact ⟨rfl,rfl⟩
  case round=>
   obtain ⟨rfl,rfl⟩:=hrel
   go_wp2
   go_returns;exact ⟨rfl,rfl⟩
theorem A6e (g n cap:Nat) (xs:List C1) (junk:List Value) (w:World) (h:RR w g 95 xs junk) (hn:xs.length=n) (hbig:n≤100000000000000):
  Calls Try.prog 65 #[.slice (some ⟨g,0,none⟩) n cap,.func (.func 66) #[] #[]] w fun e w'=>e=.returned (.tuple #[])∧RR w' g 95 (S4 B4 xs) junk∧H9 g w w':=by
 have HC:=Lib.hid (B2y g n cap xs junk w h hn hbig)
 clear h hn
 go_enter Try.func65,Try.ntmps65
 go_wp2_with fail
 refine HC.out.mono ?_
 rintro e w1 ⟨rfl,h1,h2⟩
 go_wp2
 go_returns;exact ⟨rfl,h1,h2⟩
theorem A3m (ao:Option Addr) (cap:Nat) (cf:Value) (w:World):
  Calls Try.prog 65 #[.slice ao 0 cap,cf] w fun e w'=>e=.returned (.tuple #[])∧w'=w:=by
 go_enter Try.func65,Try.ntmps65
 go_wp2_with fail
 refine (A8q ao cap cf _).mono ?_
 rintro e w1 ⟨rfl,rfl⟩
 go_wp2
 go_returns;exact ⟨rfl,rfl⟩
end Go.Proofs.Ytampcbncgofkoaa
namespace Go.St
open Go.RowKit
def OR (t:TypeId) (w:World) (B:Nat) (ao:Option Addr) (cap:Nat) (xs:List C1):Prop:=
 (xs=[]∧ao=none∧cap=0)∨∃ g junk,ao=some ⟨g,0,none⟩∧xs.length≤cap∧cap≤maxLen∧B≤g∧RR w g t xs junk
theorem OR.row {t:TypeId} {w:World} {B:Nat} {ao:Option Addr} {cap:Nat} {xs:List C1} (h:OR t w B ao cap xs):A8 G6 (fun b=>B≤b) w ao cap xs:=by
 rcases h with ⟨rfl,rfl,rfl⟩|⟨g,junk,rfl,h1,h2,h3,h4⟩
 ·exact A8.nil _ _ _ _
 ·exact h4.row h1 h2 h3
theorem OR.below {t:TypeId} {w w':World} {B:Nat} {ao:Option Addr} {cap:Nat} {xs:List C1} (h:OR t w B ao cap xs) (hb:Below w.heap.size w w'):OR t w' B ao cap xs:=by
 rcases h with ⟨rfl,rfl,rfl⟩|⟨g,junk,rfl,h1,h2,h3,h4⟩
 ·exact .inl ⟨rfl,rfl,rfl⟩
 ·exact .inr ⟨g,junk,rfl,h1,h2,h3,h4.under hb⟩
end Go.St
namespace Go.Proofs.Ytampcbncgofkoaa
open Go.RowKit Go.St
theorem B1v (xs ys:List C1) (ok ok':Nat→Prop) (ax ay:Option Addr) (cx cy b:Nat) (w:World) (hx:A8 G6 ok w ax cx xs) (hy:A8 G6 ok' w ay cy ys)
  (c0:w.cell? ⟨b,0,none⟩=some (.slice ax xs.length cx)) (c1:w.cell? ⟨b,1,none⟩=some (.slice ay ys.length cy)) (hbig:xs.length * 24≤140737488355328) (hbig2:ys.length * 24≤140737488355328):
  Calls Try.prog 64 #[.slice (some ⟨b,0,none⟩) 2 2] w fun e w'=>∃ ao cap,e=.returned (.slice ao (xs++ys).length cap)∧OR 95 w' w.heap.size ao cap (xs++ys)∧Below w.heap.size w w':=by
 refine (B2g xs ys ok ok' ax ay cx cy b w hx hy c0 c1 hbig hbig2).mono ?_
 rintro e w' ⟨⟨h1,rfl⟩|⟨g,cap,junk,rfl,h1,h2,h3,h4⟩,hb⟩
 ·exact ⟨none,0,by rw [h1];rfl,.inl ⟨h1,rfl,rfl⟩,hb⟩
 ·exact ⟨_,cap,rfl,.inr ⟨g,junk,rfl,h1,h2,h3,h4⟩,hb⟩
theorem B4j (B:Nat) (ao:Option Addr) (cap:Nat) (xs:List C1) (w:World) (h:OR 95 w B ao cap xs) (hB:B≤w.heap.size) (hbig:xs.length≤100000000000000):
  Calls Try.prog 65 #[.slice ao xs.length cap,.func (.func 66) #[] #[]] w fun e w'=>e=.returned (.tuple #[])∧OR 95 w' B ao cap (S4 B4 xs)∧Below B w w':=by
 rcases h with ⟨rfl,rfl,rfl⟩|⟨g,junk,rfl,h1,h2,h3,h4⟩
 ·refine (A3m none 0 _ w).mono ?_
  rintro e w' ⟨rfl,rfl⟩
  exact ⟨rfl,.inl ⟨rfl,rfl,rfl⟩,Below.refl _ _⟩
 ·refine (A6e g xs.length cap xs junk w h4 rfl hbig).mono ?_
  rintro e w' ⟨rfl,h5,h6⟩
  exact ⟨rfl,.inr ⟨g,junk,rfl,by rw [A5l];exact h1,h2,h3,h5⟩,h6.to (Below.refl _ _) hB h3⟩
theorem A97 (B:Nat) (ao:Option Addr) (cap:Nat) (xs:List C1) (w:World) (h:OR 95 w B ao cap xs) (hB:B≤w.heap.size) (hbig:xs.length≤100000000000000):
  Calls Try.prog 67 #[.slice ao xs.length cap] w fun e w'=>e=.returned (.slice ao (O6 xs).length cap)∧OR 95 w' B ao cap (O6 xs)∧Below B w w':=by
 rcases h with ⟨rfl,rfl,rfl⟩|⟨g,junk,rfl,h1,h2,h3,h4⟩
 ·refine (A6c none 0 w).mono ?_
  rintro e w' ⟨rfl,rfl⟩
  exact ⟨rfl,.inl ⟨rfl,rfl,rfl⟩,Below.refl _ _⟩
 ·refine (B12 g xs.length cap xs junk w h4 rfl h1 h2 hbig).mono ?_
  rintro e w' ⟨rfl,h5,⟨junk',h6⟩,h7⟩
  exact ⟨rfl,.inr ⟨g,junk',rfl,Nat.le_trans h5 h1,h2,h3,h6⟩,h7.to (Below.refl _ _) hB h3⟩
theorem B5r (l more:List C1) (ok ok':Nat→Prop) (ax ay:Option Addr) (cx cy:Nat) (w:World) (hx:A8 G6 ok w ax cx l) (hy:A8 G6 ok' w ay cy more) (hbig:l.length * 24≤140737488355328) (hbig2:more.length * 24≤140737488355328):
  Calls Try.prog 57 #[.slice ax l.length cx,.slice ay more.length cy] w fun e w'=>∃ ao cap,e=.returned (.tuple #[.slice ao (O8 l more).1.length cap,.int .i64 (O8 l more).2])∧A8 G6 (fun b=>w.heap.size≤b) w' ao cap (O8 l more).1∧Below w.heap.size w w':=by
 have hsl:(S4 B4 (l++more)).length=(l++more).length:=A5l _
 have hcl:(O6 (S4 B4 (l++more))).length≤(S4 B4 (l++more)).length:=(A7f _).length_le
 have hll:(l++more).length=l.length+more.length:=List.length_append
 have HE1:Hid ((E5 l).1≠0→O8 l more=([],(E5 l).1)):=fun h=>by unfold O8;rw [if_pos h]
 have HE2:Hid ((E5 l).1=0→(E5 (O6 (S4 B4 (l++more)))).1≠0→O8 l more=([],(E5 (O6 (S4 B4 (l++more)))).1)):=fun h h2=>by unfold O8;rw [if_neg (by simpa using h)];exact if_pos h2
 have HE3:Hid ((E5 l).1=0→(E5 (O6 (S4 B4 (l++more)))).1=0→O8 l more=(O6 (S4 B4 (l++more)),0)):=fun h h2=>by unfold O8;rw [if_neg (by simpa using h)];exact if_neg (fun h3=>h3 h2)
 generalize O8 l more=c at *
 obtain ⟨c1,c2⟩:=c
 dsimp only
 have hC1:=fun b (w1:World) (h1:Below w.heap.size w w1)=>B1v l more ok ok' ax ay cx cy b w1 (hx.below h1) (hy.below h1)
 have HC1:=Lib.hid hC1
 clear hC1
 generalize l++more=xs at *
 have HSL:=Lib.hid hsl
 have HLL:=Lib.hid hll
 clear hsl hll
 generalize hss:S4 B4 xs=ss at *
 generalize hoo:O6 ss=oo at *
 have HSS:=Lib.hid hss
 have HOO:=Lib.hid hoo
 clear hss hoo
 go_enter Try.func57,Try.ntmps57
 go_wp2_with fail
 have x1:=(A6.new (w:=w) (t:=73) (cs:=#[.slice ax l.length cx,.slice ay more.length cy]) rfl).cells.1
 have hb0:=G8 w (.cells #[.slice ax l.length cx,.slice ay more.length cy] 73)
 refine (HC1.out w.heap.size _ hb0 (x1 0) (x1 1) hbig hbig2).mono ?_
 rintro e w1 ⟨ao,cap,rfl,hO,hb1⟩
 have hB1:Below w.heap.size w w1:=hb0.trans (hb1.mono hb0.size)
 have hO1:OR 95 w1 w.heap.size ao cap xs:=by
  rcases hO with h|⟨g,junk,h0,h1,h2,h3,h4⟩
  ·exact .inl h
  ·exact .inr ⟨g,junk,h0,h1,h2,by simp at h3;omega,h4⟩
 clear hO hb1 x1 hb0 HC1
 go_wp2_with fail
 refine (B4j w.heap.size ao cap xs w1 hO1 hB1.size (by have:=HLL.out;omega)).mono ?_
 rintro e w2 ⟨rfl,hO2,hb2⟩
 rw [HSS.out] at hO2
 have hB2:=hB1.trans hb2
 clear hO1 hb2 hB1
 rw [←HSL.out]
 go_wp2_with fail
 refine (A97 w.heap.size ao cap ss w2 hO2 hB2.size (by have:=HLL.out;have:=HSL.out;omega)).mono ?_
 rintro e w3 ⟨rfl,hO3,hb3⟩
 rw [HOO.out] at hO3 ⊢
 have hB3:=hB2.trans hb3
 clear hO2 hb3 hB2
 go_wp2_with fail
 refine (A0a l ok ax cx w3 (hx.below hB3)).mono ?_
 rintro e w4 ⟨rfl,hb4⟩
 have hO4:=hO3.below hb4
 have hB4:=hB3.trans (hb4.mono hB3.size)
 have hz4:=hB4.size
 clear hO3 hB3 hb4
 generalize hwl:E5 l=wl at *
 have HWL:=Lib.hid hwl
 clear hwl
 obtain ⟨wl1,wl2⟩:=wl
 dsimp only at *
 by_cases h1:wl1=0
 case neg=>
  have h1':(wl1 !=0)=true:=by rw [bne_iff_ne];exact h1
  obtain ⟨rfl,rfl⟩:c1=[]∧c2=wl1:=by have:=HE1.out h1;simpa using this
  clear h1 HE1 HE2 HE3
  go_wp2
  go_quiet (fail)
  go_wp2
  go_returns;exact ⟨none,0,rfl,A8.nil _ _ _ _,by (repeat' (first|with_reducible (first|exact Below.refl _ _|assumption|refine Below.drew ?_|refine A3 ?_ _|refine Below.alloc ?_ ?_ _|refine Below.setCell ?_ ?_ _)|omega|(simp;done)|(simp;omega)))⟩
 subst h1
 clear HE1
 go_wp2_with fail
 refine (A0a oo (fun b=>w.heap.size≤b) ao cap _ (hO4.row.below (by (repeat' (first|with_reducible (first|exact Below.refl _ _|assumption|refine Below.drew ?_|refine A3 ?_ _|refine Below.alloc ?_ ?_ _|refine Below.setCell ?_ ?_ _)|omega|(simp;done)|(simp;omega)))))).mono ?_
 rintro e w5 ⟨rfl,hb5⟩
 have hB5:Below w.heap.size w w5:=Below.trans (show Below w.heap.size w (w4.alloc _) by (repeat' (first|with_reducible (first|exact Below.refl _ _|assumption|refine Below.drew ?_|refine A3 ?_ _|refine Below.alloc ?_ ?_ _|refine Below.setCell ?_ ?_ _)|omega|(simp;done)|(simp;omega)))) (hb5.mono (by simp;omega))
 have hO5:=(hO4.row (xs:=oo)).below (w':=w5) (Below.trans (by (repeat' (first|with_reducible (first|exact Below.refl _ _|assumption|refine Below.drew ?_|refine A3 ?_ _|refine Below.alloc ?_ ?_ _|refine Below.setCell ?_ ?_ _)|omega|(simp;done)|(simp;omega)))) (hb5.mono (by simp)))
 have hz5:=hB5.size
 clear hO4 hB4
 generalize hwo:E5 oo=wl at *
 have HWO:=Lib.hid hwo
 clear hwo
 obtain ⟨wo1,wo2⟩:=wl
 dsimp only at *
 by_cases h2:wo1=0
 case neg=>
  have h1':(wo1 !=0)=true:=by rw [bne_iff_ne];exact h2
  obtain ⟨rfl,rfl⟩:c1=[]∧c2=wo1:=by have:=HE2.out (by first|trivial|rfl) h2;simpa using this
  clear h2 HE2 HE3
  go_wp2
  go_quiet (fail)
  go_wp2
  go_returns;exact ⟨none,0,rfl,A8.nil _ _ _ _,by (repeat' (first|with_reducible (first|exact Below.refl _ _|assumption|refine Below.drew ?_|refine A3 ?_ _|refine Below.alloc ?_ ?_ _|refine Below.setCell ?_ ?_ _)|omega|(simp;done)|(simp;omega)))⟩
 subst h2
 obtain ⟨rfl,rfl⟩:c1=oo∧c2=0:=by have:=HE3.out (by first|trivial|rfl) (by first|trivial|rfl);simpa using this
 clear HE2 HE3
 go_wp2
 go_returns;exact ⟨ao,cap,rfl,hO5.below (by (repeat' (first|with_reducible (first|exact Below.refl _ _|assumption|refine Below.drew ?_|refine A3 ?_ _|refine Below.alloc ?_ ?_ _|refine Below.setCell ?_ ?_ _)|omega|(simp;done)|(simp;omega)))),by (repeat' (first|with_reducible (first|exact Below.refl _ _|assumption|refine Below.drew ?_|refine A3 ?_ _|refine Below.alloc ?_ ?_ _|refine Below.setCell ?_ ?_ _)|omega|(simp;done)|(simp;omega)))⟩
end Go.Proofs.Ytampcbncgofkoaa
