/- Texts of this proof, one behind the other. -/
import Derived.Test.YtampcbncgofkoaaPk46
import Derived.Test.YtampcbncgofkoaaPk45
import Derived.Test.YtampcbncgofkoaaPk3
set_option linter.unusedSimpArgs false
set_option linter.unusedVariables false
set_option maxRecDepth 100000
set_option maxHeartbeats 16000000
namespace Go.St
open Go.RowKit
theorem B9l {α:Type} {sh:D1 α} {ok:Nat→Prop} {w:World} {b:Nat} {e:TypeId} {cs:List Value} {x:α} (h:A6 w b e cs.toArray) (hr:sh.rep ok w cs x):D7 sh ok w (some ⟨b,0,none⟩) [x]:=by
  refine .inr ⟨b,0,rfl,fun i y hy=>?_⟩
  match i,hy with
  |0,hy=>
    obtain rfl:x=y:=by simpa using hy
    refine ⟨cs,hr,fun j c hj=>?_⟩
    simp only [Nat.zero_mul,Nat.zero_add]
    rw [h.cells.1 j]
    simpa using hj
  |i+1,hy=>simp at hy
theorem B9g (n:Nat):(H3 n).links.length=n - 1:=by simp [H3]
theorem B9n {n i:Nat} (h:i<n - 1):(H3 n).links.take (i+1)=(H3 n).links.take i++[⟨(i:Int),(i:Int)+1,1⟩]:=by
 rw [List.take_add_one]
 simp [H3,h]
end Go.St
namespace Go.Proofs.Ytampcbncgofkoaa
open Go.RowKit Go.St
theorem B99:(Try.prog.info? 67).map (fun i=>(i.zero,i.size,i.bytes))=some (some (.agg #[.int .i64 0,.int .i64 0,.int .i64 0]),3,24):=by kernel_rfl
theorem B9j (n:Nat) (hn:n≤8) (w:World):Calls Try.prog 16 #[.int .i64 (n:Int)] w fun e w'=>∃ (la:Option Addr) (lc:Nat),e=.returned (.agg #[.int .i64 (n:Int),.slice la (n - 1) lc])∧C7 A0e 67 (fun _=>False) (w.heap.size+2) w' la (n - 1) lc (H3 n).links∧Below w.heap.size w w'∧w.heap.size+2≤w'.heap.size:=by
 obtain ⟨i0,gi,gz0,gz1,gz2⟩:=info_parts B99
 have hb0:Below w.heap.size w ((w.alloc (.cells #[.int .i64 0,.slice none 0 0] 24)).alloc (.cells #[.int .i64 (n:Int),.slice none 0 0] 24)):=A1t _ _ _
 have hR0:A6 ((w.alloc (.cells #[.int .i64 0,.slice none 0 0] 24)).alloc (.cells #[.int .i64 (n:Int),.slice none 0 0] 24)) w.heap.size 24 #[.int .i64 0,.slice none 0 0]:=(A6.new rfl).alloc _
 have hT0:A6 ((w.alloc (.cells #[.int .i64 0,.slice none 0 0] 24)).alloc (.cells #[.int .i64 (n:Int),.slice none 0 0] 24)) (w.heap.size+1) 24 #[.int .i64 (n:Int),.slice none 0 0]:=A6.new (by simp)
 have hO0:C7 A0e 67 (fun _=>False) (w.heap.size+2) ((w.alloc (.cells #[.int .i64 0,.slice none 0 0] 24)).alloc (.cells #[.int .i64 (n:Int),.slice none 0 0] 24)) none 0 0 []:=C7.nil _ _ _ _ _ (fun _ h=>h.elim)
 have hs0:((w.alloc (.cells #[.int .i64 0,.slice none 0 0] 24)).alloc (.cells #[.int .i64 (n:Int),.slice none 0 0] 24)).heap.size=w.heap.size+2:=by simp
 have hLN:=B9g n
 go_enter Try.func16,Try.ntmps16
 go_wp2
 generalize ((w.alloc (.cells #[.int .i64 0,.slice none 0 0] 24)).alloc (.cells #[.int .i64 (n:Int),.slice none 0 0] 24))=w0 at *
 generalize hrb:w.heap.size=rb at hR0 hT0 hO0 hs0 ⊢
 have HRB:=Lib.hid hrb
 clear hrb
 go_loopw [4] (fun idx wr=>∃ (i:Nat) (la:Option Addr) (lc:Nat),idx=.int .i64 i∧i≤n - 1∧A6 wr (rb+1) 24 #[.int .i64 (n:Int),.slice la i lc]∧A6 wr rb 24 #[.int .i64 0,.slice none 0 0]∧C7 A0e 67 (fun _=>False) (rb+2) wr la i lc ((H3 n).links.take i)∧Below w.heap.size w wr∧rb+2≤wr.heap.size) (fun idx _=>n - (intOf idx).toNat)
 case atStart=>exact ⟨0,none,0,rfl,Nat.zero_le _,hT0,hR0,by simpa using hO0,hb0,by omega⟩
 case round=>
  clear hT0 hR0 hO0 hb0 hs0
  obtain ⟨i,la,lc,rfl,hi,hT,hR,hO,hb,hsz⟩:=hrel
  rename World=>wo
  obtain ⟨t1,t2⟩:=hT.cells
  have htl:=hT.lt
  by_cases hlt:i<n - 1
  case neg=>
   have b1:¬(i:Int)+1<(n:Int):=by omega
   obtain rfl:i=n - 1:=by omega
   obtain ⟨r1,r2⟩:=hR.cells
   have hrl:=hR.lt
   have htk:(H3 n).links.take (n - 1)=(H3 n).links:=List.take_of_length_le (by omega)
   rw [htk] at hO
   have hb9:Below w.heap.size w ((wo.setCell ⟨rb,0,none⟩ (.int .i64 (n:Int))).setCell ⟨rb,1,none⟩ (.slice la (n - 1) lc)):=(hb.setCell (p:=⟨rb,0,none⟩) (by show w.heap.size≤rb;rw [HRB.out];exact Nat.le_refl _) _).setCell (p:=⟨rb,1,none⟩) (by show w.heap.size≤rb;rw [HRB.out];exact Nat.le_refl _) _
   have hO9:=(hO.setCell (a:=⟨rb,0,none⟩) (by show rb<rb+2;omega) (.int .i64 (n:Int))).setCell (a:=⟨rb,1,none⟩) (by show rb<rb+2;omega) (.slice la (n - 1) lc)
   have hR9:=(hR.set 0 (.int .i64 (n:Int))).set 1 (.slice la (n - 1) lc)
   simp only [St.tS,St.tC,St.tZ] at hR9
   obtain ⟨c1,c2⟩:=hR9.cells
   go_wp2_with ((with_reducible refine bodyPost_ret (v:=.agg #[.int .i64 (n:Int),.slice la (n - 1) lc]) ?ra1 ?rb1 ?rc1);go_must (case ra1=>simp [results,Try.results16,go_sem,c1]);go_must (case rb1=>rfl);go_must (case rc1=>exact ⟨la,lc,rfl,by rw [HRB.out];exact hO9,hb9,by rw [HRB.out];simp;omega⟩))
  have b1:(i:Int)+1<(n:Int):=by omega
  have HTK:=Lib.hid (B9n hlt)
  have hbx:=G8 wo (.cells #[.int .i64 (i:Int),.int .i64 ((i:Int)+1),.int .i64 1] 67)
  have hE:=I6 wo 67 #[.int .i64 (i:Int),.int .i64 ((i:Int)+1),.int .i64 1]
  have hO4:=hO.below hbx
  have hT4:=hT.under hbx
  have hR4:=hR.under hbx
  have hb4:=hb.trans (hbx.mono hb.size)
  have hz4:rb+2≤(wo.alloc (.cells #[.int .i64 (i:Int),.int .i64 ((i:Int)+1),.int .i64 1] 67)).heap.size:=Nat.le_trans hsz hbx.size
  have hsrc:=B9l (sh:=A0e) (ok:=fun _=>False) (x:=⟨(i:Int),(i:Int)+1,1⟩) hE ⟨rfl,I64.small (by show -1000000000000≤(i:Int);omega) (by show (i:Int)≤1000000000000;omega),I64.small (by show -1000000000000≤(i:Int)+1;omega) (by show (i:Int)+1≤1000000000000;omega),I64.small (n:=1) (by decide) (by decide)⟩
  clear hO hT hR hb hbx hE
  go_wp2_with (at_builtin;go_must (refine H4 (sh:=A0e) (n:=i) (m:=1) rfl _ _ 22 rfl 67 i0 (.agg #[.int .i64 0,.int .i64 0,.int .i64 0]) 24 Try.underlying22 gi gz0 gz1 gz2 rfl (by decide) rfl hO4 rfl rfl hsrc (by simp only [maxLen];omega) (by omega) hz4 ?_);go_must (intro la5 lc5 w5 hO5 hg5 hd5;have hb5:Below (rb+2) _ w5:=D6 hg5 (fun k hk=>(hO4.lt k hk).1) hz4;have hT5:=hT4.below hb5 (by omega);have hR5:=hR4.below hb5 (by omega);obtain ⟨q1,q2⟩:=hT5.cells;have hql:=hT5.lt))
  case roundEnd=>
   have hT6:=hT5.set 1 (.slice la5 (i+1) lc5)
   simp only [St.tS,St.tC,St.tZ] at hT6
   have hR6:=hR5.setOther (a:=⟨rb+1,1,none⟩) (by show rb≠rb+1;omega) (.slice la5 (i+1) lc5)
   have hO6:=hO5.setCell (a:=⟨rb+1,1,none⟩) (by show rb+1<rb+2;omega) (.slice la5 (i+1) lc5)
   have hb6:Below w.heap.size w (w5.setCell ⟨rb+1,1,none⟩ (.slice la5 (i+1) lc5)):=(hb4.trans (hb5.mono (by rw [HRB.out];omega))).setCell (p:=⟨rb+1,1,none⟩) (by show w.heap.size≤rb+1;rw [HRB.out];omega) _
   have hz6:rb+2≤(w5.setCell ⟨rb+1,1,none⟩ (.slice la5 (i+1) lc5)).heap.size:=by have:=hb5.size;simp;omega
   go_roundw
   case rel=>exact ⟨i+1,la5,lc5,by go_num,by omega,hT6,hR6,by rw [HTK.out];exact hO6,hb6,hz6⟩
   case measure=>simp [intOf]<;>omega
end Go.Proofs.Ytampcbncgofkoaa
