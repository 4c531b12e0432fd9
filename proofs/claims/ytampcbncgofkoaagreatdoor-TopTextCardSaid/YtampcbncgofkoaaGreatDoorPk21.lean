/- Texts of this proof, one behind the other. -/
import Derived.Test.YtampcbncgofkoaaGreatDoorPk20
set_option linter.unusedSimpArgs false
set_option linter.unusedVariables false
set_option maxRecDepth 100000
set_option maxHeartbeats 16000000
namespace Go.Proofs.YtampcbncgofkoaaGreatDoor
open Go.RowKit Go.St
theorem A2h (l:List E0) (n:Int) (ok:Nat→Prop) (ax:Option Addr) (cx:Nat) (w:World) (hx:A8 H6 ok w ax cx l):
  Calls Tryz.prog 14 #[.slice ax l.length cx,.int .i64 n] w fun e w'=>e=.returned (.agg #[.int .i64 (D0 l n).1,.int .i64 (D0 l n).2])∧Below w.heap.size w w':=by
 have hlx:=hx.len_le
 by_cases h0:12<l.length
 ·have hw:D0 l n=(5,0):=by unfold D0;rw [if_pos h0]
  rw [hw]
  have p3:(12:Int)<(l.length:Int):=by omega
  clear hw h0
  go_enter Tryz.func14,Tryz.ntmps14
  go_wp2
  refine bodyPost_ret (v:=.agg #[.int .i64 5,.int .i64 0]) (by simp [results,Tryz.results14,go_sem]) rfl ⟨rfl,by (repeat' (first|with_reducible (first|exact Below.refl _ _|assumption|refine Below.drew ?_|refine A3 ?_ _|refine Below.alloc ?_ ?_ _|refine Below.setCell ?_ ?_ _)|omega|(simp;done)|(simp;omega)))⟩
 have hst:Hid (D0 l n=Q0 n ((0:Nat):Int) (l.drop 0)):=by show _=_;unfold D0;rw [if_neg h0];rfl
 generalize D0 l n=c at *
 have p0:¬(12:Int)<(l.length:Int):=by omega
 clear h0
 go_enter Tryz.func14,Tryz.ntmps14
 go_wp2
 go_loopw [5,6,7,14] (fun _ _ _ i wr=>∃ j:Nat,j≤l.length∧i=.int .i64 j∧Hid (c=Q0 n j (l.drop j))∧Below w.heap.size w wr∧A6 wr w.heap.size 29 #[.int .i64 0,.int .i64 0]) (fun _ _ _ i _=>l.length - (intOf i).toNat)
 case atStart=>exact ⟨0,Nat.zero_le _,rfl,hst,by (repeat' (first|with_reducible (first|exact Below.refl _ _|assumption|refine Below.drew ?_|refine A3 ?_ _|refine Below.alloc ?_ ?_ _|refine Below.setCell ?_ ?_ _)|omega|(simp;done)|(simp;omega))),A6.new rfl⟩
 case round=>
  obtain ⟨j,hj,rfl,hall,hb,hF⟩:=hrel
  have hsz:=hF.lt
  obtain ⟨r3,r4⟩:=hF.cells
  by_cases hlt:j<l.length
  case neg=>
   have HE:=Lib.hid (B48 hlt hall.out)
   have b1:¬(j:Int)<(l.length:Int):=by omega
   clear hall
   go_wp2
   have G:=(hF.set 0 (.int .i64 0)).set 1 (.int .i64 0)
   obtain ⟨z1,z2⟩:=G.cells
   refine bodyPost_ret (v:=.agg #[.int .i64 0,.int .i64 0]) (by simp [results,Tryz.results14,go_sem,z1]) rfl ⟨by rw [HE.out],by (repeat' (first|with_reducible (first|exact Below.refl _ _|assumption|refine Below.drew ?_|refine A3 ?_ _|refine Below.alloc ?_ ?_ _|refine Below.setCell ?_ ?_ _)|omega|(simp;done)|(simp;omega)))⟩
  obtain ⟨g,off,rfl,_,hbl,cs,hcs,hce⟩:=hx.get (List.getElem?_eq_getElem hlt)
  obtain ⟨va,vc,na,nc,rfl,_,_,hv,hn⟩:=hcs
  have g0:=B4s (n:=n) (c:=c) hlt hall.out
  have g1:=@B4d n l c j hlt hall.out
  clear hall
  generalize l[j]=x at *
  obtain ⟨src,dst,via,no⟩:=x
  dsimp only at *
  have e0:=B8 hb hbl (hce 0 _ rfl)
  have e1:=B8 hb hbl (hce 1 _ rfl)
  have e2:=B8 hb hbl (hce 2 _ rfl)
  have e3:=B8 hb hbl (hce 3 _ rfl)
  clear hce
  simp only [H6,Nat.add_zero] at e0 e1 e2 e3
  have hgl:g<wr.heap.size:=by omega
  have hcv:∀ w',Below wr.heap.size wr w'→Calls Tryz.prog 24 #[.slice va via.length vc,.pointer (some ⟨g,off+j * 4,none⟩),.int .i64 n] w' fun e w''=>e=.returned (.int .i64 (F1 n src dst [] via))∧w''=w':=fun w' hw'=>
   A43 via n src dst ok va vc g (off+j * 4) w' ((hv.below hb).below (w:=wr) hw') (B8 hw' hgl e0) (B8 hw' hgl e1)
  have hcn:∀ w',Below wr.heap.size wr w'→Calls Tryz.prog 24 #[.slice na no.length nc,.pointer (some ⟨g,off+j * 4,none⟩),.int .i64 n] w' fun e w''=>e=.returned (.int .i64 (F1 n src dst [] no))∧w''=w':=fun w' hw'=>
   A43 no n src dst ok na nc g (off+j * 4) w' ((hn.below hb).below (w:=wr) hw') (B8 hw' hgl e0) (B8 hw' hgl e1)
  have hcc:∀ w' p,Below wr.heap.size wr w'→w'.cell? ⟨p,0,none⟩=some (.pointer (some ⟨g,off+j * 4,none⟩))→Calls Tryz.prog 25 #[.slice va via.length vc,.func (.func 26) #[] #[.pointer (some ⟨p,0,none⟩)]] w' fun e w''=>e=.returned (.bool (via.any (fun s=>decide (s∈no))))∧w''=w':=fun w' p hw' hp=>
   A6w via no ok ok va na vc nc p g (off+j * 4) w' ((hv.below hb).below (w:=wr) hw') hp (B8 hw' hgl e3) ((hn.below hb).below (w:=wr) hw')
  have b0:(0:Int)≤(j:Int):=by omega
  have b1:(j:Int)<(l.length:Int):=by omega
  by_cases p1:src<0
  ·have HH:=Lib.hid (g1 (e:=6) (by simp [M4,p1]) (by decide))
   clear g0 g1 hcv hcn hcc
   go_wp2
   have G:=((hF.set 0 (.int .i64 6)).set 1 (.int .i64 j)).alloc (.cells #[.pointer (some ⟨g,off+j * 4,none⟩)] 93)
   obtain ⟨z1,z2⟩:=G.cells
   refine bodyPost_ret (v:=.agg #[.int .i64 6,.int .i64 j]) (by simp [results,Tryz.results14,go_sem,z1]) rfl ⟨by rw [HH.out],by (repeat' (first|with_reducible (first|exact Below.refl _ _|assumption|refine Below.drew ?_|refine A3 ?_ _|refine Below.alloc ?_ ?_ _|refine Below.setCell ?_ ?_ _)|omega|(simp;done)|(simp;omega)))⟩
  by_cases p2:n≤src
  ·have HH:=Lib.hid (g1 (e:=6) (by simp [M4,p2]) (by decide))
   clear g0 g1 hcv hcn hcc
   go_wp2
   have G:=((hF.set 0 (.int .i64 6)).set 1 (.int .i64 j)).alloc (.cells #[.pointer (some ⟨g,off+j * 4,none⟩)] 93)
   obtain ⟨z1,z2⟩:=G.cells
   refine bodyPost_ret (v:=.agg #[.int .i64 6,.int .i64 j]) (by simp [results,Tryz.results14,go_sem,z1]) rfl ⟨by rw [HH.out],by (repeat' (first|with_reducible (first|exact Below.refl _ _|assumption|refine Below.drew ?_|refine A3 ?_ _|refine Below.alloc ?_ ?_ _|refine Below.setCell ?_ ?_ _)|omega|(simp;done)|(simp;omega)))⟩
  by_cases p3:dst<0
  ·have HH:=Lib.hid (g1 (e:=6) (by simp [M4,p3]) (by decide))
   clear g0 g1 hcv hcn hcc
   go_wp2
   have G:=((hF.set 0 (.int .i64 6)).set 1 (.int .i64 j)).alloc (.cells #[.pointer (some ⟨g,off+j * 4,none⟩)] 93)
   obtain ⟨z1,z2⟩:=G.cells
   refine bodyPost_ret (v:=.agg #[.int .i64 6,.int .i64 j]) (by simp [results,Tryz.results14,go_sem,z1]) rfl ⟨by rw [HH.out],by (repeat' (first|with_reducible (first|exact Below.refl _ _|assumption|refine Below.drew ?_|refine A3 ?_ _|refine Below.alloc ?_ ?_ _|refine Below.setCell ?_ ?_ _)|omega|(simp;done)|(simp;omega)))⟩
  by_cases p4:n≤dst
  ·have HH:=Lib.hid (g1 (e:=6) (by simp [M4,p4]) (by decide))
   clear g0 g1 hcv hcn hcc
   go_wp2
   have G:=((hF.set 0 (.int .i64 6)).set 1 (.int .i64 j)).alloc (.cells #[.pointer (some ⟨g,off+j * 4,none⟩)] 93)
   obtain ⟨z1,z2⟩:=G.cells
   refine bodyPost_ret (v:=.agg #[.int .i64 6,.int .i64 j]) (by simp [results,Tryz.results14,go_sem,z1]) rfl ⟨by rw [HH.out],by (repeat' (first|with_reducible (first|exact Below.refl _ _|assumption|refine Below.drew ?_|refine A3 ?_ _|refine Below.alloc ?_ ?_ _|refine Below.setCell ?_ ?_ _)|omega|(simp;done)|(simp;omega)))⟩
  have q14:¬(src<0∨n≤src∨dst<0∨n≤dst):=by omega
  cases p5:(src==dst)
  case true=>
   have HH:=Lib.hid (g1 (e:=8) (by unfold M4;dsimp only;rw [if_neg q14,if_pos (beq_iff_eq.1 p5)]) (by decide))
   clear q14
   clear g0 g1 hcv hcn hcc
   go_wp2
   go_quiet (fail)
   go_wp2
   have z1:=fun k=>(((((hF.alloc (.cells #[.pointer (some ⟨g,off+j * 4,none⟩)] 93)).drewN k).set 0 (.int .i64 8)).set 1 (.int .i64 j)).cells).1
   refine bodyPost_ret (v:=.agg #[.int .i64 8,.int .i64 j]) (by simp [results,Tryz.results14,go_sem,z1]) rfl ⟨by rw [HH.out],by (repeat' (first|with_reducible (first|exact Below.refl _ _|assumption|refine Below.drew ?_|refine A3 ?_ _|refine Below.alloc ?_ ?_ _|refine Below.setCell ?_ ?_ _)|omega|(simp;done)|(simp;omega)))⟩
  have q5:¬src=dst:=beq_eq_false_iff_ne.1 p5
  by_cases p6:F1 n src dst [] via=0
  case neg=>
   have HH:=Lib.hid (g1 (e:=F1 n src dst [] via) (by unfold M4;dsimp only;rw [if_neg q14,if_neg q5,if_pos p6]) p6)
   have c6:(F1 n src dst [] via==0)=false:=by rw [beq_eq_false_iff_ne];exact p6
   have c6':(F1 n src dst [] via !=0)=true:=by rw [bne_iff_ne];exact p6
   clear q14 q5 p6
   clear g0 g1 hcn hcc
   generalize F1 n src dst [] via=lv at *
   go_wp2
   go_quiet (fail)
   go_wp2
   go_quiet ((go_at_call 24;first|exact Calls.quiet_of_same (hcv _ (by (repeat' (first|with_reducible (first|exact Below.refl _ _|assumption|refine Below.drew ?_|refine A3 ?_ _|refine Below.alloc ?_ ?_ _|refine Below.setCell ?_ ?_ _)|omega|(simp;done)|(simp;omega)))))|exact M8 (hcv _ (by (repeat' (first|with_reducible (first|exact Below.refl _ _|assumption|refine Below.drew ?_|refine A3 ?_ _|refine Below.alloc ?_ ?_ _|refine Below.setCell ?_ ?_ _)|omega|(simp;done)|(simp;omega)))))))
   go_wp2
   have z1:=fun k=>(((((hF.alloc (.cells #[.pointer (some ⟨g,off+j * 4,none⟩)] 93)).drewN k).set 0 (.int .i64 lv)).set 1 (.int .i64 j)).cells).1
   refine bodyPost_ret (v:=.agg #[.int .i64 lv,.int .i64 j]) (by simp [results,Tryz.results14,go_sem,z1]) rfl ⟨by rw [HH.out],by (repeat' (first|with_reducible (first|exact Below.refl _ _|assumption|refine Below.drew ?_|refine A3 ?_ _|refine Below.alloc ?_ ?_ _|refine Below.setCell ?_ ?_ _)|omega|(simp;done)|(simp;omega)))⟩
  by_cases p7:F1 n src dst [] no=0
  case neg=>
   have HH:=Lib.hid (g1 (e:=F1 n src dst [] no) (by unfold M4;dsimp only;rw [if_neg q14,if_neg q5,if_neg (by simp [p6]),if_pos p7]) p7)
   have c6:(F1 n src dst [] no==0)=false:=by rw [beq_eq_false_iff_ne];exact p7
   have c6':(F1 n src dst [] no !=0)=true:=by rw [bne_iff_ne];exact p7
   rw [p6] at hcv
   clear q14 q5 p6 p7
   clear g0 g1 hcc
   generalize F1 n src dst [] no=lv at *
   go_wp2
   go_quiet (fail)
   go_wp2
   go_quiet ((go_at_call 24;first|exact Calls.quiet_of_same (hcv _ (by (repeat' (first|with_reducible (first|exact Below.refl _ _|assumption|refine Below.drew ?_|refine A3 ?_ _|refine Below.alloc ?_ ?_ _|refine Below.setCell ?_ ?_ _)|omega|(simp;done)|(simp;omega)))))|exact M8 (hcv _ (by (repeat' (first|with_reducible (first|exact Below.refl _ _|assumption|refine Below.drew ?_|refine A3 ?_ _|refine Below.alloc ?_ ?_ _|refine Below.setCell ?_ ?_ _)|omega|(simp;done)|(simp;omega)))))))
   go_wp2
   go_quiet ((go_at_call 24;first|exact Calls.quiet_of_same (hcn _ (by (repeat' (first|with_reducible (first|exact Below.refl _ _|assumption|refine Below.drew ?_|refine A3 ?_ _|refine Below.alloc ?_ ?_ _|refine Below.setCell ?_ ?_ _)|omega|(simp;done)|(simp;omega)))))|exact M8 (hcn _ (by (repeat' (first|with_reducible (first|exact Below.refl _ _|assumption|refine Below.drew ?_|refine A3 ?_ _|refine Below.alloc ?_ ?_ _|refine Below.setCell ?_ ?_ _)|omega|(simp;done)|(simp;omega)))))))
   go_wp2
   have z1:=fun k=>(((((hF.alloc (.cells #[.pointer (some ⟨g,off+j * 4,none⟩)] 93)).drewN k).set 0 (.int .i64 lv)).set 1 (.int .i64 j)).cells).1
   refine bodyPost_ret (v:=.agg #[.int .i64 lv,.int .i64 j]) (by simp [results,Tryz.results14,go_sem,z1]) rfl ⟨by rw [HH.out],by (repeat' (first|with_reducible (first|exact Below.refl _ _|assumption|refine Below.drew ?_|refine A3 ?_ _|refine Below.alloc ?_ ?_ _|refine Below.setCell ?_ ?_ _)|omega|(simp;done)|(simp;omega)))⟩
  rw [p6] at hcv
  rw [p7] at hcn
  cases p8:via.any (fun s=>decide (s∈no))
  case true=>
   have HH:=Lib.hid (g1 (e:=8) (by unfold M4;dsimp only;rw [if_neg q14,if_neg q5,if_neg (by simp [p6]),if_neg (by simp [p7]),if_pos p8]) (by decide))
   have HC:=Lib.hid hcc
   rw [p8] at HC
   clear q14 q5 p6 p7 p8
   clear g0 g1 hcc
   go_wp2
   go_quiet (fail)
   go_wp2
   go_quiet ((go_at_call 24;first|exact Calls.quiet_of_same (hcv _ (by (repeat' (first|with_reducible (first|exact Below.refl _ _|assumption|refine Below.drew ?_|refine A3 ?_ _|refine Below.alloc ?_ ?_ _|refine Below.setCell ?_ ?_ _)|omega|(simp;done)|(simp;omega)))))|exact M8 (hcv _ (by (repeat' (first|with_reducible (first|exact Below.refl _ _|assumption|refine Below.drew ?_|refine A3 ?_ _|refine Below.alloc ?_ ?_ _|refine Below.setCell ?_ ?_ _)|omega|(simp;done)|(simp;omega)))))))
   go_wp2
   go_quiet ((go_at_call 24;first|exact Calls.quiet_of_same (hcn _ (by (repeat' (first|with_reducible (first|exact Below.refl _ _|assumption|refine Below.drew ?_|refine A3 ?_ _|refine Below.alloc ?_ ?_ _|refine Below.setCell ?_ ?_ _)|omega|(simp;done)|(simp;omega)))))|exact M8 (hcn _ (by (repeat' (first|with_reducible (first|exact Below.refl _ _|assumption|refine Below.drew ?_|refine A3 ?_ _|refine Below.alloc ?_ ?_ _|refine Below.setCell ?_ ?_ _)|omega|(simp;done)|(simp;omega)))))))
   go_wp2_with fail
   refine (HC.out _ _ (by (repeat' (first|with_reducible (first|exact Below.refl _ _|assumption|refine Below.drew ?_|refine A3 ?_ _|refine Below.alloc ?_ ?_ _|refine Below.setCell ?_ ?_ _)|omega|(simp;done)|(simp;omega)))) (by first|(go_simp;done)|(simp [go_sem];done))).mono ?_
   rintro e w1 ⟨rfl,rfl⟩
   clear HC
   go_wp2
   have z1:=fun k=>(((((hF.alloc (.cells #[.pointer (some ⟨g,off+j * 4,none⟩)] 93)).drewN k).set 0 (.int .i64 8)).set 1 (.int .i64 j)).cells).1
   refine bodyPost_ret (v:=.agg #[.int .i64 8,.int .i64 j]) (by simp [results,Tryz.results14,go_sem,z1]) rfl ⟨by rw [HH.out],by (repeat' (first|with_reducible (first|exact Below.refl _ _|assumption|refine Below.drew ?_|refine A3 ?_ _|refine Below.alloc ?_ ?_ _|refine Below.setCell ?_ ?_ _)|omega|(simp;done)|(simp;omega)))⟩
  have HG:=Lib.hid (g0 (by unfold M4;dsimp only;rw [if_neg q14,if_neg q5,if_neg (by simp [p6]),if_neg (by simp [p7]),if_neg (by simp [p8])]))
  have HC:=Lib.hid hcc
  rw [p8] at HC
  clear q14 q5 p6 p7 p8
  clear g0 g1 hcc
  go_wp2
  go_quiet (fail)
  go_wp2
  go_quiet ((go_at_call 24;first|exact Calls.quiet_of_same (hcv _ (by (repeat' (first|with_reducible (first|exact Below.refl _ _|assumption|refine Below.drew ?_|refine A3 ?_ _|refine Below.alloc ?_ ?_ _|refine Below.setCell ?_ ?_ _)|omega|(simp;done)|(simp;omega)))))|exact M8 (hcv _ (by (repeat' (first|with_reducible (first|exact Below.refl _ _|assumption|refine Below.drew ?_|refine A3 ?_ _|refine Below.alloc ?_ ?_ _|refine Below.setCell ?_ ?_ _)|omega|(simp;done)|(simp;omega)))))))
  go_wp2
  go_quiet ((go_at_call 24;first|exact Calls.quiet_of_same (hcn _ (by (repeat' (first|with_reducible (first|exact Below.refl _ _|assumption|refine Below.drew ?_|refine A3 ?_ _|refine Below.alloc ?_ ?_ _|refine Below.setCell ?_ ?_ _)|omega|(simp;done)|(simp;omega)))))|exact M8 (hcn _ (by (repeat' (first|with_reducible (first|exact Below.refl _ _|assumption|refine Below.drew ?_|refine A3 ?_ _|refine Below.alloc ?_ ?_ _|refine Below.setCell ?_ ?_ _)|omega|(simp;done)|(simp;omega)))))))
  go_wp2_with fail
  refine (HC.out _ _ (by (repeat' (first|with_reducible (first|exact Below.refl _ _|assumption|refine Below.drew ?_|refine A3 ?_ _|refine Below.alloc ?_ ?_ _|refine Below.setCell ?_ ?_ _)|omega|(simp;done)|(simp;omega)))) (by first|(go_simp;done)|(simp [go_sem];done))).mono ?_
  rintro e w1 ⟨rfl,rfl⟩
  clear HC
  go_wp2
  case roundEnd=>
   go_roundw
   case rel=>exact ⟨j+1,by omega,by go_num,HG,by (repeat' (first|with_reducible (first|exact Below.refl _ _|assumption|refine Below.drew ?_|refine A3 ?_ _|refine Below.alloc ?_ ?_ _|refine Below.setCell ?_ ?_ _)|omega|(simp;done)|(simp;omega))),((hF.alloc _).drewN _)⟩
   case measure=>simp [intOf];omega
end Go.Proofs.YtampcbncgofkoaaGreatDoor
