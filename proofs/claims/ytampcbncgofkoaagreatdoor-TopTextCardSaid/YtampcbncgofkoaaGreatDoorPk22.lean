/- Texts of this proof, one behind the other. -/
import Derived.Test.YtampcbncgofkoaaGreatDoorPk20
set_option linter.unusedSimpArgs false
set_option linter.unusedVariables false
set_option maxRecDepth 100000
set_option maxHeartbeats 16000000
namespace Go.St
theorem B4v {n:Int} {ls:List X9} {c:Int × Int} {j:Nat} (hj:j<ls.length) (h:c=O4 n ((ls.take j).map J3) j (ls.drop j)) (hl:T6 n ((ls.take j).map J3) ls[j]=0):
  c=O4 n ((ls.take (j+1)).map J3) ((j+1:Nat):Int) (ls.drop (j+1)):=by
 rw [h,List.drop_eq_getElem_cons hj,O4,if_pos hl,List.take_succ_eq_append_getElem hj,List.map_append]
 rfl
theorem B3v {n:Int} {ls:List X9} {c:Int × Int} {j:Nat} (hj:j<ls.length) (h:c=O4 n ((ls.take j).map J3) j (ls.drop j)) {e:Int} (hl:T6 n ((ls.take j).map J3) ls[j]=e) (he:e≠0):c=(e,(j:Int)):=by
 rw [h,List.drop_eq_getElem_cons hj,O4,hl,if_neg he]
theorem B40 {n:Int} {ls:List X9} {c:Int × Int} {j:Nat} (hj:¬j<ls.length) (h:c=O4 n ((ls.take j).map J3) j (ls.drop j)):c=(0,0):=by
 rw [h,List.drop_of_length_le (by omega)];rfl
theorem A7k {κ:Type} [DecidableEq κ] (k:κ):A25 k []=none:=rfl
theorem A81 {κ:Type} [DecidableEq κ] (k:κ):∀ (l:List (κ × Value)) (i j:Nat),(U0 k l i).map (·.2)=(U0 k l j).map (·.2)
 |[],_,_=>rfl
 |(a,v)::r,i,j=>by
  simp only [U0]
  by_cases h:k=a
  ·simp [h]
  ·simp only [if_neg h];exact A81 k r _ _
theorem Y9 {κ:Type} [DecidableEq κ] (k a:κ) (v:Value) (r:List (κ × Value)):A25 k ((a,v)::r)=if k=a then some v else A25 k r:=by
 unfold A25
 simp only [U0]
 by_cases h:k=a
 ·simp [h]
 ·simp only [if_neg h];exact A81 k r _ _
theorem A5h {κ:Type} [DecidableEq κ] (k p:κ) (v:Value):∀ l:List (κ × Value),A25 p (A2x k v l)=if p=k then some v else A25 p l
 |[]=>by simp [A2x,Y9,A7k]
 |(a,u)::r=>by
  simp only [A2x]
  by_cases h:k=a
  ·subst h
   rw [if_pos rfl,Y9,Y9]
   by_cases h2:p=k<;>simp [h2]
  ·rw [if_neg h,Y9,Y9,A5h k p v r]
   by_cases h2:p=a
   ·subst h2
    have:¬p=k:=fun e=>h e.symm
    simp [this]
   ·simp [h2]
def W6 (ents:List ((Int × Int) × Value)) (had:List (Int × Int)):Prop:=∀ p,(A25 p ents).getD (.bool false)=.bool (decide (p∈had))
theorem W6.nil:W6 [] []:=fun p=>by simp [A7k]
theorem W6.set {ents:List ((Int × Int) × Value)} {had:List (Int × Int)} (h:W6 ents had) (k:Int × Int):W6 (A2x k (.bool true) ents) (had++[k]):=by
 intro p
 rw [A5h]
 by_cases hp:p=k
 ·simp [hp]
 ·rw [if_neg hp,h p];simp [hp]
end Go.St
namespace Go.Proofs.YtampcbncgofkoaaGreatDoor
open Go.RowKit Go.St
theorem FZ:Hid (∀ w,(zeroValue 4).run Tryz.prog w=.ok (.bool false) w):=fun w=>by kernel_rfl
theorem T9 (t:C5) (cs:List Value) (ok:Nat→Prop) (w:World) (h:I5.rep ok w cs t):
  Calls Tryz.prog 13 #[.agg cs.toArray] w fun e w'=>e=.returned (.agg #[.int .i64 (B6 t).1,.int .i64 (B6 t).2])∧Below w.heap.size w w':=by
 obtain ⟨la,lc,rfl,hn,hr⟩:=h
 obtain ⟨n,ls⟩:=t
 dsimp only at *
 have hlx:=hr.len_le
 have hmm:=@run_makeMap Tryz.prog
 by_cases h0:n<1∨8<n∨28<ls.length
 ·have hw:B6 ⟨n,ls⟩=(5,0):=by unfold B6;rw [if_pos h0]
  rw [hw]
  clear hw
  by_cases p1:n<1
  ·go_enter Tryz.func13,Tryz.ntmps13
   go_wp2
   refine bodyPost_ret (v:=.agg #[.int .i64 5,.int .i64 0]) (by simp [results,Tryz.results13,go_sem]) rfl ⟨rfl,by (repeat' (first|with_reducible (first|exact Below.refl _ _|assumption|refine Below.drew ?_|refine A3 ?_ _|refine Below.alloc ?_ ?_ _|refine Below.setCell ?_ ?_ _)|omega|(simp;done)|(simp;omega)))⟩
  by_cases p2:8<n
  ·go_enter Tryz.func13,Tryz.ntmps13
   go_wp2
   refine bodyPost_ret (v:=.agg #[.int .i64 5,.int .i64 0]) (by simp [results,Tryz.results13,go_sem]) rfl ⟨rfl,by (repeat' (first|with_reducible (first|exact Below.refl _ _|assumption|refine Below.drew ?_|refine A3 ?_ _|refine Below.alloc ?_ ?_ _|refine Below.setCell ?_ ?_ _)|omega|(simp;done)|(simp;omega)))⟩
  have p3:(28:Int)<(ls.length:Int):=by omega
  clear h0
  go_enter Tryz.func13,Tryz.ntmps13
  go_wp2
  refine bodyPost_ret (v:=.agg #[.int .i64 5,.int .i64 0]) (by simp [results,Tryz.results13,go_sem]) rfl ⟨rfl,by (repeat' (first|with_reducible (first|exact Below.refl _ _|assumption|refine Below.drew ?_|refine A3 ?_ _|refine Below.alloc ?_ ?_ _|refine Below.setCell ?_ ?_ _)|omega|(simp;done)|(simp;omega)))⟩
 have hw:B6 ⟨n,ls⟩=O4 n [] 0 ls:=by unfold B6;rw [if_neg h0]
 have hst:Hid (B6 ⟨n,ls⟩=O4 n ((ls.take 0).map J3) ((0:Nat):Int) (ls.drop 0)):=hw
 generalize B6 ⟨n,ls⟩=c at *
 clear hw
 have p1:¬n<1:=by omega
 have p2:¬8<n:=by omega
 have p3:¬(28:Int)<(ls.length:Int):=by omega
 clear h0
 go_enter Tryz.func13,Tryz.ntmps13
 go_wp2
 go_loopw [4,5,6,26] (fun _ _ _ i wr=>∃ (j:Nat) (ents:List ((Int × Int) × Value)),j≤ls.length∧i=.int .i64 j∧Hid (c=O4 n ((ls.take j).map J3) j (ls.drop j))∧Hid (W6 ents ((ls.take j).map J3))∧R6 A3l wr (w.heap.size+2) ents∧Below w.heap.size w wr∧
   A6 wr w.heap.size 24 #[.int .i64 n,.slice la ls.length lc]∧A6 wr (w.heap.size+1) 29 #[.int .i64 0,.int .i64 0]) (fun _ _ _ i _=>ls.length - (intOf i).toNat)
 case atStart=>exact ⟨0,[],Nat.zero_le _,rfl,hst,W6.nil,R6.made' _ _ _ (by simp),by (repeat' (first|with_reducible (first|exact Below.refl _ _|assumption|refine Below.drew ?_|refine A3 ?_ _|refine Below.alloc ?_ ?_ _|refine Below.setCell ?_ ?_ _)|omega|(simp;done)|(simp;omega))),((A6.new rfl).alloc _).alloc _,(A6.new (by simp)).alloc _⟩
 case round=>
  obtain ⟨j,ents,hj,rfl,hall,hents,hmap,hb,hT,hF⟩:=hrel
  have hsz:=hmap.lt
  obtain ⟨r1,r2⟩:=hT.cells
  obtain ⟨r3,r4⟩:=hF.cells
  by_cases hlt:j<ls.length
  ·obtain ⟨g,off,rfl,_,hbl,cs,hcs,hce⟩:=hr.get (List.getElem?_eq_getElem hlt)
   obtain ⟨rfl,_⟩:=hcs
   have e0:=B8 hb hbl (hce 0 _ rfl)
   have e1:=B8 hb hbl (hce 1 _ rfl)
   have e2:=B8 hb hbl (hce 2 _ rfl)
   clear hce
   simp only [A0e,Nat.add_zero] at e0 e1 e2
   have b0:(0:Int)≤(j:Int):=by omega
   have b1:(j:Int)<(ls.length:Int):=by omega
   have hz1:w.heap.size+1<wr.heap.size:=by omega
   have hz0:w.heap.size<wr.heap.size:=by omega
   have hgo:=B4v (c:=c) hlt hall.out
   have hhit:=@B3v n ls c j hlt hall.out
   generalize hx:ls[j]=x at *
   have htk:Hid (ls.take (j+1)=ls.take j++[x]):=by show _=_;rw [List.take_succ_eq_append_getElem hlt,hx]
   obtain ⟨xa,xb,xc⟩:=x
   dsimp only at *
   clear hx hall
   rcases Int.lt_trichotomy xa xb with o1|o1|o1
   ·have o2:¬xb<xa:=by omega
    have hmin:min xa xb=xa:=by omega
    have hmax:max xa xb=xb:=by omega
    simp only [T6,J3,hmin,hmax] at hgo hhit
    by_cases q1:xa<0
    ·have HH:=Lib.hid (hhit (e:=6) (by simp [q1]) (by decide))
     clear hgo hhit
     go_wp2
     have G:=(((hF.set 0 (.int .i64 6)).set 1 (.int .i64 j)).alloc (.cells #[.int .i64 xa,.int .i64 xb,.int .i64 xc] 87)).alloc (.cells #[.int .i64 xa,.int .i64 xb] 92)
     obtain ⟨z1,z2⟩:=G.cells
     refine bodyPost_ret (v:=.agg #[.int .i64 6,.int .i64 j]) (by simp [results,Tryz.results13,go_sem,z1]) rfl ⟨by rw [HH.out],by (repeat' (first|with_reducible (first|exact Below.refl _ _|assumption|refine Below.drew ?_|refine A3 ?_ _|refine Below.alloc ?_ ?_ _|refine Below.setCell ?_ ?_ _)|omega|(simp;done)|(simp;omega)))⟩
    by_cases q2:n≤xb
    ·have HH:=Lib.hid (hhit (e:=6) (by simp [q2]) (by decide))
     clear hgo hhit
     go_wp2
     have G:=(((hF.set 0 (.int .i64 6)).set 1 (.int .i64 j)).alloc (.cells #[.int .i64 xa,.int .i64 xb,.int .i64 xc] 87)).alloc (.cells #[.int .i64 xa,.int .i64 xb] 92)
     obtain ⟨z1,z2⟩:=G.cells
     refine bodyPost_ret (v:=.agg #[.int .i64 6,.int .i64 j]) (by simp [results,Tryz.results13,go_sem,z1]) rfl ⟨by rw [HH.out],by (repeat' (first|with_reducible (first|exact Below.refl _ _|assumption|refine Below.drew ?_|refine A3 ?_ _|refine Below.alloc ?_ ?_ _|refine Below.setCell ?_ ?_ _)|omega|(simp;done)|(simp;omega)))⟩
    have q0:(xa==xb)=false:=by rw [beq_eq_false_iff_ne];omega
    have q0':¬xa=xb:=by omega
    by_cases q3:xc<1
    ·have HH:=Lib.hid (hhit (e:=3) (by simp [q1,q2,q0',q3]) (by decide))
     clear hgo hhit
     go_wp2
     have G:=(((hF.set 0 (.int .i64 3)).set 1 (.int .i64 j)).alloc (.cells #[.int .i64 xa,.int .i64 xb,.int .i64 xc] 87)).alloc (.cells #[.int .i64 xa,.int .i64 xb] 92)
     obtain ⟨z1,z2⟩:=G.cells
     refine bodyPost_ret (v:=.agg #[.int .i64 3,.int .i64 j]) (by simp [results,Tryz.results13,go_sem,z1]) rfl ⟨by rw [HH.out],by (repeat' (first|with_reducible (first|exact Below.refl _ _|assumption|refine Below.drew ?_|refine A3 ?_ _|refine Below.alloc ?_ ?_ _|refine Below.setCell ?_ ?_ _)|omega|(simp;done)|(simp;omega)))⟩
    by_cases q4:1000<xc
    ·have HH:=Lib.hid (hhit (e:=3) (by simp [q1,q2,q0',q4]) (by decide))
     clear hgo hhit
     go_wp2
     have G:=(((hF.set 0 (.int .i64 3)).set 1 (.int .i64 j)).alloc (.cells #[.int .i64 xa,.int .i64 xb,.int .i64 xc] 87)).alloc (.cells #[.int .i64 xa,.int .i64 xb] 92)
     obtain ⟨z1,z2⟩:=G.cells
     refine bodyPost_ret (v:=.agg #[.int .i64 3,.int .i64 j]) (by simp [results,Tryz.results13,go_sem,z1]) rfl ⟨by rw [HH.out],by (repeat' (first|with_reducible (first|exact Below.refl _ _|assumption|refine Below.drew ?_|refine A3 ?_ _|refine Below.alloc ?_ ?_ _|refine Below.setCell ?_ ?_ _)|omega|(simp;done)|(simp;omega)))⟩
    by_cases q5:(xa,xb)∈(ls.take j).map J3
    ·have HH:=Lib.hid (hhit (e:=7) (by simp only [if_neg q0',if_pos q5];simp [q1,q2,q3,q4]) (by decide))
     have hget:(A25 (xa,xb) ents).getD (.bool false)=.bool true:=by rw [hents.out];simp only [q5,decide_true]
     clear hgo hhit q5
     go_wp2_with (refine S5 (enc:=A3l) rfl _ _ 91 rfl 92 4 Tryz.underlying91 Z7 (hmap.below (B:=w.heap.size+3) (by (repeat' (first|with_reducible (first|exact Below.refl _ _|assumption|refine Below.drew ?_|refine A3 ?_ _|refine Below.alloc ?_ ?_ _|refine Below.setCell ?_ ?_ _)|omega|(simp;done)|(simp;omega)))) (by omega)) (xa,xb) (.bool false) FZ.out rfl rfl ?_;rw [hget])
     have G:=(((hF.set 0 (.int .i64 7)).set 1 (.int .i64 j)).alloc (.cells #[.int .i64 xa,.int .i64 xb,.int .i64 xc] 87)).alloc (.cells #[.int .i64 xa,.int .i64 xb] 92)
     obtain ⟨z1,z2⟩:=G.cells
     refine bodyPost_ret (v:=.agg #[.int .i64 7,.int .i64 j]) (by simp [results,Tryz.results13,go_sem,z1]) rfl ⟨by rw [HH.out],by (repeat' (first|with_reducible (first|exact Below.refl _ _|assumption|refine Below.drew ?_|refine A3 ?_ _|refine Below.alloc ?_ ?_ _|refine Below.setCell ?_ ?_ _)|omega|(simp;done)|(simp;omega)))⟩
    have HG:=Lib.hid (hgo (by simp only [if_neg q0',if_neg q5];simp [q1,q2,q3,q4]))
    have hget:(A25 (xa,xb) ents).getD (.bool false)=.bool false:=by rw [hents.out];simp only [q5,decide_false]
    have HTT:Hid (W6 (A2x (xa,xb) (.bool true) ents) ((ls.take (j+1)).map J3)):=by
     show W6 _ _
     rw [htk.out,List.map_append,List.map_cons,List.map_nil,J3,hmin,hmax]
     exact hents.out.set _
    clear hgo hhit q5
    go_wp2_with (first
     |(refine S5 (enc:=A3l) rfl _ _ 91 rfl 92 4 Tryz.underlying91 Z7 (hmap.below (B:=w.heap.size+3) (by (repeat' (first|with_reducible (first|exact Below.refl _ _|assumption|refine Below.drew ?_|refine A3 ?_ _|refine Below.alloc ?_ ?_ _|refine Below.setCell ?_ ?_ _)|omega|(simp;done)|(simp;omega)))) (by omega)) (xa,xb) (.bool false) FZ.out rfl rfl ?_;rw [hget])
     |(refine A0s (enc:=A3l) rfl _ _ _ 91 (by first|exact Or.inl rfl|exact Or.inr rfl) 92 4 Tryz.underlying91 Z7 (hmap.below (B:=w.heap.size+3) (by (repeat' (first|with_reducible (first|exact Below.refl _ _|assumption|refine Below.drew ?_|refine A3 ?_ _|refine Below.alloc ?_ ?_ _|refine Below.setCell ?_ ?_ _)|omega|(simp;done)|(simp;omega)))) (by omega)) (xa,xb) (.bool true) rfl rfl rfl ?_;go_must (
       intro w3 hm3 hg3
       have hb3:=D6 (B:=w.heap.size+2) hg3 (fun k hk=>by simp at hk;omega) (by simp;omega)
       have G0:A6 w3 w.heap.size 24 _:=((hT.alloc (.cells #[.int .i64 xa,.int .i64 xb,.int .i64 xc] 87)).alloc (.cells #[.int .i64 xa,.int .i64 xb] 92)).below hb3 (by omega)
       have G1:A6 w3 (w.heap.size+1) 29 _:=((hF.alloc (.cells #[.int .i64 xa,.int .i64 xb,.int .i64 xc] 87)).alloc (.cells #[.int .i64 xa,.int .i64 xb] 92)).below hb3 (by omega)
       have hB3:Below w.heap.size w w3:=Below.trans (by (repeat' (first|with_reducible (first|exact Below.refl _ _|assumption|refine Below.drew ?_|refine A3 ?_ _|refine Below.alloc ?_ ?_ _|refine Below.setCell ?_ ?_ _)|omega|(simp;done)|(simp;omega)))) (hb3.mono (by omega))))
     |fail)
    case roundEnd=>
     go_roundw
     case rel=>exact ⟨j+1,_,by omega,by go_num,HG,HTT,hm3,hB3,G0,G1⟩
     case measure=>simp [intOf];omega
   ·subst o1
    have o2:¬xa<xa:=by omega
    have hmin:min xa xa=xa:=by omega
    have hmax:max xa xa=xa:=by omega
    simp only [T6,J3,hmin,hmax] at hgo hhit
    by_cases q1:xa<0
    ·have HH:=Lib.hid (hhit (e:=6) (by simp [q1]) (by decide))
     clear hgo hhit
     go_wp2
     have G:=(((hF.set 0 (.int .i64 6)).set 1 (.int .i64 j)).alloc (.cells #[.int .i64 xa,.int .i64 xa,.int .i64 xc] 87)).alloc (.cells #[.int .i64 xa,.int .i64 xa] 92)
     obtain ⟨z1,z2⟩:=G.cells
     refine bodyPost_ret (v:=.agg #[.int .i64 6,.int .i64 j]) (by simp [results,Tryz.results13,go_sem,z1]) rfl ⟨by rw [HH.out],by (repeat' (first|with_reducible (first|exact Below.refl _ _|assumption|refine Below.drew ?_|refine A3 ?_ _|refine Below.alloc ?_ ?_ _|refine Below.setCell ?_ ?_ _)|omega|(simp;done)|(simp;omega)))⟩
    by_cases q2:n≤xa
    ·have HH:=Lib.hid (hhit (e:=6) (by simp [q2]) (by decide))
     clear hgo hhit
     go_wp2
     have G:=(((hF.set 0 (.int .i64 6)).set 1 (.int .i64 j)).alloc (.cells #[.int .i64 xa,.int .i64 xa,.int .i64 xc] 87)).alloc (.cells #[.int .i64 xa,.int .i64 xa] 92)
     obtain ⟨z1,z2⟩:=G.cells
     refine bodyPost_ret (v:=.agg #[.int .i64 6,.int .i64 j]) (by simp [results,Tryz.results13,go_sem,z1]) rfl ⟨by rw [HH.out],by (repeat' (first|with_reducible (first|exact Below.refl _ _|assumption|refine Below.drew ?_|refine A3 ?_ _|refine Below.alloc ?_ ?_ _|refine Below.setCell ?_ ?_ _)|omega|(simp;done)|(simp;omega)))⟩
    have HH:=Lib.hid (hhit (e:=8) (by simp [q1,q2]) (by decide))
    clear hgo hhit
    go_wp2
    have G:=(((hF.set 0 (.int .i64 8)).set 1 (.int .i64 j)).alloc (.cells #[.int .i64 xa,.int .i64 xa,.int .i64 xc] 87)).alloc (.cells #[.int .i64 xa,.int .i64 xa] 92)
    obtain ⟨z1,z2⟩:=G.cells
    refine bodyPost_ret (v:=.agg #[.int .i64 8,.int .i64 j]) (by simp [results,Tryz.results13,go_sem,z1]) rfl ⟨by rw [HH.out],by (repeat' (first|with_reducible (first|exact Below.refl _ _|assumption|refine Below.drew ?_|refine A3 ?_ _|refine Below.alloc ?_ ?_ _|refine Below.setCell ?_ ?_ _)|omega|(simp;done)|(simp;omega)))⟩
   ·have o2:¬xa<xb:=by omega
    have hmin:min xa xb=xb:=by omega
    have hmax:max xa xb=xa:=by omega
    simp only [T6,J3,hmin,hmax] at hgo hhit
    by_cases q1:xb<0
    ·have HH:=Lib.hid (hhit (e:=6) (by simp [q1]) (by decide))
     clear hgo hhit
     go_wp2
     have G:=(((hF.set 0 (.int .i64 6)).set 1 (.int .i64 j)).alloc (.cells #[.int .i64 xa,.int .i64 xb,.int .i64 xc] 87)).alloc (.cells #[.int .i64 xb,.int .i64 xa] 92)
     obtain ⟨z1,z2⟩:=G.cells
     refine bodyPost_ret (v:=.agg #[.int .i64 6,.int .i64 j]) (by simp [results,Tryz.results13,go_sem,z1]) rfl ⟨by rw [HH.out],by (repeat' (first|with_reducible (first|exact Below.refl _ _|assumption|refine Below.drew ?_|refine A3 ?_ _|refine Below.alloc ?_ ?_ _|refine Below.setCell ?_ ?_ _)|omega|(simp;done)|(simp;omega)))⟩
    by_cases q2:n≤xa
    ·have HH:=Lib.hid (hhit (e:=6) (by simp [q2]) (by decide))
     clear hgo hhit
     go_wp2
     have G:=(((hF.set 0 (.int .i64 6)).set 1 (.int .i64 j)).alloc (.cells #[.int .i64 xa,.int .i64 xb,.int .i64 xc] 87)).alloc (.cells #[.int .i64 xb,.int .i64 xa] 92)
     obtain ⟨z1,z2⟩:=G.cells
     refine bodyPost_ret (v:=.agg #[.int .i64 6,.int .i64 j]) (by simp [results,Tryz.results13,go_sem,z1]) rfl ⟨by rw [HH.out],by (repeat' (first|with_reducible (first|exact Below.refl _ _|assumption|refine Below.drew ?_|refine A3 ?_ _|refine Below.alloc ?_ ?_ _|refine Below.setCell ?_ ?_ _)|omega|(simp;done)|(simp;omega)))⟩
    have q0:(xa==xb)=false:=by rw [beq_eq_false_iff_ne];omega
    have q0':¬xa=xb:=by omega
    by_cases q3:xc<1
    ·have HH:=Lib.hid (hhit (e:=3) (by simp [q1,q2,q0',q3]) (by decide))
     clear hgo hhit
     go_wp2
     have G:=(((hF.set 0 (.int .i64 3)).set 1 (.int .i64 j)).alloc (.cells #[.int .i64 xa,.int .i64 xb,.int .i64 xc] 87)).alloc (.cells #[.int .i64 xb,.int .i64 xa] 92)
     obtain ⟨z1,z2⟩:=G.cells
     refine bodyPost_ret (v:=.agg #[.int .i64 3,.int .i64 j]) (by simp [results,Tryz.results13,go_sem,z1]) rfl ⟨by rw [HH.out],by (repeat' (first|with_reducible (first|exact Below.refl _ _|assumption|refine Below.drew ?_|refine A3 ?_ _|refine Below.alloc ?_ ?_ _|refine Below.setCell ?_ ?_ _)|omega|(simp;done)|(simp;omega)))⟩
    by_cases q4:1000<xc
    ·have HH:=Lib.hid (hhit (e:=3) (by simp [q1,q2,q0',q4]) (by decide))
     clear hgo hhit
     go_wp2
     have G:=(((hF.set 0 (.int .i64 3)).set 1 (.int .i64 j)).alloc (.cells #[.int .i64 xa,.int .i64 xb,.int .i64 xc] 87)).alloc (.cells #[.int .i64 xb,.int .i64 xa] 92)
     obtain ⟨z1,z2⟩:=G.cells
     refine bodyPost_ret (v:=.agg #[.int .i64 3,.int .i64 j]) (by simp [results,Tryz.results13,go_sem,z1]) rfl ⟨by rw [HH.out],by (repeat' (first|with_reducible (first|exact Below.refl _ _|assumption|refine Below.drew ?_|refine A3 ?_ _|refine Below.alloc ?_ ?_ _|refine Below.setCell ?_ ?_ _)|omega|(simp;done)|(simp;omega)))⟩
    by_cases q5:(xb,xa)∈(ls.take j).map J3
    ·have HH:=Lib.hid (hhit (e:=7) (by simp only [if_neg q0',if_pos q5];simp [q1,q2,q3,q4]) (by decide))
     have hget:(A25 (xb,xa) ents).getD (.bool false)=.bool true:=by rw [hents.out];simp only [q5,decide_true]
     clear hgo hhit q5
     go_wp2_with (refine S5 (enc:=A3l) rfl _ _ 91 rfl 92 4 Tryz.underlying91 Z7 (hmap.below (B:=w.heap.size+3) (by (repeat' (first|with_reducible (first|exact Below.refl _ _|assumption|refine Below.drew ?_|refine A3 ?_ _|refine Below.alloc ?_ ?_ _|refine Below.setCell ?_ ?_ _)|omega|(simp;done)|(simp;omega)))) (by omega)) (xb,xa) (.bool false) FZ.out rfl rfl ?_;rw [hget])
     have G:=(((hF.set 0 (.int .i64 7)).set 1 (.int .i64 j)).alloc (.cells #[.int .i64 xa,.int .i64 xb,.int .i64 xc] 87)).alloc (.cells #[.int .i64 xb,.int .i64 xa] 92)
     obtain ⟨z1,z2⟩:=G.cells
     refine bodyPost_ret (v:=.agg #[.int .i64 7,.int .i64 j]) (by simp [results,Tryz.results13,go_sem,z1]) rfl ⟨by rw [HH.out],by (repeat' (first|with_reducible (first|exact Below.refl _ _|assumption|refine Below.drew ?_|refine A3 ?_ _|refine Below.alloc ?_ ?_ _|refine Below.setCell ?_ ?_ _)|omega|(simp;done)|(simp;omega)))⟩
    have HG:=Lib.hid (hgo (by simp only [if_neg q0',if_neg q5];simp [q1,q2,q3,q4]))
    have hget:(A25 (xb,xa) ents).getD (.bool false)=.bool false:=by rw [hents.out];simp only [q5,decide_false]
    have HTT:Hid (W6 (A2x (xb,xa) (.bool true) ents) ((ls.take (j+1)).map J3)):=by
     show W6 _ _
     rw [htk.out,List.map_append,List.map_cons,List.map_nil,J3,hmin,hmax]
     exact hents.out.set _
    clear hgo hhit q5
    go_wp2_with (first
     |(refine S5 (enc:=A3l) rfl _ _ 91 rfl 92 4 Tryz.underlying91 Z7 (hmap.below (B:=w.heap.size+3) (by (repeat' (first|with_reducible (first|exact Below.refl _ _|assumption|refine Below.drew ?_|refine A3 ?_ _|refine Below.alloc ?_ ?_ _|refine Below.setCell ?_ ?_ _)|omega|(simp;done)|(simp;omega)))) (by omega)) (xb,xa) (.bool false) FZ.out rfl rfl ?_;rw [hget])
     |(refine A0s (enc:=A3l) rfl _ _ _ 91 (by first|exact Or.inl rfl|exact Or.inr rfl) 92 4 Tryz.underlying91 Z7 (hmap.below (B:=w.heap.size+3) (by (repeat' (first|with_reducible (first|exact Below.refl _ _|assumption|refine Below.drew ?_|refine A3 ?_ _|refine Below.alloc ?_ ?_ _|refine Below.setCell ?_ ?_ _)|omega|(simp;done)|(simp;omega)))) (by omega)) (xb,xa) (.bool true) rfl rfl rfl ?_;go_must (
       intro w3 hm3 hg3
       have hb3:=D6 (B:=w.heap.size+2) hg3 (fun k hk=>by simp at hk;omega) (by simp;omega)
       have G0:A6 w3 w.heap.size 24 _:=((hT.alloc (.cells #[.int .i64 xa,.int .i64 xb,.int .i64 xc] 87)).alloc (.cells #[.int .i64 xb,.int .i64 xa] 92)).below hb3 (by omega)
       have G1:A6 w3 (w.heap.size+1) 29 _:=((hF.alloc (.cells #[.int .i64 xa,.int .i64 xb,.int .i64 xc] 87)).alloc (.cells #[.int .i64 xb,.int .i64 xa] 92)).below hb3 (by omega)
       have hB3:Below w.heap.size w w3:=Below.trans (by (repeat' (first|with_reducible (first|exact Below.refl _ _|assumption|refine Below.drew ?_|refine A3 ?_ _|refine Below.alloc ?_ ?_ _|refine Below.setCell ?_ ?_ _)|omega|(simp;done)|(simp;omega)))) (hb3.mono (by omega))))
     |fail)
    case roundEnd=>
     go_roundw
     case rel=>exact ⟨j+1,_,by omega,by go_num,HG,HTT,hm3,hB3,G0,G1⟩
     case measure=>simp [intOf];omega
  ·have HE:=Lib.hid (B40 hlt hall.out)
   have b1:¬(j:Int)<(ls.length:Int):=by omega
   have hz1:w.heap.size+1<wr.heap.size:=by omega
   clear hall
   go_wp2
   have G:=hF.set 0 (.int .i64 0)|>.set 1 (.int .i64 0)
   obtain ⟨z1,z2⟩:=G.cells
   refine bodyPost_ret (v:=.agg #[.int .i64 0,.int .i64 0]) (by simp [results,Tryz.results13,go_sem,z1]) rfl ⟨by rw [HE.out],by (repeat' (first|with_reducible (first|exact Below.refl _ _|assumption|refine Below.drew ?_|refine A3 ?_ _|refine Below.alloc ?_ ?_ _|refine Below.setCell ?_ ?_ _)|omega|(simp;done)|(simp;omega)))⟩
end Go.Proofs.YtampcbncgofkoaaGreatDoor
