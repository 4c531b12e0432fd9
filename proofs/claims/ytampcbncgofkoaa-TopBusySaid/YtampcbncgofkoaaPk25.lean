/- Texts of this proof, one behind the other. -/
import Derived.Test.YtampcbncgofkoaaPk23
set_option linter.unusedSimpArgs false
set_option linter.unusedVariables false
set_option maxRecDepth 100000
set_option maxHeartbeats 16000000
namespace Go.St
open Go.RowKit
theorem A8.stamps {ok:Nat→Prop} {w:World} {ax:Option Addr} {cx:Nat} {l:List J0} (h:A8 J6 ok w ax cx l) {j:Nat} {r:J0} (hr:l[j]? =some r):∃ b off,ax=some ⟨b,off,none⟩∧b<w.heap.size∧(I64 r.flow∧I64 r.ver)∧
  ∀ w',Below w.heap.size w w'→w'.cell? ⟨b,off+j * 2,none⟩=some (.int .i64 r.flow)∧w'.cell? ⟨b,off+j * 2+1,none⟩=some (.int .i64 r.ver):=by
 obtain ⟨b,off,rfl,_,hbl,cs,hcs,hce⟩:=h.get hr
 obtain ⟨rfl,h1,h2⟩:=hcs
 refine ⟨b,off,rfl,hbl,⟨h1,h2⟩,fun w' hb=>⟨?_,?_⟩⟩
 ·have:=B8 hb hbl (hce 0 _ rfl);simpa only [J6,Nat.add_zero] using this
 ·have:=B8 hb hbl (hce 1 _ rfl);simpa only [J6] using this
end Go.St
namespace Go.Proofs.Ytampcbncgofkoaa
open Go.RowKit Go.St
theorem A4p:(Try.prog.info? 135).map (fun i=>(i.zero,i.size,i.bytes))=some (some (.agg #[.int .i64 0,.int .i64 0]),2,16):=by kernel_rfl
theorem A6d (s:D8) (cs:List Value) (ok:Nat→Prop) (w:World) (h:E8.rep ok w cs s):
  Calls Try.prog 54 #[.agg cs.toArray] w fun e w'=>e=.returned (.int .i64 (N3 s))∧Below w.heap.size w w':=by
 obtain ⟨ra,rc,sa,sc,rfl,hr,hs⟩:=h
 obtain ⟨rs,ss⟩:=s
 dsimp only at *
 have hsx:=hs.len_le
 have HW1:Hid ((E5 rs).1≠0→N3 ⟨rs,ss⟩=(E5 rs).1):=fun h=>by unfold N3;exact if_pos h
 have HW2:Hid ((E5 rs).1=0→N3 ⟨rs,ss⟩=A34 (A1j ss 0) (ss.drop 0)):=fun h=>by unfold N3;exact if_neg (fun h2=>h2 h)
 generalize N3 ⟨rs,ss⟩=c at *
 go_enter Try.func54,Try.ntmps54
 go_wp2_with fail
 have hk0:=(A6.new (w:=w) (t:=76) (cs:=#[.slice ra rs.length rc,.slice sa ss.length sc]) rfl)
 have hb0:=G8 w (.cells #[.slice ra rs.length rc,.slice sa ss.length sc] 76)
 refine (A0a rs ok ra rc _ (hr.below hb0)).mono ?_
 rintro e w1 ⟨rfl,hb1⟩
 have hk1:=hk0.under hb1
 have hB1:Below w.heap.size w w1:=hb0.trans (hb1.mono hb0.size)
 have hk1l:=hk1.lt
 obtain ⟨k1,k2⟩:=hk1.cells
 generalize E5 rs=tw at *
 obtain ⟨tw1,tw2⟩:=tw
 dsimp only at *
 clear hk0 hb0 hb1
 by_cases h1:tw1=0
 case neg=>
  have h1':(tw1 !=0)=true:=by rw [bne_iff_ne];exact h1
  have HE:=Lib.hid (HW1.out h1)
  clear HW1 HW2 h1
  go_wp2
  go_ret;exact ⟨by rw [HE.out];rfl,by (repeat' (first|with_reducible (first|exact Below.refl _ _|assumption|refine Below.drew ?_|refine A3 ?_ _|refine Below.alloc ?_ ?_ _|refine Below.setCell ?_ ?_ _)|omega|(simp;done)|(simp;omega)))⟩
 subst h1
 have hst:=Lib.hid (HW2.out (by first|trivial|rfl))
 clear HW1 HW2
 go_wp2
 go_loopw [4,5,17] (fun _ _ i wr=>∃ j:Nat,j≤ss.length∧i=.int .i64 j∧Hid (c=A34 (A1j ss j) (ss.drop j))∧Below w.heap.size w wr∧A6 wr w.heap.size 76 #[.slice ra rs.length rc,.slice sa ss.length sc]) (fun _ _ i _=>ss.length - (intOf i).toNat)
 case atStart=>exact ⟨0,Nat.zero_le _,rfl,hst,by (repeat' (first|with_reducible (first|exact Below.refl _ _|assumption|refine Below.drew ?_|refine A3 ?_ _|refine Below.alloc ?_ ?_ _|refine Below.setCell ?_ ?_ _)|omega|(simp;done)|(simp;omega))),hk1.alloc _⟩
 case round=>
  clear hst k1 k2
  obtain ⟨j,hj,rfl,hS,hb,hK⟩:=hrel
  rename World=>wo
  obtain ⟨k1,k2⟩:=hK.cells
  have hKl:=hK.lt
  by_cases hlt:j<ss.length
  case neg=>
   have HE:=Lib.hid (B4p hS.out (by omega))
   have b1:¬(j:Int)<(ss.length:Int):=by omega
   clear hS
   go_wp2
   go_ret;exact ⟨I0 HE.out.symm,by (repeat' (first|with_reducible (first|exact Below.refl _ _|assumption|refine Below.drew ?_|refine A3 ?_ _|refine Below.alloc ?_ ?_ _|refine Below.setCell ?_ ?_ _)|omega|(simp;done)|(simp;omega)))⟩
  obtain ⟨x,hx⟩:∃ x,ss[j]? =some x:=⟨_,List.getElem?_eq_getElem hlt⟩
  obtain ⟨b,off,rfl,hbl,hri,hce⟩:=hs.stamps hx
  obtain ⟨e0,e1⟩:=hce _ hb
  have HT:=Lib.hid (B3x hS.out hx)
  have b0:(0:Int)≤(j:Int):=by omega
  have b1:(j:Int)<(ss.length:Int):=by omega
  have hzz:=hb.size
  by_cases hro:W8 x
  ·rw [if_pos hro] at HT
   have HQ:=Lib.hid HT.out
   clear HT hS
   unfold W8 at hro
   by_cases o1:x.flow<0
   ·go_wp2
    go_ret;exact ⟨I0 HQ.out.symm,by (repeat' (first|with_reducible (first|exact Below.refl _ _|assumption|refine Below.drew ?_|refine A3 ?_ _|refine Below.alloc ?_ ?_ _|refine Below.setCell ?_ ?_ _)|omega|(simp;done)|(simp;omega)))⟩
   by_cases o2:x.flow≥12
   ·go_wp2
    go_ret;exact ⟨I0 HQ.out.symm,by (repeat' (first|with_reducible (first|exact Below.refl _ _|assumption|refine Below.drew ?_|refine A3 ?_ _|refine Below.alloc ?_ ?_ _|refine Below.setCell ?_ ?_ _)|omega|(simp;done)|(simp;omega)))⟩
   by_cases o3:x.ver<1
   ·go_wp2
    go_ret;exact ⟨I0 HQ.out.symm,by (repeat' (first|with_reducible (first|exact Below.refl _ _|assumption|refine Below.drew ?_|refine A3 ?_ _|refine Below.alloc ?_ ?_ _|refine Below.setCell ?_ ?_ _)|omega|(simp;done)|(simp;omega)))⟩
   have o4:x.ver>1000:=by omega
   go_wp2
   go_ret;exact ⟨I0 HQ.out.symm,by (repeat' (first|with_reducible (first|exact Below.refl _ _|assumption|refine Below.drew ?_|refine A3 ?_ _|refine Below.alloc ?_ ?_ _|refine Below.setCell ?_ ?_ _)|omega|(simp;done)|(simp;omega)))⟩
  rw [if_neg hro] at HT
  unfold W8 at hro
  have o1:¬x.flow<0:=by omega
  have o2:¬x.flow≥12:=by omega
  have o3:¬x.ver<1:=by omega
  have o4:¬x.ver>1000:=by omega
  clear hro hS
  cases j with
  |zero=>
   simp only [Nat.zero_mul,Nat.add_zero] at e0 e1
   have HT2:Hid (c=A34 (A1j ss (0+1)) (ss.drop (0+1))):=HT.out
   clear HT
   go_wp2
   go_quiet (fail)
   go_wp2
   case roundEnd=>
    go_roundw
    case rel=>exact ⟨1,by omega,by go_num,HT2,by (repeat' (first|with_reducible (first|exact Below.refl _ _|assumption|refine Below.drew ?_|refine A3 ?_ _|refine Below.alloc ?_ ?_ _|refine Below.setCell ?_ ?_ _)|omega|(simp;done)|(simp;omega))),(hK.alloc _).drewN _⟩
    case measure=>simp [intOf]<;>omega
  |succ k=>
   obtain ⟨q,hq⟩:∃ q,ss[k]? =some q:=⟨_,List.getElem?_eq_getElem (by omega)⟩
   obtain ⟨b',off',hbo,_,_,hce'⟩:=hs.stamps hq
   obtain ⟨rfl,rfl⟩:b=b'∧off=off':=by simpa using hbo
   obtain ⟨d0,d1⟩:=hce' _ hb
   have HT2:Hid (c=if decide (x.flow≤q.flow)=true then 2 else A34 (A1j ss (k+1+1)) (ss.drop (k+1+1))):=by
    have:=HT.out
    rw [show A1j ss (k+1)=some q from hq] at this
    exact this
   have e3:IntKind.i64.wrap (((k+1:Nat):Int) - 1)=(k:Int):=by rw [IntWalk.i64_in _ (by omega)];omega
   have b3:(k:Int)<(ss.length:Int):=by omega
   have k9:IntKind.i64.wrap (k:Int)=k:=IntWalk.i64_in _ (by omega)
   have hbl2:b<wo.heap.size:=by omega
   clear HT hce hce' hbo hx hq
   by_cases hqx:x.flow≤q.flow
   ·have hqx':q.flow≥x.flow:=hqx
    have HT3:=HT2.out
    rw [if_pos (decide_eq_true hqx)] at HT3
    have HT4:=Lib.hid HT3
    clear HT2 HT3
    go_wp2
    go_quiet (fail)
    go_wp2
    go_ret;exact ⟨I0 HT4.out.symm,by (repeat' (first|with_reducible (first|exact Below.refl _ _|assumption|refine Below.drew ?_|refine A3 ?_ _|refine Below.alloc ?_ ?_ _|refine Below.setCell ?_ ?_ _)|omega|(simp;done)|(simp;omega)))⟩
   ·have hqx':¬q.flow≥x.flow:=hqx
    have HT3:=HT2.out
    rw [if_neg (by simpa using hqx)] at HT3
    have HT4:=Lib.hid HT3
    clear HT2 HT3
    go_wp2
    go_quiet (fail)
    go_wp2
    case roundEnd=>
     go_roundw
     case rel=>exact ⟨k+1+1,by omega,by go_num,HT4,by (repeat' (first|with_reducible (first|exact Below.refl _ _|assumption|refine Below.drew ?_|refine A3 ?_ _|refine Below.alloc ?_ ?_ _|refine Below.setCell ?_ ?_ _)|omega|(simp;done)|(simp;omega))),(hK.alloc _).drewN _⟩
     case measure=>simp [intOf]<;>omega
theorem A37 (s:D8) (f:Int) (cs:List Value) (ok:Nat→Prop) (w:World) (h:E8.rep ok w cs s):
  Calls Try.prog 49 #[.agg cs.toArray,.int .i64 f] w fun e w'=>e=.returned (.int .i64 (J5 s f))∧Below w.heap.size w w':=by
 obtain ⟨ra,rc,sa,sc,rfl,hr,hs⟩:=h
 obtain ⟨rs,ss⟩:=s
 dsimp only at *
 have hsx:=hs.len_le
 have hst:Hid (J5 ⟨rs,ss⟩ f=J5 ⟨rs,ss.drop 0⟩ f):=rfl
 have HSTP:Hid (∀ (j:Nat) (x:J0),ss[j]? =some x→J5 ⟨rs,ss.drop j⟩ f=if x.flow=f then x.ver else J5 ⟨rs,ss.drop (j+1)⟩ f):=fun j x hx=>B37 hx
 have HEND:Hid (∀ j:Nat,ss.length≤j→J5 ⟨rs,ss.drop j⟩ f=0):=fun j hj=>B43 hj
 generalize J5 ⟨rs,ss⟩ f=c at *
 go_enter Try.func49,Try.ntmps49
 go_wp2
 go_loopw [6,10] (fun _ i wr=>∃ j:Nat,j≤ss.length∧i=.int .i64 j∧Hid (c=J5 ⟨rs,ss.drop j⟩ f)∧Below w.heap.size w wr) (fun _ i _=>ss.length - (intOf i).toNat)
 case atStart=>exact ⟨0,Nat.zero_le _,rfl,hst,by (repeat' (first|with_reducible (first|exact Below.refl _ _|assumption|refine Below.drew ?_|refine A3 ?_ _|refine Below.alloc ?_ ?_ _|refine Below.setCell ?_ ?_ _)|omega|(simp;done)|(simp;omega)))⟩
 case round=>
  clear hst
  obtain ⟨j,hj,rfl,hS,hb⟩:=hrel
  rename World=>wo
  by_cases hlt:j<ss.length
  case neg=>
   have HE:Hid (c=0):=by show _=_;rw [hS.out,HEND.out j (by omega)]
   have b1:¬(j:Int)<(ss.length:Int):=by omega
   clear hS
   go_wp2
   go_ret;exact ⟨I0 HE.out.symm,by (repeat' (first|with_reducible (first|exact Below.refl _ _|assumption|refine Below.drew ?_|refine A3 ?_ _|refine Below.alloc ?_ ?_ _|refine Below.setCell ?_ ?_ _)|omega|(simp;done)|(simp;omega)))⟩
  obtain ⟨x,hx⟩:∃ x,ss[j]? =some x:=⟨_,List.getElem?_eq_getElem hlt⟩
  obtain ⟨b,off,rfl,hbl,hri,hce⟩:=hs.stamps hx
  obtain ⟨e0,e1⟩:=hce _ hb
  have hE:=HSTP.out j x hx
  have b0:(0:Int)≤(j:Int):=by omega
  have b1:(j:Int)<(ss.length:Int):=by omega
  have hzz:=hb.size
  by_cases h1:x.flow=f
  ·rw [if_pos h1] at hE
   have HE:Hid (c=x.ver):=by show _=_;rw [hS.out,hE]
   have p1:(x.flow==f)=true:=by simpa using h1
   clear hS hE h1 hce hx
   go_wp2
   go_ret;exact ⟨I0 HE.out.symm,by (repeat' (first|with_reducible (first|exact Below.refl _ _|assumption|refine Below.drew ?_|refine A3 ?_ _|refine Below.alloc ?_ ?_ _|refine Below.setCell ?_ ?_ _)|omega|(simp;done)|(simp;omega)))⟩
  ·rw [if_neg h1] at hE
   have HE:Hid (c=J5 ⟨rs,ss.drop (j+1)⟩ f):=by show _=_;rw [hS.out,hE]
   have p1:(x.flow==f)=false:=by simpa using h1
   clear hS hE h1 hce hx
   go_wp2
   go_roundw
   case rel=>exact ⟨j+1,by omega,by go_num,HE,by (repeat' (first|with_reducible (first|exact Below.refl _ _|assumption|refine Below.drew ?_|refine A3 ?_ _|refine Below.alloc ?_ ?_ _|refine Below.setCell ?_ ?_ _)|omega|(simp;done)|(simp;omega)))⟩
   case measure=>simp [intOf]<;>omega
theorem A4z (l:List J0) (ok:Nat→Prop) (ax:Option Addr) (cx:Nat) (w:World) (hx:A8 J6 ok w ax cx l) (hsm:l.length≤1000000):
  Calls Try.prog 56 #[.slice ax l.length cx] w fun e w'=>∃ ao cap,e=.returned (.slice ao l.length cap)∧A8 J6 (fun b=>w.heap.size≤b) w' ao cap l∧Below w.heap.size w w':=by
 obtain ⟨i0,hi,hz0,hz1,hz2⟩:=info_parts A4p
 have hlx:=hx.len_le
 have hnil:=A2l (P:=Try.prog) 74 135 Try.underlying74
 cases ax with
 |none=>
  obtain rfl:l=[]:=by
   obtain ⟨_,_,h|⟨_,_,h,_⟩⟩:=hx
   ·exact h
   ·cases h
  go_enter Try.func56,Try.ntmps56
  go_wp2
  go_ret;exact ⟨none,0,rfl,A8.nil _ _ _ _,by (repeat' (first|with_reducible (first|exact Below.refl _ _|assumption|refine Below.drew ?_|refine A3 ?_ _|refine Below.alloc ?_ ?_ _|refine Below.setCell ?_ ?_ _)|omega|(simp;done)|(simp;omega)))⟩
 |some a=>
  have hown:C7 J6 135 (fun _=>False) w.heap.size (w.alloc (.cells (([]:List J0).map (fun _=>Value.int .i64 0)).toArray 135)) (some ⟨w.heap.size,0,none⟩) 0 0 []:=C7.lit rfl rfl (Nat.le_refl _) (by decide) (by simp) (fun _ h=>h.elim)
  go_enter Try.func56,Try.ntmps56
  go_wp2_with (at_builtin;go_must (refine H4 (sh:=J6) rfl _ _ 74 rfl 135 i0 (.agg #[.int .i64 0,.int .i64 0]) 16 Try.underlying74 hi hz0 hz1 hz2 rfl (by decide) rfl hown rfl rfl ((hx.below (by (repeat' (first|with_reducible (first|exact Below.refl _ _|assumption|refine Below.drew ?_|refine A3 ?_ _|refine Below.alloc ?_ ?_ _|refine Below.setCell ?_ ?_ _)|omega|(simp;done)|(simp;omega))))).src.flat fun h=>h) (by simp only [maxLen];omega) (by omega) (by first|omega|(simp;done)|(simp;omega)) ?_);go_must (
   intro ao1 cap1 w2 hown1 hg1 hbk
   have hb2:=D6 (B:=w.heap.size) hg1 (fun k hk=>(hown.lt k hk).1) (by first|omega|(simp;done)|(simp;omega))
   rw [List.nil_append,Nat.zero_add] at hown1))
  have hrow:A8 J6 (fun b=>w.heap.size≤b) w2 ao1 cap1 l:=hown1.row (fun _ h=>h.elim) (fun k hk=>(hown1.lt k hk).1)
  go_ret;exact ⟨ao1,cap1,rfl,hrow,Below.trans (by (repeat' (first|with_reducible (first|exact Below.refl _ _|assumption|refine Below.drew ?_|refine A3 ?_ _|refine Below.alloc ?_ ?_ _|refine Below.setCell ?_ ?_ _)|omega|(simp;done)|(simp;omega)))) hb2⟩
end Go.Proofs.Ytampcbncgofkoaa
