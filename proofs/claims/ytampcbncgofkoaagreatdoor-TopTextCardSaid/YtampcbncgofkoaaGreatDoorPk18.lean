/- Texts of this proof, one behind the other. -/
import Derived.Test.YtampcbncgofkoaaGreatDoorPk15
set_option linter.unusedSimpArgs false
set_option linter.unusedVariables false
set_option maxRecDepth 100000
set_option maxHeartbeats 16000000
namespace Go.St
open Go.RowKit
def R2b (g o g' o':Nat) (x y:C1) (w:World):Prop:=
 w.cell? ⟨g,o,none⟩=some (.int .i64 x.ver)∧w.cell? ⟨g,o+1,none⟩=some (.int .i64 x.flow)∧w.cell? ⟨g,o+2,none⟩=some (.int .i64 x.next)∧
 w.cell? ⟨g',o',none⟩=some (.int .i64 y.ver)∧w.cell? ⟨g',o'+1,none⟩=some (.int .i64 y.flow)∧w.cell? ⟨g',o'+2,none⟩=some (.int .i64 y.next)
theorem R2b.under {g o g' o':Nat} {x y:C1} {w w':World} (h:R2b g o g' o' x y w) (hg:g<w.heap.size) (hg':g'<w.heap.size) (hb:Below w.heap.size w w'):R2b g o g' o' x y w':=by
 have e:∀ k,w'.cell? ⟨g,k,none⟩=w.cell? ⟨g,k,none⟩:=fun k=>hb.cell hg
 have e':∀ k,w'.cell? ⟨g',k,none⟩=w.cell? ⟨g',k,none⟩:=fun k=>hb.cell hg'
 unfold R2b at *
 simp only [e,e'];exact h
theorem B2b (x y:C1):(decide (V5 x y≥0))=!B4 x y:=by
 rw [←T5]
 simp only [ge_iff_le]
 by_cases h:V5 x y<0
 ·rw [decide_eq_true h,decide_eq_false (by omega)];rfl
 ·rw [decide_eq_false h,decide_eq_true (by omega)];rfl
theorem A8.rules {ok:Nat→Prop} {w:World} {ax:Option Addr} {cx:Nat} {l:List C1} (h:A8 G6 ok w ax cx l) {j:Nat} {r:C1} (hr:l[j]? =some r):∃ b off,ax=some ⟨b,off,none⟩∧b<w.heap.size∧RI r∧
  ∀ w',Below w.heap.size w w'→w'.cell? ⟨b,off+j * 3,none⟩=some (.int .i64 r.ver)∧w'.cell? ⟨b,off+j * 3+1,none⟩=some (.int .i64 r.flow)∧w'.cell? ⟨b,off+j * 3+2,none⟩=some (.int .i64 r.next):=by
 obtain ⟨b,off,rfl,_,hbl,cs,hcs,hce⟩:=h.get hr
 obtain ⟨rfl,h1,h2,h3⟩:=hcs
 refine ⟨b,off,rfl,hbl,⟨h1,h2,h3⟩,fun w' hb=>⟨?_,?_,?_⟩⟩
 ·have:=B8 hb hbl (hce 0 _ rfl);simpa only [G6,Nat.add_zero] using this
 ·have:=B8 hb hbl (hce 1 _ rfl);simpa only [G6] using this
 ·have:=B8 hb hbl (hce 2 _ rfl);simpa only [G6] using this
end Go.St
namespace Go.Proofs.YtampcbncgofkoaaGreatDoor
open Go.RowKit Go.St
theorem A0a (l:List C1) (ok:Nat→Prop) (ax:Option Addr) (cx:Nat) (w:World) (hx:A8 G6 ok w ax cx l):
  Calls Tryz.prog 74 #[.slice ax l.length cx] w fun e w'=>e=.returned (.agg #[.int .i64 (E5 l).1,.int .i64 (E5 l).2])∧Below w.heap.size w w':=by
 have hlx:=hx.len_le
 by_cases h0:16<l.length
 ·have hw:E5 l=(10,0):=by unfold E5;rw [if_pos h0]
  rw [hw]
  have p3:(16:Int)<(l.length:Int):=by omega
  clear hw h0
  go_enter Tryz.func74,Tryz.ntmps74
  go_wp2
  refine bodyPost_ret (v:=.agg #[.int .i64 10,.int .i64 0]) (by simp [results,Tryz.results74,go_sem]) rfl ⟨rfl,by (repeat' (first|with_reducible (first|exact Below.refl _ _|assumption|refine Below.drew ?_|refine A3 ?_ _|refine Below.alloc ?_ ?_ _|refine Below.setCell ?_ ?_ _)|omega|(simp;done)|(simp;omega)))⟩
 have hst:Hid (E5 l=Y8 ((0:Nat):Int) (L6 l 0) (l.drop 0)):=by show _=_;unfold E5;rw [if_neg h0];rfl
 have p3:¬(16:Int)<(l.length:Int):=by omega
 generalize E5 l=c at *
 obtain ⟨c1,c2⟩:=c
 dsimp only
 go_enter Tryz.func74,Tryz.ntmps74
 go_wp2
 go_loopw [3,4,11] (fun _ _ i wr=>∃ j:Nat,j≤l.length∧i=.int .i64 j∧Hid ((c1,c2)=Y8 (j:Int) (L6 l j) (l.drop j))∧Below w.heap.size w wr∧A6 wr w.heap.size 29 #[.int .i64 0,.int .i64 0]) (fun _ _ i _=>l.length - (intOf i).toNat)
 case atStart=>exact ⟨0,Nat.zero_le _,rfl,hst,by (repeat' (first|with_reducible (first|exact Below.refl _ _|assumption|refine Below.drew ?_|refine A3 ?_ _|refine Below.alloc ?_ ?_ _|refine Below.setCell ?_ ?_ _)|omega|(simp;done)|(simp;omega))),A6.new rfl⟩
 case round=>
  clear hst
  obtain ⟨j,hj,rfl,hS,hb,hF⟩:=hrel
  rename World=>wo
  have hFl:=hF.lt
  obtain ⟨f3,f4⟩:=hF.cells
  by_cases hlt:j<l.length
  case neg=>
   have HE:=B3o hS.out (by omega)
   obtain ⟨rfl,rfl⟩:c1=0∧c2=0:=by simpa using HE
   have b1:¬(j:Int)<(l.length:Int):=by omega
   clear HE hS
   go_wp2
   have z1:=((hF.set 0 (.int .i64 0)).set 1 (.int .i64 0)).cells.1
   refine bodyPost_ret (v:=.agg #[.int .i64 0,.int .i64 0]) (by simp [results,Tryz.results74,go_sem,z1]) rfl ⟨rfl,by (repeat' (first|with_reducible (first|exact Below.refl _ _|assumption|refine Below.drew ?_|refine A3 ?_ _|refine Below.alloc ?_ ?_ _|refine Below.setCell ?_ ?_ _)|omega|(simp;done)|(simp;omega)))⟩
  obtain ⟨r,hr⟩:∃ r,l[j]? =some r:=⟨_,List.getElem?_eq_getElem hlt⟩
  obtain ⟨b,off,rfl,hbl,hri,hce⟩:=hx.rules hr
  obtain ⟨e0,e1,e2⟩:=hce _ hb
  have HT:=Lib.hid (B39 hS.out hr)
  have b0:(0:Int)≤(j:Int):=by omega
  have b1:(j:Int)<(l.length:Int):=by omega
  by_cases hro:O3 r
  ·rw [if_pos hro] at HT
   have HQ:=HT.out
   obtain ⟨rfl,rfl⟩:c1=3∧c2=(j:Int):=by simpa using HQ
   clear HQ HT hS
   unfold O3 at hro
   by_cases o1:r.ver<1
   ·go_wp2
    have z1:=(((hF.set 0 (.int .i64 3)).set 1 (.int .i64 j)).alloc (.cells #[.int .i64 r.ver,.int .i64 r.flow,.int .i64 r.next] 112)).cells.1
    refine bodyPost_ret (v:=.agg #[.int .i64 3,.int .i64 j]) (by simp [results,Tryz.results74,go_sem,z1]) rfl ⟨rfl,by (repeat' (first|with_reducible (first|exact Below.refl _ _|assumption|refine Below.drew ?_|refine A3 ?_ _|refine Below.alloc ?_ ?_ _|refine Below.setCell ?_ ?_ _)|omega|(simp;done)|(simp;omega)))⟩
   by_cases o2:r.ver>1000
   ·go_wp2
    have z1:=(((hF.set 0 (.int .i64 3)).set 1 (.int .i64 j)).alloc (.cells #[.int .i64 r.ver,.int .i64 r.flow,.int .i64 r.next] 112)).cells.1
    refine bodyPost_ret (v:=.agg #[.int .i64 3,.int .i64 j]) (by simp [results,Tryz.results74,go_sem,z1]) rfl ⟨rfl,by (repeat' (first|with_reducible (first|exact Below.refl _ _|assumption|refine Below.drew ?_|refine A3 ?_ _|refine Below.alloc ?_ ?_ _|refine Below.setCell ?_ ?_ _)|omega|(simp;done)|(simp;omega)))⟩
   by_cases o3:r.flow<0
   ·go_wp2
    have z1:=(((hF.set 0 (.int .i64 3)).set 1 (.int .i64 j)).alloc (.cells #[.int .i64 r.ver,.int .i64 r.flow,.int .i64 r.next] 112)).cells.1
    refine bodyPost_ret (v:=.agg #[.int .i64 3,.int .i64 j]) (by simp [results,Tryz.results74,go_sem,z1]) rfl ⟨rfl,by (repeat' (first|with_reducible (first|exact Below.refl _ _|assumption|refine Below.drew ?_|refine A3 ?_ _|refine Below.alloc ?_ ?_ _|refine Below.setCell ?_ ?_ _)|omega|(simp;done)|(simp;omega)))⟩
   by_cases o4:r.flow≥12
   ·go_wp2
    have z1:=(((hF.set 0 (.int .i64 3)).set 1 (.int .i64 j)).alloc (.cells #[.int .i64 r.ver,.int .i64 r.flow,.int .i64 r.next] 112)).cells.1
    refine bodyPost_ret (v:=.agg #[.int .i64 3,.int .i64 j]) (by simp [results,Tryz.results74,go_sem,z1]) rfl ⟨rfl,by (repeat' (first|with_reducible (first|exact Below.refl _ _|assumption|refine Below.drew ?_|refine A3 ?_ _|refine Below.alloc ?_ ?_ _|refine Below.setCell ?_ ?_ _)|omega|(simp;done)|(simp;omega)))⟩
   by_cases o5:r.next<0
   ·go_wp2
    have z1:=(((hF.set 0 (.int .i64 3)).set 1 (.int .i64 j)).alloc (.cells #[.int .i64 r.ver,.int .i64 r.flow,.int .i64 r.next] 112)).cells.1
    refine bodyPost_ret (v:=.agg #[.int .i64 3,.int .i64 j]) (by simp [results,Tryz.results74,go_sem,z1]) rfl ⟨rfl,by (repeat' (first|with_reducible (first|exact Below.refl _ _|assumption|refine Below.drew ?_|refine A3 ?_ _|refine Below.alloc ?_ ?_ _|refine Below.setCell ?_ ?_ _)|omega|(simp;done)|(simp;omega)))⟩
   have o6:r.next≥8:=by omega
   go_wp2
   have z1:=(((hF.set 0 (.int .i64 3)).set 1 (.int .i64 j)).alloc (.cells #[.int .i64 r.ver,.int .i64 r.flow,.int .i64 r.next] 112)).cells.1
   refine bodyPost_ret (v:=.agg #[.int .i64 3,.int .i64 j]) (by simp [results,Tryz.results74,go_sem,z1]) rfl ⟨rfl,by (repeat' (first|with_reducible (first|exact Below.refl _ _|assumption|refine Below.drew ?_|refine A3 ?_ _|refine Below.alloc ?_ ?_ _|refine Below.setCell ?_ ?_ _)|omega|(simp;done)|(simp;omega)))⟩
  rw [if_neg hro] at HT
  unfold O3 at hro
  have o1:¬r.ver<1:=by omega
  have o2:¬r.ver>1000:=by omega
  have o3:¬r.flow<0:=by omega
  have o4:¬r.flow≥12:=by omega
  have o5:¬r.next<0:=by omega
  have o6:¬r.next≥8:=by omega
  clear hro hS
  cases j with
  |zero=>
   simp only [Nat.zero_mul,Nat.add_zero] at e0 e1 e2
   have HT2:Hid ((c1,c2)=Y8 ((0+1:Nat):Int) (L6 l (0+1)) (l.drop (0+1))):=HT.out
   clear HT
   go_wp2
   go_quiet (fail)
   go_wp2
   case roundEnd=>
    go_roundw
    case rel=>exact ⟨1,by omega,by go_num,HT2,by (repeat' (first|with_reducible (first|exact Below.refl _ _|assumption|refine Below.drew ?_|refine A3 ?_ _|refine Below.alloc ?_ ?_ _|refine Below.setCell ?_ ?_ _)|omega|(simp;done)|(simp;omega))),hF.alloc _⟩
    case measure=>simp [intOf]<;>omega
  |succ k=>
   obtain ⟨q,hq⟩:∃ q,l[k]? =some q:=⟨_,List.getElem?_eq_getElem (by omega)⟩
   obtain ⟨b',off',hbo,_,_,hce'⟩:=hx.rules hq
   obtain ⟨rfl,rfl⟩:b=b'∧off=off':=by simpa using hbo
   obtain ⟨d0,d1,d2⟩:=hce' _ hb
   have HT2:Hid ((c1,c2)=if (!B4 q r)=true then (2,((k+1:Nat):Int)) else Y8 ((k+1+1:Nat):Int) (L6 l (k+1+1)) (l.drop (k+1+1))):=by
    have:=HT.out
    rw [show L6 l (k+1)=some q from hq] at this
    exact this
   have e3:IntKind.i64.wrap (((k+1:Nat):Int) - 1)=(k:Int):=by rw [IntWalk.i64_in _ (by omega)];omega
   have b3:(k:Int)<(l.length:Int):=by omega
   have hzz:=hb.size
   have k9:IntKind.i64.wrap (k:Int)=k:=IntWalk.i64_in _ (by omega)
   have ob:=B2b q r
   clear HT hce hce' hbo
   go_wp2
   have hS0:R2b b (off+k * 3) wo.heap.size 0 q r (wo.alloc (.cells #[.int .i64 r.ver,.int .i64 r.flow,.int .i64 r.next] 112)).drew:=by
    have x1:=(A6.new (w:=wo) (t:=112) (cs:=#[.int .i64 r.ver,.int .i64 r.flow,.int .i64 r.next]) rfl).cells.1
    have hbb:Below wo.heap.size wo (wo.alloc (.cells #[.int .i64 r.ver,.int .i64 r.flow,.int .i64 r.next] 112)).drew:=by (repeat' (first|with_reducible (first|exact Below.refl _ _|assumption|refine Below.drew ?_|refine A3 ?_ _|refine Below.alloc ?_ ?_ _|refine Below.setCell ?_ ?_ _)|omega|(simp;done)|(simp;omega)))
    exact ⟨B8 hbb (by omega) d0,B8 hbb (by omega) d1,B8 hbb (by omega) d2,x1 0,x1 1,x1 2⟩
   have hF1:A6 (wo.alloc (.cells #[.int .i64 r.ver,.int .i64 r.flow,.int .i64 r.next] 112)) w.heap.size 29 #[.int .i64 0,.int .i64 0]:=hF.alloc _
   have hb1:Below w.heap.size w (wo.alloc (.cells #[.int .i64 r.ver,.int .i64 r.flow,.int .i64 r.next] 112)):=by (repeat' (first|with_reducible (first|exact Below.refl _ _|assumption|refine Below.drew ?_|refine A3 ?_ _|refine Below.alloc ?_ ?_ _|refine Below.setCell ?_ ?_ _)|omega|(simp;done)|(simp;omega)))
   have hsz1:(wo.alloc (.cells #[.int .i64 r.ver,.int .i64 r.flow,.int .i64 r.next] 112)).heap.size=wo.heap.size+1:=by simp
   generalize wo.alloc (.cells #[.int .i64 r.ver,.int .i64 r.flow,.int .i64 r.next] 112)=wk at *
   refine B9 (R2b b (off+k * 3) wo.heap.size 0 q r) 99 (fun a0 a' w'=>∃ v46 v47 v48 v49 v50 v51 v52 v53 v54 v55 v56,a'=C8 a0 [(46,v46),(47,v47),(48,v48),(49,v49),(50,v50),(51,v51),(52,v52),(53,v53),(54,v54),(55,v55),(56,v56),(57,.bool (!B4 q r))]∧Below wk.heap.size wk w') (by kernel_rfl) ?_ ?_
   ·intro Q' hR hQp
    have hb0:Below wk.heap.size wk wk.drew:=N4 _
    have hS:R2b b (off+k * 3) wo.heap.size 0 q r wk.drew:=hS0
    generalize wk.drew=wa at *
    refine A9 hQp hS [0,1,2,3,4,5,6,7,8] ?_
    iterate 9 (refine B2 _ rfl (by kernel_rfl) (A0 (by kernel_rfl) (by intro w0 hw0;have hw1:=hw0;simp only [R2b] at hw1;first|(go_simp;done)|(go_simp;rfl))) ?_;simp only [Act.put,St.tA,St.tD,St.tE,St.tS,St.tC,St.tZ])
    refine B3 ?_
    clear hS
    refine A7 (i:=9) rfl (by kernel_rfl) (by kernel_rfl) fun K9 hK9=>?_
    go_simp
    go_wp2_with fail
    refine (A16 q r wa).mono ?_
    rintro e wb ⟨rfl,hb3⟩
    go_wp2_with fail
    have hb2:Below wk.heap.size wk wb:=hb0.trans (hb3.mono hb0.size)
    have hS:_:=hS0.under (by have:=hb0.size;omega) (by have:=hb0.size;omega) hb3
    refine hK9 _ _ (fun _=>hS) ?_
    clear hK9
    refine A9 hQp hS [10,11] ?_
    iterate 2 (refine B2 _ rfl (by kernel_rfl) (A0 (by kernel_rfl) (by intro w0 hw0;have hw1:=hw0;simp only [R2b] at hw1;first|(go_simp;done)|(go_simp;rfl))) ?_;simp only [Act.put,St.tA,St.tD,St.tE,St.tS,St.tC,St.tZ])
    refine B3 ?_
    refine B5 (by kernel_rfl) ?_ _
    refine hR _ _ ?_
    iterate 11 apply Exists.intro
    refine ⟨?_,hb2⟩
    simp only [C8,Act.put,St.tS,St.tC,St.tZ]
    rfl
   rintro a' w8 ⟨v46,v47,v48,v49,v50,v51,v52,v53,v54,v55,v56,rfl,hb8⟩
   simp only [C8,Act.put,St.tS,St.tC,St.tZ]
   have hF8:=hF1.under hb8
   have hb9:Below w.heap.size w w8:=hb1.trans (hb8.mono (by omega))
   have hFl8:=hF8.lt
   obtain ⟨f8,f9⟩:=hF8.cells
   clear hS0 hF1 hb1 hb8
   by_cases hqr:(!B4 q r)=true
   ·have HT3:=HT2.out
    rw [if_pos hqr] at HT3
    obtain ⟨rfl,rfl⟩:c1=2∧c2=((k+1:Nat):Int):=by simpa using HT3
    rw [hqr]
    clear HT2 HT3 hqr
    go_wp2
    have z1:=((hF8.set 0 (.int .i64 2)).set 1 (.int .i64 ((k:Int)+1))).cells.1
    refine bodyPost_ret (v:=.agg #[.int .i64 2,.int .i64 ((k:Int)+1)]) (by simp [results,Tryz.results74,go_sem,z1]) rfl ⟨by simp,by (repeat' (first|with_reducible (first|exact Below.refl _ _|assumption|refine Below.drew ?_|refine A3 ?_ _|refine Below.alloc ?_ ?_ _|refine Below.setCell ?_ ?_ _)|omega|(simp;done)|(simp;omega)))⟩
   ·have HT3:=HT2.out
    rw [if_neg hqr] at HT3
    have HT4:=Lib.hid HT3
    have hqr':(!B4 q r)=false:=by simpa using hqr
    rw [hqr']
    clear HT2 HT3 hqr hqr'
    go_wp2
    case roundEnd=>
     go_roundw
     case rel=>exact ⟨k+1+1,by omega,by go_num,HT4,hb9,hF8⟩
     case measure=>simp [intOf]<;>omega
theorem B59 (l:List C1) (v f:Int) (ok:Nat→Prop) (ax:Option Addr) (cx:Nat) (w:World) (hx:A8 G6 ok w ax cx l):
  Calls Tryz.prog 51 #[.slice ax l.length cx,.int .i64 v,.int .i64 f] w fun e w'=>e=.returned (.tuple #[.int .i64 (C0z l v f).1,.bool (C0z l v f).2])∧Below w.heap.size w w':=by
 have hlx:=hx.len_le
 have hst:Hid (C0z l v f=C0z (l.drop 0) v f):=rfl
 generalize C0z l v f=c at *
 obtain ⟨c1,c2⟩:=c
 dsimp only
 go_enter Tryz.func51,Tryz.ntmps51
 go_wp2
 go_loopw [9,12] (fun _ i wr=>∃ j:Nat,j≤l.length∧i=.int .i64 j∧Hid ((c1,c2)=C0z (l.drop j) v f)∧Below w.heap.size w wr) (fun _ i _=>l.length - (intOf i).toNat)
 case atStart=>exact ⟨0,Nat.zero_le _,rfl,hst,Below.refl _ _⟩
 case round=>
  clear hst
  obtain ⟨j,hj,rfl,hS,hb⟩:=hrel
  rename World=>wo
  by_cases hlt:j<l.length
  case neg=>
   obtain ⟨rfl,rfl⟩:c1=0∧c2=false:=by have:=B2e hS.out (by omega);simpa using this
   have b1:¬(j:Int)<(l.length:Int):=by omega
   clear hS
   go_wp2
   go_returns;exact ⟨rfl,by (repeat' (first|with_reducible (first|exact Below.refl _ _|assumption|refine Below.drew ?_|refine A3 ?_ _|refine Below.alloc ?_ ?_ _|refine Below.setCell ?_ ?_ _)|omega|(simp;done)|(simp;omega)))⟩
  obtain ⟨r,hr⟩:∃ r,l[j]? =some r:=⟨_,List.getElem?_eq_getElem hlt⟩
  obtain ⟨b,off,rfl,hbl,hri,hce⟩:=hx.rules hr
  obtain ⟨e0,e1,e2⟩:=hce _ hb
  have HT:=Lib.hid (B0g hS.out hr)
  have b0:(0:Int)≤(j:Int):=by omega
  have b1:(j:Int)<(l.length:Int):=by omega
  have hzz:=hb.size
  clear hS hce hr
  by_cases h1:r.ver=v
  ·by_cases h2:r.flow=f
   ·have HE:=HT.out
    rw [if_pos ⟨h1,h2⟩] at HE
    obtain ⟨rfl,rfl⟩:c1=r.next∧c2=true:=by simpa using HE
    clear HE
    have p1:(r.ver==v)=true:=by simpa using h1
    have p2:(r.flow==f)=true:=by simpa using h2
    clear HT h1 h2
    go_wp2
    go_returns;exact ⟨rfl,by (repeat' (first|with_reducible (first|exact Below.refl _ _|assumption|refine Below.drew ?_|refine A3 ?_ _|refine Below.alloc ?_ ?_ _|refine Below.setCell ?_ ?_ _)|omega|(simp;done)|(simp;omega)))⟩
   ·have HE:=HT.out
    rw [if_neg (fun h=>h2 h.2)] at HE
    have HE:=Lib.hid HE
    have p1:(r.ver==v)=true:=by simpa using h1
    have p2:(r.flow==f)=false:=by simpa using h2
    clear HT h1 h2
    go_wp2
    go_roundw
    case rel=>exact ⟨j+1,by omega,by go_num,HE,by (repeat' (first|with_reducible (first|exact Below.refl _ _|assumption|refine Below.drew ?_|refine A3 ?_ _|refine Below.alloc ?_ ?_ _|refine Below.setCell ?_ ?_ _)|omega|(simp;done)|(simp;omega)))⟩
    case measure=>simp [intOf]<;>omega
  ·have HE:=HT.out
   rw [if_neg (fun h=>h1 h.1)] at HE
   have HE:=Lib.hid HE
   have p1:(r.ver==v)=false:=by simpa using h1
   clear HT h1
   go_wp2
   go_roundw
   case rel=>exact ⟨j+1,by omega,by go_num,HE,by (repeat' (first|with_reducible (first|exact Below.refl _ _|assumption|refine Below.drew ?_|refine A3 ?_ _|refine Below.alloc ?_ ?_ _|refine Below.setCell ?_ ?_ _)|omega|(simp;done)|(simp;omega)))⟩
   case measure=>simp [intOf]<;>omega
end Go.Proofs.YtampcbncgofkoaaGreatDoor
