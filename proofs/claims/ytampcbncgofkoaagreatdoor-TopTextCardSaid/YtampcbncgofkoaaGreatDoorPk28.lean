/- Texts of this proof, one behind the other. -/
import Derived.Test.YtampcbncgofkoaaGreatDoorPk26
set_option linter.unusedSimpArgs false
set_option linter.unusedVariables false
set_option maxRecDepth 100000
set_option maxHeartbeats 16000000
namespace Go.St
open Go.RowKit
theorem C7.fresh {e:TypeId} {B:Nat} {w:World} {ao:Option Addr} {n cap:Nat} {xs:List Int} (h:C7 C2 e (fun _=>False) B w ao n cap xs):A8 C2 (fun b=>B≤b) w ao cap xs:=h.row (fun _ h=>h.elim) (fun k hk=>(h.lt k hk).1)
end Go.St
namespace Go.Proofs.YtampcbncgofkoaaGreatDoor
open Go.RowKit Go.St
theorem R7 (l:List Int) (ok:Nat→Prop) (ax:Option Addr) (cx:Nat) (w:World) (hx:A8 C2 ok w ax cx l) (hsm:l.length≤10000000000):
  Calls Tryz.prog 16 #[.slice ax l.length cx] w fun e w'=>∃ ao cap,e=.returned (.slice ao l.length cap)∧C7 C2 3 (fun _=>False) w.heap.size w' ao l.length cap l∧Below w.heap.size w w':=by
 obtain ⟨i0,hi,hz0,hz1,hz2⟩:=info_parts P6
 have hlx:=hx.len_le
 have hnil:=O7 (P:=Tryz.prog) 41 3 Tryz.underlying41
 cases ax with
 |none=>
  obtain rfl:l=[]:=by
   obtain ⟨_,_,h|⟨_,_,h,_⟩⟩:=hx
   ·exact h
   ·cases h
  go_enter Tryz.func16,Tryz.ntmps16
  go_wp2
  go_ret;exact ⟨none,0,rfl,C7.nil' _ _ _ _,by (repeat' (first|with_reducible (first|exact Below.refl _ _|assumption|refine Below.drew ?_|refine A3 ?_ _|refine Below.alloc ?_ ?_ _|refine Below.setCell ?_ ?_ _)|omega|(simp;done)|(simp;omega)))⟩
 |some a=>
  have hown:C7 C2 3 (fun _=>False) w.heap.size (w.alloc (.cells (([]:List Int).map (Value.int .i64)).toArray 3)) (some ⟨w.heap.size,0,none⟩) 0 0 []:=C7.lit rfl rfl (Nat.le_refl _) (by decide) (by simp) (fun _ h=>h.elim)
  have hlm:l.length≤9223372036854775807:=hlx
  go_enter Tryz.func16,Tryz.ntmps16
  go_wp2_with (at_builtin;go_must (refine H4 (sh:=C2) rfl _ _ 41 rfl 3 i0 (.int .i64 0) 8 Tryz.underlying41 hi hz0 hz1 hz2 rfl (by decide) rfl hown rfl rfl ((hx.below (by (repeat' (first|with_reducible (first|exact Below.refl _ _|assumption|refine Below.drew ?_|refine A3 ?_ _|refine Below.alloc ?_ ?_ _|refine Below.setCell ?_ ?_ _)|omega|(simp;done)|(simp;omega))))).src) (by simp only [maxLen];omega) (by omega) (by first|omega|(simp;done)|(simp;omega)) ?_);go_must (
   intro ao1 cap1 w2 hown1 hg1 hbk
   have hb2:=D6 (B:=w.heap.size) hg1 (fun k hk=>(hown.lt k hk).1) (by first|omega|(simp;done)|(simp;omega))
   rw [List.nil_append,Nat.zero_add] at hown1))
  go_ret;exact ⟨ao1,cap1,rfl,hown1,Below.trans (by (repeat' (first|with_reducible (first|exact Below.refl _ _|assumption|refine Below.drew ?_|refine A3 ?_ _|refine Below.alloc ?_ ?_ _|refine Below.setCell ?_ ?_ _)|omega|(simp;done)|(simp;omega)))) hb2⟩
theorem A8p (l:List Int) (ok:Nat→Prop) (ax:Option Addr) (cx:Nat) (w:World) (hx:A8 C2 ok w ax cx l) (hsm:l.length≤10000000000):
  Calls Tryz.prog 38 #[.slice ax l.length cx] w fun e w'=>∃ ao cap,e=.returned (.slice ao l.length cap)∧C7 C2 3 (fun _=>False) w.heap.size w' ao l.length cap l∧Below w.heap.size w w':=by
 obtain ⟨i0,hi,hz0,hz1,hz2⟩:=info_parts P6
 have hlx:=hx.len_le
 have hnil:=O7 (P:=Tryz.prog) 72 3 Tryz.underlying72
 cases ax with
 |none=>
  obtain rfl:l=[]:=by
   obtain ⟨_,_,h|⟨_,_,h,_⟩⟩:=hx
   ·exact h
   ·cases h
  go_enter Tryz.func38,Tryz.ntmps38
  go_wp2
  go_ret;exact ⟨none,0,rfl,C7.nil' _ _ _ _,by (repeat' (first|with_reducible (first|exact Below.refl _ _|assumption|refine Below.drew ?_|refine A3 ?_ _|refine Below.alloc ?_ ?_ _|refine Below.setCell ?_ ?_ _)|omega|(simp;done)|(simp;omega)))⟩
 |some a=>
  have hown:C7 C2 3 (fun _=>False) w.heap.size (w.alloc (.cells (([]:List Int).map (Value.int .i64)).toArray 3)) (some ⟨w.heap.size,0,none⟩) 0 0 []:=C7.lit rfl rfl (Nat.le_refl _) (by decide) (by simp) (fun _ h=>h.elim)
  have hlm:l.length≤9223372036854775807:=hlx
  go_enter Tryz.func38,Tryz.ntmps38
  go_wp2_with (at_builtin;go_must (refine H4 (sh:=C2) rfl _ _ 72 rfl 3 i0 (.int .i64 0) 8 Tryz.underlying72 hi hz0 hz1 hz2 rfl (by decide) rfl hown rfl rfl ((hx.below (by (repeat' (first|with_reducible (first|exact Below.refl _ _|assumption|refine Below.drew ?_|refine A3 ?_ _|refine Below.alloc ?_ ?_ _|refine Below.setCell ?_ ?_ _)|omega|(simp;done)|(simp;omega))))).src) (by simp only [maxLen];omega) (by omega) (by first|omega|(simp;done)|(simp;omega)) ?_);go_must (
   intro ao1 cap1 w2 hown1 hg1 hbk
   have hb2:=D6 (B:=w.heap.size) hg1 (fun k hk=>(hown.lt k hk).1) (by first|omega|(simp;done)|(simp;omega))
   rw [List.nil_append,Nat.zero_add] at hown1))
  go_ret;exact ⟨ao1,cap1,rfl,hown1,Below.trans (by (repeat' (first|with_reducible (first|exact Below.refl _ _|assumption|refine Below.drew ?_|refine A3 ?_ _|refine Below.alloc ?_ ?_ _|refine Below.setCell ?_ ?_ _)|omega|(simp;done)|(simp;omega)))) hb2⟩
end Go.Proofs.YtampcbncgofkoaaGreatDoor
namespace Go.St
open Go.RowKit
structure N6 (p:F5):Prop where
 fls:p.flows.length≤10000000
 via:∀ f∈p.flows,f.via.length≤10000000∧f.no.length≤10000000
 pts:p.paths.length≤10000000
 len:∀ q∈p.paths,q.length≤10000000
theorem N6.none:N6 E2:=⟨by simp [E2],by simp [E2],by simp [E2],by simp [E2]⟩
def SQ (ob:Nat) (ap:Option Addr) (j cp:Nat) (w:World):Prop:=w.cell? ⟨ob,2,none⟩=some (.slice ap j cp)
theorem SQ.of {ob:Nat} {ap:Option Addr} {j cp:Nat} {w:World} {tp:TypeId} {x0 x1:Value} (h:A6 w ob tp #[x0,x1,.slice ap j cp]):SQ ob ap j cp w:=h.cells.1 2
end Go.St
namespace Go.Proofs.YtampcbncgofkoaaGreatDoor
open Go.RowKit Go.St
theorem A58 (p:F5) (cs:List Value) (ok:Nat→Prop) (w:World) (h:C3.rep ok w cs p) (hs:N6 p):
  Calls Tryz.prog 67 #[.agg cs.toArray] w fun e w'=>∃ pcs:List Value,e=.returned (.agg pcs.toArray)∧C3.rep (fun b=>w.heap.size≤b) w' pcs p∧Below w.heap.size w w':=by
 obtain ⟨fa,fc,pa,pc,rfl,hv,hfl,hps⟩:=h
 obtain ⟨q1,q2,q3,q4⟩:=hs
 obtain ⟨v,fls,ps⟩:=p
 dsimp only at *
 have HQ2:=Lib.hid q2
 have HQ4:=Lib.hid q4
 clear q2 q4
 obtain ⟨i0,hi,hz0,hz1',hzz2⟩:=info_parts A1v
 obtain ⟨j0,gi,gz0,gz1,gz2⟩:=info_parts A2w
 have hlx:=hfl.len_le
 have hpx:=hps.len_le
 go_enter Tryz.func67,Tryz.ntmps67
 go_wp2
 have hB0:Below w.heap.size w (((w.alloc (.cells #[.int .i64 v,.slice fa fls.length fc,.slice pa ps.length pc] 34)).alloc (.cells #[.int .i64 0,.slice none 0 0,.slice none 0 0] 34)).alloc (.cells #[.int .i64 v,.slice none 0 0,.slice none 0 0] 34)):=A7q _ _ _ _
 have hP0:A6 (((w.alloc (.cells #[.int .i64 v,.slice fa fls.length fc,.slice pa ps.length pc] 34)).alloc (.cells #[.int .i64 0,.slice none 0 0,.slice none 0 0] 34)).alloc (.cells #[.int .i64 v,.slice none 0 0,.slice none 0 0] 34)) w.heap.size 34 #[.int .i64 v,.slice fa fls.length fc,.slice pa ps.length pc]:=((A6.new rfl).alloc _).alloc _
 have hR0:A6 (((w.alloc (.cells #[.int .i64 v,.slice fa fls.length fc,.slice pa ps.length pc] 34)).alloc (.cells #[.int .i64 0,.slice none 0 0,.slice none 0 0] 34)).alloc (.cells #[.int .i64 v,.slice none 0 0,.slice none 0 0] 34)) (w.heap.size+1) 34 #[.int .i64 0,.slice none 0 0,.slice none 0 0]:=(A6.new (by simp)).alloc _
 have hO0:A6 (((w.alloc (.cells #[.int .i64 v,.slice fa fls.length fc,.slice pa ps.length pc] 34)).alloc (.cells #[.int .i64 0,.slice none 0 0,.slice none 0 0] 34)).alloc (.cells #[.int .i64 v,.slice none 0 0,.slice none 0 0] 34)) (w.heap.size+1+1) 34 #[.int .i64 v,.slice none 0 0,.slice none 0 0]:=A6.new (by simp)
 generalize ((w.alloc (.cells #[.int .i64 v,.slice fa fls.length fc,.slice pa ps.length pc] 34)).alloc (.cells #[.int .i64 0,.slice none 0 0,.slice none 0 0] 34)).alloc (.cells #[.int .i64 v,.slice none 0 0,.slice none 0 0] 34)=w0 at *
 go_loopw [5,14] (fun _ idx wr=>∃ (j:Nat) (af:Option Addr) (cf:Nat),idx=.int .i64 j∧j≤fls.length∧A6 wr (w.heap.size+1+1) 34 #[.int .i64 v,.slice af j cf,.slice none 0 0]∧two H6 56 (F7 C2) 72 (w.heap.size+3) wr af j cf (fls.take j) none 0 0 []∧Below w.heap.size w wr∧A6 wr w.heap.size 34 #[.int .i64 v,.slice fa fls.length fc,.slice pa ps.length pc]∧A6 wr (w.heap.size+1) 34 #[.int .i64 0,.slice none 0 0,.slice none 0 0]) (fun _ idx _=>fls.length - (intOf idx).toNat)
 case atStart=>exact ⟨0,none,0,rfl,Nat.zero_le _,hO0,two.nil _ _ _ _ _ _,hB0,hP0,hR0⟩
 case round=>
  clear hO0 hB0 hP0 hR0
  obtain ⟨j,af,cf,rfl,hj,hO,htwo,hb,hP,hZ⟩:=hrel
  rename World=>wo
  have s0:=hO.lt
  obtain ⟨p1,p2⟩:=hP.cells
  obtain ⟨o1,o2⟩:=hO.cells
  have s2:=hb.size
  by_cases hlt:j<fls.length
  case neg=>
   have HJ:=Lib.hid (show j=fls.length by omega)
   have b1:¬(j:Int)<(fls.length:Int):=by omega
   have htk:fls.take j=fls:=List.take_of_length_le (by omega)
   rw [htk] at htwo
   clear htk
   go_wp2
   clear hlt
   go_loopw [7,38] (fun _ idx wr=>∃ (k:Nat) (ap:Option Addr) (cp:Nat),idx=.int .i64 k∧k≤ps.length∧A6 wr (w.heap.size+1+1) 34 #[.int .i64 v,.slice af j cf,.slice ap k cp]∧two H6 56 (F7 C2) 72 (w.heap.size+3) wr af j cf fls ap k cp (ps.take k)∧Below w.heap.size w wr∧A6 wr w.heap.size 34 #[.int .i64 v,.slice fa fls.length fc,.slice pa ps.length pc]∧A6 wr (w.heap.size+1) 34 #[.int .i64 0,.slice none 0 0,.slice none 0 0]) (fun _ idx _=>ps.length - (intOf idx).toNat)
   case atStart=>exact ⟨0,none,0,rfl,Nat.zero_le _,hO,htwo,hb,hP,hZ⟩
   case round=>
    clear hO hb hP hZ htwo s0 s2 p1 p2 o1 o2
    obtain ⟨k,ap,cp,rfl,hk,hO,htwo,hb,hP,hZ⟩:=hrel
    rename World=>wi
    have s0:=hO.lt
    obtain ⟨p1,p2⟩:=hP.cells
    obtain ⟨o1,o2⟩:=hO.cells
    have s2:=hb.size
    by_cases hlt:k<ps.length
    case neg=>
     have HK:=Lib.hid (show k=ps.length by omega)
     have b2:¬(k:Int)<(ps.length:Int):=by omega
     have htk:ps.take k=ps:=List.take_of_length_le (by omega)
     rw [htk] at htwo
     have s1:=hZ.lt
     obtain ⟨r1,r2⟩:=hZ.cells
     have G1:=((hZ.set 0 (.int .i64 v)).set 1 (.slice af j cf)).set 2 (.slice ap k cp)
     obtain ⟨z1,z2⟩:=G1.cells
     have hof:=((htwo.setOther (ob:=w.heap.size+1) (o:=0) (v:=.int .i64 v) (by omega)).setOther (ob:=w.heap.size+1) (o:=1) (v:=.slice af j cf) (by omega)).setOther (ob:=w.heap.size+1) (o:=2) (v:=.slice ap k cp) (by omega)
     have hr1:=hof.1.row (ok':=fun b=>w.heap.size≤b) (fun b hh=>by have:=hh.1;omega) (fun k hk=>by have:=(hof.1.lt k hk).1;omega)
     have hr2:=hof.2.1.row (ok':=fun b=>w.heap.size≤b) (fun b hh=>by have:=hh.1;omega) (fun k hk=>by have:=(hof.2.1.lt k hk).1;omega)
     have hbf:Below w.heap.size w (((wi.setCell ⟨w.heap.size+1,0,none⟩ (.int .i64 v)).setCell ⟨w.heap.size+1,1,none⟩ (.slice af j cf)).setCell ⟨w.heap.size+1,2,none⟩ (.slice ap k cp)):=by (repeat' (first|with_reducible (first|exact Below.refl _ _|assumption|refine Below.drew ?_|refine A3 ?_ _|refine Below.alloc ?_ ?_ _|refine Below.setCell ?_ ?_ _)|omega|(simp;done)|(simp;omega)))
     have HZ:Hid (C3.rep (fun b=>w.heap.size≤b) (((wi.setCell ⟨w.heap.size+1,0,none⟩ (.int .i64 v)).setCell ⟨w.heap.size+1,1,none⟩ (.slice af j cf)).setCell ⟨w.heap.size+1,2,none⟩ (.slice ap k cp)) [.int .i64 v,.slice af j cf,.slice ap k cp] ⟨v,fls,ps⟩):=⟨af,cf,ap,cp,by rw [HJ.out,HK.out],hv,hr1,hr2⟩
     clear htk hlt hr1 hr2 hof htwo
     go_wp2_with ((with_reducible refine bodyPost_ret (v:=.agg #[.int .i64 v,.slice af j cf,.slice ap k cp]) ?ra1 ?rb1 ?rc1);go_must (case ra1=>simp [results,Tryz.results67,go_sem,z1]);go_must (case rb1=>rfl);go_must (case rc1=>exact ⟨_,rfl,HZ.out,hbf⟩))
    obtain ⟨q,hq⟩:∃ q,ps[k]? =some q:=⟨_,List.getElem?_eq_getElem hlt⟩
    have htk:ps.take (k+1)=ps.take k++[q]:=by rw [List.take_add_one,hq];rfl
    have HTK:=Lib.hid htk
    have hql:=HQ4.out q (List.mem_of_getElem? hq)
    obtain ⟨gb,go,qa,qc,rfl,hgl,hqr,hce⟩:=S9 hps hq
    have e0:=hce _ hb
    have b0:(0:Int)≤(k:Int):=by omega
    have b1:(k:Int)<(ps.length:Int):=by omega
    clear hce htk hq
    go_wp2
    have hS0:SQ (w.heap.size+1+1) ap k cp wi.drew:=SQ.of hO
    refine B9 (SQ (w.heap.size+1+1) ap k cp) 7 (fun a0 a' w'=>∃ v42 v43 v44 v45 v46 v47 v48 v49,a'=C8 a0 [(42,v42),(43,v43),(44,v44),(45,v45),(46,v46),(47,v47),(48,v48),(49,v49)]∧∃ ap' cp',two H6 56 (F7 C2) 72 (w.heap.size+3) w' af j cf fls ap' (k+1) cp' (ps.take k++[q])∧A6 w' (w.heap.size+1+1) 34 #[.int .i64 v,.slice af j cf,.slice ap' (k+1) cp']∧Below w.heap.size w w'∧A6 w' w.heap.size 34 #[.int .i64 v,.slice (fa) fls.length fc,.slice (some ⟨gb,go,none⟩) ps.length pc]∧A6 w' (w.heap.size+1) 34 #[.int .i64 0,.slice none 0 0,.slice none 0 0]) (by kernel_rfl) ?_ ?_
    ·intro Q' hR hQp
     have hb0:Below wi.heap.size wi wi.drew:=N4 _
     have hS:SQ (w.heap.size+1+1) ap k cp wi.drew:=hS0
     generalize wi.drew=wa at *
     have hO1:=hO.under hb0
     have hP1:=hP.under hb0
     have hR1:=hZ.under hb0
     have htwo1:=htwo.below hb0
     have hb1:Below w.heap.size w wa:=hb.trans (hb0.mono hb.size)
     refine A9 hQp hS [0,1,2] ?_
     iterate 3 (refine B2 _ rfl (by kernel_rfl) (A0 (by kernel_rfl) (by intro w0 hw0;have hw1:=hw0;simp only [SQ] at hw1;first|(go_simp;done)|(go_simp;rfl))) ?_;simp only [Act.put,St.tA,St.tD,St.tE,St.tS,St.tC,St.tZ])
     refine B3 ?_
     clear hS
     refine A7 (i:=3) rfl (by kernel_rfl) (by kernel_rfl) fun K3 hK3=>?_
     go_simp
     go_wp2_with fail
     refine (A8p q _ qa qc wa (hqr.below hb1) (by omega)).mono ?_
     rintro e wb ⟨a1,c1,rfl,hr1,hab⟩
     have hb2:Below w.heap.size w wb:=hb1.trans (hab.mono hb1.size)
     go_wp2_with fail
     have hS:_:=SQ.of (hO1.under hab)
     refine hK3 _ _ (fun _=>hS) ?_
     clear hK3
     clear hS
     have hlf':∀ k,blk af=some k→k<wa.heap.size:=fun k hk=>(htwo1.1.lt k hk).2
     have hlp':∀ k,blk ap=some k→k<wa.heap.size:=fun k hk=>(htwo1.2.1.lt k hk).2
     refine A7 (i:=4) rfl (by kernel_rfl) (by kernel_rfl) fun K4 hK4=>?_
     go_simp
     go_wp2_with fail
     have hbc:=G8 wb (.cells #[.slice a1 q.length c1] 72)
     have hac:=hab.trans (hbc.mono hab.size)
     have hN:=I6 wb 72 #[.slice a1 q.length c1]
     have hr2:=hr1.fresh.below hbc
     have hb3:=hb2.trans (hbc.mono hb2.size)
     have hS:_:=SQ.of (hO1.under hac)
     refine hK4 _ _ (fun _=>hS) ?_
     clear hK4
     clear hS
     have hsz3:=hac.size
     generalize wb.alloc (.cells #[.slice a1 q.length c1] 72)=wc at *
     generalize wb.heap.size=nb at *
     have htwo3:=htwo1.below hac
     have hsrc:=A0z hN (two.okof (lo:=w.heap.size+3) (ao:=af) (bo:=ap) hr2 (by have:=hb1.size;have:=hO1.lt;omega) hlf' hlp')
     refine A7 (i:=5) rfl (by kernel_rfl) (by kernel_rfl) fun K5 hK5=>?_
     refine Q3 (sh:=F7 C2) (n:=k) (m:=1) (.tmp 43) (.tmp 46) 32 (by rfl) 72 i0 (.slice none 0 0) 24 Tryz.underlying32 hi hz0 hz1' hzz2 rfl (by decide) (ok:=twn (w.heap.size+3) wc af ap) (base:=w.heap.size+3) (by rfl) htwo3.2.1 (by rfl) rfl hsrc (by simp only [maxLen];omega) (by omega) (by have:=hO1.lt;omega) ?_
     intro ap' cp' wd hop hgp hliep
     have hne:∀ b,b≤w.heap.size+2→some b≠blk ap:=fun b hbb e=>by have:=(htwo3.2.1.lt _ e.symm).1;omega
     have hO4:=(hO1.under hac).grown hgp (hne _ (by omega))
     have hP4:=(hP1.under hac).grown hgp (hne _ (by omega))
     have hR4:=(hR1.under hac).grown hgp (hne _ (by omega))
     have hb4:Below w.heap.size w wd:=hb3.trans (D6 (B:=w.heap.size) hgp (fun k hk=>by have:=(htwo3.2.1.lt k hk).1;omega) hb3.size)
     have htwo4:=htwo3.grownB hop hgp hliep
     simp only [Act.put,St.tA,St.tD,St.tE,St.tS,St.tC,St.tZ]
     have hS:_:=SQ.of hO4
     refine hK5 _ _ (fun _=>hS) ?_
     clear hK5
     clear hop hsrc htwo3 hgp
     refine A9 hQp hS [6] ?_
     iterate 1 (refine B2 _ rfl (by kernel_rfl) (A0 (by kernel_rfl) (by intro w0 hw0;have hw1:=hw0;simp only [SQ] at hw1;first|(go_simp;done)|(go_simp;rfl))) ?_;simp only [Act.put,St.tA,St.tD,St.tE,St.tS,St.tC,St.tZ])
     refine B3 ?_
     clear hS
     refine A7 (i:=7) rfl (by kernel_rfl) (by kernel_rfl) fun K7 hK7=>?_
     obtain ⟨o1,o2⟩:=hO4.cells
     have hofl:=hO4.lt
     go_simp
     go_wp2_with fail
     refine hK7 _ _ (fun h=>absurd rfl h) ?_
     clear hK7
     refine B5 (by kernel_rfl) ?_ _
     refine hR _ _ ?_
     iterate 8 apply Exists.intro
     refine ⟨?_,⟨ap',cp',htwo4.setOther (by omega),hO4.set 2 (.slice ap' (k+1) cp'),by (repeat' (first|with_reducible (first|exact Below.refl _ _|assumption|refine Below.drew ?_|refine A3 ?_ _|refine Below.alloc ?_ ?_ _|refine Below.setCell ?_ ?_ _)|omega|(simp;done)|(simp;omega))),hP4.setOther (by first|(simp;done)|(simp;omega)) _,hR4.setOther (by first|(simp;done)|(simp;omega)) _⟩⟩
     simp only [C8,Act.put,St.tS,St.tC,St.tZ]
     rfl
    rintro a' w8 ⟨v42,v43,v44,v45,v46,v47,v48,v49,rfl,hb8⟩
    simp only [C8,Act.put,St.tS,St.tC,St.tZ]
    clear hO hP hZ htwo hb p1 p2 o1 o2 s0 s2
    obtain ⟨ap',cp',htwo9,hO9,hb9,hP9,hR9⟩:=hb8
    go_wp2
    case roundEnd=>
     go_roundw
     case rel=>exact ⟨k+1,ap',cp',by go_num,by omega,hO9,by rw [HTK.out];exact htwo9,hb9,hP9,hR9⟩
     case measure=>simp [intOf]<;>omega
  obtain ⟨f,hf⟩:∃ f,fls[j]? =some f:=⟨_,List.getElem?_eq_getElem hlt⟩
  have htk:fls.take (j+1)=fls.take j++[f]:=by rw [List.take_add_one,hf];rfl
  have HTK:=Lib.hid htk
  obtain ⟨hvl,hnl⟩:=HQ2.out f (List.mem_of_getElem? hf)
  obtain ⟨g,off,rfl,_,hbl,cs,hcs,hce⟩:=hfl.get hf
  obtain ⟨va,vc,na,nc,rfl,hsi,hdi,hvi,hni⟩:=hcs
  have e0:=B8 hb hbl (hce 0 _ rfl)
  have e1:=B8 hb hbl (hce 1 _ rfl)
  have e2:=B8 hb hbl (hce 2 _ rfl)
  have e3:=B8 hb hbl (hce 3 _ rfl)
  clear hce htk hf
  simp only [H6,Nat.add_zero] at e0 e1 e2 e3
  have b0:(0:Int)≤(j:Int):=by omega
  have b1:(j:Int)<(fls.length:Int):=by omega
  have hgl:g<wo.heap.size:=by omega
  have hob6:=G8 wo (.cells #[.int .i64 f.src,.int .i64 f.dst,.slice va f.via.length vc,.slice na f.no.length nc] 56)
  have hX6:=I6 wo 56 #[.int .i64 f.src,.int .i64 f.dst,.slice va f.via.length vc,.slice na f.no.length nc]
  have hO6:=hO.under hob6
  have hP6:=hP.under hob6
  have hR6:=hZ.under hob6
  have htwo6:=htwo.below hob6
  have hb6:Below w.heap.size w (wo.alloc (.cells #[.int .i64 f.src,.int .i64 f.dst,.slice va f.via.length vc,.slice na f.no.length nc] 56)):=hb.trans (hob6.mono hb.size)
  have hlf:∀ k,blk af=some k→k<wo.heap.size:=fun k hk=>(htwo.1.lt k hk).2
  have hwo6:wo.heap.size<(wo.alloc (.cells #[.int .i64 f.src,.int .i64 f.dst,.slice va f.via.length vc,.slice na f.no.length nc] 56)).heap.size:=by simp
  go_wp2
  generalize wo.alloc (.cells #[.int .i64 f.src,.int .i64 f.dst,.slice va f.via.length vc,.slice na f.no.length nc] 56)=w6 at *
  clear p1 p2 o1 o2 e0 e1 e2 e3 hO hP hZ htwo hob6
  generalize wo.heap.size=fb at *
  have hS0:SP (w.heap.size+1+1) fb af j cf f va vc na nc w6.drew:=SP.of hO6 hX6
  refine B9 (SP (w.heap.size+1+1) fb af j cf f va vc na nc) 16 (fun a0 a' w'=>∃ v18 v19 v20 v21 v22 v23 v24 v25 v26 v27 v28 v29 v30 v31 v32 v33,a'=C8 a0 [(18,v18),(19,v19),(20,v20),(21,v21),(22,v22),(23,v23),(24,v24),(25,v25),(26,v26),(27,v27),(28,v28),(29,v29),(30,v30),(31,v31),(32,v32),(33,v33)]∧∃ af' cf',two H6 56 (F7 C2) 72 (w.heap.size+3) w' af' (j+1) cf' (fls.take j++[f]) none 0 0 []∧A6 w' (w.heap.size+1+1) 34 #[.int .i64 v,.slice af' (j+1) cf',.slice none 0 0]∧Below w.heap.size w w'∧A6 w' w.heap.size 34 #[.int .i64 v,.slice (some ⟨g,off,none⟩) fls.length fc,.slice pa ps.length pc]∧A6 w' (w.heap.size+1) 34 #[.int .i64 0,.slice none 0 0,.slice none 0 0]) (by kernel_rfl) ?_ ?_
  ·intro Q' hR hQp
   have hb0:Below w6.heap.size w6 w6.drew:=N4 _
   have hS:SP (w.heap.size+1+1) fb af j cf f va vc na nc w6.drew:=hS0
   generalize w6.drew=wa at *
   have hO8:=hO6.under hb0
   have hP8:=hP6.under hb0
   have hR8:=hR6.under hb0
   have hX8:=hX6.under hb0
   have htwo8:=htwo6.below hb0
   have hb8:Below w.heap.size w wa:=hb6.trans (hb0.mono hb6.size)
   refine A9 hQp hS [0,1,2,3,4,5,6,7,9,10] ?_
   iterate 10 (refine B2 _ rfl (by kernel_rfl) (A0 (by kernel_rfl) (by intro w0 hw0;have hw1:=hw0;simp only [SP] at hw1;first|(go_simp;done)|(go_simp;rfl))) ?_;simp only [Act.put,St.tA,St.tD,St.tE,St.tS,St.tC,St.tZ])
   refine B3 ?_
   clear hS
   refine A7 (i:=8) rfl (by kernel_rfl) (by kernel_rfl) fun K8 hK8=>?_
   go_simp
   go_wp2_with fail
   refine (R7 f.via _ va vc wa (hvi.below hb8) (by omega)).mono ?_
   rintro e wb ⟨a1,c1,rfl,hr1,hab⟩
   have hb9:Below w.heap.size w wb:=hb8.trans (hab.mono hb8.size)
   go_wp2_with fail
   have hS:_:=SP.of (hO8.under hab) (hX8.under hab)
   refine hK8 _ _ (fun _=>hS) ?_
   clear hK8
   clear hS
   refine A7 (i:=11) rfl (by kernel_rfl) (by kernel_rfl) fun K11 hK11=>?_
   go_simp
   go_wp2_with fail
   refine (R7 f.no _ na nc wb (hni.below hb9) (by omega)).mono ?_
   rintro e wc ⟨a2,c2,rfl,hr2,hbc⟩
   have hac:Below wa.heap.size wa wc:=hab.trans (hbc.mono hab.size)
   have hr1':=(hr1.fresh.below hbc).mono (ok':=fun b=>wa.heap.size≤b) (fun b _ h=>⟨h,rfl⟩)
   have hr2':=hr2.fresh.mono (ok':=fun b=>wa.heap.size≤b) (fun b _ (h:wb.heap.size≤b)=>⟨Nat.le_trans hab.size h,rfl⟩)
   have hb10:Below w.heap.size w wc:=hb8.trans (hac.mono hb8.size)
   go_wp2_with fail
   have hS:_:=SP.of (hO8.under hac) (hX8.under hac)
   refine hK11 _ _ (fun _=>hS) ?_
   clear hK11
   clear hr1 hr2 hb9
   refine A9 hQp hS [12] ?_
   iterate 1 (refine B2 _ rfl (by kernel_rfl) (A0 (by kernel_rfl) (by intro w0 hw0;have hw1:=hw0;simp only [SP] at hw1;first|(go_simp;done)|(go_simp;rfl))) ?_;simp only [Act.put,St.tA,St.tD,St.tE,St.tS,St.tC,St.tZ])
   refine B3 ?_
   clear hS
   refine A7 (i:=13) rfl (by kernel_rfl) (by kernel_rfl) fun K13 hK13=>?_
   go_simp
   go_wp2_with fail
   have hcd:=G8 wc (.cells #[.int .i64 f.src,.int .i64 f.dst,.slice a1 f.via.length c1,.slice a2 f.no.length c2] 56)
   have had:=hac.trans (hcd.mono hac.size)
   have hN:=I6 wc 56 #[.int .i64 f.src,.int .i64 f.dst,.slice a1 f.via.length c1,.slice a2 f.no.length c2]
   have hNl:=hN.lt
   have hr1'':=hr1'.below hcd
   have hr2'':=hr2'.below hcd
   have hb11:=hb8.trans (had.mono hb8.size)
   have hS:_:=SP.of (hO8.under had) (hX8.under had)
   refine hK13 _ _ (fun _=>hS) ?_
   clear hK13
   clear hr1' hr2' hb10 hcd hS
   have hacz:=hac.size
   generalize wc.alloc (.cells #[.int .i64 f.src,.int .i64 f.dst,.slice a1 f.via.length c1,.slice a2 f.no.length c2] 56)=wd at *
   generalize wc.heap.size=nb at *
   have htwo9:=htwo8.below had
   have hla':∀ k,blk af=some k→k<wa.heap.size:=fun k hk=>(htwo8.1.lt k hk).2
   have hwas:=hb0.size
   have hsrc:=A03 hN hsi hdi (two.okof (lo:=w.heap.size+3) (ao:=af) (bo:=none) hr1'' (by have:=hO8.lt;omega) hla' (by simp [blk])) (two.okof (lo:=w.heap.size+3) (ao:=af) (bo:=none) hr2'' (by have:=hO8.lt;omega) hla' (by simp [blk]))
   refine A7 (i:=14) rfl (by kernel_rfl) (by kernel_rfl) fun K14 hK14=>?_
   refine Q3 (sh:=H6) (n:=j) (m:=1) (.tmp 19) (.tmp 31) 26 (by rfl) 56 j0 (.agg #[.int .i64 0,.int .i64 0,.slice none 0 0,.slice none 0 0]) 64 Tryz.underlying26 gi gz0 gz1 gz2 rfl (by decide) (ok:=twn (w.heap.size+3) wd af none) (base:=w.heap.size+3) (by rfl) htwo9.1 (by rfl) rfl hsrc (by simp only [maxLen];omega) (by omega) (by have:=had.size;have:=hO8.lt;omega) ?_
   intro af' cf' we' hof hgf hlief
   have hne:∀ b,b≤w.heap.size+2→some b≠blk af:=fun b hbb e=>by have:=(htwo9.1.lt _ e.symm).1;omega
   have hOf:=(hO8.under had).grown hgf (hne _ (by omega))
   have hPf:=(hP8.under had).grown hgf (hne _ (by omega))
   have hRf:=(hR8.under had).grown hgf (hne _ (by omega))
   have hXf:=(hX8.under had).grown hgf (fun e=>by have:=hlf _ e.symm;omega)
   have hbf:Below w.heap.size w we':=hb11.trans (D6 (B:=w.heap.size) hgf (fun k hk=>by have:=(htwo9.1.lt k hk).1;omega) hb11.size)
   have htwof:=htwo9.grownA hof hgf hlief
   simp only [Act.put,St.tA,St.tD,St.tE,St.tS,St.tC,St.tZ]
   have hS:_:=SP.of hOf hXf
   refine hK14 _ _ (fun _=>hS) ?_
   clear hK14
   clear hof hsrc htwo9 hgf
   refine A9 hQp hS [15] ?_
   iterate 1 (refine B2 _ rfl (by kernel_rfl) (A0 (by kernel_rfl) (by intro w0 hw0;have hw1:=hw0;simp only [SP] at hw1;first|(go_simp;done)|(go_simp;rfl))) ?_;simp only [Act.put,St.tA,St.tD,St.tE,St.tS,St.tC,St.tZ])
   refine B3 ?_
   clear hS
   refine A7 (i:=16) rfl (by kernel_rfl) (by kernel_rfl) fun K16 hK16=>?_
   obtain ⟨o1,o2⟩:=hOf.cells
   have hofl:=hOf.lt
   go_simp
   go_wp2_with fail
   refine hK16 _ _ (fun h=>absurd rfl h) ?_
   clear hK16
   refine B5 (by kernel_rfl) ?_ _
   refine hR _ _ ?_
   iterate 16 apply Exists.intro
   refine ⟨?_,⟨af',cf',htwof.setOther (by omega),hOf.set 1 (.slice af' (j+1) cf'),by (repeat' (first|with_reducible (first|exact Below.refl _ _|assumption|refine Below.drew ?_|refine A3 ?_ _|refine Below.alloc ?_ ?_ _|refine Below.setCell ?_ ?_ _)|omega|(simp;done)|(simp;omega))),hPf.setOther (by first|(simp;done)|(simp;omega)) _,hRf.setOther (by first|(simp;done)|(simp;omega)) _⟩⟩
   simp only [C8,Act.put,St.tS,St.tC,St.tZ]
   rfl
  rintro a' w8 ⟨v18,v19,v20,v21,v22,v23,v24,v25,v26,v27,v28,v29,v30,v31,v32,v33,rfl,hb8⟩
  simp only [C8,Act.put,St.tS,St.tC,St.tZ]
  clear hO6 hP6 hR6 htwo6 hb6 hX6 hb s2
  obtain ⟨af',cf',htwo9,hO9,hb9,hP9,hR9⟩:=hb8
  go_wp2
  case roundEnd=>
   go_roundw
   case rel=>exact ⟨j+1,af',cf',by go_num,by omega,hO9,by rw [HTK.out];exact htwo9,hb9,hP9,hR9⟩
   case measure=>simp [intOf]<;>omega
end Go.Proofs.YtampcbncgofkoaaGreatDoor
namespace Go.St
open Go.RowKit
def S3 (b o:Nat) (x0 x1 x2:Value) (w:World):Prop:=w.cell? ⟨b,o,none⟩=some x0∧w.cell? ⟨b,o+1,none⟩=some x1∧w.cell? ⟨b,o+2,none⟩=some x2
theorem S3.of {w:World} {b:Nat} {t:TypeId} {a0 a1 a2 a3 a4 a5 a6 a7 a8:Value} (h:A6 w b t #[a0,a1,a2,a3,a4,a5,a6,a7,a8]):S3 b 4 a4 a5 a6 w:=⟨h.cells.1 4,h.cells.1 5,h.cells.1 6⟩
end Go.St
namespace Go.Proofs.YtampcbncgofkoaaGreatDoor
open Go.RowKit Go.St
theorem B3g (c:Ctl) (cs:List Value) (ok:Nat→Prop) (w:World) (h:P3.rep ok w cs c) (h1:N6 c.now) (h2:N6 c.next) (h3:c.waits.length≤10000000000):
  Calls Tryz.prog 52 #[.agg cs.toArray] w fun e w'=>∃ (n0 n1 n2 x0 x1 x2:Value) (wa:Option Addr) (wc M:Nat),e=.returned (.agg #[.int .i64 c.stage,n0,n1,n2,x0,x1,x2,.int .i64 c.num,.slice wa c.waits.length wc])∧w.heap.size≤M∧(∀ k,blk wa=some k→k<M)∧
   B7 w' (fun b=>M≤b) n0 n1 n2 c.now∧B7 w' (fun b=>M≤b) x0 x1 x2 c.next∧C7 C2 3 (fun _=>False) w.heap.size w' wa c.waits.length wc c.waits∧Below w.heap.size w w':=by
 obtain ⟨n0,n1,n2,x0,x1,x2,pa,pc,rfl,hst,hnu,hn,hx,hw⟩:=P3.open_ h
 obtain ⟨st,now,next,num,waits⟩:=c
 dsimp only at *
 obtain ⟨ln0,ln1,ln2⟩:=hn.one
 obtain ⟨lx0,lx1,lx2⟩:=hx.one
 have hwx:=hw.len_le
 go_enter Tryz.func52,Tryz.ntmps52
 go_wp2_with fail
 have hB0:Below w.heap.size w ((w.alloc (.cells #[.int .i64 st,n0,n1,n2,x0,x1,x2,.int .i64 num,.slice pa waits.length pc] 43)).alloc (.cells #[.int .i64 0,.int .i64 0,.slice none 0 0,.slice none 0 0,.int .i64 0,.slice none 0 0,.slice none 0 0,.int .i64 0,.slice none 0 0] 43)):=A1t _ _ _
 have hC0:A6 ((w.alloc (.cells #[.int .i64 st,n0,n1,n2,x0,x1,x2,.int .i64 num,.slice pa waits.length pc] 43)).alloc (.cells #[.int .i64 0,.int .i64 0,.slice none 0 0,.slice none 0 0,.int .i64 0,.slice none 0 0,.slice none 0 0,.int .i64 0,.slice none 0 0] 43)) w.heap.size 43 #[.int .i64 st,n0,n1,n2,x0,x1,x2,.int .i64 num,.slice pa waits.length pc]:=(A6.new rfl).alloc _
 have hZ0:A6 ((w.alloc (.cells #[.int .i64 st,n0,n1,n2,x0,x1,x2,.int .i64 num,.slice pa waits.length pc] 43)).alloc (.cells #[.int .i64 0,.int .i64 0,.slice none 0 0,.slice none 0 0,.int .i64 0,.slice none 0 0,.slice none 0 0,.int .i64 0,.slice none 0 0] 43)) (w.heap.size+1) 43 #[.int .i64 0,.int .i64 0,.slice none 0 0,.slice none 0 0,.int .i64 0,.slice none 0 0,.slice none 0 0,.int .i64 0,.slice none 0 0]:=A6.new (by simp)
 have hz0:((w.alloc (.cells #[.int .i64 st,n0,n1,n2,x0,x1,x2,.int .i64 num,.slice pa waits.length pc] 43)).alloc (.cells #[.int .i64 0,.int .i64 0,.slice none 0 0,.slice none 0 0,.int .i64 0,.slice none 0 0,.slice none 0 0,.int .i64 0,.slice none 0 0] 43)).heap.size=w.heap.size+2:=by simp
 generalize (w.alloc (.cells #[.int .i64 st,n0,n1,n2,x0,x1,x2,.int .i64 num,.slice pa waits.length pc] 43)).alloc (.cells #[.int .i64 0,.int .i64 0,.slice none 0 0,.slice none 0 0,.int .i64 0,.slice none 0 0,.slice none 0 0,.int .i64 0,.slice none 0 0] 43)=w0 at *
 refine (R7 waits _ pa pc w0 (hw.below hB0) h3).mono ?_
 rintro e w1 ⟨va,vc,rfl,hv,hb1⟩
 rw [hz0] at hv
 have hB1:Below w.heap.size w w1:=hB0.trans (hb1.mono hB0.size)
 have hC1:=hC0.under hb1
 have hZ1:=hZ0.under hb1
 have hzl:=hZ1.lt
 obtain ⟨c1,c2⟩:=hC1.cells
 clear hb1 hC0 hZ0 hB0
 have hC2:=hC1.set 8 (.slice va waits.length vc)
 have hZ2:=hZ1.setOther (a:=⟨w.heap.size,8,none⟩) (by first|(simp;done)|(simp;omega)) (.slice va waits.length vc)
 have hB2:Below w.heap.size w (w1.setCell ⟨w.heap.size,8,none⟩ (.slice va waits.length vc)):=by (repeat' (first|with_reducible (first|exact Below.refl _ _|assumption|refine Below.drew ?_|refine A3 ?_ _|refine Below.alloc ?_ ?_ _|refine Below.setCell ?_ ?_ _)|omega|(simp;done)|(simp;omega)))
 have hv2:=hv.setCell (a:=⟨w.heap.size,8,none⟩) (by show w.heap.size<w.heap.size+2;omega) (.slice va waits.length vc)
 simp only [St.tS,St.tC,St.tZ] at hC2
 have hvl:∀ k,blk va=some k→k<w1.heap.size:=fun k hk=>(hv.lt k hk).2
 have hs12:(w1.setCell ⟨w.heap.size,8,none⟩ (.slice va waits.length vc)).heap.size=w1.heap.size:=by simp
 go_wp2
 clear c1 c2 hC1 hZ1 hv
 generalize w1.setCell ⟨w.heap.size,8,none⟩ (.slice va waits.length vc)=w2 at *
 generalize hM:w1.heap.size=M at *
 clear hB1
 have hS0:S3 w.heap.size 4 x0 x1 x2 w2.drew:=⟨hC2.cells.1 4,hC2.cells.1 5,hC2.cells.1 6⟩
 refine B9 (S3 w.heap.size 4 x0 x1 x2) 9 (fun a0 a' w'=>∃ v7 v8 v9 v10 v11 v12 v13 v14,a'=C8 a0 [(7,v7),(8,v8),(9,v9),(10,v10),(11,v11),(12,v12),(13,v13),(14,v14)]∧∃ m0 m1 m2 y0 y1 y2,A6 w' w.heap.size 43 #[.int .i64 st,m0,m1,m2,y0,y1,y2,.int .i64 num,.slice va waits.length vc]∧A6 w' (w.heap.size+1) 43 #[.int .i64 0,.int .i64 0,.slice none 0 0,.slice none 0 0,.int .i64 0,.slice none 0 0,.slice none 0 0,.int .i64 0,.slice none 0 0]∧B7 w' (fun b=>M≤b) m0 m1 m2 now∧B7 w' (fun b=>M≤b) y0 y1 y2 next∧C7 C2 3 (fun _=>False) (w.heap.size+2) w' va waits.length vc waits∧Below w.heap.size w w') (by kernel_rfl) ?_ ?_
 ·intro Q' hR hQp
  have hb0:Below w2.heap.size w2 w2.drew:=N4 _
  have hS:S3 w.heap.size 4 x0 x1 x2 w2.drew:=hS0
  generalize w2.drew=wa at *
  have hCa:=hC2.under hb0
  have hZa:=hZ2.under hb0
  have hva:=hv2.below hb0
  have hBa:=hB2.trans (hb0.mono hB2.size)
  have hMa:M≤wa.heap.size:=by have:=hb0.size;omega
  obtain ⟨c1,c2⟩:=hCa.cells
  refine A9 hQp hS [0,3,4] ?_
  iterate 3 (refine B2 _ rfl (by kernel_rfl) (A0 (by kernel_rfl) (by intro w0 hw0;have hw1:=hw0;simp only [S3] at hw1;first|(go_simp;done)|(go_simp;rfl))) ?_;simp only [Act.put,St.tA,St.tD,St.tE,St.tS,St.tC,St.tZ])
  refine B3 ?_
  clear hS
  refine A7 (i:=1) rfl (by kernel_rfl) (by kernel_rfl) fun K1 hK1=>?_
  go_simp
  go_wp2_with fail
  have hS:_:=S3.of hCa
  refine hK1 _ _ (fun _=>hS) ?_
  clear hK1
  clear hS
  refine A7 (i:=2) rfl (by kernel_rfl) (by kernel_rfl) fun K2 hK2=>?_
  go_simp
  go_wp2_with fail
  refine (A58 now [n0,n1,n2] ok wa (C3.below hn hBa) h1).mono ?_
  rintro e wb ⟨ps,rfl,hp,hab⟩
  obtain ⟨m0,m1,m2,rfl,hp1⟩:=B7.of hp
  obtain ⟨lm0,lm1,lm2⟩:=B7.st (P:=Tryz.prog) hp1
  have hBb:=hBa.trans (hab.mono hBa.size)
  have hCb:=hCa.under hab
  have hZb:=hZa.under hab
  have hvb:=hva.below hab
  go_wp2_with fail
  have hS:_:=S3.of hCb
  refine hK2 _ _ (fun _=>hS) ?_
  clear hK2
  refine A9 hQp hS [6] ?_
  iterate 1 (refine B2 _ rfl (by kernel_rfl) (A0 (by kernel_rfl) (by intro w0 hw0;have hw1:=hw0;simp only [S3] at hw1;first|(go_simp;done)|(go_simp;rfl))) ?_;simp only [Act.put,St.tA,St.tD,St.tE,St.tS,St.tC,St.tZ])
  refine B3 ?_
  clear hS
  refine A7 (i:=5) rfl (by kernel_rfl) (by kernel_rfl) fun K5 hK5=>?_
  go_simp
  go_wp2_with fail
  refine (A58 next [x0,x1,x2] ok wb (C3.below hx hBb) h2).mono ?_
  rintro e wc ⟨qs,rfl,hq,hbc⟩
  obtain ⟨y0,y1,y2,rfl,hq1⟩:=B7.of hq
  obtain ⟨ly0,ly1,ly2⟩:=B7.st (P:=Tryz.prog) hq1
  have hBc:=hBb.trans (hbc.mono hBb.size)
  have hCc:=hCb.under hbc
  have hZc:=hZb.under hbc
  have hvc:=hvb.below hbc
  have hpc:B7 wc (fun b=>wa.heap.size≤b) m0 m1 m2 now:=C3.below hp1 hbc
  have hz1:=hab.size
  have hqc:B7 wc (fun b=>wa.heap.size≤b) y0 y1 y2 next:=C3.anyOk hq1 fun b _ (hb:wb.heap.size≤b)=>by omega
  go_wp2_with fail
  have hS:_:=S3.of hCc
  refine hK5 _ _ (fun _=>hS) ?_
  clear hK5
  clear c1 c2
  obtain ⟨c1,c2⟩:=hCc.cells
  have hcl:=hZc.lt
  clear hS
  refine A7 (i:=7) rfl (by kernel_rfl) (by kernel_rfl) fun K7 hK7=>?_
  go_simp
  go_wp2_with fail
  have hCd:=((hCc.set 1 m0).set 2 m1).set 3 m2
  simp only [St.tS,St.tC,St.tZ] at hCd
  clear c1 c2
  obtain ⟨c1,c2⟩:=hCd.cells
  have hS:_:=S3.of hCd
  refine hK7 _ _ (fun _=>hS) ?_
  clear hK7
  refine A9 hQp hS [8] ?_
  iterate 1 (refine B2 _ rfl (by kernel_rfl) (A0 (by kernel_rfl) (by intro w0 hw0;have hw1:=hw0;simp only [S3] at hw1;first|(go_simp;done)|(go_simp;rfl))) ?_;simp only [Act.put,St.tA,St.tD,St.tE,St.tS,St.tC,St.tZ])
  refine B3 ?_
  have hZd:=((hZc.setOther (a:=⟨w.heap.size,1,none⟩) (by first|(simp;done)|(simp;omega)) m0).setOther (a:=⟨w.heap.size,2,none⟩) (by first|(simp;done)|(simp;omega)) m1).setOther (a:=⟨w.heap.size,3,none⟩) (by first|(simp;done)|(simp;omega)) m2
  have hCe:=((hCd.set 4 y0).set 5 y1).set 6 y2
  have hZe:=((hZd.setOther (a:=⟨w.heap.size,4,none⟩) (by first|(simp;done)|(simp;omega)) y0).setOther (a:=⟨w.heap.size,5,none⟩) (by first|(simp;done)|(simp;omega)) y1).setOther (a:=⟨w.heap.size,6,none⟩) (by first|(simp;done)|(simp;omega)) y2
  simp only [St.tS,St.tC,St.tZ] at hCe
  have hve:=(((((hvc.setCell (a:=⟨w.heap.size,1,none⟩) (by show w.heap.size<w.heap.size+2;omega) m0).setCell (a:=⟨w.heap.size,2,none⟩) (by show w.heap.size<w.heap.size+2;omega) m1).setCell (a:=⟨w.heap.size,3,none⟩) (by show w.heap.size<w.heap.size+2;omega) m2).setCell (a:=⟨w.heap.size,4,none⟩) (by show w.heap.size<w.heap.size+2;omega) y0).setCell (a:=⟨w.heap.size,5,none⟩) (by show w.heap.size<w.heap.size+2;omega) y1).setCell (a:=⟨w.heap.size,6,none⟩) (by show w.heap.size<w.heap.size+2;omega) y2
  have hFe:Frm (fun b=>M≤b) w.heap.size wc ((((((wc.setCell ⟨w.heap.size,1,none⟩ m0).setCell ⟨w.heap.size,2,none⟩ m1).setCell ⟨w.heap.size,3,none⟩ m2).setCell ⟨w.heap.size,4,none⟩ y0).setCell ⟨w.heap.size,5,none⟩ y1).setCell ⟨w.heap.size,6,none⟩ y2):=by
   have hn9:¬M≤w.heap.size:=by omega
   exact (((((Frm.set (a:=⟨w.heap.size,1,none⟩) hn9 (Nat.le_refl _) m0).trans (Frm.set (a:=⟨w.heap.size,2,none⟩) hn9 (Nat.le_refl _) m1)).trans (Frm.set (a:=⟨w.heap.size,3,none⟩) hn9 (Nat.le_refl _) m2)).trans (Frm.set (a:=⟨w.heap.size,4,none⟩) hn9 (Nat.le_refl _) y0)).trans (Frm.set (a:=⟨w.heap.size,5,none⟩) hn9 (Nat.le_refl _) y1)).trans (Frm.set (a:=⟨w.heap.size,6,none⟩) hn9 (Nat.le_refl _) y2)
  have hpe:=hFe.rep (S:=C3) (C3.anyOk hpc fun b _ (hb:wa.heap.size≤b)=>Nat.le_trans hMa hb)
  have hqe:=hFe.rep (S:=C3) (C3.anyOk hqc fun b _ (hb:wa.heap.size≤b)=>Nat.le_trans hMa hb)
  have hBe:=hBc.trans hFe.below
  clear hFe
  clear hS
  refine A7 (i:=9) rfl (by kernel_rfl) (by kernel_rfl) fun K9 hK9=>?_
  go_simp
  go_wp2_with fail
  refine hK9 _ _ (fun h=>absurd rfl h) ?_
  clear hK9
  refine B5 (by kernel_rfl) ?_ _
  refine hR _ _ ?_
  iterate 8 apply Exists.intro
  refine ⟨?_,⟨m0,m1,m2,y0,y1,y2,hCe,hZe,hpe,hqe,hve,hBe⟩⟩
  simp only [C8,Act.put,St.tS,St.tC,St.tZ]
  rfl
 rintro a' w8 ⟨v7,v8,v9,v10,v11,v12,v13,v14,rfl,hb8⟩
 simp only [C8,Act.put,St.tS,St.tC,St.tZ]
 clear hC2 hZ2 hv2 hB2
 obtain ⟨m0,m1,m2,y0,y1,y2,hC9,hZ9,hp9,hq9,hv9,hB9⟩:=hb8
 obtain ⟨lm0,lm1,lm2⟩:=B7.st (P:=Tryz.prog) hp9
 obtain ⟨ly0,ly1,ly2⟩:=B7.st (P:=Tryz.prog) hq9
 obtain ⟨c1,c2⟩:=hC9.cells
 obtain ⟨z1,z2⟩:=hZ9.cells
 have hzl:=hZ9.lt
 have hMN:¬M≤w.heap.size+1:=by omega
 have hNM:w.heap.size≤w.heap.size+1:=by omega
 have hF:Frm (fun b=>M≤b) w.heap.size w8 (((((((((w8.setCell ⟨w.heap.size+1,0,none⟩ (.int .i64 st)).setCell ⟨w.heap.size+1,1,none⟩ m0).setCell ⟨w.heap.size+1,2,none⟩ m1).setCell ⟨w.heap.size+1,3,none⟩ m2).setCell ⟨w.heap.size+1,4,none⟩ y0).setCell ⟨w.heap.size+1,5,none⟩ y1).setCell ⟨w.heap.size+1,6,none⟩ y2).setCell ⟨w.heap.size+1,7,none⟩ (.int .i64 num)).setCell ⟨w.heap.size+1,8,none⟩ (.slice va waits.length vc)):=
  ((((((((Frm.set (a:=⟨w.heap.size+1,0,none⟩) hMN hNM _).trans (Frm.set (a:=⟨w.heap.size+1,1,none⟩) hMN hNM _)).trans (Frm.set (a:=⟨w.heap.size+1,2,none⟩) hMN hNM _)).trans (Frm.set (a:=⟨w.heap.size+1,3,none⟩) hMN hNM _)).trans (Frm.set (a:=⟨w.heap.size+1,4,none⟩) hMN hNM _)).trans (Frm.set (a:=⟨w.heap.size+1,5,none⟩) hMN hNM _)).trans (Frm.set (a:=⟨w.heap.size+1,6,none⟩) hMN hNM _)).trans (Frm.set (a:=⟨w.heap.size+1,7,none⟩) hMN hNM _)).trans (Frm.set (a:=⟨w.heap.size+1,8,none⟩) hMN hNM _)
 have hG:=((((((((hZ9.set 0 (.int .i64 st)).set 1 m0).set 2 m1).set 3 m2).set 4 y0).set 5 y1).set 6 y2).set 7 (.int .i64 num)).set 8 (.slice va waits.length vc)
 obtain ⟨g1,g2⟩:=hG.cells
 have hlt9:w.heap.size+1<w.heap.size+2:=by omega
 have hvf:=((((((((hv9.setCell (a:=⟨w.heap.size+1,0,none⟩) hlt9 (.int .i64 st)).setCell (a:=⟨w.heap.size+1,1,none⟩) hlt9 m0).setCell (a:=⟨w.heap.size+1,2,none⟩) hlt9 m1).setCell (a:=⟨w.heap.size+1,3,none⟩) hlt9 m2).setCell (a:=⟨w.heap.size+1,4,none⟩) hlt9 y0).setCell (a:=⟨w.heap.size+1,5,none⟩) hlt9 y1).setCell (a:=⟨w.heap.size+1,6,none⟩) hlt9 y2).setCell (a:=⟨w.heap.size+1,7,none⟩) hlt9 (.int .i64 num)).setCell (a:=⟨w.heap.size+1,8,none⟩) hlt9 (.slice va waits.length vc)
 have HE:=Lib.hid (show B7 _ (fun b=>M≤b) m0 m1 m2 now∧B7 _ (fun b=>M≤b) y0 y1 y2 next∧_∧_ from ⟨hF.rep (S:=C3) hp9,hF.rep (S:=C3) hq9,hvf.base (by omega:w.heap.size≤w.heap.size+2),hB9.trans hF.below⟩)
 clear hp9 hq9 hv9 hB9 hF hvf
 go_wp2_with ((with_reducible refine bodyPost_ret (v:=.agg #[.int .i64 st,m0,m1,m2,y0,y1,y2,.int .i64 num,.slice va waits.length vc]) ?ra1 ?rb1 ?rc1);go_must (case ra1=>simp [results,Tryz.results52,go_sem,g1]);go_must (case rb1=>rfl);go_must (case rc1=>exact ⟨m0,m1,m2,y0,y1,y2,va,vc,M,rfl,by omega,hvl,HE.out.1,HE.out.2.1,HE.out.2.2.1,HE.out.2.2.2⟩))
end Go.Proofs.YtampcbncgofkoaaGreatDoor
