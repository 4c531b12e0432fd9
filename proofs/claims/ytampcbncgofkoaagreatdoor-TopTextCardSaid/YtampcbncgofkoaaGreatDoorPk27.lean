/- Texts of this proof, one behind the other. -/
import Derived.Test.YtampcbncgofkoaaGreatDoorPk26
set_option linter.unusedSimpArgs false
set_option linter.unusedVariables false
set_option maxRecDepth 100000
set_option maxHeartbeats 16000000
namespace Go.Proofs.YtampcbncgofkoaaGreatDoor
open Go.RowKit Go.St
theorem B50 (t:C5) (v:Int) (hv:I64 v) (l:List E0) (cs:List Value) (ok ok':Nat→Prop) (ax:Option Addr) (cx:Nat) (w:World) (h:I5.rep ok w cs t) (hl:A8 H6 ok' w ax cx l):
  Calls Tryz.prog 6 #[.agg cs.toArray,.int .i64 v,.slice ax l.length cx] w fun e w'=>∃ pcs:List Value,e=.returned (.tuple #[.agg pcs.toArray,.agg #[.int .i64 (D2 t v l).2.1,.int .i64 (D2 t v l).2.2]])∧C3.rep (fun b=>w.heap.size≤b) w' pcs (D2 t v l).1∧Below w.heap.size w w':=by
 have hT:=h
 obtain ⟨la,lc,rfl,hn,hr⟩:=h
 generalize hFO:D2 t v l=R at *
 have hsp:=Lib.hid hFO
 clear hFO
 have hll:=hl.len_le
 go_enter Tryz.func6,Tryz.ntmps6
 go_wp2_with fail
 refine (T9 t _ ok _ (I5.below hT (by (repeat' (first|with_reducible (first|exact Below.refl _ _|assumption|refine Below.drew ?_|refine A3 ?_ _|refine Below.alloc ?_ ?_ _|refine Below.setCell ?_ ?_ _)|omega|(simp;done)|(simp;omega)))))).mono ?_
 rintro e w1 ⟨rfl,hb1⟩
 have hB1:Below w.heap.size w w1:=Below.trans (by (repeat' (first|with_reducible (first|exact Below.refl _ _|assumption|refine Below.drew ?_|refine A3 ?_ _|refine Below.alloc ?_ ?_ _|refine Below.setCell ?_ ?_ _)|omega|(simp;done)|(simp;omega)))) (hb1.mono (by simp;omega))
 have hT1:A6 w1 w.heap.size 24 #[.int .i64 t.n,.slice la t.links.length lc]:=(((A6.new rfl).alloc _).alloc _).under hb1
 have hP1:A6 w1 (w.heap.size+1) 34 #[.int .i64 0,.slice none 0 0,.slice none 0 0]:=((A6.new (by simp)).alloc _).under hb1
 have hF1:A6 w1 (w.heap.size+1+1) 29 #[.int .i64 0,.int .i64 0]:=(A6.new (by simp)).under hb1
 clear hb1
 obtain ⟨t1,t2⟩:=hT1.cells
 obtain ⟨p1,p2⟩:=hP1.cells
 obtain ⟨f1,f2⟩:=hF1.cells
 have hz1:=hF1.lt
 have hz2:w.heap.size+1<w1.heap.size:=by omega
 have hz3:w.heap.size<w1.heap.size:=by omega
 by_cases h1:(B6 t).1=0
 case neg=>
  have hR:R=(E2,B6 t):=by rw [←hsp.out];unfold D2;rw [if_pos h1]
  have HN:=Lib.hid hR
  have h1':((B6 t).1 !=0)=true:=by rw [bne_iff_ne];exact h1
  clear h1 hR hsp
  generalize B6 t=we at *
  go_wp2
  go_region
  obtain ⟨G1,G2⟩:=A14 hP1 hF1 (by omega) (.int .i64 0) (.slice none 0 0) (.slice none 0 0) (.int .i64 we.1) (.int .i64 we.2)
  obtain ⟨z1,z2⟩:=((G1.alloc (.cells #[.int .i64 we.1,.int .i64 we.2] 29)).drew).cells
  obtain ⟨z3,z4⟩:=((G2.alloc (.cells #[.int .i64 we.1,.int .i64 we.2] 29)).drew).cells
  go_wp2_with ((with_reducible refine bodyPost_ret (v:=.tuple #[.agg #[.int .i64 0,.slice none 0 0,.slice none 0 0],.agg #[.int .i64 we.1,.int .i64 we.2]]) ?ra1 ?rb1 ?rc1);go_must (case ra1=>simp [results,Tryz.results6,go_sem,z1,z3]);go_must (case rb1=>rfl);go_must (case rc1=>obtain rfl:=HN.out;exact ⟨_,rfl,A0b,by (repeat' (first|with_reducible (first|exact Below.refl _ _|assumption|refine Below.drew ?_|refine A3 ?_ _|refine Below.alloc ?_ ?_ _|refine Below.setCell ?_ ?_ _)|omega|(simp;done)|(simp;omega)))⟩))
 have hnw:¬(B6 t).1≠0:=fun h=>h h1
 have hpo:∀ r,D2 t v l=r→r=(if v<1∨1000<v then (E2,(3,0)) else if (D0 l t.n).1≠0 then (E2,D0 l t.n) else C2c t v l 0 [] l):=fun r hr=>by rw [←hr];unfold D2;rw [if_neg hnw]
 have HPO:=Lib.hid (hpo R hsp.out)
 clear hpo hsp hnw
 rw [h1]
 have htr:=(J8 h1).1
 clear h1
 generalize B6 t=we at *
 by_cases c1:v<1∨1000<v
 ·have hR:R=(E2,(3,0)):=by rw [HPO.out,if_pos c1]
  have HN:=Lib.hid hR
  clear hR HPO
  by_cases c2:v<1
  case' neg=>have c3:1000<v:=by omega
  all_goals
   clear c1
   obtain ⟨G1,G2⟩:=A14 hP1 hF1 (by omega) (.int .i64 0) (.slice none 0 0) (.slice none 0 0) (.int .i64 3) (.int .i64 0)
   obtain ⟨z1,z2⟩:=(G1.alloc (.cells #[.int .i64 0,.int .i64 we.2] 29)).cells
   obtain ⟨z3,z4⟩:=(G2.alloc (.cells #[.int .i64 0,.int .i64 we.2] 29)).cells
   go_wp2_with ((with_reducible refine bodyPost_ret (v:=.tuple #[.agg #[.int .i64 0,.slice none 0 0,.slice none 0 0],.agg #[.int .i64 3,.int .i64 0]]) ?ra2 ?rb2 ?rc2);go_must (case ra2=>simp [results,Tryz.results6,go_sem,z1,z3]);go_must (case rb2=>rfl);go_must (case rc2=>obtain rfl:=HN.out;exact ⟨_,rfl,A0b,by (repeat' (first|with_reducible (first|exact Below.refl _ _|assumption|refine Below.drew ?_|refine A3 ?_ _|refine Below.alloc ?_ ?_ _|refine Below.setCell ?_ ?_ _)|omega|(simp;done)|(simp;omega)))⟩))
 have c2:¬v<1:=by omega
 have c3:¬1000<v:=by omega
 have hR:R=if (D0 l t.n).1≠0 then (E2,D0 l t.n) else C2c t v l 0 [] l:=by rw [HPO.out,if_neg c1]
 have HR:=Lib.hid hR
 clear hR HPO c1
 have hT2:=hT1.alloc (.cells #[.int .i64 0,.int .i64 we.2] 29)
 have hP2:=hP1.alloc (.cells #[.int .i64 0,.int .i64 we.2] 29)
 have hF2:=hF1.alloc (.cells #[.int .i64 0,.int .i64 we.2] 29)
 have hB2:Below w.heap.size w (w1.alloc (.cells #[.int .i64 0,.int .i64 we.2] 29)):=by have:=hB1.size;(repeat' (first|with_reducible (first|exact Below.refl _ _|assumption|refine Below.drew ?_|refine A3 ?_ _|refine Below.alloc ?_ ?_ _|refine Below.setCell ?_ ?_ _)|omega|(simp;done)|(simp;omega)))
 go_wp2_with fail
 generalize w1.alloc (.cells #[.int .i64 0,.int .i64 we.2] 29)=w2 at *
 clear t1 t2 p1 p2 f1 f2 hT1 hP1 hF1
 refine (A2h l t.n ok' ax cx _ (hl.below (hB2.trans (by (repeat' (first|with_reducible (first|exact Below.refl _ _|assumption|refine Below.drew ?_|refine A3 ?_ _|refine Below.alloc ?_ ?_ _|refine Below.setCell ?_ ?_ _)|omega|(simp;done)|(simp;omega))))))).mono ?_
 rintro e w3 ⟨rfl,hb3⟩
 have hb23:Below w2.heap.size w2 w3:=Below.trans (by (repeat' (first|with_reducible (first|exact Below.refl _ _|assumption|refine Below.drew ?_|refine A3 ?_ _|refine Below.alloc ?_ ?_ _|refine Below.setCell ?_ ?_ _)|omega|(simp;done)|(simp;omega)))) (hb3.mono (by first|omega|(simp;done)|(simp;omega)))
 have hB3:Below w.heap.size w w3:=hB2.trans (hb23.mono hB2.size)
 have hT3:=hT2.under hb23
 have hP3:=hP2.under hb23
 have hF3:=hF2.under hb23
 clear hb3 hT2 hP2 hF2 hb23
 obtain ⟨t1,t2⟩:=hT3.cells
 obtain ⟨p1,p2⟩:=hP3.cells
 obtain ⟨f1,f2⟩:=hF3.cells
 have hy1:=hF3.lt
 have hy2:w.heap.size+1<w3.heap.size:=by omega
 have hy3:w.heap.size<w3.heap.size:=by omega
 by_cases h2:(D0 l t.n).1=0
 case neg=>
  have hR:R=(E2,D0 l t.n):=by rw [HR.out,if_pos h2]
  have HN:=Lib.hid hR
  have h2':((D0 l t.n).1 !=0)=true:=by rw [bne_iff_ne];exact h2
  clear h2 hR HR
  generalize D0 l t.n=fe at *
  go_wp2
  go_region
  obtain ⟨G1,G2⟩:=A14 hP3 hF3 (by omega) (.int .i64 0) (.slice none 0 0) (.slice none 0 0) (.int .i64 fe.1) (.int .i64 fe.2)
  obtain ⟨z1,z2⟩:=((G1.alloc (.cells #[.int .i64 fe.1,.int .i64 fe.2] 29)).drew).cells
  obtain ⟨z3,z4⟩:=((G2.alloc (.cells #[.int .i64 fe.1,.int .i64 fe.2] 29)).drew).cells
  go_wp2_with ((with_reducible refine bodyPost_ret (v:=.tuple #[.agg #[.int .i64 0,.slice none 0 0,.slice none 0 0],.agg #[.int .i64 fe.1,.int .i64 fe.2]]) ?ra3 ?rb3 ?rc3);go_must (case ra3=>simp [results,Tryz.results6,go_sem,z1,z3]);go_must (case rb3=>rfl);go_must (case rc3=>obtain rfl:=HN.out;exact ⟨_,rfl,A0b,by (repeat' (first|with_reducible (first|exact Below.refl _ _|assumption|refine Below.drew ?_|refine A3 ?_ _|refine Below.alloc ?_ ?_ _|refine Below.setCell ?_ ?_ _)|omega|(simp;done)|(simp;omega)))⟩))
 have hR:R=C2c t v l ((0:Nat):Int) [] (l.drop 0):=by rw [HR.out,if_neg (by simp [h2])];rfl
 have hl12:l.length≤12:=by
  apply Classical.byContradiction
  intro hc
  have:D0 l t.n=(5,0):=by unfold D0;rw [if_pos (by omega)]
  rw [this] at h2
  exact absurd h2 (by decide)
 have hst:=Lib.hid hR
 rw [h2]
 clear h2 hR HR
 generalize D0 l t.n=fe at *
 obtain ⟨i0,hi,hz0,hz1',hzz2⟩:=info_parts A1v
 obtain ⟨j0,gi,gz0,gz1,gz2⟩:=info_parts A2w
 have W4:A6 ((w3.alloc (.cells #[.int .i64 0,.int .i64 fe.2] 29)).alloc (.cells #[.int .i64 v,.slice none 0 0,.slice none 0 0] 34)) (w3.heap.size+1) 34 #[.int .i64 v,.slice none 0 0,.slice none 0 0]:=A6.new (by simp)
 have hT4:=(hT3.alloc (.cells #[.int .i64 0,.int .i64 fe.2] 29)).alloc (.cells #[.int .i64 v,.slice none 0 0,.slice none 0 0] 34)
 have hP4:=(hP3.alloc (.cells #[.int .i64 0,.int .i64 fe.2] 29)).alloc (.cells #[.int .i64 v,.slice none 0 0,.slice none 0 0] 34)
 have hF4:=(hF3.alloc (.cells #[.int .i64 0,.int .i64 fe.2] 29)).alloc (.cells #[.int .i64 v,.slice none 0 0,.slice none 0 0] 34)
 have hB4:Below w.heap.size w ((w3.alloc (.cells #[.int .i64 0,.int .i64 fe.2] 29)).alloc (.cells #[.int .i64 v,.slice none 0 0,.slice none 0 0] 34)):=by have:=hB3.size;(repeat' (first|with_reducible (first|exact Below.refl _ _|assumption|refine Below.drew ?_|refine A3 ?_ _|refine Below.alloc ?_ ?_ _|refine Below.setCell ?_ ?_ _)|omega|(simp;done)|(simp;omega)))
 go_wp2
 generalize (w3.alloc (.cells #[.int .i64 0,.int .i64 fe.2] 29)).alloc (.cells #[.int .i64 v,.slice none 0 0,.slice none 0 0] 34)=w4 at *
 clear t1 t2 p1 p2 f1 f2 hT3 hP3 hF3
 have hob:w.heap.size+1+1<w3.heap.size+1:=by omega
 generalize w3.heap.size+1=ob at *
 go_loopw [11,12,13,14,43] (fun _ _ _ _ idx wr=>∃ (j:Nat) (ps:List (List Int)) (af:Option Addr) (cf:Nat) (ap:Option Addr) (cp:Nat),idx=.int .i64 j∧j≤l.length∧Hid (R=C2c t v l j ps (l.drop j))∧A6 wr ob 34 #[.int .i64 v,.slice af j cf,.slice ap j cp]∧two H6 56 (F7 C2) 72 (ob+1) wr af j cf (l.take j) ap j cp ps∧Below w.heap.size w wr∧A6 wr w.heap.size 24 #[.int .i64 t.n,.slice la t.links.length lc]∧A6 wr (w.heap.size+1) 34 #[.int .i64 0,.slice none 0 0,.slice none 0 0]∧A6 wr (w.heap.size+1+1) 29 #[.int .i64 0,.int .i64 0]) (fun _ _ _ _ idx _=>l.length - (intOf idx).toNat)
 case atStart=>exact ⟨0,[],none,0,none,0,rfl,Nat.zero_le _,hst,W4,two.nil _ _ _ _ _ _,hB4,hT4,hP4,hF4⟩
 case round=>
  clear hst W4 hB4 hT4 hP4 hF4
  obtain ⟨j,ps,af,cf,ap,cp,rfl,hj,hall,hO,htwo,hb,hT5,hP5,hF5⟩:=hrel
  rename World=>wo
  have hpl:=htwo.2.1.len_eq
  have hpl1:ps.length≤j:=by omega
  have hpl2:j≤ps.length:=by omega
  clear hpl
  have s0:=hO.lt
  have s1:=hF5.lt
  have s2:=hb.size
  have s3:w.heap.size+1<wo.heap.size:=by omega
  have s4:w.heap.size<wo.heap.size:=by omega
  have s5:ob≠w.heap.size+1+1:=by omega
  have s6:ob≠w.heap.size+1:=by omega
  obtain ⟨t1,t2⟩:=hT5.cells
  obtain ⟨p1,p2⟩:=hP5.cells
  obtain ⟨f1,f2⟩:=hF5.cells
  by_cases hlt:j<l.length
  case neg=>
   have HE:=Lib.hid (B2d hall.out (by omega))
   have HJ:=Lib.hid (show j=l.length∧j=ps.length from ⟨by omega,by omega⟩)
   have b1:¬(j:Int)<(l.length:Int):=by omega
   obtain ⟨o1,o2⟩:=hO.cells
   clear hall
   obtain ⟨G1,G2⟩:=A14 hP5 hF5 (by omega) (.int .i64 v) (.slice af j cf) (.slice ap j cp) (.int .i64 0) (.int .i64 0)
   obtain ⟨z1,z2⟩:=G1.cells
   obtain ⟨z3,z4⟩:=G2.cells
   have hbf:Below w.heap.size w (((((wo.setCell ⟨w.heap.size+1,0,none⟩ (.int .i64 v)).setCell ⟨w.heap.size+1,1,none⟩ (.slice af j cf)).setCell ⟨w.heap.size+1,2,none⟩ (.slice ap j cp)).setCell ⟨w.heap.size+1+1,0,none⟩ (.int .i64 0)).setCell ⟨w.heap.size+1+1,1,none⟩ (.int .i64 0)):=by (repeat' (first|with_reducible (first|exact Below.refl _ _|assumption|refine Below.drew ?_|refine A3 ?_ _|refine Below.alloc ?_ ?_ _|refine Below.setCell ?_ ?_ _)|omega|(simp;done)|(simp;omega)))
   have hof:=((((htwo.setOther (ob:=w.heap.size+1) (o:=0) (v:=.int .i64 v) (by omega)).setOther (ob:=w.heap.size+1) (o:=1) (v:=.slice af j cf) (by omega)).setOther (ob:=w.heap.size+1) (o:=2) (v:=.slice ap j cp) (by omega)).setOther (ob:=w.heap.size+1+1) (o:=0) (v:=.int .i64 0) (by omega)).setOther (ob:=w.heap.size+1+1) (o:=1) (v:=.int .i64 0) (by omega)
   have hr1:=hof.1.row (ok':=fun b=>w.heap.size≤b) (fun b hh=>by have:=hh.1;omega) (fun k hk=>by have:=(hof.1.lt k hk).1;omega)
   have hr2:=hof.2.1.row (ok':=fun b=>w.heap.size≤b) (fun b hh=>by have:=hh.1;omega) (fun k hk=>by have:=(hof.2.1.lt k hk).1;omega)
   rw [List.take_of_length_le (by omega)] at hr1
   go_wp2_with ((with_reducible refine bodyPost_ret (v:=.tuple #[.agg #[.int .i64 v,.slice af j cf,.slice ap j cp],.agg #[.int .i64 0,.int .i64 0]]) ?ra6 ?rb6 ?rc6);go_must (case ra6=>simp [results,Tryz.results6,go_sem,z1,z3]);go_must (case rb6=>rfl);go_must (case rc6=>obtain rfl:=HE.out;exact ⟨_,rfl,show C3.rep _ _ _ (⟨v,l,ps⟩:F5) from ⟨af,cf,ap,cp,by rw [←HJ.out.1,←HJ.out.2],hv,hr1,hr2⟩,hbf⟩))
  obtain ⟨f,hf⟩:∃ f,l[j]? =some f:=⟨_,List.getElem?_eq_getElem hlt⟩
  have htk:l.take (j+1)=l.take j++[f]:=by rw [List.take_add_one,hf];rfl
  have HTK:=Lib.hid htk
  have HG:=Lib.hid (fun h0=>B41 hall.out hf h0)
  have HH:=Lib.hid (fun h0=>B3h hall.out hf h0)
  obtain ⟨g,off,rfl,_,hbl,cs,hcs,hce⟩:=hl.get hf
  have hfr:=hcs
  obtain ⟨va,vc,na,nc,rfl,hsi,hdi,hvi,hni⟩:=hcs
  have e0:=B8 hb hbl (hce 0 _ rfl)
  have e1:=B8 hb hbl (hce 1 _ rfl)
  have e2:=B8 hb hbl (hce 2 _ rfl)
  have e3:=B8 hb hbl (hce 3 _ rfl)
  clear hce hall htk
  simp only [H6,Nat.add_zero] at e0 e1 e2 e3
  have b1:(j:Int)<(l.length:Int):=by omega
  have hgl:g<wo.heap.size:=by omega
  have hT6:=hT5.alloc (.cells #[.int .i64 f.src,.int .i64 f.dst,.slice va f.via.length vc,.slice na f.no.length nc] 56)
  have hP6:=hP5.alloc (.cells #[.int .i64 f.src,.int .i64 f.dst,.slice va f.via.length vc,.slice na f.no.length nc] 56)
  have hF6:=hF5.alloc (.cells #[.int .i64 f.src,.int .i64 f.dst,.slice va f.via.length vc,.slice na f.no.length nc] 56)
  have hO6:=hO.alloc (.cells #[.int .i64 f.src,.int .i64 f.dst,.slice va f.via.length vc,.slice na f.no.length nc] 56)
  have hX6:=I6 wo 56 #[.int .i64 f.src,.int .i64 f.dst,.slice va f.via.length vc,.slice na f.no.length nc]
  have hb6:Below w.heap.size w (wo.alloc (.cells #[.int .i64 f.src,.int .i64 f.dst,.slice va f.via.length vc,.slice na f.no.length nc] 56)):=by (repeat' (first|with_reducible (first|exact Below.refl _ _|assumption|refine Below.drew ?_|refine A3 ?_ _|refine Below.alloc ?_ ?_ _|refine Below.setCell ?_ ?_ _)|omega|(simp;done)|(simp;omega)))
  have hob6:=G8 wo (.cells #[.int .i64 f.src,.int .i64 f.dst,.slice va f.via.length vc,.slice na f.no.length nc] 56)
  have htwo6:=htwo.below hob6
  have hlf:∀ k,blk af=some k→k<wo.heap.size:=fun k hk=>(htwo.1.lt k hk).2
  have hla:∀ k,blk af=some k→k<(wo.alloc (.cells #[.int .i64 f.src,.int .i64 f.dst,.slice va f.via.length vc,.slice na f.no.length nc] 56)).heap.size:=fun k hk=>(htwo6.1.lt k hk).2
  have hlp:∀ k,blk ap=some k→k<(wo.alloc (.cells #[.int .i64 f.src,.int .i64 f.dst,.slice va f.via.length vc,.slice na f.no.length nc] 56)).heap.size:=fun k hk=>(htwo6.2.1.lt k hk).2
  have hwo6:wo.heap.size<(wo.alloc (.cells #[.int .i64 f.src,.int .i64 f.dst,.slice va f.via.length vc,.slice na f.no.length nc] 56)).heap.size:=by simp
  go_wp2_with fail
  generalize wo.alloc (.cells #[.int .i64 f.src,.int .i64 f.dst,.slice va f.via.length vc,.slice na f.no.length nc] 56)=w6 at *
  clear t1 t2 p1 p2 f1 f2 e0 e1 e2 e3 hT5 hP5 hF5 hO hob6 htwo
  refine (B5e t f _ _ ok ok' w6 (I5.below hT hb6) (H6.below hfr hb6)).mono ?_
  rintro e w7 ⟨aq,cq,rfl,hq,hb67⟩
  have hb7:Below w.heap.size w w7:=hb6.trans (hb67.mono hb6.size)
  have hT7:=hT6.under hb67
  have hP7:=hP6.under hb67
  have hF7:=hF6.under hb67
  have hO7:=hO6.under hb67
  have hX7:=hX6.under hb67
  have htwo7:=htwo6.below hb67
  have u0:=hO6.lt
  have u1:=hO7.lt
  have u2:=hb7.size
  have u3:=hb67.size
  clear hT6 hP6 hF6 hO6 htwo6 hX6
  generalize wo.heap.size=fb at *
  obtain ⟨p1,p2⟩:=hP7.cells
  obtain ⟨f1,f2⟩:=hF7.cells
  by_cases h0:(I1 t f).2=0
  case neg=>
   have HN:=Lib.hid (HH.out h0)
   have h0':((I1 t f).2 !=0)=true:=by rw [bne_iff_ne];exact h0
   clear h0 HH HG hq
   generalize I1 t f=fo at *
   obtain ⟨G1,G2⟩:=A14 hP7 hF7 (by omega) (.int .i64 0) (.slice none 0 0) (.slice none 0 0) (.int .i64 fo.2) (.int .i64 j)
   obtain ⟨z1,z2⟩:=G1.cells
   obtain ⟨z3,z4⟩:=G2.cells
   go_wp2_with ((with_reducible refine bodyPost_ret (v:=.tuple #[.agg #[.int .i64 0,.slice none 0 0,.slice none 0 0],.agg #[.int .i64 fo.2,.int .i64 j]]) ?ra7 ?rb7 ?rc7);go_must (case ra7=>simp [results,Tryz.results6,go_sem,z1,z3]);go_must (case rb7=>rfl);go_must (case rc7=>obtain rfl:=HN.out;exact ⟨_,rfl,A0b,by (repeat' (first|with_reducible (first|exact Below.refl _ _|assumption|refine Below.drew ?_|refine A3 ?_ _|refine Below.alloc ?_ ?_ _|refine Below.setCell ?_ ?_ _)|omega|(simp;done)|(simp;omega)))⟩))
  have HN:=Lib.hid (HG.out h0)
  obtain ⟨hvl,hnl⟩:=A5w h0
  rw [h0]
  clear h0 HH HG p1 p2 f1 f2
  generalize (I1 t f).1=q at *
  have hvi7:=hvi.below hb7
  have hni7:=hni.below hb7
  go_wp2
  refine B9 (SP ob fb af j cf f va vc na nc) 16 (fun a a' w'=>∃ v60 v61 v62 v63 v64 v65 v66 v67 v68 v69 v70 v71 v72 v73 v75 af' cf',a'=C8 a [(60,v60),(61,v61),(62,v62),(63,v63),(64,v64),(65,v65),(66,v66),(67,v67),(68,v68),(69,v69),(70,v70),(71,v71),(72,v72),(73,v73),(74,.slice af' (j+1) cf'),(75,v75)]∧two H6 56 (F7 C2) 72 (ob+1) w' af' (j+1) cf' (l.take j++[f]) ap j cp ps∧A6 w' ob 34 #[.int .i64 v,.slice af' (j+1) cf',.slice ap j cp]∧A8 C2 (fun b=>w6.heap.size≤b∧blk af'≠some b) w' aq cq q∧Below w.heap.size w w'∧A6 w' w.heap.size 24 #[.int .i64 t.n,.slice la t.links.length lc]∧A6 w' (w.heap.size+1) 34 #[.int .i64 0,.slice none 0 0,.slice none 0 0]∧A6 w' (w.heap.size+1+1) 29 #[.int .i64 0,.int .i64 0]) (by kernel_rfl) ?_ ?_
  ·intro Q' hR hQp
   have hT8:=hT7.drew
   have hP8:=hP7.drew
   have hF8:=hF7.drew
   have hO8:=hO7.drew
   have hX8:=hX7.drew
   have htwo8:=htwo7.below (w':=w7.drew) (by (repeat' (first|with_reducible (first|exact Below.refl _ _|assumption|refine Below.drew ?_|refine A3 ?_ _|refine Below.alloc ?_ ?_ _|refine Below.setCell ?_ ?_ _)|omega|(simp;done)|(simp;omega))))
   have hq8:=hq.below (w':=w7.drew) (by (repeat' (first|with_reducible (first|exact Below.refl _ _|assumption|refine Below.drew ?_|refine A3 ?_ _|refine Below.alloc ?_ ?_ _|refine Below.setCell ?_ ?_ _)|omega|(simp;done)|(simp;omega))))
   have hb8:Below w.heap.size w w7.drew:=hb7.trans (by (repeat' (first|with_reducible (first|exact Below.refl _ _|assumption|refine Below.drew ?_|refine A3 ?_ _|refine Below.alloc ?_ ?_ _|refine Below.setCell ?_ ?_ _)|omega|(simp;done)|(simp;omega))))
   have hvi8:=hvi.below hb8
   have hni8:=hni.below hb8
   have u4:w7.drew.heap.size=w7.heap.size:=rfl
   clear hT7 hP7 hF7 hO7 hX7 htwo7 hq hb7 hvi7 hni7 hb67
   generalize w7.drew=wa at *
   have hS:SP ob fb af j cf f va vc na nc wa:=SP.of hO8 hX8
   refine J2 (i:=0) (.pointer (some ⟨ob,1,none⟩)) rfl (by kernel_rfl) (fun _ _ _ h=>hQp _ _ _ _ h) hS (A0 (by kernel_rfl) (by intro w0 hw0;have hw1:=hw0;simp only [SP] at hw1;go_simp)) ?_;simp only [Act.put,St.tA,St.tD,St.tE,St.tS,St.tC,St.tZ]
   refine J2 (i:=1) (.slice af j cf) rfl (by kernel_rfl) (fun _ _ _ h=>hQp _ _ _ _ h) hS (A0 (by kernel_rfl) (by intro w0 hw0;have hw1:=hw0;simp only [SP] at hw1;go_simp)) ?_;simp only [Act.put,St.tA,St.tD,St.tE,St.tS,St.tC,St.tZ]
   refine J2 (i:=2) (.pointer (some ⟨fb,0,none⟩)) rfl (by kernel_rfl) (fun _ _ _ h=>hQp _ _ _ _ h) hS (A0 (by kernel_rfl) (by intro w0 hw0;have hw1:=hw0;simp only [SP] at hw1;go_simp)) ?_;simp only [Act.put,St.tA,St.tD,St.tE,St.tS,St.tC,St.tZ]
   refine J2 (i:=3) (.int .i64 f.src) rfl (by kernel_rfl) (fun _ _ _ h=>hQp _ _ _ _ h) hS (A0 (by kernel_rfl) (by intro w0 hw0;have hw1:=hw0;simp only [SP] at hw1;go_simp)) ?_;simp only [Act.put,St.tA,St.tD,St.tE,St.tS,St.tC,St.tZ]
   refine J2 (i:=4) (.pointer (some ⟨fb,1,none⟩)) rfl (by kernel_rfl) (fun _ _ _ h=>hQp _ _ _ _ h) hS (A0 (by kernel_rfl) (by intro w0 hw0;have hw1:=hw0;simp only [SP] at hw1;go_simp)) ?_;simp only [Act.put,St.tA,St.tD,St.tE,St.tS,St.tC,St.tZ]
   refine J2 (i:=5) (.int .i64 f.dst) rfl (by kernel_rfl) (fun _ _ _ h=>hQp _ _ _ _ h) hS (A0 (by kernel_rfl) (by intro w0 hw0;have hw1:=hw0;simp only [SP] at hw1;go_simp)) ?_;simp only [Act.put,St.tA,St.tD,St.tE,St.tS,St.tC,St.tZ]
   refine J2 (i:=6) (.pointer (some ⟨fb,2,none⟩)) rfl (by kernel_rfl) (fun _ _ _ h=>hQp _ _ _ _ h) hS (A0 (by kernel_rfl) (by intro w0 hw0;have hw1:=hw0;simp only [SP] at hw1;go_simp)) ?_;simp only [Act.put,St.tA,St.tD,St.tE,St.tS,St.tC,St.tZ]
   refine J2 (i:=7) (.slice va f.via.length vc) rfl (by kernel_rfl) (fun _ _ _ h=>hQp _ _ _ _ h) hS (A0 (by kernel_rfl) (by intro w0 hw0;have hw1:=hw0;simp only [SP] at hw1;go_simp)) ?_;simp only [Act.put,St.tA,St.tD,St.tE,St.tS,St.tC,St.tZ]
   refine J2 (i:=9) (.pointer (some ⟨fb,3,none⟩)) rfl (by kernel_rfl) (fun _ _ _ h=>hQp _ _ _ _ h) hS (A0 (by kernel_rfl) (by intro w0 hw0;have hw1:=hw0;simp only [SP] at hw1;go_simp)) ?_;simp only [Act.put,St.tA,St.tD,St.tE,St.tS,St.tC,St.tZ]
   refine J2 (i:=10) (.slice na f.no.length nc) rfl (by kernel_rfl) (fun _ _ _ h=>hQp _ _ _ _ h) hS (A0 (by kernel_rfl) (by intro w0 hw0;have hw1:=hw0;simp only [SP] at hw1;go_simp)) ?_;simp only [Act.put,St.tA,St.tD,St.tE,St.tS,St.tC,St.tZ]
   clear hS
   refine A7 (i:=8) rfl (by kernel_rfl) (by kernel_rfl) fun K8 hK8=>?_
   go_simp
   go_wp2_with fail
   refine (A7z f.via _ va vc wa hvi8 (by omega)).mono ?_
   rintro e wb ⟨a1,c1,rfl,hr1,hab⟩
   have hS:SP ob fb af j cf f va vc na nc wb:=SP.of (hO8.under hab) (hX8.under hab)
   have hb9:Below w.heap.size w wb:=hb8.trans (hab.mono hb8.size)
   go_wp2_with fail
   refine hK8 _ _ (fun _=>hS) ?_
   clear hK8
   clear hS
   refine A7 (i:=11) rfl (by kernel_rfl) (by kernel_rfl) fun K11 hK11=>?_
   go_simp
   go_wp2_with fail
   refine (A7z f.no _ na nc wb (hni.below hb9) (by omega)).mono ?_
   rintro e wc ⟨a2,c2,rfl,hr2,hbc⟩
   have hac:Below wa.heap.size wa wc:=hab.trans (hbc.mono hab.size)
   have hS:SP ob fb af j cf f va vc na nc wc:=SP.of (hO8.under hac) (hX8.under hac)
   have hr1':=(hr1.below hbc).mono (ok':=fun b=>wa.heap.size≤b) (fun b _ h=>⟨h,rfl⟩)
   have hr2':=hr2.mono (ok':=fun b=>wa.heap.size≤b) (fun b _ (h:wb.heap.size≤b)=>⟨Nat.le_trans hab.size h,rfl⟩)
   have hb10:Below w.heap.size w wc:=hb8.trans (hac.mono hb8.size)
   go_wp2_with fail
   refine hK11 _ _ (fun _=>hS) ?_
   clear hK11 hr1 hr2 hb9
   refine J2 (i:=12) (.agg #[.int .i64 f.src,.int .i64 f.dst,.slice a1 f.via.length c1,.slice a2 f.no.length c2]) rfl (by kernel_rfl) (fun _ _ _ h=>hQp _ _ _ _ h) hS (A0 (by kernel_rfl) (by intro w0 hw0;have hw1:=hw0;simp only [SP] at hw1;go_simp)) ?_;simp only [Act.put,St.tA,St.tD,St.tE,St.tS,St.tC,St.tZ]
   clear hS
   refine A7 (i:=13) rfl (by kernel_rfl) (by kernel_rfl) fun K13 hK13=>?_
   go_simp
   go_wp2_with fail
   have had:Below wa.heap.size wa (wc.alloc (.cells #[.int .i64 f.src,.int .i64 f.dst,.slice a1 f.via.length c1,.slice a2 f.no.length c2] 56)):=by have:=hac.size;(repeat' (first|with_reducible (first|exact Below.refl _ _|assumption|refine Below.drew ?_|refine A3 ?_ _|refine Below.alloc ?_ ?_ _|refine Below.setCell ?_ ?_ _)|omega|(simp;done)|(simp;omega)))
   have hN:=I6 wc 56 #[.int .i64 f.src,.int .i64 f.dst,.slice a1 f.via.length c1,.slice a2 f.no.length c2]
   have hNl:=hN.lt
   have hcd:=G8 wc (.cells #[.int .i64 f.src,.int .i64 f.dst,.slice a1 f.via.length c1,.slice a2 f.no.length c2] 56)
   have hr1'':=hr1'.below hcd
   have hr2'':=hr2'.below hcd
   have hb11:Below w.heap.size w (wc.alloc (.cells #[.int .i64 f.src,.int .i64 f.dst,.slice a1 f.via.length c1,.slice a2 f.no.length c2] 56)):=hb8.trans (had.mono hb8.size)
   have hS:SP ob fb af j cf f va vc na nc (wc.alloc (.cells #[.int .i64 f.src,.int .i64 f.dst,.slice a1 f.via.length c1,.slice a2 f.no.length c2] 56)):=SP.of (hO8.under had) (hX8.under had)
   refine hK13 _ _ (fun _=>hS) ?_
   clear hK13 hr1' hr2' hb10 hcd
   have hacz:=hac.size
   generalize wc.alloc (.cells #[.int .i64 f.src,.int .i64 f.dst,.slice a1 f.via.length c1,.slice a2 f.no.length c2] 56)=wd at *
   generalize wc.heap.size=nb at *
   have htwo9:=htwo8.below had
   have hla':∀ k,blk af=some k→k<wa.heap.size:=fun k hk=>(htwo8.1.lt k hk).2
   have hlp':∀ k,blk ap=some k→k<wa.heap.size:=fun k hk=>(htwo8.2.1.lt k hk).2
   have hsrc:=A03 hN hsi hdi (two.okof (lo:=ob+1) (ao:=af) (bo:=ap) hr1'' (by omega) hla' hlp') (two.okof (lo:=ob+1) (ao:=af) (bo:=ap) hr2'' (by omega) hla' hlp')
   clear hS
   refine A7 (i:=14) rfl (by kernel_rfl) (by kernel_rfl) fun K14 hK14=>?_
   refine Q3 (sh:=H6) (n:=j) (m:=1) (.tmp 61) (.tmp 73) 26 (by rfl) 56 j0 (.agg #[.int .i64 0,.int .i64 0,.slice none 0 0,.slice none 0 0]) 64 Tryz.underlying26 gi gz0 gz1 gz2 rfl (by decide) (ok:=twn (ob+1) wd af ap) (base:=ob+1) (by rfl) htwo9.1 (by rfl) rfl hsrc (by simp only [maxLen];omega) (by omega) (by have:=had.size;omega) ?_
   intro af' cf' we' hof hgf hlief
   have hne:∀ b,b≤ob→some b≠blk af:=fun b hbb e=>by have:=(htwo9.1.lt _ e.symm).1;omega
   have hOf:=(hO8.under had).grown hgf (hne _ (by omega))
   have hTf:=(hT8.under had).grown hgf (hne _ (by omega))
   have hPf:=(hP8.under had).grown hgf (hne _ (by omega))
   have hFf:=(hF8.under had).grown hgf (hne _ (by omega))
   have hXf:=(hX8.under had).grown hgf (fun e=>by have:=hlf _ e.symm;omega)
   have hbf:Below w.heap.size w we':=hb11.trans (D6 (B:=w.heap.size) hgf (fun k hk=>by have:=(htwo9.1.lt k hk).1;omega) hb11.size)
   have htwof:=htwo9.grownA hof hgf hlief
   have hqf:A8 C2 (fun b=>w6.heap.size≤b∧blk af'≠some b) we' aq cq q:=hq8.mono (fun b hbb (hh:w6.heap.size≤b)=>⟨⟨hh,fun e=>by
    have h9:=had.size
    rcases hlief with h|h
    ·rw [h] at e;have:=hla b e;omega
    ·rw [h] at e;have:wd.heap.size=b:=by simpa using e
     omega⟩,(hgf.block b (by have:=had.size;omega) (fun e=>by have:=hla b e.symm;omega)).trans (had.block b hbb)⟩)
   simp only [Act.put,St.tA,St.tD,St.tE,St.tS,St.tC,St.tZ]
   refine hK14 _ _ (fun _=>SP.of hOf hXf) ?_
   clear hK14 hof hsrc htwo9 hgf
   have hS:=SP.of hOf hXf
   refine J2 (i:=15) (.pointer (some ⟨ob,1,none⟩)) rfl (by kernel_rfl) (fun _ _ _ h=>hQp _ _ _ _ h) hS (A0 (by kernel_rfl) (by intro w0 hw0;have hw1:=hw0;simp only [SP] at hw1;go_simp)) ?_;simp only [Act.put,St.tA,St.tD,St.tE,St.tS,St.tC,St.tZ]
   clear hS
   refine A7 (i:=16) rfl (by kernel_rfl) (by kernel_rfl) fun K16 hK16=>?_
   obtain ⟨o1,o2⟩:=hOf.cells
   have hofl:=hOf.lt
   go_simp
   go_wp2_with fail
   refine hK16 _ _ (fun h=>absurd rfl h) ?_
   clear hK16
   refine B5 (by kernel_rfl) ?_ _
   refine hR _ _ ?_
   iterate 15 apply Exists.intro
   refine ⟨af',cf',?_,htwof.setOther (by omega),hOf.set 1 (.slice af' (j+1) cf'),hqf.mono (fun b hbb hh=>⟨hh,Below.heap_setCell _ _ _ _ (by have hh':w6.heap.size≤b:=hh.1;simp;omega)⟩),by (repeat' (first|with_reducible (first|exact Below.refl _ _|assumption|refine Below.drew ?_|refine A3 ?_ _|refine Below.alloc ?_ ?_ _|refine Below.setCell ?_ ?_ _)|omega|(simp;done)|(simp;omega))),hTf.setOther (by simp;omega) _,hPf.setOther (by simp;omega) _,hFf.setOther (by simp;omega) _⟩
   simp only [C8,Act.put,St.tS,St.tC,St.tZ]
   rfl
  rintro a' w8 ⟨v60,v61,v62,v63,v64,v65,v66,v67,v68,v69,v70,v71,v72,v73,v75,af',cf',rfl,htwo8,hO8,hq8,hb8,hT8,hP8,hF8⟩
  simp only [C8,Act.put,St.tS,St.tC,St.tZ]
  clear hT7 hP7 hF7 hO7 hX7 htwo7 hq hb7 hvi7 hni7 hb67
  have hpl8:j≤12:=by omega
  have hL9:=I6 w8 72 #[.slice aq q.length cq]
  have hb89:=G8 w8 (.cells #[.slice aq q.length cq] 72)
  have htwo9:=htwo8.below hb89
  have hsrc:D7 (F7 C2) (twn (ob+1) (w8.alloc (.cells #[.slice aq q.length cq] 72)) af' ap) (w8.alloc (.cells #[.slice aq q.length cq] 72)) (some ⟨w8.heap.size,0,none⟩) [q]:=A0z hL9 ((hq8.below hb89).mono (fun b hbb hk=>⟨⟨by have hk':w6.heap.size≤b:=hk.1;omega,hbb,fun e=>hk.2 e,fun e=>by have:=hlp b e;have hk':w6.heap.size≤b:=hk.1;omega⟩,rfl⟩))
  have hO9:=hO8.alloc (.cells #[.slice aq q.length cq] 72)
  have hT9:=hT8.alloc (.cells #[.slice aq q.length cq] 72)
  have hP9:=hP8.alloc (.cells #[.slice aq q.length cq] 72)
  have hF9:=hF8.alloc (.cells #[.slice aq q.length cq] 72)
  have hb9:Below w.heap.size w (w8.alloc (.cells #[.slice aq q.length cq] 72)):=hb8.trans (hb89.mono hb8.size)
  have v0:w8.heap.size<(w8.alloc (.cells #[.slice aq q.length cq] 72)).heap.size:=by simp
  have v1:=hO8.lt
  obtain ⟨o1,o2⟩:=hO8.cells
  go_wp2_with (at_builtin;go_must (refine H4 (sh:=F7 C2) (base:=ob+1) (n:=j) (m:=1) rfl _ _ 32 rfl 72 i0 (.slice none 0 0) 24 Tryz.underlying32 hi hz0 hz1' hzz2 rfl (by decide) rfl htwo9.2.1 rfl rfl hsrc (by simp only [maxLen];omega) (by omega) (by first|omega|(simp;omega)) ?_);go_must (intro ao9 cap9 w9 hown9 hg9 hd9;have hO10:=hO9.grown hg9 (fun e=>by have:=(htwo9.2.1.lt _ e.symm).1;omega);obtain ⟨x1,x2⟩:=hO10.cells;have hx3:=hO10.lt))
  case roundEnd=>
   have k0:∀ b,b≤ob→some b≠blk ap:=fun b hbb e=>by have:=(htwo9.2.1.lt _ e.symm).1;omega
   have hb10:Below w.heap.size w w9:=hb9.trans (D6 (B:=w.heap.size) hg9 (fun k hk=>by have:=(htwo9.2.1.lt k hk).1;omega) hb9.size)
   have htwoF:=(htwo9.grownB hown9 hg9 hd9).setOther (ob:=ob) (o:=2) (v:=.slice ao9 (j+1) cap9) (by omega)
   have y1:=hb10.size
   go_roundw
   case rel=>
    refine ⟨j+1,ps++[q],af',cf',ao9,cap9,by go_num,by omega,HN,hO10.set 2 (.slice ao9 (j+1) cap9),by rw [HTK.out];exact htwoF,by (repeat' (first|with_reducible (first|exact Below.refl _ _|assumption|refine Below.drew ?_|refine A3 ?_ _|refine Below.alloc ?_ ?_ _|refine Below.setCell ?_ ?_ _)|omega|(simp;done)|(simp;omega))),?_,?_,?_⟩
    ·exact (hT9.grown hg9 (k0 _ (by omega))).setOther (by simp;omega) _
    ·exact (hP9.grown hg9 (k0 _ (by omega))).setOther (by simp;omega) _
    ·exact (hF9.grown hg9 (k0 _ (by omega))).setOther (by simp;omega) _
   case measure=>simp [intOf]<;>omega
end Go.Proofs.YtampcbncgofkoaaGreatDoor
