/- Texts of this proof, one behind the other. -/
import Derived.Test.YtampcbncgofkoaaGreatDoorPk30
import Derived.Test.YtampcbncgofkoaaGreatDoorPk27
set_option linter.unusedSimpArgs false
set_option linter.unusedVariables false
set_option maxRecDepth 100000
set_option maxHeartbeats 16000000
namespace Go.St
open Go.RowKit
theorem J9.small {t:C5} {v:Int} {l:List E0} {p:F5} (h:J9 t v l p):N6 p:=by
 have h1:=h.len
 refine ⟨by rw [h.flows];omega,fun f hf=>?_,by rw [h.plen];omega,fun q hq=>by have:=h.plen8 hq;omega⟩
 rw [h.flows] at hf
 obtain ⟨i,hi⟩:=List.getElem?_of_mem hf
 have hil:=(List.getElem?_eq_some_iff.1 hi).1
 rw [←h.plen] at hil
 have:=A5w (h.good i f _ hi (List.getElem?_eq_getElem hil)).1
 omega
theorem B1p {now p:F5} {n s:Nat} (hs:s<n) (h:16<(C6 now s).length+(C6 p s).length):N5 now p n=true:=by
 simp only [N5,List.any_eq_true]
 exact ⟨s,List.mem_range.2 hs,by simp [A36,h]⟩
theorem B1x {now p:F5} {s:Nat} (h0:N5 now p s=false) (h:¬16<(C6 now s).length+(C6 p s).length):N5 now p (s+1)=false:=by
 rw [A82,h0,Bool.false_or];simp only [A36,decide_eq_false_iff_not];exact h
def S67 (a b p:Nat) (n0 n1 n2 k p0 p1 p2:Value) (w:World):Prop:=w.cell? ⟨a,1,none⟩=some n0∧w.cell? ⟨a,2,none⟩=some n1∧w.cell? ⟨a,3,none⟩=some n2∧w.cell? ⟨b,0,none⟩=some k∧w.cell? ⟨p,0,none⟩=some p0∧w.cell? ⟨p,1,none⟩=some p1∧w.cell? ⟨p,2,none⟩=some p2
theorem S67.of {w:World} {a b p:Nat} {ta tb tp:TypeId} {n0 n1 n2 k p0 p1 p2 c0 c4 c5 c6 c7 c8 k2:Value} (h1:A6 w a ta #[c0,n0,n1,n2,c4,c5,c6,c7,c8]) (h2:A6 w b tb #[k,k2]) (h3:A6 w p tp #[p0,p1,p2]):S67 a b p n0 n1 n2 k p0 p1 p2 w:=
 ⟨h1.cells.1 1,h1.cells.1 2,h1.cells.1 3,h2.cells.1 0,h3.cells.1 0,h3.cells.1 1,h3.cells.1 2⟩
end Go.St
namespace Go.Proofs.YtampcbncgofkoaaGreatDoor
open Go.RowKit Go.St
theorem B5p (c:Ctl) (t:C5) (l:List E0) (cs ts:List Value) (okc okt okl:Nat→Prop) (fa:Option Addr) (fc:Nat) (w:World) (h:P3.rep okc w cs c) (ht:I5.rep okt w ts t) (hl:A8 H6 okl w fa fc l) (hsm:A2n c):
  Calls Tryz.prog 46 #[.agg cs.toArray,.agg ts.toArray,.slice fa l.length fc] w fun e w'=>P4 w.heap.size (G9 c t l) e w'∧Below w.heap.size w w':=by
 have hH:=h
 have hT:=ht
 obtain ⟨n0,n1,n2,x0,x1,x2,pa,pc,rfl,hst,hnu,hn,hx,hw⟩:=P3.open_ h
 obtain ⟨la,lc,rfl,htn,htr⟩:=ht
 have HE1:Hid (c.stage≠0→G9 c t l=(Q6,[],11)):=fun h=>by unfold G9;rw [if_pos h]
 have HE2:Hid (c.stage=0→(D2 t (up c.now.ver) l).2.1≠0→G9 c t l=(Q6,[],(D2 t (up c.now.ver) l).2.1)):=fun h h2=>by unfold G9;rw [if_neg (fun h3=>h3 h),if_pos h2]
 have HE3:Hid (c.stage=0→(D2 t (up c.now.ver) l).2.1=0→N5 c.now (D2 t (up c.now.ver) l).1 t.n.toNat=true→G9 c t l=(Q6,[],10)):=fun h h2 h4=>by unfold G9;rw [if_neg (fun h3=>h3 h),if_neg (fun h3=>h3 h2),if_pos h4]
 have HE4:Hid (c.stage=0→(D2 t (up c.now.ver) l).2.1=0→N5 c.now (D2 t (up c.now.ver) l).1 t.n.toNat=false→∀ gs,gs=L7 (D2 t (up c.now.ver) l).1 t→∀ sr,E6 ⟨1,c.now,(D2 t (up c.now.ver) l).1,c.num,c.waits⟩ gs=sr→∀ tr,C0 sr.1 t=tr→G9 c t l=(tr.1,sr.2++tr.2,0)):=fun h h2 h4 gs h5 sr h6 tr h7=>by
  unfold G9;rw [if_neg (fun h3=>h3 h),if_neg (fun h3=>h3 h2),if_neg (by rw [h4];simp),←h5,h6,h7]
 have HPO:Hid ((D2 t (up c.now.ver) l).2.1=0→J9 t (up c.now.ver) l (D2 t (up c.now.ver) l).1):=fun h=>A6v h
 generalize G9 c t l=R at *
 obtain ⟨cst,cnow,cnext,cnum,cws⟩:=c
 dsimp only at *
 obtain rfl:n0=.int .i64 cnow.ver:=by
  obtain ⟨ga,gc,qa,qc,hne,_⟩:=hn
  injection hne
 have hnv:I64 cnow.ver:=by
  obtain ⟨ga,gc,qa,qc,hne,hnv,_⟩:=hn
  exact hnv
 obtain ⟨lx0,lx1,lx2⟩:=hx.one
 obtain ⟨ln0,ln1,ln2⟩:=hn.one
 have hwx:=hw.len_le
 have hB0:Below w.heap.size w (((w.alloc (.cells #[.int .i64 cst,.int .i64 cnow.ver,n1,n2,x0,x1,x2,.int .i64 cnum,.slice pa cws.length pc] 43)).alloc (.cells #[.int .i64 t.n,.slice la t.links.length lc] 24)).alloc (.cells #[.int .i64 0,.int .i64 0,.slice none 0 0,.slice none 0 0,.int .i64 0,.slice none 0 0,.slice none 0 0,.int .i64 0,.slice none 0 0] 43)):=A7q _ _ _ _
 have hC0:A6 (((w.alloc (.cells #[.int .i64 cst,.int .i64 cnow.ver,n1,n2,x0,x1,x2,.int .i64 cnum,.slice pa cws.length pc] 43)).alloc (.cells #[.int .i64 t.n,.slice la t.links.length lc] 24)).alloc (.cells #[.int .i64 0,.int .i64 0,.slice none 0 0,.slice none 0 0,.int .i64 0,.slice none 0 0,.slice none 0 0,.int .i64 0,.slice none 0 0] 43)) w.heap.size 43 #[.int .i64 cst,.int .i64 cnow.ver,n1,n2,x0,x1,x2,.int .i64 cnum,.slice pa cws.length pc]:=((A6.new rfl).alloc _).alloc _
 have hT0:A6 (((w.alloc (.cells #[.int .i64 cst,.int .i64 cnow.ver,n1,n2,x0,x1,x2,.int .i64 cnum,.slice pa cws.length pc] 43)).alloc (.cells #[.int .i64 t.n,.slice la t.links.length lc] 24)).alloc (.cells #[.int .i64 0,.int .i64 0,.slice none 0 0,.slice none 0 0,.int .i64 0,.slice none 0 0,.slice none 0 0,.int .i64 0,.slice none 0 0] 43)) (w.heap.size+1) 24 #[.int .i64 t.n,.slice la t.links.length lc]:=(A6.new (by simp)).alloc _
 have hZ0:A6 (((w.alloc (.cells #[.int .i64 cst,.int .i64 cnow.ver,n1,n2,x0,x1,x2,.int .i64 cnum,.slice pa cws.length pc] 43)).alloc (.cells #[.int .i64 t.n,.slice la t.links.length lc] 24)).alloc (.cells #[.int .i64 0,.int .i64 0,.slice none 0 0,.slice none 0 0,.int .i64 0,.slice none 0 0,.slice none 0 0,.int .i64 0,.slice none 0 0] 43)) (w.heap.size+1+1) 43 #[.int .i64 0,.int .i64 0,.slice none 0 0,.slice none 0 0,.int .i64 0,.slice none 0 0,.slice none 0 0,.int .i64 0,.slice none 0 0]:=A6.new (by simp)
 by_cases hs0:cst=0
 case neg=>
  have HE:=Lib.hid (HE1.out hs0)
  have hs0':(cst !=0)=true:=by rw [bne_iff_ne];exact hs0
  obtain ⟨g1,g2⟩:=hZ0.cells
  clear HE1 HE2 HE3 HE4 HPO hs0
  go_enter Tryz.func46,Tryz.ntmps46
  go_wp2_with ((with_reducible refine bodyPost_ret (v:=.tuple #[.agg #[.int .i64 0,.int .i64 0,.slice none 0 0,.slice none 0 0,.int .i64 0,.slice none 0 0,.slice none 0 0,.int .i64 0,.slice none 0 0],.slice none 0 0,.int .i64 11]) ?ra1 ?rb1 ?rc1);go_must (case ra1=>simp [results,Tryz.results46,go_sem,g1]);go_must (case rb1=>rfl);go_must (case rc1=>exact ⟨P4.bad HE.out,hB0⟩))
 subst hs0
 have HX2:=Lib.hid (HE2.out rfl)
 have HX3:=Lib.hid (HE3.out rfl)
 have HX4:=Lib.hid (HE4.out rfl)
 have hup:IntKind.i64.wrap (cnow.ver+1)=up cnow.ver:=rfl
 have hui:=A6j cnow.ver
 clear HE1 HE2 HE3 HE4
 go_enter Tryz.func46,Tryz.ntmps46
 go_wp2_with fail
 generalize (((w.alloc (.cells #[.int .i64 0,.int .i64 cnow.ver,n1,n2,x0,x1,x2,.int .i64 cnum,.slice pa cws.length pc] 43)).alloc (.cells #[.int .i64 t.n,.slice la t.links.length lc] 24)).alloc (.cells #[.int .i64 0,.int .i64 0,.slice none 0 0,.slice none 0 0,.int .i64 0,.slice none 0 0,.slice none 0 0,.int .i64 0,.slice none 0 0] 43))=w0 at *
 have hz0:=hZ0.lt
 refine (B50 t (up cnow.ver) hui l _ okt okl fa fc w0 (I5.below hT hB0) (hl.below hB0)).mono ?_
 rintro e w1 ⟨ps,rfl,hp,hb1⟩
 obtain ⟨p0,p1,p2,rfl,hp1⟩:=B7.of hp
 obtain ⟨lp0,lp1,lp2⟩:=B7.st (P:=Tryz.prog) hp1
 obtain ⟨op0,op1,op2⟩:=B7.one hp1
 have hp2:p0=.int .i64 (D2 t (up cnow.ver) l).1.ver:=by
  obtain ⟨ga,gc,qa,qc,hne,_⟩:=hp1
  injection hne
 have hpv:I64 (D2 t (up cnow.ver) l).1.ver:=by
  obtain ⟨ga,gc,qa,qc,hne,hnv,_⟩:=hp1
  exact hnv
 have hB1:=hB0.trans (hb1.mono hB0.size)
 have hC1:=hC0.under hb1
 have hT1:=hT0.under hb1
 have hZ1:=hZ0.under hb1
 have hs1:=hb1.size
 have hbx:Below w1.heap.size w1 ((w1.alloc (.cells #[p0,p1,p2] 34)).alloc (.cells #[.int .i64 (D2 t (up cnow.ver) l).2.1,.int .i64 (D2 t (up cnow.ver) l).2.2] 29)):=A1t _ _ _
 have hC2:=hC1.under hbx
 have hT2:=hT1.under hbx
 have hZ2:=hZ1.under hbx
 have hP2:A6 ((w1.alloc (.cells #[p0,p1,p2] 34)).alloc (.cells #[.int .i64 (D2 t (up cnow.ver) l).2.1,.int .i64 (D2 t (up cnow.ver) l).2.2] 29)) w1.heap.size 34 #[p0,p1,p2]:=(A6.new rfl).alloc _
 have hF2:A6 ((w1.alloc (.cells #[p0,p1,p2] 34)).alloc (.cells #[.int .i64 (D2 t (up cnow.ver) l).2.1,.int .i64 (D2 t (up cnow.ver) l).2.2] 29)) (w1.heap.size+1) 29 #[.int .i64 (D2 t (up cnow.ver) l).2.1,.int .i64 (D2 t (up cnow.ver) l).2.2]:=A6.new (by simp)
 have hp9:B7 _ (fun b=>w.heap.size+3≤b∧b<w1.heap.size) p0 p1 p2 (D2 t (up cnow.ver) l).1:=C3.below (C3.anyOk hp1 fun b hb (h:w0.heap.size≤b)=>⟨by omega,hb⟩) hbx
 have hB2:=hB1.trans (hbx.mono hB1.size)
 subst hp2
 generalize D2 t (up cnow.ver) l=po at *
 obtain ⟨pl,k1,k2⟩:=po
 dsimp only at *
 clear hp hp1 hb1 hbx hB0 hC0 hT0 hZ0
 by_cases h1:k1=0
 case neg=>
  have HE:=Lib.hid (HX2.out h1)
  have h1':(k1 !=0)=true:=by rw [bne_iff_ne];exact h1
  clear HX2 HX3 HX4 HPO h1 hC1 hT1 hZ1 hB1 hp9
  obtain ⟨f1,f2⟩:=hF2.cells
  go_wp2
  generalize (w1.alloc (.cells #[.int .i64 pl.ver,p1,p2] 34)).alloc (.cells #[.int .i64 k1,.int .i64 k2] 29)=w2 at *
  have hfb:w.heap.size+1+1<w1.heap.size:=by omega
  generalize w1.heap.size=fb at *
  clear f1 f2
  have hS0:SBf (fb+1) k1 w2.drew:=hF2.cells.1 0
  refine B9 (SBf (fb+1) k1) 99 (fun a0 a' w'=>∃ v34 v35 v36,a'=C8 a0 [(34,v34),(35,v35),(36,v36),(7,.slice none 0 0),(8,.int .i64 k1)]∧A6 w' (w.heap.size+1+1) 43 #[.int .i64 0,.int .i64 0,.slice none 0 0,.slice none 0 0,.int .i64 0,.slice none 0 0,.slice none 0 0,.int .i64 0,.slice none 0 0]∧Below w.heap.size w w') (by kernel_rfl) ?_ ?_
  ·intro Q' hR hQp
   have hb0:Below w2.heap.size w2 w2.drew:=N4 _
   have hS:SBf (fb+1) k1 w2.drew:=hS0
   generalize w2.drew=wa at *
   have hZa:=hZ2.under hb0
   have hFa:=hF2.under hb0
   have hBa:=hB2.trans (hb0.mono hB2.size)
   obtain ⟨z1,z2⟩:=hZa.cells
   have hzl:=hZa.lt
   refine A9 hQp hS [0,1,2] ?_
   iterate 3 (refine B2 _ rfl (by kernel_rfl) (A0 (by kernel_rfl) (by intro w0 hw0;have hw1:=hw0;simp only [SBf] at hw1;first|(go_simp;done)|(go_simp;rfl))) ?_;simp only [Act.put,St.tA,St.tD,St.tE,St.tS,St.tC,St.tZ])
   refine B3 ?_
   clear hS
   refine A7 (i:=3) rfl (by kernel_rfl) (by kernel_rfl) fun K3 hK3=>?_
   go_simp
   go_wp2_with fail
   obtain ⟨G,FR⟩:=Y7 hZa (fun b=>b≠w.heap.size+1+1) w.heap.size (fun h=>h rfl) (by omega) (.int .i64 0) (.int .i64 0) (.slice none 0 0) (.slice none 0 0) (.int .i64 0) (.slice none 0 0) (.slice none 0 0) (.int .i64 0) (.slice none 0 0)
   have hS:_:=(FR.blk hFa (.inl (by omega))).cells.1 0
   refine hK3 _ _ (fun _=>hS) ?_
   clear hK3
   refine A9 hQp hS [4,5] ?_
   iterate 2 (refine B2 _ rfl (by kernel_rfl) (A0 (by kernel_rfl) (by intro w0 hw0;have hw1:=hw0;simp only [SBf] at hw1;first|(go_simp;done)|(go_simp;rfl))) ?_;simp only [Act.put,St.tA,St.tD,St.tE,St.tS,St.tC,St.tZ])
   refine B3 ?_
   refine B5 (by kernel_rfl) ?_ _
   refine hR _ _ ?_
   iterate 3 apply Exists.intro
   refine ⟨?_,⟨G,hBa.trans FR.below⟩⟩
   simp only [C8,Act.put,St.tS,St.tC,St.tZ]
   rfl
  rintro a' w8 ⟨v34,v35,v36,rfl,hb8⟩
  simp only [C8,Act.put,St.tS,St.tC,St.tZ]
  obtain ⟨hZ9,hB9⟩:=hb8
  obtain ⟨g1,g2⟩:=hZ9.cells
  go_wp2_with ((with_reducible refine bodyPost_ret (v:=.tuple #[.agg #[.int .i64 0,.int .i64 0,.slice none 0 0,.slice none 0 0,.int .i64 0,.slice none 0 0,.slice none 0 0,.int .i64 0,.slice none 0 0],.slice none 0 0,.int .i64 k1]) ?ra2 ?rb2 ?rc2);go_must (case ra2=>simp [results,Tryz.results46,go_sem,g1]);go_must (case rb2=>rfl);go_must (case rc2=>exact ⟨P4.bad HE.out,hB9⟩))
 subst h1
 have hpo:=HPO.out (by first|trivial|rfl)
 have HY3:=Lib.hid (HX3.out (by first|trivial|rfl))
 have HY4:=Lib.hid (HX4.out (by first|trivial|rfl))
 clear HX2 HX3 HX4 HPO
 obtain ⟨n,htN⟩:∃ n:Nat,t.n=(n:Int):=⟨t.n.toNat,by have:=hpo.n1;omega⟩
 have hn8:n≤8:=by have:=hpo.n8;omega
 have HTN:=Lib.hid htN
 rw [htN] at hT1 hT2
 clear htN
 obtain ⟨s1,s2,s3,s4⟩:=hsm
 dsimp only at s1 s2 s3 s4
 have hps:=hpo.small
 have hpr:∀ s:Nat,(C6 pl s).length≤96:=fun s=>hpo.short s
 obtain ⟨c1,c2⟩:=hC1.cells
 obtain ⟨t1,t2⟩:=hT1.cells
 have hl1:w.heap.size<w1.heap.size:=by omega
 have hl2:w.heap.size+1<w1.heap.size:=by omega
 go_wp2
 clear c1 c2 t1 t2 hC1 hT1 hZ1 hB1 lp0 op0
 generalize (w1.alloc (.cells #[.int .i64 pl.ver,p1,p2] 34)).alloc (.cells #[.int .i64 0,.int .i64 k2] 29)=w2 at *
 generalize hPB:w1.heap.size=PB at *
 have hOF:=fun (w':World) (hb:Below w.heap.size w w')=>B5d cnow n [.int .i64 cnow.ver,n1,n2] okc w' (C3.below hn hb) (by omega) (fun s=>Nat.le_trans (s4 s) (by omega)) (Nat.le_trans s1.pts (by omega))
 have hOG:=fun (w':World) (hb:Below w2.heap.size w2 w')=>B5d pl n [.int .i64 pl.ver,p1,p2] _ w' (C3.below hp9 hb) (by omega) (fun s=>Nat.le_trans (hpr s) (by omega)) (Nat.le_trans hps.pts (by omega))
 have HOF:=Lib.hid hOF
 have HOG:=Lib.hid hOG
 clear hOF hOG
 have hPl:=hP2.lt
 have hS0:S67 w.heap.size (w.heap.size+1) PB (.int .i64 cnow.ver) n1 n2 (.int .i64 n) (.int .i64 pl.ver) p1 p2 w2.drew:=S67.of hC2 hT2 hP2
 refine B9 (S67 w.heap.size (w.heap.size+1) PB (.int .i64 cnow.ver) n1 n2 (.int .i64 n) (.int .i64 pl.ver) p1 p2) 99 (fun a0 a' w'=>∃ v11 v12 v37 v38 v39 v40 v41 v42 v43 v44 v45,a'=C8 a0 [(11,v11),(12,v12),(37,v37),(38,v38),(39,v39),(40,v40),(41,v41),(42,v42),(43,v43),(44,v44),(45,v45)]∧∃ ob f ob2 f2,v11=.slice (some ⟨ob,0,none⟩) n n∧v12=.slice (some ⟨ob2,0,none⟩) n n∧w2.heap.size≤ob∧w2.heap.size≤ob2∧Tbl w' ob 62 112 n f (fun s=>C6 cnow s)∧Tbl w' ob2 62 112 n f2 (fun s=>C6 pl s)∧Below w2.heap.size w2 w') (by kernel_rfl) ?_ ?_
 ·intro Q' hR hQp
  have hb0:Below w2.heap.size w2 w2.drew:=N4 _
  have hS:S67 w.heap.size (w.heap.size+1) PB (.int .i64 cnow.ver) n1 n2 (.int .i64 n) (.int .i64 pl.ver) p1 p2 w2.drew:=hS0
  generalize w2.drew=wa at *
  have hCa:=hC2.under hb0
  have hTa:=hT2.under hb0
  have hPa:=hP2.under hb0
  have hsa:=hb0.size
  refine A9 hQp hS [0,2,5,6,1,3,7] ?_
  iterate 7 (refine B2 _ rfl (by kernel_rfl) (A0 (by kernel_rfl) (by intro w0 hw0;have hw1:=hw0;simp only [S67] at hw1;first|(go_simp;done)|(go_simp;rfl))) ?_;simp only [Act.put,St.tA,St.tD,St.tE,St.tS,St.tC,St.tZ])
  refine B3 ?_
  clear hS
  refine A7 (i:=4) rfl (by kernel_rfl) (by kernel_rfl) fun K4 hK4=>?_
  go_simp
  go_wp2_with fail
  refine (HOF.out wa (hB2.trans (hb0.mono hB2.size))).mono ?_
  rintro e wb ⟨ob,f,rfl,hob,hTb,hab⟩
  have hb1:=hb0.trans (hab.mono hb0.size)
  go_wp2_with fail
  have hS:_:=S67.of (hC2.under hb1) (hT2.under hb1) (hP2.under hb1)
  refine hK4 _ _ (fun _=>hS) ?_
  clear hK4
  clear hS
  refine A7 (i:=8) rfl (by kernel_rfl) (by kernel_rfl) fun K8 hK8=>?_
  go_simp
  go_wp2_with fail
  refine (HOG.out wb hb1).mono ?_
  rintro e wc ⟨ob2,f2,rfl,hob2,hTc,hbc⟩
  have hb2:=hb1.trans (hbc.mono hb1.size)
  have hsb:=hab.size
  go_wp2_with fail
  have hS:_:=S67.of (hC2.under hb2) (hT2.under hb2) (hP2.under hb2)
  refine hK8 _ _ (fun _=>hS) ?_
  clear hK8
  refine A9 hQp hS [9,10] ?_
  iterate 2 (refine B2 _ rfl (by kernel_rfl) (A0 (by kernel_rfl) (by intro w0 hw0;have hw1:=hw0;simp only [S67] at hw1;first|(go_simp;done)|(go_simp;rfl))) ?_;simp only [Act.put,St.tA,St.tD,St.tE,St.tS,St.tC,St.tZ])
  refine B3 ?_
  refine B5 (by kernel_rfl) ?_ _
  refine hR _ _ ?_
  iterate 11 apply Exists.intro
  refine ⟨?_,⟨ob,f,ob2,f2,rfl,rfl,by omega,by omega,hTb.under hbc,hTc,hb2⟩⟩
  simp only [C8,Act.put,St.tS,St.tC,St.tZ]
  rfl
 rintro a' w8 ⟨v11,v12,v37,v38,v39,v40,v41,v42,v43,v44,v45,rfl,hb8⟩
 simp only [C8,Act.put,St.tS,St.tC,St.tZ]
 obtain ⟨ob,f,ob2,f2,rfl,rfl,hob,hob2,hTn,hTp,hb3⟩:=hb8
 have hC3:=hC2.under hb3
 have hT3:=hT2.under hb3
 have hZ3:=hZ2.under hb3
 have hP3:=hP2.under hb3
 have hp3:B7 w8 (fun b=>w.heap.size+3≤b∧b<PB) (.int .i64 pl.ver) p1 p2 pl:=C3.below hp9 hb3
 have hB3:=hB2.trans (hb3.mono hB2.size)
 have hs3:=hb3.size
 have hfr2:=hF2.lt
 clear hC2 hT2 hZ2 hP2 hF2 hp9 hB2 hb3 HOF HOG hPl
 obtain ⟨c1,c2⟩:=hC3.cells
 obtain ⟨t1,t2⟩:=hT3.cells
 go_wp2
 clear c1 c2 t1 t2
 have HG0:Hid (([]:List To)=M5 (R4 pl) 0):=rfl
 have HG1:Hid (∀ (s:Nat) os,os=M5 (R4 pl) s→∀ q,R4 pl s=q→os++q=M5 (R4 pl) (s+1)):=fun s os h q hq=>by rw [h,←hq,Z3]
 have HG2:Hid (∀ (s:Nat) os,os=M5 (R4 pl) s→os.length≤s):=fun s os h=>by rw [h];exact Q2 (Z8 _) s
 have HG3:Hid (∀ os,os=M5 (R4 pl) n→os=L7 pl t):=fun os h=>by rw [h];unfold L7;rw [HTN.out];rfl
 have HG4:Hid (∀ s:Nat,R4 pl s=if C6 pl s=[] then [] else [⟨s,⟨1,0,pl.ver,C6 pl s,[]⟩⟩]):=fun s=>rfl
 have HG5:Hid (N5 cnow pl 0=false):=rfl
 have HG6:Hid (∀ s:Nat,s<n→16<(C6 cnow s).length+(C6 pl s).length→R=(Q6,[],10)):=fun s hs h=>HY3.out (by rw [HTN.out];exact B1p hs h)
 have HG7:Hid (∀ s:Nat,N5 cnow pl s=false→¬16<(C6 cnow s).length+(C6 pl s).length→N5 cnow pl (s+1)=false):=fun s h0 h=>B1x h0 h
 have HG8:Hid (N5 cnow pl n=false→∀ gs,gs=L7 pl t→∀ sr,E6 ⟨1,cnow,pl,cnum,cws⟩ gs=sr→∀ tr,C0 sr.1 t=tr→R=(tr.1,sr.2++tr.2,0)):=fun h=>HY4.out (by rw [HTN.out];exact h)
 clear HY3 HY4
 go_loopw [13,14,48] (fun out _ idx wr=>∃ (s:Nat) (oa:Option Addr) (oc:Nat) (os:List To),out=.slice oa os.length oc∧idx=.int .i64 s∧s≤n∧Hid (os=M5 (R4 pl) s)∧Hid (N5 cnow pl s=false)∧C7 toS 135 (fun b=>ob2+1≤b∧b<w8.heap.size) w8.heap.size wr oa os.length oc os∧Below w8.heap.size w8 wr) (fun _ _ idx _=>n - (intOf idx).toNat)
 case atStart=>exact ⟨0,none,0,[],rfl,rfl,Nat.zero_le _,HG0,HG5,C7.nil _ _ _ _ _ (fun b h=>h.2),Below.refl _ _⟩
 case round=>
 clear HG0 HG5
 obtain ⟨s,oa,oc,os,rfl,rfl,hs,hos,hfs,hO,hb8⟩:=hrel
 rename World=>wo
 have hon:=HG2.out s os hos.out
 have hso:=hb8.size
 by_cases hlt:s<n
 case pos=>
  have b0:(0:Int)≤(s:Int):=by omega
  have b1:(s:Int)<(n:Int):=by omega
  have hTno:=hTn.under hb8
  have hTpo:=hTp.under hb8
  have hPo:=hP3.under hb8
  have hZo:=hZ3.under hb8
  have hBo:=hB3.trans (hb8.mono hB3.size)
  have e0:=hTno.cell hlt
  have e1:=hTpo.cell hlt
  have hrw:A8 G6 (fun b=>ob2+1≤b∧b<w8.heap.size) w8 (f2 s).1 (f2 s).2 (C6 pl s):=(hTp.row hlt).mono (w':=w8) (ok':=fun b=>ob2+1≤b∧b<w8.heap.size) (fun b hb h=>⟨⟨h,hb⟩,rfl⟩)
  have hl1:=hTno.blk.lt
  have hl0:=hTp.blk.lt
  have hl2:=hTpo.blk.lt
  have hl3:=hPo.lt
  have hL1:=s4 s
  have hL2:=hpr s
  have hsI:I64 (s:Int):=⟨by omega,by omega⟩
  have hG4:=HG4.out s
  have hG1:=HG1.out s os hos.out
  have hG6:=HG6.out s hlt
  have hG7:=HG7.out s hfs.out
  generalize C6 pl (s:Int)=RI at *
  generalize (C6 cnow (s:Int)).length=L1 at *
  have hwp:IntKind.i64.wrap ((L1:Int)+(RI.length:Int))=(L1:Int)+(RI.length:Int):=IntWalk.i64_in _ (by omega)
  clear HG1 HG2 HG3 HG4 HG6 HG7 HG8 hTn hTp hTno hTpo hC3 hT3
  by_cases hfull:16<L1+RI.length
  case pos=>
   have HE:=Lib.hid (hG6 hfull)
   have hf1:decide ((L1:Int)+(RI.length:Int)>16)=true:=by rw [decide_eq_true_iff];omega
   have hf2:(16:Int)<(L1:Int)+(RI.length:Int):=by omega
   clear hG1 hG4 hG6 hG7 hfull
   have g1:=fun k=>((Y7 (hZo.drewN k) (fun b=>b≠w.heap.size+1+1) w.heap.size (fun h=>h rfl) (by omega) (.int .i64 0) (.int .i64 0) (.slice none 0 0) (.slice none 0 0) (.int .i64 0) (.slice none 0 0) (.slice none 0 0) (.int .i64 0) (.slice none 0 0)).1.cells).1
   have hB9:=fun k=>(hBo.trans (show Below w.heap.size wo (wo.drewN k) from A3 (Below.refl _ _) k)).trans (Y7 (hZo.drewN k) (fun b=>b≠w.heap.size+1+1) w.heap.size (fun h=>h rfl) (by omega) (.int .i64 0) (.int .i64 0) (.slice none 0 0) (.slice none 0 0) (.int .i64 0) (.slice none 0 0) (.slice none 0 0) (.int .i64 0) (.slice none 0 0)).2.below
   obtain ⟨z1,z2⟩:=hZo.cells
   have hzl:=hZo.lt
   go_wp2
   go_quiet (fail)
   go_wp2_with ((with_reducible refine bodyPost_ret (v:=.tuple #[.agg #[.int .i64 0,.int .i64 0,.slice none 0 0,.slice none 0 0,.int .i64 0,.slice none 0 0,.slice none 0 0,.int .i64 0,.slice none 0 0],.slice none 0 0,.int .i64 10]) ?ra3 ?rb3 ?rc3);go_must (case ra3=>simp [results,Tryz.results46,go_sem,g1]);go_must (case rb3=>rfl);go_must (case rc3=>exact ⟨P4.bad HE.out,hB9 _⟩))
  have HF:=Lib.hid (hG7 hfull)
  have hf1:decide ((L1:Int)+(RI.length:Int)>16)=false:=by rw [decide_eq_false_iff_not];omega
  have hf2:¬(16:Int)<(L1:Int)+(RI.length:Int):=by omega
  by_cases hri:RI=[]
  case pos=>
   subst hri
   have HM:=Lib.hid (hG1 [] (by rw [hG4,if_pos rfl]))
   clear hG1 hG4 hG6 hG7 hfull
   go_wp2
   go_quiet (fail)
   go_wp2
   case roundEnd=>
    go_roundw
    case rel=>exact ⟨s+1,oa,oc,os,rfl,by go_num,by omega,by have:=HM.out;rw [List.append_nil] at this;exact this,HF,hO.below (by (repeat' (first|with_reducible (first|exact Below.refl _ _|assumption|refine Below.drew ?_|refine A3 ?_ _|refine Below.alloc ?_ ?_ _|refine Below.setCell ?_ ?_ _)|omega|(simp;done)|(simp;omega)))),by (repeat' (first|with_reducible (first|exact Below.refl _ _|assumption|refine Below.drew ?_|refine A3 ?_ _|refine Below.alloc ?_ ?_ _|refine Below.setCell ?_ ?_ _)|omega|(simp;done)|(simp;omega)))⟩
    case measure=>simp [intOf]<;>omega
  have HM:=Lib.hid (hG1 [⟨s,⟨1,0,pl.ver,RI,[]⟩⟩] (by rw [hG4,if_neg hri]))
  have hk1:decide ((RI.length:Int)>0)=true:=by rw [decide_eq_true_iff];have:=List.length_pos_iff.2 hri;omega
  have hk2:(0:Int)<(RI.length:Int):=by have:=List.length_pos_iff.2 hri;omega
  have hk3:0<RI.length:=List.length_pos_iff.2 hri
  clear hG1 hG4 hG6 hG7 hfull
  go_wp2
  go_quiet (fail)
  go_wp2
  have hbq:Below wo.heap.size wo (wo.drewN nq):=A3 (Below.refl _ _) nq
  have e1q:=B8 hbq hl2 e1
  have hPq:=hPo.under hbq
  have hOq:=hO.below hbq
  have hb9:=hb8.trans (hbq.mono hb8.size)
  have hql:ob2<(wo.drewN nq).heap.size:=by have:=hbq.size;omega
  clear hbq e0 e1 hPo hO hZo hBo
  generalize wo.drewN nq=wq at *
  obtain ⟨j0,gi,gz0,gz1,gz2⟩:=info_parts A17
  have hS0:SS PB ob2 s pl.ver (.slice (f2 s).1 RI.length (f2 s).2) wq.drew:=⟨hPq.cells.1 0,e1q⟩
  refine B9 (SS PB ob2 s pl.ver (.slice (f2 s).1 RI.length (f2 s).2)) 99 (fun a0 a' w'=>∃ v13 v70 v71 v72 v73 v74 v75 v76 v77 v78 v79 v80 v81,a'=C8 a0 [(13,v13),(70,v70),(71,v71),(72,v72),(73,v73),(74,v74),(75,v75),(76,v76),(77,v77),(78,v78),(79,v79),(80,v80),(81,v81)]∧∃ oa' oc',v13=.slice oa' (os.length+1) oc'∧C7 toS 135 (fun b=>ob2+1≤b∧b<w8.heap.size) w8.heap.size w' oa' (os.length+1) oc' (os++[⟨s,⟨1,0,pl.ver,RI,[]⟩⟩])∧Below w8.heap.size w8 w') (by kernel_rfl) ?_ ?_
  ·intro Q' hR hQp
   have hb0:Below wq.heap.size wq wq.drew:=N4 _
   have hS:SS PB ob2 s pl.ver (.slice (f2 s).1 RI.length (f2 s).2) wq.drew:=hS0
   generalize wq.drew=wa at *
   have hPa:=hPq.under hb0
   have hOa:=hOq.below hb0
   have e1a:=B8 hb0 hql e1q
   have hBa:=hb9.trans (hb0.mono hb9.size)
   have hqa:ob2<wa.heap.size:=by have:=hb0.size;omega
   refine A9 hQp hS [0,1,2,4,5,3,6,7,8,9] ?_
   iterate 10 (refine B2 _ rfl (by kernel_rfl) (A0 (by kernel_rfl) (by intro w0 hw0;have hw1:=hw0;simp only [SS] at hw1;first|(go_simp;done)|(go_simp;rfl))) ?_;simp only [Act.put,St.tA,St.tD,St.tE,St.tS,St.tC,St.tZ])
   refine B3 ?_
   clear hS
   refine A7 (i:=10) rfl (by kernel_rfl) (by kernel_rfl) fun K10 hK10=>?_
   go_simp
   go_wp2_with fail
   have hab:=G8 wa (.cells #[.int .i64 s,.int .i64 1,.int .i64 0,.int .i64 pl.ver,.slice (f2 s).1 RI.length (f2 s).2,.slice none 0 0] 135)
   have hN:=I6 wa 135 #[.int .i64 s,.int .i64 1,.int .i64 0,.int .i64 pl.ver,.slice (f2 s).1 RI.length (f2 s).2,.slice none 0 0]
   have hPb:=hPa.under hab
   have hOb:=hOa.below hab
   have e1b:=B8 hab hqa e1a
   have hBb:=hBa.trans (hab.mono hBa.size)
   have hS:_:=(show SS PB ob2 s pl.ver (.slice (f2 s).1 RI.length (f2 s).2) _ from ⟨hPb.cells.1 0,e1b⟩)
   refine hK10 _ _ (fun _=>hS) ?_
   clear hK10
   clear hS
   generalize wa.alloc (.cells #[.int .i64 s,.int .i64 1,.int .i64 0,.int .i64 pl.ver,.slice (f2 s).1 RI.length (f2 s).2,.slice none 0 0] 135)=wb at *
   have hsrc:D7 toS (fun b=>ob2+1≤b∧b<w8.heap.size) wb (some ⟨wa.heap.size,0,none⟩) [⟨s,⟨1,0,pl.ver,RI,[]⟩⟩]:=A72 hN hsI (show I64 1 from I64.small (by decide) (by decide)) (show I64 0 from I64.small (by decide) (by decide)) hpv (hrw.below hBb) (A8.nil _ _ _ _)
   refine A7 (i:=11) rfl (by kernel_rfl) (by kernel_rfl) fun K11 hK11=>?_
   refine Q3 (sh:=toS) (n:=os.length) (m:=1) (.tmp 70) (.tmp 80) 103 (by rfl) 135 j0 (.agg #[.int .i64 0,.int .i64 0,.int .i64 0,.int .i64 0,.slice none 0 0,.slice none 0 0]) 80 Tryz.underlying103 gi gz0 gz1 gz2 rfl (by decide) (ok:=(fun b=>ob2+1≤b∧b<w8.heap.size)) (base:=w8.heap.size) (by rfl) hOb (by rfl) rfl hsrc (by simp only [maxLen];omega) (by omega) hBb.size ?_
   intro oa' oc' wc hOc hgc hliec
   have hPc:=hPb.grown hgc (fun e=>by have:=(hOb.lt _ e.symm).1;omega)
   have hbc:Below w8.heap.size wb wc:=D6 (B:=w8.heap.size) hgc (fun k hk=>(hOb.lt k hk).1) hBb.size
   have e1c:=B8 hbc (by omega) e1b
   simp only [Act.put,St.tA,St.tD,St.tE,St.tS,St.tC,St.tZ]
   have hS:_:=(show SS PB ob2 s pl.ver (.slice (f2 s).1 RI.length (f2 s).2) _ from ⟨hPc.cells.1 0,e1c⟩)
   refine hK11 _ _ (fun _=>hS) ?_
   clear hK11
   refine A9 hQp hS [12] ?_
   iterate 1 (refine B2 _ rfl (by kernel_rfl) (A0 (by kernel_rfl) (by intro w0 hw0;have hw1:=hw0;simp only [SS] at hw1;first|(go_simp;done)|(go_simp;rfl))) ?_;simp only [Act.put,St.tA,St.tD,St.tE,St.tS,St.tC,St.tZ])
   refine B3 ?_
   refine B5 (by kernel_rfl) ?_ _
   refine hR _ _ ?_
   iterate 13 apply Exists.intro
   refine ⟨?_,⟨oa',oc',rfl,hOc,hBb.trans hbc⟩⟩
   simp only [C8,Act.put,St.tS,St.tC,St.tZ]
   rfl
  rintro a' w8 ⟨v13,v70,v71,v72,v73,v74,v75,v76,v77,v78,v79,v80,v81,rfl,hb8⟩
  simp only [C8,Act.put,St.tS,St.tC,St.tZ]
  clear hPq hOq hb9 e1q
  obtain ⟨oa',oc',rfl,hO9,hb9⟩:=hb8
  have hln:(os++([⟨s,⟨1,0,pl.ver,RI,[]⟩⟩]:List To)).length=os.length+1:=by simp
  have HV:Hid (Value.slice oa' (os.length+1) oc'=.slice oa' (os++([⟨s,⟨1,0,pl.ver,RI,[]⟩⟩]:List To)).length oc'):=by show _=_;rw [hln]
  rw [←hln] at hO9
  clear hln
  go_wp2
  case roundEnd=>
   go_roundw
   case rel=>exact ⟨s+1,oa',oc',_,HV.out,by go_num,by omega,HM,HF,hO9,hb9⟩
   case measure=>simp [intOf]<;>omega
 obtain rfl:s=n:=by omega
 have HEX:=Lib.hid (HG8.out hfs.out os (HG3.out os hos.out))
 have b1:¬(s:Int)<(s:Int):=by omega
 have hC8:=hC3.under hb8
 have hT8:=hT3.under hb8
 have hZ8:=hZ3.under hb8
 have hP8:=hP3.under hb8
 have hp8:B7 wo (fun b=>w.heap.size+3≤b∧b<PB) (.int .i64 pl.ver) p1 p2 pl:=C3.below hp3 hb8
 have hB8:=hB3.trans (hb8.mono hB3.size)
 have hpl3:=hP3.lt
 have hzl3:=hZ3.lt
 have hobl:=hTp.blk.lt
 clear HG1 HG2 HG3 HG4 HG6 HG7 HG8 hos hfs hC3 hT3 hZ3 hP3 hp3 hB3 hTn hTp hlt
 obtain ⟨c1,c2⟩:=hC8.cells
 have hcl8:=hC8.lt
 go_wp2_with fail
 refine (B3g ⟨0,cnow,cnext,cnum,cws⟩ _ okc wo (P3.below hH hB8) s1 s2 (by show cws.length≤_;omega)).mono ?_
 rintro e w4 ⟨m0,m1,m2,y0,y1,y2,va,vc,M,rfl,hM,hvM,hN4,hX4,hV4,hb4⟩
 dsimp only at hN4 hX4 hV4
 obtain ⟨lm0,lm1,lm2⟩:=B7.st (P:=Tryz.prog) hN4
 obtain ⟨ly0,ly1,ly2⟩:=B7.st (P:=Tryz.prog) hX4
 obtain ⟨om0,om1,om2⟩:=B7.one hN4
 obtain ⟨oy0,oy1,oy2⟩:=B7.one hX4
 have hB4:=hB8.trans (hb4.mono hB8.size)
 have hbx:=G8 w4 (.cells #[.int .i64 0,m0,m1,m2,y0,y1,y2,.int .i64 cnum,.slice va cws.length vc] 43)
 have hb5:=hb4.trans (hbx.mono hb4.size)
 have hD5:=I6 w4 43 #[.int .i64 0,m0,m1,m2,y0,y1,y2,.int .i64 cnum,.slice va cws.length vc]
 have hvD:∀ k,blk va=some k→wo.heap.size≤k∧k<w4.heap.size:=fun k hk=>hV4.lt k hk
 have hT5:=hT8.under hb5
 have hZ5:=hZ8.under hb5
 have hP5:=hP8.under hb5
 have hp5:B7 _ (fun b=>w.heap.size+3≤b∧b<PB) (.int .i64 pl.ver) p1 p2 pl:=C3.below hp8 hb5
 have hO5:=hO.below hb5
 have hN5:B7 _ (fun b=>M≤b∧b<w4.heap.size) m0 m1 m2 cnow:=C3.below (C3.anyOk hN4 fun b hb h=>⟨h,hb⟩) hbx
 have hV5:=hV4.below hbx
 have hB5:=hB4.trans (hbx.mono hB4.size)
 have hs4:=hb4.size
 have hs5:=hbx.size
 clear hb4 hbx hb5 hC8 hT8 hZ8 hP8 hp8 hB8 hB4 hX4 c1 c2
 go_wp2
 clear lm0 lm1 lm2 ly0 ly1 ly2 om0 om1 om2 oy0 oy1 oy2 hN4 hV4
 generalize w4.alloc _=w5 at *
 generalize w4.heap.size=D at *
 have hdl5:=hD5.lt
 have hpl5:=hP5.lt
 have hoaw:∀ k,blk oa=some k→w8.heap.size≤k∧k<wo.heap.size:=fun k hk=>hO.lt k hk
 clear hO hb8
 generalize w8.heap.size=Q8 at *
 have hS0:S3 PB 0 (.int .i64 pl.ver) p1 p2 w5.drew:=⟨hP5.cells.1 0,hP5.cells.1 1,hP5.cells.1 2⟩
 refine B9 (S3 PB 0 (.int .i64 pl.ver) p1 p2) 99 (fun a0 a' w'=>∃ v85 v86 v87,a'=C8 a0 [(85,v85),(86,v86),(87,v87)]∧A6 w' D 43 #[.int .i64 1,m0,m1,m2,.int .i64 pl.ver,p1,p2,.int .i64 cnum,.slice va cws.length vc]∧Frm (fun b=>b≠D) w.heap.size w5 w') (by kernel_rfl) ?_ ?_
 ·intro Q' hR hQp
  have hb0:Below w5.heap.size w5 w5.drew:=N4 _
  have hS:S3 PB 0 (.int .i64 pl.ver) p1 p2 w5.drew:=hS0
  generalize w5.drew=wa at *
  have hDa:=hD5.under hb0
  have hPa:=hP5.under hb0
  have hFa:Frm (fun b=>b≠D) w.heap.size w5 wa:=Frm.of hb0 hB5.size
  have hsa:=hb0.size
  refine A9 hQp hS [0,1] ?_
  iterate 2 (refine B2 _ rfl (by kernel_rfl) (A0 (by kernel_rfl) (by intro w0 hw0;have hw1:=hw0;simp only [S3] at hw1;first|(go_simp;done)|(go_simp;rfl))) ?_;simp only [Act.put,St.tA,St.tD,St.tE,St.tS,St.tC,St.tZ])
  refine B3 ?_
  obtain ⟨c1,c2⟩:=hDa.cells
  have hdla:=hDa.lt
  clear hS
  refine A7 (i:=2) rfl (by kernel_rfl) (by kernel_rfl) fun K2 hK2=>?_
  go_simp
  go_wp2_with fail
  have hDb:=hDa.set 0 (.int .i64 1)
  simp only [St.tS,St.tZ] at hDb
  have hFb:=hFa.trans (Frm.set (a:=⟨D,0,none⟩) (fun h=>h rfl) (by show w.heap.size≤D;omega) (.int .i64 1))
  have hPb:=hPa.setOther (a:=⟨D,0,none⟩) (by show PB≠D;omega) (.int .i64 1)
  have hS:_:=(show S3 PB 0 (.int .i64 pl.ver) p1 p2 _ from ⟨hPb.cells.1 0,hPb.cells.1 1,hPb.cells.1 2⟩)
  refine hK2 _ _ (fun _=>hS) ?_
  clear hK2
  clear c1 c2
  obtain ⟨c1,c2⟩:=hDb.cells
  have hdlb:=hDb.lt
  refine A9 hQp hS [3] ?_
  iterate 1 (refine B2 _ rfl (by kernel_rfl) (A0 (by kernel_rfl) (by intro w0 hw0;have hw1:=hw0;simp only [S3] at hw1;first|(go_simp;done)|(go_simp;rfl))) ?_;simp only [Act.put,St.tA,St.tD,St.tE,St.tS,St.tC,St.tZ])
  refine B3 ?_
  clear hS
  refine A7 (i:=4) rfl (by kernel_rfl) (by kernel_rfl) fun K4 hK4=>?_
  go_simp
  go_wp2_with fail
  obtain ⟨hDc,FRc⟩:=B5y (cs:=[.int .i64 1,m0,m1,m2,y0,y1,y2,.int .i64 cnum,.slice va cws.length vc]) hDb 4 (fun b=>b≠D) w.heap.size (fun h=>h rfl) (by omega) (.int .i64 pl.ver) p1 p2
  have hPc:=FRc.blk hPb (.inl (by omega))
  have hS:_:=(show S3 PB 0 (.int .i64 pl.ver) p1 p2 _ from ⟨hPc.cells.1 0,hPc.cells.1 1,hPc.cells.1 2⟩)
  refine hK4 _ _ (fun _=>hS) ?_
  clear hK4
  refine B5 (by kernel_rfl) ?_ _
  refine hR _ _ ?_
  iterate 3 apply Exists.intro
  refine ⟨?_,⟨hDc,hFb.trans FRc⟩⟩
  simp only [C8,Act.put,St.tS,St.tC,St.tZ]
  rfl
 rintro a' w8 ⟨v85,v86,v87,rfl,hb8⟩
 simp only [C8,Act.put,St.tS,St.tC,St.tZ]
 obtain ⟨hD6,hF6⟩:=hb8
 have hT6:=hF6.blk hT5 (.inl (by omega))
 have hZ6:=hF6.blk hZ5 (.inl (by omega))
 have hN6:=hF6.rep' hN5 (fun b hb=>.inl (by have:=hb.2;omega))
 have hp6:=hF6.rep' hp5 (fun b hb=>.inl (by have:=hb.2;omega))
 have hO6:=hO5.frm hF6 (fun b hb=>by have:=hb.2;omega) (fun k hk e=>hO5.noType hD5 (by decide) (e▸hk))
 have hV6:=hV5.frm hF6 (fun b hb=>hb.elim) (fun k hk e=>hV5.noType hD5 (by decide) (e▸hk))
 have hB6:=hB5.trans hF6.below
 have hs6:=hF6.size
 clear hD5 hT5 hZ5 hN5 hp5 hO5 hV5 hB5 hF6 hP5
 have hN7:B7 w8 (fun b=>(w.heap.size+3≤b∧b<PB)∨(M≤b∧b<D)) m0 m1 m2 cnow:=C3.anyOk hN6 fun b _ h=>.inr h
 have hX7:B7 w8 (fun b=>(w.heap.size+3≤b∧b<PB)∨(M≤b∧b<D)) (.int .i64 pl.ver) p1 p2 pl:=C3.anyOk hp6 fun b _ h=>.inl h
 have hdl6:=hD6.lt
 go_wp2_with fail
 have hVs:=(hV6.ints_any (ok':=(fun b=>b<w8.heap.size∧b≠D∧blk oa≠some b∧blk va≠some b)) (fun k hk h=>h.2.2.2 hk) (fun b h=>h.1)).base (by omega:w.heap.size≤wo.heap.size)
 have hVWS:∀ b,ob2+1≤b∧b<Q8→b<w8.heap.size∧b≠D∧blk oa≠some b∧blk va≠some b:=fun b hb=>⟨by omega,by omega,fun e=>by have:=hoaw b e;omega,fun e=>by have:=hvD b e;omega⟩
 refine (A9m ⟨1,cnow,pl,cnum,cws⟩ os (fun b=>b<w8.heap.size∧b≠D∧blk oa≠some b∧blk va≠some b) (fun b=>ob2+1≤b∧b<Q8) w.heap.size D m0 m1 m2 (.int .i64 pl.ver) p1 p2 va vc oa oc w8 hD6 hVs (hO6.base (by omega)) hVWS (fun k hk h=>h.2.2.1 hk) (by omega) (fun h=>h.2.1 rfl) hB6.size (by omega) (by show cws.length≤_;omega)).mono ?_
 rintro e w9 ⟨va9,vc9,rfl,hD9,hV9,hO9,hF9⟩
 have hKs:∀ b,(w.heap.size+3≤b∧b<PB)∨(M≤b∧b<D)→b<w8.heap.size∧b≠D∧blk oa≠some b∧blk va≠some b:=fun b hb=>⟨by omega,by omega,fun e=>by have:=hoaw b e;omega,fun e=>by have:=hvD b e;have:=hvM b e;omega⟩
 have hlow:∀ b,b<Q8→blk oa≠some b:=fun b hb e=>by have:=hoaw b e;omega
 have hT9:=hF9.blk hT6 (.inl ⟨hT6.lt,by omega,hlow _ (by omega),hV6.noType hT6 (by decide)⟩)
 have hZ9:=hF9.blk hZ6 (.inl ⟨hZ6.lt,by omega,hlow _ (by omega),hV6.noType hZ6 (by decide)⟩)
 have hN9:=hF9.rep' hN7 (fun b hb=>.inl (hKs b hb))
 have hX9:=hF9.rep' hX7 (fun b hb=>.inl (hKs b hb))
 have hB9:=hB6.trans hF9.below
 have hs9:=hF9.size
 have hnum9:=A4m ⟨1,cnow,pl,cnum,cws⟩ os hnu
 have hkp:=P7 ⟨1,cnow,pl,cnum,cws⟩ os
 have hsl:=T0 ⟨1,cnow,pl,cnum,cws⟩ os
 have HEY:Hid (∀ sr,E6 ⟨1,cnow,pl,cnum,cws⟩ os=sr→∀ tr,C0 sr.1 t=tr→R=(tr.1,sr.2++tr.2,0)):=HEX.out
 have hvA:∀ k,blk va9=some k→¬((w.heap.size+3≤k∧k<PB)∨(M≤k∧k<D)):=fun k hk h=>hV9.not k hk (hKs k h)
 have hVVf:∀ b,ob2+1≤b∧b<Q8→b<w9.heap.size∧blk va9≠some b:=fun b hb=>⟨by have:=(hVWS b hb).1;omega,fun e=>hV9.not b e (hVWS b hb)⟩
 have hVVd:∀ b,ob2+1≤b∧b<Q8→b≠D:=fun b hb=>(hVWS b hb).2.1
 clear HEX hVs hD6 hT6 hZ6 hN6 hp6 hN7 hX7 hV6 hB6 hO6 hF9 hKs hlow
 generalize hsr:E6 ⟨1,cnow,pl,cnum,cws⟩ os=sr at *
 have HEZ:=Lib.hid (HEY.out sr rfl)
 obtain ⟨⟨q1,q2,q3,q4,q5⟩,sl⟩:=sr
 dsimp only at *
 obtain ⟨rfl,rfl,rfl⟩:=hkp
 obtain ⟨hsl1,hsl2⟩:=hsl
 have hsl3:sl.length≤8:=by omega
 have hq5:q5.length≤1000000100:=by omega
 have HSL:=Lib.hid hsl1
 clear hsl1 hsl2 HEY hsr
 rw [←HSL.out] at hO9
 have hrw:Value.slice oa os.length oc=.slice oa sl.length oc:=by rw [HSL.out]
 rw [hrw]
 clear hrw HSL hon
 have ht0:0≤t.n:=by rw [HTN.out];omega
 have ht8:t.n≤8:=by rw [HTN.out];omega
 rw [←HTN.out] at hT9
 have hKKl:∀ b,(w.heap.size+3≤b∧b<PB)∨(M≤b∧b<D)→b<w9.heap.size:=fun b hb=>by omega
 have hKKd:∀ b,(w.heap.size+3≤b∧b<PB)∨(M≤b∧b<D)→b≠D:=fun b hb=>by omega
 have hKKr:∀ b,(w.heap.size+3≤b∧b<PB)∨(M≤b∧b<D)→b≠w.heap.size+1+1:=fun b hb=>by omega
 have hKKn:∀ b,(w.heap.size+3≤b∧b<PB)∨(M≤b∧b<D)→w.heap.size≤b:=fun b hb=>by omega
 have hoaK:∀ b,blk oa=some b→¬((w.heap.size+3≤b∧b<PB)∨(M≤b∧b<D)):=fun b e h=>by have:=hoaw b e;omega
 have hsn9:=hps
 have hVVb:∀ b,ob2+1≤b∧b<Q8→w.heap.size≤b∧b≠w.heap.size+1+1:=fun b hb=>by omega
 obtain ⟨c1,c2⟩:=hD9.cells
 obtain ⟨t1,t2⟩:=hT9.cells
 have hdl9:=hD9.lt
 have htl9:=hT9.lt
 go_wp2_with fail
 clear c1 c2 t1 t2
 have hbT:=A40 hT rfl hB9
 have hV9':=hV9.ints_any (ok':=fun b=>b<w9.heap.size∧blk va9≠some b) (fun k hk h=>h.2 hk) (fun b h=>h.1)
 refine (A6s ⟨1,q2,q3,q4,q5⟩ t _ (fun b=>b<w9.heap.size∧blk va9≠some b) (fun b=>(w.heap.size+3≤b∧b<PB)∨(M≤b∧b<D)) w.heap.size m0 m1 m2 (.int .i64 q3.ver) p1 p2 va9 vc9 w9 (fun b hb=>⟨hKKl b hb,fun e=>hvA b e hb⟩) hN9 hX9 hV9' (show I64 1 from I64.small (by decide) (by decide)) hnum9 hbT ht0 ht8 hsn9 hB9.size (by show q5.length≤_;omega)).mono ?_
 rintro e wA ⟨p0,p1,p2,r0,r1,r2,ua,uc,oa2,oc2,rfl,hNA,hXA,hUA,hks,hkn,hOA,hFA⟩
 have hvt:∀ {b:Nat} {tt:TypeId} {cs:Array Value},A6 w9 b tt cs→3≠tt→blk va9≠some b:=fun h hne=>hV9.noType h hne
 have hDA:=hFA.blk hD9 (.inl ⟨hD9.lt,hvt hD9 (by decide)⟩)
 have hZA:=hFA.blk hZ9 (.inl ⟨hZ9.lt,hvt hZ9 (by decide)⟩)
 have hPA:=hO9.frm hFA hVVf (fun k hk=>⟨(hO9.lt k hk).2,hO9.apart hV9 (by decide) k hk⟩)
 have hBA:=hB9.trans hFA.below
 have hsA:=hFA.size
 have hoaD:∀ k,blk oa=some k→k<w9.heap.size:=fun k hk=>(hO9.lt k hk).2
 clear hN9 hX9 hV9 hV9' hD9 hZ9 hT9 hFA hvt hB9 hbT hO9
 have htl:=A30 ⟨1,q2,q3,q4,q5⟩ t
 have htl8:t.n.toNat≤8:=by omega
 generalize htr:C0 ⟨1,q2,q3,q4,q5⟩ t=tr at *
 have HEF:=Lib.hid (HEZ.out tr rfl)
 clear HEZ htr
 obtain ⟨⟨st2,now2,next2,num2,ws2⟩,tl⟩:=tr
 dsimp only at *
 obtain ⟨lp0,lp1,lp2⟩:=B7.st (P:=Tryz.prog) hNA
 obtain ⟨lq0,lq1,lq2⟩:=B7.st (P:=Tryz.prog) hXA
 obtain ⟨op0,op1,op2⟩:=B7.one hNA
 obtain ⟨oq0,oq1,oq2⟩:=B7.one hXA
 obtain ⟨hDB,FR1⟩:=Y7 hDA (fun b=>b≠D) w.heap.size (fun h=>h rfl) (by omega) (.int .i64 st2) p0 p1 p2 r0 r1 r2 (.int .i64 num2) (.slice ua ws2.length uc)
 have hZB:=FR1.blk hZA (.inl (by omega))
 have hNB:=FR1.rep' hNA (fun b hb=>.inl (hKKd b hb))
 have hXB:=FR1.rep' hXA (fun b hb=>.inl (hKKd b hb))
 have hUB:=(hUA.ints_any (ok':=fun _=>False) (fun _ _ h=>h) (fun _ h=>h.elim)).frm FR1 (fun _ h=>h.elim) (fun k hk e=>hUA.noType hDA (by decide) (e▸hk))
 have hPB:=hPA.frm FR1 hVVd (fun k hk e=>hPA.noType hDA (by decide) (e▸hk))
 have hOB:=FR1.row' hOA (fun b hb=>.inl (by omega))
 have hBB:=hBA.trans FR1.below
 have hsB:=FR1.size
 obtain ⟨c1,c2⟩:=hDA.cells
 have hdlA:=hDA.lt
 clear FR1 hZA hNA hXA hUA hPA hOA hBA
 go_wp2
 clear c1 c2 hdlA hDA
 generalize (((((((((wA.setCell ⟨D,0,none⟩ (.int .i64 st2)).setCell ⟨D,1,none⟩ p0).setCell ⟨D,2,none⟩ p1).setCell ⟨D,3,none⟩ p2).setCell ⟨D,4,none⟩ r0).setCell ⟨D,5,none⟩ r1).setCell ⟨D,6,none⟩ r2).setCell ⟨D,7,none⟩ (.int .i64 num2)).setCell ⟨D,8,none⟩ (.slice ua ws2.length uc))=wB at *
 obtain ⟨j0,gi,gz0,gz1,gz2⟩:=info_parts A17
 have hS0:SA D #[.int .i64 st2,p0,p1,p2,r0,r1,r2,.int .i64 num2,.slice ua ws2.length uc] wB.drew:=hDB.cells.1
 refine B9 (SA D #[.int .i64 st2,p0,p1,p2,r0,r1,r2,.int .i64 num2,.slice ua ws2.length uc]) 99 (fun a0 a' w'=>∃ v7 v96 v97 v98 v99,a'=C8 a0 [(7,v7),(96,v96),(97,v97),(98,v98),(99,v99),(8,.int .i64 0)]∧∃ oa9 oc9,v7=.slice oa9 (sl++tl).length oc9∧A8 toS (fun b=>w.heap.size≤b) w' oa9 oc9 (sl++tl)∧A6 w' (w.heap.size+1+1) 43 #[.int .i64 st2,p0,p1,p2,r0,r1,r2,.int .i64 num2,.slice ua ws2.length uc]∧B7 w' (fun b=>(w.heap.size+3≤b∧b<PB)∨(M≤b∧b<D)) p0 p1 p2 now2∧B7 w' (fun b=>(w.heap.size+3≤b∧b<PB)∨(M≤b∧b<D)) r0 r1 r2 next2∧A8 C2 (fun b=>w.heap.size≤b) w' ua uc ws2∧Below w.heap.size w w') (by kernel_rfl) ?_ ?_
 ·intro Q' hR hQp
  have hb0:Below wB.heap.size wB wB.drew:=N4 _
  have hS:SA D #[.int .i64 st2,p0,p1,p2,r0,r1,r2,.int .i64 num2,.slice ua ws2.length uc] wB.drew:=hS0
  generalize wB.drew=wa at *
  have hDa:=hDB.under hb0
  have hZa:=hZB.under hb0
  have hNa:B7 wa (fun b=>(w.heap.size+3≤b∧b<PB)∨(M≤b∧b<D)) p0 p1 p2 now2:=C3.below hNB hb0
  have hXa:B7 wa (fun b=>(w.heap.size+3≤b∧b<PB)∨(M≤b∧b<D)) r0 r1 r2 next2:=C3.below hXB hb0
  have hUa:=hUB.below hb0
  have hPa:=hPB.below hb0
  have hOa:=hOB.below hb0
  have hBa:=hBB.trans (hb0.mono hBB.size)
  have hsa:=hb0.size
  have hdla:=hDa.lt
  have hzla:=hZa.lt
  refine A9 hQp hS [0,1,2] ?_
  iterate 3 (refine B2 _ rfl (by kernel_rfl) (A0 (by kernel_rfl) (by intro w0 hw0;have hw1:=hw0;simp only [SA] at hw1;first|(go_simp;done)|(go_simp;rfl))) ?_;simp only [Act.put,St.tA,St.tD,St.tE,St.tS,St.tC,St.tZ])
  refine B3 ?_
  clear hS
  have hown:C7 toS 135 (fun b=>(ob2+1≤b∧b<Q8)∨(w9.heap.size≤b∧b<wa.heap.size)) w.heap.size wa oa sl.length oc sl:=hPa.weaken (fun b h=>.inl h) (fun k hk h=>by
   rcases h with h|h
   ·exact hPa.not k hk h
   ·have:=hoaD k hk;omega) (fun b h=>by
   rcases h with h|h
   ·exact hPa.okLt b h
   ·exact h.2)
  have hsrc:D7 toS (fun b=>(ob2+1≤b∧b<Q8)∨(w9.heap.size≤b∧b<wa.heap.size)) wa oa2 tl:=(hOa.mono (ok':=fun b=>(ob2+1≤b∧b<Q8)∨(w9.heap.size≤b∧b<wa.heap.size)) (fun b hb h=>⟨.inr ⟨h,hb⟩,rfl⟩)).src
  refine A7 (i:=3) rfl (by kernel_rfl) (by kernel_rfl) fun K3 hK3=>?_
  refine Q3 (sh:=toS) (n:=sl.length) (m:=tl.length) (.tmp 97) (.tmp 98) 103 (by rfl) 135 j0 (.agg #[.int .i64 0,.int .i64 0,.int .i64 0,.int .i64 0,.slice none 0 0,.slice none 0 0]) 80 Tryz.underlying103 gi gz0 gz1 gz2 rfl (by decide) (ok:=fun b=>(ob2+1≤b∧b<Q8)∨(w9.heap.size≤b∧b<wa.heap.size)) (base:=w.heap.size) (by rfl) hown (by rfl) rfl hsrc (by simp only [maxLen];omega) (by omega) hBa.size ?_
  intro oa9 oc9 wb hob hgb hlieb
  have hne:∀ {b:Nat} {tt:TypeId} {cs:Array Value},A6 wa b tt cs→135≠tt→some b≠blk oa:=fun h hn e=>hPa.noType h hn e.symm
  have hDb:=hDa.grown hgb (hne hDa (by decide))
  have hZb:=hZa.grown hgb (hne hZa (by decide))
  have hFb:Frm (fun b=>blk oa≠some b) w.heap.size wa wb:=Frm.grown hgb (fun k hk=>⟨fun e=>e hk,(hPa.lt k hk).1⟩) hBa.size
  have hNb:=hFb.rep' hNa (fun b hb=>.inl (fun e=>hoaK b e hb))
  have hXb:=hFb.rep' hXa (fun b hb=>.inl (fun e=>hoaK b e hb))
  have hUb:=hUa.frm hFb (fun _ h=>h.elim) (fun k hk e=>hUa.apart hPa (by decide) k hk e)
  have hBb:=hBa.trans hFb.below
  have hzlb:=hZb.lt
  simp only [Act.put,St.tA,St.tD,St.tE,St.tS,St.tC,St.tZ]
  have hS:_:=hDb.cells.1
  refine hK3 _ _ (fun _=>hS) ?_
  clear hK3
  obtain ⟨z1,z2⟩:=hZb.cells
  clear hS
  refine A7 (i:=4) rfl (by kernel_rfl) (by kernel_rfl) fun K4 hK4=>?_
  go_simp
  go_wp2_with fail
  obtain ⟨hZc,FR2⟩:=Y7 hZb (fun b=>b≠w.heap.size+1+1) w.heap.size (fun h=>h rfl) (by omega) (.int .i64 st2) p0 p1 p2 r0 r1 r2 (.int .i64 num2) (.slice ua ws2.length uc)
  have hobr:A8 toS (fun b=>w.heap.size≤b∧b≠w.heap.size+1+1) wb oa9 oc9 (sl++tl):=hob.row (fun b h=>by
   rcases h with h|h
   ·exact ⟨(hVVb b h).1,(hVVb b h).2⟩
   ·exact ⟨by omega,by omega⟩) (fun k hk=>⟨(hob.lt k hk).1,fun e=>hob.noType hZb (by decide) (e▸hk)⟩)
  have hUr:A8 C2 (fun b=>w.heap.size≤b∧b≠w.heap.size+1+1) wb ua uc ws2:=hUb.row (fun _ h=>h.elim) (fun k hk=>⟨(hUb.lt k hk).1,fun e=>hUb.noType hZb (by decide) (e▸hk)⟩)
  have hS:_:=(FR2.blk hDb (.inl (by omega))).cells.1
  refine hK4 _ _ (fun _=>hS) ?_
  clear hK4
  clear z1 z2
  refine A9 hQp hS [5,6] ?_
  iterate 2 (refine B2 _ rfl (by kernel_rfl) (A0 (by kernel_rfl) (by intro w0 hw0;have hw1:=hw0;simp only [SA] at hw1;first|(go_simp;done)|(go_simp;rfl))) ?_;simp only [Act.put,St.tA,St.tD,St.tE,St.tS,St.tC,St.tZ])
  refine B3 ?_
  refine B5 (by kernel_rfl) ?_ _
  refine hR _ _ ?_
  iterate 5 apply Exists.intro
  refine ⟨?_,⟨oa9,oc9,by rw [List.length_append],(FR2.row' hobr (fun b hb=>.inl hb.2)).anyOk (fun b _ hb=>hb.1),hZc,FR2.rep' hNb (fun b hb=>.inl (hKKr b hb)),FR2.rep' hXb (fun b hb=>.inl (hKKr b hb)),(FR2.row' hUr (fun b hb=>.inl hb.2)).anyOk (fun b _ hb=>hb.1),hBb.trans FR2.below⟩⟩
  simp only [C8,Act.put,St.tS,St.tC,St.tZ]
  rfl
 rintro a' w8 ⟨v7,v96,v97,v98,v99,rfl,hb8⟩
 simp only [C8,Act.put,St.tS,St.tC,St.tZ]
 obtain ⟨oa9,oc9,rfl,hr9,hZ9,hN9,hX9,hU9,hB9⟩:=hb8
 obtain ⟨g1,g2⟩:=hZ9.cells
 have HOUT:=Lib.hid (And.intro (P4.ok (N:=w.heap.size) HEF.out hks hkn hN9 hX9 hU9 hr9 (fun b hb=>hKKn b hb) (fun b hb=>hKKn b hb) (fun b hb=>hb) (fun b hb=>hb)) hB9)
 clear hr9 hN9 hX9 hU9 hB9 hDB hZB hNB hXB hUB hPB hOB hBB
 go_wp2_with ((with_reducible refine bodyPost_ret (v:=.tuple #[.agg #[.int .i64 st2,p0,p1,p2,r0,r1,r2,.int .i64 num2,.slice ua ws2.length uc],.slice oa9 (sl++tl).length oc9,.int .i64 0]) ?ra4 ?rb4 ?rc4);go_must (case ra4=>simp [results,Tryz.results46,go_sem,g1]);go_must (case rb4=>rfl);go_must (case rc4=>exact HOUT.out))
end Go.Proofs.YtampcbncgofkoaaGreatDoor
