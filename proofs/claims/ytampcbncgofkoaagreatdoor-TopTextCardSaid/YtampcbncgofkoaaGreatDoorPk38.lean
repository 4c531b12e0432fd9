/- Texts of this proof, one behind the other. -/
import Derived.Test.YtampcbncgofkoaaGreatDoorPk37
import Derived.Test.YtampcbncgofkoaaGreatDoorPk36
set_option linter.unusedSimpArgs false
set_option linter.unusedVariables false
set_option maxRecDepth 100000
set_option maxHeartbeats 16000000
namespace Go.Proofs.YtampcbncgofkoaaGreatDoor
open Go.RowKit Go.St
theorem B2j (H M:Nat→Prop) (lka:Option Addr) (lkc R N:Nat) (t:C5) (k:Nat) (n:Net) (V:RV) (d:Do) (dg df:Nat) (fa:Option Addr) (fc:Nat) (w:World) (h:C9 (fun b=>¬(M b∨H b)) M lka lkc R N t w n V) (hf:F4 t k n) (hk:k≤1000) (hN:N≤8) (hH:∀ b,H b→b<w.heap.size)
  (d0:w.cell? ⟨dg,df,none⟩=some (.int .i64 d.kind)) (d1:w.cell? ⟨dg,df+1,none⟩=some (.int .i64 d.n)) (d2:w.cell? ⟨dg,df+2,none⟩=some (.slice fa d.flows.length fc)) (hI1:I64 d.kind) (hI2:I64 d.n) (hfl:A8 H6 (fun b=>¬(M b∨H b)) w fa fc d.flows):
  Calls Tryz.prog 17 #[.pointer (some ⟨R,0,none⟩),.pointer (some ⟨dg,df,none⟩)] w fun e w'=>e=.returned (.int .i64 (I8 t n d).2)∧F6 H M lka lkc R N t w (I8 t n d).1 w':=by
 have hflx:=hfl.len_le
 go_enter Tryz.func17,Tryz.ntmps17
 by_cases h1:d.kind=1
 case pos=>
  have hE:I8 t n d=T8 t n d.flows:=by unfold I8;rw [if_pos h1]
  have HE:=Lib.hid hE
  have e1:(d.kind==1)=true:=by rw [beq_iff_eq];exact h1
  clear hE h1
  go_wp2_with fail
  refine (B0v H M lka lkc R N t k n V d.flows fa fc w h hfl hf hk hN hH).mono ?_
  rintro e w1 ⟨rfl,hO⟩
  clear h d0 d1 d2 hfl
  go_wp2
  go_ret;rw [HE.out];exact ⟨rfl,hO⟩
 have e1:(d.kind==1)=false:=by rw [beq_eq_false_iff_ne];exact h1
 by_cases h2:d.kind=2
 case pos=>
  have hE:I8 t n d=L4 t n d.n:=by unfold I8;rw [if_neg h1,if_pos h2]
  have HE:=Lib.hid hE
  have e2:(d.kind==2)=true:=by rw [beq_iff_eq];exact h2
  clear hE h1 h2
  go_wp2_with fail
  refine (A7p H M lka lkc R N t k n V d.n hI2 w h hf hk hN hH).mono ?_
  rintro e w1 ⟨rfl,hO⟩
  clear h d0 d1 d2 hfl
  go_wp2
  go_ret;rw [HE.out];exact ⟨rfl,hO⟩
 have e2:(d.kind==2)=false:=by rw [beq_eq_false_iff_ne];exact h2
 by_cases h3:d.kind=3
 case pos=>
  have hE:I8 t n d=M7 t n d.n:=by unfold I8;rw [if_neg h1,if_neg h2,if_pos h3]
  have HE:=Lib.hid hE
  have e3:(d.kind==3)=true:=by rw [beq_iff_eq];exact h3
  clear hE h1 h2 h3
  go_wp2_with fail
  refine (A9v H M lka lkc R N t k n V d.n hI2 w h hf hk hN hH).mono ?_
  rintro e w1 ⟨rfl,hO⟩
  clear h d0 d1 d2 hfl
  go_wp2
  go_ret;rw [HE.out];exact ⟨rfl,hO⟩
 have e3:(d.kind==3)=false:=by rw [beq_eq_false_iff_ne];exact h3
 by_cases h4:d.kind=4
 case pos=>
  have hE:I8 t n d=J4 n d.n:=by unfold I8;rw [if_neg h1,if_neg h2,if_neg h3,if_pos h4]
  have HE:=Lib.hid hE
  have e4:(d.kind==4)=true:=by rw [beq_iff_eq];exact h4
  clear hE h1 h2 h3 h4
  go_wp2_with fail
  refine (A8r H M lka lkc R N t k n V d.n hI2 w h hf hk hN hH).mono ?_
  rintro e w1 ⟨rfl,hO⟩
  clear h d0 d1 d2 hfl
  go_wp2
  go_ret;rw [HE.out];exact ⟨rfl,hO⟩
 have e4:(d.kind==4)=false:=by rw [beq_eq_false_iff_ne];exact h4
 by_cases h5:d.kind=5
 case pos=>
  have hE:I8 t n d=M6 n d.n:=by unfold I8;rw [if_neg h1,if_neg h2,if_neg h3,if_neg h4,if_pos h5]
  have HE:=Lib.hid hE
  have e5:(d.kind==5)=true:=by rw [beq_iff_eq];exact h5
  clear hE h1 h2 h3 h4 h5
  go_wp2_with fail
  refine (A9s H M lka lkc R N t k n V d.n hI2 w h hf hk hN hH).mono ?_
  rintro e w1 ⟨rfl,hO⟩
  clear h d0 d1 d2 hfl
  go_wp2
  go_ret;rw [HE.out];exact ⟨rfl,hO⟩
 have e5:(d.kind==5)=false:=by rw [beq_eq_false_iff_ne];exact h5
 by_cases h6:d.kind=6
 case neg=>
  have hE:I8 t n d=(n,1):=by unfold I8;rw [if_neg h1,if_neg h2,if_neg h3,if_neg h4,if_neg h5,if_neg h6]
  have HE:=Lib.hid hE
  have e6:(d.kind==6)=false:=by rw [beq_eq_false_iff_ne];exact h6
  have hO:=F6.same (w:=w) h (Below.refl _ _)
  clear hE h1 h2 h3 h4 h5 h6 h hfl
  go_wp2
  go_ret;rw [HE.out];exact ⟨rfl,hO⟩
 have hE2:I8 t n d=if (G5 n.ctl t).2.2≠0 then (n,(G5 n.ctl t).2.2) else ({n with ctl:=(G5 n.ctl t).1,orders:=F9 n.orders (G5 n.ctl t).2.1},0):=by
  unfold I8;rw [if_neg h1,if_neg h2,if_neg h3,if_neg h4,if_neg h5,if_pos h6];rfl
 have e6:(d.kind==6)=true:=by rw [beq_iff_eq];exact h6
 have hlo:=h.here
 have hsm:=hf.ctl.small hk
 have hC:=fun (w':World) (hb:Below w.heap.size w w')=>B1m n.ctl t _ _ _ _ w' ((hlo.below hb).ctl hN).1 ((hlo.below hb).ctl hN).2 hsm
 have hfit:=fun (e:(G5 n.ctl t).2.2=0)=>(⟨(A57 hf.ctl (by omega) e).2.1,(A57 hf.ctl (by omega) e).2.2⟩:(∀ x∈(G5 n.ctl t).2.1,U9 t x)∧(G5 n.ctl t).2.1.length≤16)
 have HE:=Lib.hid hE2
 have hob:=fun (o:List G3) (ho:o∈n.orders)=>(hf.ord o ho).1
 have HOB:=Lib.hid hob
 have hSof:∀ w',Below w.heap.size w w'→SRc R #[.int .i64 n.ctl.stage,V.n0,V.n1,V.n2,V.x0,V.x1,V.x2,.int .i64 n.ctl.num,.slice V.qa n.ctl.waits.length V.qc,.slice (some ⟨V.sb,0,none⟩) N N,.slice (some ⟨V.ob,0,none⟩) N N,.slice (some ⟨V.bb,0,none⟩) N N,.slice V.pa n.packets.length V.pc,.slice V.la n.plans.length V.lc,.int .i64 ((N:Nat):Int),.slice lka t.links.length lkc] w':=fun w' hb=>(hlo.below hb).box.cells.1
 have hMl:∀ b,M b→b<w.heap.size:=fun b hb=>(h.rng b hb).2
 have hR8:=h.size
 have hRl:=h.box.lt
 clear hE2 hob
 generalize G5 n.ctl t=RR at *
 obtain ⟨⟨st,no,ne,nu,ws⟩,L,er⟩:=RR
 dsimp only at *
 have HC:=Lib.hid hC
 have HFIT:=Lib.hid hfit
 have hS0:SRc R #[.int .i64 n.ctl.stage,V.n0,V.n1,V.n2,V.x0,V.x1,V.x2,.int .i64 n.ctl.num,.slice V.qa n.ctl.waits.length V.qc,.slice (some ⟨V.sb,0,none⟩) N N,.slice (some ⟨V.ob,0,none⟩) N N,.slice (some ⟨V.bb,0,none⟩) N N,.slice V.pa n.packets.length V.pc,.slice V.la n.plans.length V.lc,.int .i64 ((N:Nat):Int),.slice lka t.links.length lkc] w.drew:=hSof _ (by (repeat' (first|with_reducible (first|exact Below.refl _ _|assumption|refine Below.drew ?_|refine A3 ?_ _|refine Below.alloc ?_ ?_ _|refine Below.setCell ?_ ?_ _)|omega|(simp;done)|(simp;omega))))
 clear hC hfit hfl h1 h2 h3 h4 h5 h6
 go_wp2
 clear e1 e2 e3 e4 e5 e6 d0 d1 d2
 refine B9 (SRc R #[.int .i64 n.ctl.stage,V.n0,V.n1,V.n2,V.x0,V.x1,V.x2,.int .i64 n.ctl.num,.slice V.qa n.ctl.waits.length V.qc,.slice (some ⟨V.sb,0,none⟩) N N,.slice (some ⟨V.ob,0,none⟩) N N,.slice (some ⟨V.bb,0,none⟩) N N,.slice V.pa n.packets.length V.pc,.slice V.la n.plans.length V.lc,.int .i64 ((N:Nat):Int),.slice lka t.links.length lkc]) 99 (fun a0 a' w'=>∃ v5 v6 v7 v54 v55 v56 v57 v58 v59 v60 v61 v62 v63 v64 v65 v66 v67,a'=C8 a0 [(5,v5),(6,v6),(7,v7),(54,v54),(55,v55),(56,v56),(57,v57),(58,v58),(59,v59),(60,v60),(61,v61),(62,v62),(63,v63),(64,v64),(65,v65),(66,v66),(67,v67)]∧∃ D m0 m1 m2 y0 y1 y2 va vc oa oc,v5=.pointer (some ⟨D,0,none⟩)∧v6=.slice oa L.length oc∧v7=.int .i64 er∧w.heap.size≤D∧A6 w' D 43 #[.int .i64 st,m0,m1,m2,y0,y1,y2,.int .i64 nu,.slice va ws.length vc]∧I64 st∧I64 nu∧B7 w' (fun b=>w.heap.size≤b∧b≠D) m0 m1 m2 no∧B7 w' (fun b=>w.heap.size≤b∧b≠D) y0 y1 y2 ne∧A8 C2 (fun b=>w.heap.size≤b∧b≠D) w' va vc ws∧A8 toS (fun b=>w.heap.size≤b∧b≠D) w' oa oc L∧Below w.heap.size w w') (by kernel_rfl) ?_ ?_
 ·intro Q' hR hQp
  have hb0:Below w.heap.size w w.drew:=N4 _
  have hS:SRc R #[.int .i64 n.ctl.stage,V.n0,V.n1,V.n2,V.x0,V.x1,V.x2,.int .i64 n.ctl.num,.slice V.qa n.ctl.waits.length V.qc,.slice (some ⟨V.sb,0,none⟩) N N,.slice (some ⟨V.ob,0,none⟩) N N,.slice (some ⟨V.bb,0,none⟩) N N,.slice V.pa n.packets.length V.pc,.slice V.la n.plans.length V.lc,.int .i64 ((N:Nat):Int),.slice lka t.links.length lkc] w.drew:=hS0
  generalize w.drew=wa at *
  refine A9 hQp hS [0,5,1,6,2,7,3,8,4] ?_
  iterate 9 (refine B2 _ rfl (by kernel_rfl) (A0 (by kernel_rfl) (by intro w0 hw0;have hw1:=hw0;simp only [SRc] at hw1;first|(go_simp;done)|(go_simp;rfl))) ?_;simp only [Act.put,St.tA,St.tD,St.tE,St.tS,St.tC,St.tZ])
  refine B3 ?_
  refine H5 (i:=9) (j:=14) rfl rfl (by kernel_rfl) (by kernel_rfl) (by kernel_rfl) (fun K9 hK9=>?_) (fun K14 hK14=>?_)
  ·skip
   go_simp
   go_wp2_with fail
   refine (HC.out wa hb0).mono ?_
   rintro e wk ⟨⟨ks,oa,oc,rfl,hk0,hr0⟩,hbk⟩
   obtain ⟨m0,m1,m2,y0,y1,y2,va,vc,rfl,i1,i2,p1,p2,p3⟩:=P3.open_ hk0
   dsimp only at hr0 i1 i2 p1 p2 p3
   obtain ⟨lp0,lp1,lp2⟩:=B7.st (P:=Tryz.prog) p1
   obtain ⟨lq0,lq1,lq2⟩:=B7.st (P:=Tryz.prog) p2
   obtain ⟨lm0,lm1,lm2⟩:=B7.one p1
   obtain ⟨ly0,ly1,ly2⟩:=B7.one p2
   go_wp2_with fail
   have hb:=hb0.trans (hbk.mono hb0.size)
   have hS:SRc R #[.int .i64 n.ctl.stage,V.n0,V.n1,V.n2,V.x0,V.x1,V.x2,.int .i64 n.ctl.num,.slice V.qa n.ctl.waits.length V.qc,.slice (some ⟨V.sb,0,none⟩) N N,.slice (some ⟨V.ob,0,none⟩) N N,.slice (some ⟨V.bb,0,none⟩) N N,.slice V.pa n.packets.length V.pc,.slice V.la n.plans.length V.lc,.int .i64 ((N:Nat):Int),.slice lka t.links.length lkc] wk:=hSof _ hb
   refine hK9 _ _ (fun _=>hS) ?_
   clear hK9
   refine A9 hQp hS [10,11,12,13] ?_
   iterate 4 (refine B2 _ rfl (by kernel_rfl) (A0 (by kernel_rfl) (by intro w0 hw0;have hw1:=hw0;simp only [SRc] at hw1;first|(go_simp;done)|(go_simp;rfl))) ?_;simp only [Act.put,St.tA,St.tD,St.tE,St.tS,St.tC,St.tZ])
   refine B3 ?_
   clear hS
   refine A7 (i:=14) rfl (by kernel_rfl) (by kernel_rfl) fun K14 hK14=>?_
   go_simp
   go_wp2_with fail
   have hD:=I6 wk 43 #[.int .i64 0,.int .i64 0,.slice none 0 0,.slice none 0 0,.int .i64 0,.slice none 0 0,.slice none 0 0,.int .i64 0,.slice none 0 0]
   have hbA:=G8 wk (.cells #[.int .i64 0,.int .i64 0,.slice none 0 0,.slice none 0 0,.int .i64 0,.slice none 0 0,.slice none 0 0,.int .i64 0,.slice none 0 0] 43)
   have hsz0:=hb0.size
   have hDs:w.heap.size≤wk.heap.size:=hb.size
   have hb:=hb.trans (hbA.mono hb.size)
   have z1:=C3.below (C3.anyOk p1 (ok':=fun b=>w.heap.size≤b∧b≠wk.heap.size) (fun b hl hh=>by omega)) hbA
   have z2:=C3.below (C3.anyOk p2 (ok':=fun b=>w.heap.size≤b∧b≠wk.heap.size) (fun b hl hh=>by omega)) hbA
   have z3:=(p3.anyOk (ok':=fun b=>w.heap.size≤b∧b≠wk.heap.size) (fun b hl hh=>by omega)).below hbA
   have z4:=(hr0.anyOk (ok':=fun b=>w.heap.size≤b∧b≠wk.heap.size) (fun b hl hh=>by omega)).below hbA
   clear hbA
   generalize wk.alloc _=wA at *
   have hS:SRc R #[.int .i64 n.ctl.stage,V.n0,V.n1,V.n2,V.x0,V.x1,V.x2,.int .i64 n.ctl.num,.slice V.qa n.ctl.waits.length V.qc,.slice (some ⟨V.sb,0,none⟩) N N,.slice (some ⟨V.ob,0,none⟩) N N,.slice (some ⟨V.bb,0,none⟩) N N,.slice V.pa n.packets.length V.pc,.slice V.la n.plans.length V.lc,.int .i64 ((N:Nat):Int),.slice lka t.links.length lkc] wA:=hSof _ hb
   refine hK14 _ _ (fun _=>hS) ?_
   clear hK14 hk0 hr0 p1 p2 p3 hbk
   generalize wk.heap.size=D at *
   clear hS
   obtain ⟨d1,d2⟩:=hD.cells
   have hDl:=hD.lt
   clear hS
   refine A7 (i:=15) rfl (by kernel_rfl) (by kernel_rfl) fun K15 hK15=>?_
   go_simp
   go_wp2_with fail
   obtain ⟨hDE,FRE⟩:=Y7 hD (fun b=>b≠D) w.heap.size (fun h=>h rfl) hDs (.int .i64 st) m0 m1 m2 y0 y1 y2 (.int .i64 nu) (.slice va ws.length vc)
   have f1:=FRE.rep' z1 (fun b hb=>.inl hb.2)
   have f2:=FRE.rep' z2 (fun b hb=>.inl hb.2)
   have f3:=FRE.row' z3 (fun b hb=>.inl hb.2)
   have f4:=FRE.row' z4 (fun b hb=>.inl hb.2)
   have hbE:=(Frm.of (W:=fun b=>b≠D) hb (Nat.le_refl _)).trans FRE
   have hS:SRc R #[.int .i64 n.ctl.stage,V.n0,V.n1,V.n2,V.x0,V.x1,V.x2,.int .i64 n.ctl.num,.slice V.qa n.ctl.waits.length V.qc,.slice (some ⟨V.sb,0,none⟩) N N,.slice (some ⟨V.ob,0,none⟩) N N,.slice (some ⟨V.bb,0,none⟩) N N,.slice V.pa n.packets.length V.pc,.slice V.la n.plans.length V.lc,.int .i64 ((N:Nat):Int),.slice lka t.links.length lkc] _:=hSof _ hbE.below
   refine hK15 _ _ (fun _=>hS) ?_
   clear hK15 d1 d2
   refine A9 hQp hS [16,17] ?_
   iterate 2 (refine B2 _ rfl (by kernel_rfl) (A0 (by kernel_rfl) (by intro w0 hw0;have hw1:=hw0;simp only [SRc] at hw1;first|(go_simp;done)|(go_simp;rfl))) ?_;simp only [Act.put,St.tA,St.tD,St.tE,St.tS,St.tC,St.tZ])
   refine B3 ?_
   refine B5 (by kernel_rfl) ?_ _
   refine hR _ _ ?_
   iterate 17 apply Exists.intro
   refine ⟨?_,⟨D,m0,m1,m2,y0,y1,y2,va,vc,oa,oc,rfl,rfl,rfl,hDs,hDE,i1,i2,f1,f2,f3,f4,hbE.below⟩⟩
   simp only [C8,Act.put,St.tS,St.tC,St.tZ]
   rfl
  ·skip
   go_simp
   go_wp2_with fail
   have hD:=I6 wa 43 #[.int .i64 0,.int .i64 0,.slice none 0 0,.slice none 0 0,.int .i64 0,.slice none 0 0,.slice none 0 0,.int .i64 0,.slice none 0 0]
   have hbA:=G8 wa (.cells #[.int .i64 0,.int .i64 0,.slice none 0 0,.slice none 0 0,.int .i64 0,.slice none 0 0,.slice none 0 0,.int .i64 0,.slice none 0 0] 43)
   have hDs:w.heap.size≤wa.heap.size:=hb0.size
   have hb:=hb0.trans (hbA.mono hb0.size)
   have hDl0:=hD.lt
   clear hbA
   generalize wa.alloc _=wB at *
   have hS:SRc R #[.int .i64 n.ctl.stage,V.n0,V.n1,V.n2,V.x0,V.x1,V.x2,.int .i64 n.ctl.num,.slice V.qa n.ctl.waits.length V.qc,.slice (some ⟨V.sb,0,none⟩) N N,.slice (some ⟨V.ob,0,none⟩) N N,.slice (some ⟨V.bb,0,none⟩) N N,.slice V.pa n.packets.length V.pc,.slice V.la n.plans.length V.lc,.int .i64 ((N:Nat):Int),.slice lka t.links.length lkc] wB:=hSof _ hb
   refine hK14 _ _ (fun _=>hS) ?_
   clear hK14
   generalize wa.heap.size=D at *
   clear hS
   refine A7 (i:=9) rfl (by kernel_rfl) (by kernel_rfl) fun K9 hK9=>?_
   go_simp
   go_wp2_with fail
   refine (HC.out wB hb).mono ?_
   rintro e wA ⟨⟨ks,oa,oc,rfl,hk0,hr0⟩,hbk⟩
   obtain ⟨m0,m1,m2,y0,y1,y2,va,vc,rfl,i1,i2,p1,p2,p3⟩:=P3.open_ hk0
   dsimp only at hr0 i1 i2 p1 p2 p3
   obtain ⟨lp0,lp1,lp2⟩:=B7.st (P:=Tryz.prog) p1
   obtain ⟨lq0,lq1,lq2⟩:=B7.st (P:=Tryz.prog) p2
   obtain ⟨lm0,lm1,lm2⟩:=B7.one p1
   obtain ⟨ly0,ly1,ly2⟩:=B7.one p2
   go_wp2_with fail
   have hsz:=hb.size
   have hD:=hD.under hbk
   have hb:=hb.trans (hbk.mono hb.size)
   have z1:=C3.anyOk p1 (ok':=fun b=>w.heap.size≤b∧b≠D) (fun b hl hh=>by omega)
   have z2:=C3.anyOk p2 (ok':=fun b=>w.heap.size≤b∧b≠D) (fun b hl hh=>by omega)
   have z3:=p3.anyOk (ok':=fun b=>w.heap.size≤b∧b≠D) (fun b hl hh=>by omega)
   have z4:=hr0.anyOk (ok':=fun b=>w.heap.size≤b∧b≠D) (fun b hl hh=>by omega)
   have hS:SRc R #[.int .i64 n.ctl.stage,V.n0,V.n1,V.n2,V.x0,V.x1,V.x2,.int .i64 n.ctl.num,.slice V.qa n.ctl.waits.length V.qc,.slice (some ⟨V.sb,0,none⟩) N N,.slice (some ⟨V.ob,0,none⟩) N N,.slice (some ⟨V.bb,0,none⟩) N N,.slice V.pa n.packets.length V.pc,.slice V.la n.plans.length V.lc,.int .i64 ((N:Nat):Int),.slice lka t.links.length lkc] wA:=hSof _ hb
   refine hK9 _ _ (fun _=>hS) ?_
   clear hK9 hk0 hr0 p1 p2 p3 hbk
   refine A9 hQp hS [10,11,12,13] ?_
   iterate 4 (refine B2 _ rfl (by kernel_rfl) (A0 (by kernel_rfl) (by intro w0 hw0;have hw1:=hw0;simp only [SRc] at hw1;first|(go_simp;done)|(go_simp;rfl))) ?_;simp only [Act.put,St.tA,St.tD,St.tE,St.tS,St.tC,St.tZ])
   refine B3 ?_
   clear hS
   obtain ⟨d1,d2⟩:=hD.cells
   have hDl:=hD.lt
   clear hS
   refine A7 (i:=15) rfl (by kernel_rfl) (by kernel_rfl) fun K15 hK15=>?_
   go_simp
   go_wp2_with fail
   obtain ⟨hDE,FRE⟩:=Y7 hD (fun b=>b≠D) w.heap.size (fun h=>h rfl) hDs (.int .i64 st) m0 m1 m2 y0 y1 y2 (.int .i64 nu) (.slice va ws.length vc)
   have f1:=FRE.rep' z1 (fun b hb=>.inl hb.2)
   have f2:=FRE.rep' z2 (fun b hb=>.inl hb.2)
   have f3:=FRE.row' z3 (fun b hb=>.inl hb.2)
   have f4:=FRE.row' z4 (fun b hb=>.inl hb.2)
   have hbE:=(Frm.of (W:=fun b=>b≠D) hb (Nat.le_refl _)).trans FRE
   have hS:SRc R #[.int .i64 n.ctl.stage,V.n0,V.n1,V.n2,V.x0,V.x1,V.x2,.int .i64 n.ctl.num,.slice V.qa n.ctl.waits.length V.qc,.slice (some ⟨V.sb,0,none⟩) N N,.slice (some ⟨V.ob,0,none⟩) N N,.slice (some ⟨V.bb,0,none⟩) N N,.slice V.pa n.packets.length V.pc,.slice V.la n.plans.length V.lc,.int .i64 ((N:Nat):Int),.slice lka t.links.length lkc] _:=hSof _ hbE.below
   refine hK15 _ _ (fun _=>hS) ?_
   clear hK15 d1 d2
   refine A9 hQp hS [16,17] ?_
   iterate 2 (refine B2 _ rfl (by kernel_rfl) (A0 (by kernel_rfl) (by intro w0 hw0;have hw1:=hw0;simp only [SRc] at hw1;first|(go_simp;done)|(go_simp;rfl))) ?_;simp only [Act.put,St.tA,St.tD,St.tE,St.tS,St.tC,St.tZ])
   refine B3 ?_
   refine B5 (by kernel_rfl) ?_ _
   refine hR _ _ ?_
   iterate 17 apply Exists.intro
   refine ⟨?_,⟨D,m0,m1,m2,y0,y1,y2,va,vc,oa,oc,rfl,rfl,rfl,hDs,hDE,i1,i2,f1,f2,f3,f4,hbE.below⟩⟩
   simp only [C8,Act.put,St.tS,St.tC,St.tZ]
   rfl
 rintro a' w8 ⟨v5,v6,v7,v54,v55,v56,v57,v58,v59,v60,v61,v62,v63,v64,v65,v66,v67,rfl,hb8⟩
 simp only [C8,Act.put,St.tS,St.tC,St.tZ]
 obtain ⟨D,m0,m1,m2,y0,y1,y2,va,vc,oa,oc,rfl,rfl,rfl,hDs,hD8,i1,i2,p1,p2,p3,p4,hb8⟩:=hb8
 have hA8:=hlo.below hb8
 have hF10:Frm (fun b=>¬M b∧b<w.heap.size) R w w8:=Frm.of hb8 hR8
 have hs8:=hb8.size
 clear hSof hS0 HC hlo hb8
 by_cases he:er=0
 case neg=>
  have hE:=HE.out
  rw [if_pos he] at hE
  have HE1:=Lib.hid hE
  have he':(er !=0)=true:=by rw [bne_iff_ne];exact he
  have hO:F6 H M lka lkc R N t w n w8:=⟨M,V,hA8.wideH (fun b _ hb hh=>by first|exact hb (.inr hh)|exact hb.1 (.inr hh)|exact hb.2.2 (.inr hh)|(have:=hH b hh;omega)),hF10.weak (fun b hb hm=>.inl ⟨hm,hb⟩) (Nat.le_refl _),fun b hb=>.inl hb⟩
  clear he hE HE HFIT hA8 p1 p2 p3 p4
  go_wp2
  go_ret;rw [HE1.out];exact ⟨rfl,hO⟩
 subst he
 have hE:=HE.out
 rw [if_neg (by decide)] at hE
 have HE1:=Lib.hid hE
 obtain ⟨ft2,ft3⟩:=HFIT.out rfl
 clear hE HE HFIT
 have hokM:∀ b,(w.heap.size≤b∧b≠D)→¬(M b∨H b):=fun b hb hm=>by have:=hm.elim (hMl b) (hH b);omega
 obtain ⟨lm0,lm1,lm2⟩:=B7.one p1
 obtain ⟨ly0,ly1,ly2⟩:=B7.one p2
 obtain ⟨lp0,lp1,lp2⟩:=B7.st (P:=Tryz.prog) p1
 obtain ⟨lq0,lq1,lq2⟩:=B7.st (P:=Tryz.prog) p2
 have hAw:=hA8.wideH (fun b _ hb hh=>by first|exact hb (.inr hh)|exact hb.1 (.inr hh)|exact hb.2.2 (.inr hh)|(have:=hH b hh;omega))
 have p1':B7 w8 (fun b=>¬(M b∨H b)) m0 m1 m2 no:=C3.anyOk p1 (fun b _ hb=>hokM b hb)
 have p2':B7 w8 (fun b=>¬(M b∨H b)) y0 y1 y2 ne:=C3.anyOk p2 (fun b _ hb=>hokM b hb)
 have p3':=p3.anyOk (ok':=fun b=>¬(M b∨H b)) (fun b _ hb=>hokM b hb)
 have p4':=p4.anyOk (ok':=fun b=>¬(M b∨H b)) (fun b _ hb=>hokM b hb)
 have hD9:=hD8
 clear hD8 p1 p2 p3 p4 hA8
 obtain ⟨hA10,hFc⟩:=hAw.setCtl (c:=⟨st,no,ne,nu,ws⟩) i1 i2 p1' p2' p3'
 have p4c:=hFc.row' p4' (fun b hb=>.inl (fun hm=>hb (.inl hm)))
 have z2:=hAw.box.cells.2
 obtain ⟨d1,d2⟩:=hD9.cells
 have hDl:=hD9.lt
 have hRl9:=hAw.box.lt
 have z1:∀ o,w8.cell? ⟨R,o,none⟩=(#[.int .i64 n.ctl.stage,V.n0,V.n1,V.n2,V.x0,V.x1,V.x2,.int .i64 n.ctl.num,.slice V.qa n.ctl.waits.length V.qc,.slice (some ⟨V.sb,0,none⟩) N N,.slice (some ⟨V.ob,0,none⟩) N N,.slice (some ⟨V.bb,0,none⟩) N N,.slice V.pa n.packets.length V.pc,.slice V.la n.plans.length V.lc,.int .i64 ((N:Nat):Int),.slice lka t.links.length lkc])[o]? :=hAw.box.cells.1
 go_upto_region 17 with fail
 generalize (((((((((w8.setCell ⟨R,0,none⟩ (.int .i64 st)).setCell ⟨R,1,none⟩ m0).setCell ⟨R,2,none⟩ m1).setCell ⟨R,3,none⟩ m2).setCell ⟨R,4,none⟩ y0).setCell ⟨R,5,none⟩ y1).setCell ⟨R,6,none⟩ y2).setCell ⟨R,7,none⟩ (.int .i64 nu)).setCell ⟨R,8,none⟩ (.slice va ws.length vc))=w10 at *
 clear z1 z2 d1 d2 p1' p2' p3' p4' hAw hD9
 have hF12:=hF10.trans (hFc.weak (V:=fun b=>¬M b∧b<w.heap.size) (fun b _ hb=>.inl (hb.1)) (Nat.le_refl _))
 have hs10:=hFc.size
 go_wp2_with fail
 refine (A9d _ _ _ _ _ _ _ _ _ L oa oc w10 hA10 p4c ft2 hN (fun o ho=>by have:=HOB.out o ho;omega)).mono ?_
 rintro e w11 ⟨rfl,M3,V3,hA13,hF13,hM3⟩
 have hO:=F6.of hF12 (fun b hb=>.inl hb) hA13 (fun b _ hb hh=>by first|exact hb (.inr hh)|exact hb.1 (.inr hh)|exact hb.2.2 (.inr hh)|(have:=hH b hh;omega)) hF13 hM3
 clear hA10 hFc p4c hA13 hF13 hM3 hF12
 go_wp2
 go_ret;rw [HE1.out];exact ⟨rfl,hO⟩
end Go.Proofs.YtampcbncgofkoaaGreatDoor
