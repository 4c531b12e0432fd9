/- Texts of this proof, one behind the other. -/
import Derived.Test.YtampcbncgofkoaaGreatDoorPk34
set_option linter.unusedSimpArgs false
set_option linter.unusedVariables false
set_option maxRecDepth 100000
set_option maxHeartbeats 16000000
namespace Go.St
open Go.RowKit
def SRc (R:Nat) (cs:Array Value) (w:World):Prop:=∀ o,w.cell? ⟨R,o,none⟩=cs[o]?
def SPl (R D:Nat) (v y0 y1 y2:Value) (w:World):Prop:=w.cell? ⟨R,13,none⟩=some v∧w.cell? ⟨D,4,none⟩=some y0∧w.cell? ⟨D,5,none⟩=some y1∧w.cell? ⟨D,6,none⟩=some y2
theorem A7w {w:World} {b:Nat} {e:TypeId} {p:F5} {y0 y1 y2:Value} {ok:Nat→Prop} (h:A6 w b e #[y0,y1,y2]) (hp:B7 w ok y0 y1 y2 p):D7 C3 ok w (some ⟨b,0,none⟩) [p]:=by
  refine .inr ⟨b,0,rfl,fun i y hy=>?_⟩
  match i,hy with
  |0,hy=>
    obtain rfl:p=y:=by simpa using hy
    refine ⟨_,hp,fun j c hc=>?_⟩
    simp only [Nat.zero_mul,Nat.zero_add]
    rw [h.cells.1 j]
    simpa using hc
  |i+1,hy=>simp at hy
end Go.St
namespace Go.Proofs.YtampcbncgofkoaaGreatDoor
open Go.RowKit Go.St
theorem A52:(Tryz.prog.info? 34).map (fun i=>(i.zero,i.size,i.bytes))=some (some (.agg #[.int .i64 0,.slice none 0 0,.slice none 0 0]),3,56):=by kernel_rfl
theorem B0v (H M:Nat→Prop) (lka:Option Addr) (lkc R N:Nat) (t:C5) (k:Nat) (n:Net) (V:RV) (l:List E0) (fa:Option Addr) (fc:Nat) (w:World) (h:C9 (fun b=>¬(M b∨H b)) M lka lkc R N t w n V) (hl:A8 H6 (fun b=>¬(M b∨H b)) w fa fc l) (hf:F4 t k n) (hk:k≤1000) (hN:N≤8) (hH:∀ b,H b→b<w.heap.size):
  Calls Tryz.prog 29 #[.pointer (some ⟨R,0,none⟩),.slice fa l.length fc] w fun e w'=>e=.returned (.int .i64 (T8 t n l).2)∧F6 H M lka lkc R N t w (T8 t n l).1 w':=by
 have hRl:=h.box.lt
 have hE2:T8 t n l=if (G9 n.ctl t l).2.2≠0 then (n,(G9 n.ctl t l).2.2) else ({n with ctl:=(G9 n.ctl t l).1,plans:=n.plans++[(G9 n.ctl t l).1.next],orders:=F9 n.orders (G9 n.ctl t l).2.1},0):=rfl
 have hlo:=h.here
 have hlx:=hl.len_le
 have hsm:=hf.ctl.small hk
 have hC:=fun (w':World) (hb:Below w.heap.size w w')=>B5p n.ctl t l _ _ _ _ _ fa fc w' ((hlo.below hb).ctl hN).1 ((hlo.below hb).ctl hN).2 (hl.below hb) hsm
 have hfit:=fun (e:(G9 n.ctl t l).2.2=0)=>(⟨(A6i hf.ctl (by omega) e).2.1,(A6i hf.ctl (by omega) e).2.2.1⟩:(∀ x∈(G9 n.ctl t l).2.1,U9 t x)∧(G9 n.ctl t l).2.1.length≤16)
 have HE:=Lib.hid hE2
 have hob:=fun (o:List G3) (ho:o∈n.orders)=>(hf.ord o ho).1
 have HOB:=Lib.hid hob
 have hpn:=hf.pn
 have hSof:∀ w',Below w.heap.size w w'→SRc R #[.int .i64 n.ctl.stage,V.n0,V.n1,V.n2,V.x0,V.x1,V.x2,.int .i64 n.ctl.num,.slice V.qa n.ctl.waits.length V.qc,.slice (some ⟨V.sb,0,none⟩) N N,.slice (some ⟨V.ob,0,none⟩) N N,.slice (some ⟨V.bb,0,none⟩) N N,.slice V.pa n.packets.length V.pc,.slice V.la n.plans.length V.lc,.int .i64 ((N:Nat):Int),.slice lka t.links.length lkc] w':=fun w' hb=>(hlo.below hb).box.cells.1
 have hMl:∀ b,M b→b<w.heap.size:=fun b hb=>(h.rng b hb).2
 have hR8:=h.size
 clear hE2 hob
 generalize G9 n.ctl t l=RR at *
 obtain ⟨⟨st,no,ne,nu,ws⟩,L,er⟩:=RR
 dsimp only at *
 have HC:=Lib.hid hC
 have HFIT:=Lib.hid hfit
 have hS0:SRc R #[.int .i64 n.ctl.stage,V.n0,V.n1,V.n2,V.x0,V.x1,V.x2,.int .i64 n.ctl.num,.slice V.qa n.ctl.waits.length V.qc,.slice (some ⟨V.sb,0,none⟩) N N,.slice (some ⟨V.ob,0,none⟩) N N,.slice (some ⟨V.bb,0,none⟩) N N,.slice V.pa n.packets.length V.pc,.slice V.la n.plans.length V.lc,.int .i64 ((N:Nat):Int),.slice lka t.links.length lkc] w.drew:=hSof _ (by (repeat' (first|with_reducible (first|exact Below.refl _ _|assumption|refine Below.drew ?_|refine A3 ?_ _|refine Below.alloc ?_ ?_ _|refine Below.setCell ?_ ?_ _)|omega|(simp;done)|(simp;omega))))
 clear hC hfit hl
 go_enter Tryz.func29,Tryz.ntmps29
 go_wp2
 refine B9 (SRc R #[.int .i64 n.ctl.stage,V.n0,V.n1,V.n2,V.x0,V.x1,V.x2,.int .i64 n.ctl.num,.slice V.qa n.ctl.waits.length V.qc,.slice (some ⟨V.sb,0,none⟩) N N,.slice (some ⟨V.ob,0,none⟩) N N,.slice (some ⟨V.bb,0,none⟩) N N,.slice V.pa n.packets.length V.pc,.slice V.la n.plans.length V.lc,.int .i64 ((N:Nat):Int),.slice lka t.links.length lkc]) 99 (fun a0 a' w'=>∃ v5 v6 v7 v8 v9 v10 v11 v12 v13 v14 v15 v16 v17 v18 v19 v20 v21 v22,a'=C8 a0 [(5,v5),(6,v6),(7,v7),(8,v8),(9,v9),(10,v10),(11,v11),(12,v12),(13,v13),(14,v14),(15,v15),(16,v16),(17,v17),(18,v18),(19,v19),(20,v20),(21,v21),(22,v22)]∧∃ D m0 m1 m2 y0 y1 y2 va vc oa oc,v5=.pointer (some ⟨D,0,none⟩)∧v6=.slice oa L.length oc∧v7=.int .i64 er∧w.heap.size≤D∧A6 w' D 43 #[.int .i64 st,m0,m1,m2,y0,y1,y2,.int .i64 nu,.slice va ws.length vc]∧I64 st∧I64 nu∧B7 w' (fun b=>w.heap.size≤b∧b≠D) m0 m1 m2 no∧B7 w' (fun b=>w.heap.size≤b∧b≠D) y0 y1 y2 ne∧A8 C2 (fun b=>w.heap.size≤b∧b≠D) w' va vc ws∧A8 toS (fun b=>w.heap.size≤b∧b≠D) w' oa oc L∧Below w.heap.size w w') (by kernel_rfl) ?_ ?_
 ·intro Q' hR hQp
  have hb0:Below w.heap.size w w.drew:=N4 _
  have hS:SRc R #[.int .i64 n.ctl.stage,V.n0,V.n1,V.n2,V.x0,V.x1,V.x2,.int .i64 n.ctl.num,.slice V.qa n.ctl.waits.length V.qc,.slice (some ⟨V.sb,0,none⟩) N N,.slice (some ⟨V.ob,0,none⟩) N N,.slice (some ⟨V.bb,0,none⟩) N N,.slice V.pa n.packets.length V.pc,.slice V.la n.plans.length V.lc,.int .i64 ((N:Nat):Int),.slice lka t.links.length lkc] w.drew:=hS0
  generalize w.drew=wa at *
  refine A9 hQp hS [0,5,9,1,6,2,7,3,8,4] ?_
  iterate 10 (refine B2 _ rfl (by kernel_rfl) (A0 (by kernel_rfl) (by intro w0 hw0;have hw1:=hw0;simp only [SRc] at hw1;first|(go_simp;done)|(go_simp;rfl))) ?_;simp only [Act.put,St.tA,St.tD,St.tE,St.tS,St.tC,St.tZ])
  refine B3 ?_
  refine H5 (i:=10) (j:=15) rfl rfl (by kernel_rfl) (by kernel_rfl) (by kernel_rfl) (fun K10 hK10=>?_) (fun K15 hK15=>?_)
  ·skip
   go_simp
   go_wp2_with fail
   refine (HC.out wa hb0).mono ?_
   rintro e wk ⟨⟨ks,oa,oc,rfl,hk0,hr0⟩,hbk⟩
   obtain ⟨m0,m1,m2,y0,y1,y2,va,vc,rfl,i1,i2,p1,p2,p3⟩:=P3.open_ hk0
   dsimp only at hr0 i1 i2 p1 p2 p3
   obtain ⟨lp0,lp1,lp2⟩:=B7.st (P:=Tryz.prog) p1
   obtain ⟨lq0,lq1,lq2⟩:=B7.st (P:=Tryz.prog) p2
   obtain ⟨lm0,lm1,lm2⟩:=B7.one p1
   obtain ⟨ly0,ly1,ly2⟩:=B7.one p2
   go_wp2_with fail
   have hb:=hb0.trans (hbk.mono hb0.size)
   have hS:SRc R #[.int .i64 n.ctl.stage,V.n0,V.n1,V.n2,V.x0,V.x1,V.x2,.int .i64 n.ctl.num,.slice V.qa n.ctl.waits.length V.qc,.slice (some ⟨V.sb,0,none⟩) N N,.slice (some ⟨V.ob,0,none⟩) N N,.slice (some ⟨V.bb,0,none⟩) N N,.slice V.pa n.packets.length V.pc,.slice V.la n.plans.length V.lc,.int .i64 ((N:Nat):Int),.slice lka t.links.length lkc] wk:=hSof _ hb
   refine hK10 _ _ (fun _=>hS) ?_
   clear hK10
   refine A9 hQp hS [11,12,13,14] ?_
   iterate 4 (refine B2 _ rfl (by kernel_rfl) (A0 (by kernel_rfl) (by intro w0 hw0;have hw1:=hw0;simp only [SRc] at hw1;first|(go_simp;done)|(go_simp;rfl))) ?_;simp only [Act.put,St.tA,St.tD,St.tE,St.tS,St.tC,St.tZ])
   refine B3 ?_
   clear hS
   refine A7 (i:=15) rfl (by kernel_rfl) (by kernel_rfl) fun K15 hK15=>?_
   go_simp
   go_wp2_with fail
   have hD:=I6 wk 43 #[.int .i64 0,.int .i64 0,.slice none 0 0,.slice none 0 0,.int .i64 0,.slice none 0 0,.slice none 0 0,.int .i64 0,.slice none 0 0]
   have hbA:=G8 wk (.cells #[.int .i64 0,.int .i64 0,.slice none 0 0,.slice none 0 0,.int .i64 0,.slice none 0 0,.slice none 0 0,.int .i64 0,.slice none 0 0] 43)
   have hsz0:=hb0.size
   have hDs:w.heap.size≤wk.heap.size:=hb.size
   have hb:=hb.trans (hbA.mono hb.size)
   have z1:=C3.below (C3.anyOk p1 (ok':=fun b=>w.heap.size≤b∧b≠wk.heap.size) (fun b hl hh=>by omega)) hbA
   have z2:=C3.below (C3.anyOk p2 (ok':=fun b=>w.heap.size≤b∧b≠wk.heap.size) (fun b hl hh=>by omega)) hbA
   have z3:=(p3.anyOk (ok':=fun b=>w.heap.size≤b∧b≠wk.heap.size) (fun b hl hh=>by omega)).below hbA
   have z4:=(hr0.anyOk (ok':=fun b=>w.heap.size≤b∧b≠wk.heap.size) (fun b hl hh=>by omega)).below hbA
   clear hbA
   generalize wk.alloc _=wA at *
   have hS:SRc R #[.int .i64 n.ctl.stage,V.n0,V.n1,V.n2,V.x0,V.x1,V.x2,.int .i64 n.ctl.num,.slice V.qa n.ctl.waits.length V.qc,.slice (some ⟨V.sb,0,none⟩) N N,.slice (some ⟨V.ob,0,none⟩) N N,.slice (some ⟨V.bb,0,none⟩) N N,.slice V.pa n.packets.length V.pc,.slice V.la n.plans.length V.lc,.int .i64 ((N:Nat):Int),.slice lka t.links.length lkc] wA:=hSof _ hb
   refine hK15 _ _ (fun _=>hS) ?_
   clear hK15 hk0 hr0 p1 p2 p3 hbk
   generalize wk.heap.size=D at *
   clear hS
   obtain ⟨d1,d2⟩:=hD.cells
   have hDl:=hD.lt
   clear hS
   refine A7 (i:=16) rfl (by kernel_rfl) (by kernel_rfl) fun K16 hK16=>?_
   go_simp
   go_wp2_with fail
   obtain ⟨hDE,FRE⟩:=Y7 hD (fun b=>b≠D) w.heap.size (fun h=>h rfl) hDs (.int .i64 st) m0 m1 m2 y0 y1 y2 (.int .i64 nu) (.slice va ws.length vc)
   have f1:=FRE.rep' z1 (fun b hb=>.inl hb.2)
   have f2:=FRE.rep' z2 (fun b hb=>.inl hb.2)
   have f3:=FRE.row' z3 (fun b hb=>.inl hb.2)
   have f4:=FRE.row' z4 (fun b hb=>.inl hb.2)
   have hbE:=(Frm.of (W:=fun b=>b≠D) hb (Nat.le_refl _)).trans FRE
   have hS:SRc R #[.int .i64 n.ctl.stage,V.n0,V.n1,V.n2,V.x0,V.x1,V.x2,.int .i64 n.ctl.num,.slice V.qa n.ctl.waits.length V.qc,.slice (some ⟨V.sb,0,none⟩) N N,.slice (some ⟨V.ob,0,none⟩) N N,.slice (some ⟨V.bb,0,none⟩) N N,.slice V.pa n.packets.length V.pc,.slice V.la n.plans.length V.lc,.int .i64 ((N:Nat):Int),.slice lka t.links.length lkc] _:=hSof _ hbE.below
   refine hK16 _ _ (fun _=>hS) ?_
   clear hK16 d1 d2
   refine A9 hQp hS [17,18] ?_
   iterate 2 (refine B2 _ rfl (by kernel_rfl) (A0 (by kernel_rfl) (by intro w0 hw0;have hw1:=hw0;simp only [SRc] at hw1;first|(go_simp;done)|(go_simp;rfl))) ?_;simp only [Act.put,St.tA,St.tD,St.tE,St.tS,St.tC,St.tZ])
   refine B3 ?_
   refine B5 (by kernel_rfl) ?_ _
   refine hR _ _ ?_
   iterate 18 apply Exists.intro
   refine ⟨?_,⟨D,m0,m1,m2,y0,y1,y2,va,vc,oa,oc,rfl,rfl,rfl,hDs,hDE,i1,i2,f1,f2,f3,f4,hbE.below⟩⟩
   simp only [C8,Act.put,St.tS,St.tC,St.tZ]
   rfl
  ·skip
   go_simp
   go_wp2_with fail
   have hD:=I6 wa 43 #[.int .i64 0,.int .i64 0,.slice none 0 0,.slice none 0 0,.int .i64 0,.slice none 0 0,.slice none 0 0,.int .i64 0,.slice none 0 0]
   have hbA:=G8 wa (.cells #[.int .i64 0,.int .i64 0,.slice none 0 0,.slice none 0 0,.int .i64 0,.slice none 0 0,.slice none 0 0,.int .i64 0,.slice none 0 0] 43)
   have hDs:w.heap.size≤wa.heap.size:=hb0.size
   have hb:=hb0.trans (hbA.mono hb0.size)
   have hDl0:=hD.lt
   clear hbA
   generalize wa.alloc _=wB at *
   have hS:SRc R #[.int .i64 n.ctl.stage,V.n0,V.n1,V.n2,V.x0,V.x1,V.x2,.int .i64 n.ctl.num,.slice V.qa n.ctl.waits.length V.qc,.slice (some ⟨V.sb,0,none⟩) N N,.slice (some ⟨V.ob,0,none⟩) N N,.slice (some ⟨V.bb,0,none⟩) N N,.slice V.pa n.packets.length V.pc,.slice V.la n.plans.length V.lc,.int .i64 ((N:Nat):Int),.slice lka t.links.length lkc] wB:=hSof _ hb
   refine hK15 _ _ (fun _=>hS) ?_
   clear hK15
   generalize wa.heap.size=D at *
   clear hS
   refine A7 (i:=10) rfl (by kernel_rfl) (by kernel_rfl) fun K10 hK10=>?_
   go_simp
   go_wp2_with fail
   refine (HC.out wB hb).mono ?_
   rintro e wA ⟨⟨ks,oa,oc,rfl,hk0,hr0⟩,hbk⟩
   obtain ⟨m0,m1,m2,y0,y1,y2,va,vc,rfl,i1,i2,p1,p2,p3⟩:=P3.open_ hk0
   dsimp only at hr0 i1 i2 p1 p2 p3
   obtain ⟨lp0,lp1,lp2⟩:=B7.st (P:=Tryz.prog) p1
   obtain ⟨lq0,lq1,lq2⟩:=B7.st (P:=Tryz.prog) p2
   obtain ⟨lm0,lm1,lm2⟩:=B7.one p1
   obtain ⟨ly0,ly1,ly2⟩:=B7.one p2
   go_wp2_with fail
   have hsz:=hb.size
   have hD:=hD.under hbk
   have hb:=hb.trans (hbk.mono hb.size)
   have z1:=C3.anyOk p1 (ok':=fun b=>w.heap.size≤b∧b≠D) (fun b hl hh=>by omega)
   have z2:=C3.anyOk p2 (ok':=fun b=>w.heap.size≤b∧b≠D) (fun b hl hh=>by omega)
   have z3:=p3.anyOk (ok':=fun b=>w.heap.size≤b∧b≠D) (fun b hl hh=>by omega)
   have z4:=hr0.anyOk (ok':=fun b=>w.heap.size≤b∧b≠D) (fun b hl hh=>by omega)
   have hS:SRc R #[.int .i64 n.ctl.stage,V.n0,V.n1,V.n2,V.x0,V.x1,V.x2,.int .i64 n.ctl.num,.slice V.qa n.ctl.waits.length V.qc,.slice (some ⟨V.sb,0,none⟩) N N,.slice (some ⟨V.ob,0,none⟩) N N,.slice (some ⟨V.bb,0,none⟩) N N,.slice V.pa n.packets.length V.pc,.slice V.la n.plans.length V.lc,.int .i64 ((N:Nat):Int),.slice lka t.links.length lkc] wA:=hSof _ hb
   refine hK10 _ _ (fun _=>hS) ?_
   clear hK10 hk0 hr0 p1 p2 p3 hbk
   refine A9 hQp hS [11,12,13,14] ?_
   iterate 4 (refine B2 _ rfl (by kernel_rfl) (A0 (by kernel_rfl) (by intro w0 hw0;have hw1:=hw0;simp only [SRc] at hw1;first|(go_simp;done)|(go_simp;rfl))) ?_;simp only [Act.put,St.tA,St.tD,St.tE,St.tS,St.tC,St.tZ])
   refine B3 ?_
   clear hS
   obtain ⟨d1,d2⟩:=hD.cells
   have hDl:=hD.lt
   clear hS
   refine A7 (i:=16) rfl (by kernel_rfl) (by kernel_rfl) fun K16 hK16=>?_
   go_simp
   go_wp2_with fail
   obtain ⟨hDE,FRE⟩:=Y7 hD (fun b=>b≠D) w.heap.size (fun h=>h rfl) hDs (.int .i64 st) m0 m1 m2 y0 y1 y2 (.int .i64 nu) (.slice va ws.length vc)
   have f1:=FRE.rep' z1 (fun b hb=>.inl hb.2)
   have f2:=FRE.rep' z2 (fun b hb=>.inl hb.2)
   have f3:=FRE.row' z3 (fun b hb=>.inl hb.2)
   have f4:=FRE.row' z4 (fun b hb=>.inl hb.2)
   have hbE:=(Frm.of (W:=fun b=>b≠D) hb (Nat.le_refl _)).trans FRE
   have hS:SRc R #[.int .i64 n.ctl.stage,V.n0,V.n1,V.n2,V.x0,V.x1,V.x2,.int .i64 n.ctl.num,.slice V.qa n.ctl.waits.length V.qc,.slice (some ⟨V.sb,0,none⟩) N N,.slice (some ⟨V.ob,0,none⟩) N N,.slice (some ⟨V.bb,0,none⟩) N N,.slice V.pa n.packets.length V.pc,.slice V.la n.plans.length V.lc,.int .i64 ((N:Nat):Int),.slice lka t.links.length lkc] _:=hSof _ hbE.below
   refine hK16 _ _ (fun _=>hS) ?_
   clear hK16 d1 d2
   refine A9 hQp hS [17,18] ?_
   iterate 2 (refine B2 _ rfl (by kernel_rfl) (A0 (by kernel_rfl) (by intro w0 hw0;have hw1:=hw0;simp only [SRc] at hw1;first|(go_simp;done)|(go_simp;rfl))) ?_;simp only [Act.put,St.tA,St.tD,St.tE,St.tS,St.tC,St.tZ])
   refine B3 ?_
   refine B5 (by kernel_rfl) ?_ _
   refine hR _ _ ?_
   iterate 18 apply Exists.intro
   refine ⟨?_,⟨D,m0,m1,m2,y0,y1,y2,va,vc,oa,oc,rfl,rfl,rfl,hDs,hDE,i1,i2,f1,f2,f3,f4,hbE.below⟩⟩
   simp only [C8,Act.put,St.tS,St.tC,St.tZ]
   rfl
 rintro a' w8 ⟨v5,v6,v7,v8,v9,v10,v11,v12,v13,v14,v15,v16,v17,v18,v19,v20,v21,v22,rfl,hb8⟩
 simp only [C8,Act.put,St.tS,St.tC,St.tZ]
 obtain ⟨D,m0,m1,m2,y0,y1,y2,va,vc,oa,oc,rfl,rfl,rfl,hDs,hD8,i1,i2,p1,p2,p3,p4,hb8⟩:=hb8
 have hA8:=hlo.below hb8
 have hF8:Frm (fun b=>¬M b∧b<w.heap.size) R w w8:=Frm.of hb8 hR8
 have hs8:=hb8.size
 clear hSof hS0 HC hlo hb8
 by_cases he:er=0
 case neg=>
  have hE:=HE.out
  rw [if_pos he] at hE
  have HE1:=Lib.hid hE
  have he':(er !=0)=true:=by rw [bne_iff_ne];exact he
  have hO:F6 H M lka lkc R N t w n w8:=⟨M,V,hA8.wideH (fun b _ hb hh=>by first|exact hb (.inr hh)|exact hb.1 (.inr hh)|exact hb.2.2 (.inr hh)|(have:=hH b hh;omega)),hF8.weak (fun b hb hm=>.inl ⟨hm,hb⟩) (Nat.le_refl _),fun b hb=>.inl hb⟩
  clear he hE HE HFIT hA8 p1 p2 p3 p4
  go_wp2
  go_ret;rw [HE1.out];exact ⟨rfl,hO⟩
 subst he
 have hE:=HE.out
 rw [if_neg (by decide)] at hE
 have HE1:=Lib.hid hE
 obtain ⟨ft2,ft3⟩:=HFIT.out rfl
 clear hE HE HFIT
 have hDM:¬M D:=fun hm=>by have:=hMl D hm;omega
 have hokM:∀ b,(w.heap.size≤b∧b≠D)→¬(M b∨H b):=fun b hb hm=>by have:=hm.elim (hMl b) (hH b);omega
 obtain ⟨lm0,lm1,lm2⟩:=B7.one p1
 obtain ⟨ly0,ly1,ly2⟩:=B7.one p2
 obtain ⟨lp0,lp1,lp2⟩:=B7.st (P:=Tryz.prog) p1
 obtain ⟨lq0,lq1,lq2⟩:=B7.st (P:=Tryz.prog) p2
 have hAv:=hA8.wideH (fun b _ hb hh=>by first|exact hb (.inr hh)|exact hb.1 (.inr hh)|exact hb.2.2 (.inr hh)|(have:=hH b hh;omega))
 have hDl8:=hD8.lt
 have hp2w:=C3.anyOk p2 (ok':=fun b=>¬(M b∨H b)) (fun b _ hb=>hokM b hb)
 obtain ⟨i0,hi,hz0,hz1,hz2⟩:=info_parts A52
 have hS0:SPl R D (.slice V.la n.plans.length V.lc) y0 y1 y2 w8.drew:=⟨hAv.box.cells.1 13,hD8.cells.1 4,hD8.cells.1 5,hD8.cells.1 6⟩
 clear h hf hA8
 go_wp2
 refine B9 (SPl R D (.slice V.la n.plans.length V.lc) y0 y1 y2) 13 (fun a0 a' w'=>∃ v26 v27 v28 v29 v30 v31 v32 v33 v34 v35 v36 v37 v38,a'=C8 a0 [(26,v26),(27,v27),(28,v28),(29,v29),(30,v30),(31,v31),(32,v32),(33,v33),(34,v34),(35,v35),(36,v36),(37,v37),(38,v38)]∧∃ M1 V1,C9 (fun b=>¬(M1 b∨H b)) M1 lka lkc R N t w' {n with plans:=n.plans++[ne]} V1∧Frm (fun b=>¬M b∧b<w8.heap.size) R w8 w'∧∀ b,M1 b→M b∨w8.heap.size≤b) (by kernel_rfl) ?_ ?_
 ·intro Q' hR hQp
  have hb0:Below w8.heap.size w8 w8.drew:=N4 _
  have hS:SPl R D (.slice V.la n.plans.length V.lc) y0 y1 y2 w8.drew:=hS0
  generalize w8.drew=wa at *
  have hAa:=hAv.below hb0
  have hDa:=hD8.under hb0
  have hpa:=C3.below hp2w hb0
  have hsa:=hb0.size
  refine A9 hQp hS [0,1,6,2,7,3,4,5] ?_
  iterate 8 (refine B2 _ rfl (by kernel_rfl) (A0 (by kernel_rfl) (by intro w0 hw0;have hw1:=hw0;simp only [SPl] at hw1;first|(go_simp;done)|(go_simp;rfl))) ?_;simp only [Act.put,St.tA,St.tD,St.tE,St.tS,St.tC,St.tZ])
  refine B3 ?_
  clear hS
  refine A7 (i:=8) rfl (by kernel_rfl) (by kernel_rfl) fun K8 hK8=>?_
  go_simp
  go_wp2_with fail
  have hb3:=G8 wa (.cells #[y0,y1,y2] 34)
  have hNb:=I6 wa 34 #[y0,y1,y2]
  have hAb:=hAa.below hb3
  have hDb:=hDa.under hb3
  have hpb:=C3.below hpa hb3
  have hsrc:=A7w hNb hpb
  have hb4:=hb0.trans (hb3.mono hsa)
  refine hK8 _ _ (fun _=>⟨hAb.box.cells.1 13,hDb.cells.1 4,hDb.cells.1 5,hDb.cells.1 6⟩) ?_
  clear hK8
  have hsb:(wa.alloc (.cells #[y0,y1,y2] 34)).heap.size=wa.heap.size+1:=by simp
  generalize wa.alloc (.cells #[y0,y1,y2] 34)=wx at *
  refine A7 (i:=9) rfl (by kernel_rfl) (by kernel_rfl) fun K9 hK9=>?_
  have hown:=hAb.pls
  refine A3s (sh:=C3) (n:=n.plans.length) (c:=1) (.tmp 31) (.tmp 34) 48 (by rfl) 34 i0 (.agg #[.int .i64 0,.slice none 0 0,.slice none 0 0]) 56 Tryz.underlying48 hi hz0 hz1 hz2 rfl (by decide) (ok:=fun b=>¬(M b∨H b)) (base:=R) (by rfl) hown (fun k hk hi=>hi (.inl (hAb.ml k hk))) (by rfl) hsrc (by simp only [maxLen];omega) (by omega) (by omega) ?_
  intro ao cap wy ho hg hd
  simp only [Act.put,St.tA,St.tD,St.tE,St.tS,St.tC,St.tZ]
  obtain ⟨hAc,hFc⟩:=hAb.pushPlan rfl ho hg hd
  have hne:∀ {b:Nat} {cs:Array Value} {σ:TypeId},A6 wx b σ cs→34≠σ→some b≠Go.St.blk V.la:=fun hb hσ e=>(hown.noType hb hσ) e.symm
  have hDy:=hDb.grown hg (hne hDb (by decide))
  have hRy:=hAb.box.grown hg (hne hAb.box (by decide))
  have hSy:SPl R D (.slice V.la n.plans.length V.lc) y0 y1 y2 wy:=⟨hRy.cells.1 13,hDy.cells.1 4,hDy.cells.1 5,hDy.cells.1 6⟩
  have hoy:=hRy.lt
  have hofz:=hRy.cells.2
  have ho13:=hSy.1
  have q3:∀ b,(M b∨Go.St.blk ao=some b)→M b∨w8.heap.size≤b:=fun b hb=>by
   rcases hb with h1|h1
   ·exact .inl h1
   ·rcases hd with h2|h2
    ·exact .inl (hAb.ml b (by rw [←h2];exact h1))
    ·rw [h2] at h1
     have h3:wx.heap.size=b:=by simpa using h1
     exact .inr (by omega)
  have q2:=(Frm.of (W:=fun b=>¬M b∧b<w8.heap.size) (B:=R) hb4 (by omega)).trans (hFc.weak (V:=fun b=>¬M b∧b<w8.heap.size) (fun b _ hb=>.inl hb.1) (Nat.le_refl _))
  refine hK9 _ _ (fun _=>hSy) ?_
  clear hK9
  refine A7 (i:=10) rfl (by kernel_rfl) (by kernel_rfl) fun K10 hK10=>?_
  go_simp
  go_wp2_with fail
  refine hK10 _ _ (fun _=>hSy) ?_
  clear hK10
  refine A7 (i:=11) rfl (by kernel_rfl) (by kernel_rfl) fun K11 hK11=>?_
  go_simp
  go_wp2_with fail
  refine hK11 _ _ (fun _=>hSy) ?_
  clear hK11
  refine A7 (i:=12) rfl (by kernel_rfl) (by kernel_rfl) fun K12 hK12=>?_
  go_simp
  go_wp2_with fail
  refine hK12 _ _ (fun _=>hSy) ?_
  clear hK12
  refine A7 (i:=13) rfl (by kernel_rfl) (by kernel_rfl) fun K13 hK13=>?_
  go_simp
  go_wp2_with fail
  refine hK13 _ _ (fun h=>absurd rfl h) ?_
  clear hK13
  refine B5 (by kernel_rfl) ?_ _
  refine hR _ _ ?_
  iterate 13 apply Exists.intro
  refine ⟨?_,⟨_,_,hAc.wideH (fun b _ hb hh=>by first|exact hb (.inr hh)|exact hb.1 (.inr hh)|exact hb.2.2 (.inr hh)|(have:=hH b hh;omega)),q2,q3⟩⟩
  simp only [C8,Act.put,St.tS,St.tC,St.tZ]
  rfl
 rintro a' w8 ⟨v26,v27,v28,v29,v30,v31,v32,v33,v34,v35,v36,v37,v38,rfl,hb8⟩
 simp only [C8,Act.put,St.tS,St.tC,St.tZ]
 obtain ⟨M1,V1,hAw,hF9,hM1⟩:=hb8
 rename World=>w9
 have hs9:=hF9.size
 have hD9:=hF9.blk hD8 (.inl ⟨hDM,hDl8⟩)
 have hno1:∀ b,b<w8.heap.size→¬(M b∨H b)→¬(M1 b∨H b):=fun b hl hb hm=>hm.elim (fun hm=>(hM1 b hm).elim (fun h=>hb (.inl h)) (fun h2=>by omega)) (fun h=>hb (.inr h))
 have q1:=C3.mono p1 (w':=w9) (ok':=fun b=>¬(M1 b∨H b)) (fun b hl hb=>⟨hno1 b hl (hokM b hb),hF9.keep b hl ⟨fun hm=>hokM b hb (.inl hm),hl⟩⟩)
 have q2:=C3.mono p2 (w':=w9) (ok':=fun b=>¬(M1 b∨H b)) (fun b hl hb=>⟨hno1 b hl (hokM b hb),hF9.keep b hl ⟨fun hm=>hokM b hb (.inl hm),hl⟩⟩)
 have p3':=p3.mono (w':=w9) (ok':=fun b=>¬(M1 b∨H b)) (fun b hl hb=>⟨hno1 b hl (hokM b hb),hF9.keep b hl ⟨fun hm=>hokM b hb (.inl hm),hl⟩⟩)
 have p4':=p4.mono (w':=w9) (ok':=fun b=>¬(M1 b∨H b)) (fun b hl hb=>⟨hno1 b hl (hokM b hb),hF9.keep b hl ⟨fun hm=>hokM b hb (.inl hm),hl⟩⟩)
 have p1':B7 w9 (fun b=>¬(M1 b∨H b)) m0 m1 m2 no:=q1
 have p2':B7 w9 (fun b=>¬(M1 b∨H b)) y0 y1 y2 ne:=q2
 have hF10:=hF8.trans (hF9.weak (V:=fun b=>¬M b∧b<w.heap.size) (fun b _ hb=>.inl ⟨hb.1,by omega⟩) (Nat.le_refl _))
 clear hD8 p1 p2 p3 p4 hF8 hF9 hS0 hAv hp2w q1 q2
 obtain ⟨hA10,hFc⟩:=hAw.setCtl (c:=⟨st,no,ne,nu,ws⟩) i1 i2 p1' p2' p3'
 have p4c:=hFc.row' p4' (fun b hb=>.inl (fun hm=>hb (.inl hm)))
 have z2:=hAw.box.cells.2
 obtain ⟨d1,d2⟩:=hD9.cells
 have hDl:=hD9.lt
 have hRl9:=hAw.box.lt
 have z1:∀ o,w9.cell? ⟨R,o,none⟩=(#[.int .i64 n.ctl.stage,V1.n0,V1.n1,V1.n2,V1.x0,V1.x1,V1.x2,.int .i64 n.ctl.num,.slice V1.qa n.ctl.waits.length V1.qc,.slice (some ⟨V1.sb,0,none⟩) N N,.slice (some ⟨V1.ob,0,none⟩) N N,.slice (some ⟨V1.bb,0,none⟩) N N,.slice V1.pa n.packets.length V1.pc,.slice V1.la (n.plans++[ne]).length V1.lc,.int .i64 ((N:Nat):Int),.slice lka t.links.length lkc])[o]? :=hAw.box.cells.1
 go_upto_region 6 with fail
 generalize (((((((((w9.setCell ⟨R,0,none⟩ (.int .i64 st)).setCell ⟨R,1,none⟩ m0).setCell ⟨R,2,none⟩ m1).setCell ⟨R,3,none⟩ m2).setCell ⟨R,4,none⟩ y0).setCell ⟨R,5,none⟩ y1).setCell ⟨R,6,none⟩ y2).setCell ⟨R,7,none⟩ (.int .i64 nu)).setCell ⟨R,8,none⟩ (.slice va ws.length vc))=w10 at *
 clear z1 z2 d1 d2 p1' p2' p3' p4' hAw hD9
 have hF12:=hF10.trans (hFc.weak (V:=fun b=>¬M b∧b<w.heap.size) (fun b _ hb=>.inl ((fun hm=>(hM1 b hm).elim hb.1 (fun h2=>by omega)))) (Nat.le_refl _))
 have hs10:=hFc.size
 go_wp2_with fail
 refine (A9d _ _ _ _ _ _ _ _ _ L oa oc w10 hA10 p4c ft2 hN (fun o ho=>by have:=HOB.out o ho;omega)).mono ?_
 rintro e w11 ⟨rfl,M3,V3,hA13,hF13,hM3⟩
 have hO:=F6.of hF12 (fun b hb=>(hM1 b hb).elim .inl (fun h2=>.inr (by omega))) hA13 (fun b _ hb hh=>by first|exact hb (.inr hh)|exact hb.1 (.inr hh)|exact hb.2.2 (.inr hh)|(have:=hH b hh;omega)) hF13 hM3
 clear hA10 hFc p4c hA13 hF13 hM3 hF12
 go_wp2
 go_ret;rw [HE1.out];exact ⟨rfl,hO⟩
end Go.Proofs.YtampcbncgofkoaaGreatDoor
