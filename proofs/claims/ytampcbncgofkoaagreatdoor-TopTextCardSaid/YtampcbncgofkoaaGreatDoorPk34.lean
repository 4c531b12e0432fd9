/- Texts of this proof, one behind the other. -/
import Derived.Test.YtampcbncgofkoaaGreatDoorPk33
set_option linter.unusedSimpArgs false
set_option linter.unusedVariables false
set_option maxRecDepth 100000
set_option maxHeartbeats 16000000
namespace Go.St
open Go.RowKit
def SBk (R bb s g q:Nat) (cs:Array Value) (r:Value) (x:Int) (w:World):Prop:=(∀ o,w.cell? ⟨R,o,none⟩=cs[o]?)∧w.cell? ⟨bb,s,none⟩=some r∧w.cell? ⟨g,q,none⟩=some (.int .i64 x)
end Go.St
namespace Go.Proofs.YtampcbncgofkoaaGreatDoor
open Go.RowKit Go.St
theorem C9.ctl {I M:Nat→Prop} {lka:Option Addr} {lkc R N:Nat} {t:C5} {w:World} {n:Net} {V:RV} (h:C9 I M lka lkc R N t w n V) (hN:N≤8):P3.rep I w [.int .i64 n.ctl.stage,V.n0,V.n1,V.n2,V.x0,V.x1,V.x2,.int .i64 n.ctl.num,.slice V.qa n.ctl.waits.length V.qc] n.ctl∧I5.rep I w [.int .i64 ((N:Nat):Int),.slice lka t.links.length lkc] t:=
 ⟨P3.mk_ h.st h.nu h.now h.next h.wts,lka,lkc,by rw [h.tn],by rw [h.tn];exact ⟨by omega,by omega⟩,h.lk⟩
theorem F6.of {H M M1:Nat→Prop} {lka:Option Addr} {lkc R N:Nat} {t:C5} {w wx w':World} {n':Net} (hF:Frm (fun b=>¬M b∧b<w.heap.size) R w wx) (hM1:∀ b,M1 b→M b∨w.heap.size≤b) {I2 M2:Nat→Prop} {V2:RV} (hA:C9 I2 M2 lka lkc R N t w' n' V2) (hI2:∀ b,b<w'.heap.size→I2 b→¬H b) (hF2:Frm (fun b=>¬M1 b) R wx w') (hM2:∀ b,M2 b→M1 b∨wx.heap.size≤b):F6 H M lka lkc R N t w n' w':=by
 have hsz:=hF.size
 refine ⟨M2,V2,hA.wideH hI2,(hF.trans (hF2.weak (V:=fun b=>¬M b∧b<w.heap.size) (fun b _ hb=>.inl (fun hm=>(hM1 b hm).elim hb.1 (fun h2=>by omega))) (Nat.le_refl _))).weak (fun b hb hm=>.inl ⟨hm,hb⟩) (Nat.le_refl _),fun b hb=>?_⟩
 rcases hM2 b hb with h1|h1
 ·exact hM1 b h1
 ·right;omega
theorem A9v (H M:Nat→Prop) (lka:Option Addr) (lkc R N:Nat) (t:C5) (k:Nat) (n:Net) (V:RV) (s:Int) (hsI:I64 s) (w:World) (h:C9 (fun b=>¬(M b∨H b)) M lka lkc R N t w n V) (hf:F4 t k n) (hk:k≤1000) (hN:N≤8) (hH:∀ b,H b→b<w.heap.size):
  Calls Tryz.prog 31 #[.pointer (some ⟨R,0,none⟩),.int .i64 s] w fun e w'=>e=.returned (.int .i64 (M7 t n s).2)∧F6 H M lka lkc R N t w (M7 t n s).1 w':=by
 have htn:=h.tn
 have hRl:=h.box.lt
 have rc0:∀ o,w.cell? ⟨R,o,none⟩=(#[.int .i64 n.ctl.stage,V.n0,V.n1,V.n2,V.x0,V.x1,V.x2,.int .i64 n.ctl.num,.slice V.qa n.ctl.waits.length V.qc,.slice (some ⟨V.sb,0,none⟩) N N,.slice (some ⟨V.ob,0,none⟩) N N,.slice (some ⟨V.bb,0,none⟩) N N,.slice V.pa n.packets.length V.pc,.slice V.la n.plans.length V.lc,.int .i64 ((N:Nat):Int),.slice lka t.links.length lkc])[o]? :=h.box.cells.1
 have hE0:Go.St.rowAt t n.backs s=[]→M7 t n s=(n,6):=fun e=>by unfold M7;rw [e]
 have hE2:=fun (o:Int) (r:List Int) (e:Go.St.rowAt t n.backs s=o::r)=>(show M7 t n s=if (H8 n.ctl t o).2.2≠0 then (n,(H8 n.ctl t o).2.2) else ({n with backs:=n.backs.set s.toNat r,ctl:=(H8 n.ctl t o).1,orders:=F9 n.orders (H8 n.ctl t o).2.1},0) by unfold M7;rw [e])
 by_cases hin:0≤s∧s<(N:Int)
 case neg=>
  have e:Go.St.rowAt t n.backs s=[]:=by unfold Go.St.rowAt;rw [if_pos (by omega)]
  rw [hE0 e]
  have r14:w.cell? ⟨R,14,none⟩=some (.int .i64 ((N:Nat):Int)):=rc0 14
  clear hE0 hE2 e rc0
  go_enter Tryz.func31,Tryz.ntmps31
  by_cases h0:s<0
  ·clear hin
   go_wp2
   go_ret;exact ⟨rfl,F6.same h (Below.refl _ _)⟩
  ·have h1:s≥(N:Int):=by omega
   clear hin
   go_wp2
   go_ret;exact ⟨rfl,F6.same h (Below.refl _ _)⟩
 obtain ⟨s,rfl⟩:∃ q:Nat,s=(q:Int):=⟨s.toNat,by omega⟩
 have hsn:s<N:=by omega
 have h0:¬(s:Int)<0:=by omega
 have h1:¬(s:Int)≥(N:Int):=by omega
 have h2:(s:Int)<(N:Int):=by omega
 have h3:(0:Int)≤(s:Int):=by omega
 rw [A2a htn hsn] at hE0
 simp only [Int.toNat_natCast] at hE2
 rw [A2a htn hsn] at hE2
 have hrr:=fun (I2 M3:Nat→Prop) (w3:World) (n3:Net) (V3:RV) (hA:C9 I2 M3 lka lkc R N t w3 n3 V3) (e:n3.backs=n.backs)=>(⟨by have:=hA.bks.cell hsn;rwa [e] at this,by have:=hA.bks.own s hsn;rwa [e] at this⟩:w3.cell? ⟨V3.bb,s,none⟩=some (.slice (V3.fb s).1 (n.backs.getD s []).length (V3.fb s).2)∧qR C2 3 I2 R w3 (V3.fb s).1 (n.backs.getD s []).length (V3.fb s).2 (n.backs.getD s []))
 obtain ⟨row,hrow⟩:∃ r,n.backs.getD s []=r:=⟨_,rfl⟩
 have HROW:=Lib.hid hrow
 rw [hrow] at hE0 hE2 hrr
 clear hrow
 have t11:=(hrr _ _ _ _ _ h rfl).1
 have hown:=(hrr _ _ _ _ _ h rfl).2
 have hbbl:=h.bks.blk.lt
 have r11:w.cell? ⟨R,11,none⟩=some (.slice (some ⟨V.bb,0,none⟩) N N):=rc0 11
 have r14:w.cell? ⟨R,14,none⟩=some (.int .i64 ((N:Nat):Int)):=rc0 14
 have HRR:=Lib.hid hrr
 clear hrr rc0
 cases row with
 |nil=>
  rw [hE0 rfl]
  clear hE0 hE2 hown
  go_enter Tryz.func31,Tryz.ntmps31
  simp only [List.length_nil] at t11
  go_wp2
  go_ret;exact ⟨rfl,F6.same h (Below.refl _ _)⟩
 |cons x r=>
 have hlo:=h.here
 obtain ⟨g,q,cs,ha,_,hgl,hor,hce,_,_⟩:=hown.at (i:=0) (x:=x) rfl
 obtain ⟨rfl,hxI⟩:=hor
 have x0:=hce 0 _ rfl
 simp only [Nat.zero_mul,Nat.add_zero] at x0
 rw [ha] at t11
 have hll:((((x::r).length:Nat):Int)==0)=false:=by rw [beq_eq_false_iff_ne];simp only [List.length_cons];omega
 have hl2:(0:Int)<((x::r).length:Int):=by simp only [List.length_cons];omega
 obtain ⟨L0,hL⟩:∃ L,(x::r).length=L:=⟨_,rfl⟩
 have HL:=Lib.hid hL
 have hl4:0<(x::r).length:=by simp only [List.length_cons];omega
 rw [hL] at t11 hll hl2 hl4
 clear hL hce hown
 have hE3:=hE2 x r rfl
 have hsm:=hf.ctl.small hk
 have hC:=fun (w':World) (hb:Below w.heap.size w w')=>B4y n.ctl t x _ _ _ _ w' ((hlo.below hb).ctl hN).1 ((hlo.below hb).ctl hN).2 hsm
 have hfit:=fun (e:(H8 n.ctl t x).2.2=0)=>A8g hf.ctl (by omega) e
 have HE:=Lib.hid hE3
 have hSof:∀ w',Below w.heap.size w w'→SBk R V.bb s g q #[.int .i64 n.ctl.stage,V.n0,V.n1,V.n2,V.x0,V.x1,V.x2,.int .i64 n.ctl.num,.slice V.qa n.ctl.waits.length V.qc,.slice (some ⟨V.sb,0,none⟩) N N,.slice (some ⟨V.ob,0,none⟩) N N,.slice (some ⟨V.bb,0,none⟩) N N,.slice V.pa n.packets.length V.pc,.slice V.la n.plans.length V.lc,.int .i64 ((N:Nat):Int),.slice lka t.links.length lkc] (.slice (some ⟨g,q,none⟩) L0 (V.fb s).2) x w':=fun w' hb=>⟨(hlo.below hb).box.cells.1,B8 hb (by omega) t11,B8 hb (by omega) x0⟩
 have hfo:Hid (V.fb s=(some ⟨g,q,none⟩,(V.fb s).2)):=by show _=_;rw [←ha]
 have HA:=Lib.hid ha
 have hob:=fun (o:List G3) (ho:o∈n.orders)=>(hf.ord o ho).1
 have HOB:=Lib.hid hob
 have hMl:∀ b,M b→b<w.heap.size:=fun b hb=>(h.rng b hb).2
 have hR8:=h.size
 clear hE0 hE2 hE3 ha hob
 generalize H8 n.ctl t x=RR at *
 obtain ⟨⟨st,no,ne,nu,ws⟩,L,er⟩:=RR
 dsimp only at *
 have HC:=Lib.hid hC
 have HFIT:=Lib.hid hfit
 clear hC hfit
 go_enter Tryz.func31,Tryz.ntmps31
 go_upto_region 3 with fail
 clear x0 t11 r11 r14 hll
 have hS0:SBk R V.bb s g q #[.int .i64 n.ctl.stage,V.n0,V.n1,V.n2,V.x0,V.x1,V.x2,.int .i64 n.ctl.num,.slice V.qa n.ctl.waits.length V.qc,.slice (some ⟨V.sb,0,none⟩) N N,.slice (some ⟨V.ob,0,none⟩) N N,.slice (some ⟨V.bb,0,none⟩) N N,.slice V.pa n.packets.length V.pc,.slice V.la n.plans.length V.lc,.int .i64 ((N:Nat):Int),.slice lka t.links.length lkc] (.slice (some ⟨g,q,none⟩) L0 (V.fb s).2) x w.drew:=hSof _ (by (repeat' (first|with_reducible (first|exact Below.refl _ _|assumption|refine Below.drew ?_|refine A3 ?_ _|refine Below.alloc ?_ ?_ _|refine Below.setCell ?_ ?_ _)|omega|(simp;done)|(simp;omega))))
 refine B9 (SBk R V.bb s g q #[.int .i64 n.ctl.stage,V.n0,V.n1,V.n2,V.x0,V.x1,V.x2,.int .i64 n.ctl.num,.slice V.qa n.ctl.waits.length V.qc,.slice (some ⟨V.sb,0,none⟩) N N,.slice (some ⟨V.ob,0,none⟩) N N,.slice (some ⟨V.bb,0,none⟩) N N,.slice V.pa n.packets.length V.pc,.slice V.la n.plans.length V.lc,.int .i64 ((N:Nat):Int),.slice lka t.links.length lkc] (.slice (some ⟨g,q,none⟩) L0 (V.fb s).2) x) 99 (fun a0 a' w'=>∃ v5 v6 v7 v31 v32 v33 v34 v35 v36 v37 v38 v39 v40 v41 v42 v43 v44 v45 v46 v47 v48 v49 v50 v51 v52 v53 v54,a'=C8 a0 [(5,v5),(6,v6),(7,v7),(31,v31),(32,v32),(33,v33),(34,v34),(35,v35),(36,v36),(37,v37),(38,v38),(39,v39),(40,v40),(41,v41),(42,v42),(43,v43),(44,v44),(45,v45),(46,v46),(47,v47),(48,v48),(49,v49),(50,v50),(51,v51),(52,v52),(53,v53),(54,v54)]∧∃ D m0 m1 m2 y0 y1 y2 va vc oa oc,v5=.pointer (some ⟨D,0,none⟩)∧v6=.slice oa L.length oc∧v7=.int .i64 er∧w.heap.size≤D∧A6 w' D 43 #[.int .i64 st,m0,m1,m2,y0,y1,y2,.int .i64 nu,.slice va ws.length vc]∧I64 st∧I64 nu∧B7 w' (fun b=>w.heap.size≤b∧b≠D) m0 m1 m2 no∧B7 w' (fun b=>w.heap.size≤b∧b≠D) y0 y1 y2 ne∧A8 C2 (fun b=>w.heap.size≤b∧b≠D) w' va vc ws∧A8 toS (fun b=>w.heap.size≤b∧b≠D) w' oa oc L∧Below w.heap.size w w') (by kernel_rfl) ?_ ?_
 ·intro Q' hR hQp
  have hb0:Below w.heap.size w w.drew:=N4 _
  have hS:SBk R V.bb s g q #[.int .i64 n.ctl.stage,V.n0,V.n1,V.n2,V.x0,V.x1,V.x2,.int .i64 n.ctl.num,.slice V.qa n.ctl.waits.length V.qc,.slice (some ⟨V.sb,0,none⟩) N N,.slice (some ⟨V.ob,0,none⟩) N N,.slice (some ⟨V.bb,0,none⟩) N N,.slice V.pa n.packets.length V.pc,.slice V.la n.plans.length V.lc,.int .i64 ((N:Nat):Int),.slice lka t.links.length lkc] (.slice (some ⟨g,q,none⟩) L0 (V.fb s).2) x w.drew:=hS0
  generalize w.drew=wa at *
  refine A9 hQp hS [0,5,9,14,1,6,10,2,7,11,3,8,12,4,13,15,16,17,18] ?_
  iterate 19 (refine B2 _ rfl (by kernel_rfl) (A0 (by kernel_rfl) (by intro w0 hw0;have hw1:=hw0;simp only [SBk] at hw1;first|(go_simp;done)|(go_simp;rfl))) ?_;simp only [Act.put,St.tA,St.tD,St.tE,St.tS,St.tC,St.tZ])
  refine B3 ?_
  refine H5 (i:=19) (j:=24) rfl rfl (by kernel_rfl) (by kernel_rfl) (by kernel_rfl) (fun K19 hK19=>?_) (fun K24 hK24=>?_)
  ·skip
   go_simp
   go_wp2_with fail
   refine (HC.out wa hb0).mono ?_
   rintro e wk ⟨⟨ks,oa,oc,rfl,hk0,hr0⟩,hbk⟩
   obtain ⟨m0,m1,m2,y0,y1,y2,va,vc,rfl,i1,i2,p1,p2,p3⟩:=P3.open_ hk0
   dsimp only at hr0 i1 i2 p1 p2 p3
   obtain ⟨lp0,lp1,lp2⟩:=B7.st (P:=Tryz.prog) p1
   obtain ⟨lq0,lq1,lq2⟩:=B7.st (P:=Tryz.prog) p2
   obtain ⟨lm0,lm1,lm2⟩:=B7.one p1
   obtain ⟨ly0,ly1,ly2⟩:=B7.one p2
   go_wp2_with fail
   have hb:=hb0.trans (hbk.mono hb0.size)
   have hS:SBk R V.bb s g q #[.int .i64 n.ctl.stage,V.n0,V.n1,V.n2,V.x0,V.x1,V.x2,.int .i64 n.ctl.num,.slice V.qa n.ctl.waits.length V.qc,.slice (some ⟨V.sb,0,none⟩) N N,.slice (some ⟨V.ob,0,none⟩) N N,.slice (some ⟨V.bb,0,none⟩) N N,.slice V.pa n.packets.length V.pc,.slice V.la n.plans.length V.lc,.int .i64 ((N:Nat):Int),.slice lka t.links.length lkc] (.slice (some ⟨g,q,none⟩) L0 (V.fb s).2) x wk:=hSof _ hb
   refine hK19 _ _ (fun _=>hS) ?_
   clear hK19
   refine A9 hQp hS [20,21,22,23] ?_
   iterate 4 (refine B2 _ rfl (by kernel_rfl) (A0 (by kernel_rfl) (by intro w0 hw0;have hw1:=hw0;simp only [SBk] at hw1;first|(go_simp;done)|(go_simp;rfl))) ?_;simp only [Act.put,St.tA,St.tD,St.tE,St.tS,St.tC,St.tZ])
   refine B3 ?_
   clear hS
   refine A7 (i:=24) rfl (by kernel_rfl) (by kernel_rfl) fun K24 hK24=>?_
   go_simp
   go_wp2_with fail
   have hD:=I6 wk 43 #[.int .i64 0,.int .i64 0,.slice none 0 0,.slice none 0 0,.int .i64 0,.slice none 0 0,.slice none 0 0,.int .i64 0,.slice none 0 0]
   have hbA:=G8 wk (.cells #[.int .i64 0,.int .i64 0,.slice none 0 0,.slice none 0 0,.int .i64 0,.slice none 0 0,.slice none 0 0,.int .i64 0,.slice none 0 0] 43)
   have hsz0:=hb0.size
   have hDs:w.heap.size≤wk.heap.size:=hb.size
   have hb:=hb.trans (hbA.mono hb.size)
   have z1:=C3.below (C3.anyOk p1 (ok':=fun b=>w.heap.size≤b∧b≠wk.heap.size) (fun b hl hh=>by omega)) hbA
   have z2:=C3.below (C3.anyOk p2 (ok':=fun b=>w.heap.size≤b∧b≠wk.heap.size) (fun b hl hh=>by omega)) hbA
   have z3:=(p3.anyOk (ok':=fun b=>w.heap.size≤b∧b≠wk.heap.size) (fun b hl hh=>by omega)).below hbA
   have z4:=(hr0.anyOk (ok':=fun b=>w.heap.size≤b∧b≠wk.heap.size) (fun b hl hh=>by omega)).below hbA
   clear hbA
   generalize wk.alloc _=wA at *
   have hS:SBk R V.bb s g q #[.int .i64 n.ctl.stage,V.n0,V.n1,V.n2,V.x0,V.x1,V.x2,.int .i64 n.ctl.num,.slice V.qa n.ctl.waits.length V.qc,.slice (some ⟨V.sb,0,none⟩) N N,.slice (some ⟨V.ob,0,none⟩) N N,.slice (some ⟨V.bb,0,none⟩) N N,.slice V.pa n.packets.length V.pc,.slice V.la n.plans.length V.lc,.int .i64 ((N:Nat):Int),.slice lka t.links.length lkc] (.slice (some ⟨g,q,none⟩) L0 (V.fb s).2) x wA:=hSof _ hb
   refine hK24 _ _ (fun _=>hS) ?_
   clear hK24 hk0 hr0 p1 p2 p3 hbk
   generalize wk.heap.size=D at *
   clear hS
   obtain ⟨d1,d2⟩:=hD.cells
   have hDl:=hD.lt
   clear hS
   refine A7 (i:=25) rfl (by kernel_rfl) (by kernel_rfl) fun K25 hK25=>?_
   go_simp
   go_wp2_with fail
   obtain ⟨hDE,FRE⟩:=Y7 hD (fun b=>b≠D) w.heap.size (fun h=>h rfl) hDs (.int .i64 st) m0 m1 m2 y0 y1 y2 (.int .i64 nu) (.slice va ws.length vc)
   have f1:=FRE.rep' z1 (fun b hb=>.inl hb.2)
   have f2:=FRE.rep' z2 (fun b hb=>.inl hb.2)
   have f3:=FRE.row' z3 (fun b hb=>.inl hb.2)
   have f4:=FRE.row' z4 (fun b hb=>.inl hb.2)
   have hbE:=(Frm.of (W:=fun b=>b≠D) hb (Nat.le_refl _)).trans FRE
   have hS:SBk R V.bb s g q #[.int .i64 n.ctl.stage,V.n0,V.n1,V.n2,V.x0,V.x1,V.x2,.int .i64 n.ctl.num,.slice V.qa n.ctl.waits.length V.qc,.slice (some ⟨V.sb,0,none⟩) N N,.slice (some ⟨V.ob,0,none⟩) N N,.slice (some ⟨V.bb,0,none⟩) N N,.slice V.pa n.packets.length V.pc,.slice V.la n.plans.length V.lc,.int .i64 ((N:Nat):Int),.slice lka t.links.length lkc] (.slice (some ⟨g,q,none⟩) L0 (V.fb s).2) x _:=hSof _ hbE.below
   refine hK25 _ _ (fun _=>hS) ?_
   clear hK25 d1 d2
   refine A9 hQp hS [26,27] ?_
   iterate 2 (refine B2 _ rfl (by kernel_rfl) (A0 (by kernel_rfl) (by intro w0 hw0;have hw1:=hw0;simp only [SBk] at hw1;first|(go_simp;done)|(go_simp;rfl))) ?_;simp only [Act.put,St.tA,St.tD,St.tE,St.tS,St.tC,St.tZ])
   refine B3 ?_
   refine B5 (by kernel_rfl) ?_ _
   refine hR _ _ ?_
   iterate 27 apply Exists.intro
   refine ⟨?_,⟨D,m0,m1,m2,y0,y1,y2,va,vc,oa,oc,rfl,rfl,rfl,hDs,hDE,i1,i2,f1,f2,f3,f4,hbE.below⟩⟩
   simp only [C8,Act.put,St.tS,St.tC,St.tZ]
   rfl
  ·skip
   go_simp
   go_wp2_with fail
   have hD:=I6 wa 43 #[.int .i64 0,.int .i64 0,.slice none 0 0,.slice none 0 0,.int .i64 0,.slice none 0 0,.slice none 0 0,.int .i64 0,.slice none 0 0]
   have hbA:=G8 wa (.cells #[.int .i64 0,.int .i64 0,.slice none 0 0,.slice none 0 0,.int .i64 0,.slice none 0 0,.slice none 0 0,.int .i64 0,.slice none 0 0] 43)
   have hDs:w.heap.size≤wa.heap.size:=hb0.size
   have hb:=hb0.trans (hbA.mono hb0.size)
   have hDl0:=hD.lt
   clear hbA
   generalize wa.alloc _=wB at *
   have hS:SBk R V.bb s g q #[.int .i64 n.ctl.stage,V.n0,V.n1,V.n2,V.x0,V.x1,V.x2,.int .i64 n.ctl.num,.slice V.qa n.ctl.waits.length V.qc,.slice (some ⟨V.sb,0,none⟩) N N,.slice (some ⟨V.ob,0,none⟩) N N,.slice (some ⟨V.bb,0,none⟩) N N,.slice V.pa n.packets.length V.pc,.slice V.la n.plans.length V.lc,.int .i64 ((N:Nat):Int),.slice lka t.links.length lkc] (.slice (some ⟨g,q,none⟩) L0 (V.fb s).2) x wB:=hSof _ hb
   refine hK24 _ _ (fun _=>hS) ?_
   clear hK24
   generalize wa.heap.size=D at *
   clear hS
   refine A7 (i:=19) rfl (by kernel_rfl) (by kernel_rfl) fun K19 hK19=>?_
   go_simp
   go_wp2_with fail
   refine (HC.out wB hb).mono ?_
   rintro e wA ⟨⟨ks,oa,oc,rfl,hk0,hr0⟩,hbk⟩
   obtain ⟨m0,m1,m2,y0,y1,y2,va,vc,rfl,i1,i2,p1,p2,p3⟩:=P3.open_ hk0
   dsimp only at hr0 i1 i2 p1 p2 p3
   obtain ⟨lp0,lp1,lp2⟩:=B7.st (P:=Tryz.prog) p1
   obtain ⟨lq0,lq1,lq2⟩:=B7.st (P:=Tryz.prog) p2
   obtain ⟨lm0,lm1,lm2⟩:=B7.one p1
   obtain ⟨ly0,ly1,ly2⟩:=B7.one p2
   go_wp2_with fail
   have hsz:=hb.size
   have hD:=hD.under hbk
   have hb:=hb.trans (hbk.mono hb.size)
   have z1:=C3.anyOk p1 (ok':=fun b=>w.heap.size≤b∧b≠D) (fun b hl hh=>by omega)
   have z2:=C3.anyOk p2 (ok':=fun b=>w.heap.size≤b∧b≠D) (fun b hl hh=>by omega)
   have z3:=p3.anyOk (ok':=fun b=>w.heap.size≤b∧b≠D) (fun b hl hh=>by omega)
   have z4:=hr0.anyOk (ok':=fun b=>w.heap.size≤b∧b≠D) (fun b hl hh=>by omega)
   have hS:SBk R V.bb s g q #[.int .i64 n.ctl.stage,V.n0,V.n1,V.n2,V.x0,V.x1,V.x2,.int .i64 n.ctl.num,.slice V.qa n.ctl.waits.length V.qc,.slice (some ⟨V.sb,0,none⟩) N N,.slice (some ⟨V.ob,0,none⟩) N N,.slice (some ⟨V.bb,0,none⟩) N N,.slice V.pa n.packets.length V.pc,.slice V.la n.plans.length V.lc,.int .i64 ((N:Nat):Int),.slice lka t.links.length lkc] (.slice (some ⟨g,q,none⟩) L0 (V.fb s).2) x wA:=hSof _ hb
   refine hK19 _ _ (fun _=>hS) ?_
   clear hK19 hk0 hr0 p1 p2 p3 hbk
   refine A9 hQp hS [20,21,22,23] ?_
   iterate 4 (refine B2 _ rfl (by kernel_rfl) (A0 (by kernel_rfl) (by intro w0 hw0;have hw1:=hw0;simp only [SBk] at hw1;first|(go_simp;done)|(go_simp;rfl))) ?_;simp only [Act.put,St.tA,St.tD,St.tE,St.tS,St.tC,St.tZ])
   refine B3 ?_
   clear hS
   obtain ⟨d1,d2⟩:=hD.cells
   have hDl:=hD.lt
   clear hS
   refine A7 (i:=25) rfl (by kernel_rfl) (by kernel_rfl) fun K25 hK25=>?_
   go_simp
   go_wp2_with fail
   obtain ⟨hDE,FRE⟩:=Y7 hD (fun b=>b≠D) w.heap.size (fun h=>h rfl) hDs (.int .i64 st) m0 m1 m2 y0 y1 y2 (.int .i64 nu) (.slice va ws.length vc)
   have f1:=FRE.rep' z1 (fun b hb=>.inl hb.2)
   have f2:=FRE.rep' z2 (fun b hb=>.inl hb.2)
   have f3:=FRE.row' z3 (fun b hb=>.inl hb.2)
   have f4:=FRE.row' z4 (fun b hb=>.inl hb.2)
   have hbE:=(Frm.of (W:=fun b=>b≠D) hb (Nat.le_refl _)).trans FRE
   have hS:SBk R V.bb s g q #[.int .i64 n.ctl.stage,V.n0,V.n1,V.n2,V.x0,V.x1,V.x2,.int .i64 n.ctl.num,.slice V.qa n.ctl.waits.length V.qc,.slice (some ⟨V.sb,0,none⟩) N N,.slice (some ⟨V.ob,0,none⟩) N N,.slice (some ⟨V.bb,0,none⟩) N N,.slice V.pa n.packets.length V.pc,.slice V.la n.plans.length V.lc,.int .i64 ((N:Nat):Int),.slice lka t.links.length lkc] (.slice (some ⟨g,q,none⟩) L0 (V.fb s).2) x _:=hSof _ hbE.below
   refine hK25 _ _ (fun _=>hS) ?_
   clear hK25 d1 d2
   refine A9 hQp hS [26,27] ?_
   iterate 2 (refine B2 _ rfl (by kernel_rfl) (A0 (by kernel_rfl) (by intro w0 hw0;have hw1:=hw0;simp only [SBk] at hw1;first|(go_simp;done)|(go_simp;rfl))) ?_;simp only [Act.put,St.tA,St.tD,St.tE,St.tS,St.tC,St.tZ])
   refine B3 ?_
   refine B5 (by kernel_rfl) ?_ _
   refine hR _ _ ?_
   iterate 27 apply Exists.intro
   refine ⟨?_,⟨D,m0,m1,m2,y0,y1,y2,va,vc,oa,oc,rfl,rfl,rfl,hDs,hDE,i1,i2,f1,f2,f3,f4,hbE.below⟩⟩
   simp only [C8,Act.put,St.tS,St.tC,St.tZ]
   rfl
 rintro a' w8 ⟨v5,v6,v7,v31,v32,v33,v34,v35,v36,v37,v38,v39,v40,v41,v42,v43,v44,v45,v46,v47,v48,v49,v50,v51,v52,v53,v54,rfl,hb8⟩
 simp only [C8,Act.put,St.tS,St.tC,St.tZ]
 obtain ⟨D,m0,m1,m2,y0,y1,y2,va,vc,oa,oc,rfl,rfl,rfl,hDs,hD8,i1,i2,p1,p2,p3,p4,hb8⟩:=hb8
 have hA8:=hlo.below hb8
 have hF8:Frm (fun b=>¬M b∧b<w.heap.size) R w w8:=Frm.of hb8 hR8
 have hs8:=hb8.size
 clear hSof hS0 HC hlo hb8
 by_cases he:er=0
 case neg=>
  have hE:=HE.out
  rw [if_pos he] at hE
  have HE1:=Lib.hid hE
  have he':(er !=0)=true:=by rw [bne_iff_ne];exact he
  have hO:F6 H M lka lkc R N t w n w8:=⟨M,V,hA8.wideH (fun b _ hb hh=>by first|exact hb (.inr hh)|exact hb.1 (.inr hh)|exact hb.2.2 (.inr hh)|(have:=hH b hh;omega)),hF8.weak (fun b hb hm=>.inl ⟨hm,hb⟩) (Nat.le_refl _),fun b hb=>.inl hb⟩
  clear he hE HE HRR HROW HFIT hA8 p1 p2 p3 p4
  go_wp2
  go_ret;rw [HE1.out];exact ⟨rfl,hO⟩
 subst he
 have hE:=HE.out
 rw [if_neg (by decide)] at hE
 have HE1:=Lib.hid hE
 obtain ⟨ft1,ft2,ft3⟩:=HFIT.out rfl
 clear hE HE HFIT
 have r11:w8.cell? ⟨R,11,none⟩=some (.slice (some ⟨V.bb,0,none⟩) N N):=hA8.box.cells.1 11
 have t11:=(HRR.out _ _ _ _ _ hA8 rfl).1
 rw [HA.out,show (x::r).length=r.length+1 from rfl] at t11
 have hbbl:=hA8.bks.blk.lt
 have hl9:(1:Int)≤(r.length:Int)+1:=by omega
 obtain ⟨ad,hadE⟩:∃ ad,(if (V.fb s).2=1 then some (⟨g,q,none⟩:Addr) else some ⟨g,q+1,none⟩)=ad:=⟨_,rfl⟩
 have had:ad=some ⟨g,q+C2.size,none⟩∨((V.fb s).2=1∧ad=some ⟨g,q,none⟩):=by
  subst hadE
  split
  ·rename_i hc;exact .inr ⟨hc,rfl⟩
  ·exact .inl rfl
 have HAD:=Lib.hid had
 have hDM:¬M D:=fun hm=>by have:=hMl D hm;omega
 have hokM:∀ b,(w.heap.size≤b∧b≠D)→¬(M b∨H b):=fun b hb hm=>by have:=hm.elim (hMl b) (hH b);omega
 obtain ⟨lm0,lm1,lm2⟩:=B7.one p1
 obtain ⟨ly0,ly1,ly2⟩:=B7.one p2
 obtain ⟨lp0,lp1,lp2⟩:=B7.st (P:=Tryz.prog) p1
 obtain ⟨lq0,lq1,lq2⟩:=B7.st (P:=Tryz.prog) p2
 have hS0:SQ2 R 11 V.bb s (.slice (some ⟨V.bb,0,none⟩) N N) (.slice (some ⟨g,q,none⟩) (r.length+1) (V.fb s).2) w8.drew:=⟨r11,t11⟩
 clear had h hf
 go_wp2
 refine B9 (SQ2 R 11 V.bb s (.slice (some ⟨V.bb,0,none⟩) N N) (.slice (some ⟨g,q,none⟩) (r.length+1) (V.fb s).2)) 16 (fun a0 a' w'=>∃ v58 v59 v60 v61 v62 v63 v64 v65 v66 v67 v68 v69 v70 v71 v72 v73,a'=C8 a0 [(58,v58),(59,v59),(60,v60),(61,v61),(62,v62),(63,v63),(64,v64),(65,v65),(66,v66),(67,v67),(68,v68),(69,v69),(70,v70),(71,v71),(72,v72),(73,v73)]∧C9 (fun b=>¬(M b∨H b)∧b<w.heap.size) M lka lkc R N t w' {n with backs:=n.backs.set s r} {V with fb:=upd V.fb s (ad,(V.fb s).2 - 1)}∧Frm (fun b=>¬M b) R w8 w') (by kernel_rfl) ?_ ?_
 ·intro Q' hR hQp
  have hb0:Below w8.heap.size w8 w8.drew:=N4 _
  have hS:SQ2 R 11 V.bb s (.slice (some ⟨V.bb,0,none⟩) N N) (.slice (some ⟨g,q,none⟩) (r.length+1) (V.fb s).2) w8.drew:=hS0
  generalize w8.drew=wa at *
  have hAa:=hA8.below hb0
  refine A9 hQp hS [0,5,6,11,1,7,2,8,3,9,4,10,12,13,14,15] ?_
  iterate 16 (refine B2 _ rfl (by kernel_rfl) (A0 (by kernel_rfl) (by intro w0 hw0;have hw1:=hw0;simp only [SQ2] at hw1;first|(go_simp;done)|(go_simp;rfl))) ?_;simp only [Act.put,St.tA,St.tD,St.tE,St.tS,St.tC,St.tZ])
  refine B3 ?_
  have hca:=hS.2
  clear hS
  have hoa:V.bb<wa.heap.size:=by have:=hb0.size;omega
  have hfa:=hAa.bks.blk.cells.2
  refine A7 (i:=16) rfl (by kernel_rfl) (by kernel_rfl) fun K16 hK16=>?_
  go_simp
  go_wp2_with fail
  obtain ⟨hA9,hF9⟩:=hAa.takeBack hsn HROW.out hfo.out HAD.out
  refine hK16 _ _ (fun h=>absurd rfl h) ?_
  clear hK16
  refine B5 (by kernel_rfl) ?_ _
  refine hR _ _ ?_
  iterate 16 apply Exists.intro
  refine ⟨?_,⟨hA9,(Frm.of hb0 (by have:=hA8.size;omega)).trans hF9⟩⟩
  simp only [C8,Act.put,St.tS,St.tC,St.tZ]
  rfl
 rintro a' w8 ⟨v58,v59,v60,v61,v62,v63,v64,v65,v66,v67,v68,v69,v70,v71,v72,v73,rfl,hb8⟩
 simp only [C8,Act.put,St.tS,St.tC,St.tZ]
 obtain ⟨hA9,hF9⟩:=hb8
 rename World=>w9
 have hD9:=hF9.blk hD8 (.inl hDM)
 have p1':=C3.anyOk (hF9.rep' p1 (fun b hb=>.inl (fun hm=>hokM b hb (.inl hm)))) (fun b _ hb=>hokM b hb)
 have p2':=C3.anyOk (hF9.rep' p2 (fun b hb=>.inl (fun hm=>hokM b hb (.inl hm)))) (fun b _ hb=>hokM b hb)
 have p3':=(hF9.row' p3 (fun b hb=>.inl (fun hm=>hokM b hb (.inl hm)))).anyOk (fun b _ hb=>hokM b hb)
 have p4':=(hF9.row' p4 (fun b hb=>.inl (fun hm=>hokM b hb (.inl hm)))).anyOk (fun b _ hb=>hokM b hb)
 have hAw:=hA9.wideH (fun b _ hb hh=>by first|exact hb (.inr hh)|exact hb.1 (.inr hh)|exact hb.2.2 (.inr hh)|(have:=hH b hh;omega))
 have hF10:=hF8.trans (hF9.weak (V:=fun b=>¬M b∧b<w.heap.size) (fun b _ hb=>.inl hb.1) (Nat.le_refl _))
 have hs9:=hF9.size
 clear hA8 hD8 p1 p2 p3 p4 hF8 hF9 hA9 hS0 hadE t11 r11
 obtain ⟨hA10,hFc⟩:=hAw.setCtl (c:=⟨st,no,ne,nu,ws⟩) i1 i2 p1' p2' p3'
 have p4c:=hFc.row' p4' (fun b hb=>.inl (fun hm=>hb (.inl hm)))
 have z2:=hAw.box.cells.2
 obtain ⟨d1,d2⟩:=hD9.cells
 have hDl:=hD9.lt
 have hRl9:=hAw.box.lt
 have z1:∀ o,w9.cell? ⟨R,o,none⟩=(#[.int .i64 n.ctl.stage,V.n0,V.n1,V.n2,V.x0,V.x1,V.x2,.int .i64 n.ctl.num,.slice V.qa n.ctl.waits.length V.qc,.slice (some ⟨V.sb,0,none⟩) N N,.slice (some ⟨V.ob,0,none⟩) N N,.slice (some ⟨V.bb,0,none⟩) N N,.slice V.pa n.packets.length V.pc,.slice V.la n.plans.length V.lc,.int .i64 ((N:Nat):Int),.slice lka t.links.length lkc])[o]? :=hAw.box.cells.1
 go_upto_region 8 with fail
 generalize (((((((((w9.setCell ⟨R,0,none⟩ (.int .i64 st)).setCell ⟨R,1,none⟩ m0).setCell ⟨R,2,none⟩ m1).setCell ⟨R,3,none⟩ m2).setCell ⟨R,4,none⟩ y0).setCell ⟨R,5,none⟩ y1).setCell ⟨R,6,none⟩ y2).setCell ⟨R,7,none⟩ (.int .i64 nu)).setCell ⟨R,8,none⟩ (.slice va ws.length vc))=w10 at *
 clear z1 z2 d1 d2 p1' p2' p3' p4' hAw hD9
 have hF12:=hF10.trans (hFc.weak (V:=fun b=>¬M b∧b<w.heap.size) (fun b _ hb=>.inl (hb.1)) (Nat.le_refl _))
 have hs10:=hFc.size
 go_wp2_with fail
 refine (A9d _ _ _ _ _ _ _ _ _ L oa oc w10 hA10 p4c ft2 hN (fun o ho=>by have:=HOB.out o ho;omega)).mono ?_
 rintro e w11 ⟨rfl,M3,V3,hA13,hF13,hM3⟩
 have hO:=F6.of hF12 (fun b hb=>.inl hb) hA13 (fun b _ hb hh=>by first|exact hb (.inr hh)|exact hb.1 (.inr hh)|exact hb.2.2 (.inr hh)|(have:=hH b hh;omega)) hF13 hM3
 clear hA10 hFc p4c hA13 hF13 hM3 hF12
 go_wp2
 go_ret;rw [HE1.out];exact ⟨rfl,hO⟩
end Go.Proofs.YtampcbncgofkoaaGreatDoor
