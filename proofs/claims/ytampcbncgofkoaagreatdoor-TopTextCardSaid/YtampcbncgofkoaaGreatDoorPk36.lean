/- Texts of this proof, one behind the other. -/
import Derived.Test.YtampcbncgofkoaaGreatDoorPk34
set_option linter.unusedSimpArgs false
set_option linter.unusedVariables false
set_option maxRecDepth 100000
set_option maxHeartbeats 16000000
namespace Go.St
open Go.RowKit
def SMv (R X sb s g q:Nat) (v9 v12 r:Value) (u0 u1 u2 u3 x:Value) (w:World):Prop:=w.cell? ⟨R,9,none⟩=some v9∧w.cell? ⟨R,12,none⟩=some v12∧w.cell? ⟨sb,s * 2,none⟩=some r∧w.cell? ⟨g,q,none⟩=some x∧w.cell? ⟨X,0,none⟩=some u0∧w.cell? ⟨X,1,none⟩=some u1∧w.cell? ⟨X,2,none⟩=some u2∧w.cell? ⟨X,3,none⟩=some u3
def SMw (R X:Nat) (v12:Value) (u0 u1 u2 u3:Value) (w:World):Prop:=w.cell? ⟨R,12,none⟩=some v12∧w.cell? ⟨X,0,none⟩=some u0∧w.cell? ⟨X,1,none⟩=some u1∧w.cell? ⟨X,2,none⟩=some u2∧w.cell? ⟨X,3,none⟩=some u3
end Go.St
namespace Go.Proofs.YtampcbncgofkoaaGreatDoor
open Go.RowKit Go.St
theorem A9s (H M:Nat→Prop) (lka:Option Addr) (lkc R N:Nat) (t:C5) (k:Nat) (n:Net) (V:RV) (j:Int) (hjI:I64 j) (w:World) (h:C9 (fun b=>¬(M b∨H b)) M lka lkc R N t w n V) (hf:F4 t k n) (hk:k≤1000) (hN:N≤8) (hH:∀ b,H b→b<w.heap.size):
  Calls Tryz.prog 33 #[.pointer (some ⟨R,0,none⟩),.int .i64 j] w fun e w'=>e=.returned (.int .i64 (M6 n j).2)∧F6 H M lka lkc R N t w (M6 n j).1 w':=by
 have htn:=h.tn
 have hRl:=h.box.lt
 have hE0:S7 n j=none→M6 n j=(n,6):=fun e=>by unfold M6;rw [e]
 have hE2:=fun (p:N2) (e:S7 n j=some p)=>(show M6 n j=if p.done then (n,6) else ({n with packets:=n.packets.set j.toNat (A48 n.switches p)},0) by unfold M6;rw [e])
 have r12:w.cell? ⟨R,12,none⟩=some (.slice V.pa n.packets.length V.pc):=h.box.cells.1 12
 by_cases hin:0≤j∧j<(n.packets.length:Int)
 case neg=>
  have e:S7 n j=none:=by
   unfold S7
   split
   ·rfl
   ·exact List.getElem?_eq_none (by omega)
  rw [hE0 e]
  clear hE0 hE2 e
  go_enter Tryz.func33,Tryz.ntmps33
  by_cases h0:j<0
  ·clear hin
   go_wp2
   go_ret;exact ⟨rfl,F6.same h (Below.refl _ _)⟩
  ·have h1:j≥(n.packets.length:Int):=by omega
   clear hin
   go_wp2
   go_ret;exact ⟨rfl,F6.same h (Below.refl _ _)⟩
 obtain ⟨j,rfl⟩:∃ q:Nat,j=(q:Int):=⟨j.toNat,by omega⟩
 have hjl:j<n.packets.length:=by omega
 have h0:¬(j:Int)<0:=by omega
 have h1:¬(j:Int)≥(n.packets.length:Int):=by omega
 have h2:(j:Int)<(n.packets.length:Int):=by omega
 have h3:(0:Int)≤(j:Int):=by omega
 obtain ⟨p,hp⟩:∃ p,n.packets[j]? =some p:=⟨_,List.getElem?_eq_getElem hjl⟩
 have hpa:S7 n (j:Int)=some p:=by unfold S7;rw [if_neg (by omega),Int.toNat_natCast];exact hp
 have hE3:=hE2 p hpa
 rw [Int.toNat_natCast] at hE3
 clear hE0 hE2 hpa
 obtain ⟨g,q,cs,ha,_,hgl,hpr,hce,hgf,_⟩:=h.pks.at hp
 obtain ⟨ta,tc,rfl,pI1,pI2,ptr⟩:=hpr
 have p0:=hce 0 _ rfl
 have p1:=hce 1 _ rfl
 have p2:=hce 2 _ rfl
 have p3:=hce 3 _ rfl
 have hs4:K0.size=4:=rfl
 rw [hs4] at p0 p1 p2 p3
 simp only [Nat.add_zero] at p0
 rw [ha] at r12
 obtain ⟨L,hL⟩:∃ L,n.packets.length=L:=⟨_,rfl⟩
 have HL:=Lib.hid hL
 rw [hL] at r12 h1 h2
 have HPK:=Lib.hid hp
 have hpm:=hf.pk p (List.mem_of_getElem? hp)
 have HE:=Lib.hid hE3
 have HA:=Lib.hid ha
 clear hE3 hce hL hp ha hjl
 by_cases hd:p.done=true
 ·have hE:=HE.out
  rw [if_pos hd] at hE
  rw [hE]
  rw [hd] at p3
  clear hE HE
  go_enter Tryz.func33,Tryz.ntmps33
  go_wp2
  go_ret;exact ⟨rfl,F6.same h (Below.refl _ _)⟩
 have hd0:p.done=false:=by simpa using hd
 have hE:=HE.out
 rw [if_neg hd] at hE
 have HE1:=Lib.hid hE
 rw [hd0] at p3
 clear hE HE hd
 have hMl:∀ b,M b→b<w.heap.size:=fun b hb=>(h.rng b hb).2
 have hXM:¬M w.heap.size:=fun hm=>by have:=hMl _ hm;omega
 have hR8:=h.size
 obtain ⟨tr1,tr2,tr3⟩:=hpm
 have hgM:M g:=h.mp g (by rw [HA.out];rfl)
 have hX:=I6 w 59 #[.int .i64 p.flow,.int .i64 p.ver,.slice ta p.trace.length tc,.bool false]
 have hbx:=G8 w (.cells #[.int .i64 p.flow,.int .i64 p.ver,.slice ta p.trace.length tc,.bool false] 59)
 have hlo:=h.here
 have hA2:=hlo.below hbx
 have ptr2:=ptr.below hbx
 have hs2:(w.alloc (.cells #[.int .i64 p.flow,.int .i64 p.ver,.slice ta p.trace.length tc,.bool false] 59)).heap.size=w.heap.size+1:=by simp
 go_enter Tryz.func33,Tryz.ntmps33
 go_upto_region 4 with fail
 clear p0 p1 p2 p3 r12 ptr h
 generalize w.alloc _=w2 at *
 obtain ⟨x1,x2⟩:=hX.cells
 have hXl:=hX.lt
 go_wp2_with fail
 refine (R7 p.trace _ ta tc w2 ptr2 (by omega)).mono ?_
 rintro e w3 ⟨ca,cc,rfl,hown,hb3⟩
 have hX3:=hX.under hb3
 have hA3:=hA2.below hb3
 have hs3:=hb3.size
 have hF3:Frm (fun b=>¬M b∧b<w.heap.size) R w w3:=Frm.of (hbx.trans (hb3.mono hbx.size)) hR8
 clear hA2 hX x1 x2 hbx hb3
 have hX4:=hX3.set 2 (.slice ca p.trace.length cc)
 simp only [St.tS,St.tC,St.tZ] at hX4
 have hFx:Frm (fun b=>b≠w.heap.size) w.heap.size w3 (w3.setCell ⟨w.heap.size,2,none⟩ (.slice ca p.trace.length cc)):=Frm.set (a:=⟨w.heap.size,2,none⟩) (fun h=>h rfl) (Nat.le_refl _) _
 obtain ⟨x1,x2⟩:=hX3.cells
 have hXl3:=hX3.lt
 have hW4:∀ b,b<w3.heap.size→M b∨(¬(M b∨H b)∧b<w.heap.size)→b≠w.heap.size∨b<0:=fun b _ hb=>.inl (by
  rcases hb with hb|hb
  ·have:=hMl b hb;omega
  ·omega)
 have hA4:=hA3.frm (I':=fun b=>¬(M b∨H b)∧b<w.heap.size) (W:=fun b=>b≠w.heap.size) (B:=0) (hFx.weak (fun b _ hb=>.inl hb) (Nat.zero_le _)) hW4 (fun _ _ hb=>hb) hA3.im
 have hown4:=hown.setAt (a:=⟨w.heap.size,2,none⟩) (fun e=>by have:=(hown.lt _ e).1;simp at this;omega) (fun h=>h.elim) (.slice ca p.trace.length cc)
 have hF4:=hF3.trans (hFx.weak (V:=fun b=>¬M b∧b<w.heap.size) (fun b _ hb=>.inl (by omega)) hR8)
 have hs4':(w3.setCell ⟨w.heap.size,2,none⟩ (.slice ca p.trace.length cc)).heap.size=w3.heap.size:=by simp
 go_upto_region 5 with fail
 generalize (w3.setCell ⟨w.heap.size,2,none⟩ (.slice ca p.trace.length cc))=w4 at *
 clear x1 x2 hA3 hX3 hown hF3 hFx hW4
 obtain ⟨m,hm⟩:∃ m,p.trace.length=m+1:=⟨p.trace.length - 1,by have:=List.length_pos_iff.2 tr1;omega⟩
 obtain ⟨x,hx⟩:∃ x,p.trace[m]? =some x:=⟨_,List.getElem?_eq_getElem (by omega)⟩
 have hlast:p.trace.getLastD 0=x:=by
  rw [List.getLastD_eq_getLast?,List.getLast?_eq_getElem?,show p.trace.length - 1=m by omega,hx];rfl
 have hxr:=tr3 x (List.mem_of_getElem? hx)
 obtain ⟨s,rfl⟩:∃ s:Nat,x=(s:Int):=⟨x.toNat,by omega⟩
 have hsn:s<N:=by omega
 obtain ⟨g2,cs2,hca,_,hg2,_,hr2,hc2,_,_⟩:=hown4.at hx
 obtain ⟨rfl,hsI⟩:=hr2
 subst hca
 have y0:=hc2 0 _ rfl
 simp only [show C2.size=1 from rfl,Nat.mul_one,Nat.add_zero] at y0
 have hsl:s<n.switches.length:=by rw [hA4.sws.len];exact hsn
 obtain ⟨sw,hsw⟩:∃ x,n.switches[s]? =some x:=⟨_,List.getElem?_eq_getElem hsl⟩
 obtain ⟨sg,sq,scs,sa,_,hsgl,hswr,hsce,_,_⟩:=hA4.sws.at hsw
 obtain ⟨rfl,rfl⟩:V.sb=sg∧0=sq:=by simpa using sa
 obtain ⟨ra,rc,sa2,sc2,rfl,hrr,hss⟩:=hswr
 have s1:=hsce 0 _ rfl
 rw [show E8.size=2 from rfl] at s1
 simp only [Nat.zero_add,Nat.add_zero] at s1
 have hrl:=hrr.len_le
 have hG:A48 n.switches p=if (C0z sw.rules p.ver p.flow).2=true then {p with trace:=p.trace++[(C0z sw.rules p.ver p.flow).1]} else {p with done:=true}:=by
  unfold A48
  rw [hlast,Int.toNat_natCast,List.getD_eq_getElem?_getD,hsw]
  rfl
 have HG:=Lib.hid hG
 have hNX:=fun (w':World) (hb:Below w4.heap.size w4 w')=>B59 sw.rules p.ver p.flow _ ra rc w' (hrr.below hb)
 have hnI:(C0z sw.rules p.ver p.flow).2=true→I64 (C0z sw.rules p.ver p.flow).1:=fun e=>by
  obtain ⟨r,hr,_,_,e3⟩:=A4s e
  have:=hf.tab sw (List.mem_of_getElem? hsw) r hr
  rw [e3];exact ⟨by omega,by omega⟩
 have HNI:=Lib.hid hnI
 generalize C0z sw.rules p.ver p.flow=nx at *
 obtain ⟨nx,nb⟩:=nx
 dsimp only at *
 have HNX:=Lib.hid hNX
 have hwm:IntKind.i64.wrap ((p.trace.length:Int) - 1)=(m:Int):=by rw [show (p.trace.length:Int) - 1=(m:Int) by omega];exact IntWalk.i64_in _ (by omega)
 have hm1:(m:Int)<(p.trace.length:Int):=by omega
 have hm0:(0:Int)≤(m:Int):=by omega
 have hm2:m<p.trace.length:=by omega
 have hs1':(s:Int)<(N:Int):=by omega
 have hs0':(0:Int)≤(s:Int):=by omega
 have HLEN:=Lib.hid hm
 have hSof:∀ w',Below w4.heap.size w4 w'→SMv R w.heap.size V.sb s g2 m (.slice (some ⟨V.sb,0,none⟩) N N) (.slice (some ⟨g,q,none⟩) L V.pc) (.slice ra sw.rules.length rc) (.int .i64 p.flow) (.int .i64 p.ver) (.slice (some ⟨g2,0,none⟩) p.trace.length cc) (.bool false) (.int .i64 ((s:Nat):Int)) w':=fun w' hb=>⟨(hA4.below hb).box.cells.1 9,by have:=(hA4.below hb).box.cells.1 12;rw [this];show some (Value.slice V.pa n.packets.length V.pc)=_;rw [HA.out,HL.out],B8 hb hsgl s1,B8 hb hg2 y0,(hX4.under hb).cells.1 0,(hX4.under hb).cells.1 1,(hX4.under hb).cells.1 2,(hX4.under hb).cells.1 3⟩
 have hS0:SMv R w.heap.size V.sb s g2 m (.slice (some ⟨V.sb,0,none⟩) N N) (.slice (some ⟨g,q,none⟩) L V.pc) (.slice ra sw.rules.length rc) (.int .i64 p.flow) (.int .i64 p.ver) (.slice (some ⟨g2,0,none⟩) p.trace.length cc) (.bool false) (.int .i64 ((s:Nat):Int)) w4.drew:=hSof _ (by (repeat' (first|with_reducible (first|exact Below.refl _ _|assumption|refine Below.drew ?_|refine A3 ?_ _|refine Below.alloc ?_ ?_ _|refine Below.setCell ?_ ?_ _)|omega|(simp;done)|(simp;omega))))
 clear hm hx hlast tr1 tr3 hc2 hsce sa hNX hnI hG s1 y0
 refine B9 (SMv R w.heap.size V.sb s g2 m (.slice (some ⟨V.sb,0,none⟩) N N) (.slice (some ⟨g,q,none⟩) L V.pc) (.slice ra sw.rules.length rc) (.int .i64 p.flow) (.int .i64 p.ver) (.slice (some ⟨g2,0,none⟩) p.trace.length cc) (.bool false) (.int .i64 ((s:Nat):Int))) 99 (fun a0 a' w'=>∃ v43 v44 v45 v46 v47 v48 v49 v50 v51 v52 v53 v54 v55 v56 v57 v58 v59 v60 v61 v62 v63 v64 v65 v66,a'=C8 a0 [(43,v43),(44,v44),(45,v45),(46,v46),(47,v47),(48,v48),(49,v49),(50,v50),(51,v51),(52,v52),(53,v53),(54,v54),(55,v55),(56,v56),(57,v57),(58,v58),(59,v59),(60,v60),(61,v61),(62,v62),(63,v63),(64,v64),(65,v65),(66,v66),(6,.int .i64 nx),(7,.bool nb)]∧Below w4.heap.size w4 w') (by kernel_rfl) ?_ ?_
 ·intro Q' hR hQp
  have hb0:Below w4.heap.size w4 w4.drew:=N4 _
  have hS:SMv R w.heap.size V.sb s g2 m (.slice (some ⟨V.sb,0,none⟩) N N) (.slice (some ⟨g,q,none⟩) L V.pc) (.slice ra sw.rules.length rc) (.int .i64 p.flow) (.int .i64 p.ver) (.slice (some ⟨g2,0,none⟩) p.trace.length cc) (.bool false) (.int .i64 ((s:Nat):Int)) w4.drew:=hS0
  generalize w4.drew=wa at *
  have hX5:=hX4.under hb0
  refine A9 hQp hS [0,5,7,16,18,1,6,8,17,19,2,9,3,10,4,11,12,13,14,15] ?_
  iterate 20 (refine B2 _ rfl (by kernel_rfl) (A0 (by kernel_rfl) (by intro w0 hw0;have hw1:=hw0;simp only [SMv] at hw1;first|(go_simp;done)|(go_simp;rfl))) ?_;simp only [Act.put,St.tA,St.tD,St.tE,St.tS,St.tC,St.tZ])
  refine B3 ?_
  clear hS
  refine A7 (i:=20) rfl (by kernel_rfl) (by kernel_rfl) fun K20 hK20=>?_
  go_simp
  go_wp2_with fail
  refine (HNX.out wa hb0).mono ?_
  rintro e wb ⟨rfl,hab⟩
  have hb1:=hb0.trans (hab.mono hb0.size)
  go_wp2_with fail
  have hS:_:=hSof _ hb1
  refine hK20 _ _ (fun _=>hS) ?_
  clear hK20
  refine A9 hQp hS [21,22,23,24,25] ?_
  iterate 5 (refine B2 _ rfl (by kernel_rfl) (A0 (by kernel_rfl) (by intro w0 hw0;have hw1:=hw0;simp only [SMv] at hw1;first|(go_simp;done)|(go_simp;rfl))) ?_;simp only [Act.put,St.tA,St.tD,St.tE,St.tS,St.tC,St.tZ])
  refine B3 ?_
  refine B5 (by kernel_rfl) ?_ _
  refine hR _ _ ?_
  iterate 24 apply Exists.intro
  refine ⟨?_,hb1⟩
  simp only [C8,Act.put,St.tS,St.tC,St.tZ]
  rfl
 rintro a' w8 ⟨v43,v44,v45,v46,v47,v48,v49,v50,v51,v52,v53,v54,v55,v56,v57,v58,v59,v60,v61,v62,v63,v64,v65,v66,rfl,hb8⟩
 simp only [C8,Act.put,St.tS,St.tC,St.tZ]
 rename World=>w5
 have hX5:=hX4.under hb8
 have hA5:=hA4.below hb8
 have hown5:=hown4.below hb8
 have hF5:=hF4.trans (Frm.of hb8 (by omega))
 have hs5:=hb8.size
 clear hSof hS0 HNX hA4 hX4 hown4 hF4 hb8 hrr hss
 cases nb with
 |false=>
  have hGf:=HG.out
  rw [if_neg (by decide)] at hGf
  have HGF:=Lib.hid hGf
  clear hGf HG HNI
  have hX6:=hX5.set 3 (.bool true)
  simp only [St.tS,St.tC,St.tZ] at hX6
  have hFx:Frm (fun b=>b≠w.heap.size) w.heap.size w5 (w5.setCell ⟨w.heap.size,3,none⟩ (.bool true)):=Frm.set (a:=⟨w.heap.size,3,none⟩) (fun h=>h rfl) (Nat.le_refl _) _
  have hW4:∀ b,b<w5.heap.size→M b∨(¬(M b∨H b)∧b<w.heap.size)→b≠w.heap.size∨b<0:=fun b _ hb=>.inl (by
   rcases hb with hb|hb
   ·have:=hMl b hb;omega
   ·omega)
  have hA6:=hA5.frm (I':=fun b=>¬(M b∨H b)∧b<w.heap.size) (W:=fun b=>b≠w.heap.size) (B:=0) (hFx.weak (fun b _ hb=>.inl hb) (Nat.zero_le _)) hW4 (fun _ _ hb=>hb) hA5.im
  have hown6:=hown5.setAt (a:=⟨w.heap.size,3,none⟩) (fun e=>by have:=(hown5.lt _ e).1;simp at this;omega) (fun h=>h.elim) (.bool true)
  have hF6:=hF5.trans (hFx.weak (V:=fun b=>¬M b∧b<w.heap.size) (fun b _ hb=>.inl (by omega)) hR8)
  have hs6:(w5.setCell ⟨w.heap.size,3,none⟩ (.bool true)).heap.size=w5.heap.size:=by simp
  have hrow:A8 C2 (fun b=>¬(M b∨H b)) (w5.setCell ⟨w.heap.size,3,none⟩ (.bool true)) (some ⟨g2,0,none⟩) cc p.trace:=hown6.row (fun _ h=>h.elim) (fun k2 hk2 hm=>by have:=(hown6.lt k2 hk2).1;have:=hm.elim (hMl k2) (hH k2);omega)
  obtain ⟨x1,x2⟩:=hX5.cells
  have hXl5:=hX5.lt
  go_upto_region 9 with fail
  generalize (w5.setCell ⟨w.heap.size,3,none⟩ (.bool true))=w6 at *
  clear x1 x2 hA5 hX5 hown5 hF5 hFx hW4
  have hln:((p.trace).length:Nat)=p.trace.length:=rfl
  have hy:K0.rep (fun b=>¬(M b∨H b)) w6 [.int .i64 p.flow,.int .i64 p.ver,.slice (some ⟨g2,0,none⟩) p.trace.length cc,.bool true] {p with done:=true}:=⟨_,_,by rw [←hln],pI1,pI2,hrow⟩
  have hAw:=hA6.wideH (fun b _ hb hh=>by first|exact hb (.inr hh)|exact hb.1 (.inr hh)|exact hb.2.2 (.inr hh)|(have:=hH b hh;omega))
  have hS0:SMw R w.heap.size (.slice (some ⟨g,q,none⟩) L V.pc) (.int .i64 p.flow) (.int .i64 p.ver) (.slice (some ⟨g2,0,none⟩) p.trace.length cc) (.bool true) w6.drew:=⟨by have:=hAw.box.cells.1 12;show w6.cell? _=_;rw [this];show some (Value.slice V.pa n.packets.length V.pc)=_;rw [HA.out,HL.out],hX6.cells.1 0,hX6.cells.1 1,hX6.cells.1 2,hX6.cells.1 3⟩
  clear hA6 hown6 hrow hln
  refine B9 (SMw R w.heap.size (.slice (some ⟨g,q,none⟩) L V.pc) (.int .i64 p.flow) (.int .i64 p.ver) (.slice (some ⟨g2,0,none⟩) p.trace.length cc) (.bool true)) 8 (fun a0 a' w'=>∃ v76 v77 v78 v79 v80 v81 v82 v83,a'=C8 a0 [(76,v76),(77,v77),(78,v78),(79,v79),(80,v80),(81,v81),(82,v82),(83,v83)]∧C9 (fun b=>¬(M b∨H b)) M lka lkc R N t w' {n with packets:=n.packets.set j (A48 n.switches p)} V∧Frm (fun b=>¬M b) R w6 w') (by kernel_rfl) ?_ ?_
  ·intro Q' hR hQp
   have hb0:Below w6.heap.size w6 w6.drew:=N4 _
   have hS:SMw R w.heap.size (.slice (some ⟨g,q,none⟩) L V.pc) (.int .i64 p.flow) (.int .i64 p.ver) (.slice (some ⟨g2,0,none⟩) p.trace.length cc) (.bool true) w6.drew:=hS0
   generalize w6.drew=wa at *
   have hAa:=hAw.below hb0
   have hya:=K0.below hy hb0
   obtain ⟨g1,q1,cs1,e1,_,hg1,hr1,hc1,hz9,cur9,hcur9⟩:=hAa.pks.at HPK.out
   rw [HA.out] at e1
   obtain ⟨rfl,rfl⟩:g=g1∧q=q1:=by simpa using e1
   obtain ⟨ta9,tc9,rfl,_,_,_⟩:=hr1
   have c0:=hc1 0 _ rfl
   have c1:=hc1 1 _ rfl
   have c2:=hc1 2 _ rfl
   have c3:=hc1 3 _ rfl
   rw [hs4] at c0 c1 c2 c3
   simp only [Nat.add_zero] at c0
   refine A9 hQp hS [0,5,6,1,2,3,4,7] ?_
   iterate 8 (refine B2 _ rfl (by kernel_rfl) (A0 (by kernel_rfl) (by intro w0 hw0;have hw1:=hw0;simp only [SMw] at hw1;first|(go_simp;done)|(go_simp;rfl))) ?_;simp only [Act.put,St.tA,St.tD,St.tE,St.tS,St.tC,St.tZ])
   refine B3 ?_
   clear hS
   refine A7 (i:=8) rfl (by kernel_rfl) (by kernel_rfl) fun K8 hK8=>?_
   go_simp
   go_wp2_with fail
   have hQ:=hAa.setPacket (s:=j) (g:=g) (q:=q) (x:=p) (y:=A48 n.switches p) (cs:=[.int .i64 p.flow,.int .i64 p.ver,.slice (some ⟨g2,0,none⟩) p.trace.length cc,.bool true]) HA.out HPK.out rfl (by rw [HGF.out];exact hya)
   rw [hs4] at hQ
   obtain ⟨hAb,hFb⟩:=hQ
   refine hK8 _ _ (fun h=>absurd rfl h) ?_
   clear hK8
   refine B5 (by kernel_rfl) ?_ _
   refine hR _ _ ?_
   iterate 8 apply Exists.intro
   refine ⟨?_,⟨hAb,(Frm.of hb0 (by have:=hAw.size;omega)).trans hFb⟩⟩
   simp only [C8,Act.put,St.tS,St.tC,St.tZ]
   rfl
  rintro a' w8 ⟨v76,v77,v78,v79,v80,v81,v82,v83,rfl,hb8⟩
  simp only [C8,Act.put,St.tS,St.tC,St.tZ]
  obtain ⟨hA9,hF9⟩:=hb8
  have hO:=F6.of hF6 (fun b hb=>.inl hb) hA9 (fun b _ hb hh=>by first|exact hb (.inr hh)|exact hb.1 (.inr hh)|exact hb.2.2 (.inr hh)|(have:=hH b hh;omega)) hF9 (fun b hb=>.inl hb)
  clear hA9 hF9 hF6 hAw hy hX6 hS0
  go_wp2
  go_ret;rw [HE1.out];exact ⟨rfl,hO⟩
 |true=>
  have hGf:=HG.out
  rw [if_pos rfl] at hGf
  have HGF:=Lib.hid hGf
  have hnxI:=HNI.out rfl
  clear hGf HG HNI
  obtain ⟨i0,hi,hz0,hz1,hz2⟩:=info_parts P6
  have hsrc:D7 C2 (fun _=>False) (w5.alloc (.cells #[.int .i64 nx] 3)) (some ⟨w5.heap.size,0,none⟩) [nx]:=D7.ints [nx] rfl (by intro y hy;obtain rfl:y=nx:=(by simpa using hy);exact hnxI)
  have hba:=G8 w5 (.cells #[.int .i64 nx] 3)
  have hownA:=hown5.below hba
  have hXA:=hX5.under hba
  have hAA:=hA5.below hba
  have hFA:=hF5.trans (Frm.of hba (by omega))
  have hsA:(w5.alloc (.cells #[.int .i64 nx] 3)).heap.size=w5.heap.size+1:=by simp
  obtain ⟨x1,x2⟩:=hX5.cells
  have hXl5:=hX5.lt
  go_wp2_with (at_builtin;go_must (refine H4 (sh:=C2) (base:=w2.heap.size) (n:=p.trace.length) (m:=1) rfl _ _ 41 rfl 3 i0 (.int .i64 0) 8 Tryz.underlying41 hi hz0 hz1 hz2 rfl (by decide) rfl hownA rfl rfl hsrc (by simp only [maxLen];omega) (by omega) (by omega) ?_);go_must (intro ra9 rc9 wz hO9 hg9 hd9;have hXz:=hXA.grown hg9 (fun e=>by have:=(hownA.lt _ e.symm).1;omega);have hFz:=Frm.grown (W:=fun b=>b<w2.heap.size) (B:=w2.heap.size) hg9 (fun k hk=>⟨fun hc=>by have:=(hownA.lt k hk).1;omega,(hownA.lt k hk).1⟩) (by omega);obtain ⟨z1,z2⟩:=hXz.cells;have hXlz:=hXz.lt))
  have hAz:=hAA.frm (I':=fun b=>¬(M b∨H b)∧b<w.heap.size) hFz (fun b _ hb=>.inl (by
   rcases hb with hb|hb
   ·have:=hMl b hb;omega
   ·omega)) (fun _ _ hb=>hb) hAA.im
  have hX6:=hXz.set 2 (.slice ra9 (p.trace.length+1) rc9)
  simp only [St.tS,St.tC,St.tZ] at hX6
  have hFx:Frm (fun b=>b≠w.heap.size) w.heap.size wz (wz.setCell ⟨w.heap.size,2,none⟩ (.slice ra9 (p.trace.length+1) rc9)):=Frm.set (a:=⟨w.heap.size,2,none⟩) (fun h=>h rfl) (Nat.le_refl _) _
  have hW4:∀ b,b<wz.heap.size→M b∨(¬(M b∨H b)∧b<w.heap.size)→b≠w.heap.size∨b<0:=fun b _ hb=>.inl (by
   rcases hb with hb|hb
   ·have:=hMl b hb;omega
   ·omega)
  have hA6:=hAz.frm (I':=fun b=>¬(M b∨H b)∧b<w.heap.size) (W:=fun b=>b≠w.heap.size) (B:=0) (hFx.weak (fun b _ hb=>.inl hb) (Nat.zero_le _)) hW4 (fun _ _ hb=>hb) hAz.im
  have hown6:=hO9.setAt (a:=⟨w.heap.size,2,none⟩) (fun e=>by have:=(hO9.lt _ e).1;simp at this;omega) (fun h=>h.elim) (.slice ra9 (p.trace.length+1) rc9)
  have hF6:=(hFA.trans (hFz.weak (V:=fun b=>¬M b∧b<w.heap.size) (fun b _ hb=>.inl (by omega)) (by omega))).trans (hFx.weak (V:=fun b=>¬M b∧b<w.heap.size) (fun b _ hb=>.inl (by omega)) hR8)
  have hs6:(wz.setCell ⟨w.heap.size,2,none⟩ (.slice ra9 (p.trace.length+1) rc9)).heap.size=wz.heap.size:=by simp
  have hrow:A8 C2 (fun b=>¬(M b∨H b)) (wz.setCell ⟨w.heap.size,2,none⟩ (.slice ra9 (p.trace.length+1) rc9)) ra9 rc9 (p.trace++[nx]):=hown6.row (fun _ h=>h.elim) (fun k2 hk2 hm=>by have:=(hown6.lt k2 hk2).1;have:=hm.elim (hMl k2) (hH k2);omega)
  generalize (wz.setCell ⟨w.heap.size,2,none⟩ (.slice ra9 (p.trace.length+1) rc9))=w6 at *
  clear z1 z2 x1 x2 hA5 hX5 hown5 hF5 hFx hW4 hAz hAA hXA hownA hFA hO9 hXz hFz hg9 hd9 hsrc hba
  have hln:((p.trace++[nx]).length:Nat)=(p.trace.length+1):=by simp
  have hy:K0.rep (fun b=>¬(M b∨H b)) w6 [.int .i64 p.flow,.int .i64 p.ver,.slice ra9 (p.trace.length+1) rc9,.bool false] {p with trace:=p.trace++[nx]}:=⟨_,_,by rw [←hln];show _=[_,_,_,Value.bool p.done];rw [hd0],pI1,pI2,hrow⟩
  have hAw:=hA6.wideH (fun b _ hb hh=>by first|exact hb (.inr hh)|exact hb.1 (.inr hh)|exact hb.2.2 (.inr hh)|(have:=hH b hh;omega))
  have hS0:SMw R w.heap.size (.slice (some ⟨g,q,none⟩) L V.pc) (.int .i64 p.flow) (.int .i64 p.ver) (.slice ra9 (p.trace.length+1) rc9) (.bool false) w6.drew:=⟨by have:=hAw.box.cells.1 12;show w6.cell? _=_;rw [this];show some (Value.slice V.pa n.packets.length V.pc)=_;rw [HA.out,HL.out],hX6.cells.1 0,hX6.cells.1 1,hX6.cells.1 2,hX6.cells.1 3⟩
  clear hA6 hown6 hrow hln
  refine B9 (SMw R w.heap.size (.slice (some ⟨g,q,none⟩) L V.pc) (.int .i64 p.flow) (.int .i64 p.ver) (.slice ra9 (p.trace.length+1) rc9) (.bool false)) 8 (fun a0 a' w'=>∃ v76 v77 v78 v79 v80 v81 v82 v83,a'=C8 a0 [(76,v76),(77,v77),(78,v78),(79,v79),(80,v80),(81,v81),(82,v82),(83,v83)]∧C9 (fun b=>¬(M b∨H b)) M lka lkc R N t w' {n with packets:=n.packets.set j (A48 n.switches p)} V∧Frm (fun b=>¬M b) R w6 w') (by kernel_rfl) ?_ ?_
  ·intro Q' hR hQp
   have hb0:Below w6.heap.size w6 w6.drew:=N4 _
   have hS:SMw R w.heap.size (.slice (some ⟨g,q,none⟩) L V.pc) (.int .i64 p.flow) (.int .i64 p.ver) (.slice ra9 (p.trace.length+1) rc9) (.bool false) w6.drew:=hS0
   generalize w6.drew=wa at *
   have hAa:=hAw.below hb0
   have hya:=K0.below hy hb0
   obtain ⟨g1,q1,cs1,e1,_,hg1,hr1,hc1,hz9,cur9,hcur9⟩:=hAa.pks.at HPK.out
   rw [HA.out] at e1
   obtain ⟨rfl,rfl⟩:g=g1∧q=q1:=by simpa using e1
   obtain ⟨ta9,tc9,rfl,_,_,_⟩:=hr1
   have c0:=hc1 0 _ rfl
   have c1:=hc1 1 _ rfl
   have c2:=hc1 2 _ rfl
   have c3:=hc1 3 _ rfl
   rw [hs4] at c0 c1 c2 c3
   simp only [Nat.add_zero] at c0
   refine A9 hQp hS [0,5,6,1,2,3,4,7] ?_
   iterate 8 (refine B2 _ rfl (by kernel_rfl) (A0 (by kernel_rfl) (by intro w0 hw0;have hw1:=hw0;simp only [SMw] at hw1;first|(go_simp;done)|(go_simp;rfl))) ?_;simp only [Act.put,St.tA,St.tD,St.tE,St.tS,St.tC,St.tZ])
   refine B3 ?_
   clear hS
   refine A7 (i:=8) rfl (by kernel_rfl) (by kernel_rfl) fun K8 hK8=>?_
   go_simp
   go_wp2_with fail
   have hQ:=hAa.setPacket (s:=j) (g:=g) (q:=q) (x:=p) (y:=A48 n.switches p) (cs:=[.int .i64 p.flow,.int .i64 p.ver,.slice ra9 (p.trace.length+1) rc9,.bool false]) HA.out HPK.out rfl (by rw [HGF.out];exact hya)
   rw [hs4] at hQ
   obtain ⟨hAb,hFb⟩:=hQ
   refine hK8 _ _ (fun h=>absurd rfl h) ?_
   clear hK8
   refine B5 (by kernel_rfl) ?_ _
   refine hR _ _ ?_
   iterate 8 apply Exists.intro
   refine ⟨?_,⟨hAb,(Frm.of hb0 (by have:=hAw.size;omega)).trans hFb⟩⟩
   simp only [C8,Act.put,St.tS,St.tC,St.tZ]
   rfl
  rintro a' w8 ⟨v76,v77,v78,v79,v80,v81,v82,v83,rfl,hb8⟩
  simp only [C8,Act.put,St.tS,St.tC,St.tZ]
  obtain ⟨hA9,hF9⟩:=hb8
  have hO:=F6.of hF6 (fun b hb=>.inl hb) hA9 (fun b _ hb hh=>by first|exact hb (.inr hh)|exact hb.1 (.inr hh)|exact hb.2.2 (.inr hh)|(have:=hH b hh;omega)) hF9 (fun b hb=>.inl hb)
  clear hA9 hF9 hF6 hAw hy hX6 hS0
  go_wp2
  go_ret;rw [HE1.out];exact ⟨rfl,hO⟩
end Go.Proofs.YtampcbncgofkoaaGreatDoor
