/- Texts of this proof, one behind the other. -/
import Derived.Test.YtampcbncgofkoaaPk39
set_option linter.unusedSimpArgs false
set_option linter.unusedVariables false
set_option maxRecDepth 100000
set_option maxHeartbeats 16000000
namespace Go.St
open Go.RowKit
theorem B7.cells3 {w:World} {ok:Nat→Prop} {n0 n1 n2:Value} {p:F5} (h:B7 w ok n0 n1 n2 p):∃ fa fc pa pc,n0=.int .i64 p.ver∧n1=.slice fa p.flows.length fc∧n2=.slice pa p.paths.length pc∧I64 p.ver∧A8 H6 ok w fa fc p.flows∧A8 (F7 C2) ok w pa pc p.paths:=by
 obtain ⟨fa,fc,pa,pc,e,h1,h2,h3⟩:=h
 simp at e
 exact ⟨fa,fc,pa,pc,e.1,e.2.1,e.2.2,h1,h2,h3⟩
end Go.St
namespace Go.Proofs.Ytampcbncgofkoaa
open Go.RowKit Go.St
theorem A7i {c:Ctl} {j:Int} {f:E0} (h0:0≤j) (h:c.next.flows[j.toNat]? =some f):P2 c j=some f:=by
 unfold P2;rw [if_neg (by omega),h];rfl
theorem A9e {c:Ctl} {j:Int} {f:E0} (h0:0≤j) (h1:¬j<(c.next.flows.length:Int)) (h:c.now.flows[j.toNat]? =some f):P2 c j=some f:=by
 unfold P2;rw [if_neg (by omega),List.getElem?_eq_none (by omega),h];rfl
theorem A7t {c:Ctl} {j:Int} (h1:¬(0≤j∧j<(c.next.flows.length:Int))) (h2:¬(0≤j∧j<(c.now.flows.length:Int))):P2 c j=none:=by
 unfold P2
 split
 ·rfl
 ·rw [List.getElem?_eq_none (by omega),List.getElem?_eq_none (by omega)];rfl
def B47 (c:Ctl) (j:Int) (e:Ending):Prop:=(∃ (f:E0) (va:Option Addr) (vc:Nat) (na:Option Addr) (nc:Nat),P2 c j=some f∧I64 f.src∧e=.returned (.tuple #[.agg #[.int .i64 f.src,.int .i64 f.dst,.slice va f.via.length vc,.slice na f.no.length nc],.bool true]))∨
 (P2 c j=none∧e=.returned (.tuple #[.agg #[.int .i64 0,.int .i64 0,.slice none 0 0,.slice none 0 0],.bool false]))
theorem A9b (I M:Nat→Prop) (lka:Option Addr) (lkc R N:Nat) (t:C5) (n:Net) (V:RV) (j:Int) (hjI:I64 j) (w:World) (h0:C9 I M lka lkc R N t w n V):
  Calls Try.prog 48 #[.pointer (some ⟨R,0,none⟩),.int .i64 j] w fun e w'=>B47 n.ctl j e∧Below w.heap.size w w':=by
 have h:=h0.here
 obtain ⟨a1,ac,a2,pc,e0,e1,e2,_,fr1,_⟩:=B7.cells3 h.next
 obtain ⟨b1_,bc,b2,qc,g0,g1,g2,_,fr2,_⟩:=B7.cells3 h.now
 have HEE:Hid (V.x0=.int .i64 n.ctl.next.ver∧V.x1=.slice a1 n.ctl.next.flows.length ac∧V.x2=.slice a2 n.ctl.next.paths.length pc∧V.n0=.int .i64 n.ctl.now.ver∧V.n1=.slice b1_ n.ctl.now.flows.length bc∧V.n2=.slice b2 n.ctl.now.paths.length qc):=⟨e0,e1,e2,g0,g1,g2⟩
 clear e0 e1 e2 g0 g1 g2
 have hZ:=I6 w 28 #[.int .i64 0,.int .i64 0,.slice none 0 0,.slice none 0 0]
 have hbz:=G8 w (.cells #[.int .i64 0,.int .i64 0,.slice none 0 0,.slice none 0 0] 28)
 have hA1:=h.below hbz
 have lx0:=h.next.one.1
 have lx1:=h.next.one.2.1
 have lx2:=h.next.one.2.2
 have ln0:=h.now.one.1
 have ln1:=h.now.one.2.1
 have ln2:=h.now.one.2.2
 have fx:∀ f,0≤j→n.ctl.next.flows[j.toNat]? =some f→P2 n.ctl j=some f:=fun f a b=>A7i a b
 have fn:∀ f,0≤j→¬j<(n.ctl.next.flows.length:Int)→n.ctl.now.flows[j.toNat]? =some f→P2 n.ctl j=some f:=fun f a b c=>A9e a b c
 have fz:=A7t (c:=n.ctl) (j:=j)
 have HFX:=Lib.hid fx
 have HFN:=Lib.hid fn
 have HFZ:=Lib.hid fz
 have hl1:=fr1.len_le
 have hl2:=fr2.len_le
 have hs1:(w.alloc (.cells #[.int .i64 0,.int .i64 0,.slice none 0 0,.slice none 0 0] 28)).heap.size=w.heap.size+1:=by simp
 clear fx fn fz
 go_enter Try.func48,Try.ntmps48
 go_upto_region 1 with fail
 generalize w.alloc _=w1 at *
 have hS0:SRc R #[.int .i64 n.ctl.stage,V.n0,V.n1,V.n2,V.x0,V.x1,V.x2,.int .i64 n.ctl.num,.slice V.qa n.ctl.waits.length V.qc,.slice (some ⟨V.sb,0,none⟩) N N,.slice (some ⟨V.ob,0,none⟩) N N,.slice (some ⟨V.bb,0,none⟩) N N,.slice V.pa n.packets.length V.pc,.slice V.la n.plans.length V.lc,.int .i64 ((N:Nat):Int),.slice lka t.links.length lkc] w1.drew:=hA1.box.cells.1
 refine B9 (SRc R #[.int .i64 n.ctl.stage,V.n0,V.n1,V.n2,V.x0,V.x1,V.x2,.int .i64 n.ctl.num,.slice V.qa n.ctl.waits.length V.qc,.slice (some ⟨V.sb,0,none⟩) N N,.slice (some ⟨V.ob,0,none⟩) N N,.slice (some ⟨V.bb,0,none⟩) N N,.slice V.pa n.packets.length V.pc,.slice V.la n.plans.length V.lc,.int .i64 ((N:Nat):Int),.slice lka t.links.length lkc]) 99 (fun a0 a' w'=>∃ v8 v9 v10 v11 v12 v13 v14 v15 v16 v17 v18 v19 v20,a'=C8 a0 [(8,v8),(9,v9),(10,v10),(11,v11),(12,v12),(13,v13),(14,v14),(15,v15),(16,v16),(17,v17),(18,v18),(19,v19),(20,v20),(21,.int .i64 2),(22,.int .i64 0)]∧∃ B,v20=.slice (some ⟨B,0,none⟩) 2 2∧A6 w' B 32 #[V.x0,V.x1,V.x2,V.n0,V.n1,V.n2]∧Below w1.heap.size w1 w') (by kernel_rfl) ?_ ?_
 ·intro Q' hR hQp
  have hb0:Below w1.heap.size w1 w1.drew:=N4 _
  have hS:SRc R #[.int .i64 n.ctl.stage,V.n0,V.n1,V.n2,V.x0,V.x1,V.x2,.int .i64 n.ctl.num,.slice V.qa n.ctl.waits.length V.qc,.slice (some ⟨V.sb,0,none⟩) N N,.slice (some ⟨V.ob,0,none⟩) N N,.slice (some ⟨V.bb,0,none⟩) N N,.slice V.pa n.packets.length V.pc,.slice V.la n.plans.length V.lc,.int .i64 ((N:Nat):Int),.slice lka t.links.length lkc] w1.drew:=hS0
  generalize w1.drew=wa at *
  have hAa:=hA1.below hb0
  refine A9 hQp hS [0,6,14,1,7,2,8,3,9,4,10,5,11] ?_
  iterate 13 (refine B2 _ rfl (by kernel_rfl) (A0 (by kernel_rfl) (by intro w0 hw0;have hw1:=hw0;simp only [SRc] at hw1;first|(go_simp;done)|(go_simp;rfl))) ?_;simp only [Act.put,St.tA,St.tD,St.tE,St.tS,St.tC,St.tZ])
  refine B3 ?_
  clear hS
  refine A7 (i:=12) rfl (by kernel_rfl) (by kernel_rfl) fun K12 hK12=>?_
  go_simp
  go_wp2_with fail
  have hb3:=G8 wa (.cells #[V.x0,V.x1,V.x2,V.n0,V.n1,V.n2] 32)
  have hNb:=I6 wa 32 #[V.x0,V.x1,V.x2,V.n0,V.n1,V.n2]
  have hS:_:=(show SRc R #[.int .i64 n.ctl.stage,V.n0,V.n1,V.n2,V.x0,V.x1,V.x2,.int .i64 n.ctl.num,.slice V.qa n.ctl.waits.length V.qc,.slice (some ⟨V.sb,0,none⟩) N N,.slice (some ⟨V.ob,0,none⟩) N N,.slice (some ⟨V.bb,0,none⟩) N N,.slice V.pa n.packets.length V.pc,.slice V.la n.plans.length V.lc,.int .i64 ((N:Nat):Int),.slice lka t.links.length lkc] _ from (hAa.below hb3).box.cells.1)
  refine hK12 _ _ (fun _=>hS) ?_
  clear hK12
  refine A9 hQp hS [13] ?_
  iterate 1 (refine B2 _ rfl (by kernel_rfl) (A0 (by kernel_rfl) (by intro w0 hw0;have hw1:=hw0;simp only [SRc] at hw1;first|(go_simp;done)|(go_simp;rfl))) ?_;simp only [Act.put,St.tA,St.tD,St.tE,St.tS,St.tC,St.tZ])
  refine B3 ?_
  refine B5 (by kernel_rfl) ?_ _
  refine hR _ _ ?_
  iterate 13 apply Exists.intro
  refine ⟨?_,⟨_,rfl,hNb,hb0.trans (hb3.mono hb0.size)⟩⟩
  simp only [C8,Act.put,St.tS,St.tC,St.tZ]
  rfl
 rintro a' w8 ⟨v8,v9,v10,v11,v12,v13,v14,v15,v16,v17,v18,v19,v20,rfl,hb8⟩
 simp only [C8,Act.put,St.tS,St.tC,St.tZ]
 obtain ⟨B,rfl,hB,hb8⟩:=hb8
 rename World=>w2
 have hZ2:=hZ.under hb8
 have hb2:=hbz.trans (hb8.mono hbz.size)
 obtain ⟨e0,e1,e2,g0,g1,g2⟩:=HEE.out
 rw [e0,e1,e2,g0,g1,g2] at hB
 clear e0 e1 e2 g0 g1 g2 HEE lx0 lx1 lx2 ln0 ln1 ln2
 clear hS0 hA1 h0 hZ hbz hb8 h
 generalize hnx:n.ctl.next.flows=nf at *
 generalize hnw:n.ctl.now.flows=wf at *
 clear hnx hnw
 go_wp2
 go_loopw [7,22] (fun _ idx wr=>∃ q:Nat,idx=.int .i64 q∧q≤2∧(1≤q→¬(0≤j∧j<(nf.length:Int)))∧(2≤q→¬(0≤j∧j<(wf.length:Int)))∧Below w2.heap.size w2 wr) (fun _ idx _=>2 - (intOf idx).toNat)
 case atStart=>exact ⟨0,rfl,by omega,fun h=>by omega,fun h=>by omega,Below.refl _ _⟩
 case round=>
  obtain ⟨q,rfl,hq,hq1,hq2,hb⟩:=hrel
  rename World=>wo
  have hBo:=hB.under hb
  have hZo:=hZ2.under hb
  have hbo:=hb2.trans (hb.mono hb2.size)
  obtain ⟨z1,z2⟩:=hZo.cells
  have hzl:=hZo.lt
  by_cases hlt:q<2
  case neg=>
   have b1:¬(q:Int)<2:=by omega
   have hN:=HFZ.out (hq1 (by omega)) (hq2 (by omega))
   have HN:=Lib.hid hN
   obtain ⟨G,FR⟩:A6 ((((wo.setCell ⟨w.heap.size,0,none⟩ (.int .i64 0)).setCell ⟨w.heap.size,1,none⟩ (.int .i64 0)).setCell ⟨w.heap.size,2,none⟩ (.slice none 0 0)).setCell ⟨w.heap.size,3,none⟩ (.slice none 0 0)) w.heap.size 28 #[.int .i64 0,.int .i64 0,.slice none 0 0,.slice none 0 0]∧Frm (fun b=>b≠w.heap.size) w.heap.size wo ((((wo.setCell ⟨w.heap.size,0,none⟩ (.int .i64 0)).setCell ⟨w.heap.size,1,none⟩ (.int .i64 0)).setCell ⟨w.heap.size,2,none⟩ (.slice none 0 0)).setCell ⟨w.heap.size,3,none⟩ (.slice none 0 0)):=A04 (fun h=>h rfl) (Nat.le_refl _) [.int .i64 0,.int .i64 0,.slice none 0 0,.slice none 0 0] 0 wo [_,_,_,_] hZo
   obtain ⟨y1,y2⟩:=G.cells
   have hB9:=hbo.trans FR.below
   clear hN FR HFX HFN HFZ hBo hZo hB hZ2
   go_wp2_with ((with_reducible refine bodyPost_ret (v:=.tuple #[.agg #[.int .i64 0,.int .i64 0,.slice none 0 0,.slice none 0 0],.bool false]) ?ra1 ?rb1 ?rc1);go_must (case ra1=>simp [results,Try.results48,go_sem,y1]);go_must (case rb1=>rfl);go_must (case rc1=>exact ⟨.inr ⟨HN.out,rfl⟩,hB9⟩))
  have b1:(q:Int)<2:=by omega
  have b0:(0:Int)≤(q:Int):=by omega
  obtain ⟨fl,ra,rc,u0,u2,c0,c1,c2,hfr,hyes,hno,l0,l2⟩:∃ (fl:List E0) (ra:Option Addr) (rc:Nat) (u0 u2:Value),wo.cell? ⟨B,q * 3,none⟩=some u0∧wo.cell? ⟨B,q * 3+1,none⟩=some (.slice ra fl.length rc)∧wo.cell? ⟨B,q * 3+2,none⟩=some u2∧A8 H6 (fun b=>I b∧b<w.heap.size) w ra rc fl∧(∀ f,0≤j→fl[j.toNat]? =some f→P2 n.ctl j=some f)∧(¬(0≤j∧j<(fl.length:Int))→(1≤q+1→¬(0≤j∧j<(nf.length:Int)))∧(2≤q+1→¬(0≤j∧j<(wf.length:Int))))∧u0.oneCell'=true∧u2.oneCell'=true:=by
   rcases (by omega:q=0∨q=1) with rfl|rfl
   ·exact ⟨nf,a1,ac,_,_,hBo.cells.1 0,hBo.cells.1 1,hBo.cells.1 2,fr1,fun f hj hf=>HFX.out f hj hf,fun hh=>⟨fun _=>hh,fun h2=>by omega⟩,rfl,rfl⟩
   ·exact ⟨wf,b1_,bc,_,_,hBo.cells.1 3,hBo.cells.1 4,hBo.cells.1 5,fr2,fun f hj hf=>HFN.out f hj (by have:=hq1 (by omega);omega) hf,fun hh=>⟨fun _=>hq1 (by omega),fun _=>hh⟩,rfl,rfl⟩
  have hfo:=hfr.below hbo
  have hfl:=hfo.len_le
  have hBl:=hBo.lt
  have HNO:=Lib.hid hno
  clear hno hBo
  by_cases hin:0≤j∧j<(fl.length:Int)
  case pos=>
   obtain ⟨f,hf⟩:∃ f,fl[j.toNat]? =some f:=⟨_,List.getElem?_eq_getElem (by omega)⟩
   have hY:=hyes f hin.1 hf
   have HY:=Lib.hid hY
   obtain ⟨jn,rfl⟩:∃ q:Nat,j=(q:Int):=⟨j.toNat,by omega⟩
   rw [Int.toNat_natCast] at hf
   obtain ⟨g,off,va,vc,na,nc,rfl,hgl,fI1,fI2,_,_,hce⟩:=A0r hfo hf
   obtain ⟨k0,k1,k2,k3⟩:=hce wo (Below.refl _ _)
   have j0:(jn:Int)≥0:=by omega
   have j1:(jn:Int)<(fl.length:Int):=hin.2
   have j2:(0:Int)≤(jn:Int):=by omega
   have hbp:=G8 wo (.cells #[u0,.slice (some ⟨g,off,none⟩) fl.length rc,u2] 32)
   have hP:=I6 wo 32 #[u0,.slice (some ⟨g,off,none⟩) fl.length rc,u2]
   have st0:=Q5 (P:=Try.prog) l0
   have st2:=Q5 (P:=Try.prog) l2
   clear hY hyes hce HFX HFN HFZ HNO hf hin
   go_upto_region 4 with fail
   obtain ⟨k0,k1,k2,k3⟩:=(⟨B8 hbp hgl k0,B8 hbp hgl k1,B8 hbp hgl k2,B8 hbp hgl k3⟩:_∧_∧_∧_)
   have hZp:=hZo.under hbp
   have hbq:=hbo.trans (hbp.mono hbo.size)
   generalize wo.alloc _=wp at *
   obtain ⟨G,FR⟩:A6 ((((wp.setCell ⟨w.heap.size,0,none⟩ (.int .i64 f.src)).setCell ⟨w.heap.size,1,none⟩ (.int .i64 f.dst)).setCell ⟨w.heap.size,2,none⟩ (.slice va f.via.length vc)).setCell ⟨w.heap.size,3,none⟩ (.slice na f.no.length nc)) w.heap.size 28 #[.int .i64 f.src,.int .i64 f.dst,.slice va f.via.length vc,.slice na f.no.length nc]∧Frm (fun b=>b≠w.heap.size) w.heap.size wp ((((wp.setCell ⟨w.heap.size,0,none⟩ (.int .i64 f.src)).setCell ⟨w.heap.size,1,none⟩ (.int .i64 f.dst)).setCell ⟨w.heap.size,2,none⟩ (.slice va f.via.length vc)).setCell ⟨w.heap.size,3,none⟩ (.slice na f.no.length nc)):=A04 (fun h=>h rfl) (Nat.le_refl _) [.int .i64 f.src,.int .i64 f.dst,.slice va f.via.length vc,.slice na f.no.length nc] 0 wp [_,_,_,_] hZp
   obtain ⟨y1,y2⟩:=G.cells
   have hB9:=hbq.trans FR.below
   clear z1 z2 c0 c1 c2
   obtain ⟨z1,z2⟩:=hZp.cells
   obtain ⟨p1,p2⟩:=hP.cells
   have hpl:=hP.lt
   have hzl:=hZp.lt
   clear FR
   go_wp2_with ((with_reducible refine bodyPost_ret (v:=.tuple #[.agg #[.int .i64 f.src,.int .i64 f.dst,.slice va f.via.length vc,.slice na f.no.length nc],.bool true]) ?ra2 ?rb2 ?rc2);go_must (case ra2=>simp [results,Try.results48,go_sem,y1]);go_must (case rb2=>rfl);go_must (case rc2=>exact ⟨.inl ⟨f,va,vc,na,nc,HY.out,fI1,rfl⟩,hB9⟩))
  case neg=>
   have hno:=HNO.out hin
   have hbp:=G8 wo (.cells #[u0,.slice ra fl.length rc,u2] 32)
   have hP:=I6 wo 32 #[u0,.slice ra fl.length rc,u2]
   have hb9:=hb.trans (hbp.mono hb.size)
   have st0:=Q5 (P:=Try.prog) l0
   have st2:=Q5 (P:=Try.prog) l2
   clear hyes HFX HFN HFZ HNO
   go_upto_region 4 with fail
   generalize wo.alloc _=wp at *
   clear z1 z2 c0 c1 c2
   obtain ⟨p1,p2⟩:=hP.cells
   have hpl:=hP.lt
   by_cases hj0:j≥0
   ·have hj1:¬j<(fl.length:Int):=fun h3=>hin ⟨hj0,h3⟩
    clear hin
    go_wp2
    case roundEnd=>
     go_roundw
     case rel=>exact ⟨q+1,by go_num,by omega,hno.1,hno.2,hb9⟩
     case measure=>simp [intOf]<;>omega
   ·clear hin
    go_wp2
    case roundEnd=>
     go_roundw
     case rel=>exact ⟨q+1,by go_num,by omega,hno.1,hno.2,hb9⟩
     case measure=>simp [intOf]<;>omega
end Go.Proofs.Ytampcbncgofkoaa
