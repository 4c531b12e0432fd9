/- Texts of this proof, one behind the other. -/
import Derived.Test.YtampcbncgofkoaaGreatDoorPk35
set_option linter.unusedSimpArgs false
set_option linter.unusedVariables false
set_option maxRecDepth 100000
set_option maxHeartbeats 16000000
namespace Go.St
open Go.RowKit
theorem B7.cells3 {w:World} {ok:Nat→Prop} {n0 n1 n2:Value} {p:F5} (h:B7 w ok n0 n1 n2 p):∃ fa fc pa pc,n0=.int .i64 p.ver∧n1=.slice fa p.flows.length fc∧n2=.slice pa p.paths.length pc∧I64 p.ver∧A8 H6 ok w fa fc p.flows∧A8 (F7 C2) ok w pa pc p.paths:=by
 obtain ⟨fa,fc,pa,pc,e,h1,h2,h3⟩:=h
 simp at e
 exact ⟨fa,fc,pa,pc,e.1,e.2.1,e.2.2,h1,h2,h3⟩
end Go.St
namespace Go.Proofs.YtampcbncgofkoaaGreatDoor
open Go.RowKit Go.St
theorem A7i {c:Ctl} {j:Int} {f:E0} (h0:0≤j) (h:c.next.flows[j.toNat]? =some f):P2 c j=some f:=by
 unfold P2;rw [if_neg (by omega),h];rfl
theorem A9e {c:Ctl} {j:Int} {f:E0} (h0:0≤j) (h1:¬j<(c.next.flows.length:Int)) (h:c.now.flows[j.toNat]? =some f):P2 c j=some f:=by
 unfold P2;rw [if_neg (by omega),List.getElem?_eq_none (by omega),h];rfl
theorem A7t {c:Ctl} {j:Int} (h1:¬(0≤j∧j<(c.next.flows.length:Int))) (h2:¬(0≤j∧j<(c.now.flows.length:Int))):P2 c j=none:=by
 unfold P2
 split
 ·rfl
 ·rw [List.getElem?_eq_none (by omega),List.getElem?_eq_none (by omega)];rfl
def B47 (c:Ctl) (j:Int) (e:Ending):Prop:=(∃ (f:E0) (va:Option Addr) (vc:Nat) (na:Option Addr) (nc:Nat),P2 c j=some f∧I64 f.src∧e=.returned (.tuple #[.agg #[.int .i64 f.src,.int .i64 f.dst,.slice va f.via.length vc,.slice na f.no.length nc],.bool true]))∨
 (P2 c j=none∧e=.returned (.tuple #[.agg #[.int .i64 0,.int .i64 0,.slice none 0 0,.slice none 0 0],.bool false]))
theorem A9b (I M:Nat→Prop) (lka:Option Addr) (lkc R N:Nat) (t:C5) (n:Net) (V:RV) (j:Int) (hjI:I64 j) (w:World) (h0:C9 I M lka lkc R N t w n V):
  Calls Tryz.prog 49 #[.pointer (some ⟨R,0,none⟩),.int .i64 j] w fun e w'=>B47 n.ctl j e∧Below w.heap.size w w':=by
 have h:=h0.here
 obtain ⟨a1,ac,a2,pc,e0,e1,e2,_,fr1,_⟩:=B7.cells3 h.next
 obtain ⟨b1_,bc,b2,qc,g0,g1,g2,_,fr2,_⟩:=B7.cells3 h.now
 have HEE:Hid (V.x0=.int .i64 n.ctl.next.ver∧V.x1=.slice a1 n.ctl.next.flows.length ac∧V.x2=.slice a2 n.ctl.next.paths.length pc∧V.n0=.int .i64 n.ctl.now.ver∧V.n1=.slice b1_ n.ctl.now.flows.length bc∧V.n2=.slice b2 n.ctl.now.paths.length qc):=⟨e0,e1,e2,g0,g1,g2⟩
 clear e0 e1 e2 g0 g1 g2
 have hZ:=I6 w 56 #[.int .i64 0,.int .i64 0,.slice none 0 0,.slice none 0 0]
 have hbz:=G8 w (.cells #[.int .i64 0,.int .i64 0,.slice none 0 0,.slice none 0 0] 56)
 have hA1:=h.below hbz
 have lx0:=h.next.one.1
 have lx1:=h.next.one.2.1
 have lx2:=h.next.one.2.2
 have ln0:=h.now.one.1
 have ln1:=h.now.one.2.1
 have ln2:=h.now.one.2.2
 have fx:∀ f,0≤j→n.ctl.next.flows[j.toNat]? =some f→P2 n.ctl j=some f:=fun f a b=>A7i a b
 have fn:∀ f,0≤j→¬j<(n.ctl.next.flows.length:Int)→n.ctl.now.flows[j.toNat]? =some f→P2 n.ctl j=some f:=fun f a b c=>A9e a b c
 have fz:=A7t (c:=n.ctl) (j:=j)
 have HFX:=Lib.hid fx
 have HFN:=Lib.hid fn
 have HFZ:=Lib.hid fz
 have hl1:=fr1.len_le
 have hl2:=fr2.len_le
 have hs1:(w.alloc (.cells #[.int .i64 0,.int .i64 0,.slice none 0 0,.slice none 0 0] 56)).heap.size=w.heap.size+1:=by simp
 clear fx fn fz
 go_enter Tryz.func49,Tryz.ntmps49
 go_upto_region 1 with fail
 generalize w.alloc _=w1 at *
 have hS0:SRc R #[.int .i64 n.ctl.stage,V.n0,V.n1,V.n2,V.x0,V.x1,V.x2,.int .i64 n.ctl.num,.slice V.qa n.ctl.waits.length V.qc,.slice (some ⟨V.sb,0,none⟩) N N,.slice (some ⟨V.ob,0,none⟩) N N,.slice (some ⟨V.bb,0,none⟩) N N,.slice V.pa n.packets.length V.pc,.slice V.la n.plans.length V.lc,.int .i64 ((N:Nat):Int),.slice lka t.links.length lkc] w1.drew:=hA1.box.cells.1
 refine B9 (SRc R #[.int .i64 n.ctl.stage,V.n0,V.n1,V.n2,V.x0,V.x1,V.x2,.int .i64 n.ctl.num,.slice V.qa n.ctl.waits.length V.qc,.slice (some ⟨V.sb,0,none⟩) N N,.slice (some ⟨V.ob,0,none⟩) N N,.slice (some ⟨V.bb,0,none⟩) N N,.slice V.pa n.packets.length V.pc,.slice V.la n.plans.length V.lc,.int .i64 ((N:Nat):Int),.slice lka t.links.length lkc]) 99 (fun a0 a' w'=>∃ v8 v9 v10 v11 v12 v13 v14 v15 v16 v17 v18 v19 v20,a'=C8 a0 [(8,v8),(9,v9),(10,v10),(11,v11),(12,v12),(13,v13),(14,v14),(15,v15),(16,v16),(17,v17),(18,v18),(19,v19),(20,v20),(21,.int .i64 2),(22,.int .i64 0)]∧∃ B,v20=.slice (some ⟨B,0,none⟩) 2 2∧A6 w' B 34 #[V.x0,V.x1,V.x2,V.n0,V.n1,V.n2]∧Below w1.heap.size w1 w') (by kernel_rfl) ?_ ?_
 ·intro Q' hR hQp
  have hb0:Below w1.heap.size w1 w1.drew:=N4 _
  have hS:SRc R #[.int .i64 n.ctl.stage,V.n0,V.n1,V.n2,V.x0,V.x1,V.x2,.int .i64 n.ctl.num,.slice V.qa n.ctl.waits.length V.qc,.slice (some ⟨V.sb,0,none⟩) N N,.slice (some ⟨V.ob,0,none⟩) N N,.slice (some ⟨V.bb,0,none⟩) N N,.slice V.pa n.packets.length V.pc,.slice V.la n.plans.length V.lc,.int .i64 ((N:Nat):Int),.slice lka t.links.length lkc] w1.drew:=hS0
  generalize w1.drew=wa at *
  have hAa:=hA1.below hb0
  refine A9 hQp hS [0,6,14,1,7,2,8,3,9,4,10,5,11] ?_
  iterate 13 (refine B2 _ rfl (by kernel_rfl) (A0 (by kernel_rfl) (by intro w0 hw0;have hw1:=hw0;simp only [SRc] at hw1;first|(go_simp;done)|(go_simp;rfl))) ?_;simp only [Act.put,St.tA,St.tD,St.tE,St.tS,St.tC,St.tZ])
  refine B3 ?_
  clear hS
  refine A7 (i:=12) rfl (by kernel_rfl) (by kernel_rfl) fun K12 hK12=>?_
  go_simp
  go_wp2_with fail
  have hb3:=G8 wa (.cells #[V.x0,V.x1,V.x2,V.n0,V.n1,V.n2] 34)
  have hNb:=I6 wa 34 #[V.x0,V.x1,V.x2,V.n0,V.n1,V.n2]
  have hS:_:=(show SRc R #[.int .i64 n.ctl.stage,V.n0,V.n1,V.n2,V.x0,V.x1,V.x2,.int .i64 n.ctl.num,.slice V.qa n.ctl.waits.length V.qc,.slice (some ⟨V.sb,0,none⟩) N N,.slice (some ⟨V.ob,0,none⟩) N N,.slice (some ⟨V.bb,0,none⟩) N N,.slice V.pa n.packets.length V.pc,.slice V.la n.plans.length V.lc,.int .i64 ((N:Nat):Int),.slice lka t.links.length lkc] _ from (hAa.below hb3).box.cells.1)
  refine hK12 _ _ (fun _=>hS) ?_
  clear hK12
  refine A9 hQp hS [13] ?_
  iterate 1 (refine B2 _ rfl (by kernel_rfl) (A0 (by kernel_rfl) (by intro w0 hw0;have hw1:=hw0;simp only [SRc] at hw1;first|(go_simp;done)|(go_simp;rfl))) ?_;simp only [Act.put,St.tA,St.tD,St.tE,St.tS,St.tC,St.tZ])
  refine B3 ?_
  refine B5 (by kernel_rfl) ?_ _
  refine hR _ _ ?_
  iterate 13 apply Exists.intro
  refine ⟨?_,⟨_,rfl,hNb,hb0.trans (hb3.mono hb0.size)⟩⟩
  simp only [C8,Act.put,St.tS,St.tC,St.tZ]
  rfl
 rintro a' w8 ⟨v8,v9,v10,v11,v12,v13,v14,v15,v16,v17,v18,v19,v20,rfl,hb8⟩
 simp only [C8,Act.put,St.tS,St.tC,St.tZ]
 obtain ⟨B,rfl,hB,hb8⟩:=hb8
 rename World=>w2
 have hZ2:=hZ.under hb8
 have hb2:=hbz.trans (hb8.mono hbz.size)
 obtain ⟨e0,e1,e2,g0,g1,g2⟩:=HEE.out
 rw [e0,e1,e2,g0,g1,g2] at hB
 clear e0 e1 e2 g0 g1 g2 HEE lx0 lx1 lx2 ln0 ln1 ln2
 clear hS0 hA1 h0 hZ hbz hb8 h
 generalize hnx:n.ctl.next.flows=nf at *
 generalize hnw:n.ctl.now.flows=wf at *
 clear hnx hnw
 go_wp2
 go_loopw [7,22] (fun _ idx wr=>∃ q:Nat,idx=.int .i64 q∧q≤2∧(1≤q→¬(0≤j∧j<(nf.length:Int)))∧(2≤q→¬(0≤j∧j<(wf.length:Int)))∧Below w2.heap.size w2 wr) (fun _ idx _=>2 - (intOf idx).toNat)
 case atStart=>exact ⟨0,rfl,by omega,fun h=>by omega,fun h=>by omega,Below.refl _ _⟩
 case round=>
  obtain ⟨q,rfl,hq,hq1,hq2,hb⟩:=hrel
  rename World=>wo
  have hBo:=hB.under hb
  have hZo:=hZ2.under hb
  have hbo:=hb2.trans (hb.mono hb2.size)
  obtain ⟨z1,z2⟩:=hZo.cells
  have hzl:=hZo.lt
  by_cases hlt:q<2
  case neg=>
   have b1:¬(q:Int)<2:=by omega
   have hN:=HFZ.out (hq1 (by omega)) (hq2 (by omega))
   have HN:=Lib.hid hN
   obtain ⟨G,FR⟩:A6 ((((wo.setCell ⟨w.heap.size,0,none⟩ (.int .i64 0)).setCell ⟨w.heap.size,1,none⟩ (.int .i64 0)).setCell ⟨w.heap.size,2,none⟩ (.slice none 0 0)).setCell ⟨w.heap.size,3,none⟩ (.slice none 0 0)) w.heap.size 56 #[.int .i64 0,.int .i64 0,.slice none 0 0,.slice none 0 0]∧Frm (fun b=>b≠w.heap.size) w.heap.size wo ((((wo.setCell ⟨w.heap.size,0,none⟩ (.int .i64 0)).setCell ⟨w.heap.size,1,none⟩ (.int .i64 0)).setCell ⟨w.heap.size,2,none⟩ (.slice none 0 0)).setCell ⟨w.heap.size,3,none⟩ (.slice none 0 0)):=A04 (fun h=>h rfl) (Nat.le_refl _) [.int .i64 0,.int .i64 0,.slice none 0 0,.slice none 0 0] 0 wo [_,_,_,_] hZo
   obtain ⟨y1,y2⟩:=G.cells
   have hB9:=hbo.trans FR.below
   clear hN FR HFX HFN HFZ hBo hZo hB hZ2
   go_wp2_with ((with_reducible refine bodyPost_ret (v:=.tuple #[.agg #[.int .i64 0,.int .i64 0,.slice none 0 0,.slice none 0 0],.bool false]) ?ra1 ?rb1 ?rc1);go_must (case ra1=>simp [results,Tryz.results49,go_sem,y1]);go_must (case rb1=>rfl);go_must (case rc1=>exact ⟨.inr ⟨HN.out,rfl⟩,hB9⟩))
  have b1:(q:Int)<2:=by omega
  have b0:(0:Int)≤(q:Int):=by omega
  obtain ⟨fl,ra,rc,u0,u2,c0,c1,c2,hfr,hyes,hno,l0,l2⟩:∃ (fl:List E0) (ra:Option Addr) (rc:Nat) (u0 u2:Value),wo.cell? ⟨B,q * 3,none⟩=some u0∧wo.cell? ⟨B,q * 3+1,none⟩=some (.slice ra fl.length rc)∧wo.cell? ⟨B,q * 3+2,none⟩=some u2∧A8 H6 (fun b=>I b∧b<w.heap.size) w ra rc fl∧(∀ f,0≤j→fl[j.toNat]? =some f→P2 n.ctl j=some f)∧(¬(0≤j∧j<(fl.length:Int))→(1≤q+1→¬(0≤j∧j<(nf.length:Int)))∧(2≤q+1→¬(0≤j∧j<(wf.length:Int))))∧u0.oneCell'=true∧u2.oneCell'=true:=by
   rcases (by omega:q=0∨q=1) with rfl|rfl
   ·exact ⟨nf,a1,ac,_,_,hBo.cells.1 0,hBo.cells.1 1,hBo.cells.1 2,fr1,fun f hj hf=>HFX.out f hj hf,fun hh=>⟨fun _=>hh,fun h2=>by omega⟩,rfl,rfl⟩
   ·exact ⟨wf,b1_,bc,_,_,hBo.cells.1 3,hBo.cells.1 4,hBo.cells.1 5,fr2,fun f hj hf=>HFN.out f hj (by have:=hq1 (by omega);omega) hf,fun hh=>⟨fun _=>hq1 (by omega),fun _=>hh⟩,rfl,rfl⟩
  have hfo:=hfr.below hbo
  have hfl:=hfo.len_le
  have hBl:=hBo.lt
  have HNO:=Lib.hid hno
  clear hno hBo
  by_cases hin:0≤j∧j<(fl.length:Int)
  case pos=>
   obtain ⟨f,hf⟩:∃ f,fl[j.toNat]? =some f:=⟨_,List.getElem?_eq_getElem (by omega)⟩
   have hY:=hyes f hin.1 hf
   have HY:=Lib.hid hY
   obtain ⟨jn,rfl⟩:∃ q:Nat,j=(q:Int):=⟨j.toNat,by omega⟩
   rw [Int.toNat_natCast] at hf
   obtain ⟨g,off,va,vc,na,nc,rfl,hgl,fI1,fI2,_,_,hce⟩:=A0r hfo hf
   obtain ⟨k0,k1,k2,k3⟩:=hce wo (Below.refl _ _)
   have j0:(jn:Int)≥0:=by omega
   have j1:(jn:Int)<(fl.length:Int):=hin.2
   have j2:(0:Int)≤(jn:Int):=by omega
   have hbp:=G8 wo (.cells #[u0,.slice (some ⟨g,off,none⟩) fl.length rc,u2] 34)
   have hP:=I6 wo 34 #[u0,.slice (some ⟨g,off,none⟩) fl.length rc,u2]
   have st0:=Q5 (P:=Tryz.prog) l0
   have st2:=Q5 (P:=Tryz.prog) l2
   clear hY hyes hce HFX HFN HFZ HNO hf hin
   go_upto_region 4 with fail
   obtain ⟨k0,k1,k2,k3⟩:=(⟨B8 hbp hgl k0,B8 hbp hgl k1,B8 hbp hgl k2,B8 hbp hgl k3⟩:_∧_∧_∧_)
   have hZp:=hZo.under hbp
   have hbq:=hbo.trans (hbp.mono hbo.size)
   generalize wo.alloc _=wp at *
   obtain ⟨G,FR⟩:A6 ((((wp.setCell ⟨w.heap.size,0,none⟩ (.int .i64 f.src)).setCell ⟨w.heap.size,1,none⟩ (.int .i64 f.dst)).setCell ⟨w.heap.size,2,none⟩ (.slice va f.via.length vc)).setCell ⟨w.heap.size,3,none⟩ (.slice na f.no.length nc)) w.heap.size 56 #[.int .i64 f.src,.int .i64 f.dst,.slice va f.via.length vc,.slice na f.no.length nc]∧Frm (fun b=>b≠w.heap.size) w.heap.size wp ((((wp.setCell ⟨w.heap.size,0,none⟩ (.int .i64 f.src)).setCell ⟨w.heap.size,1,none⟩ (.int .i64 f.dst)).setCell ⟨w.heap.size,2,none⟩ (.slice va f.via.length vc)).setCell ⟨w.heap.size,3,none⟩ (.slice na f.no.length nc)):=A04 (fun h=>h rfl) (Nat.le_refl _) [.int .i64 f.src,.int .i64 f.dst,.slice va f.via.length vc,.slice na f.no.length nc] 0 wp [_,_,_,_] hZp
   obtain ⟨y1,y2⟩:=G.cells
   have hB9:=hbq.trans FR.below
   clear z1 z2 c0 c1 c2
   obtain ⟨z1,z2⟩:=hZp.cells
   obtain ⟨p1,p2⟩:=hP.cells
   have hpl:=hP.lt
   have hzl:=hZp.lt
   clear FR
   go_wp2_with ((with_reducible refine bodyPost_ret (v:=.tuple #[.agg #[.int .i64 f.src,.int .i64 f.dst,.slice va f.via.length vc,.slice na f.no.length nc],.bool true]) ?ra2 ?rb2 ?rc2);go_must (case ra2=>simp [results,Tryz.results49,go_sem,y1]);go_must (case rb2=>rfl);go_must (case rc2=>exact ⟨.inl ⟨f,va,vc,na,nc,HY.out,fI1,rfl⟩,hB9⟩))
  case neg=>
   have hno:=HNO.out hin
   have hbp:=G8 wo (.cells #[u0,.slice ra fl.length rc,u2] 34)
   have hP:=I6 wo 34 #[u0,.slice ra fl.length rc,u2]
   have hb9:=hb.trans (hbp.mono hb.size)
   have st0:=Q5 (P:=Tryz.prog) l0
   have st2:=Q5 (P:=Tryz.prog) l2
   clear hyes HFX HFN HFZ HNO
   go_upto_region 4 with fail
   generalize wo.alloc _=wp at *
   clear z1 z2 c0 c1 c2
   obtain ⟨p1,p2⟩:=hP.cells
   have hpl:=hP.lt
   by_cases hj0:j≥0
   ·have hj1:¬j<(fl.length:Int):=fun h3=>hin ⟨hj0,h3⟩
    clear hin
    go_wp2
    case roundEnd=>
     go_roundw
     case rel=>exact ⟨q+1,by go_num,by omega,hno.1,hno.2,hb9⟩
     case measure=>simp [intOf]<;>omega
   ·clear hin
    go_wp2
    case roundEnd=>
     go_roundw
     case rel=>exact ⟨q+1,by go_num,by omega,hno.1,hno.2,hb9⟩
     case measure=>simp [intOf]<;>omega
end Go.Proofs.YtampcbncgofkoaaGreatDoor
namespace Go.St
open Go.RowKit
theorem A55 {w:World} {b:Nat} {e:TypeId} {p:N2} {ta:Option Addr} {tc:Nat} {ok:Nat→Prop} (h:A6 w b e #[.int .i64 p.flow,.int .i64 p.ver,.slice ta p.trace.length tc,.bool p.done]) (h1:I64 p.flow) (h2:I64 p.ver) (hr:A8 C2 ok w ta tc p.trace):D7 K0 ok w (some ⟨b,0,none⟩) [p]:=by
  refine .inr ⟨b,0,rfl,fun i y hy=>?_⟩
  match i,hy with
  |0,hy=>
    obtain rfl:p=y:=by simpa using hy
    refine ⟨_,⟨ta,tc,rfl,h1,h2,hr⟩,fun j c hc=>?_⟩
    simp only [Nat.zero_mul,Nat.zero_add]
    rw [h.cells.1 j]
    simpa using hc
  |i+1,hy=>simp at hy
theorem A62 {ok:Nat→Prop} {w:World} {ao:Option Addr} {cap:Nat} {s:D8} {k:Int} (h:A8 J6 ok w ao cap s.stamps):I64 (J5 s k):=by
  unfold J5
  cases hq:s.stamps.find? (fun x=>x.flow==k) with
  |none=>exact I64.small (by decide) (by decide)
  |some x=>
    obtain ⟨i,hi⟩:=List.getElem?_of_mem (List.mem_of_find?_eq_some hq)
    obtain ⟨_,_,_,_,_,cs,hcs,_⟩:=h.get hi
    exact hcs.2.2
theorem A9t {k:Int} {l:List D8} {s:Nat} {sw:D8} (hs:l[s]? =some sw) (h:0<J5 sw k) (hn:∀ (i:Nat) (x:D8),i<s→l[i]? =some x→J5 x k≤0):A07 k l=some s:=by
 unfold A07
 rw [List.findIdx?_eq_some_iff_getElem]
 obtain ⟨hl,rfl⟩:=List.getElem?_eq_some_iff.1 hs
 exact ⟨hl,by simpa using h,fun j hj=>by have:=hn j _ hj (List.getElem?_eq_getElem (by omega));simp;omega⟩
theorem A9l {k:Int} {l:List D8} (hn:∀ (i:Nat) (x:D8),i<l.length→l[i]? =some x→J5 x k≤0):A07 k l=none:=by
 unfold A07
 rw [List.findIdx?_eq_none_iff]
 intro x hx
 obtain ⟨i,hi⟩:=List.getElem?_of_mem hx
 have:=hn i x (List.getElem?_eq_some_iff.1 hi).1 hi
 simp;omega
end Go.St
namespace Go.Proofs.YtampcbncgofkoaaGreatDoor
open Go.RowKit Go.St
theorem A27:(Tryz.prog.info? 59).map (fun i=>(i.zero,i.size,i.bytes))=some (some (.agg #[.int .i64 0,.int .i64 0,.slice none 0 0,.bool false]),4,48):=by kernel_rfl
theorem A8r (H M:Nat→Prop) (lka:Option Addr) (lkc R N:Nat) (t:C5) (k:Nat) (n:Net) (V:RV) (j:Int) (hjI:I64 j) (w:World) (h:C9 (fun b=>¬(M b∨H b)) M lka lkc R N t w n V) (hf:F4 t k n) (hk:k≤1000) (hN:N≤8) (hH:∀ b,H b→b<w.heap.size):
  Calls Tryz.prog 32 #[.pointer (some ⟨R,0,none⟩),.int .i64 j] w fun e w'=>e=.returned (.int .i64 (J4 n j).2)∧F6 H M lka lkc R N t w (J4 n j).1 w':=by
 have htn:=h.tn
 have hRl:=h.box.lt
 have hR8:=h.size
 have hMl:∀ b,M b→b<w.heap.size:=fun b hb=>(h.rng b hb).2
 have r12:w.cell? ⟨R,12,none⟩=some (.slice V.pa n.packets.length V.pc):=h.box.cells.1 12
 have hfew:=hf.few
 have hE1:n.packets.length=40→J4 n j=(n,5):=fun e=>by unfold J4;rw [if_pos e]
 have hE2:n.packets.length≠40→P2 n.ctl j=none→J4 n j=(n,6):=fun e e2=>by unfold J4;rw [if_neg e,e2]
 have hE3:∀ f,n.packets.length≠40→P2 n.ctl j=some f→J4 n j=({n with packets:=n.packets++[⟨j,J5 (n.switches.getD (P0 n j f).toNat O5) j,[P0 n j f],decide (J5 (n.switches.getD (P0 n j f).toNat O5) j=0)⟩]},0):=fun f e e2=>by unfold J4;rw [if_neg e,e2]
 have hat:=fun f (e:P2 n.ctl j=some f)=>hf.at_in (by omega) e
 have hlo:=h.here
 have HE1:=Lib.hid hE1
 have HE2:=Lib.hid hE2
 have HE3:=Lib.hid hE3
 have HAT:=Lib.hid hat
 clear hE1 hE2 hE3 hat
 go_enter Tryz.func32,Tryz.ntmps32
 by_cases h40:n.packets.length=40
 ·have hE:=HE1.out h40
  have HE:=Lib.hid hE
  have h40':((n.packets.length:Int)==40)=true:=by rw [beq_iff_eq];omega
  have h40'':(n.packets.length:Int)=40:=by omega
  clear HE1 HE2 HE3 HAT hE hlo
  go_wp2
  go_ret;rw [HE.out];exact ⟨rfl,F6.same h (Below.refl _ _)⟩
 have h40':((n.packets.length:Int)==40)=false:=by rw [beq_eq_false_iff_ne];omega
 have HE4:=Lib.hid (HE2.out h40)
 have HE5:=Lib.hid (fun f=>HE3.out f h40)
 have hFL:=fun (w':World) (hb:Below w.heap.size w w')=>A9b _ M lka lkc R N t n V j hjI w' (h.below hb)
 have HFL:=Lib.hid hFL
 clear HE1 HE2 HE3 hFL
 go_wp2_with fail
 refine (HFL.out w (Below.refl _ _)).mono ?_
 rintro e w1 ⟨hfo,hb1⟩
 have hA1:=hlo.below hb1
 clear r12 HFL hlo
 rcases hfo with ⟨f,va,vc,na,nc,hfa,hfI,rfl⟩|⟨hfa,rfl⟩
 case inr=>
  have HE:=Lib.hid (HE4.out hfa)
  have hbx:=G8 w1 (.cells #[.int .i64 0,.int .i64 0,.slice none 0 0,.slice none 0 0] 56)
  have hO:=F6.same (w:=w) h (hb1.trans (hbx.mono hb1.size))
  clear HE4 HE5 HAT hA1 hfa
  go_wp2
  go_ret;rw [HE.out];exact ⟨rfl,hO⟩
 have HB:=Lib.hid (HE5.out f hfa)
 have hat:=HAT.out f hfa
 have HBA:Hid (P0 n j f=match A07 j n.switches with|some s=>(s:Int)|none=>f.src):=rfl
 clear HE4 HE5 HAT hfa
 have hbx:=G8 w1 (.cells #[.int .i64 f.src,.int .i64 f.dst,.slice va f.via.length vc,.slice na f.no.length nc] 56)
 have hX:=I6 w1 56 #[.int .i64 f.src,.int .i64 f.dst,.slice va f.via.length vc,.slice na f.no.length nc]
 have hA2:=hA1.below hbx
 have hb2:=hb1.trans (hbx.mono hb1.size)
 clear hA1
 go_upto_region 6 with fail
 generalize w1.alloc _=w2 at *
 obtain ⟨x1,x2⟩:=hX.cells
 have hXl:=hX.lt
 have r9:w2.cell? ⟨R,9,none⟩=some (.slice (some ⟨V.sb,0,none⟩) N N):=hA2.box.cells.1 9
 have hRl2:=hA2.box.lt
 go_wp2
 clear x1 x2 r9
 go_loopw [7,8,33] (fun a7 _ idx wr=>∃ q:Nat,a7=.int .i64 f.src∧idx=.int .i64 q∧q≤N∧(∀ (i:Nat) (x:D8),i<q→n.switches[i]? =some x→J5 x j≤0)∧Below w2.heap.size w2 wr) (fun _ _ idx _=>N - (intOf idx).toNat)
 case atStart=>exact ⟨0,rfl,rfl,Nat.zero_le _,fun i x hi=>by omega,Below.refl _ _⟩
 case round=>
  obtain ⟨q,rfl,rfl,hq,hno,hb⟩:=hrel
  rename World=>wo
  have hAo:=hA2.below hb
  have hbo:=hb2.trans (hb.mono hb2.size)
  have hR9:=hAo.box.lt
  have r9:wo.cell? ⟨R,9,none⟩=some (.slice (some ⟨V.sb,0,none⟩) N N):=hAo.box.cells.1 9
  have HNO:=Lib.hid hno
  clear hno
  by_cases hlt:q<N
  case neg=>
   have b1:¬(q:Int)<(N:Int):=by omega
   obtain rfl:q=N:=by omega
   have hst:P0 n j f=f.src:=by rw [HBA.out,A9l (fun i x hi hx=>HNO.out i x (by rw [hAo.sws.len] at hi;exact hi) hx)]
   obtain ⟨s,hs⟩:∃ s:Nat,f.src=(s:Int):=⟨f.src.toNat,by rw [hst] at hat;omega⟩
   rw [hst] at hat
   rw [hst] at HB
   rw [hs] at hat HB ⊢
   have hsn:s<q:=by omega
   clear hst hs HBA HNO
   have hsl:s<n.switches.length:=by rw [hAo.sws.len];exact hsn
   obtain ⟨sx,hsx⟩:∃ x,n.switches[s]? =some x:=⟨_,List.getElem?_eq_getElem hsl⟩
   obtain ⟨sg,sq,scs,sa,_,hsgl,hswr,hsce,_,_⟩:=hAo.sws.at hsx
   obtain ⟨rfl,rfl⟩:V.sb=sg∧0=sq:=by simpa using sa
   obtain ⟨ra9,rc9,sa9,sc9,rfl,hrr9,hss9⟩:=hswr
   have s1:=hsce 0 _ rfl
   have s2:=hsce 1 _ rfl
   rw [show E8.size=2 from rfl] at s1 s2
   simp only [Nat.zero_add,Nat.add_zero] at s1 s2
   have hvI:I64 (J5 sx j):=A62 hss9
   have hV9:=A37 sx j [.slice ra9 sx.rules.length rc9,.slice sa9 sx.stamps.length sc9] _ wo ⟨ra9,rc9,sa9,sc9,rfl,hrr9,hss9⟩
   have HV9:=Lib.hid hV9
   have hsD:n.switches.getD s O5=sx:=by rw [List.getD_eq_getElem?_getD,hsx];rfl
   have HB9:=Lib.hid HB.out
   rw [Int.toNat_natCast,hsD] at HB9
   have m1:((s:Nat):Int)<(q:Int):=by omega
   have m0:(0:Int)≤((s:Nat):Int):=by omega
   clear hV9 hsce sa hrr9 hss9 hsD HB hsx hsl
   go_wp2_with fail
   refine HV9.out.mono ?_
   rintro e wy ⟨rfl,hby⟩
   have hAy:=hAo.below hby
   have hby2:=hbo.trans (hby.mono hbo.size)
   clear HV9 s1 s2 r9 hAo
   generalize J5 sx j=ve at *
   have r12:wy.cell? ⟨R,12,none⟩=some (.slice V.pa n.packets.length V.pc):=hAy.box.cells.1 12
   have hRly:=hAy.box.lt
   obtain ⟨i0,hi,hz0,hz1,hz2⟩:=info_parts A27
   obtain ⟨bd,hbd⟩:∃ b,(ve==0)=b:=⟨_,rfl⟩
   have hbd2:decide (ve=0)=bd:=by rw [←hbd];rfl
   rw [hbd2] at HB9
   have hT1M:¬(M wy.heap.size∨H wy.heap.size):=fun hm=>by have:=hm.elim (hMl _) (hH _);have:=hby2.size;omega
   have hsI:I64 ((s:Nat):Int):=⟨by omega,by omega⟩
   have hown1:=C7.ints (e:=3) (w:=wy) (base:=0) [((s:Nat):Int)] (fun x hx=>by obtain rfl:=List.mem_singleton.1 hx;exact hsI) (Nat.zero_le _) (by simp [maxLen])
   have hB1:=G8 wy (.cells #[.int .i64 ((s:Nat):Int)] 3)
   have hB2:Below wy.heap.size wy ((wy.alloc (.cells #[.int .i64 ((s:Nat):Int)] 3)).alloc (.cells #[.int .i64 j,.int .i64 ve,.slice (some ⟨wy.heap.size,0,none⟩) 1 1,.bool bd] 59)):=A1t _ _ _
   have hrowT:A8 C2 (fun b=>¬(M b∨H b)) ((wy.alloc (.cells #[.int .i64 ((s:Nat):Int)] 3)).alloc (.cells #[.int .i64 j,.int .i64 ve,.slice (some ⟨wy.heap.size,0,none⟩) 1 1,.bool bd] 59)) (some ⟨wy.heap.size,0,none⟩) 1 [((s:Nat):Int)]:=(hown1.row (fun _ h=>h.elim) (fun k2 hk2=>by have e:wy.heap.size=k2:=(by simpa [Go.St.blk] using hk2);rw [←e];exact hT1M)).below ((Below.refl _ _).alloc (Nat.le_refl _) _)
   have hT2:A6 ((wy.alloc (.cells #[.int .i64 ((s:Nat):Int)] 3)).alloc (.cells #[.int .i64 j,.int .i64 ve,.slice (some ⟨wy.heap.size,0,none⟩) 1 1,.bool bd] 59)) (wy.heap.size+1) 59 #[.int .i64 j,.int .i64 ve,.slice (some ⟨wy.heap.size,0,none⟩) 1 1,.bool bd]:=A6.new (by simp)
   have hsrc:=A55 (p:=⟨j,ve,[((s:Nat):Int)],bd⟩) hT2 hjI hvI hrowT
   have hAB:=(hAy.wideH (fun b _ hb hh=>by first|exact hb (.inr hh)|exact hb.1 (.inr hh)|exact hb.2.2 (.inr hh)|(have:=hH b hh;omega))).below hB2
   have hFB:Frm (fun b=>¬M b∧b<w.heap.size) R w _:=Frm.of (hby2.trans (hB2.mono hby2.size)) hR8
   have hown:=hAB.pks
   have hsB:((wy.alloc (.cells #[.int .i64 ((s:Nat):Int)] 3)).alloc (.cells #[.int .i64 j,.int .i64 ve,.slice (some ⟨wy.heap.size,0,none⟩) 1 1,.bool bd] 59)).heap.size=wy.heap.size+2:=by simp
   have hnep:∀ {b:Nat} {cs:Array Value} {σ:TypeId},A6 ((wy.alloc (.cells #[.int .i64 ((s:Nat):Int)] 3)).alloc (.cells #[.int .i64 j,.int .i64 ve,.slice (some ⟨wy.heap.size,0,none⟩) 1 1,.bool bd] 59)) b σ cs→59≠σ→some b≠Go.St.blk V.pa:=fun hb hσ e=>(hown.noType hb hσ) e.symm
   have hbys:=hby2.size
   clear hbd2 hown1 hB1 hrowT hT2 hAy hby hT1M
   go_wp2_with (at_builtin;go_must (refine A3c (sh:=K0) (n:=n.packets.length) (c:=1) rfl _ _ 47 rfl 59 i0 (.agg #[.int .i64 0,.int .i64 0,.slice none 0 0,.bool false]) 48 Tryz.underlying47 hi hz0 hz1 hz2 rfl (by decide) rfl hown (fun k2 hk2 hi2=>hi2 (.inl (hAB.mp k2 hk2))) rfl hsrc (by simp only [maxLen];omega) (by omega) (by omega) ?_);go_must (intro ao9 cap9 wz hO9 hg9 hd9;have hRz:=hAB.box.grown hg9 (hnep hAB.box (by decide));obtain ⟨z1,z2⟩:=hRz.cells;have hzl:=hRz.lt;obtain ⟨hAc,hFc⟩:=hAB.pushPacket rfl hO9 hg9 hd9))
   have hO:=F6.of hFB (fun b hb=>.inl hb) hAc (fun b _ hb hh=>by first|exact hb (.inr hh)|exact hb.1 (.inr hh)|exact hb.2.2 (.inr hh)|(have:=hH b hh;omega)) hFc (fun b hb=>by
    rcases hb with h1|h1
    ·exact .inl h1
    ·rcases hd9 with h2|h2
     ·exact .inl (hAB.mp b (by rw [←h2];exact h1))
     ·rw [h2] at h1
      exact .inr (Nat.le_of_eq (by simpa using h1)))
   go_ret;rw [HB9.out];exact ⟨rfl,hO⟩
  have b1:(q:Int)<(N:Int):=by omega
  have b0:(0:Int)≤(q:Int):=by omega
  have hsl:q<n.switches.length:=by rw [hAo.sws.len];exact hlt
  obtain ⟨sw,hsw⟩:∃ x,n.switches[q]? =some x:=⟨_,List.getElem?_eq_getElem hsl⟩
  obtain ⟨sg,sq,scs,sa,_,hsgl,hswr,hsce,_,_⟩:=hAo.sws.at hsw
  obtain ⟨rfl,rfl⟩:V.sb=sg∧0=sq:=by simpa using sa
  obtain ⟨ra,rc,sa2,sc2,rfl,hrr,hss⟩:=hswr
  have s1:=hsce 0 _ rfl
  have s2:=hsce 1 _ rfl
  rw [show E8.size=2 from rfl] at s1 s2
  simp only [Nat.zero_add,Nat.add_zero] at s1 s2
  have hV:=A37 sw j [.slice ra sw.rules.length rc,.slice sa2 sw.stamps.length sc2] _ wo ⟨ra,rc,sa2,sc2,rfl,hrr,hss⟩
  have HV:=Lib.hid hV
  clear hV hsce sa hrr hss
  go_wp2_with fail
  refine HV.out.mono ?_
  rintro e wv ⟨rfl,hbv⟩
  have hb9:=hb.trans (hbv.mono hb.size)
  have hAv:=hAo.below hbv
  clear HV s1 s2 hAo
  by_cases hver:0<J5 sw j
  case neg=>
   have hver':¬(J5 sw j>0):=hver
   have hver2:decide (J5 sw j>0)=false:=by rw [decide_eq_false_iff_not];exact hver
   have hno2:∀ (i:Nat) (x:D8),i<q+1→n.switches[i]? =some x→J5 x j≤0:=fun i x hi hx=>by
    by_cases e:i=q
    ·subst e;rw [hsw] at hx;obtain rfl:sw=x:=by simpa using hx
     omega
    ·exact HNO.out i x (by omega) hx
   clear HBA hver
   go_wp2
   case roundEnd=>
    go_roundw
    case rel=>exact ⟨q+1,rfl,by go_num,by omega,hno2,hb9⟩
    case measure=>simp [intOf]<;>omega
  have hver2:decide (J5 sw j>0)=true:=by rw [decide_eq_true_iff];exact hver
  have hst:P0 n j f=(q:Int):=by rw [HBA.out,A9t hsw hver (fun i x hi hx=>HNO.out i x hi hx)]
  rw [hst] at hat HB
  have hAo:=hAv
  have hbo:=hb2.trans (hb9.mono hb2.size)
  have hsn:q<N:=hlt
  have hR9:=hAo.box.lt
  have r9:wv.cell? ⟨R,9,none⟩=some (.slice (some ⟨V.sb,0,none⟩) N N):=hAo.box.cells.1 9
  clear hst HBA HNO hsw hsl hAv hb hbv hb9
  have hsl:q<n.switches.length:=by rw [hAo.sws.len];exact hsn
  obtain ⟨sx,hsx⟩:∃ x,n.switches[q]? =some x:=⟨_,List.getElem?_eq_getElem hsl⟩
  obtain ⟨sg,sq,scs,sa,_,hsgl,hswr,hsce,_,_⟩:=hAo.sws.at hsx
  obtain ⟨rfl,rfl⟩:V.sb=sg∧0=sq:=by simpa using sa
  obtain ⟨ra9,rc9,sa9,sc9,rfl,hrr9,hss9⟩:=hswr
  have s1:=hsce 0 _ rfl
  have s2:=hsce 1 _ rfl
  rw [show E8.size=2 from rfl] at s1 s2
  simp only [Nat.zero_add,Nat.add_zero] at s1 s2
  have hvI:I64 (J5 sx j):=A62 hss9
  have hV9:=A37 sx j [.slice ra9 sx.rules.length rc9,.slice sa9 sx.stamps.length sc9] _ wv ⟨ra9,rc9,sa9,sc9,rfl,hrr9,hss9⟩
  have HV9:=Lib.hid hV9
  have hsD:n.switches.getD q O5=sx:=by rw [List.getD_eq_getElem?_getD,hsx];rfl
  have HB9:=Lib.hid HB.out
  rw [Int.toNat_natCast,hsD] at HB9
  have m1:((q:Nat):Int)<(N:Int):=by omega
  have m0:(0:Int)≤((q:Nat):Int):=by omega
  clear hV9 hsce sa hrr9 hss9 hsD HB hsx hsl
  go_wp2_with fail
  refine HV9.out.mono ?_
  rintro e wy ⟨rfl,hby⟩
  have hAy:=hAo.below hby
  have hby2:=hbo.trans (hby.mono hbo.size)
  clear HV9 s1 s2 r9 hAo
  generalize J5 sx j=ve at *
  have r12:wy.cell? ⟨R,12,none⟩=some (.slice V.pa n.packets.length V.pc):=hAy.box.cells.1 12
  have hRly:=hAy.box.lt
  obtain ⟨i0,hi,hz0,hz1,hz2⟩:=info_parts A27
  obtain ⟨bd,hbd⟩:∃ b,(ve==0)=b:=⟨_,rfl⟩
  have hbd2:decide (ve=0)=bd:=by rw [←hbd];rfl
  rw [hbd2] at HB9
  have hT1M:¬(M wy.heap.size∨H wy.heap.size):=fun hm=>by have:=hm.elim (hMl _) (hH _);have:=hby2.size;omega
  have hsI:I64 ((q:Nat):Int):=⟨by omega,by omega⟩
  have hown1:=C7.ints (e:=3) (w:=wy) (base:=0) [((q:Nat):Int)] (fun x hx=>by obtain rfl:=List.mem_singleton.1 hx;exact hsI) (Nat.zero_le _) (by simp [maxLen])
  have hB1:=G8 wy (.cells #[.int .i64 ((q:Nat):Int)] 3)
  have hB2:Below wy.heap.size wy ((wy.alloc (.cells #[.int .i64 ((q:Nat):Int)] 3)).alloc (.cells #[.int .i64 j,.int .i64 ve,.slice (some ⟨wy.heap.size,0,none⟩) 1 1,.bool bd] 59)):=A1t _ _ _
  have hrowT:A8 C2 (fun b=>¬(M b∨H b)) ((wy.alloc (.cells #[.int .i64 ((q:Nat):Int)] 3)).alloc (.cells #[.int .i64 j,.int .i64 ve,.slice (some ⟨wy.heap.size,0,none⟩) 1 1,.bool bd] 59)) (some ⟨wy.heap.size,0,none⟩) 1 [((q:Nat):Int)]:=(hown1.row (fun _ h=>h.elim) (fun k2 hk2=>by have e:wy.heap.size=k2:=(by simpa [Go.St.blk] using hk2);rw [←e];exact hT1M)).below ((Below.refl _ _).alloc (Nat.le_refl _) _)
  have hT2:A6 ((wy.alloc (.cells #[.int .i64 ((q:Nat):Int)] 3)).alloc (.cells #[.int .i64 j,.int .i64 ve,.slice (some ⟨wy.heap.size,0,none⟩) 1 1,.bool bd] 59)) (wy.heap.size+1) 59 #[.int .i64 j,.int .i64 ve,.slice (some ⟨wy.heap.size,0,none⟩) 1 1,.bool bd]:=A6.new (by simp)
  have hsrc:=A55 (p:=⟨j,ve,[((q:Nat):Int)],bd⟩) hT2 hjI hvI hrowT
  have hAB:=(hAy.wideH (fun b _ hb hh=>by first|exact hb (.inr hh)|exact hb.1 (.inr hh)|exact hb.2.2 (.inr hh)|(have:=hH b hh;omega))).below hB2
  have hFB:Frm (fun b=>¬M b∧b<w.heap.size) R w _:=Frm.of (hby2.trans (hB2.mono hby2.size)) hR8
  have hown:=hAB.pks
  have hsB:((wy.alloc (.cells #[.int .i64 ((q:Nat):Int)] 3)).alloc (.cells #[.int .i64 j,.int .i64 ve,.slice (some ⟨wy.heap.size,0,none⟩) 1 1,.bool bd] 59)).heap.size=wy.heap.size+2:=by simp
  have hnep:∀ {b:Nat} {cs:Array Value} {σ:TypeId},A6 ((wy.alloc (.cells #[.int .i64 ((q:Nat):Int)] 3)).alloc (.cells #[.int .i64 j,.int .i64 ve,.slice (some ⟨wy.heap.size,0,none⟩) 1 1,.bool bd] 59)) b σ cs→59≠σ→some b≠Go.St.blk V.pa:=fun hb hσ e=>(hown.noType hb hσ) e.symm
  have hbys:=hby2.size
  clear hbd2 hown1 hB1 hrowT hT2 hAy hby hT1M
  go_wp2_with (at_builtin;go_must (refine A3c (sh:=K0) (n:=n.packets.length) (c:=1) rfl _ _ 47 rfl 59 i0 (.agg #[.int .i64 0,.int .i64 0,.slice none 0 0,.bool false]) 48 Tryz.underlying47 hi hz0 hz1 hz2 rfl (by decide) rfl hown (fun k2 hk2 hi2=>hi2 (.inl (hAB.mp k2 hk2))) rfl hsrc (by simp only [maxLen];omega) (by omega) (by omega) ?_);go_must (intro ao9 cap9 wz hO9 hg9 hd9;have hRz:=hAB.box.grown hg9 (hnep hAB.box (by decide));obtain ⟨z1,z2⟩:=hRz.cells;have hzl:=hRz.lt;obtain ⟨hAc,hFc⟩:=hAB.pushPacket rfl hO9 hg9 hd9))
  have hO:=F6.of hFB (fun b hb=>.inl hb) hAc (fun b _ hb hh=>by first|exact hb (.inr hh)|exact hb.1 (.inr hh)|exact hb.2.2 (.inr hh)|(have:=hH b hh;omega)) hFc (fun b hb=>by
   rcases hb with h1|h1
   ·exact .inl h1
   ·rcases hd9 with h2|h2
    ·exact .inl (hAB.mp b (by rw [←h2];exact h1))
    ·rw [h2] at h1
     exact .inr (Nat.le_of_eq (by simpa using h1)))
  go_ret;rw [HB9.out];exact ⟨rfl,hO⟩
end Go.Proofs.YtampcbncgofkoaaGreatDoor
