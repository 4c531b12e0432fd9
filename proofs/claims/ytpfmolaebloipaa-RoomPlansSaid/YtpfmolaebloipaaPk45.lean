/- Texts of this proof, one behind the other. -/
import Derived.Test.YtpfmolaebloipaaPk40
set_option linter.unusedSimpArgs false
set_option linter.unusedVariables false
set_option maxRecDepth 100000
set_option maxHeartbeats 16000000
namespace Go.St
open Go.RowKit
theorem B1f {t:C5} {l:List Do} (h:(D9 t l).2.2.1=0):∀ (i:Nat) (p:F5),(D9 t l).1.plans[i]? =some p→p.ver=i+1∧p.paths.length=p.flows.length∧∀ (j:Nat) (f:E0) (q:List Int),p.flows[j]? =some f→p.paths[j]? =some q→R9 t f q=true:=by
 obtain ⟨ht,hl⟩:=X0 h
 rw [W2 ht hl]
 intro i p hp
 obtain ⟨h1,h2,h3⟩:=X2 (A3r ht hl).1 hp
 exact ⟨h1,h2,fun j f q hf hq=>A6f ht (h3 j f q hf hq)⟩
def SPn (tb:Nat) (v0 v1:Value) (fb:Nat) (f0 f1 f2 f3:Value) (xb:Nat) (x2:Value) (qg qo:Nat) (qv:Value) (w:World):Prop:=w.cell? ⟨tb,0,none⟩=some v0∧w.cell? ⟨tb,1,none⟩=some v1∧w.cell? ⟨fb,0,none⟩=some f0∧w.cell? ⟨fb,1,none⟩=some f1∧w.cell? ⟨fb,2,none⟩=some f2∧w.cell? ⟨fb,3,none⟩=some f3∧w.cell? ⟨xb,2,none⟩=some x2∧w.cell? ⟨qg,qo,none⟩=some qv
end Go.St
namespace Go.Proofs.Ytpfmolaebloipaa
open Go.RowKit Go.St
theorem A7d (w:World) (t:C5) (ts:List Value) (okt:Nat→Prop) (h:I5.rep okt w ts t) (l:List Do) (da:Option Addr) (dc:Nat) (okd:Nat→Prop) (hd:A8 doS okd w da dc l):
  Calls Try.prog 4 #[.agg ts.toArray,.slice da l.length dc] w fun e w'=>e=.returned (.bool true)∧Below w.heap.size w w':=by
 have hT:=h
 obtain ⟨la,lc0,rfl,htn,htr⟩:=h
 have hdx:=hd.len_le
 have hB0:=G8 w (.cells #[.int .i64 t.n,.slice la t.links.length lc0] 24)
 have hT0:=I6 w 24 #[.int .i64 t.n,.slice la t.links.length lc0]
 have HP:=Lib.hid (B1f (t:=t) (l:=l))
 go_enter Try.func4,Try.ntmps4
 go_wp2_with fail
 generalize w.alloc _=w0 at *
 refine (A0o _).mono ?_
 rintro e w1 ⟨rfl,hb1⟩
 have hB1:=hB0.trans (hb1.mono hB0.size)
 have hT1:=hT0.under hb1
 obtain ⟨t1,t2⟩:=hT1.cells
 have htl:=hT1.lt
 clear hB0 hT0 hb1
 go_wp2_with fail
 refine (A2z t _ okt w1 (I5.below hT hB1) l da dc okd (hd.below hB1)).mono ?_
 rintro e w2 ⟨cs,ea,ec,rfl,hn2,he2,hb2⟩
 have hB2:=hB1.trans (hb2.mono hB1.size)
 have hT2:=hT1.under hb2
 clear hB1 hT1 hb2 t1 t2 htl
 generalize D9 t l=RR at *
 obtain ⟨n,es,fe,ff⟩:=RR
 dsimp only at *
 obtain ⟨n0,n1,n2,y0,y1,y2,wa,wc,sa,sc,oa,oc,ba,bc,pa,pc,pl,lc,rfl,hst,hnu,hnow,hnext,hwt,hks,hko,hkb,hkp,hkl⟩:=A0g.open8 hn2
 obtain ⟨lp0,lp1,lp2⟩:=B7.st (P:=Try.prog) hnow
 obtain ⟨lq0,lq1,lq2⟩:=B7.st (P:=Try.prog) hnext
 have hbx:Below w2.heap.size w2 ((w2.alloc (.cells #[.int .i64 n.ctl.stage,n0,n1,n2,y0,y1,y2,.int .i64 n.ctl.num,.slice wa n.ctl.waits.length wc,.slice sa n.switches.length sc,.slice oa n.orders.length oc,.slice ba n.backs.length bc,.slice pa n.packets.length pc,.slice pl n.plans.length lc] 40)).alloc (.cells #[.int .i64 fe,.int .i64 ff] 44)):=A1t _ _ _
 have hW:A6 ((w2.alloc (.cells #[.int .i64 n.ctl.stage,n0,n1,n2,y0,y1,y2,.int .i64 n.ctl.num,.slice wa n.ctl.waits.length wc,.slice sa n.switches.length sc,.slice oa n.orders.length oc,.slice ba n.backs.length bc,.slice pa n.packets.length pc,.slice pl n.plans.length lc] 40)).alloc (.cells #[.int .i64 fe,.int .i64 ff] 44)) w2.heap.size 40 #[.int .i64 n.ctl.stage,n0,n1,n2,y0,y1,y2,.int .i64 n.ctl.num,.slice wa n.ctl.waits.length wc,.slice sa n.switches.length sc,.slice oa n.orders.length oc,.slice ba n.backs.length bc,.slice pa n.packets.length pc,.slice pl n.plans.length lc]:=(A6.new rfl).alloc _
 have hG:A6 ((w2.alloc (.cells #[.int .i64 n.ctl.stage,n0,n1,n2,y0,y1,y2,.int .i64 n.ctl.num,.slice wa n.ctl.waits.length wc,.slice sa n.switches.length sc,.slice oa n.orders.length oc,.slice ba n.backs.length bc,.slice pa n.packets.length pc,.slice pl n.plans.length lc] 40)).alloc (.cells #[.int .i64 fe,.int .i64 ff] 44)) (w2.heap.size+1) 44 #[.int .i64 fe,.int .i64 ff]:=A6.new (by simp)
 have hB3:=hB2.trans (hbx.mono hB2.size)
 have hT3:=hT2.under hbx
 have hd3:=hd.below hB3
 have he3:=he2.below hbx
 have hnow3:B7 _ (fun _=>True) n0 n1 n2 n.ctl.now:=C3.below hnow hbx
 have hnext3:B7 _ (fun _=>True) y0 y1 y2 n.ctl.next:=C3.below hnext hbx
 have hwt3:=hwt.below hbx
 have hks3:=hks.below hbx
 have hko3:=hko.below hbx
 have hkb3:=hkb.below hbx
 have hkp3:=hkp.below hbx
 have hkl3:=hkl.below hbx
 clear hn2 he2 hB2 hT2 hnow hnext hwt hks hko hkb hkp hkl hd hbx
 go_upto_region 4 with fail
 generalize ((w2.alloc (.cells #[.int .i64 n.ctl.stage,n0,n1,n2,y0,y1,y2,.int .i64 n.ctl.num,.slice wa n.ctl.waits.length wc,.slice sa n.switches.length sc,.slice oa n.orders.length oc,.slice ba n.backs.length bc,.slice pa n.packets.length pc,.slice pl n.plans.length lc] 40)).alloc (.cells #[.int .i64 fe,.int .i64 ff] 44))=w3 at *
 generalize w2.heap.size=wb at *
 clear lp0 lp1 lp2 lq0 lq1 lq2
 obtain ⟨x1,x2⟩:=hW.cells
 obtain ⟨f1,f2⟩:=hG.cells
 have hwl:=hW.lt
 have hgl:=hG.lt
 by_cases hfe:fe=0
 case neg=>
  have e1:(fe !=0)=true:=by rw [bne_iff_ne];exact hfe
  go_wp2
  go_ret;exact ⟨rfl,hB3⟩
 subst hfe
 have HP2:=Lib.hid (HP.out rfl)
 have hlx:=hkl3.len_le
 clear HP hG hnow3 hnext3 hwt3 hks3 hko3 hkb3 hkp3 he3 hd3
 go_wp2
 clear x1 x2 f1 f2
 go_loopw [27] (fun idx wr=>∃ i:Nat,idx=.int .i64 i∧i≤n.plans.length∧Below w3.heap.size w3 wr) (fun idx _=>n.plans.length - (intOf idx).toNat)
 case atStart=>exact ⟨0,rfl,Nat.zero_le _,Below.refl _ _⟩
 case round=>
  obtain ⟨i,rfl,hi,hb⟩:=hrel
  rename World=>wo
  have hBo:=hB3.trans (hb.mono hB3.size)
  by_cases hlt:i<n.plans.length
  case neg=>
   have b1:¬(i:Int)<(n.plans.length:Int):=by omega
   go_wp2
   go_ret;exact ⟨rfl,hBo⟩
  have b1:(i:Int)<(n.plans.length:Int):=by omega
  have b0:(0:Int)≤(i:Int):=by omega
  obtain ⟨p,hpi⟩:∃ p,n.plans[i]? =some p:=⟨_,List.getElem?_eq_getElem hlt⟩
  obtain ⟨hv,hpl,hsv⟩:=HP2.out i p hpi
  obtain ⟨pg,po,rfl,_,hpg,cs,⟨ra,rc,qa,qc,rfl,hvI,hfl,hps⟩,hce⟩:=(hkl3.below hb).get hpi
  have e0:=hce 0 _ rfl
  have e1:=hce 1 _ rfl
  have e2:=hce 2 _ rfl
  rw [show C3.size=3 from rfl,Nat.add_zero] at e0
  rw [show C3.size=3 from rfl] at e1 e2
  have hX:=I6 wo 30 #[.int .i64 p.ver,.slice ra p.flows.length rc,.slice qa p.paths.length qc]
  have hbx:=G8 wo (.cells #[.int .i64 p.ver,.slice ra p.flows.length rc,.slice qa p.paths.length qc] 30)
  have hb9:=hb.trans (hbx.mono hb.size)
  have hB9:=hB3.trans (hb9.mono hB3.size)
  have hfl8:=hfl.len_le
  have hfl9:=hfl.below hbx
  have hps9:=hps.below hbx
  have hT9:=hT3.under hb9
  have HSV:=Lib.hid hsv
  have hver:IntKind.i64.wrap ((i:Int)+1)=p.ver:=by rw [hv];exact IntWalk.i64_in _ (by omega)
  have d1:(p.ver !=p.ver)=false:=by simp
  have d2:((p.paths.length:Int) !=(p.flows.length:Int))=false:=by rw [hpl];simp
  have hpl1:p.paths.length≤p.flows.length:=by omega
  have hpl2:p.flows.length≤p.paths.length:=by omega
  clear hce hfl hps hpi hsv hv hpl
  go_upto_region 9 with fail
  clear e0 e1 e2
  generalize wo.alloc _=w9 at *
  generalize wo.heap.size=xb at *
  obtain ⟨z1,z2⟩:=hX.cells
  have hxl:=hX.lt
  go_wp2
  clear z1 z2 hver d1 d2
  go_loopw [49] (fun idx wr=>∃ j:Nat,idx=.int .i64 j∧j≤p.flows.length∧Below w9.heap.size w9 wr) (fun idx _=>p.flows.length - (intOf idx).toNat)
  case atStart=>exact ⟨0,rfl,Nat.zero_le _,Below.refl _ _⟩
  case round=>
   obtain ⟨j,rfl,hj,hbj⟩:=hrel
   rename World=>wi
   have hBi:=hB9.trans (hbj.mono hB9.size)
   by_cases hjl:j<p.flows.length
   case neg=>
    have c1:¬(j:Int)<(p.flows.length:Int):=by omega
    have hb10:=hb9.trans (hbj.mono hb9.size)
    go_wp2
    case roundEnd=>
     go_roundw
     case rel=>exact ⟨i+1,by go_num,by omega,hb10⟩
     case measure=>simp [intOf]<;>omega
   have c1:(j:Int)<(p.flows.length:Int):=by omega
   have c0:(0:Int)≤(j:Int):=by omega
   have c2:(j:Int)<(p.paths.length:Int):=by omega
   obtain ⟨f,hfj⟩:∃ f,p.flows[j]? =some f:=⟨_,List.getElem?_eq_getElem hjl⟩
   obtain ⟨q,hqj⟩:∃ q,p.paths[j]? =some q:=⟨_,List.getElem?_eq_getElem (by omega)⟩
   have hs:=HSV.out j f q hfj hqj
   obtain ⟨fg,fo,rfl,_,hfg,cs,⟨va,vc,na,nc,rfl,hf1,hf2,hfv,hfn⟩,hcf⟩:=(hfl9.below hbj).get hfj
   obtain ⟨qg,qo,pa2,pc2,rfl,hqg,hqr,hcq⟩:=S9 (hps9.below hbj) hqj
   have e0:=hcf 0 _ rfl
   have e1:=hcf 1 _ rfl
   have e2:=hcf 2 _ rfl
   have e3:=hcf 3 _ rfl
   rw [show H6.size=4 from rfl,Nat.add_zero] at e0
   rw [show H6.size=4 from rfl] at e1 e2 e3
   have hFB:=I6 wi 55 #[.int .i64 f.src,.int .i64 f.dst,.slice va f.via.length vc,.slice na f.no.length nc]
   have hby:=G8 wi (.cells #[.int .i64 f.src,.int .i64 f.dst,.slice va f.via.length vc,.slice na f.no.length nc] 55)
   have hbj9:=hbj.trans (hby.mono hbj.size)
   have hfr:H6.rep (fun _=>True) (wi.alloc (.cells #[.int .i64 f.src,.int .i64 f.dst,.slice va f.via.length vc,.slice na f.no.length nc] 55)) [.int .i64 f.src,.int .i64 f.dst,.slice va f.via.length vc,.slice na f.no.length nc] f:=⟨va,vc,na,nc,rfl,hf1,hf2,hfv.below hby,hfn.below hby⟩
   have hqr2:=hqr.below hby
   have q0:=hcq _ hby
   have hqg2:qg<((wi.alloc (.cells #[.int .i64 f.src,.int .i64 f.dst,.slice va f.via.length vc,.slice na f.no.length nc] 55))).heap.size:=by have:=hby.size;omega
   have hX2:=hX.under hbj9
   have hT10:=hT9.under hbj9
   have hB10:=hB9.trans (hbj9.mono hB9.size)
   clear hcf hcq hfv hfn hfj hqj hbj hqr
   go_upto_region 14 with fail
   clear e0 e1 e2 e3
   generalize wi.alloc _=wj at *
   generalize wi.heap.size=fb at *
   clear hby
   have hS0:SPn w.heap.size (.int .i64 t.n) (.slice la t.links.length lc0) fb (.int .i64 f.src) (.int .i64 f.dst) (.slice va f.via.length vc) (.slice na f.no.length nc) xb (.slice (some ⟨qg,qo,none⟩) p.paths.length qc) qg (qo+j) (.slice pa2 q.length pc2) wj.drew:=⟨hT10.cells.1 0,hT10.cells.1 1,hFB.cells.1 0,hFB.cells.1 1,hFB.cells.1 2,hFB.cells.1 3,hX2.cells.1 2,q0⟩
   refine B9 (SPn w.heap.size (.int .i64 t.n) (.slice la t.links.length lc0) fb (.int .i64 f.src) (.int .i64 f.dst) (.slice va f.via.length vc) (.slice na f.no.length nc) xb (.slice (some ⟨qg,qo,none⟩) p.paths.length qc) qg (qo+j) (.slice pa2 q.length pc2)) 99 (fun a0 a' w'=>∃ v54 v55 v56 v57 v58 v59 v60 v61,a'=C8 a0 [(54,v54),(55,v55),(56,v56),(57,v57),(58,v58),(59,v59),(60,v60),(61,v61),(62,.bool false)]∧Below wj.heap.size wj w') (by kernel_rfl) ?_ ?_
   ·intro Q' hR hQp
    have hb0:Below wj.heap.size wj wj.drew:=N4 _
    have hS:SPn w.heap.size (.int .i64 t.n) (.slice la t.links.length lc0) fb (.int .i64 f.src) (.int .i64 f.dst) (.slice va f.via.length vc) (.slice na f.no.length nc) xb (.slice (some ⟨qg,qo,none⟩) p.paths.length qc) qg (qo+j) (.slice pa2 q.length pc2) wj.drew:=hS0
    generalize wj.drew=wa at *
    have hqa:=hqr2.below hb0
    have hfa:=H6.below hfr hb0
    have hta:=I5.below hT (hB10.trans (hb0.mono hB10.size))
    refine A9 hQp hS [0,1,2,4,3,5,6] ?_
    iterate 7 (refine B2 _ rfl (by kernel_rfl) (A0 (by kernel_rfl) (by intro w0 hw0;have hw1:=hw0;simp only [SPn] at hw1;first|(go_simp;done)|(go_simp;rfl))) ?_;simp only [Act.put,St.tA,St.tD,St.tE,St.tS,St.tC,St.tZ])
    refine B3 ?_
    clear hS
    refine A7 (i:=7) rfl (by kernel_rfl) (by kernel_rfl) fun K7 hK7=>?_
    go_simp
    go_wp2_with fail
    refine (B2n t f q _ _ _ _ _ pa2 pc2 wa hta hfa hqa).mono ?_
    rintro e wb ⟨rfl,hab⟩
    rw [hs]
    go_wp2_with fail
    have hS:SPn w.heap.size (.int .i64 t.n) (.slice la t.links.length lc0) fb (.int .i64 f.src) (.int .i64 f.dst) (.slice va f.via.length vc) (.slice na f.no.length nc) xb (.slice (some ⟨qg,qo,none⟩) p.paths.length qc) qg (qo+j) (.slice pa2 q.length pc2) wb:=by
     have hbz:=hb0.trans (hab.mono hb0.size)
     have a1:=hT10.under hbz
     have a2:=hFB.under hbz
     have a3:=hX2.under hbz
     exact ⟨a1.cells.1 0,a1.cells.1 1,a2.cells.1 0,a2.cells.1 1,a2.cells.1 2,a2.cells.1 3,a3.cells.1 2,B8 hbz hqg2 q0⟩
    refine hK7 _ _ (fun _=>hS) ?_
    clear hK7
    refine A9 hQp hS [8] ?_
    iterate 1 (refine B2 _ rfl (by kernel_rfl) (A0 (by kernel_rfl) (by intro w0 hw0;have hw1:=hw0;simp only [SPn] at hw1;first|(go_simp;done)|(go_simp;rfl))) ?_;simp only [Act.put,St.tA,St.tD,St.tE,St.tS,St.tC,St.tZ])
    refine B3 ?_
    refine B5 (by kernel_rfl) ?_ _
    refine hR _ _ ?_
    iterate 8 apply Exists.intro
    refine ⟨?_,hb0.trans (hab.mono hb0.size)⟩
    simp only [C8,Act.put,St.tS,St.tC,St.tZ]
    rfl
   rintro a' w8 ⟨v54,v55,v56,v57,v58,v59,v60,v61,rfl,hb8⟩
   simp only [C8,Act.put,St.tS,St.tC,St.tZ]
   have hbz:=hbj9.trans (hb8.mono hbj9.size)
   clear hS0 q0 hFB hfr hqr2 hX2 hT10 hB10
   go_wp2
   case roundEnd=>
    go_roundw
    case rel=>exact ⟨j+1,by go_num,by omega,hbz⟩
    case measure=>simp [intOf]<;>omega
end Go.Proofs.Ytpfmolaebloipaa
