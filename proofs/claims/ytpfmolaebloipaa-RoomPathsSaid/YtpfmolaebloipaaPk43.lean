/- Texts of this proof, one behind the other. -/
import Derived.Test.YtpfmolaebloipaaPk41
set_option linter.unusedSimpArgs false
set_option linter.unusedVariables false
set_option maxRecDepth 100000
set_option maxHeartbeats 16000000
namespace Go.St
open Go.RowKit
theorem B1w {t:C5} {l:List Do}:((D9 t l).2.2.1≠0→(D9 t l).1.packets=[])∧((D9 t l).2.2.1=0→(∀ (i:Nat) (p:F5),(D9 t l).1.plans[i]? =some p→p.ver=i+1)∧∀ (i:Nat) (p:N9),(D9 t l).1.packets[i]? =some p→
  (p.ver=0∧p.done=true∧p.trace.length=1)∨(p.ver≠0∧∃ (j:Nat) (q:F5) (path:List Int) (k:Nat),(D9 t l).1.plans[j]? =some q∧q.ver=p.ver∧p.flow=k∧q.paths[k]? =some path∧p.trace.length≤path.length∧p.trace=path.take p.trace.length)):=by
 refine ⟨fun h=>?_,fun h=>?_⟩
 ·unfold D9 at h ⊢
  split
  ·rfl
  ·rename_i h1
   rw [if_neg h1] at h
   split
   ·rfl
   ·rename_i h2;rw [if_neg h2] at h;exact absurd rfl h
 obtain ⟨ht,hl⟩:=X0 h
 rw [W2 ht hl]
 have hk:=(A3r ht hl).1
 have hW:=T4.play ht l 0 _ (T4.start t) (by omega)
 refine ⟨fun i p hp=>(X2 hk hp).1,fun i p hp=>?_⟩
 rcases hW.pk p (List.mem_of_getElem? hp) with h1|⟨q,path,v1,v2,v3,v4,v5,_⟩
 ·exact .inl h1
 ·exact .inr ⟨by omega,_,q,path,p.flow.toNat,v2,by have:=(X2 hk v2).1;omega,by omega,v4,v5.length_le,List.prefix_iff_eq_take.1 v5⟩
def SPa (xb:Nat) (x0 x2:Value) (pb:Nat) (p2:Value) (qg qo:Nat) (qv:Value) (w:World):Prop:=w.cell? ⟨xb,0,none⟩=some x0∧w.cell? ⟨xb,2,none⟩=some x2∧w.cell? ⟨pb,2,none⟩=some p2∧w.cell? ⟨qg,qo,none⟩=some qv
end Go.St
namespace Go.Proofs.Ytpfmolaebloipaa
open Go.RowKit Go.St
theorem A7n (w:World) (t:C5) (ts:List Value) (okt:Nat→Prop) (h:I5.rep okt w ts t) (l:List Do) (da:Option Addr) (dc:Nat) (okd:Nat→Prop) (hd:A8 doS okd w da dc l):
  Calls Try.prog 3 #[.agg ts.toArray,.slice da l.length dc] w fun e w'=>e=.returned (.bool true)∧Below w.heap.size w w':=by
 have hT:=h
 obtain ⟨la,lc0,rfl,htn,htr⟩:=h
 have hdx:=hd.len_le
 have hB0:=G8 w (.cells #[.int .i64 t.n,.slice la t.links.length lc0] 24)
 have hT0:=I6 w 24 #[.int .i64 t.n,.slice la t.links.length lc0]
 have HP:=Lib.hid (B1w (t:=t) (l:=l))
 go_enter Try.func3,Try.ntmps3
 go_wp2_with fail
 generalize w.alloc _=w0 at *
 refine (A0o _).mono ?_
 rintro e w1 ⟨rfl,hb1⟩
 have hB1:=hB0.trans (hb1.mono hB0.size)
 have hT1:=hT0.under hb1
 obtain ⟨t1,t2⟩:=hT1.cells
 have htl:=hT1.lt
 clear hB0 hT0 hb1
 go_wp2_with fail
 refine (A2z t _ okt w1 (I5.below hT hB1) l da dc okd (hd.below hB1)).mono ?_
 rintro e w2 ⟨cs,ea,ec,rfl,hn2,he2,hb2⟩
 have hB2:=hB1.trans (hb2.mono hB1.size)
 have hT2:=hT1.under hb2
 clear hB1 hT1 hb2 t1 t2 htl
 generalize D9 t l=RR at *
 obtain ⟨n,es,fe,ff⟩:=RR
 dsimp only at *
 obtain ⟨n0,n1,n2,y0,y1,y2,wa,wc,sa,sc,oa,oc,ba,bc,pa,pc,pl,lc,rfl,hst,hnu,hnow,hnext,hwt,hks,hko,hkb,hkp,hkl⟩:=A0g.open8 hn2
 obtain ⟨lp0,lp1,lp2⟩:=B7.st (P:=Try.prog) hnow
 obtain ⟨lq0,lq1,lq2⟩:=B7.st (P:=Try.prog) hnext
 have hbx:Below w2.heap.size w2 ((w2.alloc (.cells #[.int .i64 n.ctl.stage,n0,n1,n2,y0,y1,y2,.int .i64 n.ctl.num,.slice wa n.ctl.waits.length wc,.slice sa n.switches.length sc,.slice oa n.orders.length oc,.slice ba n.backs.length bc,.slice pa n.packets.length pc,.slice pl n.plans.length lc] 40)).alloc (.cells #[.int .i64 fe,.int .i64 ff] 44)):=A1t _ _ _
 have hW:A6 ((w2.alloc (.cells #[.int .i64 n.ctl.stage,n0,n1,n2,y0,y1,y2,.int .i64 n.ctl.num,.slice wa n.ctl.waits.length wc,.slice sa n.switches.length sc,.slice oa n.orders.length oc,.slice ba n.backs.length bc,.slice pa n.packets.length pc,.slice pl n.plans.length lc] 40)).alloc (.cells #[.int .i64 fe,.int .i64 ff] 44)) w2.heap.size 40 #[.int .i64 n.ctl.stage,n0,n1,n2,y0,y1,y2,.int .i64 n.ctl.num,.slice wa n.ctl.waits.length wc,.slice sa n.switches.length sc,.slice oa n.orders.length oc,.slice ba n.backs.length bc,.slice pa n.packets.length pc,.slice pl n.plans.length lc]:=(A6.new rfl).alloc _
 have hG:A6 ((w2.alloc (.cells #[.int .i64 n.ctl.stage,n0,n1,n2,y0,y1,y2,.int .i64 n.ctl.num,.slice wa n.ctl.waits.length wc,.slice sa n.switches.length sc,.slice oa n.orders.length oc,.slice ba n.backs.length bc,.slice pa n.packets.length pc,.slice pl n.plans.length lc] 40)).alloc (.cells #[.int .i64 fe,.int .i64 ff] 44)) (w2.heap.size+1) 44 #[.int .i64 fe,.int .i64 ff]:=A6.new (by simp)
 have hB3:=hB2.trans (hbx.mono hB2.size)
 have hT3:=hT2.under hbx
 have hd3:=hd.below hB3
 have he3:=he2.below hbx
 have hnow3:B7 _ (fun _=>True) n0 n1 n2 n.ctl.now:=C3.below hnow hbx
 have hnext3:B7 _ (fun _=>True) y0 y1 y2 n.ctl.next:=C3.below hnext hbx
 have hwt3:=hwt.below hbx
 have hks3:=hks.below hbx
 have hko3:=hko.below hbx
 have hkb3:=hkb.below hbx
 have hkp3:=hkp.below hbx
 have hkl3:=hkl.below hbx
 clear hn2 he2 hB2 hT2 hnow hnext hwt hks hko hkb hkp hkl hd hbx
 go_upto_region 4 with fail
 generalize ((w2.alloc (.cells #[.int .i64 n.ctl.stage,n0,n1,n2,y0,y1,y2,.int .i64 n.ctl.num,.slice wa n.ctl.waits.length wc,.slice sa n.switches.length sc,.slice oa n.orders.length oc,.slice ba n.backs.length bc,.slice pa n.packets.length pc,.slice pl n.plans.length lc] 40)).alloc (.cells #[.int .i64 fe,.int .i64 ff] 44))=w3 at *
 generalize w2.heap.size=wb at *
 clear lp0 lp1 lp2 lq0 lq1 lq2
 obtain ⟨x1,x2⟩:=hW.cells
 obtain ⟨f1,f2⟩:=hG.cells
 have hwl:=hW.lt
 have hgl:=hG.lt
 by_cases hfe:fe=0
 case neg=>
  have e1:(fe !=0)=true:=by rw [bne_iff_ne];exact hfe
  have hpk:=HP.out.1 hfe
  rw [hpk] at x1
  have hpk0:([]:List N9).length=0:=rfl
  rw [hpk0] at x1
  clear hpk hkp3 hW
  go_wp2
  go_ret;exact ⟨rfl,hB3⟩
 subst hfe
 obtain ⟨hup,hP⟩:=HP.out.2 rfl
 have HP2:=Lib.hid hP
 have HUP:=Lib.hid hup
 have hlx:=hkp3.len_le
 clear HP hG hwt3 hko3 hkb3 hks3 he3 hd3 hT3 hP hup
 go_wp2
 clear x1 x2 f1 f2
 go_loopw [31] (fun idx wr=>∃ i:Nat,idx=.int .i64 i∧i≤n.packets.length∧Below w3.heap.size w3 wr) (fun idx _=>n.packets.length - (intOf idx).toNat)
 case atStart=>exact ⟨0,rfl,Nat.zero_le _,Below.refl _ _⟩
 case round=>
  obtain ⟨i,rfl,hi,hb⟩:=hrel
  rename World=>wo
  have hBo:=hB3.trans (hb.mono hB3.size)
  by_cases hlt:i<n.packets.length
  case neg=>
   have b1:¬(i:Int)<(n.packets.length:Int):=by omega
   go_wp2
   go_ret;exact ⟨rfl,hBo⟩
  have b1:(i:Int)<(n.packets.length:Int):=by omega
  have b0:(0:Int)≤(i:Int):=by omega
  obtain ⟨p,hpi⟩:∃ p,n.packets[i]? =some p:=⟨_,List.getElem?_eq_getElem hlt⟩
  have HVS:=Lib.hid (HP2.out i p hpi)
  obtain ⟨pg,po,ta,tc,rfl,hpg,hI1,hI2,htr,hce⟩:=A51 (hkp3.below hb) hpi
  obtain ⟨e0,e1,e2,e3⟩:=hce wo (Below.refl _ _)
  have hX:=I6 wo 48 #[.int .i64 p.flow,.int .i64 p.ver,.slice ta p.trace.length tc,.bool p.done]
  have hbx:=G8 wo (.cells #[.int .i64 p.flow,.int .i64 p.ver,.slice ta p.trace.length tc,.bool p.done] 48)
  have hb9:=hb.trans (hbx.mono hb.size)
  have htr9:=htr.below hbx
  clear hce htr hpi
  go_upto_region 9 with fail
  clear e0 e1 e2 e3
  generalize wo.alloc _=w9 at *
  generalize wo.heap.size=xb at *
  have hxl:=hX.lt
  rcases HVS.out with ⟨v1,v2,v3⟩|⟨v1,j,q,path,k,hqj,hqv,hpf,hpk,hle,htk⟩
  ·have HV3:=Lib.hid v3
   have c1:(p.ver==0)=true:=by rw [beq_iff_eq];exact v1
   have hcs:(#[.int .i64 p.flow,.int .i64 p.ver,.slice ta p.trace.length tc,.bool p.done]:Array Value)=#[.int .i64 p.flow,.int .i64 p.ver,.slice ta ((1:Nat)) tc,.bool true]:=by rw [v3,v2]
   rw [hcs] at hX
   obtain ⟨z1,z2⟩:=hX.cells
   clear HVS v1 v2 v3 hX hcs
   go_wp2
   case roundEnd=>
    go_roundw
    case rel=>exact ⟨i+1,by go_num,by omega,hb9⟩
    case measure=>simp [intOf]<;>omega
  have c1:(p.ver==0)=false:=by rw [beq_eq_false_iff_ne];exact v1
  obtain ⟨z1,z2⟩:=hX.cells
  have HQV:=Lib.hid hqv
  have HPF:=Lib.hid hpf
  have HTK:=Lib.hid htk
  have hW9:=hW.under hb9
  have hkl9:=hkl3.below hb9
  have hnow9:B7 _ (fun _=>True) n0 n1 n2 n.ctl.now:=C3.below hnow3 hb9
  have hnext9:B7 _ (fun _=>True) y0 y1 y2 n.ctl.next:=C3.below hnext3 hb9
  obtain ⟨u1,u2⟩:=hW9.cells
  have hul:=hW9.lt
  obtain ⟨lp0,lp1,lp2⟩:=B7.st (P:=Try.prog) hnow9
  obtain ⟨lq0,lq1,lq2⟩:=B7.st (P:=Try.prog) hnext9
  clear HVS v1 hqv hpf htk
  go_wp2_with fail
  refine (B4o w9 n.plans _ _ _ _ _ _ _ _ _ _ _ _ _ pl lc _ hkl9 p.ver j q hqj HQV.out HUP.out).mono ?_
  rintro e wk ⟨fa,fc,qa,qc,rfl,hpI,hfr,hqr,hbk⟩
  have hP:=I6 wk 30 #[.int .i64 q.ver,.slice fa q.flows.length fc,.slice qa q.paths.length qc]
  have hbz:=G8 wk (.cells #[.int .i64 q.ver,.slice fa q.flows.length fc,.slice qa q.paths.length qc] 30)
  have hX9:=(hX.under hbk).under hbz
  have hbl:Below w3.heap.size w3 (wk.alloc (.cells #[.int .i64 q.ver,.slice fa q.flows.length fc,.slice qa q.paths.length qc] 30)):=hb9.trans ((hbk.trans (hbz.mono hbk.size)).mono hb9.size)
  have htrz:=(htr9.below hbk).below hbz
  obtain ⟨qg,qo,pa2,pc2,rfl,hqg,hpr,hcq⟩:=S9 hqr hpk
  have q0:=hcq _ hbz
  have hprz:=hpr.below hbz
  have hqg2:qg<(wk.alloc (.cells #[.int .i64 q.ver,.slice fa q.flows.length fc,.slice (some ⟨qg,qo,none⟩) q.paths.length qc] 30)).heap.size:=by have:=hbz.size;omega
  have hplen:=hpr.len_le
  have hcap:path.length≤pc2:=hpr.1
  have k0:(0:Int)≤(k:Int):=by omega
  have kl:k<q.paths.length:=(List.getElem?_eq_some_iff.1 hpk).1
  have k1:(k:Int)<(q.paths.length:Int):=by omega
  have k2:¬(q.paths.length:Int)≤(k:Int):=by omega
  have k3:¬(path.length:Int)<(p.trace.length:Int):=by omega
  have k6:¬q.paths.length≤k:=by omega
  have k7:¬path.length<p.trace.length:=by omega
  have k4:(0:Int)≤(p.trace.length:Int):=by omega
  have k5:(p.trace.length:Int)≤(pc2:Int):=by omega
  clear hcq hfr hqr hpr hX hW9 hkl9 hnow9 hnext9 z1 z2 u1 u2 hbk hbz hpk htr9
  go_upto_region 13 with fail
  clear lp0 lp1 lp2 lq0 lq1 lq2
  generalize wk.alloc _=wl at *
  generalize wk.heap.size=pb at *
  rw [HPF.out] at hX9
  have hS0:SPa xb (.int .i64 (k:Int)) (.slice ta p.trace.length tc) pb (.slice (some ⟨qg,qo,none⟩) q.paths.length qc) qg (qo+k) (.slice pa2 path.length pc2) wl.drew:=⟨hX9.cells.1 0,hX9.cells.1 2,hP.cells.1 2,q0⟩
  refine B9 (SPa xb (.int .i64 (k:Int)) (.slice ta p.trace.length tc) pb (.slice (some ⟨qg,qo,none⟩) q.paths.length qc) qg (qo+k) (.slice pa2 path.length pc2)) 99 (fun a0 a' w'=>∃ v54 v55 v56 v57 v58 v59 v60 v61 v62 v63 v64 v65 v66 v67 v68 v69 v70 v71 v72 v73 v74 v75 v76 v77 v78 v79 v80 v81 v82 v83 v84 v85 v86 v87 v88 v89 v90 v91,a'=C8 a0 [(54,v54),(55,v55),(56,v56),(57,v57),(58,v58),(59,v59),(60,v60),(61,v61),(62,v62),(63,v63),(64,v64),(65,v65),(66,v66),(67,v67),(68,v68),(69,v69),(70,v70),(71,v71),(72,v72),(73,v73),(74,v74),(75,v75),(76,v76),(77,v77),(78,v78),(79,v79),(80,v80),(81,v81),(82,v82),(83,v83),(84,v84),(85,v85),(86,v86),(87,v87),(88,v88),(89,v89),(90,v90),(91,v91),(92,.bool false)]∧Below wl.heap.size wl w') (by kernel_rfl) ?_ ?_
  ·intro Q' hR hQp
   have hb0:Below wl.heap.size wl wl.drew:=N4 _
   have hS:SPa xb (.int .i64 (k:Int)) (.slice ta p.trace.length tc) pb (.slice (some ⟨qg,qo,none⟩) q.paths.length qc) qg (qo+k) (.slice pa2 path.length pc2) wl.drew:=hS0
   generalize wl.drew=wa at *
   refine A9 hQp hS [0,1,2,3,5,4,6,7,8,9,10,11,14,16,12,15,17,13,18,19,20,21,22,23,24,26,28,32,25,27,29,33,30,34,31,35] ?_
   iterate 36 (refine B2 _ rfl (by kernel_rfl) (A0 (by kernel_rfl) (by intro w0 hw0;have hw1:=hw0;simp only [SPa] at hw1;first|(go_simp;done)|(go_simp;rfl))) ?_;simp only [Act.put,St.tA,St.tD,St.tE,St.tS,St.tC,St.tZ])
   refine B3 ?_
   clear hS
   refine A7 (i:=36) rfl (by kernel_rfl) (by kernel_rfl) fun K36 hK36=>?_
   go_simp
   go_wp2_with fail
   have hqt:A8 C2 (fun _=>True) wa pa2 pc2 p.trace:=by
    have h9:=(hprz.below hb0).take p.trace.length
    rwa [←HTK.out] at h9
   refine (B1y p.trace p.trace _ _ _ _ _ _ wa (htrz.below hb0) hqt).mono ?_
   rintro e wb ⟨rfl,hab⟩
   rw [beq_self_eq_true]
   go_wp2_with fail
   have hbz2:=hb0.trans (hab.mono hb0.size)
   have hS:SPa xb (.int .i64 (k:Int)) (.slice ta p.trace.length tc) pb (.slice (some ⟨qg,qo,none⟩) q.paths.length qc) qg (qo+k) (.slice pa2 path.length pc2) wb:=⟨(hX9.under hbz2).cells.1 0,(hX9.under hbz2).cells.1 2,(hP.under hbz2).cells.1 2,B8 hbz2 hqg2 q0⟩
   refine hK36 _ _ (fun _=>hS) ?_
   clear hK36
   refine A9 hQp hS [37,38] ?_
   iterate 2 (refine B2 _ rfl (by kernel_rfl) (A0 (by kernel_rfl) (by intro w0 hw0;have hw1:=hw0;simp only [SPa] at hw1;first|(go_simp;done)|(go_simp;rfl))) ?_;simp only [Act.put,St.tA,St.tD,St.tE,St.tS,St.tC,St.tZ])
   refine B3 ?_
   refine B5 (by kernel_rfl) ?_ _
   refine hR _ _ ?_
   iterate 38 apply Exists.intro
   refine ⟨?_,hbz2⟩
   simp only [C8,Act.put,St.tS,St.tC,St.tZ]
   rfl
  rintro a' w8 ⟨v54,v55,v56,v57,v58,v59,v60,v61,v62,v63,v64,v65,v66,v67,v68,v69,v70,v71,v72,v73,v74,v75,v76,v77,v78,v79,v80,v81,v82,v83,v84,v85,v86,v87,v88,v89,v90,v91,rfl,hb8⟩
  simp only [C8,Act.put,St.tS,St.tC,St.tZ]
  have hbq:=hbl.trans (hb8.mono hbl.size)
  clear hS0 q0 hX9 hP htrz hprz
  go_wp2
  case roundEnd=>
   go_roundw
   case rel=>exact ⟨i+1,by go_num,by omega,hbq⟩
   case measure=>simp [intOf]<;>omega
end Go.Proofs.Ytpfmolaebloipaa
