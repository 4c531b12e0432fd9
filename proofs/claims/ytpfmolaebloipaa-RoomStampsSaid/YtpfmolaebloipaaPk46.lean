/- Texts of this proof, one behind the other. -/
import Derived.Test.YtpfmolaebloipaaPk41
set_option linter.unusedSimpArgs false
set_option linter.unusedVariables false
set_option maxRecDepth 100000
set_option maxHeartbeats 16000000
namespace Go.St
open Go.RowKit
theorem A93 {t:C5} {l:List Do} (h:(D9 t l).2.2.1=0):(∀ (i:Nat) (p:F5),(D9 t l).1.plans[i]? =some p→p.ver=i+1)∧∀ (i:Nat) (s:D8),(D9 t l).1.switches[i]? =some s→∀ x∈s.stamps,∃ (j:Nat) (p:F5) (f:E0) (k:Nat),(D9 t l).1.plans[j]? =some p∧p.ver=x.ver∧(x.ver=(D9 t l).1.ctl.now.ver∨x.ver=(D9 t l).1.ctl.next.ver)∧x.flow=k∧p.flows[k]? =some f∧f.src=i:=by
 obtain ⟨ht,hl⟩:=X0 h
 rw [W2 ht hl]
 have hk:=(A3r ht hl).1
 refine ⟨fun i p hp=>(X2 hk hp).1,fun i s hs x hx=>?_⟩
 obtain ⟨q,path,hq,v1,v2,v3,v4,_,_,f,v5,v6⟩:=A4e hk hs hx
 refine ⟨_,q,f,x.flow.toNat,v3,v2,?_,by omega,v5,v6⟩
 rcases hq with rfl|rfl
 ·exact .inl v2.symm
 ·exact .inr v2.symm
end Go.St
namespace Go.Proofs.Ytpfmolaebloipaa
open Go.RowKit Go.St
theorem A6l (w:World) (t:C5) (ts:List Value) (okt:Nat→Prop) (h:I5.rep okt w ts t) (l:List Do) (da:Option Addr) (dc:Nat) (okd:Nat→Prop) (hd:A8 doS okd w da dc l):
  Calls Try.prog 10 #[.agg ts.toArray,.slice da l.length dc] w fun e w'=>e=.returned (.bool true)∧Below w.heap.size w w':=by
 have hT:=h
 obtain ⟨la,lc0,rfl,htn,htr⟩:=h
 have hdx:=hd.len_le
 have hB0:=G8 w (.cells #[.int .i64 t.n,.slice la t.links.length lc0] 24)
 have hT0:=I6 w 24 #[.int .i64 t.n,.slice la t.links.length lc0]
 have HP:=Lib.hid (A93 (t:=t) (l:=l))
 go_enter Try.func10,Try.ntmps10
 go_wp2_with fail
 generalize w.alloc _=w0 at *
 refine (A0o _).mono ?_
 rintro e w1 ⟨rfl,hb1⟩
 have hB1:=hB0.trans (hb1.mono hB0.size)
 have hT1:=hT0.under hb1
 obtain ⟨t1,t2⟩:=hT1.cells
 have htl:=hT1.lt
 clear hB0 hT0 hb1
 go_wp2_with fail
 refine (A2z t _ okt w1 (I5.below hT hB1) l da dc okd (hd.below hB1)).mono ?_
 rintro e w2 ⟨cs,ea,ec,rfl,hn2,he2,hb2⟩
 have hB2:=hB1.trans (hb2.mono hB1.size)
 have hT2:=hT1.under hb2
 clear hB1 hT1 hb2 t1 t2 htl
 generalize D9 t l=RR at *
 obtain ⟨n,es,fe,ff⟩:=RR
 dsimp only at *
 obtain ⟨n0,n1,n2,y0,y1,y2,wa,wc,sa,sc,oa,oc,ba,bc,pa,pc,pl,lc,rfl,hst,hnu,hnow,hnext,hwt,hks,hko,hkb,hkp,hkl⟩:=A0g.open8 hn2
 obtain ⟨lp0,lp1,lp2⟩:=B7.st (P:=Try.prog) hnow
 obtain ⟨lq0,lq1,lq2⟩:=B7.st (P:=Try.prog) hnext
 have hbx:Below w2.heap.size w2 ((w2.alloc (.cells #[.int .i64 n.ctl.stage,n0,n1,n2,y0,y1,y2,.int .i64 n.ctl.num,.slice wa n.ctl.waits.length wc,.slice sa n.switches.length sc,.slice oa n.orders.length oc,.slice ba n.backs.length bc,.slice pa n.packets.length pc,.slice pl n.plans.length lc] 40)).alloc (.cells #[.int .i64 fe,.int .i64 ff] 44)):=A1t _ _ _
 have hW:A6 ((w2.alloc (.cells #[.int .i64 n.ctl.stage,n0,n1,n2,y0,y1,y2,.int .i64 n.ctl.num,.slice wa n.ctl.waits.length wc,.slice sa n.switches.length sc,.slice oa n.orders.length oc,.slice ba n.backs.length bc,.slice pa n.packets.length pc,.slice pl n.plans.length lc] 40)).alloc (.cells #[.int .i64 fe,.int .i64 ff] 44)) w2.heap.size 40 #[.int .i64 n.ctl.stage,n0,n1,n2,y0,y1,y2,.int .i64 n.ctl.num,.slice wa n.ctl.waits.length wc,.slice sa n.switches.length sc,.slice oa n.orders.length oc,.slice ba n.backs.length bc,.slice pa n.packets.length pc,.slice pl n.plans.length lc]:=(A6.new rfl).alloc _
 have hG:A6 ((w2.alloc (.cells #[.int .i64 n.ctl.stage,n0,n1,n2,y0,y1,y2,.int .i64 n.ctl.num,.slice wa n.ctl.waits.length wc,.slice sa n.switches.length sc,.slice oa n.orders.length oc,.slice ba n.backs.length bc,.slice pa n.packets.length pc,.slice pl n.plans.length lc] 40)).alloc (.cells #[.int .i64 fe,.int .i64 ff] 44)) (w2.heap.size+1) 44 #[.int .i64 fe,.int .i64 ff]:=A6.new (by simp)
 have hB3:=hB2.trans (hbx.mono hB2.size)
 have hT3:=hT2.under hbx
 have hd3:=hd.below hB3
 have he3:=he2.below hbx
 have hnow3:B7 _ (fun _=>True) n0 n1 n2 n.ctl.now:=C3.below hnow hbx
 have hnext3:B7 _ (fun _=>True) y0 y1 y2 n.ctl.next:=C3.below hnext hbx
 have hwt3:=hwt.below hbx
 have hks3:=hks.below hbx
 have hko3:=hko.below hbx
 have hkb3:=hkb.below hbx
 have hkp3:=hkp.below hbx
 have hkl3:=hkl.below hbx
 clear hn2 he2 hB2 hT2 hnow hnext hwt hks hko hkb hkp hkl hd hbx
 go_upto_region 4 with fail
 generalize ((w2.alloc (.cells #[.int .i64 n.ctl.stage,n0,n1,n2,y0,y1,y2,.int .i64 n.ctl.num,.slice wa n.ctl.waits.length wc,.slice sa n.switches.length sc,.slice oa n.orders.length oc,.slice ba n.backs.length bc,.slice pa n.packets.length pc,.slice pl n.plans.length lc] 40)).alloc (.cells #[.int .i64 fe,.int .i64 ff] 44))=w3 at *
 generalize w2.heap.size=wb at *
 clear lp0 lp1 lp2 lq0 lq1 lq2
 obtain ⟨x1,x2⟩:=hW.cells
 obtain ⟨f1,f2⟩:=hG.cells
 have hwl:=hW.lt
 have hgl:=hG.lt
 by_cases hfe:fe=0
 case neg=>
  have e1:(fe !=0)=true:=by rw [bne_iff_ne];exact hfe
  go_wp2
  go_ret;exact ⟨rfl,hB3⟩
 subst hfe
 obtain ⟨hup,hP⟩:=HP.out rfl
 have HP2:=Lib.hid hP
 have HUP:=Lib.hid hup
 have hlx:=hks3.len_le
 obtain ⟨nv,_⟩:=hnow3.ver8
 obtain ⟨xv,_⟩:=hnext3.ver8
 subst nv xv
 clear HP hG hwt3 hko3 hkb3 hkp3 he3 hd3 hT3 hP hup
 go_wp2
 clear x1 x2 f1 f2
 go_loopw [29] (fun idx wr=>∃ i:Nat,idx=.int .i64 i∧i≤n.switches.length∧Below w3.heap.size w3 wr) (fun idx _=>n.switches.length - (intOf idx).toNat)
 case atStart=>exact ⟨0,rfl,Nat.zero_le _,Below.refl _ _⟩
 case round=>
  obtain ⟨i,rfl,hi,hb⟩:=hrel
  rename World=>wo
  have hBo:=hB3.trans (hb.mono hB3.size)
  by_cases hlt:i<n.switches.length
  case neg=>
   have b1:¬(i:Int)<(n.switches.length:Int):=by omega
   go_wp2
   go_ret;exact ⟨rfl,hBo⟩
  have b1:(i:Int)<(n.switches.length:Int):=by omega
  have b0:(0:Int)≤(i:Int):=by omega
  obtain ⟨s,hsi⟩:∃ s,n.switches[i]? =some s:=⟨_,List.getElem?_eq_getElem hlt⟩
  have HVS:=Lib.hid (HP2.out i s hsi)
  obtain ⟨pg,po,rfl,_,hpg,cs,⟨ra,rc,ta,tc,rfl,hru,hts⟩,hce⟩:=(hks3.below hb).get hsi
  have e0:=hce 0 _ rfl
  have e1:=hce 1 _ rfl
  rw [show E8.size=2 from rfl,Nat.add_zero] at e0
  rw [show E8.size=2 from rfl] at e1
  have hX:=I6 wo 60 #[.slice ra s.rules.length rc,.slice ta s.stamps.length tc]
  have hbx:=G8 wo (.cells #[.slice ra s.rules.length rc,.slice ta s.stamps.length tc] 60)
  have hb9:=hb.trans (hbx.mono hb.size)
  have hts9:=hts.below hbx
  have htl9:=hts.len_le
  clear hce hru hts hsi
  go_upto_region 9 with fail
  clear e0 e1
  generalize wo.alloc _=w9 at *
  generalize wo.heap.size=xb at *
  obtain ⟨z1,z2⟩:=hX.cells
  have hxl:=hX.lt
  go_wp2
  clear z1 z2
  go_loopw [37] (fun idx wr=>∃ j:Nat,idx=.int .i64 j∧j≤s.stamps.length∧Below w9.heap.size w9 wr) (fun idx _=>s.stamps.length - (intOf idx).toNat)
  case atStart=>exact ⟨0,rfl,Nat.zero_le _,Below.refl _ _⟩
  case round=>
   obtain ⟨j,rfl,hj,hbj⟩:=hrel
   rename World=>wi
   by_cases hjl:j<s.stamps.length
   case neg=>
    have c1:¬(j:Int)<(s.stamps.length:Int):=by omega
    have hb12:=hb9.trans (hbj.mono hb9.size)
    go_wp2
    case roundEnd=>
     go_roundw
     case rel=>exact ⟨i+1,by go_num,by omega,hb12⟩
     case measure=>simp [intOf]<;>omega
   have c1:(j:Int)<(s.stamps.length:Int):=by omega
   have c0:(0:Int)≤(j:Int):=by omega
   obtain ⟨r,hrj⟩:∃ r,s.stamps[j]? =some r:=⟨_,List.getElem?_eq_getElem hjl⟩
   obtain ⟨pj,p,f,k,hpj,hpv,hv,hrf,hpf,hsrc⟩:=HVS.out r (List.mem_of_getElem? hrj)
   have HRF:=Lib.hid hrf
   have HPV:=Lib.hid hpv
   have HV:=Lib.hid hv
   have HSRC:=Lib.hid hsrc
   clear hrf hpv hv hsrc
   obtain ⟨rg,ro,rfl,_,hrg,cs,⟨rfl,hr1,hr2⟩,hcr⟩:=(hts9.below hbj).get hrj
   have e0:=hcr 0 _ rfl
   have e1:=hcr 1 _ rfl
   rw [show J6.size=2 from rfl,Nat.add_zero] at e0
   rw [show J6.size=2 from rfl] at e1
   have hY:=I6 wi 75 #[.int .i64 r.flow,.int .i64 r.ver]
   have hby:=G8 wi (.cells #[.int .i64 r.flow,.int .i64 r.ver] 75)
   have hbj9:=hbj.trans (hby.mono hbj.size)
   have hb13:=hb9.trans (hbj9.mono hb9.size)
   have hW9:=hW.under hb13
   have hkl9:=hkl3.below hb13
   have hnow9:B7 _ (fun _=>True) (.int .i64 n.ctl.now.ver) n1 n2 n.ctl.now:=C3.below hnow3 hb13
   have hnext9:B7 _ (fun _=>True) (.int .i64 n.ctl.next.ver) y1 y2 n.ctl.next:=C3.below hnext3 hb13
   clear hcr hrj hbj hby
   go_upto_region 12 with fail
   clear e0 e1
   generalize wi.alloc _=wj at *
   generalize wi.heap.size=rb at *
   obtain ⟨z1,z2⟩:=hY.cells
   obtain ⟨u1,u2⟩:=hW9.cells
   have hzl:=hY.lt
   have hul:=hW9.lt
   obtain ⟨lp0,lp1,lp2⟩:=B7.st (P:=Try.prog) hnow9
   obtain ⟨lq0,lq1,lq2⟩:=B7.st (P:=Try.prog) hnext9
   go_wp2_with fail
   refine (B4o wj n.plans _ _ _ _ _ _ _ _ _ _ _ _ _ pl lc _ hkl9 r.ver pj p hpj HPV.out HUP.out).mono ?_
   rintro e wk ⟨fa,fc,qa,qc,rfl,hpI,hfr,hqr,hbk⟩
   have hP:=I6 wk 30 #[.int .i64 p.ver,.slice fa p.flows.length fc,.slice qa p.paths.length qc]
   have hbz:=G8 wk (.cells #[.int .i64 p.ver,.slice fa p.flows.length fc,.slice qa p.paths.length qc] 30)
   have hfr9:=hfr.below hbz
   have hY9:=(hY.under hbk).under hbz
   have hW10:=(hW9.under hbk).under hbz
   have hbl:Below w9.heap.size w9 (wk.alloc (.cells #[.int .i64 p.ver,.slice fa p.flows.length fc,.slice qa p.paths.length qc] 30)):=hbj9.trans ((hbk.trans (hbz.mono hbk.size)).mono hbj9.size)
   obtain ⟨fg,fo,rfl,_,hfg,cs,⟨va,vc,na,nc,rfl,hf1,hf2,hfv,hfn⟩,hcf⟩:=hfr9.get hpf
   have q0:=hcf 0 _ rfl
   rw [show H6.size=4 from rfl,Nat.add_zero] at q0
   have k0:(0:Int)≤(k:Int):=by omega
   have kl:k<p.flows.length:=(List.getElem?_eq_some_iff.1 hpf).1
   have k1:(k:Int)<(p.flows.length:Int):=by omega
   have k2:¬(p.flows.length:Int)≤(k:Int):=by omega
   have k3:(f.src !=(i:Int))=false:=by rw [bne_eq_false_iff_eq];exact HSRC.out
   clear hfr hqr hfr9 hcf hY hW9 hkl9 hnow9 hnext9 z1 z2 u1 u2 hbk hbz hb13
   go_upto_region 13 with fail
   clear lp0 lp1 lp2 lq0 lq1 lq2
   generalize wk.alloc _=wl at *
   generalize wk.heap.size=pb at *
   obtain ⟨z1,z2⟩:=hY9.cells
   obtain ⟨u1,u2⟩:=hW10.cells
   obtain ⟨p1,p2⟩:=hP.cells
   have hzl2:=hY9.lt
   have hul2:=hW10.lt
   have hpl2:=hP.lt
   rw [HRF.out] at z1
   clear hY9 hW10 hP
   by_cases hv1:r.ver=n.ctl.now.ver
   case pos=>
    have v1:(r.ver !=n.ctl.now.ver)=false:=by rw [bne_eq_false_iff_eq];exact hv1
    clear hv1
    go_wp2
    case roundEnd=>
     go_roundw
     case rel=>exact ⟨j+1,by go_num,by omega,hbl⟩
     case measure=>simp [intOf]<;>omega
   have v1:(r.ver !=n.ctl.now.ver)=true:=by rw [bne_iff_ne];exact hv1
   have v2:(r.ver !=n.ctl.next.ver)=false:=by rw [bne_eq_false_iff_eq];exact HV.out.resolve_left hv1
   clear hv1
   go_wp2
   case roundEnd=>
    go_roundw
    case rel=>exact ⟨j+1,by go_num,by omega,hbl⟩
    case measure=>simp [intOf]<;>omega
end Go.Proofs.Ytpfmolaebloipaa
