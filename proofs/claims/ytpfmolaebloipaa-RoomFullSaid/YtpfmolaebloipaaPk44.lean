/- Texts of this proof, one behind the other. -/
import Derived.Test.YtpfmolaebloipaaPk40
set_option linter.unusedSimpArgs false
set_option linter.unusedVariables false
set_option maxRecDepth 100000
set_option maxHeartbeats 16000000
namespace Go.St
open Go.RowKit
theorem B3n {t:C5} {l:List Do} (h:(D9 t l).2.2.1=0):∀ (i:Nat) (s:D8),(D9 t l).1.switches[i]? =some s→(E5 s.rules).1=0∧s.rules.length≤16∧∀ r∈s.rules,r.ver=(D9 t l).1.ctl.now.ver∨r.ver=(D9 t l).1.ctl.next.ver:=by
 obtain ⟨ht,hl⟩:=X0 h
 rw [W2 ht hl]
 exact fun i s hs=>A9n (A3r ht hl).1 hs
end Go.St
namespace Go.Proofs.Ytpfmolaebloipaa
open Go.RowKit Go.St
theorem A8z (w:World) (t:C5) (ts:List Value) (okt:Nat→Prop) (h:I5.rep okt w ts t) (l:List Do) (da:Option Addr) (dc:Nat) (okd:Nat→Prop) (hd:A8 doS okd w da dc l):
  Calls Try.prog 5 #[.agg ts.toArray,.slice da l.length dc] w fun e w'=>e=.returned (.bool true)∧Below w.heap.size w w':=by
 have hT:=h
 obtain ⟨la,lc0,rfl,htn,htr⟩:=h
 have hdx:=hd.len_le
 have hB0:=G8 w (.cells #[.int .i64 t.n,.slice la t.links.length lc0] 24)
 have hT0:=I6 w 24 #[.int .i64 t.n,.slice la t.links.length lc0]
 have HP:=Lib.hid (B3n (t:=t) (l:=l))
 go_enter Try.func5,Try.ntmps5
 go_wp2_with fail
 generalize w.alloc _=w0 at *
 refine (A0o _).mono ?_
 rintro e w1 ⟨rfl,hb1⟩
 have hB1:=hB0.trans (hb1.mono hB0.size)
 have hT1:=hT0.under hb1
 obtain ⟨t1,t2⟩:=hT1.cells
 have htl:=hT1.lt
 clear hB0 hT0 hb1
 go_wp2_with fail
 refine (A2z t _ okt w1 (I5.below hT hB1) l da dc okd (hd.below hB1)).mono ?_
 rintro e w2 ⟨cs,ea,ec,rfl,hn2,he2,hb2⟩
 have hB2:=hB1.trans (hb2.mono hB1.size)
 have hT2:=hT1.under hb2
 clear hB1 hT1 hb2 t1 t2 htl
 generalize D9 t l=RR at *
 obtain ⟨n,es,fe,ff⟩:=RR
 dsimp only at *
 obtain ⟨n0,n1,n2,y0,y1,y2,wa,wc,sa,sc,oa,oc,ba,bc,pa,pc,pl,lc,rfl,hst,hnu,hnow,hnext,hwt,hks,hko,hkb,hkp,hkl⟩:=A0g.open8 hn2
 obtain ⟨lp0,lp1,lp2⟩:=B7.st (P:=Try.prog) hnow
 obtain ⟨lq0,lq1,lq2⟩:=B7.st (P:=Try.prog) hnext
 have hbx:Below w2.heap.size w2 ((w2.alloc (.cells #[.int .i64 n.ctl.stage,n0,n1,n2,y0,y1,y2,.int .i64 n.ctl.num,.slice wa n.ctl.waits.length wc,.slice sa n.switches.length sc,.slice oa n.orders.length oc,.slice ba n.backs.length bc,.slice pa n.packets.length pc,.slice pl n.plans.length lc] 40)).alloc (.cells #[.int .i64 fe,.int .i64 ff] 44)):=A1t _ _ _
 have hW:A6 ((w2.alloc (.cells #[.int .i64 n.ctl.stage,n0,n1,n2,y0,y1,y2,.int .i64 n.ctl.num,.slice wa n.ctl.waits.length wc,.slice sa n.switches.length sc,.slice oa n.orders.length oc,.slice ba n.backs.length bc,.slice pa n.packets.length pc,.slice pl n.plans.length lc] 40)).alloc (.cells #[.int .i64 fe,.int .i64 ff] 44)) w2.heap.size 40 #[.int .i64 n.ctl.stage,n0,n1,n2,y0,y1,y2,.int .i64 n.ctl.num,.slice wa n.ctl.waits.length wc,.slice sa n.switches.length sc,.slice oa n.orders.length oc,.slice ba n.backs.length bc,.slice pa n.packets.length pc,.slice pl n.plans.length lc]:=(A6.new rfl).alloc _
 have hG:A6 ((w2.alloc (.cells #[.int .i64 n.ctl.stage,n0,n1,n2,y0,y1,y2,.int .i64 n.ctl.num,.slice wa n.ctl.waits.length wc,.slice sa n.switches.length sc,.slice oa n.orders.length oc,.slice ba n.backs.length bc,.slice pa n.packets.length pc,.slice pl n.plans.length lc] 40)).alloc (.cells #[.int .i64 fe,.int .i64 ff] 44)) (w2.heap.size+1) 44 #[.int .i64 fe,.int .i64 ff]:=A6.new (by simp)
 have hB3:=hB2.trans (hbx.mono hB2.size)
 have hT3:=hT2.under hbx
 have hd3:=hd.below hB3
 have he3:=he2.below hbx
 have hnow3:B7 _ (fun _=>True) n0 n1 n2 n.ctl.now:=C3.below hnow hbx
 have hnext3:B7 _ (fun _=>True) y0 y1 y2 n.ctl.next:=C3.below hnext hbx
 have hwt3:=hwt.below hbx
 have hks3:=hks.below hbx
 have hko3:=hko.below hbx
 have hkb3:=hkb.below hbx
 have hkp3:=hkp.below hbx
 have hkl3:=hkl.below hbx
 clear hn2 he2 hB2 hT2 hnow hnext hwt hks hko hkb hkp hkl hd hbx
 go_upto_region 4 with fail
 generalize ((w2.alloc (.cells #[.int .i64 n.ctl.stage,n0,n1,n2,y0,y1,y2,.int .i64 n.ctl.num,.slice wa n.ctl.waits.length wc,.slice sa n.switches.length sc,.slice oa n.orders.length oc,.slice ba n.backs.length bc,.slice pa n.packets.length pc,.slice pl n.plans.length lc] 40)).alloc (.cells #[.int .i64 fe,.int .i64 ff] 44))=w3 at *
 generalize w2.heap.size=wb at *
 clear lp0 lp1 lp2 lq0 lq1 lq2
 obtain ⟨x1,x2⟩:=hW.cells
 obtain ⟨f1,f2⟩:=hG.cells
 have hwl:=hW.lt
 have hgl:=hG.lt
 by_cases hfe:fe=0
 case neg=>
  have e1:(fe !=0)=true:=by rw [bne_iff_ne];exact hfe
  go_wp2
  go_ret;exact ⟨rfl,hB3⟩
 subst hfe
 have HP2:=Lib.hid (HP.out rfl)
 have hlx:=hks3.len_le
 obtain ⟨nv,_⟩:=hnow3.ver8
 obtain ⟨xv,_⟩:=hnext3.ver8
 subst nv xv
 clear HP hG hnow3 hnext3 hwt3 hkl3 hko3 hkb3 hkp3 he3 hd3 hT3
 go_wp2
 clear x1 x2 f1 f2
 go_loopw [27] (fun idx wr=>∃ i:Nat,idx=.int .i64 i∧i≤n.switches.length∧Below w3.heap.size w3 wr) (fun idx _=>n.switches.length - (intOf idx).toNat)
 case atStart=>exact ⟨0,rfl,Nat.zero_le _,Below.refl _ _⟩
 case round=>
  obtain ⟨i,rfl,hi,hb⟩:=hrel
  rename World=>wo
  have hBo:=hB3.trans (hb.mono hB3.size)
  by_cases hlt:i<n.switches.length
  case neg=>
   have b1:¬(i:Int)<(n.switches.length:Int):=by omega
   go_wp2
   go_ret;exact ⟨rfl,hBo⟩
  have b1:(i:Int)<(n.switches.length:Int):=by omega
  have b0:(0:Int)≤(i:Int):=by omega
  obtain ⟨s,hsi⟩:∃ s,n.switches[i]? =some s:=⟨_,List.getElem?_eq_getElem hlt⟩
  obtain ⟨htw,h16,hvs⟩:=HP2.out i s hsi
  obtain ⟨pg,po,rfl,_,hpg,cs,⟨ra,rc,ta,tc,rfl,hru,hts⟩,hce⟩:=(hks3.below hb).get hsi
  have e0:=hce 0 _ rfl
  have e1:=hce 1 _ rfl
  rw [show E8.size=2 from rfl,Nat.add_zero] at e0
  rw [show E8.size=2 from rfl] at e1
  have hX:=I6 wo 60 #[.slice ra s.rules.length rc,.slice ta s.stamps.length tc]
  have hbx:=G8 wo (.cells #[.slice ra s.rules.length rc,.slice ta s.stamps.length tc] 60)
  have hb9:=hb.trans (hbx.mono hb.size)
  have hru9:=hru.below hbx
  have HVS:=Lib.hid hvs
  clear hce hru hts hsi hvs
  go_upto_region 9 with fail
  clear e0 e1
  generalize wo.alloc _=w9 at *
  generalize wo.heap.size=xb at *
  obtain ⟨z1,z2⟩:=hX.cells
  have hxl:=hX.lt
  have hfd:=A8w
  go_wp2_with fail
  refine (A0a s.rules _ ra rc w9 hru9).mono ?_
  rintro e w10 ⟨rfl,hb10⟩
  rw [htw]
  have hX10:=hX.under hb10
  have hru10:=hru9.below hb10
  have hb11:=hb9.trans (hb10.mono hb9.size)
  have c16:¬(16:Int)<(s.rules.length:Int):=by omega
  obtain ⟨y1,y2⟩:=hX10.cells
  have hyl:=hX10.lt
  clear hX hru9 hb10 hb9 z1 z2 htw h16
  go_wp2
  clear y1 y2
  clear hfd
  have hB11:=hB3.trans (hb11.mono hB3.size)
  go_loopw [45] (fun idx wr=>∃ j:Nat,idx=.int .i64 j∧j≤s.rules.length∧Below w10.heap.size w10 wr) (fun idx _=>s.rules.length - (intOf idx).toNat)
  case atStart=>exact ⟨0,rfl,Nat.zero_le _,Below.refl _ _⟩
  case round=>
   obtain ⟨j,rfl,hj,hbj⟩:=hrel
   rename World=>wi
   by_cases hjl:j<s.rules.length
   case neg=>
    have c1:¬(j:Int)<(s.rules.length:Int):=by omega
    have hb12:=hb11.trans (hbj.mono hb11.size)
    go_wp2
    case roundEnd=>
     go_roundw
     case rel=>exact ⟨i+1,by go_num,by omega,hb12⟩
     case measure=>simp [intOf]<;>omega
   have c1:(j:Int)<(s.rules.length:Int):=by omega
   have c0:(0:Int)≤(j:Int):=by omega
   obtain ⟨r,hrj⟩:∃ r,s.rules[j]? =some r:=⟨_,List.getElem?_eq_getElem hjl⟩
   have hv:=HVS.out r (List.mem_of_getElem? hrj)
   obtain ⟨rg,ro,rfl,_,hrg,cs,⟨rfl,hr1,hr2,hr3⟩,hcr⟩:=(hru10.below hbj).get hrj
   have e0:=hcr 0 _ rfl
   have e1:=hcr 1 _ rfl
   have e2:=hcr 2 _ rfl
   rw [show G6.size=3 from rfl,Nat.add_zero] at e0
   rw [show G6.size=3 from rfl] at e1 e2
   have hY:=I6 wi 63 #[.int .i64 r.ver,.int .i64 r.flow,.int .i64 r.next]
   have hby:=G8 wi (.cells #[.int .i64 r.ver,.int .i64 r.flow,.int .i64 r.next] 63)
   have hbj9:=hbj.trans (hby.mono hbj.size)
   have hW9:=hW.under (hb11.trans (hbj9.mono hb11.size))
   clear hcr hrj hbj hby
   go_upto_region 14 with fail
   clear e0 e1 e2
   generalize wi.alloc _=wj at *
   generalize wi.heap.size=rb at *
   obtain ⟨z1,z2⟩:=hY.cells
   obtain ⟨u1,u2⟩:=hW9.cells
   have hzl:=hY.lt
   have hul:=hW9.lt
   clear hY hW9
   by_cases hv1:r.ver=n.ctl.now.ver
   case pos=>
    have k1:(r.ver !=n.ctl.now.ver)=false:=by rw [bne_eq_false_iff_eq];exact hv1
    clear hv1 hv
    go_wp2
    case roundEnd=>
     go_roundw
     case rel=>exact ⟨j+1,by go_num,by omega,hbj9⟩
     case measure=>simp [intOf]<;>omega
   have k1:(r.ver !=n.ctl.now.ver)=true:=by rw [bne_iff_ne];exact hv1
   have k2:(r.ver !=n.ctl.next.ver)=false:=by rw [bne_eq_false_iff_eq];exact hv.resolve_left hv1
   clear hv1 hv
   go_wp2
   case roundEnd=>
    go_roundw
    case rel=>exact ⟨j+1,by go_num,by omega,hbj9⟩
    case measure=>simp [intOf]<;>omega
end Go.Proofs.Ytpfmolaebloipaa
