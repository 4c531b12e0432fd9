/- Texts of this proof, one behind the other. -/
import Derived.Test.YtpfmolaebloipaaQ8
import Derived.Test.YtpfmolaebloipaaQ3
import Derived.Test.YtpfmolaebloipaaQ5
import Derived.Test.YtpfmolaebloipaaPk40
set_option linter.unusedSimpArgs false
set_option linter.unusedVariables false
set_option maxRecDepth 100000
set_option maxHeartbeats 16000000
namespace Go.St
open Go.RowKit
theorem A0g.ctl8 {ok:Nat→Prop} {w:World} {a0 a1 a2 a3 a4 a5 a6 a7 a8 b0 b1 b2 b3 b4:Value} {n:Net} (h:A0g.rep ok w [a0,a1,a2,a3,a4,a5,a6,a7,a8,b0,b1,b2,b3,b4] n):P3.rep ok w [a0,a1,a2,a3,a4,a5,a6,a7,a8] n.ctl:=by
 obtain ⟨ks,sa,sc,oa,oc,ba,bc,pa,pc,la,lc,e,hk,_⟩:=h
 have hl:ks.length=9:=P3.len hk
 have h2:=List.append_inj (s₁:=[a0,a1,a2,a3,a4,a5,a6,a7,a8]) (t₁:=[b0,b1,b2,b3,b4]) e (by rw [hl];rfl)
 rw [h2.1];exact hk
theorem B7z {w:World} {b:Nat} {t:TypeId} {z0 z1 z2 z3:Value} (h:A6 w b t #[z0,z1,z2,z3]) (W:Nat→Prop) (B:Nat) (hW:¬W b) (hB:B≤b) (a0 a1 a2 a3:Value):
  A6 ((((w.setCell ⟨b,0,none⟩ a0).setCell ⟨b,1,none⟩ a1).setCell ⟨b,2,none⟩ a2).setCell ⟨b,3,none⟩ a3) b t #[a0,a1,a2,a3]∧Frm W B w ((((w.setCell ⟨b,0,none⟩ a0).setCell ⟨b,1,none⟩ a1).setCell ⟨b,2,none⟩ a2).setCell ⟨b,3,none⟩ a3):=
 A04 hW hB [a0,a1,a2,a3] 0 w _ h
end Go.St
namespace Go.Proofs.Ytpfmolaebloipaa
open Go.RowKit Go.St
theorem B6t (n:Net) (cs ds:List Value) (ok ok':Nat→Prop) (w:World) (hx:A0g.rep ok w cs n) (hy:A0g.rep ok' w ds n) (hlen:n.orders.length=n.switches.length∧n.backs.length=n.switches.length):
  Calls Try.prog 23 #[.agg cs.toArray,.agg ds.toArray] w fun e w'=>e=.returned (.bool true)∧Below w.heap.size w w':=by
 have hX:=hx
 have hY:=hy
 obtain ⟨n0,n1,n2,y0,y1,y2,wa,wc,sa,sc,oa,oc,ba,bc,pa,pc,pl,lc,rfl,hst,hnu,hnow,hnext,hwt,hks,hko,hkb,hkp,hkl⟩:=A0g.open8 hx
 obtain ⟨n0',n1',n2',y0',y1',y2',wa',wc',sa',sc',oa',oc',ba',bc',pa',pc',pl',lc',rfl,_,_,hnow',hnext',hwt',hks',hko',hkb',hkp',hkl'⟩:=A0g.open8 hy
 obtain ⟨lp0,lp1,lp2⟩:=hnow.one
 obtain ⟨lq0,lq1,lq2⟩:=hnext.one
 obtain ⟨lr0,lr1,lr2⟩:=hnow'.one
 obtain ⟨lt0,lt1,lt2⟩:=hnext'.one
 have hs1:=hks.len_le
 have hs2:=hko.len_le
 have hs3:=hkb.len_le
 have hs4:=hkp.len_le
 have hs5:=hkl.len_le
 have HLEN:=Lib.hid hlen
 have hb0:Below w.heap.size w ((w.alloc (.cells #[.int .i64 n.ctl.stage,n0,n1,n2,y0,y1,y2,.int .i64 n.ctl.num,.slice wa n.ctl.waits.length wc,.slice sa n.switches.length sc,.slice oa n.orders.length oc,.slice ba n.backs.length bc,.slice pa n.packets.length pc,.slice pl n.plans.length lc] 40)).alloc (.cells #[.int .i64 n.ctl.stage,n0',n1',n2',y0',y1',y2',.int .i64 n.ctl.num,.slice wa' n.ctl.waits.length wc',.slice sa' n.switches.length sc',.slice oa' n.orders.length oc',.slice ba' n.backs.length bc',.slice pa' n.packets.length pc',.slice pl' n.plans.length lc'] 40)):=A1t _ _ _
 have hA0:A6 ((w.alloc (.cells #[.int .i64 n.ctl.stage,n0,n1,n2,y0,y1,y2,.int .i64 n.ctl.num,.slice wa n.ctl.waits.length wc,.slice sa n.switches.length sc,.slice oa n.orders.length oc,.slice ba n.backs.length bc,.slice pa n.packets.length pc,.slice pl n.plans.length lc] 40)).alloc (.cells #[.int .i64 n.ctl.stage,n0',n1',n2',y0',y1',y2',.int .i64 n.ctl.num,.slice wa' n.ctl.waits.length wc',.slice sa' n.switches.length sc',.slice oa' n.orders.length oc',.slice ba' n.backs.length bc',.slice pa' n.packets.length pc',.slice pl' n.plans.length lc'] 40)) w.heap.size 40 #[.int .i64 n.ctl.stage,n0,n1,n2,y0,y1,y2,.int .i64 n.ctl.num,.slice wa n.ctl.waits.length wc,.slice sa n.switches.length sc,.slice oa n.orders.length oc,.slice ba n.backs.length bc,.slice pa n.packets.length pc,.slice pl n.plans.length lc]:=(A6.new rfl).alloc _
 have hB0:A6 ((w.alloc (.cells #[.int .i64 n.ctl.stage,n0,n1,n2,y0,y1,y2,.int .i64 n.ctl.num,.slice wa n.ctl.waits.length wc,.slice sa n.switches.length sc,.slice oa n.orders.length oc,.slice ba n.backs.length bc,.slice pa n.packets.length pc,.slice pl n.plans.length lc] 40)).alloc (.cells #[.int .i64 n.ctl.stage,n0',n1',n2',y0',y1',y2',.int .i64 n.ctl.num,.slice wa' n.ctl.waits.length wc',.slice sa' n.switches.length sc',.slice oa' n.orders.length oc',.slice ba' n.backs.length bc',.slice pa' n.packets.length pc',.slice pl' n.plans.length lc'] 40)) (w.heap.size+1) 40 #[.int .i64 n.ctl.stage,n0',n1',n2',y0',y1',y2',.int .i64 n.ctl.num,.slice wa' n.ctl.waits.length wc',.slice sa' n.switches.length sc',.slice oa' n.orders.length oc',.slice ba' n.backs.length bc',.slice pa' n.packets.length pc',.slice pl' n.plans.length lc']:=A6.new (by simp)
 have HC:=Lib.hid (B7c n.ctl _ _ _ _ ((w.alloc (.cells #[.int .i64 n.ctl.stage,n0,n1,n2,y0,y1,y2,.int .i64 n.ctl.num,.slice wa n.ctl.waits.length wc,.slice sa n.switches.length sc,.slice oa n.orders.length oc,.slice ba n.backs.length bc,.slice pa n.packets.length pc,.slice pl n.plans.length lc] 40)).alloc (.cells #[.int .i64 n.ctl.stage,n0',n1',n2',y0',y1',y2',.int .i64 n.ctl.num,.slice wa' n.ctl.waits.length wc',.slice sa' n.switches.length sc',.slice oa' n.orders.length oc',.slice ba' n.backs.length bc',.slice pa' n.packets.length pc',.slice pl' n.plans.length lc'] 40)) (P3.below (A0g.ctl8 hX) hb0) (P3.below (A0g.ctl8 hY) hb0))
 clear hX hY hx hy hnow hnext hnow' hnext' hwt hwt' hlen
 go_enter Try.func23,Try.ntmps23
 go_wp2_with fail
 generalize ((w.alloc (.cells #[.int .i64 n.ctl.stage,n0,n1,n2,y0,y1,y2,.int .i64 n.ctl.num,.slice wa n.ctl.waits.length wc,.slice sa n.switches.length sc,.slice oa n.orders.length oc,.slice ba n.backs.length bc,.slice pa n.packets.length pc,.slice pl n.plans.length lc] 40)).alloc (.cells #[.int .i64 n.ctl.stage,n0',n1',n2',y0',y1',y2',.int .i64 n.ctl.num,.slice wa' n.ctl.waits.length wc',.slice sa' n.switches.length sc',.slice oa' n.orders.length oc',.slice ba' n.backs.length bc',.slice pa' n.packets.length pc',.slice pl' n.plans.length lc'] 40))=w0 at *
 refine HC.out.mono ?_
 rintro e w1 ⟨rfl,hb1⟩
 have hB1:=hb0.trans (hb1.mono hb0.size)
 have hA1:=hA0.under hb1
 have hC1:=hB0.under hb1
 obtain ⟨a1,a2⟩:=hA1.cells
 obtain ⟨c1,c2⟩:=hC1.cells
 have hks1:=hks.below hB1
 have hko1:=hko.below hB1
 have hkb1:=hkb.below hB1
 have hkp1:=hkp.below hB1
 have hkl1:=hkl.below hB1
 have hks2:=hks'.below hB1
 have hko2:=hko'.below hB1
 have hkb2:=hkb'.below hB1
 have hkp2:=hkp'.below hB1
 have hkl2:=hkl'.below hB1
 have hal:=hA1.lt
 have hcl:=hC1.lt
 clear hA0 hB0 hb0 hb1 HC hks hko hkb hkp hkl hks' hko' hkb' hkp' hkl'
 generalize hxb:w.heap.size=xb at hA1 hC1 hal hcl a1 a2 c1 c2 ⊢
 generalize hyb:xb+1=yb at hC1 hcl c1 c2 ⊢
 clear hxb hyb
 go_wp2
 clear a1 a2 c1 c2
 go_loopw [65] (fun idx wr=>∃ i:Nat,idx=.int .i64 i∧i≤n.switches.length∧Below w1.heap.size w1 wr) (fun idx _=>n.switches.length - (intOf idx).toNat)
 case atStart=>exact ⟨0,rfl,Nat.zero_le _,Below.refl _ _⟩
 case round=>
  obtain ⟨i,rfl,hi,hb⟩:=hrel
  rename World=>wo
  have hAo:=hA1.under hb
  have hCo:=hC1.under hb
  by_cases hlt:i<n.switches.length
  case pos=>
   have b1:(i:Int)<(n.switches.length:Int):=by omega
   have b0:(0:Int)≤(i:Int):=by omega
   have b2:(i:Int)<(n.orders.length:Int):=by rw [HLEN.out.1];omega
   have b3:(i:Int)<(n.backs.length:Int):=by rw [HLEN.out.2];omega
   obtain ⟨s,hs⟩:∃ s,n.switches[i]? =some s:=⟨_,List.getElem?_eq_getElem hlt⟩
   obtain ⟨os,hos⟩:∃ s,n.orders[i]? =some s:=⟨_,List.getElem?_eq_getElem (by rw [HLEN.out.1];exact hlt)⟩
   obtain ⟨bs,hbs⟩:∃ s,n.backs[i]? =some s:=⟨_,List.getElem?_eq_getElem (by rw [HLEN.out.2];exact hlt)⟩
   obtain ⟨sg,so,rfl,_,_,cs,hsr,hse⟩:=(hks1.below hb).get hs
   obtain ⟨sg',so',rfl,_,_,cs',hsr',hse'⟩:=(hks2.below hb).get hs
   obtain ⟨bg,bo,rfl,_,_,cs,⟨rb,rd,rfl,hbr⟩,hbe⟩:=(hkb1.below hb).get hbs
   obtain ⟨bg',bo',rfl,_,_,cs,⟨rb',rd',rfl,hbr'⟩,hbe'⟩:=(hkb2.below hb).get hbs
   obtain ⟨og,oo,rfl,_,_,cs,⟨qa,qc,rfl,hor⟩,hoe⟩:=(hko1.below hb).get hos
   obtain ⟨og',oo',rfl,_,_,cs,⟨qa',qc',rfl,hor'⟩,hoe'⟩:=(hko2.below hb).get hos
   have hQ:=fun (w':World) (hb:Below wo.heap.size wo w')=>B6l s s _ _ _ _ w' (E8.below hsr hb) (E8.below hsr' hb)
   rw [show decide (s=s)=true by simp] at hQ
   have HQ:=Lib.hid hQ
   have hI:=fun (w':World) (hb:Below wo.heap.size wo w')=>B1y bs bs _ _ _ _ _ _ w' (hbr.below hb) (hbr'.below hb)
   rw [show (bs==bs)=true by simp] at hI
   have HB:=Lib.hid hI
   clear hQ hI
   obtain ⟨ra,rc,ta,tc,rfl,_,_⟩:=hsr
   obtain ⟨ra',rc',ta',tc',rfl,_,_⟩:=hsr'
   have e0:=hse 0 _ rfl
   have e1:=hse 1 _ rfl
   have e2:=hse' 0 _ rfl
   have e3:=hse' 1 _ rfl
   have e4:=hbe 0 _ rfl
   have e5:=hbe' 0 _ rfl
   have e6:=hoe 0 _ rfl
   have e7:=hoe' 0 _ rfl
   simp only [show E8.size=2 from rfl,show (F7 C2).size=1 from rfl,show (F7 E3).size=1 from rfl,Nat.add_zero,Nat.mul_one] at e0 e1 e2 e3 e4 e5 e6 e7
   have hS1:SC [(⟨xb,9,none⟩,(.slice (some ⟨sg,so,none⟩) n.switches.length sc)),(⟨xb,10,none⟩,(.slice (some ⟨og,oo,none⟩) n.orders.length oc)),(⟨xb,11,none⟩,(.slice (some ⟨bg,bo,none⟩) n.backs.length bc)),(⟨yb,9,none⟩,(.slice (some ⟨sg',so',none⟩) n.switches.length sc')),(⟨yb,10,none⟩,(.slice (some ⟨og',oo',none⟩) n.orders.length oc')),(⟨yb,11,none⟩,(.slice (some ⟨bg',bo',none⟩) n.backs.length bc')),(⟨sg,so+i * 2,none⟩,(.slice ra s.rules.length rc)),(⟨sg,so+i * 2+1,none⟩,(.slice ta s.stamps.length tc)),(⟨sg',so'+i * 2,none⟩,(.slice ra' s.rules.length rc')),(⟨sg',so'+i * 2+1,none⟩,(.slice ta' s.stamps.length tc')),(⟨bg,bo+i,none⟩,(.slice rb bs.length rd)),(⟨bg',bo'+i,none⟩,(.slice rb' bs.length rd')),(⟨og,oo+i,none⟩,(.slice qa os.length qc)),(⟨og',oo'+i,none⟩,(.slice qa' os.length qc'))] wo:=⟨hAo.cells.1 9,hAo.cells.1 10,hAo.cells.1 11,hCo.cells.1 9,hCo.cells.1 10,hCo.cells.1 11,e0,e1,e2,e3,e4,e5,e6,e7,trivial⟩
   have hS0:SC [(⟨xb,9,none⟩,(.slice (some ⟨sg,so,none⟩) n.switches.length sc)),(⟨xb,10,none⟩,(.slice (some ⟨og,oo,none⟩) n.orders.length oc)),(⟨xb,11,none⟩,(.slice (some ⟨bg,bo,none⟩) n.backs.length bc)),(⟨yb,9,none⟩,(.slice (some ⟨sg',so',none⟩) n.switches.length sc')),(⟨yb,10,none⟩,(.slice (some ⟨og',oo',none⟩) n.orders.length oc')),(⟨yb,11,none⟩,(.slice (some ⟨bg',bo',none⟩) n.backs.length bc')),(⟨sg,so+i * 2,none⟩,(.slice ra s.rules.length rc)),(⟨sg,so+i * 2+1,none⟩,(.slice ta s.stamps.length tc)),(⟨sg',so'+i * 2,none⟩,(.slice ra' s.rules.length rc')),(⟨sg',so'+i * 2+1,none⟩,(.slice ta' s.stamps.length tc')),(⟨bg,bo+i,none⟩,(.slice rb bs.length rd)),(⟨bg',bo'+i,none⟩,(.slice rb' bs.length rd')),(⟨og,oo+i,none⟩,(.slice qa os.length qc)),(⟨og',oo'+i,none⟩,(.slice qa' os.length qc'))] wo.drew:=hS1
   have hlx:=hor.len_le
   clear hse hse' hbe hbe' hoe hoe' hs hos hbs hbr hbr' e0 e1 e2 e3 e4 e5 e6 e7
   go_upto_region 6 with fail
   refine B9 (SC [(⟨xb,9,none⟩,(.slice (some ⟨sg,so,none⟩) n.switches.length sc)),(⟨xb,10,none⟩,(.slice (some ⟨og,oo,none⟩) n.orders.length oc)),(⟨xb,11,none⟩,(.slice (some ⟨bg,bo,none⟩) n.backs.length bc)),(⟨yb,9,none⟩,(.slice (some ⟨sg',so',none⟩) n.switches.length sc')),(⟨yb,10,none⟩,(.slice (some ⟨og',oo',none⟩) n.orders.length oc')),(⟨yb,11,none⟩,(.slice (some ⟨bg',bo',none⟩) n.backs.length bc')),(⟨sg,so+i * 2,none⟩,(.slice ra s.rules.length rc)),(⟨sg,so+i * 2+1,none⟩,(.slice ta s.stamps.length tc)),(⟨sg',so'+i * 2,none⟩,(.slice ra' s.rules.length rc')),(⟨sg',so'+i * 2+1,none⟩,(.slice ta' s.stamps.length tc')),(⟨bg,bo+i,none⟩,(.slice rb bs.length rd)),(⟨bg',bo'+i,none⟩,(.slice rb' bs.length rd')),(⟨og,oo+i,none⟩,(.slice qa os.length qc)),(⟨og',oo'+i,none⟩,(.slice qa' os.length qc'))]) 99 (fun a0 a' w'=>∃ v68 v69 v70 v71 v72 v73 v74 v75 v76 v77 v78 v79 v80 v81 v82 v83 v84 v85 v86 v87 v88 v89 v90 v91 v92 v93 v94 v95 v96 v97 v98 v99 v100 v101 v102 v103 v104 v105 v106 v107,a'=C8 a0 [(68,v68),(69,v69),(70,v70),(71,v71),(72,v72),(73,v73),(74,v74),(75,v75),(76,v76),(77,v77),(78,v78),(79,v79),(80,v80),(81,v81),(82,v82),(83,v83),(84,v84),(85,v85),(86,v86),(87,v87),(88,v88),(89,v89),(90,v90),(91,v91),(92,v92),(93,v93),(94,v94),(95,v95),(96,v96),(97,v97),(98,v98),(99,v99),(100,v100),(101,v101),(102,v102),(103,v103),(104,v104),(105,v105),(106,v106),(107,v107),(108,.bool false)]∧Below wo.heap.size wo w') (by kernel_rfl) ?_ ?_
   ·intro Q' hR hQp
    have hb0:Below wo.heap.size wo wo.drew:=N4 _
    have hS:SC [(⟨xb,9,none⟩,(.slice (some ⟨sg,so,none⟩) n.switches.length sc)),(⟨xb,10,none⟩,(.slice (some ⟨og,oo,none⟩) n.orders.length oc)),(⟨xb,11,none⟩,(.slice (some ⟨bg,bo,none⟩) n.backs.length bc)),(⟨yb,9,none⟩,(.slice (some ⟨sg',so',none⟩) n.switches.length sc')),(⟨yb,10,none⟩,(.slice (some ⟨og',oo',none⟩) n.orders.length oc')),(⟨yb,11,none⟩,(.slice (some ⟨bg',bo',none⟩) n.backs.length bc')),(⟨sg,so+i * 2,none⟩,(.slice ra s.rules.length rc)),(⟨sg,so+i * 2+1,none⟩,(.slice ta s.stamps.length tc)),(⟨sg',so'+i * 2,none⟩,(.slice ra' s.rules.length rc')),(⟨sg',so'+i * 2+1,none⟩,(.slice ta' s.stamps.length tc')),(⟨bg,bo+i,none⟩,(.slice rb bs.length rd)),(⟨bg',bo'+i,none⟩,(.slice rb' bs.length rd')),(⟨og,oo+i,none⟩,(.slice qa os.length qc)),(⟨og',oo'+i,none⟩,(.slice qa' os.length qc'))] wo.drew:=hS0
    generalize wo.drew=wa at *
    refine A9 hQp hS [0,2,5,7,1,6,3,8,4,9] ?_
    iterate 10 (refine B2 _ rfl (by kernel_rfl) (A0 (by kernel_rfl) (by intro w0 hw0;have hw1:=hw0;simp only [SC] at hw1;first|(go_simp;done)|(go_simp;rfl))) ?_;simp only [Act.put,St.tA,St.tD,St.tE,St.tS,St.tC,St.tZ])
    refine B3 ?_
    clear hS
    refine A7 (i:=10) rfl (by kernel_rfl) (by kernel_rfl) fun K10 hK10=>?_
    go_simp
    go_wp2_with fail
    refine (HQ.out wa hb0).mono ?_
    rintro e wb ⟨rfl,hb1⟩
    have hb2:=hb0.trans (hb1.mono hb0.size)
    go_wp2_with fail
    have hS:_:=SC.later hb2 hS1
    refine hK10 _ _ (fun _=>hS) ?_
    clear hK10
    refine A9 hQp hS [11,12,13,15,18,20,14,19,16,21,17,22] ?_
    iterate 12 (refine B2 _ rfl (by kernel_rfl) (A0 (by kernel_rfl) (by intro w0 hw0;have hw1:=hw0;simp only [SC] at hw1;first|(go_simp;done)|(go_simp;rfl))) ?_;simp only [Act.put,St.tA,St.tD,St.tE,St.tS,St.tC,St.tZ])
    refine B3 ?_
    clear hS
    refine A7 (i:=23) rfl (by kernel_rfl) (by kernel_rfl) fun K23 hK23=>?_
    go_simp
    go_wp2_with fail
    refine (HB.out wb hb2).mono ?_
    rintro e wc2 ⟨rfl,hb3⟩
    have hb4:=hb2.trans (hb3.mono hb2.size)
    go_wp2_with fail
    have hS:_:=SC.later hb4 hS1
    refine hK23 _ _ (fun _=>hS) ?_
    clear hK23
    refine A9 hQp hS [24,25,26,27,29,33,35,28,34,30,36,31,37,32,38,39,40] ?_
    iterate 17 (refine B2 _ rfl (by kernel_rfl) (A0 (by kernel_rfl) (by intro w0 hw0;have hw1:=hw0;simp only [SC] at hw1;first|(go_simp;done)|(go_simp;rfl))) ?_;simp only [Act.put,St.tA,St.tD,St.tE,St.tS,St.tC,St.tZ])
    refine B3 ?_
    refine B5 (by kernel_rfl) ?_ _
    refine hR _ _ ?_
    iterate 40 apply Exists.intro
    refine ⟨?_,hb4⟩
    simp only [C8,Act.put,St.tS,St.tC,St.tZ]
    rfl
   rintro a' w8 ⟨v68,v69,v70,v71,v72,v73,v74,v75,v76,v77,v78,v79,v80,v81,v82,v83,v84,v85,v86,v87,v88,v89,v90,v91,v92,v93,v94,v95,v96,v97,v98,v99,v100,v101,v102,v103,v104,v105,v106,v107,rfl,hb8⟩
   simp only [C8,Act.put,St.tS,St.tC,St.tZ]
   have hb9:=hb.trans (hb8.mono hb.size)
   have hS9:=SC.later hb8 hS1
   clear hS0 hS1 HQ HB
   have hor9:=hor.below hb8
   have hor9':=hor'.below hb8
   have hA9:=hA1.under hb9
   obtain ⟨a1,a2⟩:=hA9.cells
   have hal9:=hA9.lt
   have e0:=hS9.2.2.2.2.2.2.2.2.2.2.2.2.1
   clear hor hor' hAo hCo
   rename World=>w8
   go_wp2
   clear a1 a2 e0
   go_loopw [115] (fun idx wr=>∃ k:Nat,idx=.int .i64 k∧k≤os.length∧Below w8.heap.size w8 wr) (fun idx _=>os.length - (intOf idx).toNat)
   case atStart=>exact ⟨0,rfl,Nat.zero_le _,Below.refl _ _⟩
   case round=>
    obtain ⟨k,rfl,hk,hbk⟩:=hrel
    rename World=>wi
    have hbi:=hb9.trans (hbk.mono hb9.size)
    by_cases hlk:k<os.length
    case neg=>
     have c1:¬(k:Int)<(os.length:Int):=by omega
     clear hS9
     go_wp2
     case roundEnd=>
      go_roundw
      case rel=>exact ⟨i+1,by go_num,by omega,hbi⟩
      case measure=>simp [intOf]<;>omega
    have c1:(k:Int)<(os.length:Int):=by omega
    have c0:(0:Int)≤(k:Int):=by omega
    obtain ⟨x,hxk⟩:∃ x,os[k]? =some x:=⟨_,List.getElem?_eq_getElem hlk⟩
    obtain ⟨rg,ro,rfl,_,_,cs,hxr,hxe⟩:=(hor9.below hbk).get hxk
    obtain ⟨rg',ro',rfl,_,_,cs',hxr',hxe'⟩:=(hor9'.below hbk).get hxk
    have hQ:=fun (w':World) (hb:Below wi.heap.size wi w')=>B6r x x _ _ _ _ w' (E3.below hxr hb) (E3.below hxr' hb)
    rw [show decide (x=x)=true by simp] at hQ
    have HQ:=Lib.hid hQ
    clear hQ
    obtain ⟨ra,rc,fa,fc,rfl,_⟩:=hxr
    obtain ⟨ra',rc',fa',fc',rfl,_⟩:=hxr'
    have u0:=hxe 0 _ rfl
    have u1:=hxe 1 _ rfl
    have u2:=hxe 2 _ rfl
    have u3:=hxe 3 _ rfl
    have u4:=hxe 4 _ rfl
    have v0:=hxe' 0 _ rfl
    have v1:=hxe' 1 _ rfl
    have v2:=hxe' 2 _ rfl
    have v3:=hxe' 3 _ rfl
    have v4:=hxe' 4 _ rfl
    simp only [show E3.size=5 from rfl,Nat.add_zero] at u0 u1 u2 u3 u4 v0 v1 v2 v3 v4
    have hT9:=SC.later hbk hS9
    have hS1:SC [(⟨xb,10,none⟩,(.slice (some ⟨og,oo,none⟩) n.orders.length oc)),(⟨yb,10,none⟩,(.slice (some ⟨og',oo',none⟩) n.orders.length oc')),(⟨og,oo+i,none⟩,(.slice (some ⟨rg,ro,none⟩) os.length qc)),(⟨og',oo'+i,none⟩,(.slice (some ⟨rg',ro',none⟩) os.length qc')),(⟨rg,ro+k * 5,none⟩,(.int .i64 x.kind)),(⟨rg,ro+k * 5+1,none⟩,(.int .i64 x.num)),(⟨rg,ro+k * 5+2,none⟩,(.int .i64 x.ver)),(⟨rg,ro+k * 5+3,none⟩,(.slice ra x.rules.length rc)),(⟨rg,ro+k * 5+4,none⟩,(.slice fa x.flows.length fc)),(⟨rg',ro'+k * 5,none⟩,(.int .i64 x.kind)),(⟨rg',ro'+k * 5+1,none⟩,(.int .i64 x.num)),(⟨rg',ro'+k * 5+2,none⟩,(.int .i64 x.ver)),(⟨rg',ro'+k * 5+3,none⟩,(.slice ra' x.rules.length rc')),(⟨rg',ro'+k * 5+4,none⟩,(.slice fa' x.flows.length fc'))] wi:=⟨hT9.2.1,hT9.2.2.2.2.1,hT9.2.2.2.2.2.2.2.2.2.2.2.2.1,hT9.2.2.2.2.2.2.2.2.2.2.2.2.2.1,u0,u1,u2,u3,u4,v0,v1,v2,v3,v4,trivial⟩
    have hS0:SC [(⟨xb,10,none⟩,(.slice (some ⟨og,oo,none⟩) n.orders.length oc)),(⟨yb,10,none⟩,(.slice (some ⟨og',oo',none⟩) n.orders.length oc')),(⟨og,oo+i,none⟩,(.slice (some ⟨rg,ro,none⟩) os.length qc)),(⟨og',oo'+i,none⟩,(.slice (some ⟨rg',ro',none⟩) os.length qc')),(⟨rg,ro+k * 5,none⟩,(.int .i64 x.kind)),(⟨rg,ro+k * 5+1,none⟩,(.int .i64 x.num)),(⟨rg,ro+k * 5+2,none⟩,(.int .i64 x.ver)),(⟨rg,ro+k * 5+3,none⟩,(.slice ra x.rules.length rc)),(⟨rg,ro+k * 5+4,none⟩,(.slice fa x.flows.length fc)),(⟨rg',ro'+k * 5,none⟩,(.int .i64 x.kind)),(⟨rg',ro'+k * 5+1,none⟩,(.int .i64 x.num)),(⟨rg',ro'+k * 5+2,none⟩,(.int .i64 x.ver)),(⟨rg',ro'+k * 5+3,none⟩,(.slice ra' x.rules.length rc')),(⟨rg',ro'+k * 5+4,none⟩,(.slice fa' x.flows.length fc'))] wi.drew:=hS1
    clear hxe hxe' hxk hT9 u0 u1 u2 u3 u4 v0 v1 v2 v3 v4
    go_upto_region 11 with fail
    refine B9 (SC [(⟨xb,10,none⟩,(.slice (some ⟨og,oo,none⟩) n.orders.length oc)),(⟨yb,10,none⟩,(.slice (some ⟨og',oo',none⟩) n.orders.length oc')),(⟨og,oo+i,none⟩,(.slice (some ⟨rg,ro,none⟩) os.length qc)),(⟨og',oo'+i,none⟩,(.slice (some ⟨rg',ro',none⟩) os.length qc')),(⟨rg,ro+k * 5,none⟩,(.int .i64 x.kind)),(⟨rg,ro+k * 5+1,none⟩,(.int .i64 x.num)),(⟨rg,ro+k * 5+2,none⟩,(.int .i64 x.ver)),(⟨rg,ro+k * 5+3,none⟩,(.slice ra x.rules.length rc)),(⟨rg,ro+k * 5+4,none⟩,(.slice fa x.flows.length fc)),(⟨rg',ro'+k * 5,none⟩,(.int .i64 x.kind)),(⟨rg',ro'+k * 5+1,none⟩,(.int .i64 x.num)),(⟨rg',ro'+k * 5+2,none⟩,(.int .i64 x.ver)),(⟨rg',ro'+k * 5+3,none⟩,(.slice ra' x.rules.length rc')),(⟨rg',ro'+k * 5+4,none⟩,(.slice fa' x.flows.length fc'))]) 99 (fun a0 a' w'=>∃ v118 v119 v120 v121 v122 v123 v124 v125 v126 v127 v128 v129 v130 v131 v132 v133 v134,a'=C8 a0 [(118,v118),(119,v119),(120,v120),(121,v121),(122,v122),(123,v123),(124,v124),(125,v125),(126,v126),(127,v127),(128,v128),(129,v129),(130,v130),(131,v131),(132,v132),(133,v133),(134,v134),(135,.bool false)]∧Below wi.heap.size wi w') (by kernel_rfl) ?_ ?_
    ·intro Q' hR hQp
     have hb0:Below wi.heap.size wi wi.drew:=N4 _
     have hS:SC [(⟨xb,10,none⟩,(.slice (some ⟨og,oo,none⟩) n.orders.length oc)),(⟨yb,10,none⟩,(.slice (some ⟨og',oo',none⟩) n.orders.length oc')),(⟨og,oo+i,none⟩,(.slice (some ⟨rg,ro,none⟩) os.length qc)),(⟨og',oo'+i,none⟩,(.slice (some ⟨rg',ro',none⟩) os.length qc')),(⟨rg,ro+k * 5,none⟩,(.int .i64 x.kind)),(⟨rg,ro+k * 5+1,none⟩,(.int .i64 x.num)),(⟨rg,ro+k * 5+2,none⟩,(.int .i64 x.ver)),(⟨rg,ro+k * 5+3,none⟩,(.slice ra x.rules.length rc)),(⟨rg,ro+k * 5+4,none⟩,(.slice fa x.flows.length fc)),(⟨rg',ro'+k * 5,none⟩,(.int .i64 x.kind)),(⟨rg',ro'+k * 5+1,none⟩,(.int .i64 x.num)),(⟨rg',ro'+k * 5+2,none⟩,(.int .i64 x.ver)),(⟨rg',ro'+k * 5+3,none⟩,(.slice ra' x.rules.length rc')),(⟨rg',ro'+k * 5+4,none⟩,(.slice fa' x.flows.length fc'))] wi.drew:=hS0
     generalize wi.drew=wa at *
     refine A9 hQp hS [0,2,5,8,10,13,1,9,3,11,4,12,6,14,7,15] ?_
     iterate 16 (refine B2 _ rfl (by kernel_rfl) (A0 (by kernel_rfl) (by intro w0 hw0;have hw1:=hw0;simp only [SC] at hw1;first|(go_simp;done)|(go_simp;rfl))) ?_;simp only [Act.put,St.tA,St.tD,St.tE,St.tS,St.tC,St.tZ])
     refine B3 ?_
     clear hS
     refine A7 (i:=16) rfl (by kernel_rfl) (by kernel_rfl) fun K16 hK16=>?_
     go_simp
     go_wp2_with fail
     refine (HQ.out wa hb0).mono ?_
     rintro e wb ⟨rfl,hb1⟩
     have hb2:=hb0.trans (hb1.mono hb0.size)
     go_wp2_with fail
     have hS:_:=SC.later hb2 hS1
     refine hK16 _ _ (fun _=>hS) ?_
     clear hK16
     refine A9 hQp hS [17] ?_
     iterate 1 (refine B2 _ rfl (by kernel_rfl) (A0 (by kernel_rfl) (by intro w0 hw0;have hw1:=hw0;simp only [SC] at hw1;first|(go_simp;done)|(go_simp;rfl))) ?_;simp only [Act.put,St.tA,St.tD,St.tE,St.tS,St.tC,St.tZ])
     refine B3 ?_
     refine B5 (by kernel_rfl) ?_ _
     refine hR _ _ ?_
     iterate 17 apply Exists.intro
     refine ⟨?_,hb2⟩
     simp only [C8,Act.put,St.tS,St.tC,St.tZ]
     rfl
    rintro a' w8 ⟨v118,v119,v120,v121,v122,v123,v124,v125,v126,v127,v128,v129,v130,v131,v132,v133,v134,rfl,hb8⟩
    simp only [C8,Act.put,St.tS,St.tC,St.tZ]
    have hbq:=hbk.trans (hb8.mono hbk.size)
    clear hS0 hS1 HQ
    go_wp2
    case roundEnd=>
     go_roundw
     case rel=>exact ⟨k+1,by go_num,by omega,hbq⟩
     case measure=>simp [intOf]<;>omega
  have b1:¬(i:Int)<(n.switches.length:Int):=by omega
  have hp1:=hkp1.below hb
  have hp2:=hkp2.below hb
  have hl1:=hkl1.below hb
  have hl2:=hkl2.below hb
  have hBo:=hB1.trans (hb.mono hB1.size)
  obtain ⟨a1,a2⟩:=hAo.cells
  obtain ⟨c1,c2⟩:=hCo.cells
  have hao:=hAo.lt
  have hco:=hCo.lt
  clear hA1 hC1 hks1 hko1 hkb1 hkp1 hkl1 hks2 hko2 hkb2 hkp2 hkl2 hb hal hcl hlt hi HLEN hB1
  go_wp2
  clear a1 a2 c1 c2
  go_loopw [141] (fun idx wr=>∃ i:Nat,idx=.int .i64 i∧i≤n.packets.length∧Below wo.heap.size wo wr) (fun idx _=>n.packets.length - (intOf idx).toNat)
  case atStart=>exact ⟨0,rfl,Nat.zero_le _,Below.refl _ _⟩
  case round=>
   obtain ⟨i,rfl,hi,hb⟩:=hrel
   rename World=>wi
   have hAi:=hAo.under hb
   have hCi:=hCo.under hb
   by_cases hlt:i<n.packets.length
   case pos=>
    have b1:(i:Int)<(n.packets.length:Int):=by omega
    have b0:(0:Int)≤(i:Int):=by omega
    obtain ⟨p,hpi⟩:∃ p,n.packets[i]? =some p:=⟨_,List.getElem?_eq_getElem hlt⟩
    obtain ⟨pg,po,ta,tc,rfl,hpg,hI1,hI2,htr,hce⟩:=A51 (hp1.below hb) hpi
    obtain ⟨pg',po',ta',tc',rfl,hpg',_,_,htr',hce'⟩:=A51 (hp2.below hb) hpi
    obtain ⟨e0,e1,e2,e3⟩:=hce wi (Below.refl _ _)
    obtain ⟨f0,f1,f2,f3⟩:=hce' wi (Below.refl _ _)
    have hS1:SC [(⟨xb,12,none⟩,(.slice (some ⟨pg,po,none⟩) n.packets.length pc)),(⟨yb,12,none⟩,(.slice (some ⟨pg',po',none⟩) n.packets.length pc')),(⟨pg,po+i * 4,none⟩,(.int .i64 p.flow)),(⟨pg,po+i * 4+1,none⟩,(.int .i64 p.ver)),(⟨pg,po+i * 4+2,none⟩,(.slice ta p.trace.length tc)),(⟨pg,po+i * 4+3,none⟩,(.bool p.done)),(⟨pg',po'+i * 4,none⟩,(.int .i64 p.flow)),(⟨pg',po'+i * 4+1,none⟩,(.int .i64 p.ver)),(⟨pg',po'+i * 4+2,none⟩,(.slice ta' p.trace.length tc')),(⟨pg',po'+i * 4+3,none⟩,(.bool p.done))] wi:=⟨hAi.cells.1 12,hCi.cells.1 12,e0,e1,e2,e3,f0,f1,f2,f3,trivial⟩
    have hS0:SC [(⟨xb,12,none⟩,(.slice (some ⟨pg,po,none⟩) n.packets.length pc)),(⟨yb,12,none⟩,(.slice (some ⟨pg',po',none⟩) n.packets.length pc')),(⟨pg,po+i * 4,none⟩,(.int .i64 p.flow)),(⟨pg,po+i * 4+1,none⟩,(.int .i64 p.ver)),(⟨pg,po+i * 4+2,none⟩,(.slice ta p.trace.length tc)),(⟨pg,po+i * 4+3,none⟩,(.bool p.done)),(⟨pg',po'+i * 4,none⟩,(.int .i64 p.flow)),(⟨pg',po'+i * 4+1,none⟩,(.int .i64 p.ver)),(⟨pg',po'+i * 4+2,none⟩,(.slice ta' p.trace.length tc')),(⟨pg',po'+i * 4+3,none⟩,(.bool p.done))] wi.drew:=hS1
    have hI:=fun (w':World) (hb:Below wi.heap.size wi w')=>B1y p.trace p.trace _ _ _ _ _ _ w' (htr.below hb) (htr'.below hb)
    rw [show (p.trace==p.trace)=true by simp] at hI
    have HI:=Lib.hid hI
    clear hI
    clear hce hce' hpi e0 e1 e2 e3 f0 f1 f2 f3 htr htr' hAi hCi
    go_upto_region 18 with fail
    refine B9 (SC [(⟨xb,12,none⟩,(.slice (some ⟨pg,po,none⟩) n.packets.length pc)),(⟨yb,12,none⟩,(.slice (some ⟨pg',po',none⟩) n.packets.length pc')),(⟨pg,po+i * 4,none⟩,(.int .i64 p.flow)),(⟨pg,po+i * 4+1,none⟩,(.int .i64 p.ver)),(⟨pg,po+i * 4+2,none⟩,(.slice ta p.trace.length tc)),(⟨pg,po+i * 4+3,none⟩,(.bool p.done)),(⟨pg',po'+i * 4,none⟩,(.int .i64 p.flow)),(⟨pg',po'+i * 4+1,none⟩,(.int .i64 p.ver)),(⟨pg',po'+i * 4+2,none⟩,(.slice ta' p.trace.length tc')),(⟨pg',po'+i * 4+3,none⟩,(.bool p.done))]) 99 (fun a0 a' w'=>∃ v8 v9 v144 v145 v146 v147 v148 v149 v150 v151 v152 v153,a'=C8 a0 [(8,v8),(9,v9),(144,v144),(145,v145),(146,v146),(147,v147),(148,v148),(149,v149),(150,v150),(151,v151),(152,v152),(153,v153)]∧∃ xq yq:Nat,v8=.pointer (some ⟨xq,0,none⟩)∧v9=.pointer (some ⟨yq,0,none⟩)∧A6 w' xq 48 #[.int .i64 p.flow,.int .i64 p.ver,.slice ta p.trace.length tc,.bool p.done]∧A6 w' yq 48 #[.int .i64 p.flow,.int .i64 p.ver,.slice ta' p.trace.length tc',.bool p.done]∧Below wi.heap.size wi w') (by kernel_rfl) ?_ ?_
    ·intro Q' hR hQp
     have hb0:Below wi.heap.size wi wi.drew:=N4 _
     have hS:SC [(⟨xb,12,none⟩,(.slice (some ⟨pg,po,none⟩) n.packets.length pc)),(⟨yb,12,none⟩,(.slice (some ⟨pg',po',none⟩) n.packets.length pc')),(⟨pg,po+i * 4,none⟩,(.int .i64 p.flow)),(⟨pg,po+i * 4+1,none⟩,(.int .i64 p.ver)),(⟨pg,po+i * 4+2,none⟩,(.slice ta p.trace.length tc)),(⟨pg,po+i * 4+3,none⟩,(.bool p.done)),(⟨pg',po'+i * 4,none⟩,(.int .i64 p.flow)),(⟨pg',po'+i * 4+1,none⟩,(.int .i64 p.ver)),(⟨pg',po'+i * 4+2,none⟩,(.slice ta' p.trace.length tc')),(⟨pg',po'+i * 4+3,none⟩,(.bool p.done))] wi.drew:=hS0
     generalize wi.drew=wa at *
     refine A9 hQp hS [0,2,5,7,1,6,3,8,4,9] ?_
     iterate 10 (refine B2 _ rfl (by kernel_rfl) (A0 (by kernel_rfl) (by intro w0 hw0;have hw1:=hw0;simp only [SC] at hw1;first|(go_simp;done)|(go_simp;rfl))) ?_;simp only [Act.put,St.tA,St.tD,St.tE,St.tS,St.tC,St.tZ])
     refine B3 ?_
     clear hS
     refine H5 (i:=10) (j:=11) rfl rfl (by kernel_rfl) (by kernel_rfl) (by kernel_rfl) (fun K10 hK10=>?_) (fun K11 hK11=>?_)
     ·skip
      go_simp
      go_wp2_with fail
      have hb1:Below wi.heap.size wi (wa.alloc (.cells #[.int .i64 0,.int .i64 0,.slice none 0 0,.bool false] 48)):=hb0.trans ((B8j wa _).mono hb0.size)
      have h1:=I6 wa 48 #[.int .i64 0,.int .i64 0,.slice none 0 0,.bool false]
      have hlo1:wi.heap.size≤wa.heap.size:=hb0.size
      generalize wa.alloc _=wb at *
      generalize wa.heap.size=xq at *
      refine hK10 _ _ (fun _=>SC.later hb1 hS1) ?_
      clear hK10
      refine A7 (i:=11) rfl (by kernel_rfl) (by kernel_rfl) fun K11 hK11=>?_
      go_simp
      go_wp2_with fail
      have hb2:Below wi.heap.size wi (wb.alloc (.cells #[.int .i64 0,.int .i64 0,.slice none 0 0,.bool false] 48)):=hb1.trans ((B8j wb _).mono hb1.size)
      have h2:=I6 wb 48 #[.int .i64 0,.int .i64 0,.slice none 0 0,.bool false]
      have hlo2:wi.heap.size≤wb.heap.size:=hb1.size
      have hlt1:=h1.lt
      have h1':=h1.under (B8j wb (.cells #[.int .i64 0,.int .i64 0,.slice none 0 0,.bool false] 48))
      have hne:xq≠wb.heap.size:=by omega
      generalize wb.alloc _=wc2 at *
      generalize wb.heap.size=yq at *
      refine hK11 _ _ (fun _=>SC.later hb2 hS1) ?_
      clear hK11 h1 hlt1
      have hX:A6 wc2 xq 48 #[.int .i64 0,.int .i64 0,.slice none 0 0,.bool false]:=h1'
      have hY:A6 wc2 yq 48 #[.int .i64 0,.int .i64 0,.slice none 0 0,.bool false]:=h2
      have hxy:xq≠yq:=by omega
      have hx0:wi.heap.size≤xq:=by assumption
      have hy0:wi.heap.size≤yq:=by assumption
      clear h1' h2 hne hlo1 hlo2
      obtain ⟨q1,q2⟩:=hX.cells
      have hxl:=hX.lt
      refine A7 (i:=12) rfl (by kernel_rfl) (by kernel_rfl) fun K12 hK12=>?_
      go_simp
      go_wp2_with fail
      clear q1 q2
      obtain ⟨hX2,hF2⟩:=B7z hX (fun b=>b≠xq) wi.heap.size (fun h=>h rfl) hx0 (.int .i64 p.flow) (.int .i64 p.ver) (.slice ta p.trace.length tc) (.bool p.done)
      have hY2:=hF2.blk hY (.inl (fun e=>hxy e.symm))
      have hb3:=hb2.trans hF2.below
      generalize ((((wc2.setCell ⟨xq,0,none⟩ (.int .i64 p.flow)).setCell ⟨xq,1,none⟩ (.int .i64 p.ver)).setCell ⟨xq,2,none⟩ (.slice ta p.trace.length tc)).setCell ⟨xq,3,none⟩ (.bool p.done))=wd at *
      refine hK12 _ _ (fun _=>SC.later hb3 hS1) ?_
      clear hK12 hF2 hX hY
      obtain ⟨q1,q2⟩:=hY2.cells
      have hyl:=hY2.lt
      refine A7 (i:=13) rfl (by kernel_rfl) (by kernel_rfl) fun K13 hK13=>?_
      go_simp
      go_wp2_with fail
      clear q1 q2
      obtain ⟨hY3,hF3⟩:=B7z hY2 (fun b=>b≠yq) wi.heap.size (fun h=>h rfl) hy0 (.int .i64 p.flow) (.int .i64 p.ver) (.slice ta' p.trace.length tc') (.bool p.done)
      have hX3:=hF3.blk hX2 (.inl hxy)
      have hb4:=hb3.trans hF3.below
      refine hK13 _ _ (fun _=>SC.later hb4 hS1) ?_
      clear hK13
      refine B5 (by kernel_rfl) ?_ _
      refine hR _ _ ?_
      iterate 12 apply Exists.intro
      refine ⟨?_,⟨xq,yq,rfl,rfl,hX3,hY3,hb4⟩⟩
      simp only [C8,Act.put,St.tS,St.tC,St.tZ]
      rfl
     ·skip
      go_simp
      go_wp2_with fail
      have hb1:Below wi.heap.size wi (wa.alloc (.cells #[.int .i64 0,.int .i64 0,.slice none 0 0,.bool false] 48)):=hb0.trans ((B8j wa _).mono hb0.size)
      have h1:=I6 wa 48 #[.int .i64 0,.int .i64 0,.slice none 0 0,.bool false]
      have hlo1:wi.heap.size≤wa.heap.size:=hb0.size
      generalize wa.alloc _=wb at *
      generalize wa.heap.size=yq at *
      refine hK11 _ _ (fun _=>SC.later hb1 hS1) ?_
      clear hK11
      refine A7 (i:=10) rfl (by kernel_rfl) (by kernel_rfl) fun K10 hK10=>?_
      go_simp
      go_wp2_with fail
      have hb2:Below wi.heap.size wi (wb.alloc (.cells #[.int .i64 0,.int .i64 0,.slice none 0 0,.bool false] 48)):=hb1.trans ((B8j wb _).mono hb1.size)
      have h2:=I6 wb 48 #[.int .i64 0,.int .i64 0,.slice none 0 0,.bool false]
      have hlo2:wi.heap.size≤wb.heap.size:=hb1.size
      have hlt1:=h1.lt
      have h1':=h1.under (B8j wb (.cells #[.int .i64 0,.int .i64 0,.slice none 0 0,.bool false] 48))
      have hne:yq≠wb.heap.size:=by omega
      generalize wb.alloc _=wc2 at *
      generalize wb.heap.size=xq at *
      refine hK10 _ _ (fun _=>SC.later hb2 hS1) ?_
      clear hK10 h1 hlt1
      have hX:A6 wc2 xq 48 #[.int .i64 0,.int .i64 0,.slice none 0 0,.bool false]:=h2
      have hY:A6 wc2 yq 48 #[.int .i64 0,.int .i64 0,.slice none 0 0,.bool false]:=h1'
      have hxy:xq≠yq:=by omega
      have hx0:wi.heap.size≤xq:=by assumption
      have hy0:wi.heap.size≤yq:=by assumption
      clear h1' h2 hne hlo1 hlo2
      obtain ⟨q1,q2⟩:=hX.cells
      have hxl:=hX.lt
      refine A7 (i:=12) rfl (by kernel_rfl) (by kernel_rfl) fun K12 hK12=>?_
      go_simp
      go_wp2_with fail
      clear q1 q2
      obtain ⟨hX2,hF2⟩:=B7z hX (fun b=>b≠xq) wi.heap.size (fun h=>h rfl) hx0 (.int .i64 p.flow) (.int .i64 p.ver) (.slice ta p.trace.length tc) (.bool p.done)
      have hY2:=hF2.blk hY (.inl (fun e=>hxy e.symm))
      have hb3:=hb2.trans hF2.below
      generalize ((((wc2.setCell ⟨xq,0,none⟩ (.int .i64 p.flow)).setCell ⟨xq,1,none⟩ (.int .i64 p.ver)).setCell ⟨xq,2,none⟩ (.slice ta p.trace.length tc)).setCell ⟨xq,3,none⟩ (.bool p.done))=wd at *
      refine hK12 _ _ (fun _=>SC.later hb3 hS1) ?_
      clear hK12 hF2 hX hY
      obtain ⟨q1,q2⟩:=hY2.cells
      have hyl:=hY2.lt
      refine A7 (i:=13) rfl (by kernel_rfl) (by kernel_rfl) fun K13 hK13=>?_
      go_simp
      go_wp2_with fail
      clear q1 q2
      obtain ⟨hY3,hF3⟩:=B7z hY2 (fun b=>b≠yq) wi.heap.size (fun h=>h rfl) hy0 (.int .i64 p.flow) (.int .i64 p.ver) (.slice ta' p.trace.length tc') (.bool p.done)
      have hX3:=hF3.blk hX2 (.inl hxy)
      have hb4:=hb3.trans hF3.below
      refine hK13 _ _ (fun _=>SC.later hb4 hS1) ?_
      clear hK13
      refine B5 (by kernel_rfl) ?_ _
      refine hR _ _ ?_
      iterate 12 apply Exists.intro
      refine ⟨?_,⟨xq,yq,rfl,rfl,hX3,hY3,hb4⟩⟩
      simp only [C8,Act.put,St.tS,St.tC,St.tZ]
      rfl
    rintro a' w8 ⟨v8,v9,v144,v145,v146,v147,v148,v149,v150,v151,v152,v153,rfl,hb8⟩
    simp only [C8,Act.put,St.tS,St.tC,St.tZ]
    obtain ⟨xq,yq,rfl,rfl,hX9,hY9,hb9⟩:=hb8
    obtain ⟨a1,a2⟩:=hX9.cells
    obtain ⟨c1,c2⟩:=hY9.cells
    have hxq:=hX9.lt
    have hyq:=hY9.lt
    rename World=>w8
    clear hS0 hS1
    go_wp2_with fail
    refine (HI.out w8 hb9).mono ?_
    rintro e w9 ⟨rfl,hbz⟩
    have hbq:=hb.trans ((hb9.trans (hbz.mono hb9.size)).mono hb.size)
    clear a1 a2 c1 c2 HI
    go_wp2
    case roundEnd=>
     go_roundw
     case rel=>exact ⟨i+1,by go_num,by omega,hbq⟩
     case measure=>simp [intOf]<;>omega
   have b1:¬(i:Int)<(n.packets.length:Int):=by omega
   have hl3:=hl1.below hb
   have hl4:=hl2.below hb
   have hBi:=hBo.trans (hb.mono hBo.size)
   obtain ⟨a1,a2⟩:=hAi.cells
   obtain ⟨c1,c2⟩:=hCi.cells
   have hai:=hAi.lt
   have hci:=hCi.lt
   clear hAo hCo hp1 hp2 hl1 hl2 hao hco hb hBo hlt hi
   go_wp2
   clear a1 a2 c1 c2
   go_loopw [185] (fun idx wr=>∃ i:Nat,idx=.int .i64 i∧i≤n.plans.length∧Below wi.heap.size wi wr) (fun idx _=>n.plans.length - (intOf idx).toNat)
   case atStart=>exact ⟨0,rfl,Nat.zero_le _,Below.refl _ _⟩
   case round=>
    obtain ⟨i,rfl,hi,hb⟩:=hrel
    rename World=>wz
    by_cases hlt:i<n.plans.length
    case neg=>
     have b1:¬(i:Int)<(n.plans.length:Int):=by omega
     have hbq:=hBi.trans (hb.mono hBi.size)
     go_wp2
     go_ret;exact ⟨rfl,hbq⟩
    have b1:(i:Int)<(n.plans.length:Int):=by omega
    have b0:(0:Int)≤(i:Int):=by omega
    obtain ⟨p,hpi⟩:∃ p,n.plans[i]? =some p:=⟨_,List.getElem?_eq_getElem hlt⟩
    obtain ⟨lg,lo,rfl,_,_,cs,hpr,hpe⟩:=(hl3.below hb).get hpi
    obtain ⟨lg',lo',rfl,_,_,cs',hpr',hpe'⟩:=(hl4.below hb).get hpi
    have HQ:=Lib.hid (fun (w':World) (hb:Below wz.heap.size wz w')=>B8t p _ _ _ _ w' (C3.below hpr hb) (C3.below hpr' hb))
    obtain ⟨fa,fc,qa,qc,rfl,_⟩:=hpr
    obtain ⟨fa',fc',qa',qc',rfl,_⟩:=hpr'
    have u0:=hpe 0 _ rfl
    have u1:=hpe 1 _ rfl
    have u2:=hpe 2 _ rfl
    have v0:=hpe' 0 _ rfl
    have v1:=hpe' 1 _ rfl
    have v2:=hpe' 2 _ rfl
    simp only [show C3.size=3 from rfl,Nat.add_zero] at u0 u1 u2 v0 v1 v2
    have hS1:SC [(⟨xb,13,none⟩,(.slice (some ⟨lg,lo,none⟩) n.plans.length lc)),(⟨yb,13,none⟩,(.slice (some ⟨lg',lo',none⟩) n.plans.length lc')),(⟨lg,lo+i * 3,none⟩,(.int .i64 p.ver)),(⟨lg,lo+i * 3+1,none⟩,(.slice fa p.flows.length fc)),(⟨lg,lo+i * 3+2,none⟩,(.slice qa p.paths.length qc)),(⟨lg',lo'+i * 3,none⟩,(.int .i64 p.ver)),(⟨lg',lo'+i * 3+1,none⟩,(.slice fa' p.flows.length fc')),(⟨lg',lo'+i * 3+2,none⟩,(.slice qa' p.paths.length qc'))] wz:=⟨(hAi.under hb).cells.1 13,(hCi.under hb).cells.1 13,u0,u1,u2,v0,v1,v2,trivial⟩
    have hS0:SC [(⟨xb,13,none⟩,(.slice (some ⟨lg,lo,none⟩) n.plans.length lc)),(⟨yb,13,none⟩,(.slice (some ⟨lg',lo',none⟩) n.plans.length lc')),(⟨lg,lo+i * 3,none⟩,(.int .i64 p.ver)),(⟨lg,lo+i * 3+1,none⟩,(.slice fa p.flows.length fc)),(⟨lg,lo+i * 3+2,none⟩,(.slice qa p.paths.length qc)),(⟨lg',lo'+i * 3,none⟩,(.int .i64 p.ver)),(⟨lg',lo'+i * 3+1,none⟩,(.slice fa' p.flows.length fc')),(⟨lg',lo'+i * 3+2,none⟩,(.slice qa' p.paths.length qc'))] wz.drew:=hS1
    clear hpe hpe' hpi u0 u1 u2 v0 v1 v2
    go_upto_region 25 with fail
    refine B9 (SC [(⟨xb,13,none⟩,(.slice (some ⟨lg,lo,none⟩) n.plans.length lc)),(⟨yb,13,none⟩,(.slice (some ⟨lg',lo',none⟩) n.plans.length lc')),(⟨lg,lo+i * 3,none⟩,(.int .i64 p.ver)),(⟨lg,lo+i * 3+1,none⟩,(.slice fa p.flows.length fc)),(⟨lg,lo+i * 3+2,none⟩,(.slice qa p.paths.length qc)),(⟨lg',lo'+i * 3,none⟩,(.int .i64 p.ver)),(⟨lg',lo'+i * 3+1,none⟩,(.slice fa' p.flows.length fc')),(⟨lg',lo'+i * 3+2,none⟩,(.slice qa' p.paths.length qc'))]) 99 (fun a0 a' w'=>∃ v188 v189 v190 v191 v192 v193 v194 v195 v196 v197 v198,a'=C8 a0 [(188,v188),(189,v189),(190,v190),(191,v191),(192,v192),(193,v193),(194,v194),(195,v195),(196,v196),(197,v197),(198,v198),(199,.bool false)]∧Below wz.heap.size wz w') (by kernel_rfl) ?_ ?_
    ·intro Q' hR hQp
     have hb0:Below wz.heap.size wz wz.drew:=N4 _
     have hS:SC [(⟨xb,13,none⟩,(.slice (some ⟨lg,lo,none⟩) n.plans.length lc)),(⟨yb,13,none⟩,(.slice (some ⟨lg',lo',none⟩) n.plans.length lc')),(⟨lg,lo+i * 3,none⟩,(.int .i64 p.ver)),(⟨lg,lo+i * 3+1,none⟩,(.slice fa p.flows.length fc)),(⟨lg,lo+i * 3+2,none⟩,(.slice qa p.paths.length qc)),(⟨lg',lo'+i * 3,none⟩,(.int .i64 p.ver)),(⟨lg',lo'+i * 3+1,none⟩,(.slice fa' p.flows.length fc')),(⟨lg',lo'+i * 3+2,none⟩,(.slice qa' p.paths.length qc'))] wz.drew:=hS0
     generalize wz.drew=wa at *
     refine A9 hQp hS [0,2,5,7,1,6,3,8,4,9] ?_
     iterate 10 (refine B2 _ rfl (by kernel_rfl) (A0 (by kernel_rfl) (by intro w0 hw0;have hw1:=hw0;simp only [SC] at hw1;first|(go_simp;done)|(go_simp;rfl))) ?_;simp only [Act.put,St.tA,St.tD,St.tE,St.tS,St.tC,St.tZ])
     refine B3 ?_
     clear hS
     refine A7 (i:=10) rfl (by kernel_rfl) (by kernel_rfl) fun K10 hK10=>?_
     go_simp
     go_wp2_with fail
     refine (HQ.out wa hb0).mono ?_
     rintro e wb ⟨rfl,hb1⟩
     have hb2:=hb0.trans (hb1.mono hb0.size)
     go_wp2_with fail
     have hS:_:=SC.later hb2 hS1
     refine hK10 _ _ (fun _=>hS) ?_
     clear hK10
     refine A9 hQp hS [11] ?_
     iterate 1 (refine B2 _ rfl (by kernel_rfl) (A0 (by kernel_rfl) (by intro w0 hw0;have hw1:=hw0;simp only [SC] at hw1;first|(go_simp;done)|(go_simp;rfl))) ?_;simp only [Act.put,St.tA,St.tD,St.tE,St.tS,St.tC,St.tZ])
     refine B3 ?_
     refine B5 (by kernel_rfl) ?_ _
     refine hR _ _ ?_
     iterate 11 apply Exists.intro
     refine ⟨?_,hb2⟩
     simp only [C8,Act.put,St.tS,St.tC,St.tZ]
     rfl
    rintro a' w8 ⟨v188,v189,v190,v191,v192,v193,v194,v195,v196,v197,v198,rfl,hb8⟩
    simp only [C8,Act.put,St.tS,St.tC,St.tZ]
    have hbq:=hb.trans (hb8.mono hb.size)
    clear hS0 hS1 HQ
    go_wp2
    case roundEnd=>
     go_roundw
     case rel=>exact ⟨i+1,by go_num,by omega,hbq⟩
     case measure=>simp [intOf]<;>omega
end Go.Proofs.Ytpfmolaebloipaa
