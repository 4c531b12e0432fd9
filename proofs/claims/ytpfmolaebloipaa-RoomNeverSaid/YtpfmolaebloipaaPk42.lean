/- Texts of this proof, one behind the other. -/
import Derived.Test.YtpfmolaebloipaaPk40
set_option linter.unusedSimpArgs false
set_option linter.unusedVariables false
set_option maxRecDepth 100000
set_option maxHeartbeats 16000000
namespace Go.St
open Go.RowKit
theorem B1l {t:C5} {l:List Do} (h:(D9 t l).2.2.1=0):(D9 t l).2.1.length=l.length∧∀ (i:Nat) (d:Do) (e:Int),l[i]? =some d→(D9 t l).2.1[i]? =some e→(d.kind=2∨d.kind=3)→e=0∨e=6:=by
 obtain ⟨ht,hl⟩:=X0 h
 rw [W2 ht hl]
 refine ⟨A8m _ _ _,fun i d e hd he hk=>?_⟩
 obtain ⟨e',h1,h2⟩:=A83 ht hl hd hk
 dsimp only at he
 rw [he] at h1
 obtain rfl:e=e':=by simpa using h1
 exact h2
end Go.St
namespace Go.Proofs.Ytpfmolaebloipaa
open Go.RowKit Go.St
theorem A7v (w:World) (t:C5) (ts:List Value) (okt:Nat→Prop) (h:I5.rep okt w ts t) (l:List Do) (da:Option Addr) (dc:Nat) (okd:Nat→Prop) (hd:A8 doS okd w da dc l):
  Calls Try.prog 9 #[.agg ts.toArray,.slice da l.length dc] w fun e w'=>e=.returned (.bool true)∧Below w.heap.size w w':=by
 have hT:=h
 obtain ⟨la,lc0,rfl,htn,htr⟩:=h
 have hdx:=hd.len_le
 have hB0:=G8 w (.cells #[.int .i64 t.n,.slice la t.links.length lc0] 24)
 have hT0:=I6 w 24 #[.int .i64 t.n,.slice la t.links.length lc0]
 have HP:=Lib.hid (B1l (t:=t) (l:=l))
 go_enter Try.func9,Try.ntmps9
 go_wp2_with fail
 generalize w.alloc _=w0 at *
 refine (A0o _).mono ?_
 rintro e w1 ⟨rfl,hb1⟩
 have hB1:=hB0.trans (hb1.mono hB0.size)
 have hT1:=hT0.under hb1
 obtain ⟨t1,t2⟩:=hT1.cells
 have htl:=hT1.lt
 clear hB0 hT0 hb1
 go_wp2_with fail
 refine (A2z t _ okt w1 (I5.below hT hB1) l da dc okd (hd.below hB1)).mono ?_
 rintro e w2 ⟨cs,ea,ec,rfl,hn2,he2,hb2⟩
 have hB2:=hB1.trans (hb2.mono hB1.size)
 have hT2:=hT1.under hb2
 clear hB1 hT1 hb2 t1 t2 htl
 generalize D9 t l=RR at *
 obtain ⟨n,es,fe,ff⟩:=RR
 dsimp only at *
 obtain ⟨n0,n1,n2,y0,y1,y2,wa,wc,sa,sc,oa,oc,ba,bc,pa,pc,pl,lc,rfl,hst,hnu,hnow,hnext,hwt,hks,hko,hkb,hkp,hkl⟩:=A0g.open8 hn2
 obtain ⟨lp0,lp1,lp2⟩:=B7.st (P:=Try.prog) hnow
 obtain ⟨lq0,lq1,lq2⟩:=B7.st (P:=Try.prog) hnext
 have hbx:Below w2.heap.size w2 ((w2.alloc (.cells #[.int .i64 n.ctl.stage,n0,n1,n2,y0,y1,y2,.int .i64 n.ctl.num,.slice wa n.ctl.waits.length wc,.slice sa n.switches.length sc,.slice oa n.orders.length oc,.slice ba n.backs.length bc,.slice pa n.packets.length pc,.slice pl n.plans.length lc] 40)).alloc (.cells #[.int .i64 fe,.int .i64 ff] 44)):=A1t _ _ _
 have hW:A6 ((w2.alloc (.cells #[.int .i64 n.ctl.stage,n0,n1,n2,y0,y1,y2,.int .i64 n.ctl.num,.slice wa n.ctl.waits.length wc,.slice sa n.switches.length sc,.slice oa n.orders.length oc,.slice ba n.backs.length bc,.slice pa n.packets.length pc,.slice pl n.plans.length lc] 40)).alloc (.cells #[.int .i64 fe,.int .i64 ff] 44)) w2.heap.size 40 #[.int .i64 n.ctl.stage,n0,n1,n2,y0,y1,y2,.int .i64 n.ctl.num,.slice wa n.ctl.waits.length wc,.slice sa n.switches.length sc,.slice oa n.orders.length oc,.slice ba n.backs.length bc,.slice pa n.packets.length pc,.slice pl n.plans.length lc]:=(A6.new rfl).alloc _
 have hG:A6 ((w2.alloc (.cells #[.int .i64 n.ctl.stage,n0,n1,n2,y0,y1,y2,.int .i64 n.ctl.num,.slice wa n.ctl.waits.length wc,.slice sa n.switches.length sc,.slice oa n.orders.length oc,.slice ba n.backs.length bc,.slice pa n.packets.length pc,.slice pl n.plans.length lc] 40)).alloc (.cells #[.int .i64 fe,.int .i64 ff] 44)) (w2.heap.size+1) 44 #[.int .i64 fe,.int .i64 ff]:=A6.new (by simp)
 have hB3:=hB2.trans (hbx.mono hB2.size)
 have hT3:=hT2.under hbx
 have hd3:=hd.below hB3
 have he3:=he2.below hbx
 have hnow3:B7 _ (fun _=>True) n0 n1 n2 n.ctl.now:=C3.below hnow hbx
 have hnext3:B7 _ (fun _=>True) y0 y1 y2 n.ctl.next:=C3.below hnext hbx
 have hwt3:=hwt.below hbx
 have hks3:=hks.below hbx
 have hko3:=hko.below hbx
 have hkb3:=hkb.below hbx
 have hkp3:=hkp.below hbx
 have hkl3:=hkl.below hbx
 clear hn2 he2 hB2 hT2 hnow hnext hwt hks hko hkb hkp hkl hd hbx
 go_upto_region 4 with fail
 generalize ((w2.alloc (.cells #[.int .i64 n.ctl.stage,n0,n1,n2,y0,y1,y2,.int .i64 n.ctl.num,.slice wa n.ctl.waits.length wc,.slice sa n.switches.length sc,.slice oa n.orders.length oc,.slice ba n.backs.length bc,.slice pa n.packets.length pc,.slice pl n.plans.length lc] 40)).alloc (.cells #[.int .i64 fe,.int .i64 ff] 44))=w3 at *
 generalize w2.heap.size=wb at *
 clear lp0 lp1 lp2 lq0 lq1 lq2
 obtain ⟨x1,x2⟩:=hW.cells
 obtain ⟨f1,f2⟩:=hG.cells
 have hwl:=hW.lt
 have hgl:=hG.lt
 by_cases hfe:fe=0
 case neg=>
  have e1:(fe !=0)=true:=by rw [bne_iff_ne];exact hfe
  go_wp2
  go_ret;exact ⟨rfl,hB3⟩
 subst hfe
 obtain ⟨hel,hP⟩:=HP.out rfl
 have HP2:=Lib.hid hP
 clear HP hP hW hG hT3 hnow3 hnext3 hwt3 hks3 hko3 hkb3 hkp3 hkl3
 go_wp2
 clear x1 x2 f1 f2
 go_loopw [24] (fun idx wr=>∃ i:Nat,idx=.int .i64 i∧i≤l.length∧Below w3.heap.size w3 wr) (fun idx _=>l.length - (intOf idx).toNat)
 case atStart=>exact ⟨0,rfl,Nat.zero_le _,Below.refl _ _⟩
 case round=>
  obtain ⟨i,rfl,hi,hb⟩:=hrel
  rename World=>wo
  have hBo:=hB3.trans (hb.mono hB3.size)
  by_cases hlt:i<l.length
  case neg=>
   have b1:¬(i:Int)<(l.length:Int):=by omega
   go_wp2
   go_ret;exact ⟨rfl,hBo⟩
  have b1:(i:Int)<(l.length:Int):=by omega
  have b0:(0:Int)≤(i:Int):=by omega
  obtain ⟨d,hdi⟩:∃ d,l[i]? =some d:=⟨_,List.getElem?_eq_getElem hlt⟩
  obtain ⟨er,her⟩:∃ er,es[i]? =some er:=⟨_,List.getElem?_eq_getElem (by omega)⟩
  have hq:=HP2.out i d er hdi her
  obtain ⟨dg,dof,rfl,_,hdl,cs,⟨fa,fc,rfl,hk1,hk2,hfl⟩,hce⟩:=(hd3.below hb).get hdi
  obtain ⟨eg,eof,rfl,_,hel2,cs2,rfl,hce2⟩:=(he3.below hb).get her
  have e0:=hce 0 _ rfl
  have e1:=hce 1 _ rfl
  have e2:=hce 2 _ rfl
  have q0:=hce2 0 _ rfl
  rw [show doS.size=3 from rfl,Nat.add_zero] at e0
  rw [show doS.size=3 from rfl] at e1 e2
  rw [show A71.size=1 from rfl,Nat.add_zero,Nat.mul_one] at q0
  have b3:(i:Int)<(es.length:Int):=by omega
  have hX:=I6 wo 66 #[.int .i64 d.kind,.int .i64 d.n,.slice fa d.flows.length fc]
  have hbx:=G8 wo (.cells #[.int .i64 d.kind,.int .i64 d.n,.slice fa d.flows.length fc] 66)
  have hb9:=hb.trans (hbx.mono hb.size)
  clear hce hce2 hfl hdi her
  go_upto_region 9 with fail
  have q9:=B8 hbx hel2 q0
  clear q0 e0 e1 e2
  generalize wo.alloc _=w9 at *
  generalize wo.heap.size=xb at *
  obtain ⟨z1,z2⟩:=hX.cells
  have hxl:=hX.lt
  by_cases hk:d.kind=2
  case pos=>
   have c1:(d.kind==2)=true:=by rw [beq_iff_eq];exact hk
   rcases hq (.inl hk) with rfl|rfl
   all_goals
    clear hk hq
    go_wp2
    case roundEnd=>
     go_roundw
     case rel=>exact ⟨i+1,by go_num,by omega,hb9⟩
     case measure=>simp [intOf]<;>omega
  have c1:(d.kind==2)=false:=by rw [beq_eq_false_iff_ne];exact hk
  by_cases hk3:d.kind=3
  case pos=>
   have c2:(d.kind==3)=true:=by rw [beq_iff_eq];exact hk3
   rcases hq (.inr hk3) with rfl|rfl
   all_goals
    clear hk hk3 hq
    go_wp2
    case roundEnd=>
     go_roundw
     case rel=>exact ⟨i+1,by go_num,by omega,hb9⟩
     case measure=>simp [intOf]<;>omega
  have c2:(d.kind==3)=false:=by rw [beq_eq_false_iff_ne];exact hk3
  clear hk hk3 hq
  go_wp2
  case roundEnd=>
   go_roundw
   case rel=>exact ⟨i+1,by go_num,by omega,hb9⟩
   case measure=>simp [intOf]<;>omega
end Go.Proofs.Ytpfmolaebloipaa
