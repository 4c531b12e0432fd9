/- Texts of this proof, one behind the other. -/
import Derived.Test.YtpfmolaebloipaaQ3
import Derived.Test.YtpfmolaebloipaaQ5
import Derived.Test.YtpfmolaebloipaaQ11
import Derived.Test.YtpfmolaebloipaaPk41
set_option linter.unusedSimpArgs false
set_option linter.unusedVariables false
set_option maxRecDepth 100000
set_option maxHeartbeats 16000000
namespace Go.St
open Go.RowKit
structure B7u (flow:Int) (l:List Do) (n:Net) (R:Net × List Int × (Int × Int)):Prop where
 err:∃ er,R.2.1[l.length]? =some er∧(er≠0∨(er=0∧∃ p,R.1.packets[n.packets.length]? =some p∧p.done=true∧(p.ver=0∨(p.ver≠0∧(∀ (i:Nat) (q:F5),R.1.plans[i]? =some q→q.ver=i+1)∧∃ (j:Nat) (q:F5) (k:Nat),R.1.plans[j]? =some q∧q.ver=p.ver∧flow=(k:Int)∧q.paths[k]? =some p.trace))))
theorem B6y {t:C5} {l:List Do} {flow:Int} (h:(D9 t l).2.2.1=0) (hl:l.length≤150) (h4:(D9 t l).1.ctl.stage≠4):
  B7u flow l (D9 t l).1 (D9 t (l++[B8c flow]++List.replicate 9 (B88 (D9 t l).1.packets.length))):=by
 obtain ⟨ht,hl2⟩:=X0 h
 rw [W2 ht hl2] at h4 ⊢
 dsimp only at h4 ⊢
 obtain ⟨hok,hf⟩:=A3r ht hl2
 have hm:(l++[B8c flow]++List.replicate 9 (B88 (D5 t (D3 t) l).1.packets.length)).length≤200:=by simp;omega
 have hokm:=(A3r ht hm).1
 rw [W2 ht hm]
 refine ⟨_,A8i t _ _ l.length (B8c flow) (by rw [List.append_assoc,List.getElem?_append_right (Nat.le_refl _),Nat.sub_self];rfl),?_⟩
 have htk:(l++[B8c flow]++List.replicate 9 (B88 (D5 t (D3 t) l).1.packets.length)).take l.length=l:=by rw [List.append_assoc,List.take_left]
 rw [htk,B6b]
 by_cases h0:(J4 (D5 t (D3 t) l).1 flow).2=0
 case neg=>exact .inl h0
 right
 refine ⟨h0,?_⟩
 have e:(D5 t (D3 t) (l++[B8c flow]++List.replicate 9 (B88 (D5 t (D3 t) l).1.packets.length))).1=(D5 t (J4 (D5 t (D3 t) l).1 flow).1 (List.replicate 9 (B88 (D5 t (D3 t) l).1.packets.length))).1:=by
  have e1:∀ X:Net,(D5 t X [B8c flow]).1=(J4 X flow).1:=fun X=>by simp only [D5];rw [B6b]
  rw [A3g,A3g]
  dsimp only
  rw [e1]
 rw [e] at hokm
 show ∃ p,(D5 t (D3 t) (l++[B8c flow]++List.replicate 9 (B88 (D5 t (D3 t) l).1.packets.length))).1.packets[_]? =some p∧_
 rw [e]
 obtain ⟨p,g1,g2,g3⟩:=B6e ht hok hf (by omega) h4 h0
 refine ⟨p,g1,g2,g3.imp id ?_⟩
 rintro ⟨hv,q,hq,hj,hpa⟩
 obtain ⟨hP,_,_⟩:=hokm.plans
 have h1:1≤p.ver:=by
  obtain ⟨i,hi⟩:=List.getElem?_of_mem (List.mem_of_find?_eq_some hq)
  have:=(hP.each i q hi).1
  have h2:=List.find?_some hq
  have:q.ver=p.ver:=by simpa using h2
  omega
 rw [B63 hP h1] at hq
 exact ⟨hv,fun i q hi=>(hP.each i q hi).1,_,q,flow.toNat,hq,by have:=(hP.each _ q hq).1;omega,by omega,hpa⟩
end Go.St
namespace Go.Proofs.Ytpfmolaebloipaa
open Go.RowKit Go.St
theorem B6g (w:World) (t:C5) (ts:List Value) (okt:Nat→Prop) (h:I5.rep okt w ts t) (l:List Do) (da:Option Addr) (dc:Nat) (okd:Nat→Prop) (hd:A8 doS okd w da dc l) (flow:Int) (hfi:I64 flow):
  Calls Try.prog 7 #[.agg ts.toArray,.slice da l.length dc,.int .i64 flow] w fun e w'=>e=.returned (.bool true)∧Below w.heap.size w w':=by
 have hT:=h
 obtain ⟨la,lc0,rfl,htn,htr⟩:=h
 have hdx:=hd.len_le
 have hB0:=G8 w (.cells #[.int .i64 t.n,.slice la t.links.length lc0] 24)
 have hT0:=I6 w 24 #[.int .i64 t.n,.slice la t.links.length lc0]
 obtain ⟨i0,gi,gz0,gz1,gz2⟩:=info_parts B92
 go_enter Try.func7,Try.ntmps7
 go_wp2_with fail
 generalize w.alloc _=w0 at *
 refine (A0o _).mono ?_
 rintro e w1 ⟨rfl,hb1⟩
 have hB1:=hB0.trans (hb1.mono hB0.size)
 have hT1:=hT0.under hb1
 obtain ⟨t1,t2⟩:=hT1.cells
 have htl:=hT1.lt
 clear hB0 hT0 hb1
 by_cases h150:l.length≤150
 case neg=>
  have b1:(150:Int)<(l.length:Int):=by omega
  have b2:150<l.length:=by omega
  go_wp2
  go_ret;exact ⟨rfl,hB1⟩
 have b1:¬(150:Int)<(l.length:Int):=by omega
 have b2:¬150<l.length:=by omega
 have HPL:=Lib.hid (A2z t _ okt w1 (I5.below hT hB1) l da dc okd (hd.below hB1))
 have HP:=Lib.hid (fun h h4=>B6y (t:=t) (l:=l) (flow:=flow) h h150 h4)
 go_wp2_with fail
 generalize D9 t l=RR at *
 refine HPL.out.mono ?_
 rintro e w2 ⟨cs,ea,ec,rfl,hn2,he2,hb2⟩
 have hB2:=hB1.trans (hb2.mono hB1.size)
 have hT2:=hT1.under hb2
 clear hB1 hT1 hb2 t1 t2 htl HPL
 obtain ⟨n,es,fe,ff⟩:=RR
 dsimp only at *
 obtain ⟨n0,n1,n2,y0,y1,y2,wa,wc,sa,sc,oa,oc,ba,bc,pa,pc,pl,lc,rfl,hst,hnu,hnow,hnext,hwt,hks,hko,hkb,hkp,hkl⟩:=A0g.open8 hn2
 obtain ⟨lp0,lp1,lp2⟩:=B7.st (P:=Try.prog) hnow
 obtain ⟨lq0,lq1,lq2⟩:=B7.st (P:=Try.prog) hnext
 have hbx:Below w2.heap.size w2 ((w2.alloc (.cells #[.int .i64 n.ctl.stage,n0,n1,n2,y0,y1,y2,.int .i64 n.ctl.num,.slice wa n.ctl.waits.length wc,.slice sa n.switches.length sc,.slice oa n.orders.length oc,.slice ba n.backs.length bc,.slice pa n.packets.length pc,.slice pl n.plans.length lc] 40)).alloc (.cells #[.int .i64 fe,.int .i64 ff] 44)):=A1t _ _ _
 have hW:A6 ((w2.alloc (.cells #[.int .i64 n.ctl.stage,n0,n1,n2,y0,y1,y2,.int .i64 n.ctl.num,.slice wa n.ctl.waits.length wc,.slice sa n.switches.length sc,.slice oa n.orders.length oc,.slice ba n.backs.length bc,.slice pa n.packets.length pc,.slice pl n.plans.length lc] 40)).alloc (.cells #[.int .i64 fe,.int .i64 ff] 44)) w2.heap.size 40 #[.int .i64 n.ctl.stage,n0,n1,n2,y0,y1,y2,.int .i64 n.ctl.num,.slice wa n.ctl.waits.length wc,.slice sa n.switches.length sc,.slice oa n.orders.length oc,.slice ba n.backs.length bc,.slice pa n.packets.length pc,.slice pl n.plans.length lc]:=(A6.new rfl).alloc _
 have hG:A6 ((w2.alloc (.cells #[.int .i64 n.ctl.stage,n0,n1,n2,y0,y1,y2,.int .i64 n.ctl.num,.slice wa n.ctl.waits.length wc,.slice sa n.switches.length sc,.slice oa n.orders.length oc,.slice ba n.backs.length bc,.slice pa n.packets.length pc,.slice pl n.plans.length lc] 40)).alloc (.cells #[.int .i64 fe,.int .i64 ff] 44)) (w2.heap.size+1) 44 #[.int .i64 fe,.int .i64 ff]:=A6.new (by simp)
 have hB3:=hB2.trans (hbx.mono hB2.size)
 have hT3:=hT2.under hbx
 have hd3:=hd.below hB3
 have he3:=he2.below hbx
 have hnow3:B7 _ (fun _=>True) n0 n1 n2 n.ctl.now:=C3.below hnow hbx
 have hnext3:B7 _ (fun _=>True) y0 y1 y2 n.ctl.next:=C3.below hnext hbx
 have hwt3:=hwt.below hbx
 have hks3:=hks.below hbx
 have hko3:=hko.below hbx
 have hkb3:=hkb.below hbx
 have hkp3:=hkp.below hbx
 have hkl3:=hkl.below hbx
 clear hn2 he2 hB2 hT2 hnow hnext hwt hks hko hkb hkp hkl hd hbx
 go_upto_region 6 with fail
 generalize ((w2.alloc (.cells #[.int .i64 n.ctl.stage,n0,n1,n2,y0,y1,y2,.int .i64 n.ctl.num,.slice wa n.ctl.waits.length wc,.slice sa n.switches.length sc,.slice oa n.orders.length oc,.slice ba n.backs.length bc,.slice pa n.packets.length pc,.slice pl n.plans.length lc] 40)).alloc (.cells #[.int .i64 fe,.int .i64 ff] 44))=w3 at *
 generalize w2.heap.size=wb at *
 clear lp0 lp1 lp2 lq0 lq1 lq2
 obtain ⟨x1,x2⟩:=hW.cells
 obtain ⟨f1,f2⟩:=hG.cells
 have hwl:=hW.lt
 have hgl:=hG.lt
 by_cases hfe:fe=0
 case neg=>
  have e1:(fe !=0)=true:=by rw [bne_iff_ne];exact hfe
  clear HP hkp3 hW
  go_wp2
  go_ret;exact ⟨rfl,hB3⟩
 subst hfe
 have e1:((0:Int) !=0)=false:=by decide
 by_cases hst4:n.ctl.stage=4
 case pos=>
  have e2:(n.ctl.stage==4)=true:=by rw [beq_iff_eq];exact hst4
  clear HP hst4
  go_wp2
  go_ret;exact ⟨rfl,hB3⟩
 have e2:(n.ctl.stage==4)=false:=by rw [beq_eq_false_iff_ne];exact hst4
 have HR:=Lib.hid (HP.out rfl hst4)
 by_cases h40:40≤n.packets.length
 case pos=>
  have e3:(40:Int)≤(n.packets.length:Int):=by omega
  clear HP hst4
  go_wp2
  go_ret;exact ⟨rfl,hB3⟩
 have e3:¬(40:Int)≤(n.packets.length:Int):=by omega
 have hE3:=I6 w3 66 #[]
 have hbx:=G8 w3 (.cells #[] 66)
 have hO0:C7 doS 66 (fun b=>b<w3.heap.size) w3.heap.size (w3.alloc (.cells #[] 66)) (some ⟨w3.heap.size,0,none⟩) 0 0 []:=⟨[],A1b.made _ _ _ _ #[] 0 (Nat.le_refl _) (Nat.zero_le _) rfl,rfl,by simp,fun k hk=>by simp [Go.St.blk] at hk;omega,fun b hb=>by simp;omega⟩
 have hsrc:=((hd3.anyOk (ok':=fun b=>b<w3.heap.size) (fun b hb _=>hb)).below hbx).src
 have hz4:w3.heap.size≤(w3.alloc (.cells #[] 66)).heap.size:=hbx.size
 clear HP hst4 hG hwt3 hko3 hkb3 hks3 hkp3 hkl3 hnow3 hnext3 he3 hE3
 go_wp2_with (at_builtin;go_must (refine H4 (sh:=doS) (n:=0) (m:=l.length) rfl _ _ 25 rfl 66 i0 (.agg #[.int .i64 0,.int .i64 0,.slice none 0 0]) 40 Try.underlying25 gi gz0 gz1 gz2 rfl (by decide) rfl hO0 rfl rfl hsrc (by simp only [maxLen];omega) (by omega) hz4 ?_);go_must (intro ma mc w6 hO6 hg6 hd6))
 have hb6:Below w3.heap.size w3 w6:=hbx.trans (D6 hg6 (fun k hk=>(hO0.lt k hk).1) hz4)
 rw [List.nil_append,Nat.zero_add] at hO6
 clear hO0 hsrc hz4 hbx hg6 hd6 x1 x2 f1 f2
 refine (A5m _ _ _).mono ?_
 rintro e w7 ⟨rfl,hb7⟩
 have hO7:=hO6.below hb7
 have hB7:=hb6.trans (hb7.mono hb6.size)
 have hbx:=G8 w7 (.cells #[.int .i64 4,.int .i64 flow,.slice none 0 0] 66)
 have hE:=I6 w7 66 #[.int .i64 4,.int .i64 flow,.slice none 0 0]
 have hO8:=hO7.below hbx
 have hB8:=hB7.trans (hbx.mono hB7.size)
 have hz4:w3.heap.size≤(w7.alloc (.cells #[.int .i64 4,.int .i64 flow,.slice none 0 0] 66)).heap.size:=hB8.size
 have hsrc:=B66 (ok:=fun b=>b<w3.heap.size) (d:=B8c flow) hE (I64.small (n:=4) (by decide) (by decide)) hfi rfl
 clear hO6 hO7 hb6 hb7 hB7 hbx hE
 go_wp2_with (at_builtin;go_must (refine H4 (sh:=doS) (n:=l.length) (m:=1) rfl _ _ 25 rfl 66 i0 (.agg #[.int .i64 0,.int .i64 0,.slice none 0 0]) 40 Try.underlying25 gi gz0 gz1 gz2 rfl (by decide) rfl hO8 rfl rfl hsrc (by simp only [maxLen];omega) (by omega) hz4 ?_);go_must (intro ma2 mc2 w9 hO9 hg9 hd9;have hb9:Below w3.heap.size w3 w9:=hB8.trans (D6 hg9 (fun k hk=>(hO8.lt k hk).1) hz4);have hW9:=hW.under hb9;obtain ⟨x1,x2⟩:=hW9.cells;have hxl:=hW9.lt))
 clear hO8 hsrc hz4 hB8 hg9 hd9
 clear x1 x2
 go_loopw [10,55] (fun mv idx wr=>∃ (i:Nat) (ma3:Option Addr) (mc3:Nat),mv=.slice ma3 (l.length+1+i) mc3∧idx=.int .i64 i∧i≤9∧C7 doS 66 (fun b=>b<w3.heap.size) w3.heap.size wr ma3 (l.length+1+i) mc3 (l++[B8c flow]++List.replicate i (B88 n.packets.length))∧Below w3.heap.size w3 wr) (fun _ idx _=>9 - (intOf idx).toNat)
 case atStart=>exact ⟨0,ma2,mc2,by simp,rfl,Nat.zero_le _,by simpa using hO9,hb9⟩
 case round=>
  clear hO9 hW9
  obtain ⟨i,ma3,mc3,rfl,rfl,hi,hO,hb⟩:=hrel
  rename World=>wo
  by_cases hlt:i<9
  case pos=>
   have c1:(i:Int)<9:=by omega
   go_wp2_with fail
   refine (A5m _ _ _).mono ?_
   rintro e w10 ⟨rfl,hb10⟩
   have hO10:=hO.below hb10
   have hB10:=hb.trans (hb10.mono hb.size)
   have hbx:=G8 w10 (.cells #[.int .i64 5,.int .i64 (n.packets.length:Int),.slice none 0 0] 66)
   have hE:=I6 w10 66 #[.int .i64 5,.int .i64 (n.packets.length:Int),.slice none 0 0]
   have hO11:=hO10.below hbx
   have hB11:=hB10.trans (hbx.mono hB10.size)
   have hz4:w3.heap.size≤(w10.alloc (.cells #[.int .i64 5,.int .i64 (n.packets.length:Int),.slice none 0 0] 66)).heap.size:=hB11.size
   have hsrc:=B66 (ok:=fun b=>b<w3.heap.size) (d:=B88 n.packets.length) hE (I64.small (n:=5) (by decide) (by decide)) (I64.small (by show -1000000000000≤(n.packets.length:Int);omega) (by show (n.packets.length:Int)≤1000000000000;omega)) rfl
   clear hO hO10 hb hb10 hB10 hbx hE
   go_wp2_with (at_builtin;go_must (refine H4 (sh:=doS) (n:=l.length+1+i) (m:=1) rfl _ _ 25 rfl 66 i0 (.agg #[.int .i64 0,.int .i64 0,.slice none 0 0]) 40 Try.underlying25 gi gz0 gz1 gz2 rfl (by decide) rfl hO11 rfl rfl hsrc (by simp only [maxLen];omega) (by omega) hz4 ?_);go_must (intro ma4 mc4 w12 hO12 hg12 hd12))
   case roundEnd=>
    have hb12:=hB11.trans (D6 hg12 (fun k hk=>(hO11.lt k hk).1) hz4)
    rw [List.append_assoc,←List.replicate_succ'] at hO12
    go_roundw
    case rel=>exact ⟨i+1,ma4,mc4,rfl,by go_num,by omega,hO12,hb12⟩
    case measure=>simp [intOf]<;>omega
  have c1:¬(i:Int)<9:=by omega
  obtain rfl:i=9:=by omega
  have hBo:=hB3.trans (hb.mono hB3.size)
  have hTo:=hT3.under hb
  have hlm:(l++[B8c flow]++List.replicate 9 (B88 n.packets.length)).length=l.length+1+9:=by simp
  have HPL:=Lib.hid (A2z t _ okt wo (I5.below hT hBo) (l++[B8c flow]++List.replicate 9 (B88 n.packets.length)) ma3 mc3 _ (hO.row (ok':=fun _=>True) (fun _ _=>trivial) (fun _ _=>trivial)))
  rw [hlm] at HPL
  obtain ⟨t1,t2⟩:=hTo.cells
  have htl:=hTo.lt
  clear hT3 hW hB3 hb hO hd3 hlm
  generalize D9 t (l++[B8c flow]++List.replicate 9 (B88 n.packets.length))=RR at *
  obtain ⟨n',es',fe',ff'⟩:=RR
  dsimp only at *
  go_wp2_with fail
  refine HPL.out.mono ?_
  rintro e w4 ⟨cs,ea',ec',rfl,hn4,he4,hb4⟩
  have hB4:=hBo.trans (hb4.mono hBo.size)
  obtain ⟨n0',n1',n2',y0',y1',y2',wa',wc',sa',sc',oa',oc',ba',bc',pa',pc',pl',lc',rfl,_,_,hnow',hnext',_,_,_,_,hkp',hkl'⟩:=A0g.open8 hn4
  obtain ⟨lp0,lp1,lp2⟩:=B7.st (P:=Try.prog) hnow'
  obtain ⟨lq0,lq1,lq2⟩:=B7.st (P:=Try.prog) hnext'
  have hbx:Below w4.heap.size w4 ((w4.alloc (.cells #[.int .i64 n'.ctl.stage,n0',n1',n2',y0',y1',y2',.int .i64 n'.ctl.num,.slice wa' n'.ctl.waits.length wc',.slice sa' n'.switches.length sc',.slice oa' n'.orders.length oc',.slice ba' n'.backs.length bc',.slice pa' n'.packets.length pc',.slice pl' n'.plans.length lc'] 40)).alloc (.cells #[.int .i64 fe',.int .i64 ff'] 44)):=A1t _ _ _
  have hX:A6 ((w4.alloc (.cells #[.int .i64 n'.ctl.stage,n0',n1',n2',y0',y1',y2',.int .i64 n'.ctl.num,.slice wa' n'.ctl.waits.length wc',.slice sa' n'.switches.length sc',.slice oa' n'.orders.length oc',.slice ba' n'.backs.length bc',.slice pa' n'.packets.length pc',.slice pl' n'.plans.length lc'] 40)).alloc (.cells #[.int .i64 fe',.int .i64 ff'] 44)) w4.heap.size 40 #[.int .i64 n'.ctl.stage,n0',n1',n2',y0',y1',y2',.int .i64 n'.ctl.num,.slice wa' n'.ctl.waits.length wc',.slice sa' n'.switches.length sc',.slice oa' n'.orders.length oc',.slice ba' n'.backs.length bc',.slice pa' n'.packets.length pc',.slice pl' n'.plans.length lc']:=(A6.new rfl).alloc _
  have hB5:=hB4.trans (hbx.mono hB4.size)
  have he5:=he4.below hbx
  have hkp5:=hkp'.below hbx
  have hkl5:=hkl'.below hbx
  have hnow5:B7 _ (fun _=>True) n0' n1' n2' n'.ctl.now:=C3.below hnow' hbx
  have hnext5:B7 _ (fun _=>True) y0' y1' y2' n'.ctl.next:=C3.below hnext' hbx
  obtain ⟨er,her,HRR⟩:=HR.out.err
  dsimp only at her HRR
  have HRE:=Lib.hid HRR
  have hell:=(List.getElem?_eq_some_iff.1 her).1
  have c2:(l.length:Int)<(es'.length:Int):=by omega
  have c0:(0:Int)≤(l.length:Int):=by omega
  obtain ⟨eg,eo,rfl,_,_,cs,rfl,hce⟩:=he5.get her
  have q0:=hce 0 _ rfl
  rw [show A71.size=1 from rfl,Nat.add_zero,Nat.mul_one] at q0
  have hkl:=hkp'.len_le
  clear hnow' hnext' hBo hTo HPL hb4 hB4 hn4 he4 hkp' hkl' hbx t1 t2 htl HRR HR hce her he5
  go_upto_region 15 with fail
  generalize ((w4.alloc (.cells #[.int .i64 n'.ctl.stage,n0',n1',n2',y0',y1',y2',.int .i64 n'.ctl.num,.slice wa' n'.ctl.waits.length wc',.slice sa' n'.switches.length sc',.slice oa' n'.orders.length oc',.slice ba' n'.backs.length bc',.slice pa' n'.packets.length pc',.slice pl' n'.plans.length lc'] 40)).alloc (.cells #[.int .i64 fe',.int .i64 ff'] 44))=w5 at *
  generalize w4.heap.size=vb at *
  clear lp0 lp1 lp2 lq0 lq1 lq2
  by_cases her0:er=0
  case neg=>
   have d1:(er !=0)=true:=by rw [bne_iff_ne];exact her0
   go_wp2
   go_ret;exact ⟨rfl,hB5⟩
  subst her0
  have HA:=Lib.hid (HRE.out.resolve_left (fun h=>h rfl)).2
  obtain ⟨p,hpi,hpd,hpv⟩:=HA.out
  have HPV:=Lib.hid hpv
  have HPD:=Lib.hid hpd
  clear hpd
  have hpl:=(List.getElem?_eq_some_iff.1 hpi).1
  have d2:(n.packets.length:Int)<(n'.packets.length:Int):=by omega
  have d0:(0:Int)≤(n.packets.length:Int):=by omega
  obtain ⟨pg,po,ta,tc,rfl,hpg,hI1,hI2,htr,hcp⟩:=A51 hkp5 hpi
  obtain ⟨e0,e1',e2',e3'⟩:=hcp w5 (Below.refl _ _)
  obtain ⟨x1,x2⟩:=hX.cells
  have hxl:=hX.lt
  have hK:=I6 w5 48 #[.int .i64 p.flow,.int .i64 p.ver,.slice ta p.trace.length tc,.bool p.done]
  have hby:=G8 w5 (.cells #[.int .i64 p.flow,.int .i64 p.ver,.slice ta p.trace.length tc,.bool p.done] 48)
  have hX6:=hX.under hby
  have hB6:=hB5.trans (hby.mono hB5.size)
  have htr6:=htr.below hby
  have hkl6:=hkl5.below hby
  have hnow6:B7 _ (fun _=>True) n0' n1' n2' n'.ctl.now:=C3.below hnow5 hby
  have hnext6:B7 _ (fun _=>True) y0' y1' y2' n'.ctl.next:=C3.below hnext5 hby
  clear HRE HA hcp htr hpi hpv hkp5 hkl5 hnow5 hnext5 hX
  go_upto_region 18 with fail
  clear e0 e1' e2' e3' x1 x2 q0
  generalize w5.alloc _=w6 at *
  generalize w5.heap.size=xb at *
  have hkx:=hK.lt
  rcases HPV.out with hv|⟨hv,hup,j,q,k,hqj,hqv,hfk,hqp⟩
  ·have d3:(p.ver==0)=true:=by rw [beq_iff_eq];exact hv
   rw [HPD.out] at hK
   obtain ⟨z1,z2⟩:=hK.cells
   clear hv HPV hX6
   go_wp2
   go_ret;exact ⟨rfl,hB6⟩
  have d3:(p.ver==0)=false:=by rw [beq_eq_false_iff_ne];exact hv
  rw [HPD.out] at hK
  have hKK:=hK
  obtain ⟨z1,z2⟩:=hK.cells
  obtain ⟨u1,u2⟩:=hX6.cells
  have hul:=hX6.lt
  obtain ⟨lp0,lp1,lp2⟩:=B7.st (P:=Try.prog) hnow6
  obtain ⟨lq0,lq1,lq2⟩:=B7.st (P:=Try.prog) hnext6
  have HQV:=Lib.hid hqv
  have HUP:=Lib.hid hup
  subst hfk
  clear hv HPV hqv hup
  go_wp2_with fail
  refine (B4o w6 n'.plans _ _ _ _ _ _ _ _ _ _ _ _ _ pl' lc' _ hkl6 p.ver j q hqj HQV.out HUP.out).mono ?_
  rintro e wk ⟨fa,fc,qa,qc,rfl,hpI,hfr,hqr,hbk⟩
  obtain ⟨qg,qo,pa2,pc2,rfl,hqg,hpr,hcq⟩:=S9 hqr hqp
  have hP:=I6 wk 30 #[.int .i64 q.ver,.slice fa q.flows.length fc,.slice (some ⟨qg,qo,none⟩) q.paths.length qc]
  have hbz:=G8 wk (.cells #[.int .i64 q.ver,.slice fa q.flows.length fc,.slice (some ⟨qg,qo,none⟩) q.paths.length qc] 30)
  have hK9:=(hKK.under hbk).under hbz
  have hB9:=hB6.trans ((hbk.trans (hbz.mono hbk.size)).mono hB6.size)
  have htr9:=(htr6.below hbk).below hbz
  have q0:=hcq _ hbz
  have hpr9:=hpr.below hbz
  have kl:k<q.paths.length:=(List.getElem?_eq_some_iff.1 hqp).1
  have k0:(0:Int)≤(k:Int):=by omega
  have k1:(k:Int)<(q.paths.length:Int):=by omega
  clear hcq hfr hqr hpr hX6 hkl6 hnow6 hnext6 z1 z2 u1 u2 hbk hbz hqp htr6 hK hKK hqj
  go_upto_region 21 with fail
  clear lp0 lp1 lp2 lq0 lq1 lq2
  generalize wk.alloc _=wl at *
  generalize wk.heap.size=pb at *
  have hS1:SC [(⟨xb,2,none⟩,(.slice ta p.trace.length tc)),(⟨xb,3,none⟩,(.bool true)),(⟨pb,2,none⟩,(.slice (some ⟨qg,qo,none⟩) q.paths.length qc)),(⟨qg,qo+k,none⟩,(.slice pa2 p.trace.length pc2))] wl:=⟨hK9.cells.1 2,hK9.cells.1 3,hP.cells.1 2,q0,trivial⟩
  have hS0:SC [(⟨xb,2,none⟩,(.slice ta p.trace.length tc)),(⟨xb,3,none⟩,(.bool true)),(⟨pb,2,none⟩,(.slice (some ⟨qg,qo,none⟩) q.paths.length qc)),(⟨qg,qo+k,none⟩,(.slice pa2 p.trace.length pc2))] wl.drew:=hS1
  refine B9 (SC [(⟨xb,2,none⟩,(.slice ta p.trace.length tc)),(⟨xb,3,none⟩,(.bool true)),(⟨pb,2,none⟩,(.slice (some ⟨qg,qo,none⟩) q.paths.length qc)),(⟨qg,qo+k,none⟩,(.slice pa2 p.trace.length pc2))]) 99 (fun a0 a' w'=>∃ v93 v94 v95 v96 v97 v98 v99 v100 v101 v102 v103 v104 v105 v106 v107,a'=C8 a0 [(93,v93),(94,v94),(95,v95),(96,v96),(97,v97),(98,v98),(99,v99),(100,v100),(101,v101),(102,v102),(103,v103),(104,v104),(105,v105),(106,v106),(107,v107),(6,.bool true)]∧Below wl.heap.size wl w') (by kernel_rfl) ?_ ?_
  ·intro Q' hR hQp
   have hb0:Below wl.heap.size wl wl.drew:=N4 _
   have hS:SC [(⟨xb,2,none⟩,(.slice ta p.trace.length tc)),(⟨xb,3,none⟩,(.bool true)),(⟨pb,2,none⟩,(.slice (some ⟨qg,qo,none⟩) q.paths.length qc)),(⟨qg,qo+k,none⟩,(.slice pa2 p.trace.length pc2))] wl.drew:=hS0
   generalize wl.drew=wa at *
   refine A9 hQp hS [0,1,2,3,4,5,6,8,10,7,9,11,12] ?_
   iterate 13 (refine B2 _ rfl (by kernel_rfl) (A0 (by kernel_rfl) (by intro w0 hw0;have hw1:=hw0;simp only [SC] at hw1;first|(go_simp;done)|(go_simp;rfl))) ?_;simp only [Act.put,St.tA,St.tD,St.tE,St.tS,St.tC,St.tZ])
   refine B3 ?_
   clear hS
   refine A7 (i:=13) rfl (by kernel_rfl) (by kernel_rfl) fun K13 hK13=>?_
   go_simp
   go_wp2_with fail
   refine (B1y p.trace p.trace _ _ _ _ _ _ wa (htr9.below hb0) (hpr9.below hb0)).mono ?_
   rintro e wb2 ⟨rfl,hab⟩
   rw [beq_self_eq_true]
   have hbz2:=hb0.trans (hab.mono hb0.size)
   go_wp2_with fail
   have hS:_:=SC.later hbz2 hS1
   refine hK13 _ _ (fun _=>hS) ?_
   clear hK13
   refine A9 hQp hS [14,15] ?_
   iterate 2 (refine B2 _ rfl (by kernel_rfl) (A0 (by kernel_rfl) (by intro w0 hw0;have hw1:=hw0;simp only [SC] at hw1;first|(go_simp;done)|(go_simp;rfl))) ?_;simp only [Act.put,St.tA,St.tD,St.tE,St.tS,St.tC,St.tZ])
   refine B3 ?_
   refine B5 (by kernel_rfl) ?_ _
   refine hR _ _ ?_
   iterate 15 apply Exists.intro
   refine ⟨?_,hbz2⟩
   simp only [C8,Act.put,St.tS,St.tC,St.tZ]
   rfl
  rintro a' w8 ⟨v93,v94,v95,v96,v97,v98,v99,v100,v101,v102,v103,v104,v105,v106,v107,rfl,hb8⟩
  simp only [C8,Act.put,St.tS,St.tC,St.tZ]
  have hbq:=hB9.trans (hb8.mono hB9.size)
  clear hS0 hS1 q0 hK9 htr9 hpr9 hP
  go_wp2
  go_ret;exact ⟨rfl,hbq⟩
end Go.Proofs.Ytpfmolaebloipaa
