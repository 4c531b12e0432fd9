/- Texts of this proof, one behind the other. -/
import Derived.Test.YtpfmolaebloipaaQ9
import Derived.Test.YtpfmolaebloipaaQ11
set_option linter.unusedSimpArgs false
set_option linter.unusedVariables false
set_option maxRecDepth 100000
set_option maxHeartbeats 16000000
namespace Go.St
open Go.RowKit
theorem B7s {α:Type} {sh:D1 α} {ok:Nat→Prop} {w:World} {b:Nat} {e:TypeId} {cs:List Value} {x:α} (h:A6 w b e cs.toArray) (hr:sh.rep ok w cs x):D7 sh ok w (some ⟨b,0,none⟩) [x]:=by
  refine .inr ⟨b,0,rfl,fun i y hy=>?_⟩
  match i,hy with
  |0,hy=>
    obtain rfl:x=y:=by simpa using hy
    refine ⟨cs,hr,fun j c hj=>?_⟩
    simp only [Nat.zero_mul,Nat.zero_add]
    rw [h.cells.1 j]
    simpa using hj
  |i+1,hy=>simp at hy
structure B7v (t:C5) (l:List Do) (n:Net) (es:List Int):Prop where
 len:es.length=l.length
 l200:l.length≤200
 same:(D9 t (B89 l es)).1=n
 err:(D9 t (B89 l es)).2.2=(0,0)
 all:∀ (i:Nat) (e:Int),(D9 t (B89 l es)).2.1[i]? =some e→e=0
 os:n.orders.length=n.switches.length∧n.backs.length=n.switches.length
theorem B6u {t:C5} {l:List Do} (h:(D9 t l).2.2.1=0):B7v t l (D9 t l).1 (D9 t l).2.1:=by
 obtain ⟨ht,hl⟩:=X0 h
 have hf:=(A3r ht hl).2
 rw [W2 ht hl]
 dsimp only
 have hg:(B89 l (D5 t (D3 t) l).2).length≤200:=Nat.le_trans (B6v _ _) hl
 obtain ⟨g1,g2⟩:=B8l t l (D3 t)
 refine ⟨A8m _ _ _,hl,?_,?_,fun i e he=>?_,by rw [hf.os,hf.sw],by rw [hf.bs,hf.sw]⟩
 ·rw [W2 ht hg];exact g1
 ·rw [W2 ht hg]
 ·rw [W2 ht hg] at he;exact g2 e (List.mem_of_getElem? he)
end Go.St
namespace Go.Proofs.Ytpfmolaebloipaa
open Go.RowKit Go.St
theorem B6h (w:World) (t:C5) (ts:List Value) (okt:Nat→Prop) (h:I5.rep okt w ts t) (l:List Do) (da:Option Addr) (dc:Nat) (okd:Nat→Prop) (hd:A8 doS okd w da dc l):
  Calls Try.prog 8 #[.agg ts.toArray,.slice da l.length dc] w fun e w'=>e=.returned (.bool true)∧Below w.heap.size w w':=by
 have hT:=h
 obtain ⟨la,lc0,rfl,htn,htr⟩:=h
 have hdx:=hd.len_le
 have hB0:=G8 w (.cells #[.int .i64 t.n,.slice la t.links.length lc0] 24)
 have hT0:=I6 w 24 #[.int .i64 t.n,.slice la t.links.length lc0]
 have HP:=Lib.hid (B6u (t:=t) (l:=l))
 obtain ⟨i0,gi,gz0,gz1,gz2⟩:=info_parts B92
 go_enter Try.func8,Try.ntmps8
 go_wp2_with fail
 generalize w.alloc _=w0 at *
 refine (A0o _).mono ?_
 rintro e w1 ⟨rfl,hb1⟩
 have hB1:=hB0.trans (hb1.mono hB0.size)
 have hT1:=hT0.under hb1
 obtain ⟨t1,t2⟩:=hT1.cells
 have htl:=hT1.lt
 clear hB0 hT0 hb1
 go_wp2_with fail
 refine (A2z t _ okt w1 (I5.below hT hB1) l da dc okd (hd.below hB1)).mono ?_
 rintro e w2 ⟨cs,ea,ec,rfl,hn2,he2,hb2⟩
 have hB2:=hB1.trans (hb2.mono hB1.size)
 have hT2:=hT1.under hb2
 clear hB1 hT1 hb2 t1 t2 htl
 generalize D9 t l=RR at *
 obtain ⟨n,es,fe,ff⟩:=RR
 dsimp only at *
 obtain ⟨n0,n1,n2,y0,y1,y2,wa,wc,sa,sc,oa,oc,ba,bc,pa,pc,pl,lc,rfl,hst,hnu,hnow,hnext,hwt,hks,hko,hkb,hkp,hkl⟩:=A0g.open8 hn2
 obtain ⟨lp0,lp1,lp2⟩:=B7.st (P:=Try.prog) hnow
 obtain ⟨lq0,lq1,lq2⟩:=B7.st (P:=Try.prog) hnext
 have hbx:Below w2.heap.size w2 ((w2.alloc (.cells #[.int .i64 n.ctl.stage,n0,n1,n2,y0,y1,y2,.int .i64 n.ctl.num,.slice wa n.ctl.waits.length wc,.slice sa n.switches.length sc,.slice oa n.orders.length oc,.slice ba n.backs.length bc,.slice pa n.packets.length pc,.slice pl n.plans.length lc] 40)).alloc (.cells #[.int .i64 fe,.int .i64 ff] 44)):=A1t _ _ _
 have hN9:=A0g.below hn2 hbx
 have hW:A6 ((w2.alloc (.cells #[.int .i64 n.ctl.stage,n0,n1,n2,y0,y1,y2,.int .i64 n.ctl.num,.slice wa n.ctl.waits.length wc,.slice sa n.switches.length sc,.slice oa n.orders.length oc,.slice ba n.backs.length bc,.slice pa n.packets.length pc,.slice pl n.plans.length lc] 40)).alloc (.cells #[.int .i64 fe,.int .i64 ff] 44)) w2.heap.size 40 #[.int .i64 n.ctl.stage,n0,n1,n2,y0,y1,y2,.int .i64 n.ctl.num,.slice wa n.ctl.waits.length wc,.slice sa n.switches.length sc,.slice oa n.orders.length oc,.slice ba n.backs.length bc,.slice pa n.packets.length pc,.slice pl n.plans.length lc]:=(A6.new rfl).alloc _
 have hG:A6 ((w2.alloc (.cells #[.int .i64 n.ctl.stage,n0,n1,n2,y0,y1,y2,.int .i64 n.ctl.num,.slice wa n.ctl.waits.length wc,.slice sa n.switches.length sc,.slice oa n.orders.length oc,.slice ba n.backs.length bc,.slice pa n.packets.length pc,.slice pl n.plans.length lc] 40)).alloc (.cells #[.int .i64 fe,.int .i64 ff] 44)) (w2.heap.size+1) 44 #[.int .i64 fe,.int .i64 ff]:=A6.new (by simp)
 have hB3:=hB2.trans (hbx.mono hB2.size)
 have hT3:=hT2.under hbx
 have hd3:=hd.below hB3
 have he3:=he2.below hbx
 have hnow3:B7 _ (fun _=>True) n0 n1 n2 n.ctl.now:=C3.below hnow hbx
 have hnext3:B7 _ (fun _=>True) y0 y1 y2 n.ctl.next:=C3.below hnext hbx
 have hwt3:=hwt.below hbx
 have hks3:=hks.below hbx
 have hko3:=hko.below hbx
 have hkb3:=hkb.below hbx
 have hkp3:=hkp.below hbx
 have hkl3:=hkl.below hbx
 clear hn2 he2 hB2 hT2 hnow hnext hwt hks hko hkb hkp hkl hd hbx
 go_upto_region 4 with fail
 generalize ((w2.alloc (.cells #[.int .i64 n.ctl.stage,n0,n1,n2,y0,y1,y2,.int .i64 n.ctl.num,.slice wa n.ctl.waits.length wc,.slice sa n.switches.length sc,.slice oa n.orders.length oc,.slice ba n.backs.length bc,.slice pa n.packets.length pc,.slice pl n.plans.length lc] 40)).alloc (.cells #[.int .i64 fe,.int .i64 ff] 44))=w3 at *
 generalize w2.heap.size=wb at *
 clear lp0 lp1 lp2 lq0 lq1 lq2
 obtain ⟨x1,x2⟩:=hW.cells
 obtain ⟨f1,f2⟩:=hG.cells
 have hwl:=hW.lt
 have hgl:=hG.lt
 by_cases hfe:fe=0
 case neg=>
  have e1:(fe !=0)=true:=by rw [bne_iff_ne];exact hfe
  clear HP hkp3 hW
  go_wp2
  go_ret;exact ⟨rfl,hB3⟩
 subst hfe
 have HR:=Lib.hid (HP.out rfl)
 have hN3:A0g.rep (fun _=>True) w3 [.int .i64 n.ctl.stage,n0,n1,n2,y0,y1,y2,.int .i64 n.ctl.num,.slice wa n.ctl.waits.length wc,.slice sa n.switches.length sc,.slice oa n.orders.length oc,.slice ba n.backs.length bc,.slice pa n.packets.length pc,.slice pl n.plans.length lc] n:=hN9
 have hl200:=HR.out.l200
 obtain ⟨ln0,ln1,ln2⟩:=hnow3.one
 obtain ⟨ly0,ly1,ly2⟩:=hnext3.one
 clear HP hG hwt3 hko3 hkb3 hks3 hkp3 hkl3 hnow3 hnext3 hN9
 go_wp2
 clear x1 x2 f1 f2
 go_loopw [8,29] (fun gv idx wr=>∃ (i:Nat) (g:List Do) (ga:Option Addr) (gc:Nat),gv=.slice ga g.length gc∧idx=.int .i64 i∧i≤l.length∧Hid (g=B89 (l.take i) (es.take i))∧g.length≤i∧C7 doS 66 (fun b=>b<w3.heap.size) w3.heap.size wr ga g.length gc g∧Below w3.heap.size w3 wr) (fun _ idx _=>l.length - (intOf idx).toNat)
 case atStart=>exact ⟨0,[],none,0,rfl,rfl,Nat.zero_le _,Lib.hid rfl,Nat.le_refl _,C7.nil _ _ _ _ _ (fun b h=>h),Below.refl _ _⟩
 case round=>
  obtain ⟨i,g,ga,gc,rfl,rfl,hi,HG,hgl,hO,hb⟩:=hrel
  rename World=>wo
  by_cases hlt:i<l.length
  case pos=>
   have b1:(i:Int)<(l.length:Int):=by omega
   have b0:(0:Int)≤(i:Int):=by omega
   have b2:(i:Int)<(es.length:Int):=by rw [HR.out.len];exact b1
   obtain ⟨d,hdi⟩:∃ d,l[i]? =some d:=⟨_,List.getElem?_eq_getElem hlt⟩
   obtain ⟨er,her⟩:∃ er,es[i]? =some er:=⟨_,List.getElem?_eq_getElem (by rw [HR.out.len];exact hlt)⟩
   have HGT:=Lib.hid (B6i l es i d er hdi her)
   obtain ⟨eg,eo,rfl,_,_,cs,rfl,hce⟩:=(he3.below hb).get her
   have q0:=hce 0 _ rfl
   rw [show A71.size=1 from rfl,Nat.add_zero,Nat.mul_one] at q0
   clear hce her
   by_cases her0:er=0
   case neg=>
    have c1:(er==0)=false:=by rw [beq_eq_false_iff_ne];exact her0
    have HG2:Hid (g=B89 (l.take (i+1)) (es.take (i+1))):=Lib.hid (by rw [HGT.out,if_neg her0,List.append_nil];exact HG.out)
    clear her0 HGT HG hdi
    go_wp2
    case roundEnd=>
     go_roundw
     case rel=>exact ⟨i+1,g,ga,gc,rfl,by go_num,by omega,HG2,by omega,hO,hb⟩
     case measure=>simp [intOf]<;>omega
   have c1:(er==0)=true:=by rw [beq_iff_eq];exact her0
   obtain ⟨dg,dof,rfl,_,hdg,cs,hdr,hcd⟩:=(hd3.anyOk (ok':=fun b=>b<w3.heap.size) (fun b hb _=>hb)).get hdi
   have HG2:Hid (g++[d]=B89 (l.take (i+1)) (es.take (i+1))):=Lib.hid (by rw [HGT.out,if_pos her0,←HG.out])
   have hdr2:=doS.below hdr hb
   obtain ⟨fa,fc,rfl,hk1,hk2,hfl⟩:=hdr
   have e0:=B8 hb hdg (hcd 0 _ rfl)
   have e1:=B8 hb hdg (hcd 1 _ rfl)
   have e2:=B8 hb hdg (hcd 2 _ rfl)
   rw [show doS.size=3 from rfl,Nat.add_zero] at e0
   rw [show doS.size=3 from rfl] at e1 e2
   have hbx:=G8 wo (.cells #[.int .i64 d.kind,.int .i64 d.n,.slice fa d.flows.length fc] 66)
   have hE:=I6 wo 66 #[.int .i64 d.kind,.int .i64 d.n,.slice fa d.flows.length fc]
   have hO4:=hO.below hbx
   have hb4:=hb.trans (hbx.mono hb.size)
   have hz4:w3.heap.size≤(wo.alloc (.cells #[.int .i64 d.kind,.int .i64 d.n,.slice fa d.flows.length fc] 66)).heap.size:=hb4.size
   have hsrc:=B7s hE (doS.below hdr2 hbx)
   have hl2:g.length≤200:=by omega
   clear her0 HGT HG hdi hcd hdr2 hO hb hbx
   go_wp2_with (at_builtin;go_must (refine H4 (sh:=doS) (n:=g.length) (m:=1) rfl _ _ 25 rfl 66 i0 (.agg #[.int .i64 0,.int .i64 0,.slice none 0 0]) 40 Try.underlying25 gi gz0 gz1 gz2 rfl (by decide) rfl hO4 rfl rfl hsrc (by simp only [maxLen];omega) (by omega) hz4 ?_);go_must (intro ga4 gc4 wr4 hO5 hg5 hd5))
   case roundEnd=>
    have hb5:=hb4.trans (D6 hg5 (fun k hk=>(hO4.lt k hk).1) hz4)
    have hlen5:(g++[d]).length=g.length+1:=by simp
    rw [←hlen5] at hO5
    go_roundw
    case rel=>exact ⟨i+1,g++[d],ga4,gc4,by rw [hlen5],by go_num,by omega,HG2,by omega,hO5,hb5⟩
    case measure=>simp [intOf]<;>omega
  have b1:¬(i:Int)<(l.length:Int):=by omega
  have hi2:i=l.length:=by omega
  have HG2:Hid (g=B89 l es):=Lib.hid (by rw [HG.out,hi2,List.take_length,List.take_of_length_le (by rw [HR.out.len];exact Nat.le_refl _)])
  have hBo:=hB3.trans (hb.mono hB3.size)
  have hTo:=hT3.under hb
  have hWo:=hW.under hb
  have hNo:=A0g.below hN3 hb
  have HPL:=Lib.hid (A2z t _ okt wo (I5.below hT hBo) g ga gc _ (hO.row (ok':=fun _=>True) (fun _ _=>trivial) (fun _ _=>trivial)))
  have hsame:Hid ((D9 t g).1=n∧(D9 t g).2.2=(0,0)∧∀ (i:Nat) (e:Int),(D9 t g).2.1[i]? =some e→e=0):=Lib.hid (by rw [HG2.out];exact ⟨HR.out.same,HR.out.err,HR.out.all⟩)
  obtain ⟨t1,t2⟩:=hTo.cells
  have htl:=hTo.lt
  clear HG HG2 hi2 hi hlt hgl hT3 hW hN3 hB3 hb hO hd3 he3
  generalize D9 t g=RR at *
  obtain ⟨n',es',fe',ff'⟩:=RR
  dsimp only at *
  have HS2:Hid (∀ (i:Nat) (e:Int),es'[i]? =some e→e=0):=Lib.hid hsame.out.2.2
  obtain ⟨rfl,rfl⟩:fe'=0∧ff'=0:=by have:=hsame.out.2.1;simpa using this
  have hnn:=hsame.out.1.symm
  subst hnn
  clear hsame
  go_wp2_with fail
  refine HPL.out.mono ?_
  rintro e w4 ⟨cs,ea',ec',rfl,hn4,he4,hb4⟩
  have hB4:=hBo.trans (hb4.mono hBo.size)
  have hW4:=hWo.under hb4
  have hN4:=A0g.below hNo hb4
  have hn4':=hn4
  obtain ⟨n0',n1',n2',y0',y1',y2',wa',wc',sa',sc',oa',oc',ba',bc',pa',pc',pl',lc',rfl,_,_,hnow',hnext',_⟩:=A0g.open8 hn4
  obtain ⟨lp0,lp1,lp2⟩:=B7.st (P:=Try.prog) hnow'
  obtain ⟨lq0,lq1,lq2⟩:=B7.st (P:=Try.prog) hnext'
  obtain ⟨lm0,lm1,lm2⟩:=hnow'.one
  obtain ⟨lz0,lz1,lz2⟩:=hnext'.one
  have hbx:Below w4.heap.size w4 ((w4.alloc (.cells #[.int .i64 n.ctl.stage,n0',n1',n2',y0',y1',y2',.int .i64 n.ctl.num,.slice wa' n.ctl.waits.length wc',.slice sa' n.switches.length sc',.slice oa' n.orders.length oc',.slice ba' n.backs.length bc',.slice pa' n.packets.length pc',.slice pl' n.plans.length lc'] 40)).alloc (.cells #[.int .i64 0,.int .i64 0] 44)):=A1t _ _ _
  have hX:A6 ((w4.alloc (.cells #[.int .i64 n.ctl.stage,n0',n1',n2',y0',y1',y2',.int .i64 n.ctl.num,.slice wa' n.ctl.waits.length wc',.slice sa' n.switches.length sc',.slice oa' n.orders.length oc',.slice ba' n.backs.length bc',.slice pa' n.packets.length pc',.slice pl' n.plans.length lc'] 40)).alloc (.cells #[.int .i64 0,.int .i64 0] 44)) w4.heap.size 40 #[.int .i64 n.ctl.stage,n0',n1',n2',y0',y1',y2',.int .i64 n.ctl.num,.slice wa' n.ctl.waits.length wc',.slice sa' n.switches.length sc',.slice oa' n.orders.length oc',.slice ba' n.backs.length bc',.slice pa' n.packets.length pc',.slice pl' n.plans.length lc']:=(A6.new rfl).alloc _
  have hB5:=hB4.trans (hbx.mono hB4.size)
  have hW5:=hW4.under hbx
  have hN5:=A0g.below hN4 hbx
  have hM5:=A0g.below hn4' hbx
  have he5:=he4.below hbx
  have hel:=he4.len_le
  clear hnow' hnext' hBo hTo hWo hNo HPL hb4 hB4 hW4 hN4 hn4 hn4' he4 hbx t1 t2 htl
  go_upto_region 14 with fail
  generalize ((w4.alloc (.cells #[.int .i64 n.ctl.stage,n0',n1',n2',y0',y1',y2',.int .i64 n.ctl.num,.slice wa' n.ctl.waits.length wc',.slice sa' n.switches.length sc',.slice oa' n.orders.length oc',.slice ba' n.backs.length bc',.slice pa' n.packets.length pc',.slice pl' n.plans.length lc'] 40)).alloc (.cells #[.int .i64 0,.int .i64 0] 44))=w5 at *
  generalize w4.heap.size=xb at *
  clear lp0 lp1 lp2 lq0 lq1 lq2
  go_wp2
  go_loopw [54] (fun idx wr=>∃ i:Nat,idx=.int .i64 i∧i≤es'.length∧Below w5.heap.size w5 wr) (fun idx _=>es'.length - (intOf idx).toNat)
  case atStart=>exact ⟨0,rfl,Nat.zero_le _,Below.refl _ _⟩
  case round=>
   obtain ⟨i,rfl,hi,hb⟩:=hrel
   rename World=>wi
   have hBi:=hB5.trans (hb.mono hB5.size)
   by_cases hlt:i<es'.length
   case pos=>
    have b1:(i:Int)<(es'.length:Int):=by omega
    have b0:(0:Int)≤(i:Int):=by omega
    obtain ⟨er,her⟩:∃ er,es'[i]? =some er:=⟨_,List.getElem?_eq_getElem hlt⟩
    obtain ⟨eg,eo,rfl,_,_,cs,rfl,hce⟩:=(he5.below hb).get her
    have q0:=hce 0 _ rfl
    rw [show A71.size=1 from rfl,Nat.add_zero,Nat.mul_one] at q0
    obtain rfl:=HS2.out i er her
    clear hce her
    go_wp2
    case roundEnd=>
     go_roundw
     case rel=>exact ⟨i+1,by go_num,by omega,hb⟩
     case measure=>simp [intOf]<;>omega
   have b1:¬(i:Int)<(es'.length:Int):=by omega
   have HSW:=Lib.hid (B6t _ _ _ _ _ wi (A0g.below hN5 hb) (A0g.below hM5 hb) HR.out.os)
   have hWi:=hW5.under hb
   have hXi:=hX.under hb
   obtain ⟨x1,x2⟩:=hWi.cells
   obtain ⟨z1,z2⟩:=hXi.cells
   have hxl:=hWi.lt
   have hzl:=hXi.lt
   clear hN5 hM5 hb hW5 hX he5 HS2 hi hlt
   go_wp2_with fail
   refine HSW.out.mono ?_
   rintro e w9 ⟨rfl,hb9⟩
   have hB9:=hBi.trans (hb9.mono hBi.size)
   clear x1 x2 z1 z2
   go_wp2
   go_ret;exact ⟨rfl,hB9⟩
end Go.Proofs.Ytpfmolaebloipaa
