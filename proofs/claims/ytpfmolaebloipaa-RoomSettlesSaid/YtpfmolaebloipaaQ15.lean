/- Texts of this proof, one behind the other. -/
import Derived.Test.YtpfmolaebloipaaQ13
import Derived.Test.YtpfmolaebloipaaQ5
set_option linter.unusedSimpArgs false
set_option linter.unusedVariables false
set_option maxRecDepth 100000
set_option maxHeartbeats 16000000
namespace Go.St
open Go.RowKit
structure B7a (t:C5) (m:List Do) (n:Net) (R:Net × List Int × (Int × Int)):Prop where
 err:R.2.2=(0,0)
 stage:R.1.ctl.stage=0
 waits:R.1.ctl.waits=[]
 plans:R.1.plans.length=n.plans.length
 sw:R.1.switches.length=t.n.toNat
 n0:1≤t.n
 n8:t.n≤8
 ver:R.1.ctl.now.ver=R.1.plans.length
 few:R.1.plans.length≤1000
 each:∀ (i:Nat) (s:D8),R.1.switches[i]? =some s→s.rules=C6 R.1.ctl.now i∧∀ (j:Nat) (f:E0),R.1.ctl.now.flows[j]? =some f→J5 s j=if f.src=(i:Int) then R.1.ctl.now.ver else 0
 big:∀ s:Nat,(C6 R.1.ctl.now s).length≤5864062014800
 paths:R.1.ctl.now.paths.length≤100000000000000
 flows:R.1.ctl.now.flows.length≤12
theorem B6n {t:C5} {l:List Do} (h:(D9 t l).2.2.1=0) (hl:l.length≤60):(B85 t l).length≤200∧(B85 t l++[B8e]).length≤1000∧((B85 t (B85 t l++[B8e])).length≤200→B7a t (B85 t (B85 t l++[B8e])) (D9 t l).1 (D9 t (B85 t (B85 t l++[B8e])))):=by
 obtain ⟨ht,_⟩:=X0 h
 have h1:(B85 t l).length≤l.length+32:=B7d ht (by omega)
 refine ⟨by omega,by rw [List.length_append];simp only [List.length_cons,List.length_nil];omega,fun h2=>?_⟩
 have hS:=B6d ht h2
 obtain ⟨hok,hf⟩:=A3r ht h2
 rw [W2 ht h2,W2 ht (by omega)]
 have hn:=(J8 ht).1
 have hh:=hf.ctl.now
 generalize (D5 t (D3 t) (B85 t (B85 t l++[B8e]))).1=m at *
 have hsh:∀ s:Nat,(C6 m.ctl.now s).length≤96∧m.ctl.now.paths.length≤12:=fun s=>by
  rcases hh with e|⟨v,lf,hp⟩
  ·rw [e];simp [E2,C6,D4]
  ·have:=hp.short (s:Int)
   have:=hp.plen
   have:=hp.len
   omega
 refine ⟨rfl,hS.stage,hS.calm,by rw [hS.plans],hf.sw,hn.1,hn.2.1,hS.ver,by have:=hf.pn;dsimp only;omega,fun i s hs=>?_,fun s=>by have:=(hsh s).1;dsimp only;omega,by have:=(hsh 0).2;dsimp only;omega,hh.flows12⟩
 have hi:=(List.getElem?_eq_some_iff.1 hs).1
 rw [hf.sw] at hi
 have e:=hS.sw i hi
 dsimp only at hs
 rw [hs] at e
 obtain rfl:s=U6 m.ctl.now i:=by simpa using e
 exact ⟨rfl,fun j f hj=>B82 hj⟩
end Go.St
namespace Go.Proofs.Ytpfmolaebloipaa
open Go.RowKit Go.St
theorem B6f (w:World) (t:C5) (ts:List Value) (okt:Nat→Prop) (h:I5.rep okt w ts t) (l:List Do) (da:Option Addr) (dc:Nat) (okd:Nat→Prop) (hd:A8 doS okd w da dc l):
  Calls Try.prog 6 #[.agg ts.toArray,.slice da l.length dc] w fun e w'=>e=.returned (.bool true)∧Below w.heap.size w w':=by
 have hT:=h
 obtain ⟨la,lc0,rfl,htn,htr⟩:=h
 have hdx:=hd.len_le
 have hB0:=G8 w (.cells #[.int .i64 t.n,.slice la t.links.length lc0] 24)
 have hT0:=I6 w 24 #[.int .i64 t.n,.slice la t.links.length lc0]
 obtain ⟨i0,gi,gz0,gz1,gz2⟩:=info_parts B92
 go_enter Try.func6,Try.ntmps6
 go_wp2_with fail
 generalize w.alloc _=w0 at *
 refine (A0o _).mono ?_
 rintro e w1 ⟨rfl,hb1⟩
 have hB1:=hB0.trans (hb1.mono hB0.size)
 have hT1:=hT0.under hb1
 obtain ⟨t1,t2⟩:=hT1.cells
 have htl:=hT1.lt
 clear hB0 hT0 hb1
 by_cases h60:l.length≤60
 case neg=>
  have b1:(60:Int)<(l.length:Int):=by omega
  have b2:60<l.length:=by omega
  go_wp2
  go_ret;exact ⟨rfl,hB1⟩
 have b1:¬(60:Int)<(l.length:Int):=by omega
 have b2:¬60<l.length:=by omega
 have HPL:=Lib.hid (A2z t _ okt w1 (I5.below hT hB1) l da dc okd (hd.below hB1))
 have HP:=Lib.hid (fun h=>B6n (t:=t) (l:=l) h h60)
 go_wp2_with fail
 generalize D9 t l=RR at *
 refine HPL.out.mono ?_
 rintro e w2 ⟨cs,ea,ec,rfl,hn2,he2,hb2⟩
 have hB2:=hB1.trans (hb2.mono hB1.size)
 have hT2:=hT1.under hb2
 clear hB1 hT1 hb2 t1 t2 htl HPL
 obtain ⟨n,es,fe,ff⟩:=RR
 dsimp only at *
 obtain ⟨n0,n1,n2,y0,y1,y2,wa,wc,sa,sc,oa,oc,ba,bc,pa,pc,pl,lc,rfl,hst,hnu,hnow,hnext,hwt,hks,hko,hkb,hkp,hkl⟩:=A0g.open8 hn2
 obtain ⟨lp0,lp1,lp2⟩:=B7.st (P:=Try.prog) hnow
 obtain ⟨lq0,lq1,lq2⟩:=B7.st (P:=Try.prog) hnext
 have hbx:Below w2.heap.size w2 ((w2.alloc (.cells #[.int .i64 n.ctl.stage,n0,n1,n2,y0,y1,y2,.int .i64 n.ctl.num,.slice wa n.ctl.waits.length wc,.slice sa n.switches.length sc,.slice oa n.orders.length oc,.slice ba n.backs.length bc,.slice pa n.packets.length pc,.slice pl n.plans.length lc] 40)).alloc (.cells #[.int .i64 fe,.int .i64 ff] 44)):=A1t _ _ _
 have hW:A6 ((w2.alloc (.cells #[.int .i64 n.ctl.stage,n0,n1,n2,y0,y1,y2,.int .i64 n.ctl.num,.slice wa n.ctl.waits.length wc,.slice sa n.switches.length sc,.slice oa n.orders.length oc,.slice ba n.backs.length bc,.slice pa n.packets.length pc,.slice pl n.plans.length lc] 40)).alloc (.cells #[.int .i64 fe,.int .i64 ff] 44)) w2.heap.size 40 #[.int .i64 n.ctl.stage,n0,n1,n2,y0,y1,y2,.int .i64 n.ctl.num,.slice wa n.ctl.waits.length wc,.slice sa n.switches.length sc,.slice oa n.orders.length oc,.slice ba n.backs.length bc,.slice pa n.packets.length pc,.slice pl n.plans.length lc]:=(A6.new rfl).alloc _
 have hG:A6 ((w2.alloc (.cells #[.int .i64 n.ctl.stage,n0,n1,n2,y0,y1,y2,.int .i64 n.ctl.num,.slice wa n.ctl.waits.length wc,.slice sa n.switches.length sc,.slice oa n.orders.length oc,.slice ba n.backs.length bc,.slice pa n.packets.length pc,.slice pl n.plans.length lc] 40)).alloc (.cells #[.int .i64 fe,.int .i64 ff] 44)) (w2.heap.size+1) 44 #[.int .i64 fe,.int .i64 ff]:=A6.new (by simp)
 have hB3:=hB2.trans (hbx.mono hB2.size)
 have hT3:=hT2.under hbx
 have hd3:=(hd.anyOk (ok':=fun b=>b<w.heap.size) (fun b hb _=>hb)).below hB3
 have he3:=he2.below hbx
 have hnow3:B7 _ (fun _=>True) n0 n1 n2 n.ctl.now:=C3.below hnow hbx
 have hnext3:B7 _ (fun _=>True) y0 y1 y2 n.ctl.next:=C3.below hnext hbx
 have hwt3:=hwt.below hbx
 have hks3:=hks.below hbx
 have hko3:=hko.below hbx
 have hkb3:=hkb.below hbx
 have hkp3:=hkp.below hbx
 have hkl3:=hkl.below hbx
 have hwb0:w.heap.size≤w2.heap.size:=hB2.size
 clear hn2 he2 hB2 hT2 hnow hnext hwt hks hko hkb hkp hkl hd hbx
 go_upto_region 6 with fail
 generalize ((w2.alloc (.cells #[.int .i64 n.ctl.stage,n0,n1,n2,y0,y1,y2,.int .i64 n.ctl.num,.slice wa n.ctl.waits.length wc,.slice sa n.switches.length sc,.slice oa n.orders.length oc,.slice ba n.backs.length bc,.slice pa n.packets.length pc,.slice pl n.plans.length lc] 40)).alloc (.cells #[.int .i64 fe,.int .i64 ff] 44))=w3 at *
 generalize w2.heap.size=wb at *
 clear lp0 lp1 lp2 lq0 lq1 lq2
 obtain ⟨x1,x2⟩:=hW.cells
 obtain ⟨f1,f2⟩:=hG.cells
 have hwl:=hW.lt
 have hgl:=hG.lt
 by_cases hfe:fe=0
 case neg=>
  have e1:(fe !=0)=true:=by rw [bne_iff_ne];exact hfe
  clear HP hkp3 hW
  go_wp2
  go_ret;exact ⟨rfl,hB3⟩
 subst hfe
 have HR:=Lib.hid (HP.out rfl)
 have hdl:=HR.out.1
 have hdm:=HR.out.2.1
 clear HP hwt3 hko3 hkb3 hks3 hkp3 hkl3 hnow3 hnext3 he3
 generalize htb:w.heap.size=tb at hT3 hd3 hwb0 ⊢
 have HTB:=Lib.hid htb
 clear htb
 have htb3:tb<w3.heap.size:=hT3.lt
 have hTr:I5.rep (fun b=>okt b∧b<tb) w3 [.int .i64 t.n,.slice la t.links.length lc0] t:=I5.mono hT (fun b hb ho=>⟨⟨ho,by have:=HTB.out;omega⟩,hB3.block b (by omega)⟩)
 have hS1:SC [(⟨tb,0,none⟩,(.int .i64 t.n)),(⟨tb,1,none⟩,(.slice la t.links.length lc0))] w3:=⟨hT3.cells.1 0,hT3.cells.1 1,trivial⟩
 have hS0:SC [(⟨tb,0,none⟩,(.int .i64 t.n)),(⟨tb,1,none⟩,(.slice la t.links.length lc0))] w3.drew:=hS1
 have hlow:∀ x∈([(⟨tb,0,none⟩,(.int .i64 t.n)),(⟨tb,1,none⟩,(.slice la t.links.length lc0))]:List (Addr × Value)),x.1.block<w3.heap.size:=by
  intro x hx
  simp only [List.mem_cons,List.not_mem_nil,or_false] at hx
  rcases hx with rfl|rfl<;>exact htb3
 go_upto_region 8 with fail
 clear x1 x2 f1 f2
 refine B9 (SC [(⟨tb,0,none⟩,(.int .i64 t.n)),(⟨tb,1,none⟩,(.slice la t.links.length lc0))]) 99 (fun a0 a' w'=>∃ v8 v31 v32 v33 v34 v35,a'=C8 a0 [(8,v8),(31,v31),(32,v32),(33,v33),(34,v34),(35,v35)]∧∃ (ma:Option Addr) (mc:Nat),v8=.slice ma (B85 t l).length mc∧C7 doS 66 (fun b=>b<tb) w3.heap.size w' ma (B85 t l).length mc (B85 t l)∧Below w3.heap.size w3 w') (by kernel_rfl) ?_ ?_
 ·intro Q' hR hQp
  have hb0:Below w3.heap.size w3 w3.drew:=N4 _
  have hS:SC [(⟨tb,0,none⟩,(.int .i64 t.n)),(⟨tb,1,none⟩,(.slice la t.links.length lc0))] w3.drew:=hS0
  generalize w3.drew=wa at *
  refine A9 hQp hS [0,2] ?_
  iterate 2 (refine B2 _ rfl (by kernel_rfl) (A0 (by kernel_rfl) (by intro w0 hw0;have hw1:=hw0;simp only [SC] at hw1;first|(go_simp;done)|(go_simp;rfl))) ?_;simp only [Act.put,St.tA,St.tD,St.tE,St.tS,St.tC,St.tZ])
  refine B3 ?_
  clear hS
  refine A7 (i:=1) rfl (by kernel_rfl) (by kernel_rfl) fun K1 hK1=>?_
  go_simp
  go_wp2_with fail
  have hbx:=G8 wa (.cells #[] 66)
  have hB1:=hb0.trans (hbx.mono hb0.size)
  have hO1:C7 doS 66 (fun b=>b<tb) w3.heap.size (wa.alloc (.cells #[] 66)) (some ⟨wa.heap.size,0,none⟩) 0 0 []:=⟨[],A1b.made _ _ _ _ #[] 0 hb0.size (Nat.zero_le _) rfl,rfl,by simp,fun k hk=>by have:=hb0.size;simp [Go.St.blk] at hk;omega,fun b hb=>by have:=hb0.size;simp;omega⟩
  have hsrc:=(hd3.below hB1).src
  have hz1:=hB1.size
  have hS:_:=SC.later hB1 hS1
  refine hK1 _ _ (fun _=>hS) ?_
  clear hK1
  generalize wa.alloc _=wb at *
  generalize wa.heap.size=ab at *
  clear hbx hS
  refine A7 (i:=3) rfl (by kernel_rfl) (by kernel_rfl) fun K3 hK3=>?_
  refine Q3 (sh:=doS) (n:=0) (m:=l.length) (.tmp 32) (.tmp 33) 25 (by rfl) 66 i0 (.agg #[.int .i64 0,.int .i64 0,.slice none 0 0]) 40 Try.underlying25 gi gz0 gz1 gz2 rfl (by decide) (by rfl) hO1 (by rfl) rfl hsrc (by simp only [maxLen];omega) (by omega) hz1 ?_
  intro ma mc w6 hO6 hg6 hd6
  have hB6:Below w3.heap.size w3 w6:=hB1.trans (D6 hg6 (fun k hk=>(hO1.lt k hk).1) hz1)
  have hS:_:=SC.later hB6 hS1
  refine hK3 _ _ (fun _=>hS) ?_
  clear hK3
  clear hO1 hsrc hz1 hg6 hd6 hB1
  rw [List.nil_append,Nat.zero_add] at hO6
  clear hS
  refine A7 (i:=4) rfl (by kernel_rfl) (by kernel_rfl) fun K4 hK4=>?_
  go_simp
  go_wp2_with fail
  refine (B6s t _ (fun b=>okt b∧b<tb) (fun b=>b<tb) w3.heap.size w6 (I5.below hTr hB6) l ma mc hO6 hB6.size (fun b hb e=>by have:=(hO6.lt b e).1;have:=hb.2;omega) (by omega)).mono ?_
  rintro e w7 ⟨ma2,mc2,rfl,hO7,hG7⟩
  have hB7:=hB6.trans hG7.below
  go_wp2_with fail
  have hS:_:=SC.later hB7 hS1
  refine hK4 _ _ (fun _=>hS) ?_
  clear hK4
  refine A9 hQp hS [5] ?_
  iterate 1 (refine B2 _ rfl (by kernel_rfl) (A0 (by kernel_rfl) (by intro w0 hw0;have hw1:=hw0;simp only [SC] at hw1;first|(go_simp;done)|(go_simp;rfl))) ?_;simp only [Act.put,St.tA,St.tD,St.tE,St.tS,St.tC,St.tZ])
  refine B3 ?_
  refine B5 (by kernel_rfl) ?_ _
  refine hR _ _ ?_
  iterate 6 apply Exists.intro
  refine ⟨?_,⟨ma2,mc2,rfl,hO7,hB7⟩⟩
  simp only [C8,Act.put,St.tS,St.tC,St.tZ]
  rfl
 rintro a' w8 ⟨v8,v31,v32,v33,v34,v35,rfl,hb8⟩
 simp only [C8,Act.put,St.tS,St.tC,St.tZ]
 obtain ⟨ma,mc,rfl,hO8,hB8⟩:=hb8
 clear hS0
 rename World=>w8
 have hS2:=SC.later hB8 hS1
 have hTr8:=I5.below hTr hB8
 have hS0:SC [(⟨tb,0,none⟩,(.int .i64 t.n)),(⟨tb,1,none⟩,(.slice la t.links.length lc0))] w8.drew:=hS2
 have hz8:=hB8.size
 have HS3:=Lib.hid HR.out.2.2
 clear HR
 generalize B85 t l=l1 at *
 generalize hmm:B85 t (l1++[B8e])=mm at *
 have HMM:=Lib.hid hmm
 have hl1:(l1++[B8e]).length=l1.length+1:=by simp
 have HL1:=Lib.hid hl1
 clear hmm hl1
 go_upto_region 9 with fail
 refine B9 (SC [(⟨tb,0,none⟩,(.int .i64 t.n)),(⟨tb,1,none⟩,(.slice la t.links.length lc0))]) 99 (fun a0 a' w'=>∃ v8 v36 v37 v38 v39 v40 v41,a'=C8 a0 [(8,v8),(36,v36),(37,v37),(38,v38),(39,v39),(40,v40),(41,v41)]∧∃ (ma:Option Addr) (mc:Nat),v8=.slice ma mm.length mc∧C7 doS 66 (fun b=>b<tb) w3.heap.size w' ma mm.length mc mm∧Below w3.heap.size w8 w') (by kernel_rfl) ?_ ?_
 ·intro Q' hR hQp
  have hb0:Below w8.heap.size w8 w8.drew:=N4 _
  have hS:SC [(⟨tb,0,none⟩,(.int .i64 t.n)),(⟨tb,1,none⟩,(.slice la t.links.length lc0))] w8.drew:=hS0
  generalize w8.drew=wa at *
  refine A9 hQp hS [0,1] ?_
  iterate 2 (refine B2 _ rfl (by kernel_rfl) (A0 (by kernel_rfl) (by intro w0 hw0;have hw1:=hw0;simp only [SC] at hw1;first|(go_simp;done)|(go_simp;rfl))) ?_;simp only [Act.put,St.tA,St.tD,St.tE,St.tS,St.tC,St.tZ])
  refine B3 ?_
  clear hS
  refine A7 (i:=2) rfl (by kernel_rfl) (by kernel_rfl) fun K2 hK2=>?_
  go_simp
  go_wp2_with fail
  refine (A5m _ _ _).mono ?_
  rintro e wb ⟨rfl,hb1⟩
  have hb2:=hb0.trans (hb1.mono hb0.size)
  go_wp2_with fail
  have hS:_:=SC.later hb2 hS2
  refine hK2 _ _ (fun _=>hS) ?_
  clear hK2
  refine A7 (i:=3) rfl (by kernel_rfl) (by kernel_rfl) fun K3 hK3=>?_
  go_simp
  go_wp2_with fail
  have hbx:=G8 wb (.cells #[.int .i64 6,.int .i64 0,.slice none 0 0] 66)
  have hE:=I6 wb 66 #[.int .i64 6,.int .i64 0,.slice none 0 0]
  have hb3:=hb2.trans (hbx.mono hb2.size)
  have hO3:=hO8.below hb3
  have hsrc:=B66 (ok:=fun b=>b<tb) (d:=B8e) hE (I64.small (n:=6) (by decide) (by decide)) (I64.small (n:=0) (by decide) (by decide)) rfl
  have hz3:w3.heap.size≤(wb.alloc (.cells #[.int .i64 6,.int .i64 0,.slice none 0 0] 66)).heap.size:=Nat.le_trans hz8 hb3.size
  have hS:_:=SC.later hb3 hS2
  refine hK3 _ _ (fun _=>hS) ?_
  clear hK3
  generalize wb.alloc _=wc2 at *
  generalize wb.heap.size=ab at *
  clear hbx hE hb1 hb2 hS
  refine A7 (i:=4) rfl (by kernel_rfl) (by kernel_rfl) fun K4 hK4=>?_
  refine Q3 (sh:=doS) (n:=l1.length) (m:=1) (.tmp 37) (.tmp 39) 25 (by rfl) 66 i0 (.agg #[.int .i64 0,.int .i64 0,.slice none 0 0]) 40 Try.underlying25 gi gz0 gz1 gz2 rfl (by decide) (by rfl) hO3 (by rfl) rfl hsrc (by simp only [maxLen];omega) (by omega) hz3 ?_
  intro ma3 mc3 w6 hO6 hg6 hd6
  have hB6:Below w3.heap.size w8 w6:=(hb3.mono hz8).trans (D6 hg6 (fun k hk=>(hO3.lt k hk).1) hz3)
  have hS:_:=SC.low hB6 hlow hS2
  refine hK4 _ _ (fun _=>hS) ?_
  clear hK4
  have hz6:=hB6.size
  have hTr6:I5.rep (fun b=>okt b∧b<tb) w6 [.int .i64 t.n,.slice la t.links.length lc0] t:=I5.mono hTr8 (fun b hb ho=>⟨ho,hB6.block b (by have:=ho.2;omega)⟩)
  clear hO3 hsrc hz3 hg6 hd6
  clear hS
  refine A7 (i:=5) rfl (by kernel_rfl) (by kernel_rfl) fun K5 hK5=>?_
  go_simp
  go_wp2_with fail
  have HDR:=B6s t _ (fun b=>okt b∧b<tb) (fun b=>b<tb) w3.heap.size w6 hTr6 (l1++[B8e]) ma3 mc3 (by rw [HL1.out];exact hO6) (by omega) (fun b hb e=>by have:=(hO6.lt b e).1;have:=hb.2;omega) hdm
  rw [HMM.out,HL1.out] at HDR
  refine HDR.mono ?_
  rintro e w7 ⟨ma2,mc2,rfl,hO7,hG7⟩
  have hB7:=hB6.trans hG7.below
  go_wp2_with fail
  have hS:_:=SC.low hB7 hlow hS2
  refine hK5 _ _ (fun _=>hS) ?_
  clear hK5
  refine A9 hQp hS [6] ?_
  iterate 1 (refine B2 _ rfl (by kernel_rfl) (A0 (by kernel_rfl) (by intro w0 hw0;have hw1:=hw0;simp only [SC] at hw1;first|(go_simp;done)|(go_simp;rfl))) ?_;simp only [Act.put,St.tA,St.tD,St.tE,St.tS,St.tC,St.tZ])
  refine B3 ?_
  refine B5 (by kernel_rfl) ?_ _
  refine hR _ _ ?_
  iterate 7 apply Exists.intro
  refine ⟨?_,⟨ma2,mc2,rfl,hO7,hB7⟩⟩
  simp only [C8,Act.put,St.tS,St.tC,St.tZ]
  rfl
 rintro a' w8 ⟨v8,v36,v37,v38,v39,v40,v41,rfl,hb8⟩
 simp only [C8,Act.put,St.tS,St.tC,St.tZ]
 obtain ⟨ma2,mc2,rfl,hO9,hB9⟩:=hb8
 rename World=>w9
 have hB9':Below w.heap.size w w9:=by
  have:=hB3.size
  exact hB3.trans ((hB8.mono (by omega)).trans (hB9.mono (by omega)))
 have hT9:=(hT3.below hB8 htb3).below hB9 htb3
 have hW9:=(hW.below hB8 hwl).below hB9 hwl
 have hG9:=(hG.below hB8 hgl).below hB9 hgl
 have hz9:w3.heap.size≤w9.heap.size:=Nat.le_trans hz8 hB9.size
 have hTr9:I5.rep (fun b=>okt b∧b<tb) w9 [.int .i64 t.n,.slice la t.links.length lc0] t:=I5.mono hTr8 (fun b hb ho=>⟨ho,hB9.block b (by have:=ho.2;omega)⟩)
 clear hS0 hS2 hS1 hTr8 hTr hT3 hW hG hB8 hB9 hO8 hd3 hB3 hz8 hlow
 by_cases h200:mm.length≤200
 case neg=>
  have c1:(200:Int)<(mm.length:Int):=by omega
  have c2:200<mm.length:=by omega
  go_wp2
  go_ret;exact ⟨rfl,hB9'⟩
 have c1:¬(200:Int)<(mm.length:Int):=by omega
 have c2:¬200<mm.length:=by omega
 have HS:=Lib.hid (HS3.out h200)
 have HPL:=Lib.hid (B53 t _ _ w9 hTr9 mm ma2 mc2 _ hO9.E)
 have hz99:wb+1<w9.heap.size:=by omega
 obtain ⟨t1,t2⟩:=hT9.cells
 have htl:=hT9.lt
 clear HS3 hO9
 generalize D9 t mm=RR at *
 obtain ⟨n',es',fe',ff'⟩:=RR
 dsimp only at *
 obtain ⟨rfl,rfl⟩:fe'=0∧ff'=0:=by have:=HS.out.err;simpa using this
 go_wp2_with fail
 refine HPL.out.mono ?_
 rintro e w4 ⟨cs,ea',ec',rfl,hn4,he4,hb4⟩
 have hB4:=hB9'.trans (hb4.mono hB9'.size)
 have hT4:=hT9.under hb4
 have hW4:=hW9.under hb4
 have hG4:=hG9.under hb4
 obtain ⟨n0',n1',n2',y0',y1',y2',wa',wc',sa',sc',oa',oc',ba',bc',pa',pc',pl',lc',hcs,_,_,hnow',hnext',_,hks',_,_,_,_⟩:=A0g.open8 hn4
 obtain ⟨lq0,lq1,lq2⟩:=B7.st (P:=Try.prog) hnext'
 have hnw:=hnow'
 obtain ⟨fa,fc,qa,qc,he,hIv,hfl,hps⟩:=hnow'
 obtain ⟨rfl,rfl,rfl⟩:n0'=.int .i64 n'.ctl.now.ver∧n1'=.slice fa n'.ctl.now.flows.length fc∧n2'=.slice qa n'.ctl.now.paths.length qc:=by simpa using he
 have hw0:n'.ctl.waits.length=0:=by rw [HS.out.waits];rfl
 rw [HS.out.stage,hw0] at hcs
 subst hcs
 have hQ:∀ b,b<w4.heap.size→(((okt b∧b<tb)∨b<tb)∨w9.heap.size≤b)→b≠wb+1:=fun b _ hb=>by
  rcases hb with (hb|hb)|hb<;>omega
 have hks4:=hks'.anyOk (ok':=fun b=>b≠wb+1) hQ
 have hnw4:C3.rep (fun b=>b≠wb+1) w4 [.int .i64 n'.ctl.now.ver,.slice fa n'.ctl.now.flows.length fc,.slice qa n'.ctl.now.paths.length qc] n'.ctl.now:=C3.mono hnw (fun b hb ho=>⟨hQ b hb ho,rfl⟩)
 have hfl4:=hfl.anyOk (ok':=fun b=>b≠wb+1) hQ
 clear hn4 he4 hb4 hB9' hT9 hW9 hG9 HPL t1 t2 htl hnext' hks' he hw0 hTr9 hnw hfl hps hQ
 obtain ⟨g1,g2⟩:=hG4.cells
 have hg4l:=hG4.lt
 go_upto_region 13 with fail
 clear g1 g2 lq0 lq1 lq2
 have hF:Frm (fun b=>b≠wb+1) tb w4 ((w4.setCell ⟨wb+1,0,none⟩ (.int .i64 0)).setCell ⟨wb+1,1,none⟩ (.int .i64 0)):=(Frm.set (a:=⟨wb+1,0,none⟩) (fun h=>h rfl) (by show tb≤wb+1;omega) (.int .i64 0)).trans (Frm.set (a:=⟨wb+1,1,none⟩) (fun h=>h rfl) (by show tb≤wb+1;omega) (.int .i64 0))
 have hGz:=(hG4.set 0 (.int .i64 0)).set 1 (.int .i64 0)
 simp only [St.tS,St.tC,St.tZ] at hGz
 have hWz:=hF.blk hW4 (.inl (by omega))
 have hTz:=hF.blk hT4 (.inl (by omega))
 have hksz:=hF.row hks4
 have hnwz:=hF.rep hnw4
 have hflz:=hF.row hfl4
 have hBz:Below w.heap.size w ((w4.setCell ⟨wb+1,0,none⟩ (.int .i64 0)).setCell ⟨wb+1,1,none⟩ (.int .i64 0)):=hB4.trans (hF.below.mono (by have:=HTB.out;omega))
 have hsz:w4.heap.size=(((w4.setCell ⟨wb+1,0,none⟩ (.int .i64 0)).setCell ⟨wb+1,1,none⟩ (.int .i64 0))).heap.size:=by simp
 have hsl:wb+1<(((w4.setCell ⟨wb+1,0,none⟩ (.int .i64 0)).setCell ⟨wb+1,1,none⟩ (.int .i64 0))).heap.size:=hGz.lt
 rw [hsz]
 clear hF hG4 hW4 hT4 hks4 hnw4 hfl4 hB4 hsz hg4l
 generalize ((w4.setCell ⟨wb+1,0,none⟩ (.int .i64 0)).setCell ⟨wb+1,1,none⟩ (.int .i64 0))=ws at *
 have hbx:=B8j ws (.cells #[.int .i64 0,.int .i64 n'.ctl.now.ver,.slice fa n'.ctl.now.flows.length fc,.slice qa n'.ctl.now.paths.length qc,y0',y1',y2',.int .i64 n'.ctl.num,.slice wa' 0 wc',.slice sa' n'.switches.length sc',.slice oa' n'.orders.length oc',.slice ba' n'.backs.length bc',.slice pa' n'.packets.length pc',.slice pl' n'.plans.length lc'] 40)
 have hX:=I6 ws 40 #[.int .i64 0,.int .i64 n'.ctl.now.ver,.slice fa n'.ctl.now.flows.length fc,.slice qa n'.ctl.now.paths.length qc,y0',y1',y2',.int .i64 n'.ctl.num,.slice wa' 0 wc',.slice sa' n'.switches.length sc',.slice oa' n'.orders.length oc',.slice ba' n'.backs.length bc',.slice pa' n'.packets.length pc',.slice pl' n'.plans.length lc']
 have hG5:=hGz.under hbx
 have hW5:=hWz.under hbx
 have hT5:=hTz.under hbx
 have hks5:=hksz.below hbx
 have hnw5:=C3.below hnwz hbx
 have hfl5:=hflz.below hbx
 have hB5:=hBz.trans (hbx.mono hBz.size)
 clear hGz hWz hTz hksz hnwz hflz hBz hbx hsl
 generalize ws.alloc _=w5 at *
 generalize ws.heap.size=xb at *
 have k1:((n'.plans.length:Int) !=(n.plans.length:Int))=false:=by rw [HS.out.plans];simp
 have hN0:=HS.out.n0
 have hN8:=HS.out.n8
 obtain ⟨N,hN⟩:∃ N:Nat,t.n=(N:Int):=⟨t.n.toNat,by omega⟩
 have hNs:n'.switches.length=N:=by have:=HS.out.sw;dsimp only at this;omega
 have HNS:=Lib.hid hNs
 have hN1:N≤1000:=by omega
 have t0:w5.cell? ⟨tb,0,none⟩=some (.int .i64 (N:Int)):=by rw [←hN];exact hT5.cells.1 0
 clear hN hNs
 have htl:=hT5.lt
 obtain ⟨g1,g2⟩:=hG5.cells
 obtain ⟨x1,x2⟩:=hX.cells
 obtain ⟨u1,u2⟩:=hW5.cells
 have hgl5:=hG5.lt
 have hxl:=hX.lt
 have hul:=hW5.lt
 have HOF:=Lib.hid (B5d n'.ctl.now N _ _ w5 hnw5 hN1 HS.out.big HS.out.paths)
 clear hT5 hG5 hW5 hnw5
 go_wp2_with fail
 refine HOF.out.mono ?_
 rintro e w6 ⟨ob,f,rfl,hob,hTab,hb6⟩
 have hX6:=hX.under hb6
 have hks6:=hks5.below hb6
 have hfl6:=hfl5.below hb6
 have hB6:=hB5.trans (hb6.mono hB5.size)
 clear g1 g2 x1 x2 u1 u2 t0 HOF hX hks5 hfl5 hB5 hb6 k1
 obtain ⟨x1,x2⟩:=hX6.cells
 have hxl6:=hX6.lt
 go_wp2
 clear x1 x2
 go_loopw [86] (fun idx wr=>∃ i:Nat,idx=.int .i64 i∧i≤n'.switches.length∧Below w6.heap.size w6 wr) (fun idx _=>n'.switches.length - (intOf idx).toNat)
 case atStart=>exact ⟨0,rfl,Nat.zero_le _,Below.refl _ _⟩
 case round=>
  obtain ⟨i,rfl,hi,hb⟩:=hrel
  rename World=>wo
  have hBo:=hB6.trans (hb.mono hB6.size)
  have hXo:=hX6.under hb
  by_cases hlt:i<n'.switches.length
  case neg=>
   have b1:¬(i:Int)<(n'.switches.length:Int):=by omega
   have k2:(n'.ctl.now.ver==(n'.plans.length:Int))=true:=by rw [HS.out.ver];simp
   obtain ⟨x1,x2⟩:=hXo.cells
   have hxlo:=hXo.lt
   by_cases hp0:n'.plans.length=0
   ·have k3:((n'.plans.length:Int)==0)=true:=by rw [hp0];rfl
    clear hp0
    go_wp2
    go_ret;exact ⟨rfl,hBo⟩
   ·have k3:((n'.plans.length:Int)==0)=false:=by rw [beq_eq_false_iff_ne];omega
    clear hp0
    go_wp2
    go_ret;exact ⟨rfl,hBo⟩
  have b1:(i:Int)<(n'.switches.length:Int):=by omega
  have b0:(0:Int)≤(i:Int):=by omega
  have hiN:i<N:=by have:=HNS.out;omega
  have b2:(i:Int)<(N:Int):=by omega
  obtain ⟨s,hsi⟩:∃ s,n'.switches[i]? =some s:=⟨_,List.getElem?_eq_getElem hlt⟩
  obtain ⟨hsr,hsv⟩:=HS.out.each i s hsi
  have hTo:=hTab.under hb
  obtain ⟨sg,so,rfl,_,hsg,cs,hrp,hse⟩:=(hks6.below hb).get hsi
  have HST:=Lib.hid (fun (w':World) (hb:Below wo.heap.size wo w') (j:Int)=>B7i s j _ _ w' (E8.below hrp hb))
  obtain ⟨ra,rc,ta,tc,rfl,hrr,_⟩:=hrp
  have hQ:=fun (w':World) (hb:Below wo.heap.size wo w')=>B8n s.rules (C6 n'.ctl.now i) _ _ _ _ _ _ w' (hrr.below hb) ((hTo.row hiN).below hb)
  have hQe:(s.rules==C6 n'.ctl.now i)=true:=by rw [hsr];simp
  rw [hQe] at hQ
  have HQ:=Lib.hid hQ
  have HSV:=Lib.hid hsv
  have e0:=hse 0 _ rfl
  have e1:=hse 1 _ rfl
  simp only [show E8.size=2 from rfl,Nat.add_zero] at e0 e1
  have hS1:SC [(⟨xb,9,none⟩,(.slice (some ⟨sg,so,none⟩) n'.switches.length sc')),(⟨sg,so+i * 2,none⟩,(.slice ra s.rules.length rc)),(⟨ob,i,none⟩,(.slice (f i).1 (C6 n'.ctl.now i).length (f i).2))] wo:=⟨hXo.cells.1 9,e0,hTo.cell hiN,trivial⟩
  have hS0:SC [(⟨xb,9,none⟩,(.slice (some ⟨sg,so,none⟩) n'.switches.length sc')),(⟨sg,so+i * 2,none⟩,(.slice ra s.rules.length rc)),(⟨ob,i,none⟩,(.slice (f i).1 (C6 n'.ctl.now i).length (f i).2))] wo.drew:=hS1
  have hflo:=hfl6.below hb
  clear hQ hQe hsr hsv hse hsi hrr hTo
  go_upto_region 19 with fail
  refine B9 (SC [(⟨xb,9,none⟩,(.slice (some ⟨sg,so,none⟩) n'.switches.length sc')),(⟨sg,so+i * 2,none⟩,(.slice ra s.rules.length rc)),(⟨ob,i,none⟩,(.slice (f i).1 (C6 n'.ctl.now i).length (f i).2))]) 99 (fun a0 a' w'=>∃ v89 v90 v91 v92 v93 v94 v95 v96 v97 v98 v99,a'=C8 a0 [(89,v89),(90,v90),(91,v91),(92,v92),(93,v93),(94,v94),(95,v95),(96,v96),(97,v97),(98,v98),(99,v99),(100,.bool false)]∧Below wo.heap.size wo w') (by kernel_rfl) ?_ ?_
  ·intro Q' hR hQp
   have hb0:Below wo.heap.size wo wo.drew:=N4 _
   have hS:SC [(⟨xb,9,none⟩,(.slice (some ⟨sg,so,none⟩) n'.switches.length sc')),(⟨sg,so+i * 2,none⟩,(.slice ra s.rules.length rc)),(⟨ob,i,none⟩,(.slice (f i).1 (C6 n'.ctl.now i).length (f i).2))] wo.drew:=hS0
   generalize wo.drew=wa at *
   refine A9 hQp hS [0,2,6,7,1,8,3,9,4,5] ?_
   iterate 10 (refine B2 _ rfl (by kernel_rfl) (A0 (by kernel_rfl) (by intro w0 hw0;have hw1:=hw0;simp only [SC] at hw1;first|(go_simp;done)|(go_simp;rfl))) ?_;simp only [Act.put,St.tA,St.tD,St.tE,St.tS,St.tC,St.tZ])
   refine B3 ?_
   clear hS
   refine A7 (i:=10) rfl (by kernel_rfl) (by kernel_rfl) fun K10 hK10=>?_
   go_simp
   go_wp2_with fail
   refine (HQ.out wa hb0).mono ?_
   rintro e wb2 ⟨rfl,hb1⟩
   have hb2:=hb0.trans (hb1.mono hb0.size)
   go_wp2_with fail
   have hS:_:=SC.later hb2 hS1
   refine hK10 _ _ (fun _=>hS) ?_
   clear hK10
   refine A9 hQp hS [11] ?_
   iterate 1 (refine B2 _ rfl (by kernel_rfl) (A0 (by kernel_rfl) (by intro w0 hw0;have hw1:=hw0;simp only [SC] at hw1;first|(go_simp;done)|(go_simp;rfl))) ?_;simp only [Act.put,St.tA,St.tD,St.tE,St.tS,St.tC,St.tZ])
   refine B3 ?_
   refine B5 (by kernel_rfl) ?_ _
   refine hR _ _ ?_
   iterate 11 apply Exists.intro
   refine ⟨?_,hb2⟩
   simp only [C8,Act.put,St.tS,St.tC,St.tZ]
   rfl
  rintro a' w8 ⟨v89,v90,v91,v92,v93,v94,v95,v96,v97,v98,v99,rfl,hb8⟩
  simp only [C8,Act.put,St.tS,St.tC,St.tZ]
  rename World=>w8
  have hb9:=hb.trans (hb8.mono hb.size)
  have hX8:=hXo.under hb8
  have hfl8:=hflo.below hb8
  have hfln:=hfl8.len_le
  have u0:=cell_later hb8 e0
  have u1:=cell_later hb8 e1
  have HST8:=Lib.hid (fun (w':World) (hb:Below w8.heap.size w8 w') (j:Int)=>HST.out w' (hb8.trans (hb.mono hb8.size)) j)
  obtain ⟨x1,x2⟩:=hX8.cells
  have hxl8:=hX8.lt
  clear hS0 hS1 HQ HST e0 e1 hflo hXo hb8
  go_wp2
  clear x1 x2
  go_loopw [106] (fun idx wr=>∃ j:Nat,idx=.int .i64 j∧j≤n'.ctl.now.flows.length∧Below w8.heap.size w8 wr) (fun idx _=>n'.ctl.now.flows.length - (intOf idx).toNat)
  case atStart=>exact ⟨0,rfl,Nat.zero_le _,Below.refl _ _⟩
  case round=>
   obtain ⟨j,rfl,hj,hbj⟩:=hrel
   rename World=>wi
   have hbq:=hb9.trans (hbj.mono hb9.size)
   by_cases hlj:j<n'.ctl.now.flows.length
   case neg=>
    have c1:¬(j:Int)<(n'.ctl.now.flows.length:Int):=by omega
    clear u0 u1
    go_wp2
    case roundEnd=>
     go_roundw
     case rel=>exact ⟨i+1,by go_num,by omega,hbq⟩
     case measure=>simp [intOf]<;>omega
   have c1:(j:Int)<(n'.ctl.now.flows.length:Int):=by omega
   have c0:(0:Int)≤(j:Int):=by omega
   obtain ⟨g,hgj⟩:∃ g,n'.ctl.now.flows[j]? =some g:=⟨_,List.getElem?_eq_getElem hlj⟩
   have HV:=Lib.hid (HSV.out j g hgj)
   obtain ⟨fg,fo,rfl,_,hfg,cs,⟨va,vc,na,nc,rfl,_⟩,hge⟩:=(hfl8.below hbj).get hgj
   have v0:=hge 0 _ rfl
   have v1:=hge 1 _ rfl
   have v2:=hge 2 _ rfl
   have v3:=hge 3 _ rfl
   simp only [show H6.size=4 from rfl,Nat.add_zero] at v0 v1 v2 v3
   have hXi:=hX8.under hbj
   have hbx:=B8j wi (.cells #[.int .i64 g.src,.int .i64 g.dst,.slice va g.via.length vc,.slice na g.no.length nc] 55)
   have hY:=I6 wi 55 #[.int .i64 g.src,.int .i64 g.dst,.slice va g.via.length vc,.slice na g.no.length nc]
   have hbz:=hbj.trans (hbx.mono hbj.size)
   have hXz:=hXi.under hbx
   have q0:=cell_later hbz u0
   have q1:=cell_later hbz u1
   clear hge hgj hXi
   go_upto_region 25 with fail
   clear v0 v1 v2 v3
   generalize wi.alloc _=wj at *
   generalize wi.heap.size=yb at *
   obtain ⟨x1,x2⟩:=hXz.cells
   obtain ⟨y1,y2⟩:=hY.cells
   have hxz:=hXz.lt
   have hyl:=hY.lt
   have hbw:=hb9.trans (hbz.mono hb9.size)
   by_cases hsrc:g.src=(i:Int)
   ·have d1:(g.src==(i:Int))=true:=by rw [beq_iff_eq];exact hsrc
    have d2:(J5 s j !=n'.ctl.now.ver)=false:=by rw [HV.out,if_pos hsrc];simp
    clear hsrc HV
    go_wp2_with fail
    refine (HST8.out wj hbz j).mono ?_
    rintro e w9 ⟨rfl,hb10⟩
    have hbe:=hbw.trans (hb10.mono hbw.size)
    have hbf:=hbz.trans (hb10.mono hbz.size)
    clear x1 x2 y1 y2 q0 q1
    go_wp2
    case roundEnd=>
     go_roundw
     case rel=>exact ⟨j+1,by go_num,by omega,hbf⟩
     case measure=>simp [intOf]<;>omega
   ·have d1:(g.src==(i:Int))=false:=by rw [beq_eq_false_iff_ne];exact hsrc
    have d2:(J5 s j !=0)=false:=by rw [HV.out,if_neg hsrc];rfl
    clear hsrc HV
    go_wp2_with fail
    refine (HST8.out wj hbz j).mono ?_
    rintro e w9 ⟨rfl,hb10⟩
    have hbe:=hbw.trans (hb10.mono hbw.size)
    have hbf:=hbz.trans (hb10.mono hbz.size)
    clear x1 x2 y1 y2 q0 q1
    go_wp2
    case roundEnd=>
     go_roundw
     case rel=>exact ⟨j+1,by go_num,by omega,hbf⟩
     case measure=>simp [intOf]<;>omega
end Go.Proofs.Ytpfmolaebloipaa
