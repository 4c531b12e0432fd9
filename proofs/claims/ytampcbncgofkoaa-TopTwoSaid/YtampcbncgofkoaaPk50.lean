/- Texts of this proof, one behind the other. -/
import Derived.Test.YtampcbncgofkoaaPk49
set_option linter.unusedSimpArgs false
set_option linter.unusedVariables false
set_option maxRecDepth 100000
set_option maxHeartbeats 16000000
namespace Go.St
open Go.RowKit
theorem A1c.src {α:Type} {s:D1 α} {ok:Nat→Prop} {w:World} {ao:Option Addr} {cap:Nat} {xs:List α} (h:A1c s ok w ao cap xs):D7 s ok w ao xs:=by
 obtain ⟨_,_,rfl|⟨b,off,rfl,_,he⟩⟩:=h
 ·exact .inl rfl
 ·exact .inr ⟨b,off,rfl,he⟩
theorem C1j {w:World} {e:TypeId} {ok ok':Nat→Prop} {base:Nat} {mb:Option Addr} {mbc k:Nat} {l:List Do} (h:C7 doS e ok base w mb l.length mbc l) (hk:k≤l.length) (h1:∀ b,ok b→ok' b) (h2:∀ k,blk mb=some k→ok' k):A8 doS ok' w (if mbc=k then mb else Option.map (fun x=>x.add (k * 3)) mb) (mbc - k) (l.drop k):=by
 have hr:=h.row (ok':=ok') h1 h2
 have hm:=hr.1
 have hx:=hr.2.1
 split
 ·rename_i e
  have h0:l.drop k=[]:=List.drop_of_length_le (by omega)
  rw [h0]
  exact ⟨Nat.zero_le _,by omega,.inl rfl⟩
 ·rename_i hne
  obtain ⟨cells,⟨_,_,_,hc⟩,_⟩:=h
  rcases hc with ⟨rfl,h0⟩|⟨g,cur,rfl,_⟩
  ·omega
  ·have:=hr.drop k hk
   rw [show (Option.map (fun x:Addr=>x.add (k * 3)) (some ⟨g,0,none⟩))=some ⟨g,0+k * doS.size,none⟩ by
    simp only [Option.map_some,Addr.add,show doS.size=3 from rfl,Nat.zero_add]
    split
    ·rename_i h0;rw [h0]
    ·rfl]
   exact this
theorem C1k {w:World} {b:Nat} {e:TypeId} {x:Int} (h:A6 w b e #[.int .i64 x]) (hx:I64 x):A8 C2 (fun k=>k=b) w (some ⟨b,0,none⟩) 1 [x]:=by
  refine ⟨Nat.le_refl _,by decide,.inr ⟨b,0,rfl,rfl,h.lt,fun i z hz=>?_⟩⟩
  match i,hz with
  |0,hz=>
    obtain rfl:_=z:=by simpa using hz
    refine ⟨_,⟨rfl,hx⟩,fun j c hj=>?_⟩
    simp only [Nat.zero_mul,Nat.zero_add]
    rw [h.cells.1 j]
    simpa using hj
  |i+1,hz=>simp at hz
theorem C1m {w:World} {b vb:Nat} {e:TypeId} {x y v:Int} (h:A6 w b e #[.int .i64 x,.int .i64 y,.slice (some ⟨vb,0,none⟩) 1 1,.slice none 0 0]) (hx:I64 x) (hy:I64 y) {ok:Nat→Prop} (hok:ok b) (hv:A8 C2 ok w (some ⟨vb,0,none⟩) 1 [v]):A8 H6 ok w (some ⟨b,0,none⟩) 1 [⟨x,y,[v],[]⟩]:=by
  refine ⟨Nat.le_refl _,by decide,.inr ⟨b,0,rfl,hok,h.lt,fun i z hz=>?_⟩⟩
  match i,hz with
  |0,hz=>
    obtain rfl:_=z:=by simpa using hz
    refine ⟨_,⟨some ⟨vb,0,none⟩,1,none,0,rfl,hx,hy,hv,A8.nil _ _ _ _⟩,fun j c hj=>?_⟩
    simp only [Nat.zero_mul,Nat.zero_add]
    rw [h.cells.1 j]
    simpa using hj
  |i+1,hz=>simp at hz
def C11 (rs:List Do) (j:Nat):List Do:=(List.range j).flatMap fun j=>rs[j]?.toList++[B88 0]
theorem C1f {rs:List Do} {j:Nat} {d:Do} (h:rs[j]? =some d):C11 rs (j+1)=C11 rs j++[d]++[B88 0]:=by
 simp [C11,List.range_succ,h]
theorem C1d {rs:List Do} {j:Nat} (h:rs.length≤j):C11 rs (j+1)=C11 rs j++[B88 0]:=by
 simp [C11,List.range_succ,List.getElem?_eq_none h]
theorem C1e {t:C5} {v:Int} {f:E0} (h:(D2 t v [f]).2.1=0):(I1 t f).2=0∧(D2 t v [f]).1.paths=[(I1 t f).1]:=by
 have hp:=A6v h
 have hl:(D2 t v [f]).1.paths.length=1:=hp.plen
 exact ⟨(hp.good 0 f _ rfl (List.getElem?_eq_getElem (by omega))).1,hp.one.2⟩
end Go.St
namespace Go.Proofs.Ytampcbncgofkoaa
open Go.RowKit Go.St
theorem C1i (w:World) (t:C5) (ts:List Value) (okt:Nat→Prop) (h:I5.rep okt w ts t) (a:Int) (ha:I64 a) (b:Int) (hb:I64 b) (v:Int) (hv:I64 v) (m:Int) (hm:I64 m):
  Calls Try.prog 3 #[.agg ts.toArray,.int .i64 a,.int .i64 b,.int .i64 v,.int .i64 m] w fun e w'=>e=.returned (.bool true)∧Below w.heap.size w w':=by
 have hT:=h
 obtain ⟨la,lc0,rfl,htn,htr⟩:=h
 obtain ⟨i0,gi,gz0,gz1,gz2⟩:=info_parts B92
 have hB0:=G8 w (.cells #[.int .i64 t.n,.slice la t.links.length lc0] 24)
 have hT0:=I6 w 24 #[.int .i64 t.n,.slice la t.links.length lc0]
 go_enter Try.func3,Try.ntmps3
 go_wp2_with fail
 generalize w.alloc _=w0 at *
 refine (B9f _).mono ?_
 rintro e w1 ⟨rfl,hb1⟩
 have hB1:=hB0.trans (hb1.mono hB0.size)
 have hT1:=hT0.under hb1
 have htb1:w.heap.size<w1.heap.size:=hT1.lt
 obtain ⟨t1,t2⟩:=hT1.cells
 have htl:=hT1.lt
 clear hB0 hT0 hb1
 have hbx:Below w1.heap.size w1 (((w1.alloc (.cells #[.int .i64 a,.int .i64 b,.slice none 0 0,.slice none 0 0] 28)).alloc (.cells #[.int .i64 v] 3)).alloc (.cells #[.int .i64 a,.int .i64 b,.slice (some ⟨w1.heap.size+1,0,none⟩) 1 1,.slice none 0 0] 28)):=A7q _ _ _ _
 have hF2:A6 (((w1.alloc (.cells #[.int .i64 a,.int .i64 b,.slice none 0 0,.slice none 0 0] 28)).alloc (.cells #[.int .i64 v] 3)).alloc (.cells #[.int .i64 a,.int .i64 b,.slice (some ⟨w1.heap.size+1,0,none⟩) 1 1,.slice none 0 0] 28)) w1.heap.size 28 #[.int .i64 a,.int .i64 b,.slice none 0 0,.slice none 0 0]:=(A6.new rfl).alloc _|>.alloc _
 have hV2:A6 (((w1.alloc (.cells #[.int .i64 a,.int .i64 b,.slice none 0 0,.slice none 0 0] 28)).alloc (.cells #[.int .i64 v] 3)).alloc (.cells #[.int .i64 a,.int .i64 b,.slice (some ⟨w1.heap.size+1,0,none⟩) 1 1,.slice none 0 0] 28)) (w1.heap.size+1) 3 #[.int .i64 v]:=(A6.new (by simp)).alloc _
 have hU2:A6 (((w1.alloc (.cells #[.int .i64 a,.int .i64 b,.slice none 0 0,.slice none 0 0] 28)).alloc (.cells #[.int .i64 v] 3)).alloc (.cells #[.int .i64 a,.int .i64 b,.slice (some ⟨w1.heap.size+1,0,none⟩) 1 1,.slice none 0 0] 28)) (w1.heap.size+2) 28 #[.int .i64 a,.int .i64 b,.slice (some ⟨w1.heap.size+1,0,none⟩) 1 1,.slice none 0 0]:=A6.new (by simp)
 have hB2:=hB1.trans (hbx.mono hB1.size)
 have hT2:=hT1.under hbx
 have hs2:((((w1.alloc (.cells #[.int .i64 a,.int .i64 b,.slice none 0 0,.slice none 0 0] 28)).alloc (.cells #[.int .i64 v] 3)).alloc (.cells #[.int .i64 a,.int .i64 b,.slice (some ⟨w1.heap.size+1,0,none⟩) 1 1,.slice none 0 0] 28))).heap.size=w1.heap.size+3:=by simp
 clear hbx hT1 hB1 t1 t2 htl
 go_upto_region 4 with fail
 generalize (((w1.alloc (.cells #[.int .i64 a,.int .i64 b,.slice none 0 0,.slice none 0 0] 28)).alloc (.cells #[.int .i64 v] 3)).alloc (.cells #[.int .i64 a,.int .i64 b,.slice (some ⟨w1.heap.size+1,0,none⟩) 1 1,.slice none 0 0] 28))=w2 at *
 generalize w1.heap.size=fb at *
 have hTr2:I5.rep (fun b=>okt b∧b<w.heap.size) w2 [.int .i64 t.n,.slice la t.links.length lc0] t:=I5.mono hT (fun b hb ho=>⟨⟨ho,hb⟩,hB2.block b hb⟩)
 have hFr2:=(B9h hF2 ha hb).anyOk (ok':=fun k=>k<w2.heap.size) (fun k hk _=>hk)
 have hUr2:=C1m (ok:=fun k=>k<w2.heap.size) hU2 ha hb hU2.lt ((C1k hV2 hv).anyOk (fun k hk _=>hk))
 have HWB:=Lib.hid (show w.heap.size<fb by omega)
 clear hF2 hV2 hU2
 have HP1:=Lib.hid (B50 t 1 (I64.small (by decide) (by decide)) [⟨a,b,[],[]⟩] _ _ _ _ _ w2 hTr2 hFr2)
 have HQ1:=Lib.hid (C1e (t:=t) (v:=1) (f:=⟨a,b,[],[]⟩))
 generalize D2 t 1 [⟨a,b,[],[]⟩]=R at *
 obtain ⟨p1,e1,at1⟩:=R
 dsimp only at *
 obtain ⟨t1,t2⟩:=hT2.cells
 have htl:=hT2.lt
 go_wp2_with fail
 refine HP1.out.mono ?_
 rintro e w3 ⟨pcs,rfl,hp1,hb31⟩
 obtain ⟨fa1,fc1,qa1,qc1,rfl,_,_,hps1⟩:=hp1
 have hbx1:Below w3.heap.size w3 ((w3.alloc (.cells #[.int .i64 p1.ver,.slice fa1 p1.flows.length fc1,.slice qa1 p1.paths.length qc1] 32)).alloc (.cells #[.int .i64 e1,.int .i64 at1] 35)):=A1t _ _ _
 have hP1:A6 ((w3.alloc (.cells #[.int .i64 p1.ver,.slice fa1 p1.flows.length fc1,.slice qa1 p1.paths.length qc1] 32)).alloc (.cells #[.int .i64 e1,.int .i64 at1] 35)) w3.heap.size 32 #[.int .i64 p1.ver,.slice fa1 p1.flows.length fc1,.slice qa1 p1.paths.length qc1]:=(A6.new rfl).alloc _
 have hG1:A6 ((w3.alloc (.cells #[.int .i64 p1.ver,.slice fa1 p1.flows.length fc1,.slice qa1 p1.paths.length qc1] 32)).alloc (.cells #[.int .i64 e1,.int .i64 at1] 35)) (w3.heap.size+1) 35 #[.int .i64 e1,.int .i64 at1]:=A6.new (by simp)
 have hps19:=hps1.below hbx1
 have hB91:=hb31.trans (hbx1.mono hb31.size)
 have hB4:=hB2.trans (hB91.mono hB2.size)
 have hTr4:=I5.below hTr2 hB91
 replace hT2:=hT2.under hB91
 clear hps1 HP1 t1 t2 htl
 go_upto_region 5 with fail
 generalize ((w3.alloc (.cells #[.int .i64 p1.ver,.slice fa1 p1.flows.length fc1,.slice qa1 p1.paths.length qc1] 32)).alloc (.cells #[.int .i64 e1,.int .i64 at1] 35))=w4 at *
 generalize w3.heap.size=pb1 at *
 have hUr4:=hUr2.below hB91
 have hFr4:=hFr2.below hB91
 have hP19:=hP1
 have HP2:=Lib.hid (B50 t 2 (I64.small (by decide) (by decide)) [⟨a,b,[v],[]⟩] _ _ _ _ _ w4 hTr4 hUr4)
 have HQ2:=Lib.hid (C1e (t:=t) (v:=2) (f:=⟨a,b,[v],[]⟩))
 generalize D2 t 2 [⟨a,b,[v],[]⟩]=R at *
 obtain ⟨p2,e2,at2⟩:=R
 dsimp only at *
 obtain ⟨t1,t2⟩:=hT2.cells
 have htl:=hT2.lt
 go_wp2_with fail
 refine HP2.out.mono ?_
 rintro e w5 ⟨pcs,rfl,hp2,hb32⟩
 obtain ⟨fa2,fc2,qa2,qc2,rfl,_,_,hps2⟩:=hp2
 have hbx2:Below w5.heap.size w5 ((w5.alloc (.cells #[.int .i64 p2.ver,.slice fa2 p2.flows.length fc2,.slice qa2 p2.paths.length qc2] 32)).alloc (.cells #[.int .i64 e2,.int .i64 at2] 35)):=A1t _ _ _
 have hP2:A6 ((w5.alloc (.cells #[.int .i64 p2.ver,.slice fa2 p2.flows.length fc2,.slice qa2 p2.paths.length qc2] 32)).alloc (.cells #[.int .i64 e2,.int .i64 at2] 35)) w5.heap.size 32 #[.int .i64 p2.ver,.slice fa2 p2.flows.length fc2,.slice qa2 p2.paths.length qc2]:=(A6.new rfl).alloc _
 have hG2:A6 ((w5.alloc (.cells #[.int .i64 p2.ver,.slice fa2 p2.flows.length fc2,.slice qa2 p2.paths.length qc2] 32)).alloc (.cells #[.int .i64 e2,.int .i64 at2] 35)) (w5.heap.size+1) 35 #[.int .i64 e2,.int .i64 at2]:=A6.new (by simp)
 have hps29:=hps2.below hbx2
 have hB92:=hb32.trans (hbx2.mono hb32.size)
 have hB3:=hB4.trans (hB92.mono hB4.size)
 have hTr3:=I5.below hTr4 hB92
 replace hT2:=hT2.under hB92
 clear hps2 HP2 t1 t2 htl
 go_upto_region 6 with fail
 generalize ((w5.alloc (.cells #[.int .i64 p2.ver,.slice fa2 p2.flows.length fc2,.slice qa2 p2.paths.length qc2] 32)).alloc (.cells #[.int .i64 e2,.int .i64 at2] 35))=w3 at *
 generalize w5.heap.size=pb2 at *
 have hUr6:=hUr4.below hB92
 have hFr6:=hFr4.below hB92
 have hP16:=hP1.under hB92
 have hG16:=hG1.under hB92
 have hps16:=hps19.below hB92
 clear hb31 hbx1 hb32 hbx2 hB91 hB92 hB4 hB2 hUr4 hFr4 hUr2 hFr2 hTr2 hTr4 hP1 hG1 hP19 hps19
 obtain ⟨f1,f2⟩:=hG16.cells
 obtain ⟨g1,g2⟩:=hG2.cells
 have hfl:=hG16.lt
 have hgl:=hG2.lt
 by_cases he1:e1=0
 case neg=>
  have k1:(e1 !=0)=true:=by rw [bne_iff_ne];exact he1
  go_wp2
  go_ret;exact ⟨rfl,hB3⟩
 by_cases he2:e2=0
 case neg=>
  have k1:(e1 !=0)=false:=by rw [bne_eq_false_iff_eq];exact he1
  have k2:(e2 !=0)=true:=by rw [bne_iff_ne];exact he2
  clear he1
  go_wp2
  go_ret;exact ⟨rfl,hB3⟩
 obtain ⟨hw1,hq1⟩:=HQ1.out he1
 obtain ⟨hw2,hq2⟩:=HQ2.out he2
 subst he1 he2
 have HW1:=Lib.hid hw1
 have HW2:=Lib.hid hw2
 have HP1:=Lib.hid hq1
 have HP2:=Lib.hid hq2
 clear hw1 hw2 hq1 hq2 HQ1 HQ2
 have k1:((0:Int) !=0)=false:=by decide
 generalize htb:w.heap.size=tb at hT2 HWB ⊢
 have HTB:=Lib.hid htb
 clear htb
 have htb3:tb<w3.heap.size:=hT2.lt
 have hS3:SC [(⟨tb,0,none⟩,(.int .i64 t.n)),(⟨tb,1,none⟩,(.slice la t.links.length lc0))] w3:=⟨hT2.cells.1 0,hT2.cells.1 1,trivial⟩
 have hlow:∀ x∈([(⟨tb,0,none⟩,(.int .i64 t.n)),(⟨tb,1,none⟩,(.slice la t.links.length lc0))]:List (Addr × Value)),x.1.block<w3.heap.size:=by
  intro x hx
  simp only [List.mem_cons,List.not_mem_nil,or_false] at hx
  rcases hx with rfl|rfl<;>exact htb3
 obtain ⟨t1,t2⟩:=hT2.cells
 have htl:=hT2.lt
 have hO7:=C0t (e:=41) (fl:=[⟨a,b,[],[]⟩]) (hFr6.mono (ok':=fun k=>k<w3.heap.size) (fun k hl _=>⟨hl,rfl⟩)) (Nat.le_refl w3.heap.size)
 have hbx:=B8j w3 (.cells #[.int .i64 1,.int .i64 0,.slice (some ⟨fb,0,none⟩) 1 1] 41)
 have hT7:=I5.below hTr3 hbx
 have hz7:=hbx.size
 go_wp2_with fail
 generalize w3.alloc _=w7 at *
 clear f1 f2 g1 g2 t1 t2 k1
 refine (B9q t _ (fun b=>okt b∧b<w.heap.size) (fun b=>b<w3.heap.size) w3.heap.size w7 hT7 [B9y [⟨a,b,[],[]⟩]] _ _ hO7 hz7 (fun b hb e=>by have h9:w3.heap.size=b:=(by simpa [Go.St.blk] using e);have:=hb.2;have:=HTB.out;omega) (by simp)).mono ?_
 rintro e w8 ⟨ma,mc,rfl,hO8,hG8⟩
 have hB8:Below w3.heap.size w3 w8:=hbx.trans hG8.below
 have hm1:=C03 t [B9y [⟨a,b,[],[]⟩]]
 have hl0:([B9y [⟨a,b,[],[]⟩]]:List Do).length=1:=rfl
 rw [hl0] at hm1
 obtain ⟨c1,hc1⟩:∃ c1,B85 t [B9y [⟨a,b,[],[]⟩]]=c1:=⟨_,rfl⟩
 rw [hc1] at hO8 hm1 ⊢
 obtain ⟨c2,hc2⟩:∃ c2,B85 t (c1++[B8e])=c2:=⟨_,rfl⟩
 have hl1:(c1++[B8e]).length=c1.length+1:=by simp
 have HC2:Hid (c2=C02 t ⟨a,b,[],[]⟩ 1):=Lib.hid (by rw [←hc2,←hc1];rfl)
 have hm2:=C03 t (c1++[B8e])
 rw [hc2,hl1] at hm2
 have hcl:c1.length≤216:=by omega
 have hcl2:c2.length≤217:=by omega
 have HD2:=Lib.hid hc2
 have HL1:=Lib.hid hl1
 have hS8:=SC.low hB8 hlow hS3
 have hz8:=hB8.size
 have hTo8:I5.rep (fun b=>okt b∧b<w.heap.size) w8 [.int .i64 t.n,.slice la t.links.length lc0] t:=I5.mono hTr3 (fun b hb ho=>⟨ho,hB8.block b (by have:=ho.2;have:=HTB.out;omega)⟩)
 have hS0:=hS8
 clear hm1 hl0 hc1 hc2 hl1 hm2 hO7 hbx hT7 hz7 hG8
 go_upto_region 9 with fail
 refine B9 (SC [(⟨tb,0,none⟩,(.int .i64 t.n)),(⟨tb,1,none⟩,(.slice la t.links.length lc0))]) 99 (fun a0 a' w'=>∃ v17 v64 v65 v66 v67 v68 v69,a'=C8 a0 [(17,v17),(64,v64),(65,v65),(66,v66),(67,v67),(68,v68),(69,v69)]∧∃ (ma:Option Addr) (mc:Nat),v17=.slice ma c2.length mc∧C7 doS 41 (fun b=>b<w3.heap.size) w3.heap.size w' ma c2.length mc c2∧Below w3.heap.size w8 w') (by kernel_rfl) ?_ ?_
 ·intro Q' hR hQp
  have hb0:Below w8.heap.size w8 w8.drew:=N4 _
  have hS:SC [(⟨tb,0,none⟩,(.int .i64 t.n)),(⟨tb,1,none⟩,(.slice la t.links.length lc0))] w8.drew:=hS0
  generalize w8.drew=wa at *
  refine A9 hQp hS [0,1] ?_
  iterate 2 (refine B2 _ rfl (by kernel_rfl) (A0 (by kernel_rfl) (by intro w0 hw0;have hw1:=hw0;simp only [SC] at hw1;first|(go_simp;done)|(go_simp;rfl))) ?_;simp only [Act.put,St.tA,St.tD,St.tE,St.tS,St.tC,St.tZ])
  refine B3 ?_
  clear hS
  refine A7 (i:=2) rfl (by kernel_rfl) (by kernel_rfl) fun K2 hK2=>?_
  go_simp
  go_wp2_with fail
  refine (B9t _ _ _).mono ?_
  rintro e wm ⟨rfl,hbm1⟩
  have hbm:=hb0.trans (hbm1.mono hb0.size)
  go_wp2_with fail
  have hS:_:=SC.later hbm hS8
  refine hK2 _ _ (fun _=>hS) ?_
  clear hK2
  clear hbm1 hb0
  refine A7 (i:=3) rfl (by kernel_rfl) (by kernel_rfl) fun K3 hK3=>?_
  go_simp
  go_wp2_with fail
  have hbx:Below wm.heap.size wm (wm.alloc (.cells #[.int .i64 6,.int .i64 0,.slice none 0 0] 41)):=B8j _ _
  have hE:=I6 wm 41 #[.int .i64 6,.int .i64 0,.slice none 0 0]
  have hb3:=hbm.trans (hbx.mono hbm.size)
  have hO3:=hO8.below hb3
  have hsrc:=B9l (sh:=doS) (ok:=fun b=>b<w3.heap.size) (x:=B8e) hE ⟨none,0,rfl,I64.small (n:=6) (by decide) (by decide),I64.small (n:=0) (by decide) (by decide),A8.nil _ _ _ _⟩
  have hz9:w3.heap.size≤(wm.alloc (.cells #[.int .i64 6,.int .i64 0,.slice none 0 0] 41)).heap.size:=Nat.le_trans hz8 hb3.size
  have hS:_:=SC.later hb3 hS8
  refine hK3 _ _ (fun _=>hS) ?_
  clear hK3
  generalize wm.alloc _=wb at *
  generalize wm.heap.size=ab at *
  clear hbx hE hbm hS
  refine A7 (i:=4) rfl (by kernel_rfl) (by kernel_rfl) fun K4 hK4=>?_
  refine Q3 (sh:=doS) (n:=c1.length) (m:=1) (.tmp 65) (.tmp 67) 38 (by rfl) 41 i0 (.agg #[.int .i64 0,.int .i64 0,.slice none 0 0]) 40 Try.underlying38 gi gz0 gz1 gz2 rfl (by decide) (by rfl) hO3 (by rfl) rfl hsrc (by simp only [maxLen];omega) (by omega) hz9 ?_
  intro ma3 mc3 w6 hO6 hg6 hd6
  have hB6:Below w3.heap.size w8 w6:=(hb3.mono hz8).trans (D6 hg6 (fun k hk=>(hO3.lt k hk).1) hz9)
  have hS:_:=SC.low hB6 hlow hS8
  refine hK4 _ _ (fun _=>hS) ?_
  clear hK4
  have hz6:=hB6.size
  have hTr6:=I5.mono hTo8 (w':=w6) (ok':=fun b=>okt b∧b<w.heap.size) (fun b hb ho=>⟨ho,hB6.block b (by have:=ho.2;have:=HTB.out;omega)⟩)
  clear hO3 hsrc hz9 hg6 hd6 hb3
  clear hS
  refine A7 (i:=5) rfl (by kernel_rfl) (by kernel_rfl) fun K5 hK5=>?_
  go_simp
  go_wp2_with fail
  have HDR:=B9q t _ (fun b=>okt b∧b<w.heap.size) (fun b=>b<w3.heap.size) w3.heap.size w6 hTr6 (c1++[B8e]) ma3 mc3 (by rw [HL1.out];exact hO6) (by omega) (fun b hb e=>by have:=(hO6.lt b e).1;have:=hb.2;have:=HTB.out;omega) (by rw [HL1.out];omega)
  rw [HD2.out,HL1.out] at HDR
  refine HDR.mono ?_
  rintro e w7 ⟨ma2,mc2,rfl,hO7,hG7⟩
  have hB7:=hB6.trans hG7.below
  go_wp2_with fail
  have hS:_:=SC.low hB7 hlow hS8
  refine hK5 _ _ (fun _=>hS) ?_
  clear hK5
  refine A9 hQp hS [6] ?_
  iterate 1 (refine B2 _ rfl (by kernel_rfl) (A0 (by kernel_rfl) (by intro w0 hw0;have hw1:=hw0;simp only [SC] at hw1;first|(go_simp;done)|(go_simp;rfl))) ?_;simp only [Act.put,St.tA,St.tD,St.tE,St.tS,St.tC,St.tZ])
  refine B3 ?_
  refine B5 (by kernel_rfl) ?_ _
  refine hR _ _ ?_
  iterate 7 apply Exists.intro
  refine ⟨?_,⟨ma2,mc2,rfl,hO7,hB7⟩⟩
  simp only [C8,Act.put,St.tS,St.tC,St.tZ]
  rfl
 rintro a' w8 ⟨v17,v64,v65,v66,v67,v68,v69,rfl,hb8⟩
 simp only [C8,Act.put,St.tS,St.tC,St.tZ]
 obtain ⟨ma5,mc5,rfl,hO9,hB9⟩:=hb8
 rename World=>w9
 have hB39:Below w3.heap.size w3 w9:=hB8.trans hB9
 have hS9:=SC.low hB39 hlow hS3
 have hz9:=hB39.size
 have hbx:=B8j w9 (.cells #[.int .i64 1,.int .i64 0,.slice (some ⟨fb+2,0,none⟩) 1 1] 41)
 have hE:=I6 w9 41 #[.int .i64 1,.int .i64 0,.slice (some ⟨fb+2,0,none⟩) 1 1]
 have hO10:=hO9.below hbx
 have hz10:w3.heap.size≤(w9.alloc (.cells #[.int .i64 1,.int .i64 0,.slice (some ⟨fb+2,0,none⟩) 1 1] 41)).heap.size:=Nat.le_trans hz9 hbx.size
 have hB310:Below w3.heap.size w3 (w9.alloc (.cells #[.int .i64 1,.int .i64 0,.slice (some ⟨fb+2,0,none⟩) 1 1] 41)):=hB39.trans (hbx.mono hz9)
 have hUr10:A8 H6 (fun k=>k<w3.heap.size) (w9.alloc (.cells #[.int .i64 1,.int .i64 0,.slice (some ⟨fb+2,0,none⟩) 1 1] 41)) (some ⟨fb+2,0,none⟩) 1 [⟨a,b,[v],[]⟩]:=(hUr6.mono (ok':=fun k=>k<w3.heap.size) (fun k hl _=>⟨hl,rfl⟩)).mono (fun k hl hk=>⟨hk,hB310.block k hk⟩)
 have hsrc:=B9l (sh:=doS) (ok:=fun b=>b<w3.heap.size) (x:=B9y [⟨a,b,[v],[]⟩]) hE (C0f hUr10)
 have hl3:(c2++[B9y [⟨a,b,[v],[]⟩]]).length=c2.length+1:=by simp
 have HL3:=Lib.hid hl3
 clear hS0 hS8 hTo8 hO8 hB9 hB8 hO9 hbx hE hUr10 HD2 HL1 hl3
 go_upto_region 11 with (at_builtin;go_must (refine H4 (sh:=doS) (n:=c2.length) (m:=1) rfl _ _ 38 rfl 41 i0 (.agg #[.int .i64 0,.int .i64 0,.slice none 0 0]) 40 Try.underlying38 gi gz0 gz1 gz2 rfl (by decide) rfl hO10 rfl rfl hsrc (by simp only [maxLen];omega) (by omega) hz10 ?_);go_must (intro ml mlc w10 hO11 hg11 hd11))
 have hB11:Below w3.heap.size w3 w10:=hB310.trans (D6 hg11 (fun k hk=>(hO10.lt k hk).1) hz10)
 have hz11:=hB11.size
 have hS11:=SC.low hB11 hlow hS3
 have hT11:I5.rep (fun b=>okt b∧b<w.heap.size) w10 [.int .i64 t.n,.slice la t.links.length lc0] t:=I5.mono hTr3 (fun b hb ho=>⟨ho,hB11.block b (by have:=ho.2;have:=HTB.out;omega)⟩)
 obtain ⟨c3,hc3⟩:∃ c3,c2++[B9y [⟨a,b,[v],[]⟩]]=c3:=⟨_,rfl⟩
 rw [hc3] at hO11 HL3
 obtain ⟨c4,hc4⟩:∃ c4,B85 t c3=c4:=⟨_,rfl⟩
 have hm4:=C03 t c3
 rw [hc4] at hm4
 have hl3:=HL3.out
 have hcl3:c3.length≤218:=by omega
 have hcl4:c4.length≤218:=by omega
 have HC3:=Lib.hid hc3
 have HD4:=Lib.hid hc4
 have HO11:C7 doS 41 (fun b=>b<w3.heap.size) w3.heap.size w10 ml c3.length mlc c3:=by rw [HL3.out];exact hO11
 have hsr:=HO11.E
 have hS0:=hS11
 clear hO10 hO11 hg11 hd11 hz10 hB310 hsrc hc3 hc4 hm4 hl3 HO11
 refine B9 (SC [(⟨tb,0,none⟩,(.int .i64 t.n)),(⟨tb,1,none⟩,(.slice la t.links.length lc0))]) 99 (fun a0 a' w'=>∃ v18 v75 v76 v77 v78 v79,a'=C8 a0 [(18,v18),(75,v75),(76,v76),(77,v77),(78,v78),(79,v79)]∧∃ (mb:Option Addr) (mbc:Nat),v18=.slice mb c4.length mbc∧C7 doS 41 (fun b=>b<w3.heap.size) w10.heap.size w' mb c4.length mbc c4∧Below w10.heap.size w10 w') (by kernel_rfl) ?_ ?_
 ·intro Q' hR hQp
  have hb0:Below w10.heap.size w10 w10.drew:=N4 _
  have hS:SC [(⟨tb,0,none⟩,(.int .i64 t.n)),(⟨tb,1,none⟩,(.slice la t.links.length lc0))] w10.drew:=hS0
  generalize w10.drew=wa at *
  refine A9 hQp hS [0,2] ?_
  iterate 2 (refine B2 _ rfl (by kernel_rfl) (A0 (by kernel_rfl) (by intro w0 hw0;have hw1:=hw0;simp only [SC] at hw1;first|(go_simp;done)|(go_simp;rfl))) ?_;simp only [Act.put,St.tA,St.tD,St.tE,St.tS,St.tC,St.tZ])
  refine B3 ?_
  clear hS
  refine A7 (i:=1) rfl (by kernel_rfl) (by kernel_rfl) fun K1 hK1=>?_
  go_simp
  go_wp2_with fail
  have hbx:=G8 wa (.cells #[] 41)
  have hB1:=hb0.trans (hbx.mono hb0.size)
  have hz0:=hb0.size
  have hO1:C7 doS 41 (fun b=>b<w3.heap.size) w10.heap.size (wa.alloc (.cells #[] 41)) (some ⟨wa.heap.size,0,none⟩) 0 0 []:=⟨[],A1b.made _ _ _ _ #[] 0 hz0 (Nat.zero_le _) rfl,rfl,by simp,fun k hk=>by simp [Go.St.blk] at hk;omega,fun b hb=>by simp;omega⟩
  have hsrc:=(hsr.below hB1).src
  have hz1:=hB1.size
  have hS:_:=SC.later hB1 hS11
  refine hK1 _ _ (fun _=>hS) ?_
  clear hK1
  generalize wa.alloc _=wb at *
  generalize wa.heap.size=ab at *
  clear hbx hS
  refine A7 (i:=3) rfl (by kernel_rfl) (by kernel_rfl) fun K3 hK3=>?_
  refine Q3 (sh:=doS) (n:=0) (m:=c2.length+1) (.tmp 76) (.tmp 77) 38 (by rfl) 41 i0 (.agg #[.int .i64 0,.int .i64 0,.slice none 0 0]) 40 Try.underlying38 gi gz0 gz1 gz2 rfl (by decide) (by rfl) hO1 (by rfl) HL3.out hsrc (by simp only [maxLen];omega) (by omega) hz1 ?_
  intro mx mxc w6 hO6 hg6 hd6
  have hB6:Below w10.heap.size w10 w6:=hB1.trans (D6 hg6 (fun k hk=>(hO1.lt k hk).1) hz1)
  have hS:_:=SC.later hB6 hS11
  refine hK3 _ _ (fun _=>hS) ?_
  clear hK3
  clear hO1 hsrc hz1 hg6 hd6 hB1
  rw [List.nil_append,Nat.zero_add] at hO6
  clear hS
  refine A7 (i:=4) rfl (by kernel_rfl) (by kernel_rfl) fun K4 hK4=>?_
  go_simp
  go_wp2_with fail
  have HDR:=B9q t _ (fun b=>okt b∧b<w.heap.size) (fun b=>b<w3.heap.size) w10.heap.size w6 (I5.below hT11 hB6) c3 mx mxc (by rw [HL3.out];exact hO6) hB6.size (fun b hb e=>by have:=(hO6.lt b e).1;have:=hb.2;have:=HTB.out;omega) (by omega)
  rw [HD4.out,HL3.out] at HDR
  refine HDR.mono ?_
  rintro e w7 ⟨mb,mbc,rfl,hO7,hG7⟩
  have hB7:=hB6.trans hG7.below
  go_wp2_with fail
  have hS:_:=SC.later hB7 hS11
  refine hK4 _ _ (fun _=>hS) ?_
  clear hK4
  refine A9 hQp hS [5] ?_
  iterate 1 (refine B2 _ rfl (by kernel_rfl) (A0 (by kernel_rfl) (by intro w0 hw0;have hw1:=hw0;simp only [SC] at hw1;first|(go_simp;done)|(go_simp;rfl))) ?_;simp only [Act.put,St.tA,St.tD,St.tE,St.tS,St.tC,St.tZ])
  refine B3 ?_
  refine B5 (by kernel_rfl) ?_ _
  refine hR _ _ ?_
  iterate 6 apply Exists.intro
  refine ⟨?_,⟨mb,mbc,rfl,hO7,hB7⟩⟩
  simp only [C8,Act.put,St.tS,St.tC,St.tZ]
  rfl
 rintro a' w8 ⟨v18,v75,v76,v77,v78,v79,rfl,hb8⟩
 simp only [C8,Act.put,St.tS,St.tC,St.tZ]
 obtain ⟨mb,mbc,rfl,hO12,hB12⟩:=hb8
 rename World=>w12
 have hz12:=hB12.size
 have hB312:Below w3.heap.size w3 w12:=hB11.trans (hB12.mono hz11)
 have hS12:=SC.low hB312 hlow hS3
 have hB0:Below w.heap.size w w12:=hB3.trans (hB312.mono (by have:=HTB.out;omega))
 obtain ⟨r4,hr4,_⟩:=C0c t c3
 rw [HD4.out] at hr4
 have hle4:c2.length+1≤c4.length:=by rw [hr4,List.length_append,HL3.out];omega
 generalize hN:c2.length+1=N at *
 have HNN:=Lib.hid hN
 clear hN hr4 hS0 hS11 hB12 hsr
 have hw1:IntKind.i64.wrap ((c4.length:Int) - (N:Int))=(c4.length:Int) - (N:Int):=IntWalk.i64_in _ (by omega)
 by_cases hm0:m<0
 case pos=>
  go_wp2
  go_ret;exact ⟨rfl,hB0⟩
 by_cases hmm:(c4.length:Int) - (N:Int)<m
 case pos=>
  go_wp2
  go_ret;exact ⟨rfl,hB0⟩
 by_cases h150:150<c4.length
 case pos=>
  have k1:(150:Int)<(c4.length:Int):=by omega
  go_wp2
  go_ret;exact ⟨rfl,hB0⟩
 have k1:¬(150:Int)<(c4.length:Int):=by omega
 obtain ⟨M,rfl⟩:∃ M:Nat,m=(M:Int):=⟨m.toNat,by omega⟩
 have hw2:IntKind.i64.wrap ((N:Int)+(M:Int))=(N:Int)+(M:Int):=IntWalk.i64_in _ (by omega)
 have hNM:N+M≤c4.length:=by omega
 have hcap:=(hO12.row (ok':=fun _=>True) (fun _ _=>trivial) (fun _ _=>trivial)).1
 have k2:(0:Int)≤(N:Int)+(M:Int):=by omega
 have k3:(N:Int)+(M:Int)≤(mbc:Int):=by omega
 have hbx:=G8 w12 (.cells #[] 41)
 have hO13:C7 doS 41 (fun b=>b<w12.heap.size) w12.heap.size (w12.alloc (.cells #[] 41)) (some ⟨w12.heap.size,0,none⟩) 0 0 []:=⟨[],A1b.made _ _ _ _ #[] 0 (Nat.le_refl _) (Nat.zero_le _) rfl,rfl,by simp,fun k hk=>by simp [Go.St.blk] at hk;omega,fun b hb=>by simp;omega⟩
 have hR12:=hO12.row (ok':=fun b=>b<w12.heap.size) (fun b hb=>Nat.lt_of_lt_of_le hb (by omega)) (fun k hk=>(hO12.lt k hk).2)
 have hsrc:=((hR12.take (N+M)).below hbx).src
 have htk:(c4.take (N+M)).length=N+M:=by rw [List.length_take];omega
 have HTK:=Lib.hid htk
 have hz13:=hbx.size
 have hcN:N+M≤218:=by omega
 have hn9:((N:Int)+(M:Int)).toNat=N+M:=by omega
 clear hbx htk
 go_wp2_with (at_builtin;go_must (refine H4 (sh:=doS) (n:=0) (m:=N+M) rfl _ _ 38 rfl 41 i0 (.agg #[.int .i64 0,.int .i64 0,.slice none 0 0]) 40 Try.underlying38 gi gz0 gz1 gz2 rfl (by decide) rfl hO13 rfl HTK.out hsrc (by simp only [maxLen];omega) (by omega) hz13 ?_);go_must (intro mx mxc w14 hO14 hg14 hd14))
 have hB14:Below w12.heap.size w12 w14:=(B8j w12 _).trans (D6 hg14 (fun k hk=>(hO13.lt k hk).1) hz13)
 rw [List.nil_append,Nat.zero_add] at hO14
 refine (B9t _ _ _).mono ?_
 rintro e w15 ⟨rfl,hb15⟩
 have hbx:=B8j w15 (.cells #[.int .i64 4,.int .i64 0,.slice none 0 0] 41)
 have hE:=I6 w15 41 #[.int .i64 4,.int .i64 0,.slice none 0 0]
 have hb16:=hb15.trans (hbx.mono hb15.size)
 have hO16:=hO14.below hb16
 have hB16:Below w12.heap.size w12 (w15.alloc (.cells #[.int .i64 4,.int .i64 0,.slice none 0 0] 41)):=hB14.trans (hb16.mono hB14.size)
 have hz16:=hB16.size
 have hsrc2:=B9l (sh:=doS) (ok:=fun b=>b<w12.heap.size) (x:=B8c 0) hE ⟨none,0,rfl,I64.small (n:=4) (by decide) (by decide),I64.small (n:=0) (by decide) (by decide),A8.nil _ _ _ _⟩
 clear hO13 hsrc hz13 hg14 hd14 hO14 hb15 hb16 hbx hE hB14 hR12
 go_upto_region 16 with (at_builtin;go_must (refine H4 (sh:=doS) (n:=N+M) (m:=1) rfl _ _ 38 rfl 41 i0 (.agg #[.int .i64 0,.int .i64 0,.slice none 0 0]) 40 Try.underlying38 gi gz0 gz1 gz2 rfl (by decide) rfl hO16 rfl rfl hsrc2 (by simp only [maxLen];omega) (by omega) hz16 ?_);go_must (intro my myc w17 hO17 hg17 hd17))
 have hB17:Below w12.heap.size w12 w17:=hB16.trans (D6 hg17 (fun k hk=>(hO16.lt k hk).1) hz16)
 have hz17:=hB17.size
 have hc4:=hO12.below hB17
 have k4:(N:Int)+(M:Int)≤(c4.length:Int):=by omega
 have HLT:=Lib.hid (fun k hk=>(hO12.lt k hk).2)
 clear hO16 hsrc2 hB16 hz16 hg17 hd17 hO12
 go_upto_region 17 with fail
 have hRA0:=C1j (ok':=fun b=>b<w12.heap.size) hc4 (show N+M≤c4.length from hNM) (fun b hb=>Nat.lt_of_lt_of_le hb (by omega)) (fun k hk=>HLT.out k hk)
 generalize (if mbc=N+M then mb else Option.map (fun x=>x.add ((N+M) * 3)) mb)=ra at *
 have hrl:(c4.drop (N+M)).length=c4.length - (N+M):=List.length_drop
 have HM0:Hid (C12 0 (c4.drop (N+M))=C11 (c4.drop (N+M)) (max (c4.drop (N+M)).length 8)):=Lib.hid rfl
 rw [hrl] at HM0
 generalize hRR:c4.length - (N+M)=R at *
 have HRR:=Lib.hid hRR
 have HRL:=Lib.hid hrl
 clear hRR hrl
 obtain ⟨X,hX⟩:∃ X:Nat,X=max R 8:=⟨_,rfl⟩
 have hmx:(if (R:Int)<8 then (8:Int) else (R:Int))=(X:Int):=by split<;>omega
 rw [←hX] at HM0
 have hXR:X≤218:=by have:=HRR.out;omega
 have hRX:R≤X:=by omega
 have hRx2:R≤218:=by omega
 have HMX:=Lib.hid hmx
 clear hX hmx hc4 hcap k2 k3 hw2 hn9 htl
 have hmx:=HMX.out
 go_wp2
 clear hmx
 go_loopw [20,115] (fun mv idx wr=>∃ (j:Nat) (m:List Do) (mz:Option Addr) (mzc:Nat),mv=.slice mz m.length mzc∧idx=.int .i64 j∧j≤X∧Hid (m=c4.take (N+M)++[B8c 0]++C11 (c4.drop (N+M)) j)∧m.length≤219+2 * j∧C7 doS 41 (fun b=>b<w12.heap.size) w12.heap.size wr mz m.length mzc m∧Below w12.heap.size w17 wr) (fun _ idx _=>X - (intOf idx).toNat)
 case atStart=>
  have hl0:(c4.take (N+M)++[B8c 0]).length=N+M+1:=by rw [List.length_append,HTK.out];rfl
  exact ⟨0,c4.take (N+M)++[B8c 0],my,myc,by rw [hl0],rfl,Nat.zero_le _,Lib.hid (by simp [C11]),by rw [hl0];omega,by rw [hl0];exact hO17,Below.refl _ _⟩
 case round=>
  clear hO17
  obtain ⟨j,m,mz,mzc,rfl,rfl,hj,HG,hgl,hO,hb⟩:=hrel
  rename World=>wq
  have hzq:w12.heap.size≤wq.heap.size:=Nat.le_trans hz17 hb.size
  by_cases hlt:j<X
  case pos=>
   have b1:(j:Int)<(X:Int):=by omega
   have b0:(0:Int)≤(j:Int):=by omega
   by_cases hjr:j<R
   case pos=>
    have c1:(j:Int)<(R:Int):=by omega
    have hRAq:=hRA0.mono (w':=wq) (ok':=fun b=>b<w12.heap.size) (fun b hl ho=>⟨ho,hb.block b ho⟩)
    obtain ⟨d,hd⟩:∃ d,(c4.drop (N+M))[j]? =some d:=⟨_,List.getElem?_eq_getElem (by rw [HRL.out];exact hjr)⟩
    have HMP:=Lib.hid (C1f hd)
    obtain ⟨eg,eof,rfl,hel0,hel,cs,⟨fa,fc,rfl,hdk,hdn,hdf⟩,hce⟩:=hRAq.get hd
    have e0:=hce 0 _ rfl
    have e1:=hce 1 _ rfl
    have e2:=hce 2 _ rfl
    simp only [show doS.size=3 from rfl,Nat.add_zero] at e0 e1 e2
    clear hce hd
    have hbx:=B8j wq (.cells #[.int .i64 d.kind,.int .i64 d.n,.slice fa d.flows.length fc] 41)
    have hE:=I6 wq 41 #[.int .i64 d.kind,.int .i64 d.n,.slice fa d.flows.length fc]
    have hO3:=hO.below hbx
    have hb3:=hb.trans (hbx.mono (Nat.le_trans hz17 hb.size))
    have hz3:w12.heap.size≤(wq.alloc (.cells #[.int .i64 d.kind,.int .i64 d.n,.slice fa d.flows.length fc] 41)).heap.size:=Nat.le_trans hzq hbx.size
    have hsrc:=B9l (sh:=doS) (ok:=fun b=>b<w12.heap.size) (x:=d) hE ⟨fa,fc,rfl,hdk,hdn,hdf.below hbx⟩
    clear hdk hdn hdf hRAq hbx hE hO
    go_wp2_with (at_builtin;go_must (refine H4 (sh:=doS) (n:=m.length) (m:=1) rfl _ _ 38 rfl 41 i0 (.agg #[.int .i64 0,.int .i64 0,.slice none 0 0]) 40 Try.underlying38 gi gz0 gz1 gz2 rfl (by decide) rfl hO3 rfl rfl hsrc (by simp only [maxLen];omega) (by omega) hz3 ?_);go_must (intro mg mgc wg hO4 hg4 hd4))
    have hb4:Below w12.heap.size w17 wg:=hb3.trans (D6 hg4 (fun k hk=>(hO3.lt k hk).1) hz3)
    clear e0 e1 e2 hO3 hsrc hg4 hd4 hb3 hz3
    refine (B9t _ _ _).mono ?_
    rintro e wh ⟨rfl,hb5⟩
    have hb6:=hb4.trans (hb5.mono (Nat.le_trans hz17 hb4.size))
    have hO6:=hO4.below hb5
    have hbx:=B8j wh (.cells #[.int .i64 5,.int .i64 0,.slice none 0 0] 41)
    have hE:=I6 wh 41 #[.int .i64 5,.int .i64 0,.slice none 0 0]
    have hO7:=hO6.below hbx
    have hb7:=hb6.trans (hbx.mono (Nat.le_trans hz17 hb6.size))
    have hz7:w12.heap.size≤(wh.alloc (.cells #[.int .i64 5,.int .i64 0,.slice none 0 0] 41)).heap.size:=Nat.le_trans hz17 hb7.size
    have hsrc:=B9l (sh:=doS) (ok:=fun b=>b<w12.heap.size) (x:=B88 0) hE ⟨none,0,rfl,I64.small (n:=5) (by decide) (by decide),I64.small (n:=0) (by decide) (by decide),A8.nil _ _ _ _⟩
    clear hbx hE hO6 hb5 hb6
    go_wp2_with (at_builtin;go_must (refine H4 (sh:=doS) (n:=m.length+1) (m:=1) rfl _ _ 38 rfl 41 i0 (.agg #[.int .i64 0,.int .i64 0,.slice none 0 0]) 40 Try.underlying38 gi gz0 gz1 gz2 rfl (by decide) rfl hO7 rfl rfl hsrc (by simp only [maxLen];omega) (by omega) hz7 ?_);go_must (intro mi mic wi hO8 hg8 hd8;have hb8:Below w12.heap.size w17 wi:=hb7.trans (D6 hg8 (fun k hk=>(hO7.lt k hk).1) hz7)))
    case roundEnd=>
     have hl5:(m++[d]++[B88 0]).length=m.length+1+1:=by simp
     go_roundw
     case rel=>exact ⟨j+1,m++[d]++[B88 0],mi,mic,by rw [hl5],by go_num,by omega,Lib.hid (by rw [HMP.out,HG.out];simp only [List.append_assoc]),by omega,by rw [hl5];exact hO8,hb8⟩
     case measure=>simp [intOf]<;>omega
   case neg=>
    have c1:¬(j:Int)<(R:Int):=by omega
    have HMP:Hid (C11 (c4.drop (N+M)) (j+1)=C11 (c4.drop (N+M)) j++[B88 0]):=Lib.hid (C1d (by rw [HRL.out];omega))
    go_wp2_with fail
    refine (B9t _ _ _).mono ?_
    rintro e wh ⟨rfl,hb5⟩
    have hb6:=hb.trans (hb5.mono (Nat.le_trans hz17 hb.size))
    have hO6:=hO.below hb5
    clear hO
    have hbx:=B8j wh (.cells #[.int .i64 5,.int .i64 0,.slice none 0 0] 41)
    have hE:=I6 wh 41 #[.int .i64 5,.int .i64 0,.slice none 0 0]
    have hO7:=hO6.below hbx
    have hb7:=hb6.trans (hbx.mono (Nat.le_trans hz17 hb6.size))
    have hz7:w12.heap.size≤(wh.alloc (.cells #[.int .i64 5,.int .i64 0,.slice none 0 0] 41)).heap.size:=Nat.le_trans hz17 hb7.size
    have hsrc:=B9l (sh:=doS) (ok:=fun b=>b<w12.heap.size) (x:=B88 0) hE ⟨none,0,rfl,I64.small (n:=5) (by decide) (by decide),I64.small (n:=0) (by decide) (by decide),A8.nil _ _ _ _⟩
    clear hbx hE hO6 hb5 hb6
    go_wp2_with (at_builtin;go_must (refine H4 (sh:=doS) (n:=m.length) (m:=1) rfl _ _ 38 rfl 41 i0 (.agg #[.int .i64 0,.int .i64 0,.slice none 0 0]) 40 Try.underlying38 gi gz0 gz1 gz2 rfl (by decide) rfl hO7 rfl rfl hsrc (by simp only [maxLen];omega) (by omega) hz7 ?_);go_must (intro mi mic wi hO8 hg8 hd8;have hb8:Below w12.heap.size w17 wi:=hb7.trans (D6 hg8 (fun k hk=>(hO7.lt k hk).1) hz7)))
    case roundEnd=>
     have hl5:(m++[B88 0]).length=m.length+1:=by simp
     go_roundw
     case rel=>exact ⟨j+1,m++[B88 0],mi,mic,by rw [hl5],by go_num,by omega,Lib.hid (by rw [HMP.out,HG.out];simp only [List.append_assoc]),by omega,by rw [hl5];exact hO8,hb8⟩
     case measure=>simp [intOf]<;>omega
  have b1:¬(j:Int)<(X:Int):=by omega
  have hjX:j=X:=by omega
  have HMM:Hid (C1o t ⟨a,b,[],[]⟩ ⟨a,b,[v],[]⟩ m):=Lib.hid (by
   rw [HG.out,hjX,←HM0.out]
   have h1:=C1h (t:=t) (f:=⟨a,b,[],[]⟩) (g:=⟨a,b,[v],[]⟩) HW1.out HW2.out rfl (s:=M)
   rw [←HC2.out,HC3.out,HD4.out,HL3.out] at h1
   exact h1 (by omega) (by omega))
  have HF:Hid ((D9 t m).2.2=(0,0)∧(D9 t m).1.packets.length=1∧∃ p,(D9 t m).1.packets[0]? =some p∧(p.trace=(I1 t ⟨a,b,[],[]⟩).1∨p.trace=(I1 t ⟨a,b,[v],[]⟩).1)):=Lib.hid (by
   rw [W2 (B0p HW1.out).1 HMM.out.len]
   exact ⟨rfl,HMM.out.one,HMM.out.path⟩)
  have hB3q:Below w3.heap.size w3 wq:=hB312.trans ((hB17.trans hb).mono hB312.size)
  have hSq:=SC.low hB3q hlow hS3
  have hBo:Below w.heap.size w wq:=hB3.trans (hB3q.mono (by have:=HTB.out;omega))
  have hTq:I5.rep (fun b=>okt b∧b<w.heap.size) wq [.int .i64 t.n,.slice la t.links.length lc0] t:=I5.mono hTr3 (fun b hb ho=>⟨ho,hB3q.block b (by have:=ho.2;have:=HTB.out;omega)⟩)
  have HPL:=Lib.hid (B53 t _ _ wq hTq m mz mzc _ hO.E)
  have hP1q:=hP16.below hB3q hP16.lt
  have hP2q:=hP2.below hB3q hP2.lt
  have hps1q:=hps16.below hB3q
  have hps2q:=hps29.below hB3q
  rw [HP1.out] at hP1q hps1q
  rw [HP2.out] at hP2q hps2q
  obtain ⟨t1,t2,_⟩:=hSq
  have htlo:tb<wq.heap.size:=by have:=hB3q.size;omega
  clear hTq hO hTr3 hS3 hlow HG hlt hj hjX HMM HM0 HRR HRL HMX hRA0 hB17 hb hB3q hB312 hB0 hS12 HTK HLT hP16 hP2 hps16 hps29 HD4 HC3 HC2 HNN HL3 HTB hB3
  generalize D9 t m=RR at *
  obtain ⟨n,es,fe,ff⟩:=RR
  dsimp only at *
  obtain ⟨rfl,rfl⟩:fe=0∧ff=0:=by have:=HF.out.1;simpa using this
  go_wp2_with fail
  refine HPL.out.mono ?_
  rintro e w5 ⟨cs,ea,ec,rfl,hn5,he5,hb5⟩
  have hB5:=hBo.trans (hb5.mono hBo.size)
  obtain ⟨n0,n1,n2,y0,y1,y2,wa,wc,sa,sc,oa,oc,ba,bc,pa,pc,pl,lc,rfl,hst,hnu,hnow,hnext,hwt,hks,hko,hkb,hkp,hkl⟩:=A0g.open8 hn5
  obtain ⟨lp0,lp1,lp2⟩:=B7.st (P:=Try.prog) hnow
  obtain ⟨lq0,lq1,lq2⟩:=B7.st (P:=Try.prog) hnext
  have hbx:Below w5.heap.size w5 ((w5.alloc (.cells #[.int .i64 n.ctl.stage,n0,n1,n2,y0,y1,y2,.int .i64 n.ctl.num,.slice wa n.ctl.waits.length wc,.slice sa n.switches.length sc,.slice oa n.orders.length oc,.slice ba n.backs.length bc,.slice pa n.packets.length pc,.slice pl n.plans.length lc] 51)).alloc (.cells #[.int .i64 0,.int .i64 0] 35)):=A1t _ _ _
  have hW:A6 ((w5.alloc (.cells #[.int .i64 n.ctl.stage,n0,n1,n2,y0,y1,y2,.int .i64 n.ctl.num,.slice wa n.ctl.waits.length wc,.slice sa n.switches.length sc,.slice oa n.orders.length oc,.slice ba n.backs.length bc,.slice pa n.packets.length pc,.slice pl n.plans.length lc] 51)).alloc (.cells #[.int .i64 0,.int .i64 0] 35)) w5.heap.size 51 #[.int .i64 n.ctl.stage,n0,n1,n2,y0,y1,y2,.int .i64 n.ctl.num,.slice wa n.ctl.waits.length wc,.slice sa n.switches.length sc,.slice oa n.orders.length oc,.slice ba n.backs.length bc,.slice pa n.packets.length pc,.slice pl n.plans.length lc]:=(A6.new rfl).alloc _
  have hG:A6 ((w5.alloc (.cells #[.int .i64 n.ctl.stage,n0,n1,n2,y0,y1,y2,.int .i64 n.ctl.num,.slice wa n.ctl.waits.length wc,.slice sa n.switches.length sc,.slice oa n.orders.length oc,.slice ba n.backs.length bc,.slice pa n.packets.length pc,.slice pl n.plans.length lc] 51)).alloc (.cells #[.int .i64 0,.int .i64 0] 35)) (w5.heap.size+1) 35 #[.int .i64 0,.int .i64 0]:=A6.new (by simp)
  have hB6:=hB5.trans (hbx.mono hB5.size)
  have hkp6:=hkp.below hbx
  have hP16:=(hP1q.under hb5).under hbx
  have hP26:=(hP2q.under hb5).under hbx
  have hps16:=(hps1q.below hb5).below hbx
  have hps26:=(hps2q.below hb5).below hbx
  have k1:((n.packets.length:Int) !=1)=false:=by rw [HF.out.2.1];rfl
  clear hn5 he5 hb5 hnow hnext hwt hks hko hkb hkp hkl hbx hB5 HPL t1 t2 hP1q hP2q hps1q hps2q hBo
  go_upto_region 25 with fail
  generalize ((w5.alloc (.cells #[.int .i64 n.ctl.stage,n0,n1,n2,y0,y1,y2,.int .i64 n.ctl.num,.slice wa n.ctl.waits.length wc,.slice sa n.switches.length sc,.slice oa n.orders.length oc,.slice ba n.backs.length bc,.slice pa n.packets.length pc,.slice pl n.plans.length lc] 51)).alloc (.cells #[.int .i64 0,.int .i64 0] 35))=w6 at *
  generalize w5.heap.size=xb at *
  clear lq0 lq1 lq2 lp0 lp1 lp2
  obtain ⟨x1,x2⟩:=hW.cells
  obtain ⟨f1,f2⟩:=hG.cells
  have hwl:=hW.lt
  have hgl:=hG.lt
  obtain ⟨p,hp,hpt⟩:=HF.out.2.2
  have HPT:=Lib.hid hpt
  obtain ⟨pg,po,ta,tc,rfl,hpg,hI1,hI2,htr,hce⟩:=A51 hkp6 hp
  obtain ⟨e0,e1,e2,e3⟩:=hce w6 (Below.refl _ _)
  obtain ⟨ug,uo,rfl,_,_,cs,⟨ra1,rc1,rfl,hr1⟩,hue⟩:=hps16.get (i:=0) rfl
  have u0:=hue 0 _ rfl
  simp only [show (F7 C2).size=1 from rfl,Nat.zero_mul,Nat.add_zero] at u0
  obtain ⟨vg,vo,rfl,_,_,cs,⟨ra2,rc2,rfl,hr2⟩,hve⟩:=hps26.get (i:=0) rfl
  have v0:=hve 0 _ rfl
  simp only [show (F7 C2).size=1 from rfl,Nat.zero_mul,Nat.add_zero] at v0
  have HI1:=Lib.hid (B1y _ _ _ _ _ _ _ _ w6 htr hr1)
  have HI2:=Lib.hid (fun w' (hb:Below w6.heap.size w6 w')=>B1y _ _ _ _ _ _ _ _ w' (htr.below hb) (hr2.below hb))
  simp only [Nat.zero_mul,Nat.add_zero,Nat.zero_add] at e0 e1 e2 e3
  have hp1:(0:Int)<(n.packets.length:Int):=by have:=HF.out.2.1;omega
  clear hue hve hce hp hkp6 hps16 hps26 htr hr1 hr2 hpt HF
  go_upto_region 28 with fail
  obtain ⟨y1,y2⟩:=hP16.cells
  have hyl:=hP16.lt
  clear x1 x2 f1 f2 e0 e1 e2 e3 k1 hp1
  go_wp2_with fail
  refine HI1.out.mono ?_
  rintro e w9 ⟨rfl,hb9⟩
  have hB9:=hB6.trans (hb9.mono hB6.size)
  by_cases hq:p.trace=(I1 t ⟨a,b,[],[]⟩).1
  ·have q1:(p.trace==(I1 t ⟨a,b,[],[]⟩).1)=true:=by rw [beq_iff_eq];exact hq
   rw [q1]
   clear hq q1 HI1 HI2
   go_wp2
   go_ret;exact ⟨rfl,hB9⟩
  ·have q1:(p.trace==(I1 t ⟨a,b,[],[]⟩).1)=false:=by rw [beq_eq_false_iff_ne];exact hq
   have q2:(p.trace==(I1 t ⟨a,b,[v],[]⟩).1)=true:=by rw [beq_iff_eq];exact HPT.out.resolve_left hq
   have hP29:=hP26.under hb9
   obtain ⟨z1,z2⟩:=hP29.cells
   have hzl:=hP29.lt
   have v9:=cell_later hb9 v0
   have HI9:=Lib.hid (HI2.out w9 hb9)
   rw [q1]
   rw [q2] at HI9
   clear hq q1 q2 HI1 HI2 y1 y2 hyl hP16 hP26
   go_wp2_with fail
   refine HI9.out.mono ?_
   rintro e w10 ⟨rfl,hb10⟩
   have hB10:=hB9.trans (hb10.mono hB9.size)
   clear z1 z2
   go_wp2
   go_ret;exact ⟨rfl,hB10⟩
end Go.Proofs.Ytampcbncgofkoaa
