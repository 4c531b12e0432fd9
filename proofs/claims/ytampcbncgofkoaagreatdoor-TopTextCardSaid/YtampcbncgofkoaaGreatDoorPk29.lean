/- Texts of this proof, one behind the other. -/
import Derived.Test.YtampcbncgofkoaaGreatDoorPk28
set_option linter.unusedSimpArgs false
set_option linter.unusedVariables false
set_option maxRecDepth 100000
set_option maxHeartbeats 16000000
namespace Go.St
open Go.RowKit
def SW (cb:Nat) (wa:Option Addr) (n wc:Nat) (k:Int) (w:World):Prop:=w.cell? ⟨cb,8,none⟩=some (.slice wa n wc)∧w.cell? ⟨cb,7,none⟩=some (.int .i64 k)
theorem SW.of {w:World} {b:Nat} {t:TypeId} {a0 a1 a2 a3 a4 a5 a6:Value} {wa:Option Addr} {n wc:Nat} {k:Int} (h:A6 w b t #[a0,a1,a2,a3,a4,a5,a6,.int .i64 k,.slice wa n wc]):SW b wa n wc k w:=⟨h.cells.1 8,h.cells.1 7⟩
structure A1u (c:Ctl) (l:List To) (i:Nat) (m:List To) (num:Int) (ws:List Int):Prop where
 at_:E6 c (l.take i)=(⟨c.stage,c.now,c.next,num,ws⟩,m.take i)
 rest:m.drop i=l.drop i
theorem A1u.start (c:Ctl) (l:List To):A1u c l 0 l c.num c.waits:=⟨rfl,rfl⟩
theorem A1u.len {c:Ctl} {l m:List To} {i:Nat} {num:Int} {ws:List Int} (h:A1u c l i m num ws) (hi:i≤l.length):m.length=l.length∧ws.length=c.waits.length+i:=by
 have h1:=T0 c (l.take i)
 rw [h.at_] at h1
 have h2:=congrArg List.length h.rest
 simp only [List.length_take,List.length_drop] at h1 h2
 omega
theorem A1u.step {c:Ctl} {l m:List To} {i:Nat} {num:Int} {ws:List Int} (h:A1u c l i m num ws) {x:To} (hx:m[i]? =some x):A1u c l (i+1) (m.set i (A42 x (up num))) (up num) (ws++[up num]):=by
 obtain ⟨hi,hx'⟩:=List.getElem?_eq_some_iff.1 hx
 have hl:l[i]? =some x:=by
  have:(m.drop i)[0]? =(l.drop i)[0]? :=by rw [h.rest]
  rw [List.getElem?_drop,List.getElem?_drop] at this
  rw [←hx];exact this.symm
 constructor
 ·rw [B0q hl,h.at_,List.take_add_one]
  simp only [tell,A42,List.getElem?_set,hi,if_true,Option.toList_some,List.take_set_of_le (Nat.le_refl i)]
 ·rw [List.drop_set_of_lt (Nat.lt_succ_self i)]
  have:=congrArg (List.drop 1) h.rest
  rwa [List.drop_drop,List.drop_drop] at this
theorem A1u.done {c:Ctl} {l m:List To} {i:Nat} {num:Int} {ws:List Int} (h:A1u c l i m num ws) (hi:l.length≤i):E6 c l=(⟨c.stage,c.now,c.next,num,ws⟩,m):=by
 have h1:=h.at_
 have hm:m.length≤i:=by
  have:=congrArg List.length h.rest
  simp only [List.length_drop] at this;omega
 rwa [List.take_of_length_le hi,List.take_of_length_le hm] at h1
end Go.St
namespace Go.Proofs.YtampcbncgofkoaaGreatDoor
open Go.RowKit Go.St
theorem A9m (c:Ctl) (l:List To) (W V:Nat→Prop) (B cb:Nat) (n0 n1 n2 x0 x1 x2:Value) (wa:Option Addr) (wc:Nat) (la:Option Addr) (lc:Nat) (w:World)
  (hC:A6 w cb 43 #[.int .i64 c.stage,n0,n1,n2,x0,x1,x2,.int .i64 c.num,.slice wa c.waits.length wc])
  (hW:C7 C2 3 W B w wa c.waits.length wc c.waits) (hL:C7 toS 135 V B w la l.length lc l) (hVW:∀ b,V b→W b) (hLW:∀ k,blk la=some k→¬W k) (hcb:B≤cb) (hcW:¬W cb) (hB:B≤w.heap.size) (hl:l.length≤1000) (hwl:c.waits.length≤10000000000):
  Calls Tryz.prog 54 #[.pointer (some ⟨cb,0,none⟩),.slice la l.length lc] w fun e w'=>∃ (wa':Option Addr) (wc':Nat),e=.returned (.slice la l.length lc)∧
   A6 w' cb 43 #[.int .i64 c.stage,n0,n1,n2,x0,x1,x2,.int .i64 (E6 c l).1.num,.slice wa' (E6 c l).1.waits.length wc']∧
   C7 C2 3 W B w' wa' (E6 c l).1.waits.length wc' (E6 c l).1.waits∧C7 toS 135 V B w' la l.length lc (E6 c l).2∧Frm W B w w':=by
 obtain ⟨i0,hi,hz0,hz1,hz2⟩:=info_parts P6
 have hst:=Lib.hid (A1u.start c l)
 have HD:Hid (∀ m num ws,A1u c l l.length m num ws→E6 c l=(⟨c.stage,c.now,c.next,num,ws⟩,m)):=fun m num ws h=>h.done (Nat.le_refl _)
 have HLN:Hid (∀ i m num ws,i≤l.length→A1u c l i m num ws→m.length=l.length∧ws.length=c.waits.length+i):=fun i m num ws h1 h2=>h2.len h1
 have HST:Hid (∀ i m num ws x,A1u c l i m num ws→m[i]? =some x→A1u c l (i+1) (m.set i (A42 x (up num))) (up num) (ws++[up num])):=fun i m num ws x h1 h2=>h1.step h2
 generalize E6 c l=R at *
 obtain ⟨R1,R2⟩:=R
 obtain ⟨cst,cnow,cnext,cnum,cws⟩:=c
 dsimp only at *
 generalize hll:l.length=ll at *
 have HLL:=Lib.hid hll
 clear hll
 generalize hcl:cws.length=cl at *
 have HCL:=Lib.hid hcl
 clear hcl
 go_enter Tryz.func54,Tryz.ntmps54
 go_wp2
 go_loopw [5,8] (fun _ idx wr=>∃ (i:Nat) (m:List To) (num:Int) (ws:List Int) (va:Option Addr) (vc vn:Nat),idx=.int .i64 i∧i≤ll∧Hid (A1u ⟨cst,cnow,cnext,cnum,cws⟩ l i m num ws)∧Hid (vn=ws.length)∧vn≤cl+i∧A6 wr cb 43 #[.int .i64 cst,n0,n1,n2,x0,x1,x2,.int .i64 num,.slice va vn vc]∧C7 C2 3 W B wr va vn vc ws∧C7 toS 135 V B wr la ll lc m∧Frm W B w wr) (fun _ idx _=>ll - (intOf idx).toNat)
 case atStart=>exact ⟨0,l,cnum,cws,wa,wc,cl,rfl,Nat.zero_le _,hst,Lib.hid HCL.out.symm,Nat.le_refl _,hC,hW,hL,Frm.refl _ _ _⟩
 case round=>
  clear hst hC hW hL
  obtain ⟨i,m,num,ws,va,vc,vn,rfl,hi1,hS,hvn,hvn2,hC,hW,hL,hF⟩:=hrel
  rename World=>wo
  obtain ⟨c1,c2⟩:=hC.cells
  have hcl:=hC.lt
  have hBo:B≤wo.heap.size:=Nat.le_trans hB hF.size
  by_cases hlt:i<ll
  case neg=>
   obtain rfl:i=ll:=by omega
   have HR:=Lib.hid (HD.out m num ws hS.out)
   have b1:¬(i:Int)<(i:Int):=by omega
   clear hS hlt
   go_wp2
   go_ret;refine ⟨rfl,va,vc,?_⟩
   have h9:=HR.out
   injection h9 with h9 h10
   subst h9 h10
   have h11:=hvn.out
   dsimp only
   subst h11
   exact ⟨hC,hW,hL,hF⟩
  obtain ⟨hml,hwl2⟩:=HLN.out i m num ws (by omega) hS.out
  obtain ⟨x,hx⟩:∃ x,m[i]? =some x:=⟨_,List.getElem?_eq_getElem (by omega)⟩
  have HST1:=Lib.hid (HST.out i m num ws x hS.out hx)
  obtain ⟨g,ds,rfl,hgB,hgl,_,hdr,hdc,hdf,cur,hdh⟩:=hL.at hx
  have hgW:¬W g:=hLW g rfl
  have hcV:¬V cb:=fun h=>hcW (hVW _ h)
  have hcg:cb≠g:=by
   rintro rfl
   have e:=hC.symm.trans hdh
   simp at e
  have hvg:blk va≠some g:=hW.noType hdh (by decide)
  have hvc:blk va≠some cb:=hW.noType hC (by decide)
  have hC1:=(hC.set 7 (.int .i64 (up num))).setOther (a:=⟨g,i * 6+1+1,none⟩) hcg (.int .i64 (up num))
  have hW1:=(hW.setAt (a:=⟨cb,7,none⟩) hvc hcW (.int .i64 (up num))).setAt (a:=⟨g,i * 6+1+1,none⟩) hvg hgW (.int .i64 (up num))
  have hL0:=hL.setAt (a:=⟨cb,7,none⟩) (by simp [blk];exact fun e=>hcg e.symm) hcV (.int .i64 (up num))
  have hL1:C7 toS 135 V B ((wo.setCell ⟨cb,7,none⟩ (.int .i64 (up num))).setCell ⟨g,i * 6+1+1,none⟩ (.int .i64 (up num))) (some ⟨g,0,none⟩) ll lc (m.set i (A42 x (up num))):=hL0.put1 (o:=2) (y:=A42 x (up num)) hx (by decide) (.int .i64 (up num)) (fun cs hc=>toS.num hc (A6j num))
  have hF1:=(hF.trans (Frm.set (a:=⟨cb,7,none⟩) hcW hcb (.int .i64 (up num)))).trans (Frm.set (a:=⟨g,i * 6+1+1,none⟩) hgW hgB (.int .i64 (up num)))
  simp only [St.tS,St.tC,St.tZ] at hC1
  have hd2:wo.cell? ⟨g,i * 6+1+1,none⟩=some (.int .i64 x.order.num):=by
   obtain ⟨es,rfl,_,oa,oc,fa,fc,rfl,_⟩:=hdr
   exact hdc 2 _ rfl
  have k0:(0:Int)≤(i:Int):=by omega
  have k1:(i:Int)<(ll:Int):=by omega
  have hup:IntKind.i64.wrap (num+1)=up num:=rfl
  have hui:=A6j num
  clear hS hx hdr hdc HLN hdh hml hwl2 hL0
  go_wp2
  clear c1 c2 hd2 hdf hC hW hL hF
  generalize (wo.setCell ⟨cb,7,none⟩ (.int .i64 (up num))).setCell ⟨g,i * 6+1+1,none⟩ (.int .i64 (up num))=w5 at *
  have hB5:B≤w5.heap.size:=Nat.le_trans hB hF1.size
  have hS0:SW cb va vn vc (up num) w5.drew:=SW.of hC1
  refine B9 (SW cb va vn vc (up num)) 13 (fun a0 a' w'=>∃ v27 v28 v29 v30 v31 v32 v33 v34 v35 v36 v37 v38 v39,a'=C8 a0 [(27,v27),(28,v28),(29,v29),(30,v30),(31,v31),(32,v32),(33,v33),(34,v34),(35,v35),(36,v36),(37,v37),(38,v38),(39,v39)]∧∃ va' vc',A6 w' cb 43 #[.int .i64 cst,n0,n1,n2,x0,x1,x2,.int .i64 (up num),.slice va' (vn+1) vc']∧C7 C2 3 W B w' va' (vn+1) vc' (ws++[up num])∧C7 toS 135 V B w' (some ⟨g,0,none⟩) ll lc (m.set i (A42 x (up num)))∧Frm W B w w') (by kernel_rfl) ?_ ?_
  ·intro Q' hR hQp
   have hb0:Below w5.heap.size w5 w5.drew:=N4 _
   have hS:SW cb va vn vc (up num) w5.drew:=hS0
   generalize w5.drew=wa at *
   have hCa:=hC1.under hb0
   have hWa:=hW1.below hb0
   have hLa:=hL1.below hb0
   have hFa:=hF1.trans (Frm.of hb0 hB5)
   have hBa:B≤wa.heap.size:=Nat.le_trans hB hFa.size
   obtain ⟨c1,c2⟩:=hCa.cells
   have hcl2:=hCa.lt
   refine A9 hQp hS [0,1,5,2,6,3,7,4,8] ?_
   iterate 9 (refine B2 _ rfl (by kernel_rfl) (A0 (by kernel_rfl) (by intro w0 hw0;have hw1:=hw0;simp only [SW] at hw1;first|(go_simp;done)|(go_simp;rfl))) ?_;simp only [Act.put,St.tA,St.tD,St.tE,St.tS,St.tC,St.tZ])
   refine B3 ?_
   clear hS
   refine A7 (i:=9) rfl (by kernel_rfl) (by kernel_rfl) fun K9 hK9=>?_
   go_simp
   go_wp2_with fail
   have hab:=G8 wa (.cells #[.int .i64 (up num)] 3)
   have hN:=I6 wa 3 #[.int .i64 (up num)]
   have hCb:=hCa.under hab
   have hWb:=hWa.below hab
   have hLb:=hLa.below hab
   have hFb:=hFa.trans (Frm.of hab hBa)
   have hBb:B≤(wa.alloc (.cells #[.int .i64 (up num)] 3)).heap.size:=Nat.le_trans hB hFb.size
   have hsrc:D7 C2 W (wa.alloc (.cells #[.int .i64 (up num)] 3)) (some ⟨wa.heap.size,0,none⟩) [up num]:=B3w hN hui
   have hS:_:=SW.of hCb
   refine hK9 _ _ (fun _=>hS) ?_
   clear hK9
   clear hS
   generalize wa.alloc (.cells #[.int .i64 (up num)] 3)=wb at *
   refine A7 (i:=10) rfl (by kernel_rfl) (by kernel_rfl) fun K10 hK10=>?_
   refine Q3 (sh:=C2) (n:=vn) (m:=1) (.tmp 31) (.tmp 36) 41 (by rfl) 3 i0 (.int .i64 0) 8 Tryz.underlying41 hi hz0 hz1 hz2 rfl (by decide) (ok:=W) (base:=B) (by rfl) hWb (by rfl) rfl hsrc (by simp only [maxLen];omega) (by omega) hBb ?_
   intro va' vc' wc' hWc hgc hliec
   have hvc2:some cb≠blk va:=fun e=>hvc e.symm
   have hCc:=hCb.grown hgc hvc2
   have hLc:=hLb.oldGrown hgc (fun k hk=>⟨fun e=>by
    have e2:k=g:=by simpa [blk] using e.symm
    subst e2
    exact hvg hk,fun h=>hWb.not k hk (hVW _ h)⟩)
   have hFc:=hFb.trans (Frm.grown hgc (fun k hk=>⟨hWb.not k hk,(hWb.lt k hk).1⟩) hBb)
   simp only [Act.put,St.tA,St.tD,St.tE,St.tS,St.tC,St.tZ]
   have hS:_:=SW.of hCc
   refine hK10 _ _ (fun _=>hS) ?_
   clear hK10
   clear c1 c2
   obtain ⟨c1,c2⟩:=hCc.cells
   have hcl3:=hCc.lt
   clear hS
   refine A7 (i:=11) rfl (by kernel_rfl) (by kernel_rfl) fun K11 hK11=>?_
   go_simp
   go_wp2_with fail
   have hS:_:=SW.of hCc
   refine hK11 _ _ (fun _=>hS) ?_
   clear hK11
   refine A9 hQp hS [12] ?_
   iterate 1 (refine B2 _ rfl (by kernel_rfl) (A0 (by kernel_rfl) (by intro w0 hw0;have hw1:=hw0;simp only [SW] at hw1;first|(go_simp;done)|(go_simp;rfl))) ?_;simp only [Act.put,St.tA,St.tD,St.tE,St.tS,St.tC,St.tZ])
   refine B3 ?_
   have hvc3:blk va'≠some cb:=hWc.noType hCc (by decide)
   clear hS
   refine A7 (i:=13) rfl (by kernel_rfl) (by kernel_rfl) fun K13 hK13=>?_
   go_simp
   go_wp2_with fail
   refine hK13 _ _ (fun h=>absurd rfl h) ?_
   clear hK13
   have hCd:=hCc.set 8 (.slice va' (vn+1) vc')
   simp only [St.tS,St.tC,St.tZ] at hCd
   refine B5 (by kernel_rfl) ?_ _
   refine hR _ _ ?_
   iterate 13 apply Exists.intro
   refine ⟨?_,⟨va',vc',hCd,hWc.setAt (a:=⟨cb,8,none⟩) hvc3 hcW _,hLc.setAt (a:=⟨cb,8,none⟩) (by simp [blk];exact fun e=>hcg e.symm) hcV _,hFc.trans (Frm.set (a:=⟨cb,8,none⟩) hcW hcb _)⟩⟩
   simp only [C8,Act.put,St.tS,St.tC,St.tZ]
   rfl
  rintro a' w8 ⟨v27,v28,v29,v30,v31,v32,v33,v34,v35,v36,v37,v38,v39,rfl,hb8⟩
  simp only [C8,Act.put,St.tS,St.tC,St.tZ]
  clear hC1 hW1 hL1 hF1
  obtain ⟨va',vc',hC9,hW9,hL9,hF9⟩:=hb8
  have HVN:Hid (vn+1=(ws++[up num]).length):=by show _=_;rw [hvn.out];simp
  go_wp2
  case roundEnd=>
   go_roundw
   case rel=>exact ⟨i+1,_,_,_,va',vc',vn+1,by go_num,by omega,HST1,HVN,by omega,hC9,hW9,hL9,hF9⟩
   case measure=>simp [intOf]<;>omega
end Go.Proofs.YtampcbncgofkoaaGreatDoor
namespace Go.St
open Go.RowKit
theorem A96 {s:Int} {l:List E0} {j:Nat} (h:∀ y∈l.take j,(y.src==s)=false) (hj:l.length≤j):X5 s l=false:=by
 rw [List.take_of_length_le hj] at h
 simp only [X5,List.any_eq_false]
 exact fun x hx=>by rw [h x hx];simp
theorem A91 {s:Int} {l:List E0} {j:Nat} {f:E0} (hf:l[j]? =some f) (h:(f.src==s)=true):X5 s l=true:=by
 simp only [X5,List.any_eq_true]
 exact ⟨f,List.mem_of_getElem? hf,h⟩
theorem B0s {s:Int} {l:List E0} {j:Nat} {f:E0} (h:∀ y∈l.take j,(y.src==s)=false) (hf:l[j]? =some f) (h1:(f.src==s)=false):∀ y∈l.take (j+1),(y.src==s)=false:=by
 rw [List.take_add_one,hf]
 intro y hy
 rcases List.mem_append.1 hy with hy|hy
 ·exact h y hy
 ·obtain rfl:y=f:=by simpa using hy
  exact h1
theorem A0r {ok:Nat→Prop} {w:World} {ao:Option Addr} {cap:Nat} {l:List E0} (h:A8 H6 ok w ao cap l) {j:Nat} {f:E0} (hf:l[j]? =some f):
  ∃ g off va vc na nc,ao=some ⟨g,off,none⟩∧g<w.heap.size∧I64 f.src∧I64 f.dst∧A8 C2 ok w va vc f.via∧A8 C2 ok w na nc f.no∧∀ w',Below w.heap.size w w'→
   w'.cell? ⟨g,off+j * 4,none⟩=some (.int .i64 f.src)∧w'.cell? ⟨g,off+j * 4+1,none⟩=some (.int .i64 f.dst)∧w'.cell? ⟨g,off+j * 4+2,none⟩=some (.slice va f.via.length vc)∧w'.cell? ⟨g,off+j * 4+3,none⟩=some (.slice na f.no.length nc):=by
 obtain ⟨g,off,rfl,_,hbl,cs,hcs,hce⟩:=h.get hf
 obtain ⟨va,vc,na,nc,rfl,hsi,hdi,hvi,hni⟩:=hcs
 refine ⟨g,off,va,vc,na,nc,rfl,hbl,hsi,hdi,hvi,hni,fun w' hb=>⟨?_,?_,?_,?_⟩⟩
 ·have:=B8 hb hbl (hce 0 _ rfl);simpa only [H6,Nat.add_zero] using this
 ·exact B8 hb hbl (hce 1 _ rfl)
 ·exact B8 hb hbl (hce 2 _ rfl)
 ·exact B8 hb hbl (hce 3 _ rfl)
end Go.St
namespace Go.Proofs.YtampcbncgofkoaaGreatDoor
open Go.RowKit Go.St
theorem B3m (f:E0) (s:Int) (va na:Option Addr) (vl vc nl nc:Nat) (p:Nat) (w:World) (hp:w.cell? ⟨p,0,none⟩=some (.int .i64 s)) (hpl:p<w.heap.size):
  Calls Tryz.prog 86 #[.agg #[.int .i64 f.src,.int .i64 f.dst,.slice va vl vc,.slice na nl nc],.pointer (some ⟨p,0,none⟩)] w fun e w'=>e=.returned (.bool (f.src==s))∧Below w.heap.size w w':=by
 go_enter Tryz.func86,Tryz.ntmps86
 go_wp2
 go_ret;exact ⟨rfl,by (repeat' (first|with_reducible (first|exact Below.refl _ _|assumption|refine Below.drew ?_|refine A3 ?_ _|refine Below.alloc ?_ ?_ _|refine Below.setCell ?_ ?_ _)|omega|(simp;done)|(simp;omega)))⟩
theorem A88 (l:List E0) (s:Int) (p:Nat) (ok:Nat→Prop) (ax:Option Addr) (cx:Nat) (w:World) (hx:A8 H6 ok w ax cx l) (hp:w.cell? ⟨p,0,none⟩=some (.int .i64 s)) (hpl:p<w.heap.size):
  Calls Tryz.prog 98 #[.slice ax l.length cx,.func (.func 86) #[] #[.pointer (some ⟨p,0,none⟩)]] w fun e w'=>
   ∃ k:Int,e=.returned (.int .i64 k)∧X5 s l=decide (k≥0)∧Below w.heap.size w w':=by
 have hlx:=hx.len_le
 have hst:Hid (∀ y∈l.take 0,(y.src==s)=false):=fun y hy=>by simp at hy
 go_enter Tryz.func98,Tryz.ntmps98
 go_wp2
 go_loopw [5,8] (fun _ i wr=>∃ j:Nat,j≤l.length∧i=.int .i64 j∧Hid (∀ y∈l.take j,(y.src==s)=false)∧Below w.heap.size w wr) (fun _ i _=>l.length - (intOf i).toNat)
 case atStart=>exact ⟨0,Nat.zero_le _,rfl,hst,Below.refl _ _⟩
 case round=>
  clear hst
  obtain ⟨j,hj,rfl,hS,hb⟩:=hrel
  rename World=>wo
  have hzz:=hb.size
  by_cases hlt:j<l.length
  case neg=>
   have HE:=Lib.hid (A96 hS.out (by omega))
   clear hS
   go_wp2
   go_ret;exact ⟨-1,rfl,by rw [HE.out];rfl,hb⟩
  obtain ⟨f,hf⟩:∃ f,l[j]? =some f:=⟨_,List.getElem?_eq_getElem hlt⟩
  obtain ⟨b,off,va,vc,na,nc,rfl,hbl,_,_,_,_,hce⟩:=A0r hx hf
  obtain ⟨e0,e1,e2,e3⟩:=hce _ hb
  have b0:(0:Int)≤(j:Int):=by omega
  have b1:(j:Int)<(l.length:Int):=by omega
  have hC:=B3m f s va na f.via.length vc f.no.length nc p wo (B8 hb hpl hp) (by omega)
  have HN:Hid ((f.src==s)=false→∀ y∈l.take (j+1),(y.src==s)=false):=fun h=>B0s hS.out hf h
  have HY:Hid ((f.src==s)=true→X5 s l=true):=fun h=>A91 hf h
  clear hce hf
  cases hrv:(f.src==s)
  ·rw [hrv] at hC
   have HC:=Lib.hid hC
   have HM:=Lib.hid (HN.out hrv)
   clear hC HN HY hS hrv
   go_wp2_with fail
   refine HC.out.mono ?_
   rintro e w1 ⟨rfl,hb1⟩
   have hb2:Below w.heap.size w w1:=hb.trans (hb1.mono hzz)
   go_wp2
   case roundEnd=>
    go_roundw
    case rel=>exact ⟨j+1,by omega,by go_num,HM,hb2⟩
    case measure=>simp [intOf]<;>omega
  ·rw [hrv] at hC
   have HC:=Lib.hid hC
   have HM:=Lib.hid (HY.out hrv)
   clear hC HN HY hS hrv
   go_wp2_with fail
   refine HC.out.mono ?_
   rintro e w1 ⟨rfl,hb1⟩
   have hb2:Below w.heap.size w w1:=hb.trans (hb1.mono hzz)
   go_wp2
   go_ret;exact ⟨j,rfl,by rw [HM.out];symm;rw [decide_eq_true_iff];omega,hb2⟩
theorem A47 (l:List E0) (s:Int) (p:Nat) (ok:Nat→Prop) (ax:Option Addr) (cx:Nat) (w:World) (hx:A8 H6 ok w ax cx l) (hp:w.cell? ⟨p,0,none⟩=some (.int .i64 s)) (hpl:p<w.heap.size):
  Calls Tryz.prog 85 #[.slice ax l.length cx,.func (.func 86) #[] #[.pointer (some ⟨p,0,none⟩)]] w fun e w'=>
   e=.returned (.bool (X5 s l))∧Below w.heap.size w w':=by
 go_enter Tryz.func85,Tryz.ntmps85
 go_wp2_with fail
 refine (A88 l s p ok ax cx w hx hp hpl).mono ?_
 rintro e w1 ⟨k,rfl,hk,hb⟩
 have HK:=Lib.hid hk
 clear hk
 go_wp2
 go_ret;exact ⟨C13 (by rw [HK.out]),hb⟩
end Go.Proofs.YtampcbncgofkoaaGreatDoor
namespace Go.St
open Go.RowKit
theorem B0l {s:Int} {l:List E0} {j:Nat} {f:E0} (h:l[j]? =some f):F8 s (j:Int) (l.drop j)=(if f.src=s then [(j:Int)] else [])++F8 s ((j+1:Nat):Int) (l.drop (j+1)):=by
 obtain ⟨h1,rfl⟩:=List.getElem?_eq_some_iff.1 h
 rw [List.drop_eq_getElem_cons h1,F8];rfl
theorem B2o {s:Int} {l:List E0} {j:Nat} (h:l.length≤j):F8 s (j:Int) (l.drop j)=[]:=by
 rw [List.drop_of_length_le h];rfl
theorem A72 {w:World} {b:Nat} {e:TypeId} {x:To} {ra fa:Option Addr} {rc fc:Nat} {ok:Nat→Prop} (h:A6 w b e #[.int .i64 x.sw,.int .i64 x.order.kind,.int .i64 x.order.num,.int .i64 x.order.ver,.slice ra x.order.rules.length rc,.slice fa x.order.flows.length fc])
    (h1:I64 x.sw) (h2:I64 x.order.kind) (h3:I64 x.order.num) (h4:I64 x.order.ver) (hr:A8 G6 ok w ra rc x.order.rules) (hf:A8 C2 ok w fa fc x.order.flows):D7 toS ok w (some ⟨b,0,none⟩) [x]:=by
  refine .inr ⟨b,0,rfl,fun i y hy=>?_⟩
  match i,hy with
  |0,hy=>
    obtain rfl:x=y:=by simpa using hy
    refine ⟨_,⟨_,rfl,h1,ra,rc,fa,fc,rfl,h2,h3,h4,hr,hf⟩,fun j c hc=>?_⟩
    simp only [Nat.zero_mul,Nat.zero_add]
    rw [h.cells.1 j]
    simpa using hc
  |i+1,hy=>simp at hy
def SS (p cb o:Nat) (s:Int) (x:Value) (w:World):Prop:=w.cell? ⟨p,0,none⟩=some (.int .i64 s)∧w.cell? ⟨cb,o,none⟩=some x
theorem SS.of {w:World} {p cb:Nat} {tp tc:TypeId} {s:Int} {a0 a1 a2 a3 a4 a5 a6 a7 a8:Value} (hK:A6 w p tp #[.int .i64 s]) (hC:A6 w cb tc #[a0,a1,a2,a3,a4,a5,a6,a7,a8]):SS p cb 4 s a4 w:=⟨hK.cells.1 0,hC.cells.1 4⟩
theorem oth.inner {α:Type} {sh:D1 α} {lo M:Nat} {w:World} {ao ax:Option Addr} {cap:Nat} {xs:List α} (h:A8 sh (fun b=>M≤b) w ax cap xs) (hB:lo≤M) (hk:∀ k,blk ao=some k→k<M):A8 sh (oth lo w ao) w ax cap xs:=
 h.mono (fun b hb hh=>⟨⟨Nat.le_trans hB hh,hb,fun e=>by have hh':M≤b:=hh;have:=hk b e;omega⟩,rfl⟩)
end Go.St
namespace Go.Proofs.YtampcbncgofkoaaGreatDoor
open Go.RowKit Go.St
theorem A17:(Tryz.prog.info? 135).map (fun i=>(i.zero,i.size,i.bytes))=some (some (.agg #[.int .i64 0,.int .i64 0,.int .i64 0,.int .i64 0,.slice none 0 0,.slice none 0 0]),6,80):=by kernel_rfl
theorem B22 (c:Ctl) (t:C5) (ts:List Value) (ok okt:Nat→Prop) (cb:Nat) (n0 n1 n2 x0 x1 x2:Value) (wa:Option Addr) (wl wc:Nat) (st num:Int) (w:World)
  (hC:A6 w cb 43 #[.int .i64 st,n0,n1,n2,x0,x1,x2,.int .i64 num,.slice wa wl wc]) (hn:B7 w ok n0 n1 n2 c.now) (hx:B7 w ok x0 x1 x2 c.next) (ht:I5.rep okt w ts t) (ht0:0≤t.n) (ht8:t.n≤8) (hsm:N6 c.next):
  Calls Tryz.prog 68 #[.pointer (some ⟨cb,0,none⟩),.agg ts.toArray] w fun e w'=>∃ (oa:Option Addr) (oc:Nat),e=.returned (.slice oa (E1 c t).length oc)∧
   C7 toS 135 (oth (w.heap.size+1) w' oa) (w.heap.size+1) w' oa (E1 c t).length oc (E1 c t)∧Below w.heap.size w w':=by
 obtain ⟨la,lc,rfl,htn,htr⟩:=ht
 obtain ⟨fa,fc,pa,pc,hxe,hxv,hxf,hxp⟩:=hx
 injection hxe with e1 hxe;subst e1
 injection hxe with e1 hxe;subst e1
 injection hxe with e1 hxe;subst e1
 clear hxe
 obtain ⟨ga,gc,qa,qc,hne,hnv,hnf,hnp⟩:=hn
 injection hne with e1 hne;subst e1
 injection hne with e1 hne;subst e1
 injection hne with e1 hne;subst e1
 clear hne
 obtain ⟨n,htN⟩:∃ n:Nat,t.n=(n:Int):=⟨t.n.toNat,by omega⟩
 have hso:E1 c t=M5 (I9 c) n:=by unfold E1;rw [htN];rfl
 have HSO:Hid (∀ os,os=M5 (I9 c) n→E1 c t=os):=fun os h=>by rw [h];exact hso
 generalize E1 c t=R at *
 clear hso
 have hlf:=hsm.fls
 clear hsm
 obtain ⟨tn,tl⟩:=t
 obtain ⟨cst,cnow,cnext,cnum,cws⟩:=c
 obtain ⟨nv,gls,nps⟩:=cnow
 obtain ⟨xv,fls,xps⟩:=cnext
 dsimp only at *
 subst htN
 have HSA:Hid (∀ s:Nat,I9 ⟨cst,⟨nv,gls,nps⟩,⟨xv,fls,xps⟩,cnum,cws⟩ s=if F8 s 0 fls=[]∧X5 s gls=false then [] else [⟨s,⟨2,0,xv,[],F8 s 0 fls⟩⟩]):=fun s=>rfl
 have HOZ:Hid (([]:List To)=M5 (I9 ⟨cst,⟨nv,gls,nps⟩,⟨xv,fls,xps⟩,cnum,cws⟩) 0):=rfl
 have HOS:Hid (∀ (s:Nat) os,os=M5 (I9 ⟨cst,⟨nv,gls,nps⟩,⟨xv,fls,xps⟩,cnum,cws⟩) s→∀ q,I9 ⟨cst,⟨nv,gls,nps⟩,⟨xv,fls,xps⟩,cnum,cws⟩ s=q→os++q=M5 (I9 ⟨cst,⟨nv,gls,nps⟩,⟨xv,fls,xps⟩,cnum,cws⟩) (s+1)):=fun s os h q hq=>by rw [h,←hq,Z3]
 have HOL:Hid (∀ (s:Nat) os,os=M5 (I9 ⟨cst,⟨nv,gls,nps⟩,⟨xv,fls,xps⟩,cnum,cws⟩) s→os.length≤s):=fun s os h=>by rw [h];exact Q2 (U5 _) s
 generalize M5 (I9 ⟨cst,⟨nv,gls,nps⟩,⟨xv,fls,xps⟩,cnum,cws⟩)=OV at *
 generalize I9 ⟨cst,⟨nv,gls,nps⟩,⟨xv,fls,xps⟩,cnum,cws⟩=SA at *
 obtain ⟨i0,hi,hz0,hz1,hz2⟩:=info_parts P6
 obtain ⟨j0,gi,gz0,gz1,gz2⟩:=info_parts A17
 have hcl:=hC.lt
 have hfx:=hxf.len_le
 have hgx:=hnf.len_le
 go_enter Tryz.func68,Tryz.ntmps68
 go_wp2
 have hB0:=G8 w (.cells #[.int .i64 n,.slice la tl.length lc] 24)
 have hs0:w.heap.size+1≤(w.alloc (.cells #[.int .i64 n,.slice la tl.length lc] 24)).heap.size:=by simp
 generalize w.alloc (.cells #[.int .i64 n,.slice la tl.length lc] 24)=w0 at *
 go_loopw [5,6,7,8,9,10,13] (fun out _ _ _ _ _ idx wr=>∃ (s:Nat) (oa:Option Addr) (oc:Nat) (os:List To),out=.slice oa os.length oc∧idx=.int .i64 s∧s≤n∧Hid (os=OV s)∧C7 toS 135 (oth (w.heap.size+1) wr oa) (w.heap.size+1) wr oa os.length oc os∧Below w.heap.size w wr∧w.heap.size+1≤wr.heap.size) (fun _ _ _ _ _ _ idx _=>n - (intOf idx).toNat)
 case atStart=>exact ⟨0,none,0,[],rfl,rfl,Nat.zero_le _,HOZ,oth.nil _ _ _ _ _,hB0,hs0⟩
 case round=>
  clear HOZ hB0 hs0
  obtain ⟨s,oa,oc,os,rfl,rfl,hs,hos,hO,hb,hs1⟩:=hrel
  rename World=>wo
  have hon:=HOL.out s os hos.out
  by_cases hlt:s<n
  case neg=>
   obtain rfl:s=n:=by omega
   have HR:=Lib.hid (HSO.out os hos.out)
   have b1:¬(s:Int)<(s:Int):=by omega
   clear hos hlt
   go_wp2
   obtain rfl:=HR.out
   go_ret;exact ⟨oa,oc,rfl,hO,hb⟩
  have b0:(0:Int)≤(s:Int):=by omega
  have b1:(s:Int)<(n:Int):=by omega
  have hC1:=hC.below hb hcl
  obtain ⟨c1,c2⟩:=hC1.cells
  have hcl1:=hC1.lt
  have hob:=G8 wo (.cells #[.int .i64 s] 3)
  have hK:=I6 wo 3 #[.int .i64 s]
  have hC2:=hC1.under hob
  have hO2:=oth.below hO hob
  have hb2:=hb.trans (hob.mono hb.size)
  have hoz:∀ k,blk oa=some k→k<wo.heap.size:=fun k hk=>(hO.lt k hk).2
  have hpz:wo.heap.size<(wo.alloc (.cells #[.int .i64 s] 3)).heap.size:=by simp
  clear hO c1 c2 hC1 hcl1
  obtain ⟨c1,c2⟩:=hC2.cells
  obtain ⟨k1,k2⟩:=hK.cells
  go_wp2
  generalize wo.alloc (.cells #[.int .i64 s] 3)=w6 at *
  generalize hp:wo.heap.size=p at *
  have hcl2:=hC2.lt
  clear hp hob hb
  have hst:Hid (([]:List Int)++F8 s ((0:Nat):Int) (fls.drop 0)=F8 s 0 fls):=rfl
  go_loopw [7,8,9,22] (fun lv _ _ idx wr=>∃ (j:Nat) (va:Option Addr) (vc:Nat) (ls:List Int),lv=.slice va ls.length vc∧idx=.int .i64 j∧j≤fls.length∧Hid (ls++F8 s (j:Int) (fls.drop j)=F8 s 0 fls)∧ls.length≤j∧C7 C2 3 (fun _=>False) w6.heap.size wr va ls.length vc ls∧Below w6.heap.size w6 wr) (fun _ _ _ idx _=>fls.length - (intOf idx).toNat)
  case atStart=>exact ⟨0,none,0,[],rfl,rfl,Nat.zero_le _,hst,Nat.zero_le _,C7.nil' _ _ _ _,Below.refl _ _⟩
  case round=>
  clear hst
  obtain ⟨j,va,vc,ls,rfl,rfl,hj,hS,hln,hV,hb3⟩:=hrel
  rename World=>wi
  have hwi:=hb3.size
  by_cases hjl:j<fls.length
  case neg=>
   have HI0:Hid (F8 s 0 fls=ls):=by show _=_;have:=hS.out;rw [B2o (by omega),List.append_nil] at this;exact this.symm
   have g1:¬(j:Int)<(fls.length:Int):=by omega
   have hC3:=hC2.under hb3
   have hK3:=hK.under hb3
   have hO3:=oth.below hO2 hb3
   have hb4:=hb2.trans (hb3.mono hb2.size)
   have HSA1:=Lib.hid (HSA.out s)
   have HOS1:=Lib.hid (HOS.out s os hos.out)
   have hCF:=A47 gls s p ok ga gc wi (hnf.below hb4) (hK3.cells.1 0) hK3.lt
   have HCF:=Lib.hid hCF
   clear hS hjl hCF HSA HOS hos c1 c2 k1 k2
   obtain ⟨c1,c2⟩:=hC3.cells
   obtain ⟨k1,k2⟩:=hK3.cells
   have hcl3:=hC3.lt
   have hkl3:=hK3.lt
   go_wp2_with fail
   refine HCF.out.mono ?_
   rintro e w4 ⟨rfl,hb5⟩
   have hC4:=hC3.under hb5
   have hK4:=hK3.under hb5
   have hO4:=oth.below hO3 hb5
   have hV4:=hV.below hb5
   have hb6:=hb4.trans (hb5.mono hb4.size)
   have hw4:=hb5.size
   clear hC3 hK3 hO3 hV hb4 hb5 HCF c1 c2 k1 k2 hC2 hK hO2 hb2 hb3 hcl3 hkl3
   obtain ⟨c1,c2⟩:=hC4.cells
   obtain ⟨k1,k2⟩:=hK4.cells
   have hcl3:=hC4.lt
   have hkl3:=hK4.lt
   by_cases hno:ls=[]∧X5 s gls=false
   case pos=>
    obtain ⟨rfl,h2⟩:=hno
    have HE:=Lib.hid (HOS1.out [] (by rw [HSA1.out,HI0.out];exact if_pos ⟨rfl,h2⟩))
    rw [h2]
    clear h2
    go_wp2
    case roundEnd=>
     go_roundw
     case rel=>exact ⟨s+1,oa,oc,os,rfl,by go_num,by omega,by have:=HE.out;rw [List.append_nil] at this;exact this,hO4,hb6,by omega⟩
     case measure=>simp [intOf]<;>omega
   have HE:=Lib.hid (HOS1.out [⟨s,⟨2,0,xv,[],ls⟩⟩] (by rw [HSA1.out,HI0.out];exact if_neg hno))
   have hsI:I64 (s:Int):=⟨by omega,by omega⟩
   have htail:∀ (Q:Exit→Act→World→Prop),True:=fun _=>trivial
   clear htail HOS1 HSA1 HI0
   by_cases hl0:ls=[]
   case' neg=>
    have hl1:decide ((ls.length:Int)>0)=true:=by rw [decide_eq_true_iff];have:=List.length_pos_iff.2 hl0;omega
    have hl2:(0:Int)<(ls.length:Int):=by have:=List.length_pos_iff.2 hl0;omega
    have hl3:0<ls.length:=List.length_pos_iff.2 hl0
   case' pos=>
    have hbg:X5 s gls=true:=by
     cases hq:X5 s gls
     ·exact absurd ⟨hl0,hq⟩ hno
     ·rfl
    rw [hbg]
    subst hl0
    clear hbg
    have hV4:C7 C2 3 (fun _=>False) w6.heap.size w4 va 0 vc []:=hV4
   ·clear hno
    go_wp2
    have hS0:SS p cb 4 s (.int .i64 xv) w4.drew:=⟨hK4.cells.1 0,hC4.cells.1 4⟩
    refine B9 (SS p cb 4 s (.int .i64 xv)) 99 (fun a0 a' w'=>∃ v5 v49 v50 v51 v52 v53 v54 v55 v56 v57 v58 v59 v60,a'=C8 a0 [(5,v5),(49,v49),(50,v50),(51,v51),(52,v52),(53,v53),(54,v54),(55,v55),(56,v56),(57,v57),(58,v58),(59,v59),(60,v60)]∧∃ oa' oc',v5=.slice oa' (os.length+1) oc'∧C7 toS 135 (oth (w.heap.size+1) w' oa') (w.heap.size+1) w' oa' (os.length+1) oc' (os++[⟨s,⟨2,0,xv,[],[]⟩⟩])∧Below w.heap.size w w'∧w.heap.size+1≤w'.heap.size) (by kernel_rfl) ?_ ?_
    ·intro Q' hR hQp
     have hb0:Below w4.heap.size w4 w4.drew:=N4 _
     have hS:SS p cb 4 s (.int .i64 xv) w4.drew:=hS0
     generalize w4.drew=wa at *
     have hCa:=hC4.under hb0
     have hKa:=hK4.under hb0
     have hOa:=oth.below hO4 hb0
     have hVa:=hV4.below hb0
     have hBa:=hb6.trans (hb0.mono hb6.size)
     have hsa:=hb0.size
     refine A9 hQp hS [0,1,2,7,3,4,5,6,8,9] ?_
     iterate 10 (refine B2 _ rfl (by kernel_rfl) (A0 (by kernel_rfl) (by intro w0 hw0;have hw1:=hw0;simp only [SS] at hw1;first|(go_simp;done)|(go_simp;rfl))) ?_;simp only [Act.put,St.tA,St.tD,St.tE,St.tS,St.tC,St.tZ])
     refine B3 ?_
     clear hS
     refine A7 (i:=10) rfl (by kernel_rfl) (by kernel_rfl) fun K10 hK10=>?_
     go_simp
     go_wp2_with fail
     have hab:=G8 wa (.cells #[.int .i64 s,.int .i64 2,.int .i64 0,.int .i64 xv,.slice none 0 0,.slice va 0 vc] 135)
     have hN:=I6 wa 135 #[.int .i64 s,.int .i64 2,.int .i64 0,.int .i64 xv,.slice none 0 0,.slice va 0 vc]
     have hCb:=hCa.under hab
     have hKb:=hKa.under hab
     have hOb:=oth.below hOa hab
     have hVb:=hVa.below hab
     have hBb:=hBa.trans (hab.mono hBa.size)
     have hbz:w.heap.size+1≤(wa.alloc (.cells #[.int .i64 s,.int .i64 2,.int .i64 0,.int .i64 xv,.slice none 0 0,.slice va 0 vc] 135)).heap.size:=by have:=hab.size;omega
     have hS:_:=SS.of hKb hCb
     refine hK10 _ _ (fun _=>hS) ?_
     clear hK10
     clear hS
     generalize wa.alloc (.cells #[.int .i64 s,.int .i64 2,.int .i64 0,.int .i64 xv,.slice none 0 0,.slice va 0 vc] 135)=wb at *
     have hsrc:D7 toS (oth (w.heap.size+1) wb oa) wb (some ⟨wa.heap.size,0,none⟩) [⟨s,⟨2,0,xv,[],[]⟩⟩]:=A72 hN hsI (show I64 2 from I64.small (by decide) (by decide)) (show I64 0 from I64.small (by decide) (by decide)) hxv (A8.nil _ _ _ _) (oth.inner (hVb.row (fun _ h=>h.elim) (fun k hk=>(hVb.lt k hk).1)) (by omega) (fun k hk=>by have:=hoz k hk;omega))
     refine A7 (i:=11) rfl (by kernel_rfl) (by kernel_rfl) fun K11 hK11=>?_
     refine Q3 (sh:=toS) (n:=os.length) (m:=1) (.tmp 49) (.tmp 59) 103 (by rfl) 135 j0 (.agg #[.int .i64 0,.int .i64 0,.int .i64 0,.int .i64 0,.slice none 0 0,.slice none 0 0]) 80 Tryz.underlying103 gi gz0 gz1 gz2 rfl (by decide) (ok:=oth (w.heap.size+1) wb oa) (base:=w.heap.size+1) (by rfl) hOb (by rfl) rfl hsrc (by simp only [maxLen];omega) (by omega) hbz ?_
     intro oa' oc' wc' hOc hgc hliec
     have hCc:=hCb.grown hgc (fun e=>by have:=(hOb.lt _ e.symm).1;omega)
     have hKc:=hKb.grown hgc (fun e=>by have:=hoz _ e.symm;omega)
     have hBc:Below w.heap.size w wc':=hBb.trans (D6 (B:=w.heap.size) hgc (fun k hk=>by have:=(hOb.lt k hk).1;omega) hBb.size)
     have hOd:=oth.grown hOc hgc.size hliec
     have hcz:w.heap.size+1≤wc'.heap.size:=Nat.le_trans hbz hgc.size
     simp only [Act.put,St.tA,St.tD,St.tE,St.tS,St.tC,St.tZ]
     have hS:_:=SS.of hKc hCc
     refine hK11 _ _ (fun _=>hS) ?_
     clear hK11
     refine A9 hQp hS [12] ?_
     iterate 1 (refine B2 _ rfl (by kernel_rfl) (A0 (by kernel_rfl) (by intro w0 hw0;have hw1:=hw0;simp only [SS] at hw1;first|(go_simp;done)|(go_simp;rfl))) ?_;simp only [Act.put,St.tA,St.tD,St.tE,St.tS,St.tC,St.tZ])
     refine B3 ?_
     refine B5 (by kernel_rfl) ?_ _
     refine hR _ _ ?_
     iterate 13 apply Exists.intro
     refine ⟨?_,⟨oa',oc',rfl,hOd,hBc,hcz⟩⟩
     simp only [C8,Act.put,St.tS,St.tC,St.tZ]
     rfl
    rintro a' w8 ⟨v5,v49,v50,v51,v52,v53,v54,v55,v56,v57,v58,v59,v60,rfl,hb8⟩
    simp only [C8,Act.put,St.tS,St.tC,St.tZ]
    clear hC4 hK4 hO4 hV4 hb6 c1 c2 k1 k2
    obtain ⟨oa',oc',rfl,hO9,hB9,hz9⟩:=hb8
    have hln:(os++[(⟨s,⟨2,0,xv,[],[]⟩⟩:To)]).length=os.length+1:=by simp
    have hr:Value.slice oa' (os.length+1) oc'=.slice oa' (os++[(⟨s,⟨2,0,xv,[],[]⟩⟩:To)]).length oc':=by rw [hln]
    rw [←hln] at hO9
    have HV:=Lib.hid hr
    clear hln hr
    go_wp2
    case roundEnd=>
     go_roundw
     case rel=>exact ⟨s+1,oa',oc',_,HV.out,by go_num,by omega,HE,hO9,hB9,hz9⟩
     case measure=>simp [intOf]<;>omega
   ·clear hno
    go_wp2
    have hS0:SS p cb 4 s (.int .i64 xv) w4.drew:=⟨hK4.cells.1 0,hC4.cells.1 4⟩
    refine B9 (SS p cb 4 s (.int .i64 xv)) 99 (fun a0 a' w'=>∃ v5 v49 v50 v51 v52 v53 v54 v55 v56 v57 v58 v59 v60,a'=C8 a0 [(5,v5),(49,v49),(50,v50),(51,v51),(52,v52),(53,v53),(54,v54),(55,v55),(56,v56),(57,v57),(58,v58),(59,v59),(60,v60)]∧∃ oa' oc',v5=.slice oa' (os.length+1) oc'∧C7 toS 135 (oth (w.heap.size+1) w' oa') (w.heap.size+1) w' oa' (os.length+1) oc' (os++[⟨s,⟨2,0,xv,[],ls⟩⟩])∧Below w.heap.size w w'∧w.heap.size+1≤w'.heap.size) (by kernel_rfl) ?_ ?_
    ·intro Q' hR hQp
     have hb0:Below w4.heap.size w4 w4.drew:=N4 _
     have hS:SS p cb 4 s (.int .i64 xv) w4.drew:=hS0
     generalize w4.drew=wa at *
     have hCa:=hC4.under hb0
     have hKa:=hK4.under hb0
     have hOa:=oth.below hO4 hb0
     have hVa:=hV4.below hb0
     have hBa:=hb6.trans (hb0.mono hb6.size)
     have hsa:=hb0.size
     refine A9 hQp hS [0,1,2,7,3,4,5,6,8,9] ?_
     iterate 10 (refine B2 _ rfl (by kernel_rfl) (A0 (by kernel_rfl) (by intro w0 hw0;have hw1:=hw0;simp only [SS] at hw1;first|(go_simp;done)|(go_simp;rfl))) ?_;simp only [Act.put,St.tA,St.tD,St.tE,St.tS,St.tC,St.tZ])
     refine B3 ?_
     clear hS
     refine A7 (i:=10) rfl (by kernel_rfl) (by kernel_rfl) fun K10 hK10=>?_
     go_simp
     go_wp2_with fail
     have hab:=G8 wa (.cells #[.int .i64 s,.int .i64 2,.int .i64 0,.int .i64 xv,.slice none 0 0,.slice va ls.length vc] 135)
     have hN:=I6 wa 135 #[.int .i64 s,.int .i64 2,.int .i64 0,.int .i64 xv,.slice none 0 0,.slice va ls.length vc]
     have hCb:=hCa.under hab
     have hKb:=hKa.under hab
     have hOb:=oth.below hOa hab
     have hVb:=hVa.below hab
     have hBb:=hBa.trans (hab.mono hBa.size)
     have hbz:w.heap.size+1≤(wa.alloc (.cells #[.int .i64 s,.int .i64 2,.int .i64 0,.int .i64 xv,.slice none 0 0,.slice va ls.length vc] 135)).heap.size:=by have:=hab.size;omega
     have hS:_:=SS.of hKb hCb
     refine hK10 _ _ (fun _=>hS) ?_
     clear hK10
     clear hS
     generalize wa.alloc (.cells #[.int .i64 s,.int .i64 2,.int .i64 0,.int .i64 xv,.slice none 0 0,.slice va ls.length vc] 135)=wb at *
     have hsrc:D7 toS (oth (w.heap.size+1) wb oa) wb (some ⟨wa.heap.size,0,none⟩) [⟨s,⟨2,0,xv,[],ls⟩⟩]:=A72 hN hsI (show I64 2 from I64.small (by decide) (by decide)) (show I64 0 from I64.small (by decide) (by decide)) hxv (A8.nil _ _ _ _) (oth.inner (hVb.row (fun _ h=>h.elim) (fun k hk=>(hVb.lt k hk).1)) (by omega) (fun k hk=>by have:=hoz k hk;omega))
     refine A7 (i:=11) rfl (by kernel_rfl) (by kernel_rfl) fun K11 hK11=>?_
     refine Q3 (sh:=toS) (n:=os.length) (m:=1) (.tmp 49) (.tmp 59) 103 (by rfl) 135 j0 (.agg #[.int .i64 0,.int .i64 0,.int .i64 0,.int .i64 0,.slice none 0 0,.slice none 0 0]) 80 Tryz.underlying103 gi gz0 gz1 gz2 rfl (by decide) (ok:=oth (w.heap.size+1) wb oa) (base:=w.heap.size+1) (by rfl) hOb (by rfl) rfl hsrc (by simp only [maxLen];omega) (by omega) hbz ?_
     intro oa' oc' wc' hOc hgc hliec
     have hCc:=hCb.grown hgc (fun e=>by have:=(hOb.lt _ e.symm).1;omega)
     have hKc:=hKb.grown hgc (fun e=>by have:=hoz _ e.symm;omega)
     have hBc:Below w.heap.size w wc':=hBb.trans (D6 (B:=w.heap.size) hgc (fun k hk=>by have:=(hOb.lt k hk).1;omega) hBb.size)
     have hOd:=oth.grown hOc hgc.size hliec
     have hcz:w.heap.size+1≤wc'.heap.size:=Nat.le_trans hbz hgc.size
     simp only [Act.put,St.tA,St.tD,St.tE,St.tS,St.tC,St.tZ]
     have hS:_:=SS.of hKc hCc
     refine hK11 _ _ (fun _=>hS) ?_
     clear hK11
     refine A9 hQp hS [12] ?_
     iterate 1 (refine B2 _ rfl (by kernel_rfl) (A0 (by kernel_rfl) (by intro w0 hw0;have hw1:=hw0;simp only [SS] at hw1;first|(go_simp;done)|(go_simp;rfl))) ?_;simp only [Act.put,St.tA,St.tD,St.tE,St.tS,St.tC,St.tZ])
     refine B3 ?_
     refine B5 (by kernel_rfl) ?_ _
     refine hR _ _ ?_
     iterate 13 apply Exists.intro
     refine ⟨?_,⟨oa',oc',rfl,hOd,hBc,hcz⟩⟩
     simp only [C8,Act.put,St.tS,St.tC,St.tZ]
     rfl
    rintro a' w8 ⟨v5,v49,v50,v51,v52,v53,v54,v55,v56,v57,v58,v59,v60,rfl,hb8⟩
    simp only [C8,Act.put,St.tS,St.tC,St.tZ]
    clear hC4 hK4 hO4 hV4 hb6 c1 c2 k1 k2
    obtain ⟨oa',oc',rfl,hO9,hB9,hz9⟩:=hb8
    have hln:(os++[(⟨s,⟨2,0,xv,[],ls⟩⟩:To)]).length=os.length+1:=by simp
    have hr:Value.slice oa' (os.length+1) oc'=.slice oa' (os++[(⟨s,⟨2,0,xv,[],ls⟩⟩:To)]).length oc':=by rw [hln]
    rw [←hln] at hO9
    have HV:=Lib.hid hr
    clear hln hr
    go_wp2
    case roundEnd=>
     go_roundw
     case rel=>exact ⟨s+1,oa',oc',_,HV.out,by go_num,by omega,HE,hO9,hB9,hz9⟩
     case measure=>simp [intOf]<;>omega
  have g0:(0:Int)≤(j:Int):=by omega
  have g1:(j:Int)<(fls.length:Int):=by omega
  obtain ⟨f,hf⟩:∃ f,fls[j]? =some f:=⟨_,List.getElem?_eq_getElem hjl⟩
  obtain ⟨g,off,va',vc',na,nc,rfl,hgl,hfs,hfd,_,_,hce⟩:=A0r hxf hf
  obtain ⟨e0,e1,e2,e3⟩:=hce wi (hb2.trans (hb3.mono hb2.size))
  have HID:=Lib.hid (B0l (s:=s) hf)
  have hgl2:g<wi.heap.size:=by have:=hb2.size;omega
  have hK3:=hK.under hb3
  obtain ⟨k3,k4⟩:=hK3.cells
  have hkl3:=hK3.lt
  have hbx:=G8 wi (.cells #[.int .i64 f.src,.int .i64 f.dst,.slice va' f.via.length vc',.slice na f.no.length nc] 56)
  have hX:=I6 wi 56 #[.int .i64 f.src,.int .i64 f.dst,.slice va' f.via.length vc',.slice na f.no.length nc]
  have hV5:=hV.below hbx
  have hb5:=hb3.trans (hbx.mono hb3.size)
  have hjI:I64 (j:Int):=⟨by omega,by omega⟩
  clear hce hf hos HSO HOS HOL HSA c1 c2 hC2 hO2 hb2
  by_cases hfs2:f.src=(s:Int)
  case neg=>
   have hf2:(f.src==(s:Int))=false:=by rw [beq_eq_false_iff_ne];exact hfs2
   have HS2:Hid (ls++F8 s ((j+1:Nat):Int) (fls.drop (j+1))=F8 s 0 fls):=by show _=_;have:=hS.out;rw [HID.out,if_neg hfs2,List.nil_append] at this;exact this
   clear hS HID hfs2
   go_wp2
   case roundEnd=>
    go_roundw
    case rel=>exact ⟨j+1,va,vc,ls,rfl,by go_num,by omega,HS2,by omega,hV5,hb5⟩
    case measure=>simp [intOf]<;>omega
  have HS2:Hid ((ls++[(j:Int)])++F8 s ((j+1:Nat):Int) (fls.drop (j+1))=F8 s 0 fls):=by show _=_;have:=hS.out;rw [HID.out,if_pos hfs2] at this;rw [List.append_assoc];exact this
  rw [hfs2] at e0 hbx hX hV5 hb5
  clear hS HID hfs2
  have hFL:Value.agg #[.int .i64 (s:Int),.int .i64 f.dst,.slice va' f.via.length vc',.slice na f.no.length nc]=Value.agg #[.int .i64 (s:Int),.int .i64 f.dst,.slice va' f.via.length vc',.slice na f.no.length nc]:=rfl
  clear hFL
  have hV6:=hV5.alloc (.cells #[.int .i64 j] 3)
  have hsz5:(wi.alloc (.cells #[.int .i64 s,.int .i64 f.dst,.slice va' f.via.length vc',.slice na f.no.length nc] 56)).heap.size=wi.heap.size+1:=by simp
  have hsrc:D7 C2 (fun _=>False) ((wi.alloc (.cells #[.int .i64 s,.int .i64 f.dst,.slice va' f.via.length vc',.slice na f.no.length nc] 56)).alloc (.cells #[.int .i64 j] 3)) (some ⟨wi.heap.size+1,0,none⟩) [(j:Int)]:=D7.ints [(j:Int)] hsz5 (by intro x hx;obtain rfl:x=(j:Int):=(by simpa using hx);exact hjI)
  have hbF:Below w6.heap.size w6 ((wi.alloc (.cells #[.int .i64 s,.int .i64 f.dst,.slice va' f.via.length vc',.slice na f.no.length nc] 56)).alloc (.cells #[.int .i64 j] 3)):=hb5.trans (by have:=hb5.size;(repeat' (first|with_reducible (first|exact Below.refl _ _|assumption|refine Below.drew ?_|refine A3 ?_ _|refine Below.alloc ?_ ?_ _|refine Below.setCell ?_ ?_ _)|omega|(simp;done)|(simp;omega))))
  clear hb5 hV5 hX hbx hsz5
  go_wp2_with (at_builtin;go_must (refine H4 (sh:=C2) (base:=w6.heap.size) (n:=ls.length) (m:=1) rfl _ _ 41 rfl 3 i0 (.int .i64 0) 8 Tryz.underlying41 hi hz0 hz1 hz2 rfl (by decide) rfl hV6 rfl rfl hsrc (by simp only [maxLen];omega) (by omega) hbF.size ?_);go_must (intro va9 vc9 w9 hV9 hg9 hd9;have hb9:=hbF.trans (D6 (B:=w6.heap.size) hg9 (fun k hk=>(hV6.lt k hk).1) hbF.size)))
  case roundEnd=>
   have hln2:(ls++[(j:Int)]).length=ls.length+1:=by simp
   have HV:Hid (Value.slice va9 (ls.length+1) vc9=.slice va9 (ls++[(j:Int)]).length vc9):=by show _=_;rw [hln2]
   have hV9':C7 C2 3 (fun _=>False) w6.heap.size w9 va9 (ls++[(j:Int)]).length vc9 (ls++[(j:Int)]):=by rw [hln2];exact hV9
   go_roundw
   case rel=>exact ⟨j+1,va9,vc9,ls++[(j:Int)],HV.out,by go_num,by omega,HS2,by rw [hln2];omega,hV9',hb9⟩
   case measure=>simp [intOf]<;>omega
end Go.Proofs.YtampcbncgofkoaaGreatDoor
namespace Go.St
open Go.RowKit
theorem A50 {c:Ctl} {t:C5} (h:c.waits≠[]):C0 c t=(c,[]):=by unfold C0;rw [if_pos h]
theorem B1e {c:Ctl} {t:C5} (h:c.waits=[]) (h1:c.stage=1):C0 c t=((C0 (E6 ⟨2,c.now,c.next,c.num,c.waits⟩ (E1 c t)).1 t).1,(E6 ⟨2,c.now,c.next,c.num,c.waits⟩ (E1 c t)).2++(C0 (E6 ⟨2,c.now,c.next,c.num,c.waits⟩ (E1 c t)).1 t).2):=by
 have e:C0 c t=if (E6 ⟨2,c.now,c.next,c.num,c.waits⟩ (E1 c t)).1.waits=[] then (⟨3,c.now,c.next,c.num,[]⟩,[]) else E6 ⟨2,c.now,c.next,c.num,c.waits⟩ (E1 c t):=by
  unfold C0
  rw [if_neg (fun hh=>hh h),if_pos h1]
 rw [e]
 by_cases hw:(E6 ⟨2,c.now,c.next,c.num,c.waits⟩ (E1 c t)).1.waits=[]
 ·rw [if_pos hw]
  have hl:=T0 ⟨2,c.now,c.next,c.num,c.waits⟩ (E1 c t)
  rw [hw,h] at hl
  have h0:E1 c t=[]:=List.eq_nil_of_length_eq_zero (by simpa using hl.2.symm)
  rw [h0]
  simp only [E6,A5q,List.nil_append]
  unfold C0
  simp [h]
 ·rw [if_neg hw,A50 hw]
  simp
theorem B1n {c:Ctl} {t:C5} (h:c.waits=[]) (h1:c.stage=2):C0 c t=C0 ⟨3,c.now,c.next,c.num,c.waits⟩ t:=by
 unfold C0;simp [h,h1]
theorem A9f {c:Ctl} {t:C5} (h:c.waits=[]) (h1:c.stage=4):C0 c t=C0 ⟨0,c.next,E2,c.num,c.waits⟩ t:=by
 unfold C0;simp [h,h1]
theorem A9p {c:Ctl} {t:C5} (h:c.waits=[]) (h1:c.stage≠1) (h2:c.stage≠2) (h4:c.stage≠4):C0 c t=(c,[]):=by
 unfold C0;simp [h,h1,h2,h4]
def A5u (s:Int):Nat:=if s=1 then 3 else if s=2 then 2 else if s=4 then 1 else 0
def A0q (N:Nat) (w:World):Nat:=match w.cell? ⟨N,0,none⟩ with|some (.int _ n)=>A5u n|_=>0
theorem A0q.of {w:World} {b:Nat} {t:TypeId} {k:IntKind} {n:Int} {l:List Value} (h:A6 w b t (Value.int k n::l).toArray):A0q b w=A5u n:=by
 unfold A0q
 rw [h.cells.1 0]
 simp
def A2r (t:C5) (R:Ctl × List To) (c:Ctl) (os:List To):Prop:=R.1=(C0 c t).1∧R.2=os++(C0 c t).2
theorem C7.ints_any {e:TypeId} {ok ok':Nat→Prop} {base:Nat} {w:World} {ao:Option Addr} {n cap:Nat} {xs:List Int} (h:C7 C2 e ok base w ao n cap xs) (ho:∀ k,blk ao=some k→¬ok' k) (hb:∀ b,ok' b→b<w.heap.size):C7 C2 e ok' base w ao n cap xs:=by
 obtain ⟨cells,h1,h2,h3,h4,h5⟩:=h
 exact ⟨cells,h1,h2,fun i x hx=>h3 i x hx,ho,hb⟩
end Go.St
namespace Go.Proofs.YtampcbncgofkoaaGreatDoor
open Go.RowKit Go.St
theorem A6s (c:Ctl) (t:C5) (ts:List Value) (W K:Nat→Prop) (B:Nat) (n0 n1 n2 x0 x1 x2:Value) (wa:Option Addr) (wc:Nat) (w:World)
  (hKW:∀ b,K b→W b) (hn:B7 w K n0 n1 n2 c.now) (hx:B7 w K x0 x1 x2 c.next) (hw:C7 C2 3 W B w wa c.waits.length wc c.waits) (hst:I64 c.stage) (hnum:I64 c.num) (ht:I5.rep (fun b=>b<B) w ts t) (ht0:0≤t.n) (ht8:t.n≤8) (hsm:N6 c.next) (hB:B≤w.heap.size) (hwl:c.waits.length≤10000000000):
  Calls Tryz.prog 55 #[.agg #[.int .i64 c.stage,n0,n1,n2,x0,x1,x2,.int .i64 c.num,.slice wa c.waits.length wc],.agg ts.toArray] w fun e w'=>∃ (m0 m1 m2 y0 y1 y2:Value) (va:Option Addr) (vc:Nat) (oa:Option Addr) (oc:Nat),
   e=.returned (.tuple #[.agg #[.int .i64 (C0 c t).1.stage,m0,m1,m2,y0,y1,y2,.int .i64 (C0 c t).1.num,.slice va (C0 c t).1.waits.length vc],.slice oa (C0 c t).2.length oc])∧
   B7 w' K m0 m1 m2 (C0 c t).1.now∧B7 w' K y0 y1 y2 (C0 c t).1.next∧C7 C2 3 W B w' va (C0 c t).1.waits.length vc (C0 c t).1.waits∧I64 (C0 c t).1.stage∧I64 (C0 c t).1.num∧
   A8 toS (fun b=>w.heap.size≤b) w' oa oc (C0 c t).2∧Frm W B w w':=by
 have HT0:Hid (A2r t (C0 c t) c []):=⟨rfl,rfl⟩
 generalize C0 c t=R at *
 obtain ⟨R1,R2⟩:=R
 have hT:=ht
 obtain ⟨la,lc,rfl,htn,htr⟩:=ht
 have hWN:∀ b,W b→b<w.heap.size:=hw.okLt
 have hKN:∀ b,K b→b<w.heap.size:=fun b hb=>hWN b (hKW b hb)
 obtain ⟨cst,cnow,cnext,cnum,cws⟩:=c
 dsimp only at *
 have hB0:Below w.heap.size w (((w.alloc (.cells #[.int .i64 cst,n0,n1,n2,x0,x1,x2,.int .i64 cnum,.slice wa cws.length wc] 43)).alloc (.cells #[.int .i64 t.n,.slice la t.links.length lc] 24)).alloc (.cells #[.int .i64 0,.int .i64 0,.slice none 0 0,.slice none 0 0,.int .i64 0,.slice none 0 0,.slice none 0 0,.int .i64 0,.slice none 0 0] 43)):=A7q _ _ _ _
 have hC0:A6 (((w.alloc (.cells #[.int .i64 cst,n0,n1,n2,x0,x1,x2,.int .i64 cnum,.slice wa cws.length wc] 43)).alloc (.cells #[.int .i64 t.n,.slice la t.links.length lc] 24)).alloc (.cells #[.int .i64 0,.int .i64 0,.slice none 0 0,.slice none 0 0,.int .i64 0,.slice none 0 0,.slice none 0 0,.int .i64 0,.slice none 0 0] 43)) w.heap.size 43 #[.int .i64 cst,n0,n1,n2,x0,x1,x2,.int .i64 cnum,.slice wa cws.length wc]:=((A6.new rfl).alloc _).alloc _
 have hT0:A6 (((w.alloc (.cells #[.int .i64 cst,n0,n1,n2,x0,x1,x2,.int .i64 cnum,.slice wa cws.length wc] 43)).alloc (.cells #[.int .i64 t.n,.slice la t.links.length lc] 24)).alloc (.cells #[.int .i64 0,.int .i64 0,.slice none 0 0,.slice none 0 0,.int .i64 0,.slice none 0 0,.slice none 0 0,.int .i64 0,.slice none 0 0] 43)) (w.heap.size+1) 24 #[.int .i64 t.n,.slice la t.links.length lc]:=(A6.new (by simp)).alloc _
 have hZ0:A6 (((w.alloc (.cells #[.int .i64 cst,n0,n1,n2,x0,x1,x2,.int .i64 cnum,.slice wa cws.length wc] 43)).alloc (.cells #[.int .i64 t.n,.slice la t.links.length lc] 24)).alloc (.cells #[.int .i64 0,.int .i64 0,.slice none 0 0,.slice none 0 0,.int .i64 0,.slice none 0 0,.slice none 0 0,.int .i64 0,.slice none 0 0] 43)) (w.heap.size+1+1) 43 #[.int .i64 0,.int .i64 0,.slice none 0 0,.slice none 0 0,.int .i64 0,.slice none 0 0,.slice none 0 0,.int .i64 0,.slice none 0 0]:=A6.new (by simp)
 have hF0:Frm W B w (((w.alloc (.cells #[.int .i64 cst,n0,n1,n2,x0,x1,x2,.int .i64 cnum,.slice wa cws.length wc] 43)).alloc (.cells #[.int .i64 t.n,.slice la t.links.length lc] 24)).alloc (.cells #[.int .i64 0,.int .i64 0,.slice none 0 0,.slice none 0 0,.int .i64 0,.slice none 0 0,.slice none 0 0,.int .i64 0,.slice none 0 0] 43)):=Frm.of hB0 hB
 have hN0:B7 (((w.alloc (.cells #[.int .i64 cst,n0,n1,n2,x0,x1,x2,.int .i64 cnum,.slice wa cws.length wc] 43)).alloc (.cells #[.int .i64 t.n,.slice la t.links.length lc] 24)).alloc (.cells #[.int .i64 0,.int .i64 0,.slice none 0 0,.slice none 0 0,.int .i64 0,.slice none 0 0,.slice none 0 0,.int .i64 0,.slice none 0 0] 43)) K n0 n1 n2 cnow:=C3.below hn hB0
 have hX0:B7 (((w.alloc (.cells #[.int .i64 cst,n0,n1,n2,x0,x1,x2,.int .i64 cnum,.slice wa cws.length wc] 43)).alloc (.cells #[.int .i64 t.n,.slice la t.links.length lc] 24)).alloc (.cells #[.int .i64 0,.int .i64 0,.slice none 0 0,.slice none 0 0,.int .i64 0,.slice none 0 0,.slice none 0 0,.int .i64 0,.slice none 0 0] 43)) K x0 x1 x2 cnext:=C3.below hx hB0
 have hV0:=hw.below hB0
 have hl0:=B7.st (P:=Tryz.prog) hn
 obtain ⟨ln0,ln1,ln2⟩:=hn.one
 obtain ⟨lx0,lx1,lx2⟩:=hx.one
 clear hl0
 go_enter Tryz.func55,Tryz.ntmps55
 go_wp2
 generalize (((w.alloc (.cells #[.int .i64 cst,n0,n1,n2,x0,x1,x2,.int .i64 cnum,.slice wa cws.length wc] 43)).alloc (.cells #[.int .i64 t.n,.slice la t.links.length lc] 24)).alloc (.cells #[.int .i64 0,.int .i64 0,.slice none 0 0,.slice none 0 0,.int .i64 0,.slice none 0 0,.slice none 0 0,.int .i64 0,.slice none 0 0] 43))=w0 at *
 clear ln0 ln1 ln2 lx0 lx1 lx2 hn hx hw hB0
 go_loopw [6,15,23,26] (fun out _ _ _ wr=>∃ (k:Ctl) (os:List To) (oa:Option Addr) (oc:Nat) (m0 m1 m2 y0 y1 y2:Value) (va:Option Addr) (vc vn:Nat),out=.slice oa os.length oc∧Hid (A2r t (R1,R2) k os)∧Hid (vn=k.waits.length)∧vn≤cws.length+1000∧
   A6 wr w.heap.size 43 #[.int .i64 k.stage,m0,m1,m2,y0,y1,y2,.int .i64 k.num,.slice va vn vc]∧A6 wr (w.heap.size+1) 24 #[.int .i64 t.n,.slice la t.links.length lc]∧A6 wr (w.heap.size+1+1) 43 #[.int .i64 0,.int .i64 0,.slice none 0 0,.slice none 0 0,.int .i64 0,.slice none 0 0,.slice none 0 0,.int .i64 0,.slice none 0 0]∧
   B7 wr K m0 m1 m2 k.now∧B7 wr K y0 y1 y2 k.next∧C7 C2 3 W B wr va vn vc k.waits∧I64 k.stage∧I64 k.num∧(k.stage=1→os=[]∧oa=none∧oc=0∧k.next=cnext∧vn=cws.length)∧A8 toS (fun b=>w.heap.size+3≤b) wr oa oc os∧Frm W B w wr) (fun _ _ _ _ wr=>A0q w.heap.size wr)
 case atStart=>exact ⟨⟨cst,cnow,cnext,cnum,cws⟩,[],none,0,n0,n1,n2,x0,x1,x2,wa,wc,cws.length,rfl,HT0,rfl,by omega,hC0,hT0,hZ0,hN0,hX0,hV0,hst,hnum,fun _=>⟨rfl,rfl,rfl,rfl,rfl⟩,A8.nil _ _ _ _,hF0⟩
 case round=>
  clear HT0 hC0 hT0 hZ0 hN0 hX0 hV0 hF0 hst hnum
  obtain ⟨k,os,oa,oc,m0,m1,m2,y0,y1,y2,va,vc,vn,rfl,hR,hvn,hvl,hC,hTb,hZ,hN,hX,hV,hks,hkn,hone,hO,hF⟩:=hrel
  obtain ⟨kst,know,knext,knum,kws⟩:=k
  rename World=>wo
  dsimp only at *
  have hBo:B≤wo.heap.size:=Nat.le_trans hB hF.size
  have hcl:=hC.lt
  have hzl:=hZ.lt
  obtain ⟨c1,c2⟩:=hC.cells
  obtain ⟨t1,t2⟩:=hTb.cells
  obtain ⟨z1,z2⟩:=hZ.cells
  have hWnN:∀ b,W b→b<w.heap.size:=hWN
  have HM:=Lib.hid (A0q.of hC)
  obtain ⟨lm0,lm1,lm2⟩:=B7.st (P:=Tryz.prog) hN
  obtain ⟨ly0,ly1,ly2⟩:=B7.st (P:=Tryz.prog) hX
  have HEND:Hid (C0 ⟨kst,know,knext,knum,kws⟩ t=(⟨kst,know,knext,knum,kws⟩,[])→∀ (Z:World),Z=wo→R1=⟨kst,know,knext,knum,kws⟩∧R2=os):=fun h Z _=>by
   have h9:=hR.out
   unfold A2r at h9
   rw [h,List.append_nil] at h9
   exact h9
  by_cases hv0:vn=0
  case neg=>
   have hvz:((vn:Int)==0)=false:=by rw [beq_eq_false_iff_ne];omega
   have HE:=Lib.hid (HEND.out (A50 (c:=⟨kst,know,knext,knum,kws⟩) (t:=t) (fun h=>hv0 (by have h8:kws=[]:=h;rw [hvn.out,h8];rfl))) wo rfl)
   clear hv0 HEND hR hone
   obtain ⟨G,FR⟩:=Y7 hZ (fun b=>b≠w.heap.size+1+1) B (fun h=>h rfl) (by omega) (.int .i64 kst) m0 m1 m2 y0 y1 y2 (.int .i64 knum) (.slice va vn vc)
   have HD:=Lib.hid (And.intro (FR.rep' hN (fun b hb=>.inl (by have:=hKN b hb;omega))) (And.intro (FR.rep' hX (fun b hb=>.inl (by have:=hKN b hb;omega))) (And.intro (hV.frm FR (fun b hb=>by have:=hWN b hb;omega) (fun k hk e=>hV.noType hZ (by decide) (e▸hk))) (And.intro (FR.row' hO (fun b hb=>.inl (by omega))) (hF.trans (FR.weak (fun b hb hW=>.inl (by have:=hWN b hW;omega)) (Nat.le_refl _)))))))
   obtain ⟨g1,g2⟩:=G.cells
   clear FR hN hX hV hO hF
   go_wp2_with ((with_reducible refine bodyPost_ret (v:=.tuple #[.agg #[.int .i64 kst,m0,m1,m2,y0,y1,y2,.int .i64 knum,.slice va vn vc],.slice oa os.length oc]) ?ra1 ?rb1 ?rc1);go_must (case ra1=>simp [results,Tryz.results55,go_sem,g1]);go_must (case rb1=>rfl);go_must (case rc1=>obtain ⟨rfl,rfl⟩:=HE.out;obtain rfl:=hvn.out;obtain ⟨d1,d2,d3,d4,d5⟩:=HD.out;exact ⟨m0,m1,m2,y0,y1,y2,va,vc,oa,oc,rfl,d1,d2,d3,hks,hkn,d4.anyOk (fun b _ hb=>by omega),d5⟩))
  subst hv0
  have hkw:kws=[]:=List.eq_nil_of_length_eq_zero hvn.out.symm
  subst hkw
  by_cases h1:kst=1
  case neg=>
   have h1':(kst==1)=false:=by rw [beq_eq_false_iff_ne];exact h1
   by_cases h2:kst=2
   case pos=>
    subst h2
    have HR2:Hid (A2r t (R1,R2) ⟨3,know,knext,knum,[]⟩ os):=by
     have h9:=hR.out
     unfold A2r at h9
     rw [B1n rfl rfl] at h9
     exact h9
    have hC2:=hC.set 0 (.int .i64 3)
    simp only [St.tS,St.tZ] at hC2
    have FR:Frm (fun b=>b≠w.heap.size) B wo (wo.setCell ⟨w.heap.size,0,none⟩ (.int .i64 3)):=Frm.set (a:=⟨w.heap.size,0,none⟩) (fun h=>h rfl) hB _
    have hT2:=FR.blk hTb (.inl (by omega))
    have hZ2:=FR.blk hZ (.inl (by omega))
    have hN2:=FR.rep' hN (fun b hb=>.inl (by have:=hKN b hb;omega))
    have hX2:=FR.rep' hX (fun b hb=>.inl (by have:=hKN b hb;omega))
    have hV2:=hV.frm FR (fun b hb=>by have:=hWN b hb;omega) (fun k hk e=>hV.noType hC (by decide) (e▸hk))
    have hO2:=FR.row' hO (fun b hb=>.inl (by omega))
    have hF2:=hF.trans (FR.weak (fun b hb hW=>.inl (by have:=hWN b hW;omega)) (Nat.le_refl _))
    have HM2:=Lib.hid (A0q.of hC2)
    clear hN hX hV hO hF FR hR hone HEND h1
    go_wp2
    case roundEnd=>
     go_roundw
     case rel=>exact ⟨⟨3,know,knext,knum,[]⟩,os,oa,oc,m0,m1,m2,y0,y1,y2,va,vc,0,rfl,HR2,rfl,by omega,hC2,hT2,hZ2,hN2,hX2,hV2,show I64 3 from I64.small (by decide) (by decide),hkn,fun h=>absurd (show (3:Int)=1 from h) (by decide),hO2,hF2⟩
     case measure=>rw [HM.out,HM2.out];decide
   have h2':(kst==2)=false:=by rw [beq_eq_false_iff_ne];exact h2
   by_cases h4:kst=4
   case pos=>
    subst h4
    have HR2:Hid (A2r t (R1,R2) ⟨0,knext,E2,knum,[]⟩ os):=by
     have h9:=hR.out
     unfold A2r at h9
     rw [A9f rfl rfl] at h9
     exact h9
    obtain ⟨hC2,FR⟩:=B5x hC (fun b=>b≠w.heap.size) B (fun h=>h rfl) hB (.int .i64 0) y0 y1 y2 (.int .i64 0) (.slice none 0 0) (.slice none 0 0)
    have hT2:=FR.blk hTb (.inl (by omega))
    have hZ2:=FR.blk hZ (.inl (by omega))
    have hX2:=FR.rep' hX (fun b hb=>.inl (by have:=hKN b hb;omega))
    have hV2:=hV.frm FR (fun b hb=>by have:=hWN b hb;omega) (fun k hk e=>hV.noType hC (by decide) (e▸hk))
    have hO2:=FR.row' hO (fun b hb=>.inl (by omega))
    have hF2:=hF.trans (FR.weak (fun b hb hW=>.inl (by have:=hWN b hW;omega)) (Nat.le_refl _))
    have HM2:=Lib.hid (A0q.of hC2)
    clear hN hX hV hO hF FR hR hone HEND h1 h2
    go_wp2
    case roundEnd=>
     go_roundw
     case rel=>exact ⟨⟨0,knext,E2,knum,[]⟩,os,oa,oc,y0,y1,y2,.int .i64 0,.slice none 0 0,.slice none 0 0,va,vc,0,rfl,HR2,rfl,by omega,hC2,hT2,hZ2,hX2,A05 _ _,hV2,show I64 0 from I64.small (by decide) (by decide),hkn,fun h=>absurd (show (0:Int)=1 from h) (by decide),hO2,hF2⟩
     case measure=>rw [HM.out,HM2.out];decide
   have h4':(kst==4)=false:=by rw [beq_eq_false_iff_ne];exact h4
   have HE:=Lib.hid (HEND.out (A9p (c:=⟨kst,know,knext,knum,[]⟩) (t:=t) rfl h1 h2 h4) wo rfl)
   clear HEND hR hone h1 h2 h4
   obtain ⟨G,FR⟩:=Y7 hZ (fun b=>b≠w.heap.size+1+1) B (fun h=>h rfl) (by omega) (.int .i64 kst) m0 m1 m2 y0 y1 y2 (.int .i64 knum) (.slice va 0 vc)
   have HD:=Lib.hid (And.intro (FR.rep' hN (fun b hb=>.inl (by have:=hKN b hb;omega))) (And.intro (FR.rep' hX (fun b hb=>.inl (by have:=hKN b hb;omega))) (And.intro (hV.frm FR (fun b hb=>by have:=hWN b hb;omega) (fun k hk e=>hV.noType hZ (by decide) (e▸hk))) (And.intro (FR.row' hO (fun b hb=>.inl (by omega))) (hF.trans (FR.weak (fun b hb hW=>.inl (by have:=hWN b hW;omega)) (Nat.le_refl _)))))))
   obtain ⟨g1,g2⟩:=G.cells
   clear FR hN hX hV hO hF
   go_wp2_with ((with_reducible refine bodyPost_ret (v:=.tuple #[.agg #[.int .i64 kst,m0,m1,m2,y0,y1,y2,.int .i64 knum,.slice va 0 vc],.slice oa os.length oc]) ?ra1 ?rb1 ?rc1);go_must (case ra1=>simp [results,Tryz.results55,go_sem,g1]);go_must (case rb1=>rfl);go_must (case rc1=>obtain ⟨rfl,rfl⟩:=HE.out;obtain ⟨d1,d2,d3,d4,d5⟩:=HD.out;exact ⟨m0,m1,m2,y0,y1,y2,va,vc,oa,oc,rfl,d1,d2,d3,hks,hkn,d4.anyOk (fun b _ hb=>by omega),d5⟩))
  subst h1
  obtain ⟨rfl,rfl,rfl,rfl,-⟩:=hone rfl
  have h0t:t.n.toNat≤8:=by omega
  have hC1:=hC.set 0 (.int .i64 2)
  simp only [St.tS,St.tZ] at hC1
  have FR:Frm (fun b=>b≠w.heap.size) B wo (wo.setCell ⟨w.heap.size,0,none⟩ (.int .i64 2)):=Frm.set (a:=⟨w.heap.size,0,none⟩) (fun h=>h rfl) hB _
  have hT1:=FR.blk hTb (.inl (by omega))
  have hZ1:=FR.blk hZ (.inl (by omega))
  have hN1:=FR.rep' hN (fun b hb=>.inl (by have:=hKN b hb;omega))
  have hX1:=FR.rep' hX (fun b hb=>.inl (by have:=hKN b hb;omega))
  have hV1:=hV.frm FR (fun b hb=>by have:=hWN b hb;omega) (fun k hk e=>hV.noType hC (by decide) (e▸hk))
  have hF1:=hF.trans (FR.weak (fun b hb hW=>.inl (by have:=hWN b hW;omega)) (Nat.le_refl _))
  have HR1:Hid (∀ sr,E6 ⟨2,know,knext,knum,[]⟩ (E1 ⟨2,know,knext,knum,[]⟩ t)=sr→A2r t (R1,R2) sr.1 sr.2):=fun sr hsr=>by
   have h9:=hR.out
   unfold A2r at h9
   rw [B1e rfl rfl] at h9
   have e:E1 ⟨1,know,knext,knum,[]⟩ t=E1 ⟨2,know,knext,knum,[]⟩ t:=rfl
   rw [e] at h9
   simp only at h9
   rw [hsr,List.nil_append] at h9
   exact h9
  have HK1:=Lib.hid (P7 ⟨2,know,knext,knum,[]⟩ (E1 ⟨2,know,knext,knum,[]⟩ t))
  have hsi:=A4m ⟨2,know,knext,knum,[]⟩ (E1 ⟨2,know,knext,knum,[]⟩ t) hkn
  have HK2:=Lib.hid (T0 ⟨2,know,knext,knum,[]⟩ (E1 ⟨2,know,knext,knum,[]⟩ t))
  have hst8:(E1 ⟨2,know,knext,knum,[]⟩ t).length≤8:=Nat.le_trans (Q2 (U5 _) _) h0t
  have hsz1:(wo.setCell ⟨w.heap.size,0,none⟩ (.int .i64 2)).heap.size=wo.heap.size:=by simp
  have HU:Hid (∀ (n:Int),I64 n→I64 n):=fun _ h=>h
  clear hN hX hV hF FR hR hone HEND z1 z2 lm0 lm1 lm2 ly0 ly1 ly2 hC hTb hZ
  go_wp2_with fail
  clear c1 c2 t1 t2
  generalize wo.setCell ⟨w.heap.size,0,none⟩ (.int .i64 2)=w1 at *
  have hbT:I5.rep (fun b=>b<B) w1 [.int .i64 t.n,.slice la t.links.length lc] t:=hF1.rep' hT (fun b hb=>.inr hb)
  refine (B22 ⟨2,know,knext,knum,[]⟩ t _ K (fun b=>b<B) w.heap.size m0 m1 m2 y0 y1 y2 va 0 vc 2 knum w1 hC1 hN1 hX1 hbT ht0 ht8 hsm).mono ?_
  rintro e w2 ⟨sa,sc,rfl,hL2,hb2⟩
  have hB1:B≤w1.heap.size:=by omega
  have hC2:=hC1.under hb2
  have hT2:=hT1.under hb2
  have hZ2:=hZ1.under hb2
  have hV2:=hV1.below hb2
  have hN2:B7 w2 K m0 m1 m2 know:=C3.below hN1 hb2
  have hX2:B7 w2 K y0 y1 y2 knext:=C3.below hX1 hb2
  have hF2:=hF1.trans (Frm.of hb2 hB1)
  have hB2:B≤w2.heap.size:=Nat.le_trans hB1 hb2.size
  have hvlt:∀ k,blk va=some k→k<w1.heap.size:=fun k hk=>(hV1.lt k hk).2
  have hsz2:=hb2.size
  clear hN1 hX1 hV1 hF1 hbT hb2 hC1 hT1 hZ1
  generalize hM:w1.heap.size=M at *
  have hcl2:=hC2.lt
  have hzl2:=hZ2.lt
  go_wp2_with fail
  have hVs:C7 C2 3 (fun b=>b<w2.heap.size∧b≠w.heap.size∧blk sa≠some b∧blk va≠some b) B w2 va 0 vc []:=hV2.ints_any (fun k hk h=>h.2.2.2 hk) (fun b h=>h.1)
  refine (A9m ⟨2,know,knext,knum,[]⟩ (E1 ⟨2,know,knext,knum,[]⟩ t) (fun b=>b<w2.heap.size∧b≠w.heap.size∧blk sa≠some b∧blk va≠some b) (oth (M+1) w2 sa) B w.heap.size m0 m1 m2 y0 y1 y2 va vc sa sc w2 hC2 hVs (hL2.base (by omega))
   (fun b hb=>⟨hb.2.1,by have:=hb.1;omega,hb.2.2,fun e=>by have:=hvlt b e;have:=hb.1;omega⟩) (fun k hk h=>h.2.2.1 hk) hB (fun h=>h.2.1 rfl) hB2 (by omega) (by simp)).mono ?_
  rintro e w3 ⟨va3,vc3,rfl,hC3,hW3,hL3,hF3⟩
  have hWs:∀ b,W b→b<w2.heap.size∧b≠w.heap.size∧blk sa≠some b∧blk va≠some b:=fun b hb=>by
   have h1:=hWN b hb
   exact ⟨by omega,by omega,fun e=>by have:=(hL2.lt b e).1;omega,fun e=>hV2.not b e hb⟩
  have hT3:=hF3.blk hT2 (.inl ⟨by omega,by omega,fun e=>by have:=(hL2.lt _ e).1;omega,hV2.noType hT2 (by decide)⟩)
  have hZ3:=hF3.blk hZ2 (.inl ⟨by omega,by omega,fun e=>by have:=(hL2.lt _ e).1;omega,hV2.noType hZ2 (by decide)⟩)
  have hN3:=hF3.rep' hN2 (fun b hb=>.inl (hWs b (hKW b hb)))
  have hX3:=hF3.rep' hX2 (fun b hb=>.inl (hWs b (hKW b hb)))
  have hF4:=hF2.trans (hF3.weak (fun b _ hb=>.inl (hWs b hb)) (Nat.le_refl _))
  have hsz3:=hF3.size
  have hlo:∀ k,blk sa=some k→M+1≤k:=fun k hk=>(hL2.lt k hk).1
  have hsl3:∀ k,blk sa=some k→k<w3.heap.size:=fun k hk=>(hL3.lt k hk).2
  generalize hsr:E6 ⟨2,know,knext,knum,[]⟩ (E1 ⟨2,know,knext,knum,[]⟩ t)=sr at *
  have hTR:=HR1.out sr rfl
  obtain ⟨⟨s1,s2,s3,s4,s5⟩,sl⟩:=sr
  have hk1:=HK1.out
  have hk2:=HK2.out
  dsimp only at *
  obtain ⟨rfl,rfl,rfl⟩:=hk1
  have HTR:=Lib.hid hTR
  have HKL:=Lib.hid hk2
  clear hTR hk2 HR1 HK1 HK2 hsr hL2 hVs hT2 hZ2 hV2 hN2 hX2 hF2 hcl2 hzl2
  generalize (E1 ⟨2,s2,s3,knum,[]⟩ t).length=nn at *
  obtain ⟨j0,gi,gz0,gz1,gz2⟩:=info_parts A17
  have hown:C7 toS 135 (fun b=>M+1≤b∧b<w3.heap.size) B w3 none 0 0 []:=C7.nil _ _ _ _ _ (fun b h=>h.2)
  have hrl:A8 toS (fun b=>M+1≤b∧b<w3.heap.size) w3 sa sc sl:=hL3.row (fun b hb=>⟨hb.1,by have:=hb.2.1;omega⟩) (fun k hk=>⟨hlo k hk,hsl3 k hk⟩)
  have hsrc:=hrl.src
  have hB3:B≤w3.heap.size:=by omega
  have hC3':=hC3.lt
  clear hL3 hrl
  go_wp2_with (at_builtin;go_must (refine H4 (sh:=toS) (base:=B) (n:=0) (m:=nn) rfl _ _ 103 rfl 135 j0 (.agg #[.int .i64 0,.int .i64 0,.int .i64 0,.int .i64 0,.slice none 0 0,.slice none 0 0]) 80 Tryz.underlying103 gi gz0 gz1 gz2 rfl (by decide) rfl hown rfl HKL.out.1 hsrc (by simp only [maxLen];omega) (by omega) hB3 ?_);go_must (intro oa9 oc9 w9 hown9 hg9 hd9))
  case roundEnd=>
   have hb9:Below w3.heap.size w3 w9:=D6 (B:=w3.heap.size) hg9 (fun k hk=>by simp [blk] at hk) (Nat.le_refl _)
   have hC9:=hC3.under hb9
   have hN9:B7 w9 K m0 m1 m2 s2:=C3.below hN3 hb9
   have hX9:B7 w9 K y0 y1 y2 s3:=C3.below hX3 hb9
   have hW9:C7 C2 3 W B w9 va3 s5.length vc3 s5:=(hW3.below hb9).ints_any (fun k hk h=>hW3.not k hk (hWs k h)) (fun b hb=>by have:=hWN b hb;have:=hb9.size;omega)
   have hF9:=hF4.trans (Frm.of hb9 hB3)
   have hHM:=A0q.of hC9
   rw [List.nil_append,Nat.zero_add] at hown9
   have hO9:A8 toS (fun b=>w.heap.size+3≤b) w9 oa9 oc9 sl:=hown9.row (fun b hb=>by have:=hb.1;omega) (fun k hk=>by
    rcases hd9 with h|h
    ·rw [h] at hk;simp [blk] at hk
    ·rw [h] at hk;have e:w3.heap.size=k:=by simpa using hk
     omega)
   have hnn:=HKL.out
   go_roundw
   case rel=>exact ⟨⟨2,s2,s3,s4,s5⟩,sl,oa9,oc9,m0,m1,m2,y0,y1,y2,va3,vc3,s5.length,by rw [hnn.1],HTR.out,rfl,by have:=hnn.2;simp at this;omega,hC9,hT3.under hb9,hZ3.under hb9,hN9,hX9,hW9,show I64 2 from I64.small (by decide) (by decide),hsi,fun h=>absurd (show (2:Int)=1 from h) (by decide),hO9,hF9⟩
   case measure=>rw [HM.out,hHM];decide
end Go.Proofs.YtampcbncgofkoaaGreatDoor
