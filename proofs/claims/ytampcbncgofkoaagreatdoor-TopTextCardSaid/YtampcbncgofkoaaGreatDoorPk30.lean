/- Texts of this proof, one behind the other. -/
import Derived.Test.YtampcbncgofkoaaGreatDoorPk29
set_option linter.unusedSimpArgs false
set_option linter.unusedVariables false
set_option maxRecDepth 100000
set_option maxHeartbeats 16000000
namespace Go.St
open Go.RowKit
def P4 (N:Nat) (R:Ctl × List To × Int) (e:Ending) (w':World):Prop:=
 ∃ (ks:List Value) (oa:Option Addr) (oc:Nat),e=.returned (.tuple #[.agg ks.toArray,.slice oa R.2.1.length oc,.int .i64 R.2.2])∧P3.rep (fun b=>N≤b) w' ks R.1∧A8 toS (fun b=>N≤b) w' oa oc R.2.1
theorem P4.bad {N:Nat} {R:Ctl × List To × Int} {k:Int} {w':World} (h:R=(Q6,[],k)):
  P4 N R (.returned (.tuple #[.agg #[.int .i64 0,.int .i64 0,.slice none 0 0,.slice none 0 0,.int .i64 0,.slice none 0 0,.slice none 0 0,.int .i64 0,.slice none 0 0],.slice none 0 0,.int .i64 k])) w':=by
 subst h
 exact ⟨_,none,0,rfl,P3.mk_ (c:=Q6) (I64.small (by decide) (by decide)) (I64.small (by decide) (by decide)) (A05 _ _) (A05 _ _) (A8.nil _ _ _ _),A8.nil _ _ _ _⟩
theorem P4.ok {N:Nat} {R:Ctl × List To × Int} {st num:Int} {now next:F5} {ws:List Int} {sl:List To} {p0 p1 p2 q0 q1 q2:Value} {ua oa:Option Addr} {uc oc:Nat} {w':World} {o1 o2 o3 o4:Nat→Prop} (h:R=(⟨st,now,next,num,ws⟩,sl,0)) (h1:I64 st) (h2:I64 num)
  (h3:B7 w' o1 p0 p1 p2 now) (h4:B7 w' o2 q0 q1 q2 next) (h5:A8 C2 o3 w' ua uc ws) (h6:A8 toS o4 w' oa oc sl) (k1:∀ b,o1 b→N≤b) (k2:∀ b,o2 b→N≤b) (k3:∀ b,o3 b→N≤b) (k4:∀ b,o4 b→N≤b):
  P4 N R (.returned (.tuple #[.agg #[.int .i64 st,p0,p1,p2,q0,q1,q2,.int .i64 num,.slice ua ws.length uc],.slice oa sl.length oc,.int .i64 0])) w':=by
 subst h
 exact ⟨_,oa,oc,rfl,P3.mk_ (c:=⟨st,now,next,num,ws⟩) h1 h2 (C3.anyOk h3 fun b _ hb=>k1 b hb) (C3.anyOk h4 fun b _ hb=>k2 b hb) (h5.anyOk fun b _ hb=>k3 b hb),h6.anyOk fun b _ hb=>k4 b hb⟩
theorem A30 (c:Ctl) (t:C5):(C0 c t).2.length≤t.n.toNat:=by
 unfold C0
 split
 ·simp
 ·split
  ·split
   ·simp
   ·rw [(T0 _ _).1];exact Q2 (U5 _) _
  ·split
   ·simp
   ·split<;>simp
structure A2n (c:Ctl):Prop where
 now:N6 c.now
 next:N6 c.next
 waits:c.waits.length≤1000000000
 rul:∀ s:Nat,(C6 c.now s).length≤1000000000
def SBf (b:Nat) (k:Int) (w:World):Prop:=w.cell? ⟨b,0,none⟩=some (.int .i64 k)
theorem A40 {w w':World} {N:Nat} {ok:Nat→Prop} {ts:List Value} {t:C5} (h:I5.rep ok w ts t) (hN:w.heap.size=N) (hb:Below N w w'):I5.rep (fun b=>b<N) w' ts t:=
 I5.mono h fun b hlt _=>⟨by omega,hb.block b (by omega)⟩
end Go.St
namespace Go.Proofs.YtampcbncgofkoaaGreatDoor
open Go.RowKit Go.St
theorem B4y (c:Ctl) (t:C5) (num:Int) (cs ts:List Value) (okc okt:Nat→Prop) (w:World) (h:P3.rep okc w cs c) (ht:I5.rep okt w ts t) (hsm:A2n c):
  Calls Tryz.prog 48 #[.agg cs.toArray,.agg ts.toArray,.int .i64 num] w fun e w'=>P4 w.heap.size (H8 c t num) e w'∧Below w.heap.size w w':=by
 have hH:=h
 have hT:=ht
 obtain ⟨n0,n1,n2,x0,x1,x2,pa,pc,rfl,hst,hnu,hn,hx,hw⟩:=P3.open_ h
 obtain ⟨la,lc,rfl,htn,htr⟩:=ht
 have HE1:Hid ((B6 t).1≠0→H8 c t num=(Q6,[],(B6 t).1)):=fun h=>by unfold H8;rw [if_pos h]
 have HE2:Hid ((B6 t).1=0→N8 num c.waits=none→H8 c t num=(Q6,[],6)):=fun h h2=>by unfold H8;rw [if_neg (fun h3=>h3 h),h2]
 have HE3:Hid ((B6 t).1=0→∀ i,N8 num c.waits=some i→H8 c t num=((C0 ⟨c.stage,c.now,c.next,c.num,c.waits.eraseIdx i⟩ t).1,(C0 ⟨c.stage,c.now,c.next,c.num,c.waits.eraseIdx i⟩ t).2,0)):=fun h i h2=>by unfold H8;rw [if_neg (fun h3=>h3 h),h2]
 have HTR:Hid ((B6 t).1=0→0≤t.n∧t.n≤8):=fun h=>by have:=(J8 h).1;omega
 generalize H8 c t num=R at *
 obtain ⟨cst,cnow,cnext,cnum,cws⟩:=c
 dsimp only at *
 obtain ⟨lx0,lx1,lx2⟩:=hx.one
 obtain ⟨ln0,ln1,ln2⟩:=hn.one
 have hwx:=hw.len_le
 have hB0:Below w.heap.size w (((w.alloc (.cells #[.int .i64 cst,n0,n1,n2,x0,x1,x2,.int .i64 cnum,.slice pa cws.length pc] 43)).alloc (.cells #[.int .i64 t.n,.slice la t.links.length lc] 24)).alloc (.cells #[.int .i64 0,.int .i64 0,.slice none 0 0,.slice none 0 0,.int .i64 0,.slice none 0 0,.slice none 0 0,.int .i64 0,.slice none 0 0] 43)):=A7q _ _ _ _
 have hC0:A6 (((w.alloc (.cells #[.int .i64 cst,n0,n1,n2,x0,x1,x2,.int .i64 cnum,.slice pa cws.length pc] 43)).alloc (.cells #[.int .i64 t.n,.slice la t.links.length lc] 24)).alloc (.cells #[.int .i64 0,.int .i64 0,.slice none 0 0,.slice none 0 0,.int .i64 0,.slice none 0 0,.slice none 0 0,.int .i64 0,.slice none 0 0] 43)) w.heap.size 43 #[.int .i64 cst,n0,n1,n2,x0,x1,x2,.int .i64 cnum,.slice pa cws.length pc]:=((A6.new rfl).alloc _).alloc _
 have hT0:A6 (((w.alloc (.cells #[.int .i64 cst,n0,n1,n2,x0,x1,x2,.int .i64 cnum,.slice pa cws.length pc] 43)).alloc (.cells #[.int .i64 t.n,.slice la t.links.length lc] 24)).alloc (.cells #[.int .i64 0,.int .i64 0,.slice none 0 0,.slice none 0 0,.int .i64 0,.slice none 0 0,.slice none 0 0,.int .i64 0,.slice none 0 0] 43)) (w.heap.size+1) 24 #[.int .i64 t.n,.slice la t.links.length lc]:=(A6.new (by simp)).alloc _
 have hZ0:A6 (((w.alloc (.cells #[.int .i64 cst,n0,n1,n2,x0,x1,x2,.int .i64 cnum,.slice pa cws.length pc] 43)).alloc (.cells #[.int .i64 t.n,.slice la t.links.length lc] 24)).alloc (.cells #[.int .i64 0,.int .i64 0,.slice none 0 0,.slice none 0 0,.int .i64 0,.slice none 0 0,.slice none 0 0,.int .i64 0,.slice none 0 0] 43)) (w.heap.size+1+1) 43 #[.int .i64 0,.int .i64 0,.slice none 0 0,.slice none 0 0,.int .i64 0,.slice none 0 0,.slice none 0 0,.int .i64 0,.slice none 0 0]:=A6.new (by simp)
 go_enter Tryz.func48,Tryz.ntmps48
 go_wp2_with fail
 generalize (((w.alloc (.cells #[.int .i64 cst,n0,n1,n2,x0,x1,x2,.int .i64 cnum,.slice pa cws.length pc] 43)).alloc (.cells #[.int .i64 t.n,.slice la t.links.length lc] 24)).alloc (.cells #[.int .i64 0,.int .i64 0,.slice none 0 0,.slice none 0 0,.int .i64 0,.slice none 0 0,.slice none 0 0,.int .i64 0,.slice none 0 0] 43))=w0 at *
 refine (T9 t _ okt w0 (I5.below hT hB0)).mono ?_
 rintro e w1 ⟨rfl,hb1⟩
 have hbx:=G8 w1 (.cells #[.int .i64 (B6 t).1,.int .i64 (B6 t).2] 29)
 have hB1:=hB0.trans (hb1.mono hB0.size)
 have hB2:=hB1.trans (hbx.mono hB1.size)
 have hC2:=(hC0.under hb1).under hbx
 have hT2:=(hT0.under hb1).under hbx
 have hZ2:=(hZ0.under hb1).under hbx
 have hF2:=I6 w1 29 #[.int .i64 (B6 t).1,.int .i64 (B6 t).2]
 have hfz:w.heap.size+1+1<w1.heap.size:=(hZ0.under hb1).lt
 have hC1:=hC0.under hb1
 have hT1:=hT0.under hb1
 have hZ1:=hZ0.under hb1
 clear hb1 hbx hB0 hC0 hT0 hZ0
 generalize B6 t=tw at *
 obtain ⟨k1,k2⟩:=tw
 dsimp only at *
 by_cases h1:k1=0
 case neg=>
  have HE:=Lib.hid (HE1.out h1)
  have h1':(k1 !=0)=true:=by rw [bne_iff_ne];exact h1
  clear HE1 HE2 HE3 HTR h1 hC1 hT1 hZ1 hB1
  obtain ⟨f1,f2⟩:=hF2.cells
  go_wp2
  generalize w1.alloc (.cells #[.int .i64 k1,.int .i64 k2] 29)=w2 at *
  generalize w1.heap.size=fb at *
  clear f1 f2
  have hS0:SBf fb k1 w2.drew:=hF2.cells.1 0
  refine B9 (SBf fb k1) 99 (fun a0 a' w'=>∃ v18 v19 v20,a'=C8 a0 [(18,v18),(19,v19),(20,v20),(7,.slice none 0 0),(8,.int .i64 k1)]∧A6 w' (w.heap.size+1+1) 43 #[.int .i64 0,.int .i64 0,.slice none 0 0,.slice none 0 0,.int .i64 0,.slice none 0 0,.slice none 0 0,.int .i64 0,.slice none 0 0]∧Below w.heap.size w w') (by kernel_rfl) ?_ ?_
  ·intro Q' hR hQp
   have hb0:Below w2.heap.size w2 w2.drew:=N4 _
   have hS:SBf fb k1 w2.drew:=hS0
   generalize w2.drew=wa at *
   have hZa:=hZ2.under hb0
   have hFa:=hF2.under hb0
   have hBa:=hB2.trans (hb0.mono hB2.size)
   obtain ⟨z1,z2⟩:=hZa.cells
   have hzl:=hZa.lt
   refine A9 hQp hS [0,1,2] ?_
   iterate 3 (refine B2 _ rfl (by kernel_rfl) (A0 (by kernel_rfl) (by intro w0 hw0;have hw1:=hw0;simp only [SBf] at hw1;first|(go_simp;done)|(go_simp;rfl))) ?_;simp only [Act.put,St.tA,St.tD,St.tE,St.tS,St.tC,St.tZ])
   refine B3 ?_
   clear hS
   refine A7 (i:=3) rfl (by kernel_rfl) (by kernel_rfl) fun K3 hK3=>?_
   go_simp
   go_wp2_with fail
   obtain ⟨G,FR⟩:=Y7 hZa (fun b=>b≠w.heap.size+1+1) w.heap.size (fun h=>h rfl) (by omega) (.int .i64 0) (.int .i64 0) (.slice none 0 0) (.slice none 0 0) (.int .i64 0) (.slice none 0 0) (.slice none 0 0) (.int .i64 0) (.slice none 0 0)
   have hS:_:=(FR.blk hFa (.inl (by omega))).cells.1 0
   refine hK3 _ _ (fun _=>hS) ?_
   clear hK3
   refine A9 hQp hS [4,5] ?_
   iterate 2 (refine B2 _ rfl (by kernel_rfl) (A0 (by kernel_rfl) (by intro w0 hw0;have hw1:=hw0;simp only [SBf] at hw1;first|(go_simp;done)|(go_simp;rfl))) ?_;simp only [Act.put,St.tA,St.tD,St.tE,St.tS,St.tC,St.tZ])
   refine B3 ?_
   refine B5 (by kernel_rfl) ?_ _
   refine hR _ _ ?_
   iterate 3 apply Exists.intro
   refine ⟨?_,⟨G,hBa.trans FR.below⟩⟩
   simp only [C8,Act.put,St.tS,St.tC,St.tZ]
   rfl
  rintro a' w8 ⟨v18,v19,v20,rfl,hb8⟩
  simp only [C8,Act.put,St.tS,St.tC,St.tZ]
  obtain ⟨hZ9,hB9⟩:=hb8
  obtain ⟨g1,g2⟩:=hZ9.cells
  go_wp2_with ((with_reducible refine bodyPost_ret (v:=.tuple #[.agg #[.int .i64 0,.int .i64 0,.slice none 0 0,.slice none 0 0,.int .i64 0,.slice none 0 0,.slice none 0 0,.int .i64 0,.slice none 0 0],.slice none 0 0,.int .i64 k1]) ?ra1 ?rb1 ?rc1);go_must (case ra1=>simp [results,Tryz.results48,go_sem,g1]);go_must (case rb1=>rfl);go_must (case rc1=>exact ⟨P4.bad HE.out,hB9⟩))
 subst h1
 obtain ⟨ht0,ht8⟩:=HTR.out (by first|trivial|rfl)
 have hIX:=fun (w':World) (hb:Below w.heap.size w w')=>A29 cws num okc pa pc w' (hw.below hb)
 have HIX:=Lib.hid hIX
 clear hIX HE1 HTR hC1 hT1 hZ1 hB1
 obtain ⟨f1,f2⟩:=hF2.cells
 obtain ⟨c1,c2⟩:=hC2.cells
 go_wp2_with fail
 generalize w1.alloc (.cells #[.int .i64 0,.int .i64 k2] 29)=w2 at *
 generalize w1.heap.size=fb at *
 refine (HIX.out w2 hB2).mono ?_
 rintro e w3 ⟨rfl,rfl⟩
 clear HIX
 cases hix:N8 num cws
 case none=>
  have HE:=Lib.hid (HE2.out (by first|trivial|rfl) hix)
  have hii:A1r num cws=-1:=by unfold A1r;rw [hix]
  rw [hii]
  clear HE2 HE3 hix hii
  obtain ⟨z1,z2⟩:=hZ2.cells
  have hzl:=hZ2.lt
  obtain ⟨G,FR⟩:=Y7 hZ2 (fun b=>b≠w.heap.size+1+1) w.heap.size (fun h=>h rfl) (by omega) (.int .i64 0) (.int .i64 0) (.slice none 0 0) (.slice none 0 0) (.int .i64 0) (.slice none 0 0) (.slice none 0 0) (.int .i64 0) (.slice none 0 0)
  obtain ⟨g1,g2⟩:=G.cells
  have hB9:=hB2.trans FR.below
  clear FR
  go_wp2_with ((with_reducible refine bodyPost_ret (v:=.tuple #[.agg #[.int .i64 0,.int .i64 0,.slice none 0 0,.slice none 0 0,.int .i64 0,.slice none 0 0,.slice none 0 0,.int .i64 0,.slice none 0 0],.slice none 0 0,.int .i64 6]) ?ra2 ?rb2 ?rc2);go_must (case ra2=>simp [results,Tryz.results48,go_sem,g1]);go_must (case rb2=>rfl);go_must (case rc2=>exact ⟨P4.bad HE.out,hB9⟩))
 case some i=>
  have HE:=Lib.hid (HE3.out (by first|trivial|rfl) i hix)
  have hii:A1r num cws=(i:Int):=by unfold A1r;rw [hix]
  have hil:i<cws.length:=(List.getElem?_eq_some_iff.1 (S2 hix)).1
  rw [hii]
  have i1:¬(i:Int)<0:=by omega
  have i2:IntKind.i64.wrap ((i:Int)+1)=(i:Int)+1:=IntWalk.i64_in _ (by omega)
  clear HE2 HE3 hix hii
  obtain ⟨s1,s2,s3,-⟩:=hsm
  dsimp only at s1 s2 s3
  go_wp2_with fail
  refine (B3g ⟨cst,cnow,cnext,cnum,cws⟩ _ okc w3 (P3.below hH hB2) s1 s2 (by show cws.length≤_;omega)).mono ?_
  rintro e w4 ⟨m0,m1,m2,y0,y1,y2,va,vc,M,rfl,hM,hvM,hN4,hX4,hV4,hb4⟩
  dsimp only at hN4 hX4 hV4
  obtain ⟨lm0,lm1,lm2⟩:=B7.st (P:=Tryz.prog) hN4
  obtain ⟨ly0,ly1,ly2⟩:=B7.st (P:=Tryz.prog) hX4
  obtain ⟨om0,om1,om2⟩:=B7.one hN4
  obtain ⟨oy0,oy1,oy2⟩:=B7.one hX4
  have hB4:=hB2.trans (hb4.mono hB2.size)
  have hT4:=hT2.under hb4
  have hZ4:=hZ2.under hb4
  have hz4:=hb4.size
  have hz2:=hZ2.lt
  clear hb4 hC2 hF2 f1 f2 c1 c2 hT2 hZ2
  have hbx:=G8 w4 (.cells #[.int .i64 cst,m0,m1,m2,y0,y1,y2,.int .i64 cnum,.slice va cws.length vc] 43)
  have hD5:=I6 w4 43 #[.int .i64 cst,m0,m1,m2,y0,y1,y2,.int .i64 cnum,.slice va cws.length vc]
  have hvD:∀ k,blk va=some k→k<w4.heap.size:=fun k hk=>(hV4.lt k hk).2
  go_wp2_with fail
  have hT5:=hT4.under hbx
  have hZ5:=hZ4.under hbx
  have hN5:B7 _ (fun b=>M≤b∧b<w4.heap.size) m0 m1 m2 cnow:=C3.below (C3.anyOk hN4 fun b hb h=>⟨h,hb⟩) hbx
  have hX5:B7 _ (fun b=>M≤b∧b<w4.heap.size) y0 y1 y2 cnext:=C3.below (C3.anyOk hX4 fun b hb h=>⟨h,hb⟩) hbx
  have hV5:=hV4.below hbx
  have hB5:=hB4.trans (hbx.mono hB4.size)
  have hs5:=hbx.size
  clear hbx hT4 hZ4 hN4 hX4 hV4 hB4
  generalize w4.alloc (.cells #[.int .i64 cst,m0,m1,m2,y0,y1,y2,.int .i64 cnum,.slice va cws.length vc] 43)=w5 at *
  generalize w4.heap.size=D at *
  have hel:(cws.eraseIdx i).length=cws.length - 1:=List.length_eraseIdx_of_lt hil
  have hV5':=(hV5.ints_any (ok':=fun b=>b<w5.heap.size∧blk va≠some b) (fun k hk h=>h.2 hk) (fun b h=>h.1)).base (by omega:w.heap.size≤w3.heap.size)
  refine (B0z (fun b=>b<w5.heap.size∧blk va≠some b) w.heap.size cws i va vc cws.length w5 hV5' hB5.size hil (by omega)).mono ?_
  rintro e w6 ⟨rfl,hV6,hF6⟩
  rw [←hel] at hV6 ⊢
  generalize cws.eraseIdx i=es at *
  have hle:es.length≤cws.length:=by omega
  clear hel hil i1 i2
  have hvt:∀ {b:Nat} {tt:TypeId} {cs:Array Value},A6 w5 b tt cs→3≠tt→blk va≠some b:=fun h hne=>hV5.noType h hne
  have hD6:=hF6.blk hD5 (.inl (hvt hD5 (by decide)))
  have hT6:=hF6.blk hT5 (.inl (hvt hT5 (by decide)))
  have hZ6:=hF6.blk hZ5 (.inl (hvt hZ5 (by decide)))
  have hKv:∀ b,M≤b∧b<D→blk va≠some b:=fun b hb e=>by have:=hvM b e;omega
  have hN6:=hF6.rep' hN5 (fun b hb=>.inl (hKv b hb))
  have hX6:=hF6.rep' hX5 (fun b hb=>.inl (hKv b hb))
  have hB6:=hB5.trans hF6.below
  have hs6:=hF6.size
  clear hF6 hvt hD5 hT5 hZ5 hN5 hX5 hV5 hV5' hB5
  have hdl:=hD6.lt
  have hFx:Frm (fun b=>b≠D) w.heap.size w6 (w6.setCell ⟨D,8,none⟩ (.slice va es.length vc)):=Frm.set (a:=⟨D,8,none⟩) (fun h=>h rfl) (by show w.heap.size≤D;omega) _
  have hD7:=hD6.set 8 (.slice va es.length vc)
  simp only [St.tS,St.tC,St.tZ] at hD7
  have hT7:=hFx.blk hT6 (.inl (by omega))
  have hZ7:=hFx.blk hZ6 (.inl (by omega))
  have hN7:=hFx.rep' hN6 (fun b hb=>.inl (by have:=hb.2;omega))
  have hX7:=hFx.rep' hX6 (fun b hb=>.inl (by have:=hb.2;omega))
  have hV7:=(hV6.ints_any (ok':=fun _=>False) (fun _ _ h=>h) (fun _ h=>h.elim)).setAt (a:=⟨D,8,none⟩) (hV6.noType hD6 (by decide)) (fun h=>h) (.slice va es.length vc)
  have hB7:=hB6.trans hFx.below
  have hs7:(w6.setCell ⟨D,8,none⟩ (.slice va es.length vc)).heap.size=w6.heap.size:=by simp
  obtain ⟨c1,c2⟩:=hD6.cells
  obtain ⟨t1,t2⟩:=hT6.cells
  go_wp2_with fail
  clear c1 c2 t1 t2 hD6 hT6 hZ6 hN6 hX6 hV6 hB6 hFx lm0 lm1 lm2 ly0 ly1 ly2 om0 om1 om2 oy0 oy1 oy2
  generalize w6.setCell ⟨D,8,none⟩ (.slice va es.length vc)=w7 at *
  have hbT:=A40 hT rfl hB7
  have hV7':=hV7.ints_any (ok':=fun b=>b<w7.heap.size∧blk va≠some b) (fun k hk h=>h.2 hk) (fun b h=>h.1)
  refine (A6s ⟨cst,cnow,cnext,cnum,es⟩ t _ (fun b=>b<w7.heap.size∧blk va≠some b) (fun b=>M≤b∧b<D) w.heap.size m0 m1 m2 y0 y1 y2 va vc w7 (fun b hb=>⟨by have:=hb.2;omega,hKv b hb⟩) hN7 hX7 hV7' hst hnu hbT ht0 ht8 s2 hB7.size (by show es.length≤_;omega)).mono ?_
  rintro e w8 ⟨p0,p1,p2,q0,q1,q2,ua,uc,oa,oc,rfl,hN8,hX8,hU8,hks,hkn,hO8,hF8⟩
  have hvt:∀ {b:Nat} {tt:TypeId} {cs:Array Value},A6 w7 b tt cs→3≠tt→blk va≠some b:=fun h hne=>hV7.noType h hne
  have hD8:=hF8.blk hD7 (.inl ⟨hD7.lt,hvt hD7 (by decide)⟩)
  have hZ8:=hF8.blk hZ7 (.inl ⟨hZ7.lt,hvt hZ7 (by decide)⟩)
  have hB8:=hB7.trans hF8.below
  have hs8:=hF8.size
  clear hN7 hX7 hV7 hV7' hD7 hZ7 hT7 hF8 hvt hB7 hbT
  generalize C0 ⟨cst,cnow,cnext,cnum,es⟩ t=sr at *
  obtain ⟨⟨st2,now2,next2,num2,ws2⟩,sl⟩:=sr
  dsimp only at *
  obtain ⟨lp0,lp1,lp2⟩:=B7.st (P:=Tryz.prog) hN8
  obtain ⟨lq0,lq1,lq2⟩:=B7.st (P:=Tryz.prog) hX8
  obtain ⟨op0,op1,op2⟩:=B7.one hN8
  obtain ⟨oq0,oq1,oq2⟩:=B7.one hX8
  have hdl8:=hD8.lt
  have hzl8:=hZ8.lt
  obtain ⟨G1,FR1⟩:=Y7 hD8 (fun b=>b≠D) w.heap.size (fun h=>h rfl) (by omega) (.int .i64 st2) p0 p1 p2 q0 q1 q2 (.int .i64 num2) (.slice ua ws2.length uc)
  have hZ9:=FR1.blk hZ8 (.inl (by omega))
  obtain ⟨G2,FR2⟩:=Y7 hZ9 (fun b=>b≠w.heap.size+1+1) w.heap.size (fun h=>h rfl) (by omega) (.int .i64 st2) p0 p1 p2 q0 q1 q2 (.int .i64 num2) (.slice ua ws2.length uc)
  obtain ⟨g1,g2⟩:=G2.cells
  obtain ⟨c1,c2⟩:=hD8.cells
  obtain ⟨z1,z2⟩:=hZ8.cells
  have hr1:B7 _ (fun b=>M≤b∧b<D) p0 p1 p2 now2:=FR2.rep' (FR1.rep' hN8 (fun b hb=>.inl (by have:=hb.2;omega))) (fun b hb=>.inl (by have:=hb.1;omega))
  have hr2:B7 _ (fun b=>M≤b∧b<D) q0 q1 q2 next2:=FR2.rep' (FR1.rep' hX8 (fun b hb=>.inl (by have:=hb.2;omega))) (fun b hb=>.inl (by have:=hb.1;omega))
  have hu0:A8 C2 (fun b=>w.heap.size≤b∧b≠D∧b≠w.heap.size+1+1) w8 ua uc ws2:=(hU8.ints_any (ok':=fun _=>False) (fun _ _ h=>h) (fun _ h=>h.elim)).row (fun _ h=>h.elim) (fun k hk=>⟨(hU8.lt k hk).1,fun e=>hU8.noType hD8 (by decide) (e▸hk),fun e=>hU8.noType hZ8 (by decide) (e▸hk)⟩)
  have hu1:=FR2.row' (FR1.row' hu0 (fun b hb=>.inl hb.2.1)) (fun b hb=>.inl hb.2.2)
  have ho1:=FR2.row' (FR1.row' hO8 (fun b hb=>.inl (by omega))) (fun b hb=>.inl (by omega))
  have hB9:=(hB8.trans FR1.below).trans FR2.below
  have hMN:w.heap.size≤M:=by omega
  have HOUT:=Lib.hid (And.intro (P4.ok (N:=w.heap.size) HE.out hks hkn hr1 hr2 hu1 ho1 (fun b hb=>Nat.le_trans hMN hb.1) (fun b hb=>Nat.le_trans hMN hb.1) (fun b hb=>hb.1) (fun b hb=>Nat.le_trans (by omega) hb)) hB9)
  clear hr1 hr2 hu0 hu1 ho1 hB9 FR1 FR2 hN8 hX8 hU8 hO8 hB8 hks hkn
  go_wp2_with ((with_reducible refine bodyPost_ret (v:=.tuple #[.agg #[.int .i64 st2,p0,p1,p2,q0,q1,q2,.int .i64 num2,.slice ua ws2.length uc],.slice oa sl.length oc,.int .i64 0]) ?ra3 ?rb3 ?rc3);go_must (case ra3=>simp [results,Tryz.results48,go_sem,g1]);go_must (case rb3=>rfl);go_must (case rc3=>exact HOUT.out))
end Go.Proofs.YtampcbncgofkoaaGreatDoor
namespace Go.St
open Go.RowKit
def SA (b:Nat) (cs:Array Value) (w:World):Prop:=∀ o,w.cell? ⟨b,o,none⟩=cs[o]?
end Go.St
namespace Go.Proofs.YtampcbncgofkoaaGreatDoor
open Go.RowKit Go.St
theorem B1m (c:Ctl) (t:C5) (cs ts:List Value) (okc okt:Nat→Prop) (w:World) (h:P3.rep okc w cs c) (ht:I5.rep okt w ts t) (hsm:A2n c):
  Calls Tryz.prog 34 #[.agg cs.toArray,.agg ts.toArray] w fun e w'=>P4 w.heap.size (G5 c t) e w'∧Below w.heap.size w w':=by
 have hH:=h
 have hT:=ht
 obtain ⟨n0,n1,n2,x0,x1,x2,pa,pc,rfl,hst,hnu,hn,hx,hw⟩:=P3.open_ h
 obtain ⟨la,lc,rfl,htn,htr⟩:=ht
 have HE1:Hid ((B6 t).1≠0→G5 c t=(Q6,[],(B6 t).1)):=fun h=>by unfold G5;rw [if_pos h]
 have HE2:Hid ((B6 t).1=0→c.stage≠3→G5 c t=(Q6,[],11)):=fun h h2=>by unfold G5;rw [if_neg (fun h3=>h3 h),if_pos h2]
 have HE3:Hid ((B6 t).1=0→c.stage=3→∀ gs,gs=L9 c.now t→∀ sr,E6 ⟨4,c.now,c.next,c.num,c.waits⟩ gs=sr→∀ tr,C0 sr.1 t=tr→G5 c t=(tr.1,sr.2++tr.2,0)):=fun h h2 gs h3 sr h4 tr h5=>by unfold G5;rw [if_neg (fun h6=>h6 h),if_neg (fun h6=>h6 h2),←h3,h4,h5]
 have HTR:Hid ((B6 t).1=0→0≤t.n∧t.n≤8):=fun h=>by have:=(J8 h).1;omega
 generalize G5 c t=R at *
 obtain ⟨cst,cnow,cnext,cnum,cws⟩:=c
 dsimp only at *
 obtain rfl:n0=.int .i64 cnow.ver:=by
  obtain ⟨ga,gc,qa,qc,hne,_⟩:=hn
  injection hne
 have hnv:I64 cnow.ver:=by
  obtain ⟨ga,gc,qa,qc,hne,hnv,_⟩:=hn
  exact hnv
 obtain ⟨lx0,lx1,lx2⟩:=hx.one
 obtain ⟨ln0,ln1,ln2⟩:=hn.one
 have hwx:=hw.len_le
 have hB0:Below w.heap.size w (((w.alloc (.cells #[.int .i64 cst,.int .i64 cnow.ver,n1,n2,x0,x1,x2,.int .i64 cnum,.slice pa cws.length pc] 43)).alloc (.cells #[.int .i64 t.n,.slice la t.links.length lc] 24)).alloc (.cells #[.int .i64 0,.int .i64 0,.slice none 0 0,.slice none 0 0,.int .i64 0,.slice none 0 0,.slice none 0 0,.int .i64 0,.slice none 0 0] 43)):=A7q _ _ _ _
 have hC0:A6 (((w.alloc (.cells #[.int .i64 cst,.int .i64 cnow.ver,n1,n2,x0,x1,x2,.int .i64 cnum,.slice pa cws.length pc] 43)).alloc (.cells #[.int .i64 t.n,.slice la t.links.length lc] 24)).alloc (.cells #[.int .i64 0,.int .i64 0,.slice none 0 0,.slice none 0 0,.int .i64 0,.slice none 0 0,.slice none 0 0,.int .i64 0,.slice none 0 0] 43)) w.heap.size 43 #[.int .i64 cst,.int .i64 cnow.ver,n1,n2,x0,x1,x2,.int .i64 cnum,.slice pa cws.length pc]:=((A6.new rfl).alloc _).alloc _
 have hT0:A6 (((w.alloc (.cells #[.int .i64 cst,.int .i64 cnow.ver,n1,n2,x0,x1,x2,.int .i64 cnum,.slice pa cws.length pc] 43)).alloc (.cells #[.int .i64 t.n,.slice la t.links.length lc] 24)).alloc (.cells #[.int .i64 0,.int .i64 0,.slice none 0 0,.slice none 0 0,.int .i64 0,.slice none 0 0,.slice none 0 0,.int .i64 0,.slice none 0 0] 43)) (w.heap.size+1) 24 #[.int .i64 t.n,.slice la t.links.length lc]:=(A6.new (by simp)).alloc _
 have hZ0:A6 (((w.alloc (.cells #[.int .i64 cst,.int .i64 cnow.ver,n1,n2,x0,x1,x2,.int .i64 cnum,.slice pa cws.length pc] 43)).alloc (.cells #[.int .i64 t.n,.slice la t.links.length lc] 24)).alloc (.cells #[.int .i64 0,.int .i64 0,.slice none 0 0,.slice none 0 0,.int .i64 0,.slice none 0 0,.slice none 0 0,.int .i64 0,.slice none 0 0] 43)) (w.heap.size+1+1) 43 #[.int .i64 0,.int .i64 0,.slice none 0 0,.slice none 0 0,.int .i64 0,.slice none 0 0,.slice none 0 0,.int .i64 0,.slice none 0 0]:=A6.new (by simp)
 go_enter Tryz.func34,Tryz.ntmps34
 go_wp2_with fail
 generalize (((w.alloc (.cells #[.int .i64 cst,.int .i64 cnow.ver,n1,n2,x0,x1,x2,.int .i64 cnum,.slice pa cws.length pc] 43)).alloc (.cells #[.int .i64 t.n,.slice la t.links.length lc] 24)).alloc (.cells #[.int .i64 0,.int .i64 0,.slice none 0 0,.slice none 0 0,.int .i64 0,.slice none 0 0,.slice none 0 0,.int .i64 0,.slice none 0 0] 43))=w0 at *
 refine (T9 t _ okt w0 (I5.below hT hB0)).mono ?_
 rintro e w1 ⟨rfl,hb1⟩
 have hbx:=G8 w1 (.cells #[.int .i64 (B6 t).1,.int .i64 (B6 t).2] 29)
 have hB1:=hB0.trans (hb1.mono hB0.size)
 have hB2:=hB1.trans (hbx.mono hB1.size)
 have hC2:=(hC0.under hb1).under hbx
 have hT2:=(hT0.under hb1).under hbx
 have hZ2:=(hZ0.under hb1).under hbx
 have hF2:=I6 w1 29 #[.int .i64 (B6 t).1,.int .i64 (B6 t).2]
 have hfz:w.heap.size+1+1<w1.heap.size:=(hZ0.under hb1).lt
 have hC1:=hC0.under hb1
 have hT1:=hT0.under hb1
 have hZ1:=hZ0.under hb1
 clear hb1 hbx hB0 hC0 hT0 hZ0
 generalize B6 t=tw at *
 obtain ⟨k1,k2⟩:=tw
 dsimp only at *
 by_cases h1:k1=0
 case neg=>
  have HE:=Lib.hid (HE1.out h1)
  have h1':(k1 !=0)=true:=by rw [bne_iff_ne];exact h1
  clear HE1 HE2 HE3 HTR h1 hC1 hT1 hZ1 hB1
  obtain ⟨f1,f2⟩:=hF2.cells
  go_wp2
  generalize w1.alloc (.cells #[.int .i64 k1,.int .i64 k2] 29)=w2 at *
  generalize w1.heap.size=fb at *
  clear f1 f2
  have hS0:SBf fb k1 w2.drew:=hF2.cells.1 0
  refine B9 (SBf fb k1) 99 (fun a0 a' w'=>∃ v18 v19 v20,a'=C8 a0 [(18,v18),(19,v19),(20,v20),(5,.slice none 0 0),(6,.int .i64 k1)]∧A6 w' (w.heap.size+1+1) 43 #[.int .i64 0,.int .i64 0,.slice none 0 0,.slice none 0 0,.int .i64 0,.slice none 0 0,.slice none 0 0,.int .i64 0,.slice none 0 0]∧Below w.heap.size w w') (by kernel_rfl) ?_ ?_
  ·intro Q' hR hQp
   have hb0:Below w2.heap.size w2 w2.drew:=N4 _
   have hS:SBf fb k1 w2.drew:=hS0
   generalize w2.drew=wa at *
   have hZa:=hZ2.under hb0
   have hFa:=hF2.under hb0
   have hBa:=hB2.trans (hb0.mono hB2.size)
   obtain ⟨z1,z2⟩:=hZa.cells
   have hzl:=hZa.lt
   refine A9 hQp hS [0,1,2] ?_
   iterate 3 (refine B2 _ rfl (by kernel_rfl) (A0 (by kernel_rfl) (by intro w0 hw0;have hw1:=hw0;simp only [SBf] at hw1;first|(go_simp;done)|(go_simp;rfl))) ?_;simp only [Act.put,St.tA,St.tD,St.tE,St.tS,St.tC,St.tZ])
   refine B3 ?_
   clear hS
   refine A7 (i:=3) rfl (by kernel_rfl) (by kernel_rfl) fun K3 hK3=>?_
   go_simp
   go_wp2_with fail
   obtain ⟨G,FR⟩:=Y7 hZa (fun b=>b≠w.heap.size+1+1) w.heap.size (fun h=>h rfl) (by omega) (.int .i64 0) (.int .i64 0) (.slice none 0 0) (.slice none 0 0) (.int .i64 0) (.slice none 0 0) (.slice none 0 0) (.int .i64 0) (.slice none 0 0)
   have hS:_:=(FR.blk hFa (.inl (by omega))).cells.1 0
   refine hK3 _ _ (fun _=>hS) ?_
   clear hK3
   refine A9 hQp hS [4,5] ?_
   iterate 2 (refine B2 _ rfl (by kernel_rfl) (A0 (by kernel_rfl) (by intro w0 hw0;have hw1:=hw0;simp only [SBf] at hw1;first|(go_simp;done)|(go_simp;rfl))) ?_;simp only [Act.put,St.tA,St.tD,St.tE,St.tS,St.tC,St.tZ])
   refine B3 ?_
   refine B5 (by kernel_rfl) ?_ _
   refine hR _ _ ?_
   iterate 3 apply Exists.intro
   refine ⟨?_,⟨G,hBa.trans FR.below⟩⟩
   simp only [C8,Act.put,St.tS,St.tC,St.tZ]
   rfl
  rintro a' w8 ⟨v18,v19,v20,rfl,hb8⟩
  simp only [C8,Act.put,St.tS,St.tC,St.tZ]
  obtain ⟨hZ9,hB9⟩:=hb8
  obtain ⟨g1,g2⟩:=hZ9.cells
  go_wp2_with ((with_reducible refine bodyPost_ret (v:=.tuple #[.agg #[.int .i64 0,.int .i64 0,.slice none 0 0,.slice none 0 0,.int .i64 0,.slice none 0 0,.slice none 0 0,.int .i64 0,.slice none 0 0],.slice none 0 0,.int .i64 k1]) ?ra1 ?rb1 ?rc1);go_must (case ra1=>simp [results,Tryz.results34,go_sem,g1]);go_must (case rb1=>rfl);go_must (case rc1=>exact ⟨P4.bad HE.out,hB9⟩))
 subst h1
 obtain ⟨ht0,ht8⟩:=HTR.out (by first|trivial|rfl)
 obtain ⟨c1,c2⟩:=hC1.cells
 have hfl2:=hF2.lt
 have hcl1:w.heap.size<w1.heap.size:=by omega
 have hcl2:w.heap.size+1<w1.heap.size:=by omega
 by_cases hs3:cst=3
 case neg=>
  have HE:=Lib.hid (HE2.out (by first|trivial|rfl) hs3)
  have hs3':(cst !=3)=true:=by rw [bne_iff_ne];exact hs3
  clear HE1 HE2 HE3 HTR hs3
  obtain ⟨z1,z2⟩:=hZ1.cells
  have hzl:=hZ1.lt
  obtain ⟨G0,FR⟩:=Y7 hZ1 (fun b=>b≠w.heap.size+1+1) w.heap.size (fun h=>h rfl) (by omega) (.int .i64 0) (.int .i64 0) (.slice none 0 0) (.slice none 0 0) (.int .i64 0) (.slice none 0 0) (.slice none 0 0) (.int .i64 0) (.slice none 0 0)
  have G:=G0.alloc (.cells #[.int .i64 0,.int .i64 k2] 29)
  obtain ⟨g1,g2⟩:=G.cells
  have hB9:=(hB1.trans FR.below).alloc (hB1.trans FR.below).size (.cells #[.int .i64 0,.int .i64 k2] 29)
  clear FR
  go_wp2_with ((with_reducible refine bodyPost_ret (v:=.tuple #[.agg #[.int .i64 0,.int .i64 0,.slice none 0 0,.slice none 0 0,.int .i64 0,.slice none 0 0,.slice none 0 0,.int .i64 0,.slice none 0 0],.slice none 0 0,.int .i64 11]) ?ra2 ?rb2 ?rc2);go_must (case ra2=>simp [results,Tryz.results34,go_sem,g1]);go_must (case rb2=>rfl);go_must (case rc2=>exact ⟨P4.bad HE.out,hB9⟩))
 subst hs3
 have HE:=Lib.hid (HE3.out (by first|trivial|rfl) rfl)
 clear HE1 HE2 HE3 HTR
 obtain ⟨s1,s2,s3,s4⟩:=hsm
 dsimp only at s1 s2 s3 s4
 go_wp2_with fail
 generalize w1.alloc (.cells #[.int .i64 0,.int .i64 k2] 29)=w3 at *
 generalize w1.heap.size=fb at *
 refine (B3g ⟨3,cnow,cnext,cnum,cws⟩ _ okc w3 (P3.below hH hB2) s1 s2 (by show cws.length≤_;omega)).mono ?_
 rintro e w4 ⟨m0,m1,m2,y0,y1,y2,va,vc,M,rfl,hM,hvM,hN4,hX4,hV4,hb4⟩
 dsimp only at hN4 hX4 hV4
 obtain ⟨lm0,lm1,lm2⟩:=B7.st (P:=Tryz.prog) hN4
 obtain ⟨ly0,ly1,ly2⟩:=B7.st (P:=Tryz.prog) hX4
 obtain ⟨om0,om1,om2⟩:=B7.one hN4
 obtain ⟨oy0,oy1,oy2⟩:=B7.one hX4
 have hB4:=hB2.trans (hb4.mono hB2.size)
 have hC4:=hC2.under hb4
 have hT4:=hT2.under hb4
 have hZ4:=hZ2.under hb4
 have hz4:=hb4.size
 have hz2:=hZ2.lt
 clear hb4 hC2 hF2 c1 c2 hT2 hZ2 hC1 hT1 hZ1 hB1
 have hbx:=G8 w4 (.cells #[.int .i64 4,m0,m1,m2,y0,y1,y2,.int .i64 cnum,.slice va cws.length vc] 43)
 have hD6:=I6 w4 43 #[.int .i64 4,m0,m1,m2,y0,y1,y2,.int .i64 cnum,.slice va cws.length vc]
 have hvD:∀ k,blk va=some k→k<w4.heap.size:=fun k hk=>(hV4.lt k hk).2
 have hC6:=hC4.under hbx
 have hT6:=hT4.under hbx
 have hZ6:=hZ4.under hbx
 have hN6:B7 _ (fun b=>M≤b∧b<w4.heap.size) m0 m1 m2 cnow:=C3.below (C3.anyOk hN4 fun b hb h=>⟨h,hb⟩) hbx
 have hX6:B7 _ (fun b=>M≤b∧b<w4.heap.size) y0 y1 y2 cnext:=C3.below (C3.anyOk hX4 fun b hb h=>⟨h,hb⟩) hbx
 have hV6:=hV4.below hbx
 have hB6:=hB4.trans (hbx.mono hB4.size)
 have hs6:=hbx.size
 have hdl6:=hD6.lt
 obtain ⟨t1,t2⟩:=hT4.cells
 obtain ⟨c1,c2⟩:=hC4.cells
 have hl4:w.heap.size<w4.heap.size:=by omega
 have hl5:w.heap.size+1<w4.heap.size:=by omega
 obtain ⟨n,htN⟩:∃ n:Nat,t.n=(n:Int):=⟨t.n.toNat,by omega⟩
 have HTN:=Lib.hid htN
 rw [htN] at t1
 clear htN
 have hOF:=fun (w':World) (hb:Below w.heap.size w w')=>B5d cnow n [.int .i64 cnow.ver,n1,n2] okc w' (C3.below hn hb) (by have:=HTN.out;omega) (fun s=>Nat.le_trans (s4 s) (by omega)) (Nat.le_trans s1.pts (by omega))
 have HOF:=Lib.hid hOF
 clear hOF
 go_wp2_with fail
 clear c1 c2 t1 t2 hC4 hT4 hZ4 hN4 hX4 hV4 hbx
 generalize w4.alloc _=w6 at *
 generalize w4.heap.size=D at *
 refine (HOF.out w6 hB6).mono ?_
 rintro e w7 ⟨ob,f,rfl,hob,hTb,hb7⟩
 have hC7:=hC6.under hb7
 have hT7:=hT6.under hb7
 have hZ7:=hZ6.under hb7
 have hD7:=hD6.under hb7
 have hN7:B7 w7 (fun b=>M≤b∧b<D) m0 m1 m2 cnow:=C3.below hN6 hb7
 have hX7:B7 w7 (fun b=>M≤b∧b<D) y0 y1 y2 cnext:=C3.below hX6 hb7
 have hV7:=hV6.below hb7
 have hB7:=hB6.trans (hb7.mono hB6.size)
 have hs7:=hb7.size
 have HG0:Hid (([]:List To)=M5 (O0 cnow) 0):=rfl
 have HG1:Hid (∀ (s:Nat) os,os=M5 (O0 cnow) s→∀ q,O0 cnow s=q→os++q=M5 (O0 cnow) (s+1)):=fun s os h q hq=>by rw [h,←hq,Z3]
 have HG2:Hid (∀ (s:Nat) os,os=M5 (O0 cnow) s→os.length≤s):=fun s os h=>by rw [h];exact Q2 (A1s _) s
 have HG3:Hid (∀ os,os=M5 (O0 cnow) n→os=L9 cnow t):=fun os h=>by rw [h];unfold L9;rw [HTN.out];rfl
 have HG4:Hid (∀ s:Nat,O0 cnow s=if C6 cnow s=[] then [] else [⟨s,⟨3,0,cnow.ver,[],[]⟩⟩]):=fun s=>rfl
 clear hb7 hC6 hT6 hZ6 hD6 hN6 hX6 hV6 hB6 HOF
 go_wp2
 go_loopw [9,10,11,34] (fun out _ _ idx wr=>∃ (s:Nat) (oa:Option Addr) (oc:Nat) (os:List To),out=.slice oa os.length oc∧idx=.int .i64 s∧s≤n∧Hid (os=M5 (O0 cnow) s)∧C7 toS 135 (fun _=>False) w7.heap.size wr oa os.length oc os∧Below w7.heap.size w7 wr) (fun _ _ _ idx _=>n - (intOf idx).toNat)
 case atStart=>exact ⟨0,none,0,[],rfl,rfl,Nat.zero_le _,HG0,C7.nil' _ _ _ _,Below.refl _ _⟩
 case round=>
 clear HG0
 obtain ⟨s,oa,oc,os,rfl,rfl,hs,hos,hO,hb8⟩:=hrel
 rename World=>wo
 have hon:=HG2.out s os hos.out
 have hn8:n≤8:=by have:=HTN.out;omega
 by_cases hlt:s<n
 case pos=>
  have b0:(0:Int)≤(s:Int):=by omega
  have b1:(s:Int)<(n:Int):=by omega
  have hTb8:=hTb.under hb8
  have hC8:=hC7.under hb8
  obtain ⟨c1,c2⟩:=hC8.cells
  have hcl8:=hC8.lt
  have hol8:=hTb8.blk.lt
  have e0:=hTb8.cell hlt
  have hsI:I64 (s:Int):=⟨by omega,by omega⟩
  have hG4:=HG4.out s
  have hG1:=HG1.out s os hos.out
  generalize C6 cnow (s:Int)=RI at *
  by_cases hri:RI=[]
  case pos=>
   subst hri
   have HM:=Lib.hid (hG1 [] (by rw [hG4,if_pos rfl]))
   clear hG1 hG4 HG1 HG2 HG3 HG4
   go_wp2
   case roundEnd=>
    go_roundw
    case rel=>exact ⟨s+1,oa,oc,os,rfl,by go_num,by omega,by have:=HM.out;rw [List.append_nil] at this;exact this,hO,hb8⟩
    case measure=>simp [intOf]<;>omega
  have HM:=Lib.hid (hG1 [⟨s,⟨3,0,cnow.ver,[],[]⟩⟩] (by rw [hG4,if_neg hri]))
  have hl1:decide ((RI.length:Int)>0)=true:=by rw [decide_eq_true_iff];have:=List.length_pos_iff.2 hri;omega
  have hl2:(0:Int)<(RI.length:Int):=by have:=List.length_pos_iff.2 hri;omega
  have hl3:0<RI.length:=List.length_pos_iff.2 hri
  clear hG1 hG4 HG1 HG2 HG3 HG4
  obtain ⟨j0,gi,gz0,gz1,gz2⟩:=info_parts A17
  have hbx:=G8 wo (.cells #[.int .i64 s,.int .i64 3,.int .i64 0,.int .i64 cnow.ver,.slice none 0 0,.slice none 0 0] 135)
  have hN:=I6 wo 135 #[.int .i64 s,.int .i64 3,.int .i64 0,.int .i64 cnow.ver,.slice none 0 0,.slice none 0 0]
  have hO9:=hO.below hbx
  have hb9:=hb8.trans (hbx.mono hb8.size)
  have hsrc:D7 toS (fun _=>False) (wo.alloc (.cells #[.int .i64 s,.int .i64 3,.int .i64 0,.int .i64 cnow.ver,.slice none 0 0,.slice none 0 0] 135)) (some ⟨wo.heap.size,0,none⟩) [⟨s,⟨3,0,cnow.ver,[],[]⟩⟩]:=A72 hN hsI (show I64 3 from I64.small (by decide) (by decide)) (show I64 0 from I64.small (by decide) (by decide)) hnv (A8.nil _ _ _ _) (A8.nil _ _ _ _)
  go_wp2_with (at_builtin;go_must (refine H4 (sh:=toS) (base:=w7.heap.size) (n:=os.length) (m:=1) rfl _ _ 103 rfl 135 j0 (.agg #[.int .i64 0,.int .i64 0,.int .i64 0,.int .i64 0,.slice none 0 0,.slice none 0 0]) 80 Tryz.underlying103 gi gz0 gz1 gz2 rfl (by decide) rfl hO9 rfl rfl hsrc (by simp only [maxLen];omega) (by omega) hb9.size ?_);go_must (intro oa9 oc9 w9 hown9 hg9 hd9;have hb10:=hb9.trans (D6 (B:=w7.heap.size) hg9 (fun k hk=>(hO9.lt k hk).1) hb9.size)))
  case roundEnd=>
   have hln:(os++[(⟨s,⟨3,0,cnow.ver,[],[]⟩⟩:To)]).length=os.length+1:=by simp
   go_roundw
   case rel=>exact ⟨s+1,oa9,oc9,_,by rw [hln],by go_num,by omega,HM,by rw [hln];exact hown9,hb10⟩
   case measure=>simp [intOf]<;>omega
 obtain rfl:s=n:=by omega
 have hosg:=HG3.out os hos.out
 have HEX:=Lib.hid (HE.out os hosg)
 have b1:¬(s:Int)<(s:Int):=by omega
 have hC8:=hC7.under hb8
 have hT8:=hT7.under hb8
 have hZ8:=hZ7.under hb8
 have hD8:=hD7.under hb8
 have hN8:B7 wo (fun b=>M≤b∧b<D) m0 m1 m2 cnow:=C3.below hN7 hb8
 have hX8:B7 wo (fun b=>M≤b∧b<D) y0 y1 y2 cnext:=C3.below hX7 hb8
 have hV8:=hV7.below hb8
 have hB8:=hB7.trans (hb8.mono hB7.size)
 have hs8:=hb8.size
 have hO8:=hO.base (by omega:w.heap.size≤w7.heap.size)
 have hoa:∀ k,blk oa=some k→D<k∧k<wo.heap.size:=fun k hk=>⟨by have:=(hO.lt k hk).1;omega,(hO.lt k hk).2⟩
 clear HG1 HG2 HG3 HG4 hos hosg HE hC7 hT7 hZ7 hD7 hN7 hX7 hV7 hB7 hTb hlt hO hb8 hC8
 go_wp2_with fail
 have hVs:=(hV8.ints_any (ok':=fun b=>b<wo.heap.size∧b≠D∧blk oa≠some b∧blk va≠some b) (fun k hk h=>h.2.2.2 hk) (fun b h=>h.1)).base (by omega:w.heap.size≤w3.heap.size)
 have hdl8:=hD8.lt
 refine (A9m ⟨4,cnow,cnext,cnum,cws⟩ os (fun b=>b<wo.heap.size∧b≠D∧blk oa≠some b∧blk va≠some b) (fun _=>False) w.heap.size D m0 m1 m2 y0 y1 y2 va vc oa oc wo hD8 hVs hO8 (fun _ h=>h.elim) (fun k hk h=>h.2.2.1 hk) (by omega) (fun h=>h.2.1 rfl) hB8.size (by omega) (by show cws.length≤_;omega)).mono ?_
 rintro e w9 ⟨va9,vc9,rfl,hD9,hV9,hO9,hF9⟩
 have hKs:∀ b,M≤b∧b<D→b<wo.heap.size∧b≠D∧blk oa≠some b∧blk va≠some b:=fun b hb=>⟨by have:=hb.2;omega,by have:=hb.2;omega,fun e=>by have:=hoa b e;have:=hb.2;omega,fun e=>by have:=hvM b e;have:=hb.1;omega⟩
 have hlow:∀ b,b<D→blk oa≠some b:=fun b hb e=>by have:=hoa b e;omega
 have hT9:=hF9.blk hT8 (.inl ⟨hT8.lt,by omega,hlow _ (by omega),hV8.noType hT8 (by decide)⟩)
 have hZ9:=hF9.blk hZ8 (.inl ⟨hZ8.lt,by omega,hlow _ (by omega),hV8.noType hZ8 (by decide)⟩)
 have hN9:=hF9.rep' hN8 (fun b hb=>.inl (hKs b hb))
 have hX9:=hF9.rep' hX8 (fun b hb=>.inl (hKs b hb))
 have hB9:=hB8.trans hF9.below
 have hs9:=hF9.size
 have hnum9:=A4m ⟨4,cnow,cnext,cnum,cws⟩ os hnu
 have hkp:=P7 ⟨4,cnow,cnext,cnum,cws⟩ os
 have hsl:=T0 ⟨4,cnow,cnext,cnum,cws⟩ os
 have HEY:Hid (∀ sr,E6 ⟨4,cnow,cnext,cnum,cws⟩ os=sr→∀ tr,C0 sr.1 t=tr→R=(tr.1,sr.2++tr.2,0)):=HEX.out
 have hvA:∀ k,blk va9=some k→¬(M≤k∧k<D):=fun k hk h=>hV9.not k hk (hKs k h)
 clear HEX hVs hD8 hT8 hZ8 hN8 hX8 hV8 hB8 hO8 hF9 hKs hlow
 generalize hsr:E6 ⟨4,cnow,cnext,cnum,cws⟩ os=sr at *
 have HEZ:=Lib.hid (HEY.out sr rfl)
 obtain ⟨⟨q1,q2,q3,q4,q5⟩,sl⟩:=sr
 dsimp only at *
 obtain ⟨rfl,rfl,rfl⟩:=hkp
 obtain ⟨hsl1,hsl2⟩:=hsl
 have hsl3:sl.length≤8:=by omega
 have hq5:q5.length≤1000000100:=by omega
 have HSL:=Lib.hid hsl1
 clear hsl1 hsl2 HEY hsr
 rw [←HSL.out] at hO9
 have hrw:Value.slice oa os.length oc=.slice oa sl.length oc:=by rw [HSL.out]
 rw [hrw]
 clear hrw HSL hon
 have hKKl:∀ b,M≤b∧b<D→b<w9.heap.size:=fun b hb=>by have:=hb.2;omega
 have hKKd:∀ b,M≤b∧b<D→b≠D:=fun b hb=>by have:=hb.2;omega
 have hKKr:∀ b,M≤b∧b<D→b≠w.heap.size+1+1:=fun b hb=>by have:=hb.1;omega
 have hKKn:∀ b,M≤b∧b<D→w.heap.size≤b:=fun b hb=>by have:=hb.1;omega
 have hoaK:∀ b,blk oa=some b→¬(M≤b∧b<D):=fun b e h=>by have:=hoa b e;omega
 have hsn9:=s2
 have hVVb:∀ b,False→w.heap.size≤b∧b≠w.heap.size+1+1:=fun _ h=>h.elim
 obtain ⟨c1,c2⟩:=hD9.cells
 obtain ⟨t1,t2⟩:=hT9.cells
 have hdl9:=hD9.lt
 have htl9:=hT9.lt
 go_wp2_with fail
 clear c1 c2 t1 t2
 have hbT:=A40 hT rfl hB9
 have hV9':=hV9.ints_any (ok':=fun b=>b<w9.heap.size∧blk va9≠some b) (fun k hk h=>h.2 hk) (fun b h=>h.1)
 refine (A6s ⟨4,q2,q3,q4,q5⟩ t _ (fun b=>b<w9.heap.size∧blk va9≠some b) (fun b=>M≤b∧b<D) w.heap.size m0 m1 m2 y0 y1 y2 va9 vc9 w9 (fun b hb=>⟨hKKl b hb,fun e=>hvA b e hb⟩) hN9 hX9 hV9' (show I64 4 from I64.small (by decide) (by decide)) hnum9 hbT ht0 ht8 hsn9 hB9.size (by show q5.length≤_;omega)).mono ?_
 rintro e wA ⟨p0,p1,p2,r0,r1,r2,ua,uc,oa2,oc2,rfl,hNA,hXA,hUA,hks,hkn,hOA,hFA⟩
 have hvt:∀ {b:Nat} {tt:TypeId} {cs:Array Value},A6 w9 b tt cs→3≠tt→blk va9≠some b:=fun h hne=>hV9.noType h hne
 have hDA:=hFA.blk hD9 (.inl ⟨hD9.lt,hvt hD9 (by decide)⟩)
 have hZA:=hFA.blk hZ9 (.inl ⟨hZ9.lt,hvt hZ9 (by decide)⟩)
 have hPA:=hO9.frm hFA (fun _ h=>h.elim) (fun k hk=>⟨(hO9.lt k hk).2,hO9.apart hV9 (by decide) k hk⟩)
 have hBA:=hB9.trans hFA.below
 have hsA:=hFA.size
 have hoaD:∀ k,blk oa=some k→k<w9.heap.size:=fun k hk=>(hO9.lt k hk).2
 clear hN9 hX9 hV9 hV9' hD9 hZ9 hT9 hFA hvt hB9 hbT hO9
 have htl:=A30 ⟨4,q2,q3,q4,q5⟩ t
 have htl8:t.n.toNat≤8:=by omega
 generalize htr:C0 ⟨4,q2,q3,q4,q5⟩ t=tr at *
 have HEF:=Lib.hid (HEZ.out tr rfl)
 clear HEZ htr
 obtain ⟨⟨st2,now2,next2,num2,ws2⟩,tl⟩:=tr
 dsimp only at *
 obtain ⟨lp0,lp1,lp2⟩:=B7.st (P:=Tryz.prog) hNA
 obtain ⟨lq0,lq1,lq2⟩:=B7.st (P:=Tryz.prog) hXA
 obtain ⟨op0,op1,op2⟩:=B7.one hNA
 obtain ⟨oq0,oq1,oq2⟩:=B7.one hXA
 obtain ⟨hDB,FR1⟩:=Y7 hDA (fun b=>b≠D) w.heap.size (fun h=>h rfl) (by omega) (.int .i64 st2) p0 p1 p2 r0 r1 r2 (.int .i64 num2) (.slice ua ws2.length uc)
 have hZB:=FR1.blk hZA (.inl (by omega))
 have hNB:=FR1.rep' hNA (fun b hb=>.inl (hKKd b hb))
 have hXB:=FR1.rep' hXA (fun b hb=>.inl (hKKd b hb))
 have hUB:=(hUA.ints_any (ok':=fun _=>False) (fun _ _ h=>h) (fun _ h=>h.elim)).frm FR1 (fun _ h=>h.elim) (fun k hk e=>hUA.noType hDA (by decide) (e▸hk))
 have hPB:=hPA.frm FR1 (fun _ h=>h.elim) (fun k hk e=>hPA.noType hDA (by decide) (e▸hk))
 have hOB:=FR1.row' hOA (fun b hb=>.inl (by omega))
 have hBB:=hBA.trans FR1.below
 have hsB:=FR1.size
 obtain ⟨c1,c2⟩:=hDA.cells
 have hdlA:=hDA.lt
 clear FR1 hZA hNA hXA hUA hPA hOA hBA
 go_wp2
 clear c1 c2 hdlA hDA
 generalize (((((((((wA.setCell ⟨D,0,none⟩ (.int .i64 st2)).setCell ⟨D,1,none⟩ p0).setCell ⟨D,2,none⟩ p1).setCell ⟨D,3,none⟩ p2).setCell ⟨D,4,none⟩ r0).setCell ⟨D,5,none⟩ r1).setCell ⟨D,6,none⟩ r2).setCell ⟨D,7,none⟩ (.int .i64 num2)).setCell ⟨D,8,none⟩ (.slice ua ws2.length uc))=wB at *
 obtain ⟨j0,gi,gz0,gz1,gz2⟩:=info_parts A17
 have hS0:SA D #[.int .i64 st2,p0,p1,p2,r0,r1,r2,.int .i64 num2,.slice ua ws2.length uc] wB.drew:=hDB.cells.1
 refine B9 (SA D #[.int .i64 st2,p0,p1,p2,r0,r1,r2,.int .i64 num2,.slice ua ws2.length uc]) 99 (fun a0 a' w'=>∃ v5 v60 v61 v62 v63,a'=C8 a0 [(5,v5),(60,v60),(61,v61),(62,v62),(63,v63),(6,.int .i64 0)]∧∃ oa9 oc9,v5=.slice oa9 (sl++tl).length oc9∧A8 toS (fun b=>w.heap.size≤b) w' oa9 oc9 (sl++tl)∧A6 w' (w.heap.size+1+1) 43 #[.int .i64 st2,p0,p1,p2,r0,r1,r2,.int .i64 num2,.slice ua ws2.length uc]∧B7 w' (fun b=>M≤b∧b<D) p0 p1 p2 now2∧B7 w' (fun b=>M≤b∧b<D) r0 r1 r2 next2∧A8 C2 (fun b=>w.heap.size≤b) w' ua uc ws2∧Below w.heap.size w w') (by kernel_rfl) ?_ ?_
 ·intro Q' hR hQp
  have hb0:Below wB.heap.size wB wB.drew:=N4 _
  have hS:SA D #[.int .i64 st2,p0,p1,p2,r0,r1,r2,.int .i64 num2,.slice ua ws2.length uc] wB.drew:=hS0
  generalize wB.drew=wa at *
  have hDa:=hDB.under hb0
  have hZa:=hZB.under hb0
  have hNa:B7 wa (fun b=>M≤b∧b<D) p0 p1 p2 now2:=C3.below hNB hb0
  have hXa:B7 wa (fun b=>M≤b∧b<D) r0 r1 r2 next2:=C3.below hXB hb0
  have hUa:=hUB.below hb0
  have hPa:=hPB.below hb0
  have hOa:=hOB.below hb0
  have hBa:=hBB.trans (hb0.mono hBB.size)
  have hsa:=hb0.size
  have hdla:=hDa.lt
  have hzla:=hZa.lt
  refine A9 hQp hS [0,1,2] ?_
  iterate 3 (refine B2 _ rfl (by kernel_rfl) (A0 (by kernel_rfl) (by intro w0 hw0;have hw1:=hw0;simp only [SA] at hw1;first|(go_simp;done)|(go_simp;rfl))) ?_;simp only [Act.put,St.tA,St.tD,St.tE,St.tS,St.tC,St.tZ])
  refine B3 ?_
  clear hS
  have hown:C7 toS 135 (fun b=>False∨(w9.heap.size≤b∧b<wa.heap.size)) w.heap.size wa oa sl.length oc sl:=hPa.weaken (fun b h=>.inl h) (fun k hk h=>by
   rcases h with h|h
   ·exact hPa.not k hk h
   ·have:=hoaD k hk;omega) (fun b h=>by
   rcases h with h|h
   ·exact hPa.okLt b h
   ·exact h.2)
  have hsrc:D7 toS (fun b=>False∨(w9.heap.size≤b∧b<wa.heap.size)) wa oa2 tl:=(hOa.mono (ok':=fun b=>False∨(w9.heap.size≤b∧b<wa.heap.size)) (fun b hb h=>⟨.inr ⟨h,hb⟩,rfl⟩)).src
  refine A7 (i:=3) rfl (by kernel_rfl) (by kernel_rfl) fun K3 hK3=>?_
  refine Q3 (sh:=toS) (n:=sl.length) (m:=tl.length) (.tmp 61) (.tmp 62) 103 (by rfl) 135 j0 (.agg #[.int .i64 0,.int .i64 0,.int .i64 0,.int .i64 0,.slice none 0 0,.slice none 0 0]) 80 Tryz.underlying103 gi gz0 gz1 gz2 rfl (by decide) (ok:=fun b=>False∨(w9.heap.size≤b∧b<wa.heap.size)) (base:=w.heap.size) (by rfl) hown (by rfl) rfl hsrc (by simp only [maxLen];omega) (by omega) hBa.size ?_
  intro oa9 oc9 wb hob hgb hlieb
  have hne:∀ {b:Nat} {tt:TypeId} {cs:Array Value},A6 wa b tt cs→135≠tt→some b≠blk oa:=fun h hn e=>hPa.noType h hn e.symm
  have hDb:=hDa.grown hgb (hne hDa (by decide))
  have hZb:=hZa.grown hgb (hne hZa (by decide))
  have hFb:Frm (fun b=>blk oa≠some b) w.heap.size wa wb:=Frm.grown hgb (fun k hk=>⟨fun e=>e hk,(hPa.lt k hk).1⟩) hBa.size
  have hNb:=hFb.rep' hNa (fun b hb=>.inl (fun e=>hoaK b e hb))
  have hXb:=hFb.rep' hXa (fun b hb=>.inl (fun e=>hoaK b e hb))
  have hUb:=hUa.frm hFb (fun _ h=>h.elim) (fun k hk e=>hUa.apart hPa (by decide) k hk e)
  have hBb:=hBa.trans hFb.below
  have hzlb:=hZb.lt
  simp only [Act.put,St.tA,St.tD,St.tE,St.tS,St.tC,St.tZ]
  have hS:_:=hDb.cells.1
  refine hK3 _ _ (fun _=>hS) ?_
  clear hK3
  obtain ⟨z1,z2⟩:=hZb.cells
  clear hS
  refine A7 (i:=4) rfl (by kernel_rfl) (by kernel_rfl) fun K4 hK4=>?_
  go_simp
  go_wp2_with fail
  obtain ⟨hZc,FR2⟩:=Y7 hZb (fun b=>b≠w.heap.size+1+1) w.heap.size (fun h=>h rfl) (by omega) (.int .i64 st2) p0 p1 p2 r0 r1 r2 (.int .i64 num2) (.slice ua ws2.length uc)
  have hobr:A8 toS (fun b=>w.heap.size≤b∧b≠w.heap.size+1+1) wb oa9 oc9 (sl++tl):=hob.row (fun b h=>by
   rcases h with h|h
   ·exact ⟨(hVVb b h).1,(hVVb b h).2⟩
   ·exact ⟨by omega,by omega⟩) (fun k hk=>⟨(hob.lt k hk).1,fun e=>hob.noType hZb (by decide) (e▸hk)⟩)
  have hUr:A8 C2 (fun b=>w.heap.size≤b∧b≠w.heap.size+1+1) wb ua uc ws2:=hUb.row (fun _ h=>h.elim) (fun k hk=>⟨(hUb.lt k hk).1,fun e=>hUb.noType hZb (by decide) (e▸hk)⟩)
  have hS:_:=(FR2.blk hDb (.inl (by omega))).cells.1
  refine hK4 _ _ (fun _=>hS) ?_
  clear hK4
  clear z1 z2
  refine A9 hQp hS [5,6] ?_
  iterate 2 (refine B2 _ rfl (by kernel_rfl) (A0 (by kernel_rfl) (by intro w0 hw0;have hw1:=hw0;simp only [SA] at hw1;first|(go_simp;done)|(go_simp;rfl))) ?_;simp only [Act.put,St.tA,St.tD,St.tE,St.tS,St.tC,St.tZ])
  refine B3 ?_
  refine B5 (by kernel_rfl) ?_ _
  refine hR _ _ ?_
  iterate 5 apply Exists.intro
  refine ⟨?_,⟨oa9,oc9,by rw [List.length_append],(FR2.row' hobr (fun b hb=>.inl hb.2)).anyOk (fun b _ hb=>hb.1),hZc,FR2.rep' hNb (fun b hb=>.inl (hKKr b hb)),FR2.rep' hXb (fun b hb=>.inl (hKKr b hb)),(FR2.row' hUr (fun b hb=>.inl hb.2)).anyOk (fun b _ hb=>hb.1),hBb.trans FR2.below⟩⟩
  simp only [C8,Act.put,St.tS,St.tC,St.tZ]
  rfl
 rintro a' w8 ⟨v5,v60,v61,v62,v63,rfl,hb8⟩
 simp only [C8,Act.put,St.tS,St.tC,St.tZ]
 obtain ⟨oa9,oc9,rfl,hr9,hZ9,hN9,hX9,hU9,hB9⟩:=hb8
 obtain ⟨g1,g2⟩:=hZ9.cells
 have HOUT:=Lib.hid (And.intro (P4.ok (N:=w.heap.size) HEF.out hks hkn hN9 hX9 hU9 hr9 (fun b hb=>hKKn b hb) (fun b hb=>hKKn b hb) (fun b hb=>hb) (fun b hb=>hb)) hB9)
 clear hr9 hN9 hX9 hU9 hB9 hDB hZB hNB hXB hUB hPB hOB hBB
 go_wp2_with ((with_reducible refine bodyPost_ret (v:=.tuple #[.agg #[.int .i64 st2,p0,p1,p2,r0,r1,r2,.int .i64 num2,.slice ua ws2.length uc],.slice oa9 (sl++tl).length oc9,.int .i64 0]) ?ra3 ?rb3 ?rc3);go_must (case ra3=>simp [results,Tryz.results34,go_sem,g1]);go_must (case rb3=>rfl);go_must (case rc3=>exact HOUT.out))
end Go.Proofs.YtampcbncgofkoaaGreatDoor
