/- Texts of this proof, one behind the other. -/
import Derived.Test.YtampcbncgofkoaaPk31
set_option linter.unusedSimpArgs false
set_option linter.unusedVariables false
set_option maxRecDepth 100000
set_option maxHeartbeats 16000000
namespace Go.St
open Go.RowKit
def P4 (N:Nat) (R:Ctl × List To × Int) (e:Ending) (w':World):Prop:=
 ∃ (ks:List Value) (oa:Option Addr) (oc:Nat),e=.returned (.tuple #[.agg ks.toArray,.slice oa R.2.1.length oc,.int .i64 R.2.2])∧P3.rep (fun b=>N≤b) w' ks R.1∧A8 toS (fun b=>N≤b) w' oa oc R.2.1
theorem P4.bad {N:Nat} {R:Ctl × List To × Int} {k:Int} {w':World} (h:R=(Q6,[],k)):
  P4 N R (.returned (.tuple #[.agg #[.int .i64 0,.int .i64 0,.slice none 0 0,.slice none 0 0,.int .i64 0,.slice none 0 0,.slice none 0 0,.int .i64 0,.slice none 0 0],.slice none 0 0,.int .i64 k])) w':=by
 subst h
 exact ⟨_,none,0,rfl,P3.mk_ (c:=Q6) (I64.small (by decide) (by decide)) (I64.small (by decide) (by decide)) (A05 _ _) (A05 _ _) (A8.nil _ _ _ _),A8.nil _ _ _ _⟩
theorem P4.ok {N:Nat} {R:Ctl × List To × Int} {st num:Int} {now next:F5} {ws:List Int} {sl:List To} {p0 p1 p2 q0 q1 q2:Value} {ua oa:Option Addr} {uc oc:Nat} {w':World} {o1 o2 o3 o4:Nat→Prop} (h:R=(⟨st,now,next,num,ws⟩,sl,0)) (h1:I64 st) (h2:I64 num)
  (h3:B7 w' o1 p0 p1 p2 now) (h4:B7 w' o2 q0 q1 q2 next) (h5:A8 C2 o3 w' ua uc ws) (h6:A8 toS o4 w' oa oc sl) (k1:∀ b,o1 b→N≤b) (k2:∀ b,o2 b→N≤b) (k3:∀ b,o3 b→N≤b) (k4:∀ b,o4 b→N≤b):
  P4 N R (.returned (.tuple #[.agg #[.int .i64 st,p0,p1,p2,q0,q1,q2,.int .i64 num,.slice ua ws.length uc],.slice oa sl.length oc,.int .i64 0])) w':=by
 subst h
 exact ⟨_,oa,oc,rfl,P3.mk_ (c:=⟨st,now,next,num,ws⟩) h1 h2 (C3.anyOk h3 fun b _ hb=>k1 b hb) (C3.anyOk h4 fun b _ hb=>k2 b hb) (h5.anyOk fun b _ hb=>k3 b hb),h6.anyOk fun b _ hb=>k4 b hb⟩
theorem A30 (c:Ctl) (t:C5):(C0 c t).2.length≤t.n.toNat:=by
 unfold C0
 split
 ·simp
 ·split
  ·split
   ·simp
   ·rw [(T0 _ _).1];exact Q2 (U5 _) _
  ·split
   ·simp
   ·split<;>simp
structure A2n (c:Ctl):Prop where
 now:N6 c.now
 next:N6 c.next
 waits:c.waits.length≤1000000000
 rul:∀ s:Nat,(C6 c.now s).length≤1000000000
def SBf (b:Nat) (k:Int) (w:World):Prop:=w.cell? ⟨b,0,none⟩=some (.int .i64 k)
theorem A40 {w w':World} {N:Nat} {ok:Nat→Prop} {ts:List Value} {t:C5} (h:I5.rep ok w ts t) (hN:w.heap.size=N) (hb:Below N w w'):I5.rep (fun b=>b<N) w' ts t:=
 I5.mono h fun b hlt _=>⟨by omega,hb.block b (by omega)⟩
end Go.St
namespace Go.Proofs.Ytampcbncgofkoaa
open Go.RowKit Go.St
theorem B4y (c:Ctl) (t:C5) (num:Int) (cs ts:List Value) (okc okt:Nat→Prop) (w:World) (h:P3.rep okc w cs c) (ht:I5.rep okt w ts t) (hsm:A2n c):
  Calls Try.prog 47 #[.agg cs.toArray,.agg ts.toArray,.int .i64 num] w fun e w'=>P4 w.heap.size (H8 c t num) e w'∧Below w.heap.size w w':=by
 have hH:=h
 have hT:=ht
 obtain ⟨n0,n1,n2,x0,x1,x2,pa,pc,rfl,hst,hnu,hn,hx,hw⟩:=P3.open_ h
 obtain ⟨la,lc,rfl,htn,htr⟩:=ht
 have HE1:Hid ((B6 t).1≠0→H8 c t num=(Q6,[],(B6 t).1)):=fun h=>by unfold H8;rw [if_pos h]
 have HE2:Hid ((B6 t).1=0→N8 num c.waits=none→H8 c t num=(Q6,[],6)):=fun h h2=>by unfold H8;rw [if_neg (fun h3=>h3 h),h2]
 have HE3:Hid ((B6 t).1=0→∀ i,N8 num c.waits=some i→H8 c t num=((C0 ⟨c.stage,c.now,c.next,c.num,c.waits.eraseIdx i⟩ t).1,(C0 ⟨c.stage,c.now,c.next,c.num,c.waits.eraseIdx i⟩ t).2,0)):=fun h i h2=>by unfold H8;rw [if_neg (fun h3=>h3 h),h2]
 have HTR:Hid ((B6 t).1=0→0≤t.n∧t.n≤8):=fun h=>by have:=(J8 h).1;omega
 generalize H8 c t num=R at *
 obtain ⟨cst,cnow,cnext,cnum,cws⟩:=c
 dsimp only at *
 obtain ⟨lx0,lx1,lx2⟩:=hx.one
 obtain ⟨ln0,ln1,ln2⟩:=hn.one
 have hwx:=hw.len_le
 have hB0:Below w.heap.size w (((w.alloc (.cells #[.int .i64 cst,n0,n1,n2,x0,x1,x2,.int .i64 cnum,.slice pa cws.length pc] 44)).alloc (.cells #[.int .i64 t.n,.slice la t.links.length lc] 24)).alloc (.cells #[.int .i64 0,.int .i64 0,.slice none 0 0,.slice none 0 0,.int .i64 0,.slice none 0 0,.slice none 0 0,.int .i64 0,.slice none 0 0] 44)):=A7q _ _ _ _
 have hC0:A6 (((w.alloc (.cells #[.int .i64 cst,n0,n1,n2,x0,x1,x2,.int .i64 cnum,.slice pa cws.length pc] 44)).alloc (.cells #[.int .i64 t.n,.slice la t.links.length lc] 24)).alloc (.cells #[.int .i64 0,.int .i64 0,.slice none 0 0,.slice none 0 0,.int .i64 0,.slice none 0 0,.slice none 0 0,.int .i64 0,.slice none 0 0] 44)) w.heap.size 44 #[.int .i64 cst,n0,n1,n2,x0,x1,x2,.int .i64 cnum,.slice pa cws.length pc]:=((A6.new rfl).alloc _).alloc _
 have hT0:A6 (((w.alloc (.cells #[.int .i64 cst,n0,n1,n2,x0,x1,x2,.int .i64 cnum,.slice pa cws.length pc] 44)).alloc (.cells #[.int .i64 t.n,.slice la t.links.length lc] 24)).alloc (.cells #[.int .i64 0,.int .i64 0,.slice none 0 0,.slice none 0 0,.int .i64 0,.slice none 0 0,.slice none 0 0,.int .i64 0,.slice none 0 0] 44)) (w.heap.size+1) 24 #[.int .i64 t.n,.slice la t.links.length lc]:=(A6.new (by simp)).alloc _
 have hZ0:A6 (((w.alloc (.cells #[.int .i64 cst,n0,n1,n2,x0,x1,x2,.int .i64 cnum,.slice pa cws.length pc] 44)).alloc (.cells #[.int .i64 t.n,.slice la t.links.length lc] 24)).alloc (.cells #[.int .i64 0,.int .i64 0,.slice none 0 0,.slice none 0 0,.int .i64 0,.slice none 0 0,.slice none 0 0,.int .i64 0,.slice none 0 0] 44)) (w.heap.size+1+1) 44 #[.int .i64 0,.int .i64 0,.slice none 0 0,.slice none 0 0,.int .i64 0,.slice none 0 0,.slice none 0 0,.int .i64 0,.slice none 0 0]:=A6.new (by simp)
 go_enter Try.func47,Try.ntmps47
 go_wp2_with fail
 generalize (((w.alloc (.cells #[.int .i64 cst,n0,n1,n2,x0,x1,x2,.int .i64 cnum,.slice pa cws.length pc] 44)).alloc (.cells #[.int .i64 t.n,.slice la t.links.length lc] 24)).alloc (.cells #[.int .i64 0,.int .i64 0,.slice none 0 0,.slice none 0 0,.int .i64 0,.slice none 0 0,.slice none 0 0,.int .i64 0,.slice none 0 0] 44))=w0 at *
 refine (T9 t _ okt w0 (I5.below hT hB0)).mono ?_
 rintro e w1 ⟨rfl,hb1⟩
 have hbx:=G8 w1 (.cells #[.int .i64 (B6 t).1,.int .i64 (B6 t).2] 35)
 have hB1:=hB0.trans (hb1.mono hB0.size)
 have hB2:=hB1.trans (hbx.mono hB1.size)
 have hC2:=(hC0.under hb1).under hbx
 have hT2:=(hT0.under hb1).under hbx
 have hZ2:=(hZ0.under hb1).under hbx
 have hF2:=I6 w1 35 #[.int .i64 (B6 t).1,.int .i64 (B6 t).2]
 have hfz:w.heap.size+1+1<w1.heap.size:=(hZ0.under hb1).lt
 have hC1:=hC0.under hb1
 have hT1:=hT0.under hb1
 have hZ1:=hZ0.under hb1
 clear hb1 hbx hB0 hC0 hT0 hZ0
 generalize B6 t=tw at *
 obtain ⟨k1,k2⟩:=tw
 dsimp only at *
 by_cases h1:k1=0
 case neg=>
  have HE:=Lib.hid (HE1.out h1)
  have h1':(k1 !=0)=true:=by rw [bne_iff_ne];exact h1
  clear HE1 HE2 HE3 HTR h1 hC1 hT1 hZ1 hB1
  obtain ⟨f1,f2⟩:=hF2.cells
  go_wp2
  generalize w1.alloc (.cells #[.int .i64 k1,.int .i64 k2] 35)=w2 at *
  generalize w1.heap.size=fb at *
  clear f1 f2
  have hS0:SBf fb k1 w2.drew:=hF2.cells.1 0
  refine B9 (SBf fb k1) 99 (fun a0 a' w'=>∃ v18 v19 v20,a'=C8 a0 [(18,v18),(19,v19),(20,v20),(7,.slice none 0 0),(8,.int .i64 k1)]∧A6 w' (w.heap.size+1+1) 44 #[.int .i64 0,.int .i64 0,.slice none 0 0,.slice none 0 0,.int .i64 0,.slice none 0 0,.slice none 0 0,.int .i64 0,.slice none 0 0]∧Below w.heap.size w w') (by kernel_rfl) ?_ ?_
  ·intro Q' hR hQp
   have hb0:Below w2.heap.size w2 w2.drew:=N4 _
   have hS:SBf fb k1 w2.drew:=hS0
   generalize w2.drew=wa at *
   have hZa:=hZ2.under hb0
   have hFa:=hF2.under hb0
   have hBa:=hB2.trans (hb0.mono hB2.size)
   obtain ⟨z1,z2⟩:=hZa.cells
   have hzl:=hZa.lt
   refine A9 hQp hS [0,1,2] ?_
   iterate 3 (refine B2 _ rfl (by kernel_rfl) (A0 (by kernel_rfl) (by intro w0 hw0;have hw1:=hw0;simp only [SBf] at hw1;first|(go_simp;done)|(go_simp;rfl))) ?_;simp only [Act.put,St.tA,St.tD,St.tE,St.tS,St.tC,St.tZ])
   refine B3 ?_
   clear hS
   refine A7 (i:=3) rfl (by kernel_rfl) (by kernel_rfl) fun K3 hK3=>?_
   go_simp
   go_wp2_with fail
   obtain ⟨G,FR⟩:=Y7 hZa (fun b=>b≠w.heap.size+1+1) w.heap.size (fun h=>h rfl) (by omega) (.int .i64 0) (.int .i64 0) (.slice none 0 0) (.slice none 0 0) (.int .i64 0) (.slice none 0 0) (.slice none 0 0) (.int .i64 0) (.slice none 0 0)
   have hS:_:=(FR.blk hFa (.inl (by omega))).cells.1 0
   refine hK3 _ _ (fun _=>hS) ?_
   clear hK3
   refine A9 hQp hS [4,5] ?_
   iterate 2 (refine B2 _ rfl (by kernel_rfl) (A0 (by kernel_rfl) (by intro w0 hw0;have hw1:=hw0;simp only [SBf] at hw1;first|(go_simp;done)|(go_simp;rfl))) ?_;simp only [Act.put,St.tA,St.tD,St.tE,St.tS,St.tC,St.tZ])
   refine B3 ?_
   refine B5 (by kernel_rfl) ?_ _
   refine hR _ _ ?_
   iterate 3 apply Exists.intro
   refine ⟨?_,⟨G,hBa.trans FR.below⟩⟩
   simp only [C8,Act.put,St.tS,St.tC,St.tZ]
   rfl
  rintro a' w8 ⟨v18,v19,v20,rfl,hb8⟩
  simp only [C8,Act.put,St.tS,St.tC,St.tZ]
  obtain ⟨hZ9,hB9⟩:=hb8
  obtain ⟨g1,g2⟩:=hZ9.cells
  go_wp2_with ((with_reducible refine bodyPost_ret (v:=.tuple #[.agg #[.int .i64 0,.int .i64 0,.slice none 0 0,.slice none 0 0,.int .i64 0,.slice none 0 0,.slice none 0 0,.int .i64 0,.slice none 0 0],.slice none 0 0,.int .i64 k1]) ?ra1 ?rb1 ?rc1);go_must (case ra1=>simp [results,Try.results47,go_sem,g1]);go_must (case rb1=>rfl);go_must (case rc1=>exact ⟨P4.bad HE.out,hB9⟩))
 subst h1
 obtain ⟨ht0,ht8⟩:=HTR.out (by first|trivial|rfl)
 have hIX:=fun (w':World) (hb:Below w.heap.size w w')=>A29 cws num okc pa pc w' (hw.below hb)
 have HIX:=Lib.hid hIX
 clear hIX HE1 HTR hC1 hT1 hZ1 hB1
 obtain ⟨f1,f2⟩:=hF2.cells
 obtain ⟨c1,c2⟩:=hC2.cells
 go_wp2_with fail
 generalize w1.alloc (.cells #[.int .i64 0,.int .i64 k2] 35)=w2 at *
 generalize w1.heap.size=fb at *
 refine (HIX.out w2 hB2).mono ?_
 rintro e w3 ⟨rfl,rfl⟩
 clear HIX
 cases hix:N8 num cws
 case none=>
  have HE:=Lib.hid (HE2.out (by first|trivial|rfl) hix)
  have hii:A1r num cws=-1:=by unfold A1r;rw [hix]
  rw [hii]
  clear HE2 HE3 hix hii
  obtain ⟨z1,z2⟩:=hZ2.cells
  have hzl:=hZ2.lt
  obtain ⟨G,FR⟩:=Y7 hZ2 (fun b=>b≠w.heap.size+1+1) w.heap.size (fun h=>h rfl) (by omega) (.int .i64 0) (.int .i64 0) (.slice none 0 0) (.slice none 0 0) (.int .i64 0) (.slice none 0 0) (.slice none 0 0) (.int .i64 0) (.slice none 0 0)
  obtain ⟨g1,g2⟩:=G.cells
  have hB9:=hB2.trans FR.below
  clear FR
  go_wp2_with ((with_reducible refine bodyPost_ret (v:=.tuple #[.agg #[.int .i64 0,.int .i64 0,.slice none 0 0,.slice none 0 0,.int .i64 0,.slice none 0 0,.slice none 0 0,.int .i64 0,.slice none 0 0],.slice none 0 0,.int .i64 6]) ?ra2 ?rb2 ?rc2);go_must (case ra2=>simp [results,Try.results47,go_sem,g1]);go_must (case rb2=>rfl);go_must (case rc2=>exact ⟨P4.bad HE.out,hB9⟩))
 case some i=>
  have HE:=Lib.hid (HE3.out (by first|trivial|rfl) i hix)
  have hii:A1r num cws=(i:Int):=by unfold A1r;rw [hix]
  have hil:i<cws.length:=(List.getElem?_eq_some_iff.1 (S2 hix)).1
  rw [hii]
  have i1:¬(i:Int)<0:=by omega
  have i2:IntKind.i64.wrap ((i:Int)+1)=(i:Int)+1:=IntWalk.i64_in _ (by omega)
  clear HE2 HE3 hix hii
  obtain ⟨s1,s2,s3,-⟩:=hsm
  dsimp only at s1 s2 s3
  go_wp2_with fail
  refine (B3g ⟨cst,cnow,cnext,cnum,cws⟩ _ okc w3 (P3.below hH hB2) s1 s2 (by show cws.length≤_;omega)).mono ?_
  rintro e w4 ⟨m0,m1,m2,y0,y1,y2,va,vc,M,rfl,hM,hvM,hN4,hX4,hV4,hb4⟩
  dsimp only at hN4 hX4 hV4
  obtain ⟨lm0,lm1,lm2⟩:=B7.st (P:=Try.prog) hN4
  obtain ⟨ly0,ly1,ly2⟩:=B7.st (P:=Try.prog) hX4
  obtain ⟨om0,om1,om2⟩:=B7.one hN4
  obtain ⟨oy0,oy1,oy2⟩:=B7.one hX4
  have hB4:=hB2.trans (hb4.mono hB2.size)
  have hT4:=hT2.under hb4
  have hZ4:=hZ2.under hb4
  have hz4:=hb4.size
  have hz2:=hZ2.lt
  clear hb4 hC2 hF2 f1 f2 c1 c2 hT2 hZ2
  have hbx:=G8 w4 (.cells #[.int .i64 cst,m0,m1,m2,y0,y1,y2,.int .i64 cnum,.slice va cws.length vc] 44)
  have hD5:=I6 w4 44 #[.int .i64 cst,m0,m1,m2,y0,y1,y2,.int .i64 cnum,.slice va cws.length vc]
  have hvD:∀ k,blk va=some k→k<w4.heap.size:=fun k hk=>(hV4.lt k hk).2
  go_wp2_with fail
  have hT5:=hT4.under hbx
  have hZ5:=hZ4.under hbx
  have hN5:B7 _ (fun b=>M≤b∧b<w4.heap.size) m0 m1 m2 cnow:=C3.below (C3.anyOk hN4 fun b hb h=>⟨h,hb⟩) hbx
  have hX5:B7 _ (fun b=>M≤b∧b<w4.heap.size) y0 y1 y2 cnext:=C3.below (C3.anyOk hX4 fun b hb h=>⟨h,hb⟩) hbx
  have hV5:=hV4.below hbx
  have hB5:=hB4.trans (hbx.mono hB4.size)
  have hs5:=hbx.size
  clear hbx hT4 hZ4 hN4 hX4 hV4 hB4
  generalize w4.alloc (.cells #[.int .i64 cst,m0,m1,m2,y0,y1,y2,.int .i64 cnum,.slice va cws.length vc] 44)=w5 at *
  generalize w4.heap.size=D at *
  have hel:(cws.eraseIdx i).length=cws.length - 1:=List.length_eraseIdx_of_lt hil
  have hV5':=(hV5.ints_any (ok':=fun b=>b<w5.heap.size∧blk va≠some b) (fun k hk h=>h.2 hk) (fun b h=>h.1)).base (by omega:w.heap.size≤w3.heap.size)
  refine (B0z (fun b=>b<w5.heap.size∧blk va≠some b) w.heap.size cws i va vc cws.length w5 hV5' hB5.size hil (by omega)).mono ?_
  rintro e w6 ⟨rfl,hV6,hF6⟩
  rw [←hel] at hV6 ⊢
  generalize cws.eraseIdx i=es at *
  have hle:es.length≤cws.length:=by omega
  clear hel hil i1 i2
  have hvt:∀ {b:Nat} {tt:TypeId} {cs:Array Value},A6 w5 b tt cs→3≠tt→blk va≠some b:=fun h hne=>hV5.noType h hne
  have hD6:=hF6.blk hD5 (.inl (hvt hD5 (by decide)))
  have hT6:=hF6.blk hT5 (.inl (hvt hT5 (by decide)))
  have hZ6:=hF6.blk hZ5 (.inl (hvt hZ5 (by decide)))
  have hKv:∀ b,M≤b∧b<D→blk va≠some b:=fun b hb e=>by have:=hvM b e;omega
  have hN6:=hF6.rep' hN5 (fun b hb=>.inl (hKv b hb))
  have hX6:=hF6.rep' hX5 (fun b hb=>.inl (hKv b hb))
  have hB6:=hB5.trans hF6.below
  have hs6:=hF6.size
  clear hF6 hvt hD5 hT5 hZ5 hN5 hX5 hV5 hV5' hB5
  have hdl:=hD6.lt
  have hFx:Frm (fun b=>b≠D) w.heap.size w6 (w6.setCell ⟨D,8,none⟩ (.slice va es.length vc)):=Frm.set (a:=⟨D,8,none⟩) (fun h=>h rfl) (by show w.heap.size≤D;omega) _
  have hD7:=hD6.set 8 (.slice va es.length vc)
  simp only [St.tS,St.tC,St.tZ] at hD7
  have hT7:=hFx.blk hT6 (.inl (by omega))
  have hZ7:=hFx.blk hZ6 (.inl (by omega))
  have hN7:=hFx.rep' hN6 (fun b hb=>.inl (by have:=hb.2;omega))
  have hX7:=hFx.rep' hX6 (fun b hb=>.inl (by have:=hb.2;omega))
  have hV7:=(hV6.ints_any (ok':=fun _=>False) (fun _ _ h=>h) (fun _ h=>h.elim)).setAt (a:=⟨D,8,none⟩) (hV6.noType hD6 (by decide)) (fun h=>h) (.slice va es.length vc)
  have hB7:=hB6.trans hFx.below
  have hs7:(w6.setCell ⟨D,8,none⟩ (.slice va es.length vc)).heap.size=w6.heap.size:=by simp
  obtain ⟨c1,c2⟩:=hD6.cells
  obtain ⟨t1,t2⟩:=hT6.cells
  go_wp2_with fail
  clear c1 c2 t1 t2 hD6 hT6 hZ6 hN6 hX6 hV6 hB6 hFx lm0 lm1 lm2 ly0 ly1 ly2 om0 om1 om2 oy0 oy1 oy2
  generalize w6.setCell ⟨D,8,none⟩ (.slice va es.length vc)=w7 at *
  have hbT:=A40 hT rfl hB7
  have hV7':=hV7.ints_any (ok':=fun b=>b<w7.heap.size∧blk va≠some b) (fun k hk h=>h.2 hk) (fun b h=>h.1)
  refine (A6s ⟨cst,cnow,cnext,cnum,es⟩ t _ (fun b=>b<w7.heap.size∧blk va≠some b) (fun b=>M≤b∧b<D) w.heap.size m0 m1 m2 y0 y1 y2 va vc w7 (fun b hb=>⟨by have:=hb.2;omega,hKv b hb⟩) hN7 hX7 hV7' hst hnu hbT ht0 ht8 s2 hB7.size (by show es.length≤_;omega)).mono ?_
  rintro e w8 ⟨p0,p1,p2,q0,q1,q2,ua,uc,oa,oc,rfl,hN8,hX8,hU8,hks,hkn,hO8,hF8⟩
  have hvt:∀ {b:Nat} {tt:TypeId} {cs:Array Value},A6 w7 b tt cs→3≠tt→blk va≠some b:=fun h hne=>hV7.noType h hne
  have hD8:=hF8.blk hD7 (.inl ⟨hD7.lt,hvt hD7 (by decide)⟩)
  have hZ8:=hF8.blk hZ7 (.inl ⟨hZ7.lt,hvt hZ7 (by decide)⟩)
  have hB8:=hB7.trans hF8.below
  have hs8:=hF8.size
  clear hN7 hX7 hV7 hV7' hD7 hZ7 hT7 hF8 hvt hB7 hbT
  generalize C0 ⟨cst,cnow,cnext,cnum,es⟩ t=sr at *
  obtain ⟨⟨st2,now2,next2,num2,ws2⟩,sl⟩:=sr
  dsimp only at *
  obtain ⟨lp0,lp1,lp2⟩:=B7.st (P:=Try.prog) hN8
  obtain ⟨lq0,lq1,lq2⟩:=B7.st (P:=Try.prog) hX8
  obtain ⟨op0,op1,op2⟩:=B7.one hN8
  obtain ⟨oq0,oq1,oq2⟩:=B7.one hX8
  have hdl8:=hD8.lt
  have hzl8:=hZ8.lt
  obtain ⟨G1,FR1⟩:=Y7 hD8 (fun b=>b≠D) w.heap.size (fun h=>h rfl) (by omega) (.int .i64 st2) p0 p1 p2 q0 q1 q2 (.int .i64 num2) (.slice ua ws2.length uc)
  have hZ9:=FR1.blk hZ8 (.inl (by omega))
  obtain ⟨G2,FR2⟩:=Y7 hZ9 (fun b=>b≠w.heap.size+1+1) w.heap.size (fun h=>h rfl) (by omega) (.int .i64 st2) p0 p1 p2 q0 q1 q2 (.int .i64 num2) (.slice ua ws2.length uc)
  obtain ⟨g1,g2⟩:=G2.cells
  obtain ⟨c1,c2⟩:=hD8.cells
  obtain ⟨z1,z2⟩:=hZ8.cells
  have hr1:B7 _ (fun b=>M≤b∧b<D) p0 p1 p2 now2:=FR2.rep' (FR1.rep' hN8 (fun b hb=>.inl (by have:=hb.2;omega))) (fun b hb=>.inl (by have:=hb.1;omega))
  have hr2:B7 _ (fun b=>M≤b∧b<D) q0 q1 q2 next2:=FR2.rep' (FR1.rep' hX8 (fun b hb=>.inl (by have:=hb.2;omega))) (fun b hb=>.inl (by have:=hb.1;omega))
  have hu0:A8 C2 (fun b=>w.heap.size≤b∧b≠D∧b≠w.heap.size+1+1) w8 ua uc ws2:=(hU8.ints_any (ok':=fun _=>False) (fun _ _ h=>h) (fun _ h=>h.elim)).row (fun _ h=>h.elim) (fun k hk=>⟨(hU8.lt k hk).1,fun e=>hU8.noType hD8 (by decide) (e▸hk),fun e=>hU8.noType hZ8 (by decide) (e▸hk)⟩)
  have hu1:=FR2.row' (FR1.row' hu0 (fun b hb=>.inl hb.2.1)) (fun b hb=>.inl hb.2.2)
  have ho1:=FR2.row' (FR1.row' hO8 (fun b hb=>.inl (by omega))) (fun b hb=>.inl (by omega))
  have hB9:=(hB8.trans FR1.below).trans FR2.below
  have hMN:w.heap.size≤M:=by omega
  have HOUT:=Lib.hid (And.intro (P4.ok (N:=w.heap.size) HE.out hks hkn hr1 hr2 hu1 ho1 (fun b hb=>Nat.le_trans hMN hb.1) (fun b hb=>Nat.le_trans hMN hb.1) (fun b hb=>hb.1) (fun b hb=>Nat.le_trans (by omega) hb)) hB9)
  clear hr1 hr2 hu0 hu1 ho1 hB9 FR1 FR2 hN8 hX8 hU8 hO8 hB8 hks hkn
  go_wp2_with ((with_reducible refine bodyPost_ret (v:=.tuple #[.agg #[.int .i64 st2,p0,p1,p2,q0,q1,q2,.int .i64 num2,.slice ua ws2.length uc],.slice oa sl.length oc,.int .i64 0]) ?ra3 ?rb3 ?rc3);go_must (case ra3=>simp [results,Try.results47,go_sem,g1]);go_must (case rb3=>rfl);go_must (case rc3=>exact HOUT.out))
end Go.Proofs.Ytampcbncgofkoaa
