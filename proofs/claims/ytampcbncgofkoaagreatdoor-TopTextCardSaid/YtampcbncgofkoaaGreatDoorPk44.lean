/- Texts of this proof, one behind the other. -/
import Derived.Test.YtampcbncgofkoaaGreatDoorPk43
import Derived.Test.YtampcbncgofkoaaGreatDoorPk17
set_option linter.unusedSimpArgs false
set_option linter.unusedVariables false
set_option maxRecDepth 100000
set_option maxHeartbeats 16000000
namespace Go.St
open Go.RowKit
theorem C35 {w:World} {fa:Option Addr} {fc K:Nat} {e:TypeId} {fl:List E0} (h:A8 H6 (fun b=>b<K) w fa fc fl) (hK:K≤w.heap.size) {base:Nat} (hb:base≤w.heap.size):C7 doS e (fun b=>b<K) base (w.alloc (.cells #[.int .i64 1,.int .i64 0,.slice fa fl.length fc] e)) (some ⟨w.heap.size,0,none⟩) 1 1 [B9y fl]:=by
  refine C7.lit (cs:=[.int .i64 1,.int .i64 0,.slice fa fl.length fc]) rfl rfl hb (by decide) (fun i d hd=>?_) (fun b hb=>Nat.lt_of_lt_of_le hb hK)
  match i,hd with
  |0,hd=>
    obtain rfl:_=d:=by simpa using hd
    exact ⟨fa,fc,rfl,I64.small (n:=1) (by decide) (by decide),I64.small (n:=0) (by decide) (by decide),h.below ((Below.refl _ _).alloc (Nat.le_refl _) _)⟩
  |i+1,hd=>simp at hd
theorem C2h {f:E0}:∀ (r:List Int) (met:Nat),(∀ s∈r,s ∉ f.no)→r.filter (fun s=>decide (s∈f.via))=f.via.drop met→met≤f.via.length→G4 f met r=true
 |[],met,_,h,hm=>by
  simp only [List.filter_nil] at h
  have:=congrArg List.length h
  simp at this
  simp [G4]
  omega
 |s::r,met,hno,h,hm=>by
  unfold G4
  rw [if_neg (hno s (by simp))]
  by_cases hv:s∈f.via
  ·rw [if_pos hv]
   rw [List.filter_cons,if_pos (by simpa using hv)] at h
   have hml:met<f.via.length:=by
    have:=congrArg List.length h
    simp at this
    omega
   rw [List.drop_eq_getElem_cons hml] at h
   obtain ⟨h1,h2⟩:=List.cons.inj h
   rw [if_pos (by rw [List.getElem?_eq_getElem hml,h1])]
   exact C2h r (met+1) (fun x hx=>hno x (List.mem_cons_of_mem _ hx)) h2 hml
  ·rw [if_neg hv]
   rw [List.filter_cons,if_neg (by simpa using hv)] at h
   exact C2h r met (fun x hx=>hno x (List.mem_cons_of_mem _ hx)) h hm
theorem C2s {t:C5} {f:E0} {p:List Int} (ht:(B6 t).1=0) (h:A0j t f p):C2f t f p=true:=by
 unfold C2f
 rw [A8l ht h,C2h p 0 h.no (by simpa using h.via) (Nat.zero_le _)]
 simp [h.src,h.dst]
theorem C2x {t:C5} {l:List E0} (h:(D9 t (B85 t [B9y l])).2.2.1=0):(B85 t [B9y l]).length≤200∧0<(B85 t [B9y l]).length∧∃ a0:Int,(D9 t (B85 t [B9y l])).2.1[0]? =some a0∧((D2 t 1 l).2.1≠0→a0=(D2 t 1 l).2.1)∧((D2 t 1 l).2.1=0→l.length≤12∧(a0=0∨a0=10)):=by
 obtain ⟨ht,h200⟩:=X0 h
 obtain ⟨h1,_,h3,h4⟩:=C2m ht l h200
 obtain ⟨r,hr,_⟩:=C0c t [B9y l]
 refine ⟨h200,by rw [hr];simp,_,?_,h3,fun h=>⟨(A6v h).len,h4 h⟩⟩
 rw [W2 ht h200]
 exact h1
theorem C2z {t:C5} {l:List E0} (h:(D9 t (B85 t [B9y l])).2.2.1=0) (hp:(D2 t 1 l).2.1=0) (ha:(D9 t (B85 t [B9y l])).2.1[0]? =some 0) (hl:((B85 t [B9y l])++C2d l.length).length≤200):
  (D9 t (B85 t [B9y l]++C2d l.length)).1.packets.length=l.length∧∀ (i:Nat) (f:E0),l[i]? =some f→∃ p,(D9 t (B85 t [B9y l]++C2d l.length)).1.packets[i]? =some p∧C2f t f p.trace=true:=by
 obtain ⟨ht,h200⟩:=X0 h
 rw [W2 ht h200] at ha
 obtain ⟨h1,h2,_,_⟩:=C2m ht l h200
 rw [h1] at ha
 obtain ⟨hg,hn⟩:=h2 (Option.some.inj ha) ⟨hp,hl⟩
 rw [W2 ht hl]
 refine ⟨hg.len,fun i f hf=>?_⟩
 obtain ⟨p,path,e1,e2,e3,_⟩:=hg.each i (List.getElem?_eq_some_iff.1 hf).1
 rw [hn] at e2
 exact ⟨p,e1,by rw [e3];exact C2s ht ((A6v hp).good i f path hf e2).2.2⟩
end Go.St
namespace Go.Proofs.YtampcbncgofkoaaGreatDoor
open Go.RowKit Go.St
theorem C30 (w:World) (t:C5) (ts:List Value) (okt:Nat→Prop) (h:I5.rep okt w ts t) (s:ByteArray) (hs:s.size≤140737488355328):
  Calls Tryz.prog 3 #[.agg ts.toArray,.string s] w fun e w'=>e=.returned (.bool true)∧Below w.heap.size w w':=by
 have hT:=h
 obtain ⟨la,lc0,rfl,htn,htr⟩:=h
 obtain ⟨i0,gi,gz0,gz1,gz2⟩:=info_parts B92
 have hB0:=G8 w (.cells #[.int .i64 t.n,.slice la t.links.length lc0] 24)
 have hT0:=I6 w 24 #[.int .i64 t.n,.slice la t.links.length lc0]
 go_enter Tryz.func3,Tryz.ntmps3
 go_wp2_with fail
 generalize w.alloc _=w0 at *
 refine (B9f _).mono ?_
 rintro e w1 ⟨rfl,hb1⟩
 have hB1:=hB0.trans (hb1.mono hB0.size)
 have hT1:=hT0.under hb1
 have htb1:w.heap.size<w1.heap.size:=hT1.lt
 obtain ⟨t1,t2⟩:=hT1.cells
 have htl:=hT1.lt
 clear hB0 hT0 hb1
 go_wp2_with fail
 refine (C34 s hs w1).mono ?_
 rintro e w2 ⟨l,oa,oc,x,y,rfl,hl2,hb2⟩
 have hbx:=B8j w2 (.cells #[.int .i64 x,.int .i64 y] 29)
 have hF3:=I6 w2 29 #[.int .i64 x,.int .i64 y]
 have hT3:=(hT1.under hb2).under hbx
 have hB3:=hB1.trans ((hb2.trans (hbx.mono hb2.size)).mono hB1.size)
 have hl3:A8 H6 (fun b=>b<w2.heap.size) (w2.alloc (.cells #[.int .i64 x,.int .i64 y] 29)) oa oc l:=hl2.mono fun b hl _=>⟨hl,hbx.block b hl⟩
 have hwf:w.heap.size<w2.heap.size:=by have:=hb2.size;omega
 clear hT1 hB1 hl2 hb2 hbx t1 t2 htl
 go_upto_region 4 with fail
 generalize w2.alloc _=w3 at *
 generalize w2.heap.size=fb at *
 obtain ⟨f1,f2⟩:=hF3.cells
 have hfl:=hF3.lt
 by_cases hx0:x=0
 case neg=>
  have e1:(x !=0)=true:=by rw [bne_iff_ne];exact hx0
  go_wp2
  go_ret;exact ⟨rfl,hB3⟩
 subst hx0
 have HA:=Lib.hid (fun h=>C2x (t:=t) (l:=l) h)
 have HB:=Lib.hid (fun h1 h2 h3 h4=>C2z (t:=t) (l:=l) h1 h2 h3 h4)
 have hTr3:I5.rep (fun b=>okt b∧b<w.heap.size) w3 [.int .i64 t.n,.slice la t.links.length lc0] t:=I5.mono hT (fun b hb ho=>⟨⟨ho,hb⟩,hB3.block b hb⟩)
 have HPL:=Lib.hid (B50 t 1 (I64.small (n:=1) (by decide) (by decide)) l _ _ _ oa oc w3 hTr3 hl3)
 generalize (D2 t 1 l).2.1=pe at *
 generalize (D2 t 1 l).2.2=px at *
 obtain ⟨t1,t2⟩:=hT3.cells
 have htl:=hT3.lt
 go_wp2_with fail
 refine HPL.out.mono ?_
 rintro e w4 ⟨pcs,rfl,-,hb4⟩
 have hF4:=hF3.under hb4
 have hT4:=hT3.under hb4
 have hB4:=hB3.trans (hb4.mono hB3.size)
 have hl4:=hl3.below hb4
 have hz4:=hb4.size
 clear HPL hF3 hT3 hB3 hl3 hTr3 f1 f2 hfl t1 t2 htl hb4
 obtain ⟨f1,f2⟩:=hF4.cells
 have hfl:=hF4.lt
 have hF5:=(hF4.set 0 (.int .i64 pe)).set 1 (.int .i64 px)
 simp only [St.tS,St.tC,St.tZ] at hF5
 have hT5:=(hT4.setOther (a:=⟨fb,0,none⟩) (show w.heap.size≠fb by omega) (.int .i64 pe)).setOther (a:=⟨fb,1,none⟩) (show w.heap.size≠fb by omega) (.int .i64 px)
 have hB5:=(hB4.setCell (p:=⟨fb,0,none⟩) (Nat.le_of_lt hwf) (.int .i64 pe)).setCell (p:=⟨fb,1,none⟩) (Nat.le_of_lt hwf) (.int .i64 px)
 have hl5:A8 H6 (fun b=>b<fb) ((w4.setCell ⟨fb,0,none⟩ (.int .i64 pe)).setCell ⟨fb,1,none⟩ (.int .i64 px)) oa oc l:=hl4.mono fun b _ hb=>⟨hb,by rw [Below.heap_setCell _ _ _ _ (show b≠fb by omega),Below.heap_setCell _ _ _ _ (show b≠fb by omega)]⟩
 clear hF4 hT4 hB4 hl4
 go_upto_region 7 with fail
 generalize ((w4.setCell _ _).setCell _ _)=w5 at *
 clear f1 f2 hfl
 have hfl5:=hF5.lt
 have hO6:=C35 (e:=40) hl5 (Nat.le_of_lt hfl5) (Nat.le_refl w5.heap.size)
 have hbx:=B8j w5 (.cells #[.int .i64 1,.int .i64 0,.slice oa l.length oc] 40)
 have hF6:=hF5.under hbx
 have hT6:=hT5.under hbx
 have hB6:=hB5.trans (hbx.mono hB5.size)
 have hl6:=hl5.below hbx
 have hz6:=hbx.size
 have hTr6:I5.rep (fun b=>okt b∧b<w.heap.size) (w5.alloc (.cells #[.int .i64 1,.int .i64 0,.slice oa l.length oc] 40)) [.int .i64 t.n,.slice la t.links.length lc0] t:=I5.mono hT (fun b hb ho=>⟨⟨ho,hb⟩,hB6.block b hb⟩)
 have HDR:=Lib.hid (B9q t _ _ (fun b=>b<fb) w5.heap.size _ hTr6 [B9y l] _ _ hO6 hz6 (fun b hb e=>by have h9:w5.heap.size=b:=(by simpa [Go.St.blk] using e);have:=hb.2;omega) (by simp))
 obtain ⟨t1,t2⟩:=hT5.cells
 have htl:=hT5.lt
 clear hO6 hbx hF5 hT5 hB5 hl5 hTr6
 go_wp2_with fail
 clear t1 t2 htl
 generalize w5.alloc _=w6 at *
 generalize w5.heap.size=bs at *
 refine HDR.out.mono ?_
 rintro e w7 ⟨ma,mc,rfl,hO7,hG7⟩
 have hb7:=hG7.below
 have hF7:=hF6.below hb7 hfl5
 have hT7:=hT6.below hb7 (show w.heap.size<bs by omega)
 have hB7:=hB6.trans (hb7.mono (show w.heap.size≤bs by omega))
 have hl7:A8 H6 (fun b=>b<fb) w7 oa oc l:=hl6.mono fun b _ hb=>⟨hb,hb7.block b (by omega)⟩
 have hz7:bs≤w7.heap.size:=Nat.le_trans hz6 hG7.size
 have hTr7:I5.rep (fun b=>okt b∧b<w.heap.size) w7 [.int .i64 t.n,.slice la t.links.length lc0] t:=I5.mono hT (fun b hb ho=>⟨⟨ho,hb⟩,hB7.block b hb⟩)
 generalize B85 t [B9y l]=c0 at *
 have HP:=Lib.hid (A2z t _ _ w7 hTr7 c0 ma mc _ (hO7.row (ok':=fun _=>True) (fun _ _=>trivial) (fun _ _=>trivial)))
 generalize D9 t c0=R0 at *
 obtain ⟨n,es,ge,gx⟩:=R0
 dsimp only at *
 obtain ⟨t1,t2⟩:=hT7.cells
 have htl:=hT7.lt
 clear HDR hF6 hT6 hB6 hl6 hG7 hb7 hTr7
 go_wp2_with fail
 refine HP.out.mono ?_
 rintro e w8 ⟨cs,ea,ec,rfl,hn8,he8,hb8⟩
 obtain ⟨n0,n1,n2,y0,y1,y2,wa,wc,sa,sc,oa9,oc9,ba,bc,qa,qc,pl,lc,rfl,hst,hnu,hnow,hnext,hwt,hks,hko,hkb,hkp,hkl⟩:=A0g.open8 hn8
 have hbx:Below w8.heap.size w8 ((w8.alloc (.cells #[.int .i64 n.ctl.stage,n0,n1,n2,y0,y1,y2,.int .i64 n.ctl.num,.slice wa n.ctl.waits.length wc,.slice sa n.switches.length sc,.slice oa9 n.orders.length oc9,.slice ba n.backs.length bc,.slice qa n.packets.length qc,.slice pl n.plans.length lc] 50)).alloc (.cells #[.int .i64 ge,.int .i64 gx] 29)):=A1t _ _ _
 have hG9:A6 ((w8.alloc (.cells #[.int .i64 n.ctl.stage,n0,n1,n2,y0,y1,y2,.int .i64 n.ctl.num,.slice wa n.ctl.waits.length wc,.slice sa n.switches.length sc,.slice oa9 n.orders.length oc9,.slice ba n.backs.length bc,.slice qa n.packets.length qc,.slice pl n.plans.length lc] 50)).alloc (.cells #[.int .i64 ge,.int .i64 gx] 29)) (w8.heap.size+1) 29 #[.int .i64 ge,.int .i64 gx]:=A6.new (by simp)
 have hb9:=hb8.trans (hbx.mono hb8.size)
 have hF9:=hF7.under hb9
 have hT9:=hT7.under hb9
 have hB9:=hB7.trans (hb9.mono hB7.size)
 have hl9:=hl7.below hb9
 have hO9:=hO7.below hb9
 have he9:=he8.below hbx
 have hz9:=hb9.size
 obtain ⟨lq0,lq1,lq2⟩:=B7.st (P:=Tryz.prog) hnext
 obtain ⟨lp0,lp1,lp2⟩:=B7.st (P:=Tryz.prog) hnow
 clear HP hF7 hT7 hB7 hl7 hO7 he8 hbx hb9 hb8 hn8 hst hnu hnow hnext hwt hks hko hkb hkp hkl
 go_upto_region 9 with fail
 clear t1 t2 htl lq0 lq1 lq2 lp0 lp1 lp2
 generalize ((w8.alloc (.cells #[.int .i64 n.ctl.stage,n0,n1,n2,y0,y1,y2,.int .i64 n.ctl.num,.slice wa n.ctl.waits.length wc,.slice sa n.switches.length sc,.slice oa9 n.orders.length oc9,.slice ba n.backs.length bc,.slice qa n.packets.length qc,.slice pl n.plans.length lc] 50)).alloc (.cells #[.int .i64 ge,.int .i64 gx] 29))=w9 at *
 generalize w8.heap.size+1=gb at *
 obtain ⟨f1,f2⟩:=hF9.cells
 have hfl:=hF9.lt
 obtain ⟨g1,g2⟩:=hG9.cells
 have hgl:=hG9.lt
 by_cases hge:ge=0
 case neg=>
  have e2:(ge !=0)=true:=by rw [bne_iff_ne];exact hge
  by_cases hpe:pe=0
  case neg=>
   have e1:(pe !=0)=true:=by rw [bne_iff_ne];exact hpe
   go_upto_region 10 with fail
   go_quiet (fail)
   go_wp2
   go_ret;exact ⟨rfl,A3 hB9 _⟩
  have e1:(pe !=0)=false:=by rw [bne_eq_false_iff_eq];exact hpe
  go_upto_region 10 with fail
  go_quiet (fail)
  go_wp2
  go_ret;exact ⟨rfl,A3 hB9 _⟩
 have e2:(ge !=0)=false:=by rw [bne_eq_false_iff_eq];exact hge
 obtain ⟨h200,hc0,a0,ha0,ha1,ha2⟩:=HA.out hge
 obtain ⟨eg,eo,rfl,_,hel,cs,rfl,hece⟩:=he9.get ha0
 have q0:=hece 0 _ rfl
 simp only [show A71.size=1 from rfl,Nat.zero_mul,Nat.add_zero] at q0
 have d0:(0:Int)<(es.length:Int):=by have:=(List.getElem?_eq_some_iff.1 ha0).1;omega
 clear hece
 by_cases hpe:pe=0
 case neg=>
  have e1:(pe !=0)=true:=by rw [bne_iff_ne];exact hpe
  have e3:(pe==0)=false:=by rw [beq_eq_false_iff_ne];exact hpe
  obtain rfl:=ha1 hpe
  go_upto_region 10 with fail
  go_quiet (fail)
  go_wp2
  go_ret;exact ⟨rfl,A3 hB9 _⟩
 have e1:(pe !=0)=false:=by rw [bne_eq_false_iff_eq];exact hpe
 obtain ⟨hl12,ha3⟩:=ha2 hpe
 by_cases h00:a0=0
 case neg=>
  obtain rfl:a0=10:=ha3.resolve_left h00
  have e3:(pe==0)=true:=by rw [beq_iff_eq];exact hpe
  go_upto_region 10 with fail
  go_quiet (fail)
  go_wp2
  go_ret;exact ⟨rfl,A3 hB9 _⟩
 subst h00
 have HB2:=Lib.hid (HB.out hge hpe ha0)
 clear ha0 ha1 ha2 ha3 HA HB hpe hge hF9 hG9 he9
 go_wp2
 clear e1 e2 q0 f1 f2 g1 g2 hfl hgl d0
 go_loopw [7,91] (fun mv iv wr=>∃ (i:Nat) (ma:Option Addr) (mc:Nat),mv=.slice ma (c0++C2d i).length mc∧iv=.int .i64 (i:Int)∧i≤l.length∧C7 doS 40 (fun b=>b<fb) bs wr ma (c0++C2d i).length mc (c0++C2d i)∧Below bs w9 wr) (fun _ iv _=>l.length - (intOf iv).toNat)
 case atStart=>
  rw [←List.append_nil c0] at hO9
  exact ⟨0,ma,mc,by rw [show C2d 0=[] from rfl,List.append_nil],rfl,Nat.zero_le _,hO9,Below.refl _ _⟩
 case round=>
  clear hO9
  obtain ⟨i,ma,mc,rfl,rfl,hi,hO,hb⟩:=hrel
  rename World=>wo
  have hzo:bs≤wo.heap.size:=Nat.le_trans (Nat.le_trans hz7 hz9) hb.size
  have hcl:(c0++C2d i).length≤308:=by rw [List.length_append,C2i];omega
  have hII:I64 (i:Int):=I64.small (by omega) (by omega)
  by_cases hlt:i<l.length
  case pos=>
   have b1:(i:Int)<(l.length:Int):=by omega
   have HNX:Hid (c0++C2d (i+1)=(c0++C2d i)++([B8c i]++List.replicate 8 (B88 i))):=Lib.hid (by rw [C2d,List.append_assoc])
   generalize c0++C2d i=ci at *
   go_wp2_with fail
   refine (B9t _ _ _).mono ?_
   rintro e w3 ⟨rfl,hb3⟩
   have hbx:=B8j w3 (.cells #[.int .i64 4,.int .i64 (i:Int),.slice none 0 0] 40)
   have hE:=I6 w3 40 #[.int .i64 4,.int .i64 (i:Int),.slice none 0 0]
   have hb4:=hb3.trans (hbx.mono hb3.size)
   have hO4:=hO.below hb4
   have hsrc:=B9l (sh:=doS) (ok:=fun b=>b<fb) (x:=B8c i) hE ⟨none,0,rfl,I64.small (n:=4) (by decide) (by decide),hII,A8.nil _ _ _ _⟩
   have hz4:bs≤(w3.alloc (.cells #[.int .i64 4,.int .i64 (i:Int),.slice none 0 0] 40)).heap.size:=Nat.le_trans hzo hb4.size
   clear hE hbx hb3
   go_wp2_with (at_builtin;go_must (refine H4 (sh:=doS) (n:=ci.length) (m:=1) (by rfl) _ _ 37 (by rfl) 40 i0 (.agg #[.int .i64 0,.int .i64 0,.slice none 0 0]) 40 Tryz.underlying37 gi gz0 gz1 gz2 rfl (by decide) (by rfl) hO4 (by rfl) rfl hsrc (by simp only [maxLen];omega) (by omega) hz4 ?_);go_must (intro ma4 mc4 w8 hO8 hg8 hd8))
   have hB8:Below bs wo w8:=(hb4.mono hzo).trans (D6 hg8 (fun k hk=>(hO4.lt k hk).1) hz4)
   have hb5:=hb.trans hB8
   have hO5:C7 doS 40 (fun b=>b<fb) bs w8 ma4 (ci++([B8c i]++List.replicate 0 (B88 i))).length mc4 (ci++([B8c i]++List.replicate 0 (B88 i))):=by rw [List.length_append];exact hO8
   clear hO hO4 hsrc hz4 hg8 hd8 hb4 hO8 hB8
   go_wp2
   go_loopw [7,99] (fun mv jv wr=>∃ (j:Nat) (ma:Option Addr) (mc:Nat),mv=.slice ma (ci++([B8c i]++List.replicate j (B88 i))).length mc∧jv=.int .i64 (j:Int)∧j≤8∧C7 doS 40 (fun b=>b<fb) bs wr ma (ci++([B8c i]++List.replicate j (B88 i))).length mc (ci++([B8c i]++List.replicate j (B88 i)))∧Below bs w9 wr) (fun _ jv _=>8 - (intOf jv).toNat)
   case atStart=>exact ⟨0,ma4,mc4,by rw [List.length_append];rfl,rfl,Nat.zero_le _,hO5,hb5⟩
   case round=>
    clear hO5 hb5
    obtain ⟨j,ma,mc,rfl,rfl,hj,hO,hb⟩:=hrel
    rename World=>wj
    have hzj:bs≤wj.heap.size:=Nat.le_trans (Nat.le_trans hz7 hz9) hb.size
    by_cases hj8:j<8
    case pos=>
     have d1:(j:Int)<8:=by omega
     have hcj:(ci++([B8c i]++List.replicate j (B88 i))).length≤320:=by simp;omega
     have HNJ:Hid (ci++([B8c i]++List.replicate (j+1) (B88 i))=(ci++([B8c i]++List.replicate j (B88 i)))++[B88 i]):=Lib.hid (by rw [List.replicate_succ',List.append_assoc,List.append_assoc])
     generalize ci++([B8c i]++List.replicate j (B88 i))=cj at *
     go_wp2_with fail
     refine (B9t _ _ _).mono ?_
     rintro e w3 ⟨rfl,hb3⟩
     have hbx:=B8j w3 (.cells #[.int .i64 5,.int .i64 (i:Int),.slice none 0 0] 40)
     have hE:=I6 w3 40 #[.int .i64 5,.int .i64 (i:Int),.slice none 0 0]
     have hb4:=hb3.trans (hbx.mono hb3.size)
     have hO4:=hO.below hb4
     have hsrc:=B9l (sh:=doS) (ok:=fun b=>b<fb) (x:=B88 i) hE ⟨none,0,rfl,I64.small (n:=5) (by decide) (by decide),hII,A8.nil _ _ _ _⟩
     have hz4:bs≤(w3.alloc (.cells #[.int .i64 5,.int .i64 (i:Int),.slice none 0 0] 40)).heap.size:=Nat.le_trans hzj hb4.size
     clear hE hbx hb3
     go_wp2_with (at_builtin;go_must (refine H4 (sh:=doS) (n:=cj.length) (m:=1) (by rfl) _ _ 37 (by rfl) 40 i0 (.agg #[.int .i64 0,.int .i64 0,.slice none 0 0]) 40 Tryz.underlying37 gi gz0 gz1 gz2 rfl (by decide) (by rfl) hO4 (by rfl) rfl hsrc (by simp only [maxLen];omega) (by omega) hz4 ?_);go_must (intro ma4 mc4 w8 hO8 hg8 hd8))
     have hB8:Below bs wj w8:=(hb4.mono hzj).trans (D6 hg8 (fun k hk=>(hO4.lt k hk).1) hz4)
     have hb5:=hb.trans hB8
     case roundEnd=>
      go_roundw
      case rel=>exact ⟨j+1,ma4,mc4,by rw [HNJ.out,List.length_append];rfl,by go_num,by omega,by rw [HNJ.out,List.length_append];exact hO8,hb.trans hB8⟩
      case measure=>simp [intOf]<;>omega
    obtain rfl:j=8:=by omega
    go_wp2
    case roundEnd=>
     go_roundw
     case rel=>exact ⟨i+1,ma,mc,by rw [HNX.out],by go_num,by omega,by rw [HNX.out];exact hO,hb⟩
     case measure=>simp [intOf]<;>omega
  obtain rfl:i=l.length:=by omega
  have b1:¬(l.length:Int)<(l.length:Int):=by omega
  have hBo:=hB9.trans (hb.mono (show w.heap.size≤bs by omega))
  by_cases hm:(c0++C2d l.length).length≤200
  case neg=>
   have k1:(200:Int)<((c0++C2d l.length).length:Int):=by omega
   have k2:(0:Int)<(c0.length:Int):=by omega
   generalize (c0++C2d l.length).length=N9 at *
   go_wp2
   go_ret;exact ⟨rfl,hBo⟩
  have k1:¬(200:Int)<((c0++C2d l.length).length:Int):=by omega
  have HWW:=Lib.hid (HB2.out hm)
  have hT10:=hT9.below hb (show w.heap.size<bs by omega)
  have hl10:A8 H6 (fun b=>b<fb) wo oa oc l:=hl9.mono fun b _ hb'=>⟨hb',hb.block b (by omega)⟩
  have hTr10:I5.rep (fun b=>okt b∧b<w.heap.size) wo [.int .i64 t.n,.slice la t.links.length lc0] t:=I5.mono hT (fun b hb ho=>⟨⟨ho,hb⟩,hBo.block b hb⟩)
  generalize c0++C2d l.length=c1 at *
  have HP:=Lib.hid (A2z t _ _ wo hTr10 c1 ma mc _ (hO.row (ok':=fun _=>True) (fun _ _=>trivial) (fun _ _=>trivial)))
  generalize D9 t c1=R1 at *
  obtain ⟨n,es1,ge1,gx1⟩:=R1
  dsimp only at *
  obtain ⟨t1,t2⟩:=hT10.cells
  have htl:=hT10.lt
  clear HB2 hT9 hl9 hO hb hB9 hcl hII
  go_wp2_with fail
  refine HP.out.mono ?_
  rintro e w11 ⟨cs,ea1,ec1,rfl,hn8,-,hb8⟩
  obtain ⟨n0,n1,n2,y0,y1,y2,wa,wc,sa,sc,oa9,oc9,ba,bc,qa,qc,pl,lc,rfl,hst,hnu,hnow,hnext,hwt,hks,hko,hkb,hkp,hkl⟩:=A0g.open8 hn8
  have hbx:Below w11.heap.size w11 ((w11.alloc (.cells #[.int .i64 n.ctl.stage,n0,n1,n2,y0,y1,y2,.int .i64 n.ctl.num,.slice wa n.ctl.waits.length wc,.slice sa n.switches.length sc,.slice oa9 n.orders.length oc9,.slice ba n.backs.length bc,.slice qa n.packets.length qc,.slice pl n.plans.length lc] 50)).alloc (.cells #[.int .i64 ge1,.int .i64 gx1] 29)):=A1t _ _ _
  have hW12:A6 ((w11.alloc (.cells #[.int .i64 n.ctl.stage,n0,n1,n2,y0,y1,y2,.int .i64 n.ctl.num,.slice wa n.ctl.waits.length wc,.slice sa n.switches.length sc,.slice oa9 n.orders.length oc9,.slice ba n.backs.length bc,.slice qa n.packets.length qc,.slice pl n.plans.length lc] 50)).alloc (.cells #[.int .i64 ge1,.int .i64 gx1] 29)) w11.heap.size 50 #[.int .i64 n.ctl.stage,n0,n1,n2,y0,y1,y2,.int .i64 n.ctl.num,.slice wa n.ctl.waits.length wc,.slice sa n.switches.length sc,.slice oa9 n.orders.length oc9,.slice ba n.backs.length bc,.slice qa n.packets.length qc,.slice pl n.plans.length lc]:=(A6.new rfl).alloc _
  have hb9:=hb8.trans (hbx.mono hb8.size)
  have hT12:=hT10.under hb9
  have hB12:=hBo.trans (hb9.mono hBo.size)
  have hl12':=hl10.below hb9
  have hp12:=hkp.below hbx
  have hTr12:=I5.below hTr10 hb9
  obtain ⟨lq0,lq1,lq2⟩:=B7.st (P:=Tryz.prog) hnext
  obtain ⟨lp0,lp1,lp2⟩:=B7.st (P:=Tryz.prog) hnow
  clear HP hT10 hBo hl10 hTr10 hbx hb9 hb8 hn8 hst hnu hnow hnext hwt hks hko hkb hkp hkl
  go_upto_region 24 with fail
  clear t1 t2 htl lq0 lq1 lq2 lp0 lp1 lp2
  generalize ((w11.alloc (.cells #[.int .i64 n.ctl.stage,n0,n1,n2,y0,y1,y2,.int .i64 n.ctl.num,.slice wa n.ctl.waits.length wc,.slice sa n.switches.length sc,.slice oa9 n.orders.length oc9,.slice ba n.backs.length bc,.slice qa n.packets.length qc,.slice pl n.plans.length lc] 50)).alloc (.cells #[.int .i64 ge1,.int .i64 gx1] 29))=w12 at *
  generalize w11.heap.size=xb at *
  have hwl12:=hW12.lt
  have htl12:=hT12.lt
  go_wp2
  go_loopw [122] (fun jv wr=>∃ j:Nat,jv=.int .i64 (j:Int)∧j≤l.length∧Below w12.heap.size w12 wr) (fun jv _=>l.length - (intOf jv).toNat)
  case atStart=>exact ⟨0,rfl,Nat.zero_le _,Below.refl _ _⟩
  case round=>
   obtain ⟨j,rfl,hj,hbj⟩:=hrel
   rename World=>wi
   have hBi:=hB12.trans (hbj.mono hB12.size)
   by_cases hlj:j<l.length
   case neg=>
    have d1:¬(j:Int)<(l.length:Int):=by omega
    have hpl:n.packets.length=l.length:=HWW.out.1
    obtain ⟨x1,x2⟩:=(hW12.under hbj).cells
    have hxl:=(hW12.under hbj).lt
    have e1:((n.packets.length:Int)==(l.length:Int))=true:=by rw [beq_iff_eq];omega
    go_wp2
    go_ret;exact ⟨rfl,hBi⟩
   have d1:(j:Int)<(l.length:Int):=by omega
   have d0:(0:Int)≤(j:Int):=by omega
   obtain ⟨f,hf⟩:∃ f,l[j]? =some f:=⟨_,List.getElem?_eq_getElem hlj⟩
   obtain ⟨p,hpj,hsv⟩:=HWW.out.2 j f hf
   have dp:(j:Int)<(n.packets.length:Int):=by have:=(List.getElem?_eq_some_iff.1 hpj).1;omega
   obtain ⟨fg,fo,hoe,_,_,cs,⟨va,vc,na,nc,rfl,hI1,hI2,hvr,hnr⟩,hce⟩:=(hl12'.below hbj).get hf
   obtain ⟨pg,po,hqe,_,_,cs,⟨ta,tc,rfl,_,_,htr9⟩,hpe9⟩:=(hp12.below hbj).get hpj
   subst hoe hqe
   have v0:=hce 0 _ rfl
   have v1:=hce 1 _ rfl
   have v2:=hce 2 _ rfl
   have v3:=hce 3 _ rfl
   simp only [show H6.size=4 from rfl,Nat.add_zero] at v0 v1 v2 v3
   have u2:=hpe9 2 _ rfl
   simp only [show K0.size=4 from rfl] at u2
   have hbx:=B8j wi (.cells #[.int .i64 f.src,.int .i64 f.dst,.slice va f.via.length vc,.slice na f.no.length nc] 56)
   have hX:=I6 wi 56 #[.int .i64 f.src,.int .i64 f.dst,.slice va f.via.length vc,.slice na f.no.length nc]
   have hbz:=hbj.trans (hbx.mono hbj.size)
   have hu2:=cell_later hbx u2
   have hTz:=hT12.under hbz
   have hWz:=hW12.under hbz
   have HSV:=Lib.hid (fun (w':World) (hb':Below (wi.alloc (.cells #[.int .i64 f.src,.int .i64 f.dst,.slice va f.via.length vc,.slice na f.no.length nc] 56)).heap.size (wi.alloc (.cells #[.int .i64 f.src,.int .i64 f.dst,.slice va f.via.length vc,.slice na f.no.length nc] 56)) w')=>B2n t f p.trace _ [.int .i64 f.src,.int .i64 f.dst,.slice va f.via.length vc,.slice na f.no.length nc] _ _ _ ta tc w' (I5.below (I5.below hTr12 hbz) hb') ⟨va,vc,na,nc,rfl,hI1,hI2,(hvr.below hbx).below hb',(hnr.below hbx).below hb'⟩ ((htr9.below hbx).below hb'))
   rw [hsv] at HSV
   clear hce hpe9 hf hpj hsv hvr hnr htr9 u2
   go_upto_region 27 with fail
   clear v0 v1 v2 v3
   generalize wi.alloc _=wk at *
   generalize wi.heap.size=yb at *
   have hS1:SC [(⟨w.heap.size,0,none⟩,(.int .i64 t.n)),(⟨w.heap.size,1,none⟩,(.slice la t.links.length lc0)),(⟨yb,0,none⟩,(.int .i64 f.src)),(⟨yb,1,none⟩,(.int .i64 f.dst)),(⟨yb,2,none⟩,(.slice va f.via.length vc)),(⟨yb,3,none⟩,(.slice na f.no.length nc)),(⟨xb,12,none⟩,(.slice (some ⟨pg,po,none⟩) n.packets.length qc)),(⟨pg,po+j * 4+2,none⟩,(.slice ta p.trace.length tc))] wk:=⟨hTz.cells.1 0,hTz.cells.1 1,hX.cells.1 0,hX.cells.1 1,hX.cells.1 2,hX.cells.1 3,hWz.cells.1 12,hu2,trivial⟩
   have hS0:SC [(⟨w.heap.size,0,none⟩,(.int .i64 t.n)),(⟨w.heap.size,1,none⟩,(.slice la t.links.length lc0)),(⟨yb,0,none⟩,(.int .i64 f.src)),(⟨yb,1,none⟩,(.int .i64 f.dst)),(⟨yb,2,none⟩,(.slice va f.via.length vc)),(⟨yb,3,none⟩,(.slice na f.no.length nc)),(⟨xb,12,none⟩,(.slice (some ⟨pg,po,none⟩) n.packets.length qc)),(⟨pg,po+j * 4+2,none⟩,(.slice ta p.trace.length tc))] wk.drew:=hS1
   refine B9 (SC [(⟨w.heap.size,0,none⟩,(.int .i64 t.n)),(⟨w.heap.size,1,none⟩,(.slice la t.links.length lc0)),(⟨yb,0,none⟩,(.int .i64 f.src)),(⟨yb,1,none⟩,(.int .i64 f.dst)),(⟨yb,2,none⟩,(.slice va f.via.length vc)),(⟨yb,3,none⟩,(.slice na f.no.length nc)),(⟨xb,12,none⟩,(.slice (some ⟨pg,po,none⟩) n.packets.length qc)),(⟨pg,po+j * 4+2,none⟩,(.slice ta p.trace.length tc))]) 99 (fun a0 a' w'=>∃ v127 v128 v129 v130 v131 v132 v133 v134 v135,a'=C8 a0 [(127,v127),(128,v128),(129,v129),(130,v130),(131,v131),(132,v132),(133,v133),(134,v134),(135,v135),(136,.bool false)]∧Below wk.heap.size wk w') (by kernel_rfl) ?_ ?_
   ·intro Q' hR hQp
    have hb0:Below wk.heap.size wk wk.drew:=N4 _
    have hS:SC [(⟨w.heap.size,0,none⟩,(.int .i64 t.n)),(⟨w.heap.size,1,none⟩,(.slice la t.links.length lc0)),(⟨yb,0,none⟩,(.int .i64 f.src)),(⟨yb,1,none⟩,(.int .i64 f.dst)),(⟨yb,2,none⟩,(.slice va f.via.length vc)),(⟨yb,3,none⟩,(.slice na f.no.length nc)),(⟨xb,12,none⟩,(.slice (some ⟨pg,po,none⟩) n.packets.length qc)),(⟨pg,po+j * 4+2,none⟩,(.slice ta p.trace.length tc))] wk.drew:=hS0
    generalize wk.drew=wa at *
    refine A9 hQp hS [0,1,2,4,3,5,6,7] ?_
    iterate 8 (refine B2 _ rfl (by kernel_rfl) (A0 (by kernel_rfl) (by intro w0 hw0;have hw1:=hw0;simp only [SC] at hw1;first|(go_simp;done)|(go_simp;rfl))) ?_;simp only [Act.put,St.tA,St.tD,St.tE,St.tS,St.tC,St.tZ])
    refine B3 ?_
    clear hS
    refine A7 (i:=8) rfl (by kernel_rfl) (by kernel_rfl) fun K8 hK8=>?_
    go_simp
    go_wp2_with fail
    refine (HSV.out wa hb0).mono ?_
    rintro e wb ⟨rfl,hb1⟩
    have hb2:=hb0.trans (hb1.mono hb0.size)
    go_wp2_with fail
    have hS:_:=SC.later hb2 hS1
    refine hK8 _ _ (fun _=>hS) ?_
    clear hK8
    refine A9 hQp hS [9] ?_
    iterate 1 (refine B2 _ rfl (by kernel_rfl) (A0 (by kernel_rfl) (by intro w0 hw0;have hw1:=hw0;simp only [SC] at hw1;first|(go_simp;done)|(go_simp;rfl))) ?_;simp only [Act.put,St.tA,St.tD,St.tE,St.tS,St.tC,St.tZ])
    refine B3 ?_
    refine B5 (by kernel_rfl) ?_ _
    refine hR _ _ ?_
    iterate 9 apply Exists.intro
    refine ⟨?_,hb2⟩
    simp only [C8,Act.put,St.tS,St.tC,St.tZ]
    rfl
   rintro a' w8 ⟨v127,v128,v129,v130,v131,v132,v133,v134,v135,rfl,hb8⟩
   simp only [C8,Act.put,St.tS,St.tC,St.tZ]
   rename World=>w13
   have hbf:=hbz.trans (hb8.mono hbz.size)
   clear hS0 hS1
   go_wp2
   case roundEnd=>
    go_roundw
    case rel=>exact ⟨j+1,by go_num,by omega,hbf⟩
    case measure=>simp [intOf]<;>omega
end Go.Proofs.YtampcbncgofkoaaGreatDoor
