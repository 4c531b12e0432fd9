/- Texts of this proof, one behind the other. -/
import Derived.Test.YtpfmolaebloipaaQ8
import Derived.Test.YtpfmolaebloipaaQ3
import Derived.Test.YtpfmolaebloipaaPk40
set_option linter.unusedSimpArgs false
set_option linter.unusedVariables false
set_option maxRecDepth 100000
set_option maxHeartbeats 16000000
namespace Go.St
open Go.RowKit
theorem B7p {t : C5} {l : List Do} {a : Nat} (ha : a ≤ l.length) : ((D9 t l).2.2.1 ≠ 0 ∨ (D9 t (l.take a)).2.2.1 ≠ 0 → (D9 t l).2.2 = (D9 t (l.take a)).2.2 ∨ (D9 t l).2.2.1 = 5) ∧
    ((D9 t l).2.2.1 = 0 → (D9 t (l.take a)).2.2.1 = 0 → (D9 t l).2.1.length = l.length ∧ (D9 t (l.take a)).2.1.length = a ∧ (D9 t (l.take a)).1.packets.length ≤ (D9 t l).1.packets.length ∧ (D9 t (l.take a)).1.plans.length ≤ (D9 t l).1.plans.length ∧
      (∀ i, i < a → (D9 t (l.take a)).2.1[i]? = (D9 t l).2.1[i]?) ∧
      ∀ (i : Nat) (p : N9), (D9 t (l.take a)).1.packets[i]? = some p → ∃ q, (D9 t l).1.packets[i]? = some q ∧ p.trace.length ≤ q.trace.length ∧ p.trace = q.trace.take p.trace.length ∧ (p.done = true → q.trace.length = p.trace.length) ∧ q.ver = p.ver) := by
  refine ⟨fun h => ?_, fun h1 h2 => ?_⟩
  · by_cases ht : (B6 t).1 = 0
    case neg =>
      left
      unfold D9
      rw [if_pos ht, if_pos ht]
    by_cases hl : l.length ≤ 200
    · have hl2 : (l.take a).length ≤ 200 := by rw [List.length_take]; omega
      rw [W2 ht hl, W2 ht hl2] at h
      rcases h with h | h <;> exact absurd rfl h
    · right
      unfold D9
      rw [if_neg (by rw [ht]; decide), if_pos (by omega)]
  · obtain ⟨ht, hl⟩ := X0 h1
    have hl2 : (l.take a).length ≤ 200 := by rw [List.length_take]; omega
    rw [W2 ht hl, W2 ht hl2]
    obtain ⟨g1, g2⟩ := B77 t l a (D3 t)
    have gl : (D5 t (D3 t) l).2.length = l.length := A8m _ _ _
    refine ⟨gl, by show (D5 _ _ _).2.length = a; rw [A8m, List.length_take]; omega, ?_, g1.pl, fun i hi => ?_, fun i p hp => ?_⟩
    · show (D5 t (D3 t) (l.take a)).1.packets.length ≤ (D5 t (D3 t) l).1.packets.length
      apply Classical.byContradiction
      intro hc
      have hlt : (D5 t (D3 t) l).1.packets.length < (D5 t (D3 t) (l.take a)).1.packets.length := by omega
      obtain ⟨q, hq, _⟩ := g1.pk _ _ (List.getElem?_eq_getElem hlt)
      have := (List.getElem?_eq_some_iff.1 hq).1
      omega
    · show (D5 t (D3 t) (l.take a)).2[i]? = _
      rw [g2, List.getElem?_take, if_pos hi]
    · obtain ⟨q, hq, h3, h4, h5, _⟩ := g1.pk i p hp
      exact ⟨q, hq, h3.length_le, List.prefix_iff_eq_take.1 h3, fun hd => by rw [(h4 hd).1], h5⟩
def SPq (xb:Nat) (x1 x2 x3:Value) (yb:Nat) (y1 y2:Value) (w:World):Prop:=w.cell? ⟨xb,1,none⟩=some x1∧w.cell? ⟨xb,2,none⟩=some x2∧w.cell? ⟨xb,3,none⟩=some x3∧w.cell? ⟨yb,1,none⟩=some y1∧w.cell? ⟨yb,2,none⟩=some y2
def B7w (g o g2 o2:Nat) (v:Value) (w:World):Prop:=w.cell? ⟨g,o,none⟩=some v∧w.cell? ⟨g2,o2,none⟩=some v
end Go.St
namespace Go.Proofs.Ytpfmolaebloipaa
open Go.RowKit Go.St
theorem B74 (a b c d:Int) (w:World):(binOp .eql 44 (.agg #[.int .i64 a,.int .i64 b]) (.agg #[.int .i64 c,.int .i64 d])).run Try.prog w=.ok (.bool (a==c && b==d)) w:=by
 go_simp
 by_cases h1:a=c<;>by_cases h2:b=d<;>simp [h1,h2]
theorem B75 (w:World) (t:C5) (ts:List Value) (okt:Nat→Prop) (h:I5.rep okt w ts t) (l:List Do) (da:Option Addr) (dc:Nat) (okd:Nat→Prop) (hd:A8 doS okd w da dc l) (at_:Int) (hat:I64 at_):
  Calls Try.prog 11 #[.agg ts.toArray,.slice da l.length dc,.int .i64 at_] w fun e w'=>e=.returned (.bool true)∧Below w.heap.size w w':=by
 have hT:=h
 obtain ⟨la,lc0,rfl,htn,htr⟩:=h
 have hdx:=hd.len_le
 have hB0:=G8 w (.cells #[.int .i64 t.n,.slice la t.links.length lc0] 24)
 have hT0:=I6 w 24 #[.int .i64 t.n,.slice la t.links.length lc0]
 go_enter Try.func11,Try.ntmps11
 go_wp2_with fail
 generalize w.alloc _=w0 at *
 refine (A0o _).mono ?_
 rintro e w1 ⟨rfl,hb1⟩
 have hB1:=hB0.trans (hb1.mono hB0.size)
 have hT1:=hT0.under hb1
 obtain ⟨t1,t2⟩:=hT1.cells
 have htl:=hT1.lt
 clear hB0 hT0 hb1
 by_cases ha0:at_<0
 case pos=>
  go_wp2
  go_ret;exact ⟨rfl,hB1⟩
 by_cases ha1:(l.length:Int)<at_
 case pos=>
  go_wp2
  go_ret;exact ⟨rfl,hB1⟩
 obtain ⟨a,rfl⟩:∃ a:Nat,at_=(a:Int):=⟨at_.toNat,by omega⟩
 have hal:a≤l.length:=by omega
 have HP:=Lib.hid (B7p (t:=t) hal)
 have hta:(l.take a).length=a:=by rw [List.length_take];omega
 have HPL:=Lib.hid (fun (w':World) (okt okd:Nat→Prop) (h1:I5.rep okt w' [.int .i64 t.n,.slice la t.links.length lc0] t) (h2:A8 doS okd w' da dc (l.take a))=>B5g t _ okt w' h1 (l.take a) da dc okd h2)
 have HPF:=Lib.hid (A2z t _ okt w1 (I5.below hT hB1) l da dc okd (hd.below hB1))
 rw [hta] at HPL
 generalize D9 t (l.take a)=RR2 at *
 obtain ⟨m,es2,fe2,ff2⟩:=RR2
 generalize D9 t l=RR at *
 obtain ⟨n,es,fe,ff⟩:=RR
 dsimp only at *
 clear hta
 go_wp2_with fail
 refine HPF.out.mono ?_
 rintro e w2 ⟨cs,ea,ec,rfl,hn2,he2,hb2⟩
 have hB2:=hB1.trans (hb2.mono hB1.size)
 have hT2:=hT1.under hb2
 clear hB1 hT1 hb2 t1 t2 htl HPF
 obtain ⟨n0,n1,n2,y0,y1,y2,wa,wc,sa,sc,oa,oc,ba,bc,pa,pc,pl,lc,rfl,hst,hnu,hnow,hnext,hwt,hks,hko,hkb,hkp,hkl⟩:=A0g.open8 hn2
 obtain ⟨lp0,lp1,lp2⟩:=B7.st (P:=Try.prog) hnow
 obtain ⟨lq0,lq1,lq2⟩:=B7.st (P:=Try.prog) hnext
 have hbx:Below w2.heap.size w2 ((w2.alloc (.cells #[.int .i64 n.ctl.stage,n0,n1,n2,y0,y1,y2,.int .i64 n.ctl.num,.slice wa n.ctl.waits.length wc,.slice sa n.switches.length sc,.slice oa n.orders.length oc,.slice ba n.backs.length bc,.slice pa n.packets.length pc,.slice pl n.plans.length lc] 40)).alloc (.cells #[.int .i64 fe,.int .i64 ff] 44)):=A1t _ _ _
 have hW:A6 ((w2.alloc (.cells #[.int .i64 n.ctl.stage,n0,n1,n2,y0,y1,y2,.int .i64 n.ctl.num,.slice wa n.ctl.waits.length wc,.slice sa n.switches.length sc,.slice oa n.orders.length oc,.slice ba n.backs.length bc,.slice pa n.packets.length pc,.slice pl n.plans.length lc] 40)).alloc (.cells #[.int .i64 fe,.int .i64 ff] 44)) w2.heap.size 40 #[.int .i64 n.ctl.stage,n0,n1,n2,y0,y1,y2,.int .i64 n.ctl.num,.slice wa n.ctl.waits.length wc,.slice sa n.switches.length sc,.slice oa n.orders.length oc,.slice ba n.backs.length bc,.slice pa n.packets.length pc,.slice pl n.plans.length lc]:=(A6.new rfl).alloc _
 have hG:A6 ((w2.alloc (.cells #[.int .i64 n.ctl.stage,n0,n1,n2,y0,y1,y2,.int .i64 n.ctl.num,.slice wa n.ctl.waits.length wc,.slice sa n.switches.length sc,.slice oa n.orders.length oc,.slice ba n.backs.length bc,.slice pa n.packets.length pc,.slice pl n.plans.length lc] 40)).alloc (.cells #[.int .i64 fe,.int .i64 ff] 44)) (w2.heap.size+1) 44 #[.int .i64 fe,.int .i64 ff]:=A6.new (by simp)
 have hB3:=hB2.trans (hbx.mono hB2.size)
 have hT3:=hT2.under hbx
 have hd3:=hd.below hB3
 have he3:=he2.below hbx
 have hkp3:=hkp.below hbx
 clear hn2 he2 hB2 hT2 hnow hnext hwt hks hko hkb hkp hkl hd hbx
 go_upto_region 6 with fail
 generalize ((w2.alloc (.cells #[.int .i64 n.ctl.stage,n0,n1,n2,y0,y1,y2,.int .i64 n.ctl.num,.slice wa n.ctl.waits.length wc,.slice sa n.switches.length sc,.slice oa n.orders.length oc,.slice ba n.backs.length bc,.slice pa n.packets.length pc,.slice pl n.plans.length lc] 40)).alloc (.cells #[.int .i64 fe,.int .i64 ff] 44))=w3 at *
 generalize w2.heap.size=wb at *
 clear lp0 lp1 lp2 lq0 lq1 lq2
 have hTt:=fun (w':World) (hb:Below w3.heap.size w3 w')=>(I5.below (I5.anyOk (I5.below hT hB3) (ok':=fun b=>b<w3.heap.size) (fun b hl _=>hl)) hb)
 have hDd:=fun (w':World) (hb:Below w3.heap.size w3 w')=>(((hd3.anyOk (ok':=fun b=>b<w3.heap.size) (fun b hl _=>hl)).take a).below hb)
 have HTT:=Lib.hid hTt
 have HDD:=Lib.hid hDd
 clear hTt hDd
 have hS0:A9c w.heap.size (.int .i64 t.n) (.slice la t.links.length lc0) w3.drew:=⟨hT3.cells.1 0,hT3.cells.1 1⟩
 have c0:(0:Int)≤(a:Int):=by omega
 have c1:(a:Int)≤(dc:Int):=by have:=hd3.1;omega
 refine B9 (A9c w.heap.size (.int .i64 t.n) (.slice la t.links.length lc0)) 99 (fun a0 a' w'=>∃ v10 v11 v12 v34 v35 v36 v37 v38 v39 v40 v41 v42,a'=C8 a0 [(10,v10),(11,v11),(12,v12),(34,v34),(35,v35),(36,v36),(37,v37),(38,v38),(39,v39),(40,v40),(41,v41),(42,v42)]∧∃ ab gb ea2 ec2 cs,v10=.pointer (some ⟨ab,0,none⟩)∧v11=.slice ea2 es2.length ec2∧v12=.pointer (some ⟨gb,0,none⟩)∧A6 w' ab 40 cs.toArray∧A6 w' gb 44 #[.int .i64 fe2,.int .i64 ff2]∧A0g.rep (fun _=>True) w' cs m∧A8 A71 (fun _=>True) w' ea2 ec2 es2∧Below w3.heap.size w3 w') (by kernel_rfl) ?_ ?_
 ·intro Q' hR hQp
  have hb0:Below w3.heap.size w3 w3.drew:=N4 _
  have hS:A9c w.heap.size (.int .i64 t.n) (.slice la t.links.length lc0) w3.drew:=hS0
  generalize w3.drew=wa at *
  have hB:=hb0
  refine A9 hQp hS [0,1,2,3] ?_
  iterate 4 (refine B2 _ rfl (by kernel_rfl) (A0 (by kernel_rfl) (by intro w0 hw0;have hw1:=hw0;simp only [A9c] at hw1;first|(go_simp;done)|(go_simp;rfl))) ?_;simp only [Act.put,St.tA,St.tD,St.tE,St.tS,St.tC,St.tZ])
  refine B3 ?_
  clear hS
  refine A2b (i:=4) (j:=9) (l:=10) rfl rfl rfl (by kernel_rfl) (by kernel_rfl) (by kernel_rfl) (by kernel_rfl) (fun K4 hK4=>?_) (fun K9 hK9=>?_) (fun K10 hK10=>?_)
  ·skip
   go_simp
   go_wp2_with fail
   refine (HPL.out wa _ _ (HTT.out wa hB) (HDD.out wa hB)).mono ?_
   rintro e k1 ⟨cs,ea2,ec2,rfl,hn4,he4,hb4⟩
   obtain ⟨r0,r1,r2,s0,s1,s2,wa2,wc2,sa2,sc2,oa2,oc2,ba2,bc2,pa2,pc2,pl2,lc2,rfl,hst2,hnu2,hnow2,hnext2,_⟩:=A0g.open8 hn4
   obtain ⟨lp0,lp1,lp2⟩:=B7.st (P:=Try.prog) hnow2
   obtain ⟨lq0,lq1,lq2⟩:=B7.st (P:=Try.prog) hnext2
   clear hnow2 hnext2 hst2 hnu2
   go_wp2_with fail
   have hsz4:=hB.size
   replace hn4:=A0g.mono hn4 (w':=k1) (ok':=fun b=>True) (fun b hb ho=>⟨by first|trivial|omega,rfl⟩)
   replace he4:=he4.anyOk (ok':=fun b=>True) (fun b hb ho=>by first|trivial|omega)
   replace hB:=hB.trans (hb4.mono hB.size)
   have hS:A9c w.heap.size (.int .i64 t.n) (.slice la t.links.length lc0) k1:=⟨(hT3.under hB).cells.1 0,(hT3.under hB).cells.1 1⟩
   refine hK4 _ _ (fun _=>hS) ?_
   clear hK4 hb4 hsz4
   refine A9 hQp hS [5,6,7,8] ?_
   iterate 4 (refine B2 _ rfl (by kernel_rfl) (A0 (by kernel_rfl) (by intro w0 hw0;have hw1:=hw0;simp only [A9c] at hw1;first|(go_simp;done)|(go_simp;rfl))) ?_;simp only [Act.put,St.tA,St.tD,St.tE,St.tS,St.tC,St.tZ])
   refine B3 ?_
   clear hS
   refine H5 (i:=9) (j:=10) rfl rfl (by kernel_rfl) (by kernel_rfl) (by kernel_rfl) (fun K9 hK9=>?_) (fun K10 hK10=>?_)
   ·skip
    go_simp
    go_wp2_with fail
    have hA:=I6 k1 40 #[.int .i64 0,.int .i64 0,.slice none 0 0,.slice none 0 0,.int .i64 0,.slice none 0 0,.slice none 0 0,.int .i64 0,.slice none 0 0,.slice none 0 0,.slice none 0 0,.slice none 0 0,.slice none 0 0,.slice none 0 0]
    have hbA:=G8 k1 (.cells #[.int .i64 0,.int .i64 0,.slice none 0 0,.slice none 0 0,.int .i64 0,.slice none 0 0,.slice none 0 0,.int .i64 0,.slice none 0 0,.slice none 0 0,.slice none 0 0,.slice none 0 0,.slice none 0 0,.slice none 0 0] 40)
    have hlow9:w3.heap.size≤k1.heap.size:=hB.size
    replace hB:=hB.trans (hbA.mono hB.size)
    replace hn4:=A0g.mono hn4 (w':=(k1.alloc (.cells #[.int .i64 0,.int .i64 0,.slice none 0 0,.slice none 0 0,.int .i64 0,.slice none 0 0,.slice none 0 0,.int .i64 0,.slice none 0 0,.slice none 0 0,.slice none 0 0,.slice none 0 0,.slice none 0 0,.slice none 0 0] 40))) (ok':=fun b=>b≠k1.heap.size) (fun b hb ho=>⟨by omega,hbA.block b hb⟩)
    replace he4:=(he4.anyOk (ok':=fun b=>b≠k1.heap.size) (fun b hb ho=>by omega)).below hbA
    have hal9:k1.heap.size<(k1.alloc (.cells #[.int .i64 0,.int .i64 0,.slice none 0 0,.slice none 0 0,.int .i64 0,.slice none 0 0,.slice none 0 0,.int .i64 0,.slice none 0 0,.slice none 0 0,.slice none 0 0,.slice none 0 0,.slice none 0 0,.slice none 0 0] 40)).heap.size:=hA.lt
    have hS:A9c w.heap.size (.int .i64 t.n) (.slice la t.links.length lc0) (k1.alloc (.cells #[.int .i64 0,.int .i64 0,.slice none 0 0,.slice none 0 0,.int .i64 0,.slice none 0 0,.slice none 0 0,.int .i64 0,.slice none 0 0,.slice none 0 0,.slice none 0 0,.slice none 0 0,.slice none 0 0,.slice none 0 0] 40)):=⟨(hT3.under hB).cells.1 0,(hT3.under hB).cells.1 1⟩
    refine hK9 _ _ (fun _=>hS) ?_
    clear hK9 hbA hS
    generalize k1.alloc _=k2 at *
    generalize k1.heap.size=ab at *
    refine A7 (i:=10) rfl (by kernel_rfl) (by kernel_rfl) fun K10 hK10=>?_
    go_simp
    go_wp2_with fail
    have hG2:=I6 k2 44 #[.int .i64 0,.int .i64 0]
    have hbA:=G8 k2 (.cells #[.int .i64 0,.int .i64 0] 44)
    have hlow10:w3.heap.size≤k2.heap.size:=hB.size
    replace hB:=hB.trans (hbA.mono hB.size)
    replace hA:=hA.under hbA
    have hne:k2.heap.size≠ab:=by omega
    replace hal9:ab<(k2.alloc (.cells #[.int .i64 0,.int .i64 0] 44)).heap.size:=hA.lt
    replace hn4:=A0g.mono hn4 (w':=(k2.alloc (.cells #[.int .i64 0,.int .i64 0] 44))) (ok':=fun b=>b≠ab∧b≠k2.heap.size) (fun b hb ho=>⟨by omega,hbA.block b hb⟩)
    replace he4:=(he4.anyOk (ok':=fun b=>b≠ab∧b≠k2.heap.size) (fun b hb ho=>by omega)).below hbA
    have hgl9:k2.heap.size<(k2.alloc (.cells #[.int .i64 0,.int .i64 0] 44)).heap.size:=hG2.lt
    have hS:A9c w.heap.size (.int .i64 t.n) (.slice la t.links.length lc0) (k2.alloc (.cells #[.int .i64 0,.int .i64 0] 44)):=⟨(hT3.under hB).cells.1 0,(hT3.under hB).cells.1 1⟩
    refine hK10 _ _ (fun _=>hS) ?_
    clear hK10 hbA hS
    generalize k2.alloc _=k3 at *
    generalize k2.heap.size=gb at *
    obtain ⟨x1,x2⟩:=hA.cells
    have hxl:=hA.lt
    refine A7 (i:=11) rfl (by kernel_rfl) (by kernel_rfl) fun K11 hK11=>?_
    go_simp
    go_wp2_with fail
    clear x1 x2
    obtain ⟨hAb,FXb⟩:=B05 hA (fun b=>b≠ab) w3.heap.size (fun h=>h rfl) hlow9 (.int .i64 m.ctl.stage) r0 r1 r2 s0 s1 s2 (.int .i64 m.ctl.num) (.slice wa2 m.ctl.waits.length wc2) (.slice sa2 m.switches.length sc2) (.slice oa2 m.orders.length oc2) (.slice ba2 m.backs.length bc2) (.slice pa2 m.packets.length pc2) (.slice pl2 m.plans.length lc2)
    have hn5:=A0g.mono hn4 (ok':=fun b=>b≠gb) (fun b hb ho=>⟨ho.2,FXb.keep b hb ho.1⟩)
    have he5:=(FXb.row' he4 (fun b hb=>.inl hb.1)).anyOk (ok':=fun b=>b≠gb) (fun b hb ho=>ho.2)
    have hG3:=FXb.blk hG2 (.inl (by omega))
    replace hB:=hB.trans FXb.below
    have hS:A9c w.heap.size (.int .i64 t.n) (.slice la t.links.length lc0) _:=⟨(hT3.under hB).cells.1 0,(hT3.under hB).cells.1 1⟩
    refine hK11 _ _ (fun _=>hS) ?_
    clear hK11 hA hn4 he4 hG2 FXb lp0 lp1 lp2 lq0 lq1 lq2 hS
    generalize ((((((((((((((k3.setCell ⟨ab,0,none⟩ (.int .i64 m.ctl.stage)).setCell ⟨ab,1,none⟩ r0).setCell ⟨ab,2,none⟩ r1).setCell ⟨ab,3,none⟩ r2).setCell ⟨ab,4,none⟩ s0).setCell ⟨ab,5,none⟩ s1).setCell ⟨ab,6,none⟩ s2).setCell ⟨ab,7,none⟩ (.int .i64 m.ctl.num)).setCell ⟨ab,8,none⟩ (.slice wa2 m.ctl.waits.length wc2)).setCell ⟨ab,9,none⟩ (.slice sa2 m.switches.length sc2)).setCell ⟨ab,10,none⟩ (.slice oa2 m.orders.length oc2)).setCell ⟨ab,11,none⟩ (.slice ba2 m.backs.length bc2)).setCell ⟨ab,12,none⟩ (.slice pa2 m.packets.length pc2)).setCell ⟨ab,13,none⟩ (.slice pl2 m.plans.length lc2))=kz at *
    have hS:A9c w.heap.size (.int .i64 t.n) (.slice la t.links.length lc0) kz:=⟨(hT3.under hB).cells.1 0,(hT3.under hB).cells.1 1⟩
    refine A9 hQp hS [12] ?_
    iterate 1 (refine B2 _ rfl (by kernel_rfl) (A0 (by kernel_rfl) (by intro w0 hw0;have hw1:=hw0;simp only [A9c] at hw1;first|(go_simp;done)|(go_simp;rfl))) ?_;simp only [Act.put,St.tA,St.tD,St.tE,St.tS,St.tC,St.tZ])
    refine B3 ?_
    clear hS
    obtain ⟨f1,f2⟩:=hG3.cells
    have hfl:=hG3.lt
    refine A7 (i:=13) rfl (by kernel_rfl) (by kernel_rfl) fun K13 hK13=>?_
    go_simp
    go_wp2_with fail
    clear f1 f2
    have hFz:=(Frm.set (w:=kz) (W:=fun b=>b≠gb) (B:=w3.heap.size) (a:=⟨gb,0,none⟩) (fun h=>h rfl) hlow10 (.int .i64 fe2)).trans (Frm.set (a:=⟨gb,1,none⟩) (fun h=>h rfl) hlow10 (.int .i64 ff2))
    have hGz:=(hG3.set 0 (.int .i64 fe2)).set 1 (.int .i64 ff2)
    simp only [St.tS,St.tC,St.tZ] at hGz
    have hAz:=hFz.blk hAb (.inl (by omega))
    have hn6:=A0g.mono hn5 (ok':=fun _=>True) (fun b hb ho=>⟨trivial,hFz.keep b hb ho⟩)
    have he6:=(hFz.row' he5 (fun b hb=>.inl hb)).anyOk (ok':=fun _=>True) (fun _ _ _=>trivial)
    replace hB:=hB.trans hFz.below
    have hS:A9c w.heap.size (.int .i64 t.n) (.slice la t.links.length lc0) _:=⟨(hT3.under hB).cells.1 0,(hT3.under hB).cells.1 1⟩
    refine hK13 _ _ (fun _=>hS) ?_
    clear hK13
    refine B5 (by kernel_rfl) ?_ _
    refine hR _ _ ?_
    iterate 12 apply Exists.intro
    refine ⟨?_,⟨ab,gb,ea2,ec2,[.int .i64 m.ctl.stage,r0,r1,r2,s0,s1,s2,.int .i64 m.ctl.num,.slice wa2 m.ctl.waits.length wc2,.slice sa2 m.switches.length sc2,.slice oa2 m.orders.length oc2,.slice ba2 m.backs.length bc2,.slice pa2 m.packets.length pc2,.slice pl2 m.plans.length lc2],rfl,rfl,rfl,hAz,hGz,hn6,he6,hB⟩⟩
    simp only [C8,Act.put,St.tS,St.tC,St.tZ]
    rfl
   ·skip
    go_simp
    go_wp2_with fail
    have hG2:=I6 k1 44 #[.int .i64 0,.int .i64 0]
    have hbA:=G8 k1 (.cells #[.int .i64 0,.int .i64 0] 44)
    have hlow10:w3.heap.size≤k1.heap.size:=hB.size
    replace hB:=hB.trans (hbA.mono hB.size)
    replace hn4:=A0g.mono hn4 (w':=(k1.alloc (.cells #[.int .i64 0,.int .i64 0] 44))) (ok':=fun b=>b≠k1.heap.size) (fun b hb ho=>⟨by omega,hbA.block b hb⟩)
    replace he4:=(he4.anyOk (ok':=fun b=>b≠k1.heap.size) (fun b hb ho=>by omega)).below hbA
    have hgl9:k1.heap.size<(k1.alloc (.cells #[.int .i64 0,.int .i64 0] 44)).heap.size:=hG2.lt
    have hS:A9c w.heap.size (.int .i64 t.n) (.slice la t.links.length lc0) (k1.alloc (.cells #[.int .i64 0,.int .i64 0] 44)):=⟨(hT3.under hB).cells.1 0,(hT3.under hB).cells.1 1⟩
    refine hK10 _ _ (fun _=>hS) ?_
    clear hK10 hbA hS
    generalize k1.alloc _=k4 at *
    generalize k1.heap.size=gb at *
    refine A7 (i:=9) rfl (by kernel_rfl) (by kernel_rfl) fun K9 hK9=>?_
    go_simp
    go_wp2_with fail
    have hA:=I6 k4 40 #[.int .i64 0,.int .i64 0,.slice none 0 0,.slice none 0 0,.int .i64 0,.slice none 0 0,.slice none 0 0,.int .i64 0,.slice none 0 0,.slice none 0 0,.slice none 0 0,.slice none 0 0,.slice none 0 0,.slice none 0 0]
    have hbA:=G8 k4 (.cells #[.int .i64 0,.int .i64 0,.slice none 0 0,.slice none 0 0,.int .i64 0,.slice none 0 0,.slice none 0 0,.int .i64 0,.slice none 0 0,.slice none 0 0,.slice none 0 0,.slice none 0 0,.slice none 0 0,.slice none 0 0] 40)
    have hlow9:w3.heap.size≤k4.heap.size:=hB.size
    replace hB:=hB.trans (hbA.mono hB.size)
    replace hG2:=hG2.under hbA
    have hne:k4.heap.size≠gb:=by omega
    replace hgl9:gb<(k4.alloc (.cells #[.int .i64 0,.int .i64 0,.slice none 0 0,.slice none 0 0,.int .i64 0,.slice none 0 0,.slice none 0 0,.int .i64 0,.slice none 0 0,.slice none 0 0,.slice none 0 0,.slice none 0 0,.slice none 0 0,.slice none 0 0] 40)).heap.size:=hG2.lt
    replace hn4:=A0g.mono hn4 (w':=(k4.alloc (.cells #[.int .i64 0,.int .i64 0,.slice none 0 0,.slice none 0 0,.int .i64 0,.slice none 0 0,.slice none 0 0,.int .i64 0,.slice none 0 0,.slice none 0 0,.slice none 0 0,.slice none 0 0,.slice none 0 0,.slice none 0 0] 40))) (ok':=fun b=>b≠k4.heap.size∧b≠gb) (fun b hb ho=>⟨by omega,hbA.block b hb⟩)
    replace he4:=(he4.anyOk (ok':=fun b=>b≠k4.heap.size∧b≠gb) (fun b hb ho=>by omega)).below hbA
    have hal9:k4.heap.size<(k4.alloc (.cells #[.int .i64 0,.int .i64 0,.slice none 0 0,.slice none 0 0,.int .i64 0,.slice none 0 0,.slice none 0 0,.int .i64 0,.slice none 0 0,.slice none 0 0,.slice none 0 0,.slice none 0 0,.slice none 0 0,.slice none 0 0] 40)).heap.size:=hA.lt
    have hS:A9c w.heap.size (.int .i64 t.n) (.slice la t.links.length lc0) (k4.alloc (.cells #[.int .i64 0,.int .i64 0,.slice none 0 0,.slice none 0 0,.int .i64 0,.slice none 0 0,.slice none 0 0,.int .i64 0,.slice none 0 0,.slice none 0 0,.slice none 0 0,.slice none 0 0,.slice none 0 0,.slice none 0 0] 40)):=⟨(hT3.under hB).cells.1 0,(hT3.under hB).cells.1 1⟩
    refine hK9 _ _ (fun _=>hS) ?_
    clear hK9 hbA hS
    generalize k4.alloc _=k5 at *
    generalize k4.heap.size=ab at *
    obtain ⟨x1,x2⟩:=hA.cells
    have hxl:=hA.lt
    refine A7 (i:=11) rfl (by kernel_rfl) (by kernel_rfl) fun K11 hK11=>?_
    go_simp
    go_wp2_with fail
    clear x1 x2
    obtain ⟨hAb,FXb⟩:=B05 hA (fun b=>b≠ab) w3.heap.size (fun h=>h rfl) hlow9 (.int .i64 m.ctl.stage) r0 r1 r2 s0 s1 s2 (.int .i64 m.ctl.num) (.slice wa2 m.ctl.waits.length wc2) (.slice sa2 m.switches.length sc2) (.slice oa2 m.orders.length oc2) (.slice ba2 m.backs.length bc2) (.slice pa2 m.packets.length pc2) (.slice pl2 m.plans.length lc2)
    have hn5:=A0g.mono hn4 (ok':=fun b=>b≠gb) (fun b hb ho=>⟨ho.2,FXb.keep b hb ho.1⟩)
    have he5:=(FXb.row' he4 (fun b hb=>.inl hb.1)).anyOk (ok':=fun b=>b≠gb) (fun b hb ho=>ho.2)
    have hG3:=FXb.blk hG2 (.inl (by omega))
    replace hB:=hB.trans FXb.below
    have hS:A9c w.heap.size (.int .i64 t.n) (.slice la t.links.length lc0) _:=⟨(hT3.under hB).cells.1 0,(hT3.under hB).cells.1 1⟩
    refine hK11 _ _ (fun _=>hS) ?_
    clear hK11 hA hn4 he4 hG2 FXb lp0 lp1 lp2 lq0 lq1 lq2 hS
    generalize ((((((((((((((k5.setCell ⟨ab,0,none⟩ (.int .i64 m.ctl.stage)).setCell ⟨ab,1,none⟩ r0).setCell ⟨ab,2,none⟩ r1).setCell ⟨ab,3,none⟩ r2).setCell ⟨ab,4,none⟩ s0).setCell ⟨ab,5,none⟩ s1).setCell ⟨ab,6,none⟩ s2).setCell ⟨ab,7,none⟩ (.int .i64 m.ctl.num)).setCell ⟨ab,8,none⟩ (.slice wa2 m.ctl.waits.length wc2)).setCell ⟨ab,9,none⟩ (.slice sa2 m.switches.length sc2)).setCell ⟨ab,10,none⟩ (.slice oa2 m.orders.length oc2)).setCell ⟨ab,11,none⟩ (.slice ba2 m.backs.length bc2)).setCell ⟨ab,12,none⟩ (.slice pa2 m.packets.length pc2)).setCell ⟨ab,13,none⟩ (.slice pl2 m.plans.length lc2))=kz at *
    have hS:A9c w.heap.size (.int .i64 t.n) (.slice la t.links.length lc0) kz:=⟨(hT3.under hB).cells.1 0,(hT3.under hB).cells.1 1⟩
    refine A9 hQp hS [12] ?_
    iterate 1 (refine B2 _ rfl (by kernel_rfl) (A0 (by kernel_rfl) (by intro w0 hw0;have hw1:=hw0;simp only [A9c] at hw1;first|(go_simp;done)|(go_simp;rfl))) ?_;simp only [Act.put,St.tA,St.tD,St.tE,St.tS,St.tC,St.tZ])
    refine B3 ?_
    clear hS
    obtain ⟨f1,f2⟩:=hG3.cells
    have hfl:=hG3.lt
    refine A7 (i:=13) rfl (by kernel_rfl) (by kernel_rfl) fun K13 hK13=>?_
    go_simp
    go_wp2_with fail
    clear f1 f2
    have hFz:=(Frm.set (w:=kz) (W:=fun b=>b≠gb) (B:=w3.heap.size) (a:=⟨gb,0,none⟩) (fun h=>h rfl) hlow10 (.int .i64 fe2)).trans (Frm.set (a:=⟨gb,1,none⟩) (fun h=>h rfl) hlow10 (.int .i64 ff2))
    have hGz:=(hG3.set 0 (.int .i64 fe2)).set 1 (.int .i64 ff2)
    simp only [St.tS,St.tC,St.tZ] at hGz
    have hAz:=hFz.blk hAb (.inl (by omega))
    have hn6:=A0g.mono hn5 (ok':=fun _=>True) (fun b hb ho=>⟨trivial,hFz.keep b hb ho⟩)
    have he6:=(hFz.row' he5 (fun b hb=>.inl hb)).anyOk (ok':=fun _=>True) (fun _ _ _=>trivial)
    replace hB:=hB.trans hFz.below
    have hS:A9c w.heap.size (.int .i64 t.n) (.slice la t.links.length lc0) _:=⟨(hT3.under hB).cells.1 0,(hT3.under hB).cells.1 1⟩
    refine hK13 _ _ (fun _=>hS) ?_
    clear hK13
    refine B5 (by kernel_rfl) ?_ _
    refine hR _ _ ?_
    iterate 12 apply Exists.intro
    refine ⟨?_,⟨ab,gb,ea2,ec2,[.int .i64 m.ctl.stage,r0,r1,r2,s0,s1,s2,.int .i64 m.ctl.num,.slice wa2 m.ctl.waits.length wc2,.slice sa2 m.switches.length sc2,.slice oa2 m.orders.length oc2,.slice ba2 m.backs.length bc2,.slice pa2 m.packets.length pc2,.slice pl2 m.plans.length lc2],rfl,rfl,rfl,hAz,hGz,hn6,he6,hB⟩⟩
    simp only [C8,Act.put,St.tS,St.tC,St.tZ]
    rfl
  ·skip
   go_simp
   go_wp2_with fail
   have hA:=I6 wa 40 #[.int .i64 0,.int .i64 0,.slice none 0 0,.slice none 0 0,.int .i64 0,.slice none 0 0,.slice none 0 0,.int .i64 0,.slice none 0 0,.slice none 0 0,.slice none 0 0,.slice none 0 0,.slice none 0 0,.slice none 0 0]
   have hbA:=G8 wa (.cells #[.int .i64 0,.int .i64 0,.slice none 0 0,.slice none 0 0,.int .i64 0,.slice none 0 0,.slice none 0 0,.int .i64 0,.slice none 0 0,.slice none 0 0,.slice none 0 0,.slice none 0 0,.slice none 0 0,.slice none 0 0] 40)
   have hlow9:w3.heap.size≤wa.heap.size:=hB.size
   replace hB:=hB.trans (hbA.mono hB.size)
   have hal9:wa.heap.size<(wa.alloc (.cells #[.int .i64 0,.int .i64 0,.slice none 0 0,.slice none 0 0,.int .i64 0,.slice none 0 0,.slice none 0 0,.int .i64 0,.slice none 0 0,.slice none 0 0,.slice none 0 0,.slice none 0 0,.slice none 0 0,.slice none 0 0] 40)).heap.size:=hA.lt
   have hS:A9c w.heap.size (.int .i64 t.n) (.slice la t.links.length lc0) (wa.alloc (.cells #[.int .i64 0,.int .i64 0,.slice none 0 0,.slice none 0 0,.int .i64 0,.slice none 0 0,.slice none 0 0,.int .i64 0,.slice none 0 0,.slice none 0 0,.slice none 0 0,.slice none 0 0,.slice none 0 0,.slice none 0 0] 40)):=⟨(hT3.under hB).cells.1 0,(hT3.under hB).cells.1 1⟩
   refine hK9 _ _ (fun _=>hS) ?_
   clear hK9 hbA hS
   generalize wa.alloc _=k6 at *
   generalize wa.heap.size=ab at *
   refine H5 (i:=4) (j:=10) rfl rfl (by kernel_rfl) (by kernel_rfl) (by kernel_rfl) (fun K4 hK4=>?_) (fun K10 hK10=>?_)
   ·skip
    go_simp
    go_wp2_with fail
    refine (HPL.out k6 _ _ (HTT.out k6 hB) (HDD.out k6 hB)).mono ?_
    rintro e k7 ⟨cs,ea2,ec2,rfl,hn4,he4,hb4⟩
    obtain ⟨r0,r1,r2,s0,s1,s2,wa2,wc2,sa2,sc2,oa2,oc2,ba2,bc2,pa2,pc2,pl2,lc2,rfl,hst2,hnu2,hnow2,hnext2,_⟩:=A0g.open8 hn4
    obtain ⟨lp0,lp1,lp2⟩:=B7.st (P:=Try.prog) hnow2
    obtain ⟨lq0,lq1,lq2⟩:=B7.st (P:=Try.prog) hnext2
    clear hnow2 hnext2 hst2 hnu2
    go_wp2_with fail
    have hsz4:=hB.size
    replace hn4:=A0g.mono hn4 (w':=k7) (ok':=fun b=>b≠ab) (fun b hb ho=>⟨by first|trivial|omega,rfl⟩)
    replace he4:=he4.anyOk (ok':=fun b=>b≠ab) (fun b hb ho=>by first|trivial|omega)
    replace hA:=hA.under hb4
    replace hal9:ab<k7.heap.size:=hA.lt
    replace hB:=hB.trans (hb4.mono hB.size)
    have hS:A9c w.heap.size (.int .i64 t.n) (.slice la t.links.length lc0) k7:=⟨(hT3.under hB).cells.1 0,(hT3.under hB).cells.1 1⟩
    refine hK4 _ _ (fun _=>hS) ?_
    clear hK4 hb4 hsz4
    refine A9 hQp hS [5,6,7,8] ?_
    iterate 4 (refine B2 _ rfl (by kernel_rfl) (A0 (by kernel_rfl) (by intro w0 hw0;have hw1:=hw0;simp only [A9c] at hw1;first|(go_simp;done)|(go_simp;rfl))) ?_;simp only [Act.put,St.tA,St.tD,St.tE,St.tS,St.tC,St.tZ])
    refine B3 ?_
    clear hS
    refine A7 (i:=10) rfl (by kernel_rfl) (by kernel_rfl) fun K10 hK10=>?_
    go_simp
    go_wp2_with fail
    have hG2:=I6 k7 44 #[.int .i64 0,.int .i64 0]
    have hbA:=G8 k7 (.cells #[.int .i64 0,.int .i64 0] 44)
    have hlow10:w3.heap.size≤k7.heap.size:=hB.size
    replace hB:=hB.trans (hbA.mono hB.size)
    replace hA:=hA.under hbA
    have hne:k7.heap.size≠ab:=by omega
    replace hal9:ab<(k7.alloc (.cells #[.int .i64 0,.int .i64 0] 44)).heap.size:=hA.lt
    replace hn4:=A0g.mono hn4 (w':=(k7.alloc (.cells #[.int .i64 0,.int .i64 0] 44))) (ok':=fun b=>b≠ab∧b≠k7.heap.size) (fun b hb ho=>⟨by omega,hbA.block b hb⟩)
    replace he4:=(he4.anyOk (ok':=fun b=>b≠ab∧b≠k7.heap.size) (fun b hb ho=>by omega)).below hbA
    have hgl9:k7.heap.size<(k7.alloc (.cells #[.int .i64 0,.int .i64 0] 44)).heap.size:=hG2.lt
    have hS:A9c w.heap.size (.int .i64 t.n) (.slice la t.links.length lc0) (k7.alloc (.cells #[.int .i64 0,.int .i64 0] 44)):=⟨(hT3.under hB).cells.1 0,(hT3.under hB).cells.1 1⟩
    refine hK10 _ _ (fun _=>hS) ?_
    clear hK10 hbA hS
    generalize k7.alloc _=k8 at *
    generalize k7.heap.size=gb at *
    obtain ⟨x1,x2⟩:=hA.cells
    have hxl:=hA.lt
    refine A7 (i:=11) rfl (by kernel_rfl) (by kernel_rfl) fun K11 hK11=>?_
    go_simp
    go_wp2_with fail
    clear x1 x2
    obtain ⟨hAb,FXb⟩:=B05 hA (fun b=>b≠ab) w3.heap.size (fun h=>h rfl) hlow9 (.int .i64 m.ctl.stage) r0 r1 r2 s0 s1 s2 (.int .i64 m.ctl.num) (.slice wa2 m.ctl.waits.length wc2) (.slice sa2 m.switches.length sc2) (.slice oa2 m.orders.length oc2) (.slice ba2 m.backs.length bc2) (.slice pa2 m.packets.length pc2) (.slice pl2 m.plans.length lc2)
    have hn5:=A0g.mono hn4 (ok':=fun b=>b≠gb) (fun b hb ho=>⟨ho.2,FXb.keep b hb ho.1⟩)
    have he5:=(FXb.row' he4 (fun b hb=>.inl hb.1)).anyOk (ok':=fun b=>b≠gb) (fun b hb ho=>ho.2)
    have hG3:=FXb.blk hG2 (.inl (by omega))
    replace hB:=hB.trans FXb.below
    have hS:A9c w.heap.size (.int .i64 t.n) (.slice la t.links.length lc0) _:=⟨(hT3.under hB).cells.1 0,(hT3.under hB).cells.1 1⟩
    refine hK11 _ _ (fun _=>hS) ?_
    clear hK11 hA hn4 he4 hG2 FXb lp0 lp1 lp2 lq0 lq1 lq2 hS
    generalize ((((((((((((((k8.setCell ⟨ab,0,none⟩ (.int .i64 m.ctl.stage)).setCell ⟨ab,1,none⟩ r0).setCell ⟨ab,2,none⟩ r1).setCell ⟨ab,3,none⟩ r2).setCell ⟨ab,4,none⟩ s0).setCell ⟨ab,5,none⟩ s1).setCell ⟨ab,6,none⟩ s2).setCell ⟨ab,7,none⟩ (.int .i64 m.ctl.num)).setCell ⟨ab,8,none⟩ (.slice wa2 m.ctl.waits.length wc2)).setCell ⟨ab,9,none⟩ (.slice sa2 m.switches.length sc2)).setCell ⟨ab,10,none⟩ (.slice oa2 m.orders.length oc2)).setCell ⟨ab,11,none⟩ (.slice ba2 m.backs.length bc2)).setCell ⟨ab,12,none⟩ (.slice pa2 m.packets.length pc2)).setCell ⟨ab,13,none⟩ (.slice pl2 m.plans.length lc2))=kz at *
    have hS:A9c w.heap.size (.int .i64 t.n) (.slice la t.links.length lc0) kz:=⟨(hT3.under hB).cells.1 0,(hT3.under hB).cells.1 1⟩
    refine A9 hQp hS [12] ?_
    iterate 1 (refine B2 _ rfl (by kernel_rfl) (A0 (by kernel_rfl) (by intro w0 hw0;have hw1:=hw0;simp only [A9c] at hw1;first|(go_simp;done)|(go_simp;rfl))) ?_;simp only [Act.put,St.tA,St.tD,St.tE,St.tS,St.tC,St.tZ])
    refine B3 ?_
    clear hS
    obtain ⟨f1,f2⟩:=hG3.cells
    have hfl:=hG3.lt
    refine A7 (i:=13) rfl (by kernel_rfl) (by kernel_rfl) fun K13 hK13=>?_
    go_simp
    go_wp2_with fail
    clear f1 f2
    have hFz:=(Frm.set (w:=kz) (W:=fun b=>b≠gb) (B:=w3.heap.size) (a:=⟨gb,0,none⟩) (fun h=>h rfl) hlow10 (.int .i64 fe2)).trans (Frm.set (a:=⟨gb,1,none⟩) (fun h=>h rfl) hlow10 (.int .i64 ff2))
    have hGz:=(hG3.set 0 (.int .i64 fe2)).set 1 (.int .i64 ff2)
    simp only [St.tS,St.tC,St.tZ] at hGz
    have hAz:=hFz.blk hAb (.inl (by omega))
    have hn6:=A0g.mono hn5 (ok':=fun _=>True) (fun b hb ho=>⟨trivial,hFz.keep b hb ho⟩)
    have he6:=(hFz.row' he5 (fun b hb=>.inl hb)).anyOk (ok':=fun _=>True) (fun _ _ _=>trivial)
    replace hB:=hB.trans hFz.below
    have hS:A9c w.heap.size (.int .i64 t.n) (.slice la t.links.length lc0) _:=⟨(hT3.under hB).cells.1 0,(hT3.under hB).cells.1 1⟩
    refine hK13 _ _ (fun _=>hS) ?_
    clear hK13
    refine B5 (by kernel_rfl) ?_ _
    refine hR _ _ ?_
    iterate 12 apply Exists.intro
    refine ⟨?_,⟨ab,gb,ea2,ec2,[.int .i64 m.ctl.stage,r0,r1,r2,s0,s1,s2,.int .i64 m.ctl.num,.slice wa2 m.ctl.waits.length wc2,.slice sa2 m.switches.length sc2,.slice oa2 m.orders.length oc2,.slice ba2 m.backs.length bc2,.slice pa2 m.packets.length pc2,.slice pl2 m.plans.length lc2],rfl,rfl,rfl,hAz,hGz,hn6,he6,hB⟩⟩
    simp only [C8,Act.put,St.tS,St.tC,St.tZ]
    rfl
   ·skip
    go_simp
    go_wp2_with fail
    have hG2:=I6 k6 44 #[.int .i64 0,.int .i64 0]
    have hbA:=G8 k6 (.cells #[.int .i64 0,.int .i64 0] 44)
    have hlow10:w3.heap.size≤k6.heap.size:=hB.size
    replace hB:=hB.trans (hbA.mono hB.size)
    replace hA:=hA.under hbA
    have hne:k6.heap.size≠ab:=by omega
    replace hal9:ab<(k6.alloc (.cells #[.int .i64 0,.int .i64 0] 44)).heap.size:=hA.lt
    have hgl9:k6.heap.size<(k6.alloc (.cells #[.int .i64 0,.int .i64 0] 44)).heap.size:=hG2.lt
    have hS:A9c w.heap.size (.int .i64 t.n) (.slice la t.links.length lc0) (k6.alloc (.cells #[.int .i64 0,.int .i64 0] 44)):=⟨(hT3.under hB).cells.1 0,(hT3.under hB).cells.1 1⟩
    refine hK10 _ _ (fun _=>hS) ?_
    clear hK10 hbA hS
    generalize k6.alloc _=k9 at *
    generalize k6.heap.size=gb at *
    refine A7 (i:=4) rfl (by kernel_rfl) (by kernel_rfl) fun K4 hK4=>?_
    go_simp
    go_wp2_with fail
    refine (HPL.out k9 _ _ (HTT.out k9 hB) (HDD.out k9 hB)).mono ?_
    rintro e k10 ⟨cs,ea2,ec2,rfl,hn4,he4,hb4⟩
    obtain ⟨r0,r1,r2,s0,s1,s2,wa2,wc2,sa2,sc2,oa2,oc2,ba2,bc2,pa2,pc2,pl2,lc2,rfl,hst2,hnu2,hnow2,hnext2,_⟩:=A0g.open8 hn4
    obtain ⟨lp0,lp1,lp2⟩:=B7.st (P:=Try.prog) hnow2
    obtain ⟨lq0,lq1,lq2⟩:=B7.st (P:=Try.prog) hnext2
    clear hnow2 hnext2 hst2 hnu2
    go_wp2_with fail
    have hsz4:=hB.size
    replace hn4:=A0g.mono hn4 (w':=k10) (ok':=fun b=>b≠ab∧b≠gb) (fun b hb ho=>⟨by first|trivial|omega,rfl⟩)
    replace he4:=he4.anyOk (ok':=fun b=>b≠ab∧b≠gb) (fun b hb ho=>by first|trivial|omega)
    replace hA:=hA.under hb4
    replace hG2:=hG2.under hb4
    replace hal9:ab<k10.heap.size:=hA.lt
    replace hgl9:gb<k10.heap.size:=hG2.lt
    replace hB:=hB.trans (hb4.mono hB.size)
    have hS:A9c w.heap.size (.int .i64 t.n) (.slice la t.links.length lc0) k10:=⟨(hT3.under hB).cells.1 0,(hT3.under hB).cells.1 1⟩
    refine hK4 _ _ (fun _=>hS) ?_
    clear hK4 hb4 hsz4
    refine A9 hQp hS [5,6,7,8] ?_
    iterate 4 (refine B2 _ rfl (by kernel_rfl) (A0 (by kernel_rfl) (by intro w0 hw0;have hw1:=hw0;simp only [A9c] at hw1;first|(go_simp;done)|(go_simp;rfl))) ?_;simp only [Act.put,St.tA,St.tD,St.tE,St.tS,St.tC,St.tZ])
    refine B3 ?_
    clear hS
    obtain ⟨x1,x2⟩:=hA.cells
    have hxl:=hA.lt
    refine A7 (i:=11) rfl (by kernel_rfl) (by kernel_rfl) fun K11 hK11=>?_
    go_simp
    go_wp2_with fail
    clear x1 x2
    obtain ⟨hAb,FXb⟩:=B05 hA (fun b=>b≠ab) w3.heap.size (fun h=>h rfl) hlow9 (.int .i64 m.ctl.stage) r0 r1 r2 s0 s1 s2 (.int .i64 m.ctl.num) (.slice wa2 m.ctl.waits.length wc2) (.slice sa2 m.switches.length sc2) (.slice oa2 m.orders.length oc2) (.slice ba2 m.backs.length bc2) (.slice pa2 m.packets.length pc2) (.slice pl2 m.plans.length lc2)
    have hn5:=A0g.mono hn4 (ok':=fun b=>b≠gb) (fun b hb ho=>⟨ho.2,FXb.keep b hb ho.1⟩)
    have he5:=(FXb.row' he4 (fun b hb=>.inl hb.1)).anyOk (ok':=fun b=>b≠gb) (fun b hb ho=>ho.2)
    have hG3:=FXb.blk hG2 (.inl (by omega))
    replace hB:=hB.trans FXb.below
    have hS:A9c w.heap.size (.int .i64 t.n) (.slice la t.links.length lc0) _:=⟨(hT3.under hB).cells.1 0,(hT3.under hB).cells.1 1⟩
    refine hK11 _ _ (fun _=>hS) ?_
    clear hK11 hA hn4 he4 hG2 FXb lp0 lp1 lp2 lq0 lq1 lq2 hS
    generalize ((((((((((((((k10.setCell ⟨ab,0,none⟩ (.int .i64 m.ctl.stage)).setCell ⟨ab,1,none⟩ r0).setCell ⟨ab,2,none⟩ r1).setCell ⟨ab,3,none⟩ r2).setCell ⟨ab,4,none⟩ s0).setCell ⟨ab,5,none⟩ s1).setCell ⟨ab,6,none⟩ s2).setCell ⟨ab,7,none⟩ (.int .i64 m.ctl.num)).setCell ⟨ab,8,none⟩ (.slice wa2 m.ctl.waits.length wc2)).setCell ⟨ab,9,none⟩ (.slice sa2 m.switches.length sc2)).setCell ⟨ab,10,none⟩ (.slice oa2 m.orders.length oc2)).setCell ⟨ab,11,none⟩ (.slice ba2 m.backs.length bc2)).setCell ⟨ab,12,none⟩ (.slice pa2 m.packets.length pc2)).setCell ⟨ab,13,none⟩ (.slice pl2 m.plans.length lc2))=kz at *
    have hS:A9c w.heap.size (.int .i64 t.n) (.slice la t.links.length lc0) kz:=⟨(hT3.under hB).cells.1 0,(hT3.under hB).cells.1 1⟩
    refine A9 hQp hS [12] ?_
    iterate 1 (refine B2 _ rfl (by kernel_rfl) (A0 (by kernel_rfl) (by intro w0 hw0;have hw1:=hw0;simp only [A9c] at hw1;first|(go_simp;done)|(go_simp;rfl))) ?_;simp only [Act.put,St.tA,St.tD,St.tE,St.tS,St.tC,St.tZ])
    refine B3 ?_
    clear hS
    obtain ⟨f1,f2⟩:=hG3.cells
    have hfl:=hG3.lt
    refine A7 (i:=13) rfl (by kernel_rfl) (by kernel_rfl) fun K13 hK13=>?_
    go_simp
    go_wp2_with fail
    clear f1 f2
    have hFz:=(Frm.set (w:=kz) (W:=fun b=>b≠gb) (B:=w3.heap.size) (a:=⟨gb,0,none⟩) (fun h=>h rfl) hlow10 (.int .i64 fe2)).trans (Frm.set (a:=⟨gb,1,none⟩) (fun h=>h rfl) hlow10 (.int .i64 ff2))
    have hGz:=(hG3.set 0 (.int .i64 fe2)).set 1 (.int .i64 ff2)
    simp only [St.tS,St.tC,St.tZ] at hGz
    have hAz:=hFz.blk hAb (.inl (by omega))
    have hn6:=A0g.mono hn5 (ok':=fun _=>True) (fun b hb ho=>⟨trivial,hFz.keep b hb ho⟩)
    have he6:=(hFz.row' he5 (fun b hb=>.inl hb)).anyOk (ok':=fun _=>True) (fun _ _ _=>trivial)
    replace hB:=hB.trans hFz.below
    have hS:A9c w.heap.size (.int .i64 t.n) (.slice la t.links.length lc0) _:=⟨(hT3.under hB).cells.1 0,(hT3.under hB).cells.1 1⟩
    refine hK13 _ _ (fun _=>hS) ?_
    clear hK13
    refine B5 (by kernel_rfl) ?_ _
    refine hR _ _ ?_
    iterate 12 apply Exists.intro
    refine ⟨?_,⟨ab,gb,ea2,ec2,[.int .i64 m.ctl.stage,r0,r1,r2,s0,s1,s2,.int .i64 m.ctl.num,.slice wa2 m.ctl.waits.length wc2,.slice sa2 m.switches.length sc2,.slice oa2 m.orders.length oc2,.slice ba2 m.backs.length bc2,.slice pa2 m.packets.length pc2,.slice pl2 m.plans.length lc2],rfl,rfl,rfl,hAz,hGz,hn6,he6,hB⟩⟩
    simp only [C8,Act.put,St.tS,St.tC,St.tZ]
    rfl
  ·skip
   go_simp
   go_wp2_with fail
   have hG2:=I6 wa 44 #[.int .i64 0,.int .i64 0]
   have hbA:=G8 wa (.cells #[.int .i64 0,.int .i64 0] 44)
   have hlow10:w3.heap.size≤wa.heap.size:=hB.size
   replace hB:=hB.trans (hbA.mono hB.size)
   have hgl9:wa.heap.size<(wa.alloc (.cells #[.int .i64 0,.int .i64 0] 44)).heap.size:=hG2.lt
   have hS:A9c w.heap.size (.int .i64 t.n) (.slice la t.links.length lc0) (wa.alloc (.cells #[.int .i64 0,.int .i64 0] 44)):=⟨(hT3.under hB).cells.1 0,(hT3.under hB).cells.1 1⟩
   refine hK10 _ _ (fun _=>hS) ?_
   clear hK10 hbA hS
   generalize wa.alloc _=k11 at *
   generalize wa.heap.size=gb at *
   refine H5 (i:=4) (j:=9) rfl rfl (by kernel_rfl) (by kernel_rfl) (by kernel_rfl) (fun K4 hK4=>?_) (fun K9 hK9=>?_)
   ·skip
    go_simp
    go_wp2_with fail
    refine (HPL.out k11 _ _ (HTT.out k11 hB) (HDD.out k11 hB)).mono ?_
    rintro e k12 ⟨cs,ea2,ec2,rfl,hn4,he4,hb4⟩
    obtain ⟨r0,r1,r2,s0,s1,s2,wa2,wc2,sa2,sc2,oa2,oc2,ba2,bc2,pa2,pc2,pl2,lc2,rfl,hst2,hnu2,hnow2,hnext2,_⟩:=A0g.open8 hn4
    obtain ⟨lp0,lp1,lp2⟩:=B7.st (P:=Try.prog) hnow2
    obtain ⟨lq0,lq1,lq2⟩:=B7.st (P:=Try.prog) hnext2
    clear hnow2 hnext2 hst2 hnu2
    go_wp2_with fail
    have hsz4:=hB.size
    replace hn4:=A0g.mono hn4 (w':=k12) (ok':=fun b=>b≠gb) (fun b hb ho=>⟨by first|trivial|omega,rfl⟩)
    replace he4:=he4.anyOk (ok':=fun b=>b≠gb) (fun b hb ho=>by first|trivial|omega)
    replace hG2:=hG2.under hb4
    replace hgl9:gb<k12.heap.size:=hG2.lt
    replace hB:=hB.trans (hb4.mono hB.size)
    have hS:A9c w.heap.size (.int .i64 t.n) (.slice la t.links.length lc0) k12:=⟨(hT3.under hB).cells.1 0,(hT3.under hB).cells.1 1⟩
    refine hK4 _ _ (fun _=>hS) ?_
    clear hK4 hb4 hsz4
    refine A9 hQp hS [5,6,7,8] ?_
    iterate 4 (refine B2 _ rfl (by kernel_rfl) (A0 (by kernel_rfl) (by intro w0 hw0;have hw1:=hw0;simp only [A9c] at hw1;first|(go_simp;done)|(go_simp;rfl))) ?_;simp only [Act.put,St.tA,St.tD,St.tE,St.tS,St.tC,St.tZ])
    refine B3 ?_
    clear hS
    refine A7 (i:=9) rfl (by kernel_rfl) (by kernel_rfl) fun K9 hK9=>?_
    go_simp
    go_wp2_with fail
    have hA:=I6 k12 40 #[.int .i64 0,.int .i64 0,.slice none 0 0,.slice none 0 0,.int .i64 0,.slice none 0 0,.slice none 0 0,.int .i64 0,.slice none 0 0,.slice none 0 0,.slice none 0 0,.slice none 0 0,.slice none 0 0,.slice none 0 0]
    have hbA:=G8 k12 (.cells #[.int .i64 0,.int .i64 0,.slice none 0 0,.slice none 0 0,.int .i64 0,.slice none 0 0,.slice none 0 0,.int .i64 0,.slice none 0 0,.slice none 0 0,.slice none 0 0,.slice none 0 0,.slice none 0 0,.slice none 0 0] 40)
    have hlow9:w3.heap.size≤k12.heap.size:=hB.size
    replace hB:=hB.trans (hbA.mono hB.size)
    replace hG2:=hG2.under hbA
    have hne:k12.heap.size≠gb:=by omega
    replace hgl9:gb<(k12.alloc (.cells #[.int .i64 0,.int .i64 0,.slice none 0 0,.slice none 0 0,.int .i64 0,.slice none 0 0,.slice none 0 0,.int .i64 0,.slice none 0 0,.slice none 0 0,.slice none 0 0,.slice none 0 0,.slice none 0 0,.slice none 0 0] 40)).heap.size:=hG2.lt
    replace hn4:=A0g.mono hn4 (w':=(k12.alloc (.cells #[.int .i64 0,.int .i64 0,.slice none 0 0,.slice none 0 0,.int .i64 0,.slice none 0 0,.slice none 0 0,.int .i64 0,.slice none 0 0,.slice none 0 0,.slice none 0 0,.slice none 0 0,.slice none 0 0,.slice none 0 0] 40))) (ok':=fun b=>b≠k12.heap.size∧b≠gb) (fun b hb ho=>⟨by omega,hbA.block b hb⟩)
    replace he4:=(he4.anyOk (ok':=fun b=>b≠k12.heap.size∧b≠gb) (fun b hb ho=>by omega)).below hbA
    have hal9:k12.heap.size<(k12.alloc (.cells #[.int .i64 0,.int .i64 0,.slice none 0 0,.slice none 0 0,.int .i64 0,.slice none 0 0,.slice none 0 0,.int .i64 0,.slice none 0 0,.slice none 0 0,.slice none 0 0,.slice none 0 0,.slice none 0 0,.slice none 0 0] 40)).heap.size:=hA.lt
    have hS:A9c w.heap.size (.int .i64 t.n) (.slice la t.links.length lc0) (k12.alloc (.cells #[.int .i64 0,.int .i64 0,.slice none 0 0,.slice none 0 0,.int .i64 0,.slice none 0 0,.slice none 0 0,.int .i64 0,.slice none 0 0,.slice none 0 0,.slice none 0 0,.slice none 0 0,.slice none 0 0,.slice none 0 0] 40)):=⟨(hT3.under hB).cells.1 0,(hT3.under hB).cells.1 1⟩
    refine hK9 _ _ (fun _=>hS) ?_
    clear hK9 hbA hS
    generalize k12.alloc _=k13 at *
    generalize k12.heap.size=ab at *
    obtain ⟨x1,x2⟩:=hA.cells
    have hxl:=hA.lt
    refine A7 (i:=11) rfl (by kernel_rfl) (by kernel_rfl) fun K11 hK11=>?_
    go_simp
    go_wp2_with fail
    clear x1 x2
    obtain ⟨hAb,FXb⟩:=B05 hA (fun b=>b≠ab) w3.heap.size (fun h=>h rfl) hlow9 (.int .i64 m.ctl.stage) r0 r1 r2 s0 s1 s2 (.int .i64 m.ctl.num) (.slice wa2 m.ctl.waits.length wc2) (.slice sa2 m.switches.length sc2) (.slice oa2 m.orders.length oc2) (.slice ba2 m.backs.length bc2) (.slice pa2 m.packets.length pc2) (.slice pl2 m.plans.length lc2)
    have hn5:=A0g.mono hn4 (ok':=fun b=>b≠gb) (fun b hb ho=>⟨ho.2,FXb.keep b hb ho.1⟩)
    have he5:=(FXb.row' he4 (fun b hb=>.inl hb.1)).anyOk (ok':=fun b=>b≠gb) (fun b hb ho=>ho.2)
    have hG3:=FXb.blk hG2 (.inl (by omega))
    replace hB:=hB.trans FXb.below
    have hS:A9c w.heap.size (.int .i64 t.n) (.slice la t.links.length lc0) _:=⟨(hT3.under hB).cells.1 0,(hT3.under hB).cells.1 1⟩
    refine hK11 _ _ (fun _=>hS) ?_
    clear hK11 hA hn4 he4 hG2 FXb lp0 lp1 lp2 lq0 lq1 lq2 hS
    generalize ((((((((((((((k13.setCell ⟨ab,0,none⟩ (.int .i64 m.ctl.stage)).setCell ⟨ab,1,none⟩ r0).setCell ⟨ab,2,none⟩ r1).setCell ⟨ab,3,none⟩ r2).setCell ⟨ab,4,none⟩ s0).setCell ⟨ab,5,none⟩ s1).setCell ⟨ab,6,none⟩ s2).setCell ⟨ab,7,none⟩ (.int .i64 m.ctl.num)).setCell ⟨ab,8,none⟩ (.slice wa2 m.ctl.waits.length wc2)).setCell ⟨ab,9,none⟩ (.slice sa2 m.switches.length sc2)).setCell ⟨ab,10,none⟩ (.slice oa2 m.orders.length oc2)).setCell ⟨ab,11,none⟩ (.slice ba2 m.backs.length bc2)).setCell ⟨ab,12,none⟩ (.slice pa2 m.packets.length pc2)).setCell ⟨ab,13,none⟩ (.slice pl2 m.plans.length lc2))=kz at *
    have hS:A9c w.heap.size (.int .i64 t.n) (.slice la t.links.length lc0) kz:=⟨(hT3.under hB).cells.1 0,(hT3.under hB).cells.1 1⟩
    refine A9 hQp hS [12] ?_
    iterate 1 (refine B2 _ rfl (by kernel_rfl) (A0 (by kernel_rfl) (by intro w0 hw0;have hw1:=hw0;simp only [A9c] at hw1;first|(go_simp;done)|(go_simp;rfl))) ?_;simp only [Act.put,St.tA,St.tD,St.tE,St.tS,St.tC,St.tZ])
    refine B3 ?_
    clear hS
    obtain ⟨f1,f2⟩:=hG3.cells
    have hfl:=hG3.lt
    refine A7 (i:=13) rfl (by kernel_rfl) (by kernel_rfl) fun K13 hK13=>?_
    go_simp
    go_wp2_with fail
    clear f1 f2
    have hFz:=(Frm.set (w:=kz) (W:=fun b=>b≠gb) (B:=w3.heap.size) (a:=⟨gb,0,none⟩) (fun h=>h rfl) hlow10 (.int .i64 fe2)).trans (Frm.set (a:=⟨gb,1,none⟩) (fun h=>h rfl) hlow10 (.int .i64 ff2))
    have hGz:=(hG3.set 0 (.int .i64 fe2)).set 1 (.int .i64 ff2)
    simp only [St.tS,St.tC,St.tZ] at hGz
    have hAz:=hFz.blk hAb (.inl (by omega))
    have hn6:=A0g.mono hn5 (ok':=fun _=>True) (fun b hb ho=>⟨trivial,hFz.keep b hb ho⟩)
    have he6:=(hFz.row' he5 (fun b hb=>.inl hb)).anyOk (ok':=fun _=>True) (fun _ _ _=>trivial)
    replace hB:=hB.trans hFz.below
    have hS:A9c w.heap.size (.int .i64 t.n) (.slice la t.links.length lc0) _:=⟨(hT3.under hB).cells.1 0,(hT3.under hB).cells.1 1⟩
    refine hK13 _ _ (fun _=>hS) ?_
    clear hK13
    refine B5 (by kernel_rfl) ?_ _
    refine hR _ _ ?_
    iterate 12 apply Exists.intro
    refine ⟨?_,⟨ab,gb,ea2,ec2,[.int .i64 m.ctl.stage,r0,r1,r2,s0,s1,s2,.int .i64 m.ctl.num,.slice wa2 m.ctl.waits.length wc2,.slice sa2 m.switches.length sc2,.slice oa2 m.orders.length oc2,.slice ba2 m.backs.length bc2,.slice pa2 m.packets.length pc2,.slice pl2 m.plans.length lc2],rfl,rfl,rfl,hAz,hGz,hn6,he6,hB⟩⟩
    simp only [C8,Act.put,St.tS,St.tC,St.tZ]
    rfl
   ·skip
    go_simp
    go_wp2_with fail
    have hA:=I6 k11 40 #[.int .i64 0,.int .i64 0,.slice none 0 0,.slice none 0 0,.int .i64 0,.slice none 0 0,.slice none 0 0,.int .i64 0,.slice none 0 0,.slice none 0 0,.slice none 0 0,.slice none 0 0,.slice none 0 0,.slice none 0 0]
    have hbA:=G8 k11 (.cells #[.int .i64 0,.int .i64 0,.slice none 0 0,.slice none 0 0,.int .i64 0,.slice none 0 0,.slice none 0 0,.int .i64 0,.slice none 0 0,.slice none 0 0,.slice none 0 0,.slice none 0 0,.slice none 0 0,.slice none 0 0] 40)
    have hlow9:w3.heap.size≤k11.heap.size:=hB.size
    replace hB:=hB.trans (hbA.mono hB.size)
    replace hG2:=hG2.under hbA
    have hne:k11.heap.size≠gb:=by omega
    replace hgl9:gb<(k11.alloc (.cells #[.int .i64 0,.int .i64 0,.slice none 0 0,.slice none 0 0,.int .i64 0,.slice none 0 0,.slice none 0 0,.int .i64 0,.slice none 0 0,.slice none 0 0,.slice none 0 0,.slice none 0 0,.slice none 0 0,.slice none 0 0] 40)).heap.size:=hG2.lt
    have hal9:k11.heap.size<(k11.alloc (.cells #[.int .i64 0,.int .i64 0,.slice none 0 0,.slice none 0 0,.int .i64 0,.slice none 0 0,.slice none 0 0,.int .i64 0,.slice none 0 0,.slice none 0 0,.slice none 0 0,.slice none 0 0,.slice none 0 0,.slice none 0 0] 40)).heap.size:=hA.lt
    have hS:A9c w.heap.size (.int .i64 t.n) (.slice la t.links.length lc0) (k11.alloc (.cells #[.int .i64 0,.int .i64 0,.slice none 0 0,.slice none 0 0,.int .i64 0,.slice none 0 0,.slice none 0 0,.int .i64 0,.slice none 0 0,.slice none 0 0,.slice none 0 0,.slice none 0 0,.slice none 0 0,.slice none 0 0] 40)):=⟨(hT3.under hB).cells.1 0,(hT3.under hB).cells.1 1⟩
    refine hK9 _ _ (fun _=>hS) ?_
    clear hK9 hbA hS
    generalize k11.alloc _=k14 at *
    generalize k11.heap.size=ab at *
    refine A7 (i:=4) rfl (by kernel_rfl) (by kernel_rfl) fun K4 hK4=>?_
    go_simp
    go_wp2_with fail
    refine (HPL.out k14 _ _ (HTT.out k14 hB) (HDD.out k14 hB)).mono ?_
    rintro e k15 ⟨cs,ea2,ec2,rfl,hn4,he4,hb4⟩
    obtain ⟨r0,r1,r2,s0,s1,s2,wa2,wc2,sa2,sc2,oa2,oc2,ba2,bc2,pa2,pc2,pl2,lc2,rfl,hst2,hnu2,hnow2,hnext2,_⟩:=A0g.open8 hn4
    obtain ⟨lp0,lp1,lp2⟩:=B7.st (P:=Try.prog) hnow2
    obtain ⟨lq0,lq1,lq2⟩:=B7.st (P:=Try.prog) hnext2
    clear hnow2 hnext2 hst2 hnu2
    go_wp2_with fail
    have hsz4:=hB.size
    replace hn4:=A0g.mono hn4 (w':=k15) (ok':=fun b=>b≠ab∧b≠gb) (fun b hb ho=>⟨by first|trivial|omega,rfl⟩)
    replace he4:=he4.anyOk (ok':=fun b=>b≠ab∧b≠gb) (fun b hb ho=>by first|trivial|omega)
    replace hA:=hA.under hb4
    replace hG2:=hG2.under hb4
    replace hal9:ab<k15.heap.size:=hA.lt
    replace hgl9:gb<k15.heap.size:=hG2.lt
    replace hB:=hB.trans (hb4.mono hB.size)
    have hS:A9c w.heap.size (.int .i64 t.n) (.slice la t.links.length lc0) k15:=⟨(hT3.under hB).cells.1 0,(hT3.under hB).cells.1 1⟩
    refine hK4 _ _ (fun _=>hS) ?_
    clear hK4 hb4 hsz4
    refine A9 hQp hS [5,6,7,8] ?_
    iterate 4 (refine B2 _ rfl (by kernel_rfl) (A0 (by kernel_rfl) (by intro w0 hw0;have hw1:=hw0;simp only [A9c] at hw1;first|(go_simp;done)|(go_simp;rfl))) ?_;simp only [Act.put,St.tA,St.tD,St.tE,St.tS,St.tC,St.tZ])
    refine B3 ?_
    clear hS
    obtain ⟨x1,x2⟩:=hA.cells
    have hxl:=hA.lt
    refine A7 (i:=11) rfl (by kernel_rfl) (by kernel_rfl) fun K11 hK11=>?_
    go_simp
    go_wp2_with fail
    clear x1 x2
    obtain ⟨hAb,FXb⟩:=B05 hA (fun b=>b≠ab) w3.heap.size (fun h=>h rfl) hlow9 (.int .i64 m.ctl.stage) r0 r1 r2 s0 s1 s2 (.int .i64 m.ctl.num) (.slice wa2 m.ctl.waits.length wc2) (.slice sa2 m.switches.length sc2) (.slice oa2 m.orders.length oc2) (.slice ba2 m.backs.length bc2) (.slice pa2 m.packets.length pc2) (.slice pl2 m.plans.length lc2)
    have hn5:=A0g.mono hn4 (ok':=fun b=>b≠gb) (fun b hb ho=>⟨ho.2,FXb.keep b hb ho.1⟩)
    have he5:=(FXb.row' he4 (fun b hb=>.inl hb.1)).anyOk (ok':=fun b=>b≠gb) (fun b hb ho=>ho.2)
    have hG3:=FXb.blk hG2 (.inl (by omega))
    replace hB:=hB.trans FXb.below
    have hS:A9c w.heap.size (.int .i64 t.n) (.slice la t.links.length lc0) _:=⟨(hT3.under hB).cells.1 0,(hT3.under hB).cells.1 1⟩
    refine hK11 _ _ (fun _=>hS) ?_
    clear hK11 hA hn4 he4 hG2 FXb lp0 lp1 lp2 lq0 lq1 lq2 hS
    generalize ((((((((((((((k15.setCell ⟨ab,0,none⟩ (.int .i64 m.ctl.stage)).setCell ⟨ab,1,none⟩ r0).setCell ⟨ab,2,none⟩ r1).setCell ⟨ab,3,none⟩ r2).setCell ⟨ab,4,none⟩ s0).setCell ⟨ab,5,none⟩ s1).setCell ⟨ab,6,none⟩ s2).setCell ⟨ab,7,none⟩ (.int .i64 m.ctl.num)).setCell ⟨ab,8,none⟩ (.slice wa2 m.ctl.waits.length wc2)).setCell ⟨ab,9,none⟩ (.slice sa2 m.switches.length sc2)).setCell ⟨ab,10,none⟩ (.slice oa2 m.orders.length oc2)).setCell ⟨ab,11,none⟩ (.slice ba2 m.backs.length bc2)).setCell ⟨ab,12,none⟩ (.slice pa2 m.packets.length pc2)).setCell ⟨ab,13,none⟩ (.slice pl2 m.plans.length lc2))=kz at *
    have hS:A9c w.heap.size (.int .i64 t.n) (.slice la t.links.length lc0) kz:=⟨(hT3.under hB).cells.1 0,(hT3.under hB).cells.1 1⟩
    refine A9 hQp hS [12] ?_
    iterate 1 (refine B2 _ rfl (by kernel_rfl) (A0 (by kernel_rfl) (by intro w0 hw0;have hw1:=hw0;simp only [A9c] at hw1;first|(go_simp;done)|(go_simp;rfl))) ?_;simp only [Act.put,St.tA,St.tD,St.tE,St.tS,St.tC,St.tZ])
    refine B3 ?_
    clear hS
    obtain ⟨f1,f2⟩:=hG3.cells
    have hfl:=hG3.lt
    refine A7 (i:=13) rfl (by kernel_rfl) (by kernel_rfl) fun K13 hK13=>?_
    go_simp
    go_wp2_with fail
    clear f1 f2
    have hFz:=(Frm.set (w:=kz) (W:=fun b=>b≠gb) (B:=w3.heap.size) (a:=⟨gb,0,none⟩) (fun h=>h rfl) hlow10 (.int .i64 fe2)).trans (Frm.set (a:=⟨gb,1,none⟩) (fun h=>h rfl) hlow10 (.int .i64 ff2))
    have hGz:=(hG3.set 0 (.int .i64 fe2)).set 1 (.int .i64 ff2)
    simp only [St.tS,St.tC,St.tZ] at hGz
    have hAz:=hFz.blk hAb (.inl (by omega))
    have hn6:=A0g.mono hn5 (ok':=fun _=>True) (fun b hb ho=>⟨trivial,hFz.keep b hb ho⟩)
    have he6:=(hFz.row' he5 (fun b hb=>.inl hb)).anyOk (ok':=fun _=>True) (fun _ _ _=>trivial)
    replace hB:=hB.trans hFz.below
    have hS:A9c w.heap.size (.int .i64 t.n) (.slice la t.links.length lc0) _:=⟨(hT3.under hB).cells.1 0,(hT3.under hB).cells.1 1⟩
    refine hK13 _ _ (fun _=>hS) ?_
    clear hK13
    refine B5 (by kernel_rfl) ?_ _
    refine hR _ _ ?_
    iterate 12 apply Exists.intro
    refine ⟨?_,⟨ab,gb,ea2,ec2,[.int .i64 m.ctl.stage,r0,r1,r2,s0,s1,s2,.int .i64 m.ctl.num,.slice wa2 m.ctl.waits.length wc2,.slice sa2 m.switches.length sc2,.slice oa2 m.orders.length oc2,.slice ba2 m.backs.length bc2,.slice pa2 m.packets.length pc2,.slice pl2 m.plans.length lc2],rfl,rfl,rfl,hAz,hGz,hn6,he6,hB⟩⟩
    simp only [C8,Act.put,St.tS,St.tC,St.tZ]
    rfl
 rintro a' w8 ⟨v10,v11,v12,v34,v35,v36,v37,v38,v39,v40,v41,v42,rfl,hb8⟩
 simp only [C8,Act.put,St.tS,St.tC,St.tZ]
 obtain ⟨ab,gb,ea2,ec2,cs,rfl,rfl,rfl,hA,hG2,hn4,he4,hB4⟩:=hb8
 rename World=>w8
 obtain ⟨r0,r1,r2,s0,s1,s2,wa2,wc2,sa2,sc2,oa2,oc2,ba2,bc2,pa2,pc2,pl2,lc2,rfl,hst2,hnu2,hnow2,hnext2,hwt2,hks2,hko2,hkb2,hkp2,hkl2⟩:=A0g.open8 hn4
 have hW8:=hW.under hB4
 have hG8:=hG.under hB4
 have hB8:=hB3.trans (hB4.mono hB3.size)
 have he8:=he3.below hB4
 have hkp8:=hkp3.below hB4
 obtain ⟨x1,x2⟩:=hW8.cells
 obtain ⟨u1,u2⟩:=hA.cells
 obtain ⟨f1,f2⟩:=hG8.cells
 obtain ⟨g1,g2⟩:=hG2.cells
 have hwl:=hW8.lt
 have hul:=hA.lt
 have hfl:=hG8.lt
 have hgl:=hG2.lt
 have hef:=B74
 clear hS0 hn4 hwt2 hks2 hko2 hkb2 hkl2 hnow2 hnext2 hW hG hT3 he3 hkp3 hd3 hB4
 by_cases hbad:fe≠0∨fe2≠0
 case pos=>
  have hO:=HP.out.1 hbad
  by_cases hfe:fe=0
  case neg=>
   have q1:(fe !=0)=true:=by rw [bne_iff_ne];exact hfe
   rcases hO with hO|hO
   ·obtain ⟨rfl,rfl⟩:fe=fe2∧ff=ff2:=by simpa using hO
    have q2:(fe==fe && ff==ff)=true:=by simp
    clear hO hbad hfe
    go_wp2
    go_ret;exact ⟨rfl,hB8⟩
   ·subst hO
    by_cases q3:((5:Int)==fe2 && ff==ff2)=true
    ·clear hbad hfe
     go_wp2
     go_ret;exact ⟨rfl,hB8⟩
    ·have q4:((5:Int)==fe2 && ff==ff2)=false:=by simpa using q3
     clear hbad hfe q3
     go_wp2
     go_ret;exact ⟨rfl,hB8⟩
  subst hfe
  have hfe2:fe2≠0:=hbad.resolve_left (fun h=>h rfl)
  have q1:(fe2 !=0)=true:=by rw [bne_iff_ne];exact hfe2
  exfalso
  rcases hO with hO|hO
  ·have:(0:Int)=fe2:=by have:=congrArg Prod.fst hO;exact this
   omega
  ·exact absurd hO (by decide)
 obtain ⟨rfl,rfl⟩:fe=0∧fe2=0:=by omega
 obtain ⟨hel,hel2,hpk,hpl,hes,hpks⟩:=HP.out.2 rfl rfl
 have HES:=Lib.hid hes
 have HPK:=Lib.hid hpks
 have d1:((es.length:Int) !=(l.length:Int))=false:=by rw [hel];simp
 have d2:((es2.length:Int) !=(a:Int))=false:=by rw [hel2];simp
 have d3:¬(n.packets.length:Int)<(m.packets.length:Int):=by omega
 have d4:¬(n.plans.length:Int)<(m.plans.length:Int):=by omega
 have d5:¬n.packets.length<m.packets.length:=by omega
 have d6:¬n.plans.length<m.plans.length:=by omega
 have k1:es2.length≤a:=by omega
 have k2:a≤es2.length:=by omega
 have k3:l.length≤es.length:=by omega
 have hml:=hkp2.len_le
 clear hbad HP hel hel2 hes hpks hef
 go_wp2
 clear x1 x2 u1 u2 f1 f2 g1 g2 d1 d2
 go_loopw [90] (fun idx wr=>∃ i:Nat,idx=.int .i64 i∧i≤es2.length∧Below w8.heap.size w8 wr) (fun idx _=>es2.length - (intOf idx).toNat)
 case atStart=>exact ⟨0,rfl,Nat.zero_le _,Below.refl _ _⟩
 case round=>
  obtain ⟨i,rfl,hi,hb⟩:=hrel
  rename World=>wo
  by_cases hlt:i<es2.length
  case pos=>
   have b1:(i:Int)<(es2.length:Int):=by omega
   have b0:(0:Int)≤(i:Int):=by omega
   have b2:(i:Int)<(es.length:Int):=by omega
   obtain ⟨er,her⟩:∃ er,es2[i]? =some er:=⟨_,List.getElem?_eq_getElem hlt⟩
   have her2:es[i]? =some er:=by rw [←HES.out i (by omega)];exact her
   obtain ⟨eg,eof,rfl,_,hel3,cs2,rfl,hce⟩:=(he4.below hb).get her
   obtain ⟨eg2,eof2,rfl,_,hel4,cs3,rfl,hce2⟩:=(he8.below hb).get her2
   have q0:=hce 0 _ rfl
   have p0:=hce2 0 _ rfl
   rw [show A71.size=1 from rfl,Nat.add_zero,Nat.mul_one] at q0 p0
   have hS0:B7w eg (eof+i) eg2 (eof2+i) (.int .i64 er) wo.drew:=⟨q0,p0⟩
   clear hce hce2 her her2
   go_upto_region 14 with fail
   refine B9 (B7w eg (eof+i) eg2 (eof2+i) (.int .i64 er)) 99 (fun a0 a' w'=>∃ v93 v94 v95 v96 v97 v98 v99 v100,a'=C8 a0 [(93,v93),(94,v94),(95,v95),(96,v96),(97,v97),(98,v98),(99,v99),(100,v100),(101,.bool false)]∧Below wo.heap.size wo w') (by kernel_rfl) ?_ ?_
   ·intro Q' hR hQp
    have hb0:Below wo.heap.size wo wo.drew:=N4 _
    have hS:B7w eg (eof+i) eg2 (eof2+i) (.int .i64 er) wo.drew:=hS0
    generalize wo.drew=wa at *
    refine A9 hQp hS [0,1,4,5,2,6,3,7,8] ?_
    iterate 9 (refine B2 _ rfl (by kernel_rfl) (A0 (by kernel_rfl) (by intro w0 hw0;have hw1:=hw0;simp only [B7w] at hw1;first|(go_simp;done)|(go_simp;rfl))) ?_;simp only [Act.put,St.tA,St.tD,St.tE,St.tS,St.tC,St.tZ])
    refine B3 ?_
    refine B5 (by kernel_rfl) ?_ _
    refine hR _ _ ?_
    iterate 8 apply Exists.intro
    refine ⟨?_,hb0⟩
    simp only [C8,Act.put,St.tS,St.tC,St.tZ]
    rfl
   rintro a' w8 ⟨v93,v94,v95,v96,v97,v98,v99,v100,rfl,hb8⟩
   simp only [C8,Act.put,St.tS,St.tC,St.tZ]
   have hbq:=hb.trans (hb8.mono hb.size)
   clear hS0 q0 p0
   go_wp2
   case roundEnd=>
    go_roundw
    case rel=>exact ⟨i+1,by go_num,by omega,hbq⟩
    case measure=>simp [intOf]<;>omega
  have b1:¬(i:Int)<(es2.length:Int):=by omega
  have hA9:=hA.under hb
  have hW9:=hW8.under hb
  have hp9:=hkp2.below hb
  have hq9:=hkp8.below hb
  have hB9:=hB8.trans (hb.mono hB8.size)
  obtain ⟨u1,u2⟩:=hA9.cells
  have hul:=hA9.lt
  clear he4 he8 HES hA hW8 hkp2 hkp8 hb hB8 hG2 hG8 hgl hfl hwl
  go_wp2
  clear u1 u2
  go_loopw [106] (fun idx wr=>∃ i:Nat,idx=.int .i64 i∧i≤m.packets.length∧Below wo.heap.size wo wr) (fun idx _=>m.packets.length - (intOf idx).toNat)
  case atStart=>exact ⟨0,rfl,Nat.zero_le _,Below.refl _ _⟩
  case round=>
   obtain ⟨j,rfl,hj,hb⟩:=hrel
   rename World=>wi
   have hBi:=hB9.trans (hb.mono hB9.size)
   by_cases hlt:j<m.packets.length
   case neg=>
    have c1:¬(j:Int)<(m.packets.length:Int):=by omega
    go_wp2
    go_ret;exact ⟨rfl,hBi⟩
   have c1:(j:Int)<(m.packets.length:Int):=by omega
   have c0:(0:Int)≤(j:Int):=by omega
   have c2:(j:Int)<(n.packets.length:Int):=by omega
   obtain ⟨p,hpi⟩:∃ p,m.packets[j]? =some p:=⟨_,List.getElem?_eq_getElem hlt⟩
   obtain ⟨q,hqi,hle,htk,hdn,hvr⟩:=HPK.out j p hpi
   have HTK:=Lib.hid htk
   have HVR:=Lib.hid hvr
   clear hvr
   obtain ⟨pg,po,ta,tc,rfl,hpg,hI1,hI2,htr,hce⟩:=A51 (hp9.below hb) hpi
   obtain ⟨qg,qo,sa9,sc9,rfl,hqg,hJ1,hJ2,hsr,hcf⟩:=A51 (hq9.below hb) hqi
   obtain ⟨e0,e1,e2,e3⟩:=hce wi (Below.refl _ _)
   obtain ⟨f0,f1,f2,f3⟩:=hcf wi (Below.refl _ _)
   have hWi:=hW9.under hb
   obtain ⟨u1,u2⟩:=hWi.cells
   have hwl:=hWi.lt
   have hX:A6 ((wi.alloc (.cells #[.int .i64 p.flow,.int .i64 p.ver,.slice ta p.trace.length tc,.bool p.done] 48)).alloc (.cells #[.int .i64 q.flow,.int .i64 q.ver,.slice sa9 q.trace.length sc9,.bool q.done] 48)) wi.heap.size 48 #[.int .i64 p.flow,.int .i64 p.ver,.slice ta p.trace.length tc,.bool p.done]:=(A6.new rfl).alloc _
   have hY:A6 ((wi.alloc (.cells #[.int .i64 p.flow,.int .i64 p.ver,.slice ta p.trace.length tc,.bool p.done] 48)).alloc (.cells #[.int .i64 q.flow,.int .i64 q.ver,.slice sa9 q.trace.length sc9,.bool q.done] 48)) (wi.heap.size+1) 48 #[.int .i64 q.flow,.int .i64 q.ver,.slice sa9 q.trace.length sc9,.bool q.done]:=A6.new (by simp)
   have hbx:Below wi.heap.size wi ((wi.alloc (.cells #[.int .i64 p.flow,.int .i64 p.ver,.slice ta p.trace.length tc,.bool p.done] 48)).alloc (.cells #[.int .i64 q.flow,.int .i64 q.ver,.slice sa9 q.trace.length sc9,.bool q.done] 48)):=A1t _ _ _
   have hb9:=hb.trans (hbx.mono hb.size)
   have htr9:=htr.below hbx
   have hsr9:=hsr.below hbx
   have hscl:q.trace.length≤sc9:=hsr.1
   have htl:=htr.len_le
   have hsl:=hsr.len_le
   clear hce hcf htr hsr hpi hqi htk
   go_upto_region 21 with fail
   clear e0 e1 e2 e3 f0 f1 f2 f3 u1 u2 hWi hwl
   generalize ((wi.alloc (.cells #[.int .i64 p.flow,.int .i64 p.ver,.slice ta p.trace.length tc,.bool p.done] 48)).alloc (.cells #[.int .i64 q.flow,.int .i64 q.ver,.slice sa9 q.trace.length sc9,.bool q.done] 48))=wj at *
   generalize wi.heap.size=xb at *
   have k3:¬(q.trace.length:Int)<(p.trace.length:Int):=by omega
   have k7:¬q.trace.length<p.trace.length:=by omega
   have k4:(0:Int)≤(p.trace.length:Int):=by omega
   have k5:(p.trace.length:Int)≤(sc9:Int):=by omega
   have k8:(p.ver !=q.ver)=false:=by rw [bne_eq_false_iff_eq,HVR.out]
   clear hle
   by_cases hpd:p.done=true
   case pos=>
    have k6:((q.trace.length:Int) !=(p.trace.length:Int))=false:=by rw [hdn hpd];simp
    rw [hpd] at hX
    have hS0:SPq xb (.int .i64 p.ver) (.slice ta p.trace.length tc) (.bool true) (xb+1) (.int .i64 q.ver) (.slice sa9 q.trace.length sc9) wj.drew:=⟨hX.cells.1 1,hX.cells.1 2,hX.cells.1 3,hY.cells.1 1,hY.cells.1 2⟩
    clear hdn hpd
    refine B9 (SPq xb (.int .i64 p.ver) (.slice ta p.trace.length tc) (.bool true) (xb+1) (.int .i64 q.ver) (.slice sa9 q.trace.length sc9)) 99 (fun a0 a' w'=>∃ v116 v117 v118 v119 v120 v121 v122 v123 v124 v125 v126 v127 v128 v129 v130 v131 v132 v133 v134 v135 v136 v137 v138 v139 v140 v141 v142 v143 v144 v145 v146 v147 v148 v149 v150 v151 v152 v153,a'=C8 a0 [(116,v116),(117,v117),(118,v118),(119,v119),(120,v120),(121,v121),(122,v122),(123,v123),(124,v124),(125,v125),(126,v126),(127,v127),(128,v128),(129,v129),(130,v130),(131,v131),(132,v132),(133,v133),(134,v134),(135,v135),(136,v136),(137,v137),(138,v138),(139,v139),(140,v140),(141,v141),(142,v142),(143,v143),(144,v144),(145,v145),(146,v146),(147,v147),(148,v148),(149,v149),(150,v150),(151,v151),(152,v152),(153,v153),(154,.bool false)]∧Below wj.heap.size wj w') (by kernel_rfl) ?_ ?_
    ·intro Q' hR hQp
     have hb0:Below wj.heap.size wj wj.drew:=N4 _
     have hS:SPq xb (.int .i64 p.ver) (.slice ta p.trace.length tc) (.bool true) (xb+1) (.int .i64 q.ver) (.slice sa9 q.trace.length sc9) wj.drew:=hS0
     generalize wj.drew=wa at *
     refine A9 hQp hS [0,3,1,4,2,5,6,7,8,10,12,9,11,13,14,15] ?_
     iterate 16 (refine B2 _ rfl (by kernel_rfl) (A0 (by kernel_rfl) (by intro w0 hw0;have hw1:=hw0;simp only [SPq] at hw1;first|(go_simp;done)|(go_simp;rfl))) ?_;simp only [Act.put,St.tA,St.tD,St.tE,St.tS,St.tC,St.tZ])
     refine B3 ?_
     clear hS
     refine A7 (i:=16) rfl (by kernel_rfl) (by kernel_rfl) fun K16 hK16=>?_
     go_simp
     go_wp2_with fail
     have hqt:A8 C2 (fun _=>True) wa sa9 sc9 p.trace:=by
      have h9:=(hsr9.below hb0).take p.trace.length
      rwa [←HTK.out] at h9
     refine (B1y p.trace p.trace _ _ _ _ _ _ wa (htr9.below hb0) hqt).mono ?_
     rintro e wb2 ⟨rfl,hab⟩
     rw [beq_self_eq_true]
     go_wp2_with fail
     have hbz2:=hb0.trans (hab.mono hb0.size)
     have hS:SPq xb (.int .i64 p.ver) (.slice ta p.trace.length tc) (.bool true) (xb+1) (.int .i64 q.ver) (.slice sa9 q.trace.length sc9) wb2:=⟨(hX.under hbz2).cells.1 1,(hX.under hbz2).cells.1 2,(hX.under hbz2).cells.1 3,(hY.under hbz2).cells.1 1,(hY.under hbz2).cells.1 2⟩
     refine hK16 _ _ (fun _=>hS) ?_
     clear hK16
     refine A9 hQp hS [17,18,19,20,21,22,23,26,24,27,25,28,29,30,31,32,33,35,34,36,37,38] ?_
     iterate 22 (refine B2 _ rfl (by kernel_rfl) (A0 (by kernel_rfl) (by intro w0 hw0;have hw1:=hw0;simp only [SPq] at hw1;first|(go_simp;done)|(go_simp;rfl))) ?_;simp only [Act.put,St.tA,St.tD,St.tE,St.tS,St.tC,St.tZ])
     refine B3 ?_
     refine B5 (by kernel_rfl) ?_ _
     refine hR _ _ ?_
     iterate 38 apply Exists.intro
     refine ⟨?_,hbz2⟩
     simp only [C8,Act.put,St.tS,St.tC,St.tZ]
     rfl
    rintro a' w8 ⟨v116,v117,v118,v119,v120,v121,v122,v123,v124,v125,v126,v127,v128,v129,v130,v131,v132,v133,v134,v135,v136,v137,v138,v139,v140,v141,v142,v143,v144,v145,v146,v147,v148,v149,v150,v151,v152,v153,rfl,hb8⟩
    simp only [C8,Act.put,St.tS,St.tC,St.tZ]
    have hbq:=hb9.trans (hb8.mono hb9.size)
    clear hS0 hX hY htr9 hsr9
    go_wp2
    case roundEnd=>
     go_roundw
     case rel=>exact ⟨j+1,by go_num,by omega,hbq⟩
     case measure=>simp [intOf]<;>omega
   case neg=>
    have hpd2:p.done=false:=by simpa using hpd
    rw [hpd2] at hX
    have hS0:SPq xb (.int .i64 p.ver) (.slice ta p.trace.length tc) (.bool false) (xb+1) (.int .i64 q.ver) (.slice sa9 q.trace.length sc9) wj.drew:=⟨hX.cells.1 1,hX.cells.1 2,hX.cells.1 3,hY.cells.1 1,hY.cells.1 2⟩
    clear hdn hpd hpd2
    refine B9 (SPq xb (.int .i64 p.ver) (.slice ta p.trace.length tc) (.bool false) (xb+1) (.int .i64 q.ver) (.slice sa9 q.trace.length sc9)) 99 (fun a0 a' w'=>∃ v116 v117 v118 v119 v120 v121 v122 v123 v124 v125 v126 v127 v128 v129 v130 v131 v132 v133 v134 v135 v136 v137 v138 v139 v140 v141 v142 v143 v144 v145 v146 v147 v148 v149 v150 v151 v152 v153,a'=C8 a0 [(116,v116),(117,v117),(118,v118),(119,v119),(120,v120),(121,v121),(122,v122),(123,v123),(124,v124),(125,v125),(126,v126),(127,v127),(128,v128),(129,v129),(130,v130),(131,v131),(132,v132),(133,v133),(134,v134),(135,v135),(136,v136),(137,v137),(138,v138),(139,v139),(140,v140),(141,v141),(142,v142),(143,v143),(144,v144),(145,v145),(146,v146),(147,v147),(148,v148),(149,v149),(150,v150),(151,v151),(152,v152),(153,v153),(154,.bool false)]∧Below wj.heap.size wj w') (by kernel_rfl) ?_ ?_
    ·intro Q' hR hQp
     have hb0:Below wj.heap.size wj wj.drew:=N4 _
     have hS:SPq xb (.int .i64 p.ver) (.slice ta p.trace.length tc) (.bool false) (xb+1) (.int .i64 q.ver) (.slice sa9 q.trace.length sc9) wj.drew:=hS0
     generalize wj.drew=wa at *
     refine A9 hQp hS [0,3,1,4,2,5,6,7,8,10,12,9,11,13,14,15] ?_
     iterate 16 (refine B2 _ rfl (by kernel_rfl) (A0 (by kernel_rfl) (by intro w0 hw0;have hw1:=hw0;simp only [SPq] at hw1;first|(go_simp;done)|(go_simp;rfl))) ?_;simp only [Act.put,St.tA,St.tD,St.tE,St.tS,St.tC,St.tZ])
     refine B3 ?_
     clear hS
     refine A7 (i:=16) rfl (by kernel_rfl) (by kernel_rfl) fun K16 hK16=>?_
     go_simp
     go_wp2_with fail
     have hqt:A8 C2 (fun _=>True) wa sa9 sc9 p.trace:=by
      have h9:=(hsr9.below hb0).take p.trace.length
      rwa [←HTK.out] at h9
     refine (B1y p.trace p.trace _ _ _ _ _ _ wa (htr9.below hb0) hqt).mono ?_
     rintro e wb2 ⟨rfl,hab⟩
     rw [beq_self_eq_true]
     go_wp2_with fail
     have hbz2:=hb0.trans (hab.mono hb0.size)
     have hS:SPq xb (.int .i64 p.ver) (.slice ta p.trace.length tc) (.bool false) (xb+1) (.int .i64 q.ver) (.slice sa9 q.trace.length sc9) wb2:=⟨(hX.under hbz2).cells.1 1,(hX.under hbz2).cells.1 2,(hX.under hbz2).cells.1 3,(hY.under hbz2).cells.1 1,(hY.under hbz2).cells.1 2⟩
     refine hK16 _ _ (fun _=>hS) ?_
     clear hK16
     refine A9 hQp hS [17,18,19,20,21,22] ?_
     iterate 6 (refine B2 _ rfl (by kernel_rfl) (A0 (by kernel_rfl) (by intro w0 hw0;have hw1:=hw0;simp only [SPq] at hw1;first|(go_simp;done)|(go_simp;rfl))) ?_;simp only [Act.put,St.tA,St.tD,St.tE,St.tS,St.tC,St.tZ])
     refine B3 ?_
     refine B0 (i:=23) undef rfl (by kernel_rfl) (fun _ _ _ h=>hQp _ _ _ _ h) hS (.inr ⟨by kernel_rfl,rfl⟩) ?_;simp only [Act.put,St.tA,St.tD,St.tE,St.tS,St.tC,St.tZ]
     refine B0 (i:=26) undef rfl (by kernel_rfl) (fun _ _ _ h=>hQp _ _ _ _ h) hS (.inr ⟨by kernel_rfl,rfl⟩) ?_;simp only [Act.put,St.tA,St.tD,St.tE,St.tS,St.tC,St.tZ]
     refine B0 (i:=24) undef rfl (by kernel_rfl) (fun _ _ _ h=>hQp _ _ _ _ h) hS (.inr ⟨by kernel_rfl,rfl⟩) ?_;simp only [Act.put,St.tA,St.tD,St.tE,St.tS,St.tC,St.tZ]
     refine B0 (i:=27) undef rfl (by kernel_rfl) (fun _ _ _ h=>hQp _ _ _ _ h) hS (.inr ⟨by kernel_rfl,rfl⟩) ?_;simp only [Act.put,St.tA,St.tD,St.tE,St.tS,St.tC,St.tZ]
     refine B0 (i:=25) undef rfl (by kernel_rfl) (fun _ _ _ h=>hQp _ _ _ _ h) hS (.inr ⟨by kernel_rfl,rfl⟩) ?_;simp only [Act.put,St.tA,St.tD,St.tE,St.tS,St.tC,St.tZ]
     refine B0 (i:=28) undef rfl (by kernel_rfl) (fun _ _ _ h=>hQp _ _ _ _ h) hS (.inr ⟨by kernel_rfl,rfl⟩) ?_;simp only [Act.put,St.tA,St.tD,St.tE,St.tS,St.tC,St.tZ]
     refine B0 (i:=29) undef rfl (by kernel_rfl) (fun _ _ _ h=>hQp _ _ _ _ h) hS (.inr ⟨by kernel_rfl,rfl⟩) ?_;simp only [Act.put,St.tA,St.tD,St.tE,St.tS,St.tC,St.tZ]
     refine A9 hQp hS [30,31,32,33,35,34,36,37,38] ?_
     iterate 9 (refine B2 _ rfl (by kernel_rfl) (A0 (by kernel_rfl) (by intro w0 hw0;have hw1:=hw0;simp only [SPq] at hw1;first|(go_simp;done)|(go_simp;rfl))) ?_;simp only [Act.put,St.tA,St.tD,St.tE,St.tS,St.tC,St.tZ])
     refine B3 ?_
     refine B5 (by kernel_rfl) ?_ _
     refine hR _ _ ?_
     iterate 38 apply Exists.intro
     refine ⟨?_,hbz2⟩
     simp only [C8,Act.put,St.tS,St.tC,St.tZ]
     rfl
    rintro a' w8 ⟨v116,v117,v118,v119,v120,v121,v122,v123,v124,v125,v126,v127,v128,v129,v130,v131,v132,v133,v134,v135,v136,v137,v138,v139,v140,v141,v142,v143,v144,v145,v146,v147,v148,v149,v150,v151,v152,v153,rfl,hb8⟩
    simp only [C8,Act.put,St.tS,St.tC,St.tZ]
    have hbq:=hb9.trans (hb8.mono hb9.size)
    clear hS0 hX hY htr9 hsr9
    go_wp2
    case roundEnd=>
     go_roundw
     case rel=>exact ⟨j+1,by go_num,by omega,hbq⟩
     case measure=>simp [intOf]<;>omega
end Go.Proofs.Ytpfmolaebloipaa
