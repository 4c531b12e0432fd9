/- Texts of this proof, one behind the other. -/
import Derived.Test.YtampcbncgofkoaaPk48
import Derived.Test.YtampcbncgofkoaaPk47
set_option linter.unusedSimpArgs false
set_option linter.unusedVariables false
set_option maxRecDepth 100000
set_option maxHeartbeats 16000000
namespace Go.St
open Go.RowKit
theorem B95 {w:World} {n:Nat} {la:Option Addr} {lc base:Nat} {e:TypeId} (hn:n≤8) (h:C7 A0e e (fun _=>False) base w la (n - 1) lc (H3 n).links):I5.rep (fun b=>base≤b) w [.int .i64 (n:Int),.slice la (n - 1) lc] (H3 n):=by
 refine ⟨la,lc,by rw [B9g];rfl,I64.small (by show -1000000000000≤(n:Int);omega) (by show (n:Int)≤1000000000000;omega),h.row (fun _ h=>h.elim) (fun k hk=>(h.lt k hk).1)⟩
theorem B9h {w:World} {b:Nat} {e:TypeId} {x y:Int} (h:A6 w b e #[.int .i64 x,.int .i64 y,.slice none 0 0,.slice none 0 0]) (hx:I64 x) (hy:I64 y):A8 H6 (fun k=>k=b) w (some ⟨b,0,none⟩) 1 [⟨x,y,[],[]⟩]:=by
  refine ⟨Nat.le_refl _,by decide,.inr ⟨b,0,rfl,rfl,h.lt,fun i z hz=>?_⟩⟩
  match i,hz with
  |0,hz=>
    obtain rfl:_=z:=by simpa using hz
    refine ⟨_,⟨none,0,none,0,rfl,hx,hy,A8.nil _ _ _ _,A8.nil _ _ _ _⟩,fun j c hj=>?_⟩
    simp only [Nat.zero_mul,Nat.zero_add]
    rw [h.cells.1 j]
    simpa using hj
  |i+1,hz=>simp at hz
theorem B9w {w:World} {fb:Nat} {e:TypeId} {x:E0} (hf:A8 H6 (fun k=>k=fb) w (some ⟨fb,0,none⟩) 1 [x]) (hfb:fb<w.heap.size) {base:Nat} (hb:base≤w.heap.size):C7 doS e (fun k=>k=fb) base (w.alloc (.cells #[.int .i64 1,.int .i64 0,.slice (some ⟨fb,0,none⟩) 1 1] e)) (some ⟨w.heap.size,0,none⟩) 1 1 [B9y [x]]:=by
  refine C7.lit (cs:=[.int .i64 1,.int .i64 0,.slice (some ⟨fb,0,none⟩) 1 1]) rfl rfl hb (by decide) (fun i d hd=>?_) (fun b hb=>by rw [hb];exact hfb)
  match i,hd with
  |0,hd=>
    obtain rfl:_=d:=by simpa using hd
    exact ⟨_,1,rfl,I64.small (n:=1) (by decide) (by decide),I64.small (n:=0) (by decide) (by decide),hf.below ((Below.refl _ _).alloc (Nat.le_refl _) _)⟩
  |i+1,hd=>simp at hd
end Go.St
namespace Go.Proofs.Ytampcbncgofkoaa
open Go.RowKit Go.St
theorem B9f (w:World):Calls Try.prog 9 #[] w fun e w'=>e=.returned (.bool true)∧Below w.heap.size w w':=by
  have HL:=Lib.hid (fun w=>B9j 3 (by decide) w)
  go_enter Try.func9,Try.ntmps9
  go_wp2_with fail
  refine (HL.out _).mono ?_
  rintro e w1 ⟨la,lc,rfl,hL1,hB1,_⟩
  have hF:=I6 w1 28 #[.int .i64 0,.int .i64 2,.slice none 0 0,.slice none 0 0]
  have hbx:=G8 w1 (.cells #[.int .i64 0,.int .i64 2,.slice none 0 0,.slice none 0 0] 28)
  have hFr:=B9h hF (I64.small (n:=0) (by decide) (by decide)) (I64.small (n:=2) (by decide) (by decide))
  have hO2:=B9w (e:=41) (base:=w1.heap.size+1) hFr hF.lt (by simp)
  have hb2:Below w1.heap.size w1 ((w1.alloc (.cells #[.int .i64 0,.int .i64 2,.slice none 0 0,.slice none 0 0] 28)).alloc (.cells #[.int .i64 1,.int .i64 0,.slice (some ⟨w1.heap.size,0,none⟩) 1 1] 41)):=A1t _ _ _
  have hT2:=I5.below (I5.mono (B95 (by decide) hL1) (ok':=fun b=>b<w1.heap.size) (fun b hl _=>⟨hl,rfl⟩)) hb2
  have hB2:=hB1.trans (hb2.mono hB1.size)
  have hz1:(w1.alloc (.cells #[.int .i64 0,.int .i64 2,.slice none 0 0,.slice none 0 0] 28)).heap.size=w1.heap.size+1:=by simp
  have hz2:w1.heap.size+1≤((w1.alloc (.cells #[.int .i64 0,.int .i64 2,.slice none 0 0,.slice none 0 0] 28)).alloc (.cells #[.int .i64 1,.int .i64 0,.slice (some ⟨w1.heap.size,0,none⟩) 1 1] 41)).heap.size:=by simp
  rw [hz1] at hO2
  clear hbx hFr hF hL1 hz1 hb2
  go_wp2_with fail
  generalize ((w1.alloc (.cells #[.int .i64 0,.int .i64 2,.slice none 0 0,.slice none 0 0] 28)).alloc _)=w2 at *
  generalize hs1:w1.heap.size=s1 at hO2 hT2 hz2 ⊢
  have HS1:=Lib.hid hs1
  clear hs1
  refine (B9q (H3 3) _ (fun b=>b<s1) (fun k=>k=s1) (s1+1) w2 hT2 l9 _ _ hO2 hz2 (fun b hb e=>by have h9:s1+1=b:=(by simpa [Go.St.blk] using e);omega) (by decide)).mono ?_
  rintro e w3 ⟨ma,mc,rfl,hO3,hG3⟩
  have hB3:=hB2.trans (hG3.below.mono (by have:=HS1.out;have:=hB1.size;omega))
  obtain ⟨p1,p2,p3⟩:=B9d
  generalize B85 (H3 3) l9=mm at *
  clear hO2 hT2 hG3 hz2 hB2
  go_wp2_with fail
  refine (HL.out _).mono ?_
  rintro e w4 ⟨la,lc,rfl,hL4,hb4,_⟩
  have hB4:=hB3.trans (hb4.mono hB3.size)
  have HPL:=Lib.hid (A2z (H3 3) _ _ w4 (B95 (by decide) hL4) mm ma mc _ ((hO3.below hb4).row (ok':=fun _=>True) (fun _ _=>trivial) (fun _ _=>trivial)))
  clear hL4 hb4 hO3 hB3
  generalize D9 (H3 3) mm=RR at *
  obtain ⟨n,es,fe,ff⟩:=RR
  dsimp only at *
  obtain ⟨rfl,rfl⟩:fe=0∧ff=0:=by simpa using p1
  obtain ⟨s,hs,hsl⟩:∃ s,n.switches[1]? =some s∧s.rules.length=1:=by
    cases hq:n.switches[1]? with
    |none=>rw [hq] at p3;simp at p3
    |some s=>rw [hq] at p3;exact ⟨s,rfl,by simpa using p3⟩
  have HP2:=Lib.hid p2
  clear p1 p2 p3
  go_wp2_with fail
  refine HPL.out.mono ?_
  rintro e w7 ⟨cs,ea,ec,rfl,hn7,he7,hb7⟩
  have hB7:=hB4.trans (hb7.mono hB4.size)
  obtain ⟨n0,n1,n2,y0,y1,y2,wa,wc,sa,sc,oa,oc,ba,bc,pa,pc,pl,lc2,hcs,hst,hnu,hnow,hnext,hwt,hks,hko,hkb,hkp,hkl⟩:=A0g.open8 hn7
  obtain ⟨lp0,lp1,lp2⟩:=B7.st (P:=Try.prog) hnow
  obtain ⟨lq0,lq1,lq2⟩:=B7.st (P:=Try.prog) hnext
  rw [HP2.out] at hcs
  subst hcs
  obtain ⟨sg,so,rfl,_,hsg,cs,⟨ra,rc,ta,tc,rfl,_,_⟩,hse⟩:=hks.get hs
  rw [hsl] at hse
  have e0:=hse 0 _ rfl
  rw [show E8.size=2 from rfl,Nat.add_zero] at e0
  have k1:(1:Int)<(n.switches.length:Int):=by have:=(List.getElem?_eq_some_iff.1 hs).1;omega
  have hsn:=hks.len_le
  have hbx:Below w7.heap.size w7 ((w7.alloc (.cells #[.int .i64 3,n0,n1,n2,y0,y1,y2,.int .i64 n.ctl.num,.slice wa n.ctl.waits.length wc,.slice (some ⟨sg,so,none⟩) n.switches.length sc,.slice oa n.orders.length oc,.slice ba n.backs.length bc,.slice pa n.packets.length pc,.slice pl n.plans.length lc2] 51)).alloc (.cells #[.int .i64 0,.int .i64 0] 35)):=A1t _ _ _
  have hW:A6 ((w7.alloc (.cells #[.int .i64 3,n0,n1,n2,y0,y1,y2,.int .i64 n.ctl.num,.slice wa n.ctl.waits.length wc,.slice (some ⟨sg,so,none⟩) n.switches.length sc,.slice oa n.orders.length oc,.slice ba n.backs.length bc,.slice pa n.packets.length pc,.slice pl n.plans.length lc2] 51)).alloc (.cells #[.int .i64 0,.int .i64 0] 35)) w7.heap.size 51 #[.int .i64 3,n0,n1,n2,y0,y1,y2,.int .i64 n.ctl.num,.slice wa n.ctl.waits.length wc,.slice (some ⟨sg,so,none⟩) n.switches.length sc,.slice oa n.orders.length oc,.slice ba n.backs.length bc,.slice pa n.packets.length pc,.slice pl n.plans.length lc2]:=(A6.new rfl).alloc _
  have hG:A6 ((w7.alloc (.cells #[.int .i64 3,n0,n1,n2,y0,y1,y2,.int .i64 n.ctl.num,.slice wa n.ctl.waits.length wc,.slice (some ⟨sg,so,none⟩) n.switches.length sc,.slice oa n.orders.length oc,.slice ba n.backs.length bc,.slice pa n.packets.length pc,.slice pl n.plans.length lc2] 51)).alloc (.cells #[.int .i64 0,.int .i64 0] 35)) (w7.heap.size+1) 35 #[.int .i64 0,.int .i64 0]:=A6.new (by simp)
  have u0:=cell_later hbx e0
  have hB8:=hB7.trans (hbx.mono hB7.size)
  have hsg8:sg<(((w7.alloc (.cells #[.int .i64 3,n0,n1,n2,y0,y1,y2,.int .i64 n.ctl.num,.slice wa n.ctl.waits.length wc,.slice (some ⟨sg,so,none⟩) n.switches.length sc,.slice oa n.orders.length oc,.slice ba n.backs.length bc,.slice pa n.packets.length pc,.slice pl n.plans.length lc2] 51)).alloc (.cells #[.int .i64 0,.int .i64 0] 35))).heap.size:=Nat.lt_of_lt_of_le hsg hbx.size
  clear hn7 he7 hb7 hnow hnext hwt hks hko hkb hkp hkl hse hs hsl hbx e0 HPL HL
  go_upto_region 3 with fail
  generalize ((w7.alloc (.cells #[.int .i64 3,n0,n1,n2,y0,y1,y2,.int .i64 n.ctl.num,.slice wa n.ctl.waits.length wc,.slice (some ⟨sg,so,none⟩) n.switches.length sc,.slice oa n.orders.length oc,.slice ba n.backs.length bc,.slice pa n.packets.length pc,.slice pl n.plans.length lc2] 51)).alloc (.cells #[.int .i64 0,.int .i64 0] 35))=w8 at *
  generalize w7.heap.size=xb at *
  clear lp0 lp1 lp2 lq0 lq1 lq2
  obtain ⟨x1,x2⟩:=hW.cells
  obtain ⟨f1,f2⟩:=hG.cells
  have hwl:=hW.lt
  have hgl:=hG.lt
  go_wp2
  go_ret;exact ⟨rfl,hB8⟩
end Go.Proofs.Ytampcbncgofkoaa
namespace Go.St
open Go.RowKit
theorem C0f {w:World} {fa:Option Addr} {fc:Nat} {fl:List E0} {ok:Nat→Prop} (h:A8 H6 ok w fa fc fl):doS.rep ok w [.int .i64 1,.int .i64 0,.slice fa fl.length fc] (B9y fl):=
 ⟨fa,fc,rfl,I64.small (n:=1) (by decide) (by decide),I64.small (n:=0) (by decide) (by decide),h⟩
theorem C0t {w:World} {fa:Option Addr} {fc:Nat} {e:TypeId} {fl:List E0} (h:A8 H6 (fun b=>b<w.heap.size) w fa fc fl) {base:Nat} (hb:base≤w.heap.size):C7 doS e (fun b=>b<w.heap.size) base (w.alloc (.cells #[.int .i64 1,.int .i64 0,.slice fa fl.length fc] e)) (some ⟨w.heap.size,0,none⟩) 1 1 [B9y fl]:=by
  refine C7.lit (cs:=[.int .i64 1,.int .i64 0,.slice fa fl.length fc]) rfl rfl hb (by decide) (fun i d hd=>?_) (fun b hb=>hb)
  match i,hd with
  |0,hd=>
    obtain rfl:_=d:=by simpa using hd
    exact C0f (h.below ((Below.refl _ _).alloc (Nat.le_refl _) _))
  |i+1,hd=>simp at hd
end Go.St
