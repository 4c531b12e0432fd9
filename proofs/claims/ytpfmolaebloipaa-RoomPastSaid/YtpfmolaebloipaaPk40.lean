/- Texts of this proof, one behind the other. -/
import Derived.SizedLaws
import Derived.Test.YtpfmolaebloipaaPk39
import Derived.Test.YtpfmolaebloipaaPk11
set_option linter.unusedSimpArgs false
set_option linter.unusedVariables false
set_option maxRecDepth 100000
set_option maxHeartbeats 16000000
namespace Go.St
open Go.RowKit
def l8:List Do:=[⟨1,0,[⟨0,1,[],[]⟩]⟩,⟨2,0,[]⟩,⟨3,0,[]⟩,⟨2,0,[]⟩,⟨3,0,[]⟩,⟨4,0,[]⟩,⟨5,0,[]⟩]
theorem A6o:(D9 A8j l8).2.2=(0,0)∧(D9 A8j l8).2.1.length=7∧(D9 A8j l8).1.ctl.stage=3∧(D9 A8j l8).1.packets=[⟨0,1,[0,1],false⟩]:=by
 refine ⟨?_,?_,?_,?_⟩<;>decide+kernel
theorem A0g.open8 {ok:Nat→Prop} {w:World} {cs:List Value} {n:Net} (h:A0g.rep ok w cs n):∃ n0 n1 n2 y0 y1 y2 wa wc sa sc oa oc ba bc pa pc la lc,cs=[.int .i64 n.ctl.stage,n0,n1,n2,y0,y1,y2,.int .i64 n.ctl.num,.slice wa n.ctl.waits.length wc,.slice sa n.switches.length sc,.slice oa n.orders.length oc,.slice ba n.backs.length bc,.slice pa n.packets.length pc,.slice la n.plans.length lc]∧
  I64 n.ctl.stage∧I64 n.ctl.num∧B7 w ok n0 n1 n2 n.ctl.now∧B7 w ok y0 y1 y2 n.ctl.next∧A8 C2 ok w wa wc n.ctl.waits∧A8 E8 ok w sa sc n.switches∧A8 (F7 E3) ok w oa oc n.orders∧A8 (F7 C2) ok w ba bc n.backs∧A8 K0 ok w pa pc n.packets∧A8 C3 ok w la lc n.plans:=by
 obtain ⟨ks,sa,sc,oa,oc,ba,bc,pa,pc,la,lc,rfl,hkc,hks,hko,hkb,hkp,hkl⟩:=h
 obtain ⟨n0,n1,n2,y0,y1,y2,wa,wc,rfl,hst,hnu,hnow,hnext,hwt⟩:=P3.open_ hkc
 exact ⟨n0,n1,n2,y0,y1,y2,wa,wc,sa,sc,oa,oc,ba,bc,pa,pc,la,lc,rfl,hst,hnu,hnow,hnext,hwt,hks,hko,hkb,hkp,hkl⟩
theorem B7.ver8 {w:World} {ok:Nat→Prop} {n0 n1 n2:Value} {p:F5} (h:B7 w ok n0 n1 n2 p):n0=.int .i64 p.ver∧I64 p.ver:=by
 obtain ⟨_,_,_,_,he,hI,_⟩:=h
 exact ⟨(List.cons.inj he).1,hI⟩
theorem A51 {ok:Nat→Prop} {w:World} {ao:Option Addr} {cap:Nat} {l:List N9} (h:A8 K0 ok w ao cap l) {j:Nat} {p:N9} (hp:l[j]? =some p):
  ∃ g off ta tc,ao=some ⟨g,off,none⟩∧g<w.heap.size∧I64 p.flow∧I64 p.ver∧A8 C2 ok w ta tc p.trace∧∀ w',Below w.heap.size w w'→
   w'.cell? ⟨g,off+j * 4,none⟩=some (.int .i64 p.flow)∧w'.cell? ⟨g,off+j * 4+1,none⟩=some (.int .i64 p.ver)∧w'.cell? ⟨g,off+j * 4+2,none⟩=some (.slice ta p.trace.length tc)∧w'.cell? ⟨g,off+j * 4+3,none⟩=some (.bool p.done):=by
 obtain ⟨g,off,rfl,_,hbl,cs,⟨ta,tc,rfl,h1,h2,h3⟩,hce⟩:=h.get hp
 refine ⟨g,off,ta,tc,rfl,hbl,h1,h2,h3,fun w' hb=>⟨?_,?_,?_,?_⟩⟩
 ·have:=B8 hb hbl (hce 0 _ rfl);simpa only [K0,Nat.add_zero] using this
 ·exact B8 hb hbl (hce 1 _ rfl)
 ·exact B8 hb hbl (hce 2 _ rfl)
 ·exact B8 hb hbl (hce 3 _ rfl)
end Go.St
namespace Go.Proofs.Ytpfmolaebloipaa
open Go.RowKit Go.St
theorem A8w (a b:Value) (w:World):(Instr.field 44 (.agg #[a,b]) 0).run Try.prog w=.ok a w:=by first|rfl|kernel_rfl|(simp [Instr.field];done)
theorem A5m (k n:Int) (w:World):Calls Try.prog 19 #[.int .i64 k,.int .i64 n] w fun e w'=>e=.returned (.agg #[.int .i64 k,.int .i64 n,.slice none 0 0])∧Below w.heap.size w w':=by
 have hB:=G8 w (.cells #[.int .i64 k,.int .i64 n,.slice none 0 0] 66)
 have hT:=I6 w 66 #[.int .i64 k,.int .i64 n,.slice none 0 0]
 obtain ⟨g1,g2⟩:=hT.cells
 go_enter Try.func19,Try.ntmps19
 go_wp2_with ((with_reducible refine bodyPost_ret (v:=.agg #[.int .i64 k,.int .i64 n,.slice none 0 0]) ?ra1 ?rb1 ?rc1);go_must (case ra1=>simp [results,Try.results19,go_sem,g1]);go_must (case rb1=>rfl);go_must (case rc1=>exact ⟨rfl,hB⟩))
theorem B51 (w:World):Calls Try.prog 24 #[] w fun e w'=>∃ la:Option Addr,e=.returned (.agg #[.int .i64 2,.slice la 1 1])∧I5.rep (fun b=>w.heap.size≤b) w' [.int .i64 2,.slice la 1 1] A8j∧Below w.heap.size w w':=by
 have hB:Below w.heap.size w ((w.alloc (.cells #[.int .i64 2,.slice (some ⟨w.heap.size+1,0,none⟩) 1 1] 24)).alloc (.cells #[.int .i64 0,.int .i64 1,.int .i64 1] 96)):=A1t _ _ _
 have hT:A6 ((w.alloc (.cells #[.int .i64 2,.slice (some ⟨w.heap.size+1,0,none⟩) 1 1] 24)).alloc (.cells #[.int .i64 0,.int .i64 1,.int .i64 1] 96)) w.heap.size 24 #[.int .i64 2,.slice (some ⟨w.heap.size+1,0,none⟩) 1 1]:=(A6.new rfl).alloc _
 have hL:A6 ((w.alloc (.cells #[.int .i64 2,.slice (some ⟨w.heap.size+1,0,none⟩) 1 1] 24)).alloc (.cells #[.int .i64 0,.int .i64 1,.int .i64 1] 96)) (w.heap.size+1) 96 #[.int .i64 0,.int .i64 1,.int .i64 1]:=A6.new (by simp)
 have hR:I5.rep (fun b=>w.heap.size≤b) ((w.alloc (.cells #[.int .i64 2,.slice (some ⟨w.heap.size+1,0,none⟩) 1 1] 24)).alloc (.cells #[.int .i64 0,.int .i64 1,.int .i64 1] 96)) [.int .i64 2,.slice (some ⟨w.heap.size+1,0,none⟩) 1 1] A8j:=
  ⟨_,1,rfl,I64.small (by decide) (by decide),B0r (x:=⟨0,1,1⟩) hL (I64.small (by decide) (by decide)) (I64.small (by decide) (by decide)) (I64.small (by decide) (by decide)) (by omega)⟩
 obtain ⟨g1,g2⟩:=hT.cells
 go_enter Try.func24,Try.ntmps24
 go_wp2_with ((with_reducible refine bodyPost_ret (v:=.agg #[.int .i64 2,.slice (some ⟨w.heap.size+1,0,none⟩) 1 1]) ?ra1 ?rb1 ?rc1);go_must (case ra1=>simp [results,Try.results24,go_sem,g1]);go_must (case rb1=>rfl);go_must (case rc1=>exact ⟨_,rfl,hR,hB⟩))
theorem B4x {w : World} {b : Nat} {e e2 : TypeId} {fb : Nat} (h : A6 w b e #[.int .i64 1, .int .i64 0, .slice (some ⟨fb, 0, none⟩) 1 1, .int .i64 2, .int .i64 0, .slice none 0 0, .int .i64 3, .int .i64 0, .slice none 0 0, .int .i64 2, .int .i64 0, .slice none 0 0, .int .i64 3, .int .i64 0, .slice none 0 0, .int .i64 4, .int .i64 0, .slice none 0 0, .int .i64 5, .int .i64 0, .slice none 0 0])
    (hf : A6 w fb e2 #[.int .i64 0, .int .i64 1, .slice none 0 0, .slice none 0 0]) : A8 doS (fun _ => True) w (some ⟨b, 0, none⟩) 7 l8 := by
  refine ⟨Nat.le_refl _, by decide, .inr ⟨b, 0, rfl, trivial, h.lt, fun i y hy => ?_⟩⟩
  have hfl := B1u (f := ⟨0, 1, [], []⟩) (ok := fun _ => True) hf rfl rfl (I64.small (by decide) (by decide)) (I64.small (by decide) (by decide)) trivial
  have hc := h.cells.1
  have go : ∀ (k n : Int) (sa : Option Addr) (sl sc : Nat) (d : Do) (q : Nat), d.kind = k → d.n = n → I64 k → I64 n → sl = d.flows.length → A8 H6 (fun _ => True) w sa sc d.flows → w.cell? ⟨b, q, none⟩ = some (.int .i64 k) → w.cell? ⟨b, q + 1, none⟩ = some (.int .i64 n) → w.cell? ⟨b, q + 2, none⟩ = some (.slice sa sl sc) →
      ∃ cs, doS.rep (fun _ => True) w cs d ∧ ∀ j c, cs[j]? = some c → w.cell? ⟨b, q + j, none⟩ = some c := by
    intro k n sa sl sc d q h1 h2 h3 h4 h5 h6 e0 e1 e2
    subst h1 h2 h5
    refine ⟨_, ⟨sa, sc, rfl, h3, h4, h6⟩, fun j c hj => ?_⟩
    match j, hj with
    | 0, hj => obtain rfl : _ = c := by simpa using hj
               exact e0
    | 1, hj => obtain rfl : _ = c := by simpa using hj
               exact e1
    | 2, hj => obtain rfl : _ = c := by simpa using hj
               exact e2
    | j + 3, hj => simp at hj
  rw [show doS.size = 3 from rfl, Nat.zero_add]
  match i, hy with
  | 0, hy => obtain rfl : _ = y := by simpa [l8] using hy
             exact go 1 0 _ 1 1 _ _ rfl rfl (I64.small (by decide) (by decide)) (I64.small (by decide) (by decide)) rfl hfl (hc 0) (hc 1) (hc 2)
  | 1, hy => obtain rfl : _ = y := by simpa [l8] using hy
             exact go 2 0 none 0 0 _ _ rfl rfl (I64.small (by decide) (by decide)) (I64.small (by decide) (by decide)) rfl (A8.nil _ _ _ _) (hc 3) (hc 4) (hc 5)
  | 2, hy => obtain rfl : _ = y := by simpa [l8] using hy
             exact go 3 0 none 0 0 _ _ rfl rfl (I64.small (by decide) (by decide)) (I64.small (by decide) (by decide)) rfl (A8.nil _ _ _ _) (hc 6) (hc 7) (hc 8)
  | 3, hy => obtain rfl : _ = y := by simpa [l8] using hy
             exact go 2 0 none 0 0 _ _ rfl rfl (I64.small (by decide) (by decide)) (I64.small (by decide) (by decide)) rfl (A8.nil _ _ _ _) (hc 9) (hc 10) (hc 11)
  | 4, hy => obtain rfl : _ = y := by simpa [l8] using hy
             exact go 3 0 none 0 0 _ _ rfl rfl (I64.small (by decide) (by decide)) (I64.small (by decide) (by decide)) rfl (A8.nil _ _ _ _) (hc 12) (hc 13) (hc 14)
  | 5, hy => obtain rfl : _ = y := by simpa [l8] using hy
             exact go 4 0 none 0 0 _ _ rfl rfl (I64.small (by decide) (by decide)) (I64.small (by decide) (by decide)) rfl (A8.nil _ _ _ _) (hc 15) (hc 16) (hc 17)
  | 6, hy => obtain rfl : _ = y := by simpa [l8] using hy
             exact go 5 0 none 0 0 _ _ rfl rfl (I64.small (by decide) (by decide)) (I64.small (by decide) (by decide)) rfl (A8.nil _ _ _ _) (hc 18) (hc 19) (hc 20)
  | i + 7, hy => simp [l8] at hy
theorem A0o (w:World):Calls Try.prog 12 #[] w fun e w'=>e=.returned (.bool true)∧Below w.heap.size w w':=by
 have hF0:=I6 w 55 #[.int .i64 0,.int .i64 1,.slice none 0 0,.slice none 0 0]
 have hB0:=G8 w (.cells #[.int .i64 0,.int .i64 1,.slice none 0 0,.slice none 0 0] 55)
 go_enter Try.func12,Try.ntmps12
 go_wp2_with fail
 generalize w.alloc _=w0 at *
 refine (A5m _ _ _).mono ?_
 rintro e w1 ⟨rfl,hb1⟩
 have hB1:=hB0.trans (hb1.mono hB0.size)
 have hF1:=hF0.under hb1
 clear hB0 hF0 hb1
 go_wp2_with fail
 refine (A5m _ _ _).mono ?_
 rintro e w2 ⟨rfl,hb2⟩
 have hB2:=hB1.trans (hb2.mono hB1.size)
 have hF2:=hF1.under hb2
 clear hB1 hF1 hb2
 go_wp2_with fail
 refine (A5m _ _ _).mono ?_
 rintro e w3 ⟨rfl,hb3⟩
 have hB3:=hB2.trans (hb3.mono hB2.size)
 have hF3:=hF2.under hb3
 clear hB2 hF2 hb3
 go_wp2_with fail
 refine (A5m _ _ _).mono ?_
 rintro e w4 ⟨rfl,hb4⟩
 have hB4:=hB3.trans (hb4.mono hB3.size)
 have hF4:=hF3.under hb4
 clear hB3 hF3 hb4
 go_wp2_with fail
 refine (A5m _ _ _).mono ?_
 rintro e w5 ⟨rfl,hb5⟩
 have hB5:=hB4.trans (hb5.mono hB4.size)
 have hF5:=hF4.under hb5
 clear hB4 hF4 hb5
 go_wp2_with fail
 refine (A5m _ _ _).mono ?_
 rintro e w6 ⟨rfl,hb6⟩
 have hB6:=hB5.trans (hb6.mono hB5.size)
 have hF6:=hF5.under hb6
 clear hB5 hF5 hb6
 go_wp2_with fail
 have hL7:=I6 w6 66 #[.int .i64 1,.int .i64 0,.slice (some ⟨w.heap.size,0,none⟩) 1 1,.int .i64 2,.int .i64 0,.slice none 0 0,.int .i64 3,.int .i64 0,.slice none 0 0,.int .i64 2,.int .i64 0,.slice none 0 0,.int .i64 3,.int .i64 0,.slice none 0 0,.int .i64 4,.int .i64 0,.slice none 0 0,.int .i64 5,.int .i64 0,.slice none 0 0]
 have hbx:=G8 w6 (.cells #[.int .i64 1,.int .i64 0,.slice (some ⟨w.heap.size,0,none⟩) 1 1,.int .i64 2,.int .i64 0,.slice none 0 0,.int .i64 3,.int .i64 0,.slice none 0 0,.int .i64 2,.int .i64 0,.slice none 0 0,.int .i64 3,.int .i64 0,.slice none 0 0,.int .i64 4,.int .i64 0,.slice none 0 0,.int .i64 5,.int .i64 0,.slice none 0 0] 66)
 have hB7:=hB6.trans (hbx.mono hB6.size)
 have hF7:=hF6.under hbx
 clear hbx hB6 hF6
 generalize w6.alloc _=w7 at *
 generalize w6.heap.size=lb at *
 refine (B51 _).mono ?_
 rintro e w8 ⟨la,rfl,hT8,hb8⟩
 have hB8:=hB7.trans (hb8.mono hB7.size)
 have hrow:=B4x (hL7.under hb8) (hF7.under hb8)
 clear hB7 hb8 hL7 hF7
 go_wp2_with fail
 refine (A2z A8j _ _ _ hT8 l8 _ _ _ hrow).mono ?_
 rintro e w9 ⟨cs,ea,ec,rfl,hn9,he9,hb9⟩
 have hB9:=hB8.trans (hb9.mono hB8.size)
 obtain ⟨a1,a2,a3,a4⟩:=A6o
 clear hrow hT8 hB8 hb9
 generalize D9 A8j l8=RR at *
 obtain ⟨n,es,fe,ff⟩:=RR
 dsimp only at *
 obtain ⟨rfl,rfl⟩:fe=0∧ff=0:=by simpa using a1
 obtain ⟨n0,n1,n2,y0,y1,y2,wa,wc,sa,sc,oa,oc,ba,bc,pa,pc,pl,lc,rfl,hst,hnu,hnow,hnext,hwt,hks,hko,hkb,hkp,hkl⟩:=A0g.open8 hn9
 rw [a2,a3,a4]
 rw [a4] at hkp
 obtain ⟨pg,po,ta,tc,rfl,hpl,_,_,htr,hce⟩:=A51 hkp (j:=0) rfl
 obtain ⟨lp0,lp1,lp2⟩:=B7.st (P:=Try.prog) hnow
 obtain ⟨lq0,lq1,lq2⟩:=B7.st (P:=Try.prog) hnext
 have hHCE:=Lib.hid hce
 have hTR:=Lib.hid htr
 clear hn9 hnow hnext hwt hks hko hkb hkp hkl hce htr a1 a2 a3 a4 he9
 go_upto_region 3 with fail
 obtain ⟨_,_,e2,_⟩:=hHCE.out w9 (Below.refl _ _)
 simp only [Nat.zero_mul,Nat.add_zero] at e2
 have hbx:Below w9.heap.size w9 ((w9.alloc (.cells #[.int .i64 3,n0,n1,n2,y0,y1,y2,.int .i64 n.ctl.num,.slice wa n.ctl.waits.length wc,.slice sa n.switches.length sc,.slice oa n.orders.length oc,.slice ba n.backs.length bc,.slice (some ⟨pg,po,none⟩) 1 pc,.slice pl n.plans.length lc] 40)).alloc (.cells #[.int .i64 0,.int .i64 0] 44)):=A1t _ _ _
 have hW:A6 ((w9.alloc (.cells #[.int .i64 3,n0,n1,n2,y0,y1,y2,.int .i64 n.ctl.num,.slice wa n.ctl.waits.length wc,.slice sa n.switches.length sc,.slice oa n.orders.length oc,.slice ba n.backs.length bc,.slice (some ⟨pg,po,none⟩) 1 pc,.slice pl n.plans.length lc] 40)).alloc (.cells #[.int .i64 0,.int .i64 0] 44)) w9.heap.size 40 #[.int .i64 3,n0,n1,n2,y0,y1,y2,.int .i64 n.ctl.num,.slice wa n.ctl.waits.length wc,.slice sa n.switches.length sc,.slice oa n.orders.length oc,.slice ba n.backs.length bc,.slice (some ⟨pg,po,none⟩) 1 pc,.slice pl n.plans.length lc]:=(A6.new rfl).alloc _
 have hG:A6 ((w9.alloc (.cells #[.int .i64 3,n0,n1,n2,y0,y1,y2,.int .i64 n.ctl.num,.slice wa n.ctl.waits.length wc,.slice sa n.switches.length sc,.slice oa n.orders.length oc,.slice ba n.backs.length bc,.slice (some ⟨pg,po,none⟩) 1 pc,.slice pl n.plans.length lc] 40)).alloc (.cells #[.int .i64 0,.int .i64 0] 44)) (w9.heap.size+1) 44 #[.int .i64 0,.int .i64 0]:=A6.new (by simp)
 have hTR2:=(hTR.out.anyOk (ok':=fun _=>True) (fun _ _ _=>trivial)).below hbx
 have e3:=B8 hbx hpl e2
 have hpl2:pg<(((w9.alloc (.cells #[.int .i64 3,n0,n1,n2,y0,y1,y2,.int .i64 n.ctl.num,.slice wa n.ctl.waits.length wc,.slice sa n.switches.length sc,.slice oa n.orders.length oc,.slice ba n.backs.length bc,.slice (some ⟨pg,po,none⟩) 1 pc,.slice pl n.plans.length lc] 40)).alloc (.cells #[.int .i64 0,.int .i64 0] 44))).heap.size:=by have:=hbx.size;omega
 have hB10:=hB9.trans (hbx.mono hB9.size)
 clear hHCE hTR e2 hbx hB9
 generalize ((w9.alloc (.cells #[.int .i64 3,n0,n1,n2,y0,y1,y2,.int .i64 n.ctl.num,.slice wa n.ctl.waits.length wc,.slice sa n.switches.length sc,.slice oa n.orders.length oc,.slice ba n.backs.length bc,.slice (some ⟨pg,po,none⟩) 1 pc,.slice pl n.plans.length lc] 40)).alloc (.cells #[.int .i64 0,.int .i64 0] 44))=w10 at *
 generalize w9.heap.size=wb at *
 obtain ⟨x1,x2⟩:=hW.cells
 obtain ⟨f1,f2⟩:=hG.cells
 have hwl:=hW.lt
 have hgl:=hG.lt
 go_wp2_with fail
 have hby:=G8 w10 (.cells #[.int .i64 0,.int .i64 1] 3)
 have hI:A8 C2 (fun _=>True) (w10.alloc (.cells #[.int .i64 0,.int .i64 1] 3)) (some ⟨w10.heap.size,0,none⟩) 2 [0,1]:=(C7.ints (base:=0) (e:=3) (w:=w10) [0,1] (by intro x hx;simp at hx;rcases hx with rfl|rfl<;>exact I64.small (by decide) (by decide)) (Nat.zero_le _) (by decide)).row (fun _ h=>h.elim) (fun _ _=>trivial)
 have hW11:=hW.under hby
 have hB11:=hB10.trans (hby.mono hB10.size)
 refine (B1y [0,1] [0,1] _ _ _ _ _ _ _ (hTR2.below hby) hI).mono ?_
 rintro e w12 ⟨rfl,hb12⟩
 have hW12:=hW11.under hb12
 have hB12:=hB11.trans (hb12.mono hB11.size)
 obtain ⟨q1,q2⟩:=hW12.cells
 have hwl12:=hW12.lt
 clear hW hG hTR2 e3 hby hI hW11 hB11 hb12 x1 x2 f1 f2
 go_wp2
 go_ret;exact ⟨rfl,hB12⟩
end Go.Proofs.Ytpfmolaebloipaa
