/- Texts of this proof, one behind the other. -/
import Derived.Test.YtampcbncgofkoaaGreatDoorPk20
import Derived.Test.YtampcbncgofkoaaGreatDoorPk16
set_option linter.unusedSimpArgs false
set_option linter.unusedVariables false
set_option maxRecDepth 100000
set_option maxHeartbeats 16000000
namespace Go.St
open Go.RowKit
def SD (B:Nat) (x y:Value) (w:World):Prop:=w.cell? ⟨B,0,none⟩=some x∧w.cell? ⟨B,1,none⟩=some y
theorem SD.under {B:Nat} {x y:Value} {w w':World} (h:SD B x y w) (h1:B<w.heap.size) (hb:Below w.heap.size w w'):SD B x y w':=⟨B8 hb h1 h.1,B8 hb h1 h.2⟩
theorem A8s {fs:List Int} {v:Int} {j:Nat} {f:Int} (h:fs[j]? =some f):(fs.take (j+1)).map (fun f=>(⟨f,v⟩:J0))=(fs.take j).map (fun f=>(⟨f,v⟩:J0))++[⟨f,v⟩]:=by
 rw [List.take_add_one,h];simp
theorem B16 {fs:List Int} (h:fs.Pairwise (·<·)) {v:Int} {j:Nat} {f:Int} (hj:fs[j]? =some f):∀ y∈(fs.take j).map (fun f=>(⟨f,v⟩:J0)),y.flow<f:=by
 intro y hy
 obtain ⟨g,hg,rfl⟩:=List.mem_map.1 hy
 obtain ⟨k,hk⟩:=List.getElem?_of_mem hg
 rw [List.getElem?_take] at hk
 split at hk
 case isTrue hkj=>
  obtain ⟨h1,rfl⟩:=List.getElem?_eq_some_iff.1 hk
  obtain ⟨h2,rfl⟩:=List.getElem?_eq_some_iff.1 hj
  exact List.pairwise_iff_getElem.1 h k j h1 h2 hkj
 case isFalse=>cases hk
theorem Z6 {α:Type} {S:D1 α} {w:World} {B N:Nat} {a:Option Addr} {c:Nat} {xs:List α} (h:A8 S (fun b=>N≤b∧b≠B) w a c xs) (x y:Value):A8 S (fun b=>N≤b∧b≠B) ((w.setCell ⟨B,0,none⟩ x).setCell ⟨B,1,none⟩ y) a c xs:=
 h.mono fun b _ hh=>⟨hh,(Below.heap_setCell _ _ _ b hh.2).trans (Below.heap_setCell _ _ _ b hh.2)⟩
theorem J1 {α:Type} {S:D1 α} {w:World} {B N:Nat} {a:Option Addr} {c:Nat} {xs:List α} (h:A8 S (fun b=>N≤b∧b≠B) w a c xs) {p:Addr} (hp:p.block=B∨p.block<N) (x:Value):A8 S (fun b=>N≤b∧b≠B) (w.setCell p x) a c xs:=
 h.mono fun b _ hh=>⟨hh,Below.heap_setCell _ _ _ b (fun e=>by
  have h1:=hh.1
  have h2:=hh.2
  rcases hp with hp|hp
  ·exact h2 (e.trans hp)
  ·omega)⟩
theorem A18 {α:Type} {S:D1 α} {w:World} {B N M:Nat} {a:Option Addr} {c:Nat} {xs:List α} (h:A8 S (fun b=>N≤b∧b≠B) w a c xs) (hm:M≤N):A8 S (fun b=>M≤b) w a c xs:=
 h.mono fun b _ hh=>⟨Nat.le_trans hm hh.1,rfl⟩
end Go.St
namespace Go.Proofs.YtampcbncgofkoaaGreatDoor
open Go.RowKit Go.St
theorem B60 (s:D8) (o:G3) (cs ds:List Value) (ok ok':Nat→Prop) (w:World) (h:E8.rep ok w cs s) (ho:E3.rep ok' w ds o):
  Calls Tryz.prog 47 #[.agg cs.toArray,.agg ds.toArray] w fun e w'=>∃ ts:List Value,e=.returned (.tuple #[.agg ts.toArray,.int .i64 (Q4 s o).2])∧E8.rep (fun b=>w.heap.size≤b) w' ts (Q4 s o).1∧Below w.heap.size w w':=by
 have hSW:=h
 have hOW:=ho
 obtain ⟨ra,rc,sa,sc,rfl,hr,hs⟩:=h
 obtain ⟨oa,oc,fa,fc,rfl,hok,hon,hov,hor,hof⟩:=ho
 have hrx:=hr.len_le
 have hsx:=hs.len_le
 have hrx':=hor.len_le
 have hfx':=hof.len_le
 have HD1:Hid (N3 s≠0→Q4 s o=(O5,N3 s)):=fun h=>by unfold Q4;exact if_pos h
 have HD2:Hid (N3 s=0→F3 o≠0→Q4 s o=(O5,F3 o)):=fun h h2=>by unfold Q4;rw [if_neg (fun h3=>h3 h)];exact if_pos h2
 have HD3:Hid (N3 s=0→F3 o=0→o.kind=1→Q4 s o=if (O8 s.rules o.rules).2≠0 then (O5,(O8 s.rules o.rules).2) else (⟨(O8 s.rules o.rules).1,s.stamps⟩,0)):=fun h h2 h3=>by unfold Q4;rw [if_neg (fun h4=>h4 h),if_neg (fun h4=>h4 h2)];exact if_pos h3
 have HD4:Hid (N3 s=0→F3 o=0→o.kind=2→Q4 s o=(⟨s.rules,o.flows.map fun f=>⟨f,o.ver⟩⟩,0)):=fun h h2 h3=>A7j (A4y.1 h) h2 h3
 have HD5:Hid (N3 s=0→F3 o=0→o.kind=3→Q4 s o=(⟨S0 s.rules o.ver,s.stamps⟩,0)):=fun h h2 h3=>B08 (A4y.1 h) h2 h3
 have HSO:Hid (N3 s=0→s.rules.length≤16∧s.stamps.length≤12):=fun h=>⟨(A4y.1 h).tab.len,(A4y.1 h).short⟩
 have HWK:Hid (F3 o=0→(o.kind=1∨o.kind=2∨o.kind=3)∧(o.kind=1→o.rules.length≤16)∧(o.kind=2→o.flows.length≤12∧o.flows.Pairwise (·<·))):=fun h=>⟨B1t h,fun k=>(B25 h k).1,fun k=>⟨(A46 h k).1,(A46 h k).2.2⟩⟩
 generalize Q4 s o=c at *
 obtain ⟨c1,c2⟩:=c
 dsimp only
 go_enter Tryz.func47,Tryz.ntmps47
 go_wp2_with fail
 have hb0:Below w.heap.size w (((w.alloc (.cells #[.slice ra s.rules.length rc,.slice sa s.stamps.length sc] 65)).alloc (.cells #[.int .i64 o.kind,.int .i64 o.num,.int .i64 o.ver,.slice oa o.rules.length oc,.slice fa o.flows.length fc] 109)).alloc (.cells #[.slice none 0 0,.slice none 0 0] 65)):=A7q _ _ _ _
 have hS0:A6 (((w.alloc (.cells #[.slice ra s.rules.length rc,.slice sa s.stamps.length sc] 65)).alloc (.cells #[.int .i64 o.kind,.int .i64 o.num,.int .i64 o.ver,.slice oa o.rules.length oc,.slice fa o.flows.length fc] 109)).alloc (.cells #[.slice none 0 0,.slice none 0 0] 65)) w.heap.size 65 #[.slice ra s.rules.length rc,.slice sa s.stamps.length sc]:=((A6.new rfl).alloc _).alloc _
 have hO0:A6 (((w.alloc (.cells #[.slice ra s.rules.length rc,.slice sa s.stamps.length sc] 65)).alloc (.cells #[.int .i64 o.kind,.int .i64 o.num,.int .i64 o.ver,.slice oa o.rules.length oc,.slice fa o.flows.length fc] 109)).alloc (.cells #[.slice none 0 0,.slice none 0 0] 65)) (w.heap.size+1) 109 #[.int .i64 o.kind,.int .i64 o.num,.int .i64 o.ver,.slice oa o.rules.length oc,.slice fa o.flows.length fc]:=(A6.new (by simp)).alloc _
 have hR0:A6 (((w.alloc (.cells #[.slice ra s.rules.length rc,.slice sa s.stamps.length sc] 65)).alloc (.cells #[.int .i64 o.kind,.int .i64 o.num,.int .i64 o.ver,.slice oa o.rules.length oc,.slice fa o.flows.length fc] 109)).alloc (.cells #[.slice none 0 0,.slice none 0 0] 65)) (w.heap.size+2) 65 #[.slice none 0 0,.slice none 0 0]:=A6.new (by simp)
 have hA:=A6d s _ ok _ (E8.below hSW hb0)
 have HA:=Lib.hid hA
 clear hA
 generalize (((w.alloc (.cells #[.slice ra s.rules.length rc,.slice sa s.stamps.length sc] 65)).alloc (.cells #[.int .i64 o.kind,.int .i64 o.num,.int .i64 o.ver,.slice oa o.rules.length oc,.slice fa o.flows.length fc] 109)).alloc (.cells #[.slice none 0 0,.slice none 0 0] 65))=w0 at *
 refine HA.out.mono ?_
 rintro e w1 ⟨rfl,hb1⟩
 have hB1:Below w.heap.size w w1:=hb0.trans (hb1.mono hb0.size)
 have hS1:=hS0.under hb1
 have hO1:=hO0.under hb1
 have hR1:=hR0.under hb1
 have hz1:=hB1.size
 obtain ⟨s1,s2⟩:=hS1.cells
 obtain ⟨o1,o2⟩:=hO1.cells
 obtain ⟨r1,r2⟩:=hR1.cells
 have hl1:=hR1.lt
 clear HA hb0 hb1 hS0 hO0 hR0
 generalize hsw:N3 s=sw at *
 have HSW:=Lib.hid hsw
 clear hsw
 by_cases h1:sw=0
 case neg=>
  have h1':(sw !=0)=true:=by rw [bne_iff_ne];exact h1
  have HE:=Lib.hid (HD1.out h1)
  clear HD1 HD2 HD3 HD4 HD5 HSO HWK h1
  obtain ⟨rfl,rfl⟩:c1=O5∧c2=sw:=by have:=HE.out;simpa using this
  go_wp2
  have z1:=((hR1.set 0 (.slice none 0 0)).set 1 (.slice none 0 0)).cells.1
  refine bodyPost_ret (v:=.tuple #[.agg #[.slice none 0 0,.slice none 0 0],.int .i64 c2]) (by simp [results,Tryz.results47,go_sem,z1]) rfl ⟨[.slice none 0 0,.slice none 0 0],rfl,⟨none,0,none,0,rfl,A8.nil _ _ _ _,A8.nil _ _ _ _⟩,by (repeat' (first|with_reducible (first|exact Below.refl _ _|assumption|refine Below.drew ?_|refine A3 ?_ _|refine Below.alloc ?_ ?_ _|refine Below.setCell ?_ ?_ _)|omega|(simp;done)|(simp;omega)))⟩
 subst h1
 clear HD1
 have hW:=A7h o _ ok' w1 (E3.below hOW hB1)
 generalize hww:F3 o=ww at *
 have HWW:=Lib.hid hww
 have HW:=Lib.hid hW
 clear hww hW
 go_wp2_with fail
 refine HW.out.mono ?_
 rintro e w2 ⟨rfl,hb2⟩
 have hB2:Below w.heap.size w w2:=hB1.trans (hb2.mono hz1)
 have hS2:=hS1.under hb2
 have hO2:=hO1.under hb2
 have hR2:=hR1.under hb2
 have hz2:=hB2.size
 clear s1 s2 o1 o2 r1 r2 hl1 HW hb2 hS1 hO1 hR1 hB1 hz1
 obtain ⟨s1,s2⟩:=hS2.cells
 obtain ⟨o1,o2⟩:=hO2.cells
 obtain ⟨r1,r2⟩:=hR2.cells
 have hl1:=hR2.lt
 by_cases h2:ww=0
 case neg=>
  have h1':(ww !=0)=true:=by rw [bne_iff_ne];exact h2
  have HE:=Lib.hid (HD2.out (by first|trivial|rfl) h2)
  clear HD2 HD3 HD4 HD5 HSO HWK h2
  obtain ⟨rfl,rfl⟩:c1=O5∧c2=ww:=by have:=HE.out;simpa using this
  go_wp2
  have z1:=((hR2.set 0 (.slice none 0 0)).set 1 (.slice none 0 0)).cells.1
  refine bodyPost_ret (v:=.tuple #[.agg #[.slice none 0 0,.slice none 0 0],.int .i64 c2]) (by simp [results,Tryz.results47,go_sem,z1]) rfl ⟨[.slice none 0 0,.slice none 0 0],rfl,⟨none,0,none,0,rfl,A8.nil _ _ _ _,A8.nil _ _ _ _⟩,by (repeat' (first|with_reducible (first|exact Below.refl _ _|assumption|refine Below.drew ?_|refine A3 ?_ _|refine Below.alloc ?_ ?_ _|refine Below.setCell ?_ ?_ _)|omega|(simp;done)|(simp;omega)))⟩
 subst h2
 clear HD2
 obtain ⟨hsl1,hsl2⟩:=HSO.out (by first|trivial|rfl)
 have hkk:=HWK.out (by first|trivial|rfl)
 obtain ⟨hk3,hka,hks⟩:=hkk
 have HKS:=Lib.hid hks
 clear hks HWK
 have hS0:SD w.heap.size (.slice ra s.rules.length rc) (.slice sa s.stamps.length sc) w2.drew:=⟨s1 0,s1 1⟩
 have hS9:SD w.heap.size (.slice ra s.rules.length rc) (.slice sa s.stamps.length sc) w2:=⟨s1 0,s1 1⟩
 go_wp2
 refine B9 (SD w.heap.size (.slice ra s.rules.length rc) (.slice sa s.stamps.length sc)) 99 (fun a0 a' w'=>∃ v8 v25 v26 v27 v28 v29 v30 v31,a'=C8 a0 [(8,v8),(25,v25),(26,v26),(27,v27),(28,v28),(29,v29),(30,v30),(31,v31)]∧∃ B ga gc ha hc,v8=.pointer (some ⟨B,0,none⟩)∧w.heap.size+3≤B∧A6 w' B 65 #[.slice ga s.rules.length gc,.slice ha s.stamps.length hc]∧A8 G6 (fun b=>w.heap.size+3≤b∧b≠B) w' ga gc s.rules∧A8 J6 (fun b=>w.heap.size+3≤b∧b≠B) w' ha hc s.stamps∧Below w2.heap.size w2 w') (by kernel_rfl) ?_ ?_
 ·intro Q' hR hQp
  have hb0:Below w2.heap.size w2 w2.drew:=N4 _
  have hS:SD w.heap.size (.slice ra s.rules.length rc) (.slice sa s.stamps.length sc) w2.drew:=hS0
  generalize w2.drew=wa at *
  refine A9 hQp hS [0,1,3,4] ?_
  iterate 4 (refine B2 _ rfl (by kernel_rfl) (A0 (by kernel_rfl) (by intro w0 hw0;have hw1:=hw0;simp only [SD] at hw1;first|(go_simp;done)|(go_simp;rfl))) ?_;simp only [Act.put,St.tA,St.tD,St.tE,St.tS,St.tC,St.tZ])
  refine B3 ?_
  refine H5 (i:=2) (j:=7) rfl rfl (by kernel_rfl) (by kernel_rfl) (by kernel_rfl) (fun K2 hK2=>?_) (fun K7 hK7=>?_)
  ·skip
   go_simp
   go_wp2_with fail
   refine (A00 s.rules ok ra rc wa (hr.below (hB2.trans (hb0.mono hz2))) (by omega)).mono ?_
   rintro e wx1 ⟨ga,gc,rfl,hga,hbx⟩
   go_wp2_with fail
   have hg:A8 G6 (fun b=>w.heap.size+3≤b) wx1 ga gc s.rules:=hga.row.mono fun b _ hh=>⟨by have:=hb0.size;omega,rfl⟩
   have hb1:Below w2.heap.size w2 wx1:=hb0.trans (hbx.mono hb0.size)
   have hS:SD w.heap.size (.slice ra s.rules.length rc) (.slice sa s.stamps.length sc) wx1:=hS9.under (by omega) hb1
   refine hK2 _ _ (fun _=>hS) ?_
   clear hK2 hbx
   refine H5 (i:=5) (j:=7) rfl rfl (by kernel_rfl) (by kernel_rfl) (by kernel_rfl) (fun K5 hK5=>?_) (fun K7 hK7=>?_)
   ·skip
    go_simp
    go_wp2_with fail
    refine (A4z s.stamps ok sa sc wx1 (hs.below (hB2.trans (hb1.mono hz2))) (by omega)).mono ?_
    rintro e wx2 ⟨ha,hc,rfl,hha,hbx⟩
    go_wp2_with fail
    have hh:A8 J6 (fun b=>w.heap.size+3≤b) wx2 ha hc s.stamps:=hha.mono fun b _ hh=>⟨by have:=hb1.size;omega,rfl⟩
    have hg:=hg.below hbx
    have hb2:Below w2.heap.size w2 wx2:=hb1.trans (hbx.mono hb1.size)
    have hS:SD w.heap.size (.slice ra s.rules.length rc) (.slice sa s.stamps.length sc) wx2:=hS9.under (by omega) hb2
    refine hK5 _ _ (fun _=>hS) ?_
    clear hK5 hbx
    refine A9 hQp hS [6] ?_
    iterate 1 (refine B2 _ rfl (by kernel_rfl) (A0 (by kernel_rfl) (by intro w0 hw0;have hw1:=hw0;simp only [SD] at hw1;first|(go_simp;done)|(go_simp;rfl))) ?_;simp only [Act.put,St.tA,St.tD,St.tE,St.tS,St.tC,St.tZ])
    refine B3 ?_
    clear hS
    refine A7 (i:=7) rfl (by kernel_rfl) (by kernel_rfl) fun K7 hK7=>?_
    go_simp
    go_wp2_with fail
    have hbx:=G8 wx2 (.cells #[.slice none 0 0,.slice none 0 0] 65)
    have hk:=I6 wx2 65 #[.slice none 0 0,.slice none 0 0]
    have hq:w.heap.size+3≤wx2.heap.size:=by have:=hb2.size;omega
    have hq2:w2.heap.size≤wx2.heap.size:=hb2.size
    have hg:=hg.mono (w':=(wx2.alloc (.cells #[.slice none 0 0,.slice none 0 0] 65))) (ok':=fun b=>w.heap.size+3≤b∧b≠wx2.heap.size) (fun b hb hh=>⟨⟨hh,by omega⟩,hbx.block b hb⟩)
    have hh:=hh.mono (w':=(wx2.alloc (.cells #[.slice none 0 0,.slice none 0 0] 65))) (ok':=fun b=>w.heap.size+3≤b∧b≠wx2.heap.size) (fun b hb hh=>⟨⟨hh,by omega⟩,hbx.block b hb⟩)
    have hb3:Below w2.heap.size w2 (wx2.alloc (.cells #[.slice none 0 0,.slice none 0 0] 65)):=hb2.trans (hbx.mono hb2.size)
    have hS:SD w.heap.size (.slice ra s.rules.length rc) (.slice sa s.stamps.length sc) (wx2.alloc (.cells #[.slice none 0 0,.slice none 0 0] 65)):=hS9.under (by omega) hb3
    refine hK7 _ _ (fun _=>hS) ?_
    clear hK7 hbx
    generalize hBB:wx2.heap.size=BB at *
    generalize wx2.alloc (.cells #[.slice none 0 0,.slice none 0 0] 65)=wx3 at *
    have hkl:=hk.lt
    obtain ⟨y1,y2⟩:=hk.cells
    have hk9:=(hk.set 0 (.slice ga s.rules.length gc)).set 1 (.slice ha s.stamps.length hc)
    have hg9:=Z6 hg (.slice ga s.rules.length gc) (.slice ha s.stamps.length hc)
    have hh9:=Z6 hh (.slice ga s.rules.length gc) (.slice ha s.stamps.length hc)
    have hb9:=(hb3.setCell (p:=⟨BB,0,none⟩) (by show w2.heap.size≤BB;omega) (.slice ga s.rules.length gc)).setCell (p:=⟨BB,1,none⟩) (by show w2.heap.size≤BB;omega) (.slice ha s.stamps.length hc)
    clear hS
    refine A7 (i:=8) rfl (by kernel_rfl) (by kernel_rfl) fun K8 hK8=>?_
    go_simp
    go_wp2_with fail
    refine hK8 _ _ (fun _=>⟨B8 hb9 (by omega) hS9.1,B8 hb9 (by omega) hS9.2⟩) ?_
    clear hK8
    refine B5 (by kernel_rfl) ?_ _
    refine hR _ _ ?_
    iterate 8 apply Exists.intro
    refine ⟨?_,⟨BB,ga,gc,ha,hc,rfl,hq,hk9,hg9,hh9,hb9⟩⟩
    simp only [C8,Act.put,St.tS,St.tC,St.tZ]
    rfl
   ·skip
    go_simp
    go_wp2_with fail
    have hbx:=G8 wx1 (.cells #[.slice none 0 0,.slice none 0 0] 65)
    have hk:=I6 wx1 65 #[.slice none 0 0,.slice none 0 0]
    have hq:w.heap.size+3≤wx1.heap.size:=by have:=hb1.size;omega
    have hq2:w2.heap.size≤wx1.heap.size:=hb1.size
    have hg:=hg.mono (w':=(wx1.alloc (.cells #[.slice none 0 0,.slice none 0 0] 65))) (ok':=fun b=>w.heap.size+3≤b∧b≠wx1.heap.size) (fun b hb hh=>⟨⟨hh,by omega⟩,hbx.block b hb⟩)
    have hb2:Below w2.heap.size w2 (wx1.alloc (.cells #[.slice none 0 0,.slice none 0 0] 65)):=hb1.trans (hbx.mono hb1.size)
    have hS:SD w.heap.size (.slice ra s.rules.length rc) (.slice sa s.stamps.length sc) (wx1.alloc (.cells #[.slice none 0 0,.slice none 0 0] 65)):=hS9.under (by omega) hb2
    refine hK7 _ _ (fun _=>hS) ?_
    clear hK7 hbx
    generalize hBB:wx1.heap.size=BB at *
    generalize wx1.alloc (.cells #[.slice none 0 0,.slice none 0 0] 65)=wx2 at *
    clear hS
    refine A7 (i:=5) rfl (by kernel_rfl) (by kernel_rfl) fun K5 hK5=>?_
    go_simp
    go_wp2_with fail
    refine (A4z s.stamps ok sa sc wx2 (hs.below (hB2.trans (hb2.mono hz2))) (by omega)).mono ?_
    rintro e wx3 ⟨ha,hc,rfl,hha,hbx⟩
    go_wp2_with fail
    have hh:A8 J6 (fun b=>w.heap.size+3≤b∧b≠BB) wx3 ha hc s.stamps:=hha.mono fun b _ hh=>⟨⟨by have:=hb2.size;omega,by have:=hk.lt;omega⟩,rfl⟩
    have hk:=hk.under hbx
    have hg:=hg.below hbx
    have hb3:Below w2.heap.size w2 wx3:=hb2.trans (hbx.mono hb2.size)
    have hS:SD w.heap.size (.slice ra s.rules.length rc) (.slice sa s.stamps.length sc) wx3:=hS9.under (by omega) hb3
    refine hK5 _ _ (fun _=>hS) ?_
    clear hK5 hbx
    refine A9 hQp hS [6] ?_
    iterate 1 (refine B2 _ rfl (by kernel_rfl) (A0 (by kernel_rfl) (by intro w0 hw0;have hw1:=hw0;simp only [SD] at hw1;first|(go_simp;done)|(go_simp;rfl))) ?_;simp only [Act.put,St.tA,St.tD,St.tE,St.tS,St.tC,St.tZ])
    refine B3 ?_
    have hkl:=hk.lt
    obtain ⟨y1,y2⟩:=hk.cells
    have hk9:=(hk.set 0 (.slice ga s.rules.length gc)).set 1 (.slice ha s.stamps.length hc)
    have hg9:=Z6 hg (.slice ga s.rules.length gc) (.slice ha s.stamps.length hc)
    have hh9:=Z6 hh (.slice ga s.rules.length gc) (.slice ha s.stamps.length hc)
    have hb9:=(hb3.setCell (p:=⟨BB,0,none⟩) (by show w2.heap.size≤BB;omega) (.slice ga s.rules.length gc)).setCell (p:=⟨BB,1,none⟩) (by show w2.heap.size≤BB;omega) (.slice ha s.stamps.length hc)
    clear hS
    refine A7 (i:=8) rfl (by kernel_rfl) (by kernel_rfl) fun K8 hK8=>?_
    go_simp
    go_wp2_with fail
    refine hK8 _ _ (fun _=>⟨B8 hb9 (by omega) hS9.1,B8 hb9 (by omega) hS9.2⟩) ?_
    clear hK8
    refine B5 (by kernel_rfl) ?_ _
    refine hR _ _ ?_
    iterate 8 apply Exists.intro
    refine ⟨?_,⟨BB,ga,gc,ha,hc,rfl,hq,hk9,hg9,hh9,hb9⟩⟩
    simp only [C8,Act.put,St.tS,St.tC,St.tZ]
    rfl
  ·skip
   go_simp
   go_wp2_with fail
   have hbx:=G8 wa (.cells #[.slice none 0 0,.slice none 0 0] 65)
   have hk:=I6 wa 65 #[.slice none 0 0,.slice none 0 0]
   have hq:w.heap.size+3≤wa.heap.size:=by have:=hb0.size;omega
   have hq2:w2.heap.size≤wa.heap.size:=hb0.size
   have hb1:Below w2.heap.size w2 (wa.alloc (.cells #[.slice none 0 0,.slice none 0 0] 65)):=hb0.trans (hbx.mono hb0.size)
   have hS:SD w.heap.size (.slice ra s.rules.length rc) (.slice sa s.stamps.length sc) (wa.alloc (.cells #[.slice none 0 0,.slice none 0 0] 65)):=hS9.under (by omega) hb1
   refine hK7 _ _ (fun _=>hS) ?_
   clear hK7 hbx
   generalize hBB:wa.heap.size=BB at *
   generalize wa.alloc (.cells #[.slice none 0 0,.slice none 0 0] 65)=wx1 at *
   clear hS
   refine A7 (i:=2) rfl (by kernel_rfl) (by kernel_rfl) fun K2 hK2=>?_
   go_simp
   go_wp2_with fail
   refine (A00 s.rules ok ra rc wx1 (hr.below (hB2.trans (hb1.mono hz2))) (by omega)).mono ?_
   rintro e wx2 ⟨ga,gc,rfl,hga,hbx⟩
   go_wp2_with fail
   have hg:A8 G6 (fun b=>w.heap.size+3≤b∧b≠BB) wx2 ga gc s.rules:=hga.row.mono fun b _ hh=>⟨⟨by have:=hb1.size;omega,by have:=hk.lt;omega⟩,rfl⟩
   have hk:=hk.under hbx
   have hb2:Below w2.heap.size w2 wx2:=hb1.trans (hbx.mono hb1.size)
   have hS:SD w.heap.size (.slice ra s.rules.length rc) (.slice sa s.stamps.length sc) wx2:=hS9.under (by omega) hb2
   refine hK2 _ _ (fun _=>hS) ?_
   clear hK2 hbx
   clear hS
   refine A7 (i:=5) rfl (by kernel_rfl) (by kernel_rfl) fun K5 hK5=>?_
   go_simp
   go_wp2_with fail
   refine (A4z s.stamps ok sa sc wx2 (hs.below (hB2.trans (hb2.mono hz2))) (by omega)).mono ?_
   rintro e wx3 ⟨ha,hc,rfl,hha,hbx⟩
   go_wp2_with fail
   have hh:A8 J6 (fun b=>w.heap.size+3≤b∧b≠BB) wx3 ha hc s.stamps:=hha.mono fun b _ hh=>⟨⟨by have:=hb2.size;omega,by have:=hk.lt;omega⟩,rfl⟩
   have hk:=hk.under hbx
   have hg:=hg.below hbx
   have hb3:Below w2.heap.size w2 wx3:=hb2.trans (hbx.mono hb2.size)
   have hS:SD w.heap.size (.slice ra s.rules.length rc) (.slice sa s.stamps.length sc) wx3:=hS9.under (by omega) hb3
   refine hK5 _ _ (fun _=>hS) ?_
   clear hK5 hbx
   refine A9 hQp hS [6] ?_
   iterate 1 (refine B2 _ rfl (by kernel_rfl) (A0 (by kernel_rfl) (by intro w0 hw0;have hw1:=hw0;simp only [SD] at hw1;first|(go_simp;done)|(go_simp;rfl))) ?_;simp only [Act.put,St.tA,St.tD,St.tE,St.tS,St.tC,St.tZ])
   refine B3 ?_
   have hkl:=hk.lt
   obtain ⟨y1,y2⟩:=hk.cells
   have hk9:=(hk.set 0 (.slice ga s.rules.length gc)).set 1 (.slice ha s.stamps.length hc)
   have hg9:=Z6 hg (.slice ga s.rules.length gc) (.slice ha s.stamps.length hc)
   have hh9:=Z6 hh (.slice ga s.rules.length gc) (.slice ha s.stamps.length hc)
   have hb9:=(hb3.setCell (p:=⟨BB,0,none⟩) (by show w2.heap.size≤BB;omega) (.slice ga s.rules.length gc)).setCell (p:=⟨BB,1,none⟩) (by show w2.heap.size≤BB;omega) (.slice ha s.stamps.length hc)
   clear hS
   refine A7 (i:=8) rfl (by kernel_rfl) (by kernel_rfl) fun K8 hK8=>?_
   go_simp
   go_wp2_with fail
   refine hK8 _ _ (fun _=>⟨B8 hb9 (by omega) hS9.1,B8 hb9 (by omega) hS9.2⟩) ?_
   clear hK8
   refine B5 (by kernel_rfl) ?_ _
   refine hR _ _ ?_
   iterate 8 apply Exists.intro
   refine ⟨?_,⟨BB,ga,gc,ha,hc,rfl,hq,hk9,hg9,hh9,hb9⟩⟩
   simp only [C8,Act.put,St.tS,St.tC,St.tZ]
   rfl
 rintro a' w8 ⟨v8,v25,v26,v27,v28,v29,v30,v31,rfl,hb8⟩
 simp only [C8,Act.put,St.tS,St.tC,St.tZ]
 obtain ⟨BB,ga,gc,ha,hc,rfl,hq8,hk8,hg8,hh8,hb9⟩:=hb8
 have hB8:Below w.heap.size w w8:=hB2.trans (hb9.mono hz2)
 have hO8:=hO2.under hb9
 have hR8:=hR2.under hb9
 have hS8:=hS2.under hb9
 have hz8:=hB8.size
 have hkl8:=hk8.lt
 clear s1 s2 o1 o2 r1 r2 hl1 hS9 hS0 hb9 hS2 hO2 hR2 hB2 hz2
 obtain ⟨s1,s2⟩:=hS8.cells
 obtain ⟨o1,o2⟩:=hO8.cells
 obtain ⟨r1,r2⟩:=hR8.cells
 obtain ⟨y1,y2⟩:=hk8.cells
 have hl1:=hR8.lt
 by_cases k1:o.kind=1
 ·have b1:(o.kind==1)=true:=by rw [beq_iff_eq];exact k1
  have HE:=Lib.hid (HD3.out (by first|trivial|rfl) (by first|trivial|rfl) k1)
  have hol:=hka k1
  clear HD3 HD4 HD5 k1 hk3
  have hAd:=B5r s.rules o.rules ok ok' ra oa rc oc w8 (hr.below hB8) (hor.below hB8) (by omega) (by omega)
  generalize O8 s.rules o.rules=A at *
  obtain ⟨m,ae⟩:=A
  dsimp only at *
  have HAd:=Lib.hid hAd
  clear hAd
  go_wp2_with fail
  refine HAd.out.mono ?_
  rintro e w9 ⟨ao,cap,rfl,hm,hb9⟩
  have hB9:Below w.heap.size w w9:=hB8.trans (hb9.mono hz8)
  have hR9:=hR8.under hb9
  have hk9:=hk8.under hb9
  have hh9:=hh8.below hb9
  have hz9:=hB9.size
  have hkl9:=hk9.lt
  have hm9:A8 G6 (fun b=>w.heap.size+3≤b∧b≠BB) w9 ao cap m:=hm.mono fun b _ hh=>⟨⟨by omega,by omega⟩,rfl⟩
  clear s1 s2 o1 o2 r1 r2 y1 y2 hl1 HAd
  obtain ⟨r1,r2⟩:=hR9.cells
  obtain ⟨y1,y2⟩:=hk9.cells
  have hl1:=hR9.lt
  by_cases h3:ae=0
  case neg=>
   have h3':(ae !=0)=true:=by rw [bne_iff_ne];exact h3
   obtain ⟨rfl,rfl⟩:c1=O5∧c2=ae:=by have h4:=HE.out;rw [if_pos h3] at h4;simpa using h4
   clear HE h3
   go_wp2
   have z1:=((hR9.set 0 (.slice none 0 0)).set 1 (.slice none 0 0)).cells.1
   refine bodyPost_ret (v:=.tuple #[.agg #[.slice none 0 0,.slice none 0 0],.int .i64 c2]) (by simp [results,Tryz.results47,go_sem,z1]) rfl ⟨[.slice none 0 0,.slice none 0 0],rfl,⟨none,0,none,0,rfl,A8.nil _ _ _ _,A8.nil _ _ _ _⟩,by (repeat' (first|with_reducible (first|exact Below.refl _ _|assumption|refine Below.drew ?_|refine A3 ?_ _|refine Below.alloc ?_ ?_ _|refine Below.setCell ?_ ?_ _)|omega|(simp;done)|(simp;omega)))⟩
  subst h3
  obtain ⟨rfl,rfl⟩:c1=⟨m,s.stamps⟩∧c2=0:=by have h4:=HE.out;rw [if_neg (by simp)] at h4;simpa using h4
  clear HE
  have hne:BB≠w.heap.size+2:=by omega
  have hk10:=hk9.set 0 (.slice ao m.length cap)
  have hk10':A6 (w9.setCell ⟨BB,0,none⟩ (.slice ao m.length cap)) BB 65 #[.slice ao m.length cap,.slice ha s.stamps.length hc]:=by simpa using hk10
  have hR10:=hR9.setOther (a:=⟨BB,0,none⟩) (fun e=>hne e.symm) (.slice ao m.length cap)
  have hm10:=J1 hm9 (p:=⟨BB,0,none⟩) (.inl rfl) (.slice ao m.length cap)
  have hh10:=J1 hh9 (p:=⟨BB,0,none⟩) (.inl rfl) (.slice ao m.length cap)
  obtain ⟨u1,u2⟩:=hk10'.cells
  obtain ⟨v1,v2⟩:=hR10.cells
  go_wp2
  have z1:=((hR10.set 0 (.slice ao m.length cap)).set 1 (.slice ha s.stamps.length hc)).cells.1
  refine bodyPost_ret (v:=.tuple #[.agg #[.slice ao m.length cap,.slice ha s.stamps.length hc],.int .i64 0]) (by simp [results,Tryz.results47,go_sem,z1]) rfl ⟨[.slice ao m.length cap,.slice ha s.stamps.length hc],rfl,⟨ao,cap,ha,hc,rfl,A18 (J1 (J1 hm10 (p:=⟨w.heap.size+2,0,none⟩) (.inr (Nat.lt_succ_self _)) _) (p:=⟨w.heap.size+2,1,none⟩) (.inr (Nat.lt_succ_self _)) _) (by omega),A18 (J1 (J1 hh10 (p:=⟨w.heap.size+2,0,none⟩) (.inr (Nat.lt_succ_self _)) _) (p:=⟨w.heap.size+2,1,none⟩) (.inr (Nat.lt_succ_self _)) _) (by omega)⟩,by (repeat' (first|with_reducible (first|exact Below.refl _ _|assumption|refine Below.drew ?_|refine A3 ?_ _|refine Below.alloc ?_ ?_ _|refine Below.setCell ?_ ?_ _)|omega|(simp;done)|(simp;omega)))⟩
 have b1:(o.kind==1)=false:=by rw [beq_eq_false_iff_ne];exact k1
 have hne:BB≠w.heap.size+2:=by omega
 have hne1:BB≠w.heap.size+1:=by omega
 by_cases k2:o.kind=2
 case neg=>
  have b2:(o.kind==2)=false:=by rw [beq_eq_false_iff_ne];exact k2
  have k3:o.kind=3:=by omega
  have HE:=Lib.hid (HD5.out (by first|trivial|rfl) (by first|trivial|rfl) k3)
  clear HD3 HD4 HD5 k1 hk3 k2 k3 hka HKS
  have hDr:=B4t s.rules o.ver ok ra rc w8 (hr.below hB8) (by omega)
  generalize S0 s.rules o.ver=m at *
  obtain ⟨rfl,rfl⟩:c1=⟨m,s.stamps⟩∧c2=0:=by have h4:=HE.out;simpa using h4
  clear HE
  have HDr:=Lib.hid hDr
  clear hDr
  go_wp2_with fail
  refine HDr.out.mono ?_
  rintro e w9 ⟨ao,cap,rfl,hm,hb9⟩
  have hB9:Below w.heap.size w w9:=hB8.trans (hb9.mono hz8)
  have hR9:=hR8.under hb9
  have hk9:=hk8.under hb9
  have hh9:=hh8.below hb9
  have hz9:=hB9.size
  have hkl9:=hk9.lt
  have hm9:A8 G6 (fun b=>w.heap.size+3≤b∧b≠BB) w9 ao cap m:=hm.row.mono fun b _ hh=>⟨⟨by omega,by omega⟩,rfl⟩
  clear s1 s2 o1 o2 r1 r2 y1 y2 hl1 HDr
  obtain ⟨r1,r2⟩:=hR9.cells
  obtain ⟨y1,y2⟩:=hk9.cells
  have hl1:=hR9.lt
  have hk10:=hk9.set 0 (.slice ao m.length cap)
  have hk10':A6 (w9.setCell ⟨BB,0,none⟩ (.slice ao m.length cap)) BB 65 #[.slice ao m.length cap,.slice ha s.stamps.length hc]:=by simpa using hk10
  have hR10:=hR9.setOther (a:=⟨BB,0,none⟩) (fun e=>hne e.symm) (.slice ao m.length cap)
  have hm10:=J1 hm9 (p:=⟨BB,0,none⟩) (.inl rfl) (.slice ao m.length cap)
  have hh10:=J1 hh9 (p:=⟨BB,0,none⟩) (.inl rfl) (.slice ao m.length cap)
  obtain ⟨u1,u2⟩:=hk10'.cells
  obtain ⟨v1,v2⟩:=hR10.cells
  go_wp2
  have z1:=((hR10.set 0 (.slice ao m.length cap)).set 1 (.slice ha s.stamps.length hc)).cells.1
  refine bodyPost_ret (v:=.tuple #[.agg #[.slice ao m.length cap,.slice ha s.stamps.length hc],.int .i64 0]) (by simp [results,Tryz.results47,go_sem,z1]) rfl ⟨[.slice ao m.length cap,.slice ha s.stamps.length hc],rfl,⟨ao,cap,ha,hc,rfl,A18 (J1 (J1 hm10 (p:=⟨w.heap.size+2,0,none⟩) (.inr (Nat.lt_succ_self _)) _) (p:=⟨w.heap.size+2,1,none⟩) (.inr (Nat.lt_succ_self _)) _) (by omega),A18 (J1 (J1 hh10 (p:=⟨w.heap.size+2,0,none⟩) (.inr (Nat.lt_succ_self _)) _) (p:=⟨w.heap.size+2,1,none⟩) (.inr (Nat.lt_succ_self _)) _) (by omega)⟩,by (repeat' (first|with_reducible (first|exact Below.refl _ _|assumption|refine Below.drew ?_|refine A3 ?_ _|refine Below.alloc ?_ ?_ _|refine Below.setCell ?_ ?_ _)|omega|(simp;done)|(simp;omega)))⟩
 have b2:(o.kind==2)=true:=by rw [beq_iff_eq];exact k2
 have HE:=Lib.hid (HD4.out (by first|trivial|rfl) (by first|trivial|rfl) k2)
 obtain ⟨rfl,rfl⟩:c1=⟨s.rules,o.flows.map fun f=>⟨f,o.ver⟩⟩∧c2=0:=by have h4:=HE.out;simpa using h4
 obtain ⟨hfl,hrise⟩:=HKS.out k2
 have HRT:Hid (∀ (j:Nat) (f:Int),o.flows[j]? =some f→∀ y∈(o.flows.take j).map (fun f=>(⟨f,o.ver⟩:J0)),y.flow<f):=fun j f hj=>B16 hrise hj
 clear HD3 HD4 HD5 k1 hk3 k2 HE hka HKS hrise
 have hk9:=hk8.set 1 (.slice none 0 0)
 have hk9':A6 (w8.setCell ⟨BB,1,none⟩ (.slice none 0 0)) BB 65 #[.slice ga s.rules.length gc,.slice none 0 0]:=by simpa using hk9
 have hR9:=hR8.setOther (a:=⟨BB,1,none⟩) (fun e=>hne e.symm) (.slice none 0 0)
 have hO9:=hO8.setOther (a:=⟨BB,1,none⟩) (fun e=>hne1 e.symm) (.slice none 0 0)
 have hg9:=J1 hg8 (p:=⟨BB,1,none⟩) (.inl rfl) (.slice none 0 0)
 have hB9:Below w.heap.size w (w8.setCell ⟨BB,1,none⟩ (.slice none 0 0)):=hB8.setCell (p:=⟨BB,1,none⟩) (by show w.heap.size≤BB;omega) _
 have hs9:(w8.setCell ⟨BB,1,none⟩ (.slice none 0 0)).heap.size=w8.heap.size:=by simp
 have hown0:C7 J6 146 (fun _=>False) w8.heap.size (w8.setCell ⟨BB,1,none⟩ (.slice none 0 0)) none 0 0 ((o.flows.take 0).map (fun f=>(⟨f,o.ver⟩:J0))):=C7.nil' _ _ _ _
 obtain ⟨o3,o4⟩:=hO9.cells
 clear hk9
 go_wp2
 go_loopw [12,62] (fun _ idx wr=>∃ (j:Nat) (ao:Option Addr) (cap:Nat),idx=.int .i64 j∧j≤o.flows.length∧A6 wr BB 65 #[.slice ga s.rules.length gc,.slice ao j cap]∧C7 J6 146 (fun _=>False) w8.heap.size wr ao j cap ((o.flows.take j).map (fun f=>(⟨f,o.ver⟩:J0)))∧(∀ b,b<w8.heap.size→b≠BB→wr.heap[b]? =w8.heap[b]?)∧Below w.heap.size w wr∧w8.heap.size≤wr.heap.size) (fun _ idx _=>o.flows.length - (intOf idx).toNat)
 case atStart=>exact ⟨0,none,0,rfl,Nat.zero_le _,hk9',hown0,fun b _ hb=>Below.heap_setCell _ _ _ b hb,hB9,Nat.le_of_eq hs9.symm⟩
 case round=>
  clear hk9' hown0 hg9 hO9 hR9 hB9 hs9 o3 o4 s1 s2 o1 o2 r1 r2 y1 y2 hl1
  obtain ⟨j,ao,cap,rfl,hj,hk,hown,hkeep,hB,hzr⟩:=hrel
  rename World=>wr
  have hg:A8 G6 (fun b=>w.heap.size+3≤b∧b≠BB) wr ga gc s.rules:=hg8.mono fun b hb hh=>⟨hh,hkeep b hb hh.2⟩
  have hO:=hO8.keep (hkeep _ hO8.lt hne1.symm)
  have hR:=hR8.keep (hkeep _ hR8.lt hne.symm)
  have HKP:=Lib.hid hkeep
  clear hkeep
  obtain ⟨y1,y2⟩:=hk.cells
  obtain ⟨o1,o2⟩:=hO.cells
  obtain ⟨r1,r2⟩:=hR.cells
  have hl1:=hR.lt
  have hlk:=hk.lt
  by_cases hlt:j<o.flows.length
  case neg=>
   obtain rfl:j=o.flows.length:=by omega
   have b3:¬((o.flows.length:Nat):Int)<(o.flows.length:Int):=by omega
   rw [List.take_length] at hown
   have hrow:A8 J6 (fun b=>w.heap.size+3≤b∧b≠BB) wr ao cap (o.flows.map (fun f=>(⟨f,o.ver⟩:J0))):=hown.row (fun _ h=>h.elim) (fun k hk=>by have:=(hown.lt k hk).1;exact ⟨by omega,by omega⟩)
   have hll:(o.flows.map (fun f=>(⟨f,o.ver⟩:J0))).length=o.flows.length:=by simp
   clear hown
   go_wp2
   have z1:=((hR.set 0 (.slice ga s.rules.length gc)).set 1 (.slice ao o.flows.length cap)).cells.1
   refine bodyPost_ret (v:=.tuple #[.agg #[.slice ga s.rules.length gc,.slice ao o.flows.length cap],.int .i64 0]) (by simp [results,Tryz.results47,go_sem,z1]) rfl ⟨[.slice ga s.rules.length gc,.slice ao o.flows.length cap],rfl,⟨ga,gc,ao,cap,by rw [hll],A18 (J1 (J1 hg (p:=⟨w.heap.size+2,0,none⟩) (.inr (Nat.lt_succ_self _)) _) (p:=⟨w.heap.size+2,1,none⟩) (.inr (Nat.lt_succ_self _)) _) (by omega),A18 (J1 (J1 hrow (p:=⟨w.heap.size+2,0,none⟩) (.inr (Nat.lt_succ_self _)) _) (p:=⟨w.heap.size+2,1,none⟩) (.inr (Nat.lt_succ_self _)) _) (by omega)⟩,by (repeat' (first|with_reducible (first|exact Below.refl _ _|assumption|refine Below.drew ?_|refine A3 ?_ _|refine Below.alloc ?_ ?_ _|refine Below.setCell ?_ ?_ _)|omega|(simp;done)|(simp;omega)))⟩
  obtain ⟨f,hf⟩:∃ f,o.flows[j]? =some f:=⟨_,List.getElem?_eq_getElem hlt⟩
  obtain ⟨qb,qo,rfl,hql,hfI,hcf⟩:=A1p hof hf
  have e0:=hcf _ hB
  have b3:(j:Int)<(o.flows.length:Int):=by omega
  have b0:(0:Int)≤(j:Int):=by omega
  have hlj:((o.flows.take j).map (fun f=>(⟨f,o.ver⟩:J0))).length=j:=by simp;omega
  have hSt:=B3q w8.heap.size ((o.flows.take j).map (fun f=>(⟨f,o.ver⟩:J0))) ⟨f,o.ver⟩ ao cap j wr hlj hown hzr (by omega) (HRT.out j f hf) hfI hov
  rw [←A8s hf] at hSt
  have HSt:=Lib.hid hSt
  clear hSt hlj hcf hf hown
  go_wp2_with fail
  refine HSt.out.mono ?_
  rintro e w9 ⟨ao2,cap2,rfl,hown2,hb9⟩
  have hk2:=hk.below hb9 (by omega)
  have hO2:=hO.below hb9 (by omega)
  have hR2:=hR.below hb9 (by omega)
  have hB2:Below w.heap.size w w9:=hB.trans (hb9.mono hz8)
  have hz9:=hb9.size
  obtain ⟨y3,y4⟩:=hk2.cells
  have hk3:=hk2.set 1 (.slice ao2 (j+1) cap2)
  have hk3':A6 (w9.setCell ⟨BB,1,none⟩ (.slice ao2 (j+1) cap2)) BB 65 #[.slice ga s.rules.length gc,.slice ao2 (j+1) cap2]:=by simpa using hk3
  have hown3:=hown2.setCell (a:=⟨BB,1,none⟩) (by show BB<w8.heap.size;omega) (.slice ao2 (j+1) cap2)
  have HK3:Hid (∀ b,b<w8.heap.size→b≠BB→(w9.setCell ⟨BB,1,none⟩ (.slice ao2 (j+1) cap2)).heap[b]? =w8.heap[b]?):=fun b h1 h2=>((Below.heap_setCell _ _ _ b h2).trans (hb9.block b h1)).trans (HKP.out b h1 h2)
  have hB3:Below w.heap.size w (w9.setCell ⟨BB,1,none⟩ (.slice ao2 (j+1) cap2)):=hB2.setCell (p:=⟨BB,1,none⟩) (by show w.heap.size≤BB;omega) _
  clear HSt hown2 hk3 y1 y2 o1 o2 r1 r2
  go_wp2
  case roundEnd=>
   go_roundw
   case rel=>exact ⟨j+1,ao2,cap2,by go_num,by omega,hk3',hown3,HK3.out,hB3,by simp;omega⟩
   case measure=>simp [intOf]<;>omega
end Go.Proofs.YtampcbncgofkoaaGreatDoor
