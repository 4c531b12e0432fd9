/- Texts of this proof, one behind the other. -/
import Derived.Test.YtampcbncgofkoaaGreatDoorPk32
import Derived.Test.YtampcbncgofkoaaGreatDoorPk23
set_option linter.unusedSimpArgs false
set_option linter.unusedVariables false
set_option maxRecDepth 100000
set_option maxHeartbeats 16000000
namespace Go.St
open Go.RowKit
def SW4 (R sb s X:Nat) (v9 a1 a2 o0 o1 o2 o3 o4:Value) (w:World):Prop:=w.cell? ⟨R,9,none⟩=some v9∧w.cell? ⟨sb,s * 2,none⟩=some a1∧w.cell? ⟨sb,s * 2+1,none⟩=some a2∧w.cell? ⟨X,0,none⟩=some o0∧w.cell? ⟨X,1,none⟩=some o1∧w.cell? ⟨X,2,none⟩=some o2∧w.cell? ⟨X,3,none⟩=some o3∧w.cell? ⟨X,4,none⟩=some o4
theorem SW4.of {R sb s X:Nat} {v9 a1 a2 o0 o1 o2 o3 o4:Value} {w:World} {t:TypeId} (h1:w.cell? ⟨R,9,none⟩=some v9) (h2:w.cell? ⟨sb,s * 2,none⟩=some a1) (h3:w.cell? ⟨sb,s * 2+1,none⟩=some a2) (h:A6 w X t #[o0,o1,o2,o3,o4]):SW4 R sb s X v9 a1 a2 o0 o1 o2 o3 o4 w:=
 ⟨h1,h2,h3,h.cells.1 0,h.cells.1 1,h.cells.1 2,h.cells.1 3,h.cells.1 4⟩
theorem A01 {ok:Nat→Prop} {w:World} {ts:List Value} {s:D8} (h:E8.rep ok w ts s):∃ b1 b2,ts=[b1,b2]:=by
 obtain ⟨ra,rc,sa,sc,rfl,_⟩:=h
 exact ⟨_,_,rfl⟩
def SQ2 (R i ob s:Nat) (vo r:Value) (w:World):Prop:=w.cell? ⟨R,i,none⟩=some vo∧w.cell? ⟨ob,s,none⟩=some r
def SQ3 (R i X:Nat) (vo b1 b2:Value) (w:World):Prop:=w.cell? ⟨R,i,none⟩=some vo∧w.cell? ⟨X,0,none⟩=some b1∧w.cell? ⟨X,1,none⟩=some b2
def SQ4 (R i ob s X j:Nat) (vo r x:Value) (w:World):Prop:=w.cell? ⟨R,i,none⟩=some vo∧w.cell? ⟨ob,s,none⟩=some r∧w.cell? ⟨X,j,none⟩=some x
end Go.St
namespace Go.Proofs.YtampcbncgofkoaaGreatDoor
open Go.RowKit Go.St
def F6 (H M:Nat→Prop) (lka:Option Addr) (lkc R N:Nat) (t:C5) (w:World) (n':Net) (w':World):Prop:=
 ∃ M' V',C9 (fun b=>¬(M' b∨H b)) M' lka lkc R N t w' n' V'∧Frm (fun b=>¬M b) R w w'∧∀ b,M' b→M b∨w.heap.size≤b
theorem C9.wideH {H I M:Nat→Prop} {lka:Option Addr} {lkc R N:Nat} {t:C5} {w:World} {n:Net} {V:RV} (h:C9 I M lka lkc R N t w n V) (hI:∀ b,b<w.heap.size→I b→¬H b):C9 (fun b=>¬(M b∨H b)) M lka lkc R N t w n V:=
 h.frm (W:=fun _=>True) (Frm.refl _ 0 w) (fun _ _ _=>.inl trivial) (fun b hl hb hc=>hc.elim (h.im b hb) (hI b hl hb)) (fun b hb hm=>hb (.inl hm))
theorem F6.same {H M:Nat→Prop} {lka:Option Addr} {lkc R N:Nat} {t:C5} {w w':World} {n:Net} {V:RV} (h:C9 (fun b=>¬(M b∨H b)) M lka lkc R N t w n V) (hb:Below w.heap.size w w'):F6 H M lka lkc R N t w n w':=
 ⟨M,V,h.below hb,Frm.of hb h.size,fun b hb=>.inl hb⟩
theorem A8v {α:Type} {l:List (List α)} {s:Nat} (h:s<l.length) (x:α):l.modify s (·++[x])=l.set s (l.getD s []++[x]):=by
 apply List.ext_getElem?
 intro i
 rw [List.getElem?_modify,List.getElem?_set,List.getD_eq_getElem?_getD]
 by_cases e:s=i
 ·subst e
  rw [List.getElem?_eq_getElem h]
  simp [h]
 ·simp [e]
theorem A2a {α:Type} {t:C5} {l:List (List α)} {s N:Nat} (ht:t.n=((N:Nat):Int)) (hs:s<N):Go.St.rowAt t l (s:Int)=l.getD s []:=by
 unfold Go.St.rowAt
 rw [if_neg (by omega),Int.toNat_natCast]
theorem A7p (H M:Nat→Prop) (lka:Option Addr) (lkc R N:Nat) (t:C5) (k:Nat) (n:Net) (V:RV) (s:Int) (hsI:I64 s) (w:World) (h:C9 (fun b=>¬(M b∨H b)) M lka lkc R N t w n V) (hf:F4 t k n) (hk:k≤1000) (hN:N≤8) (hH:∀ b,H b→b<w.heap.size):
  Calls Tryz.prog 30 #[.pointer (some ⟨R,0,none⟩),.int .i64 s] w fun e w'=>e=.returned (.int .i64 (L4 t n s).2)∧F6 H M lka lkc R N t w (L4 t n s).1 w':=by
 have htn:=h.tn
 have hRl:=h.box.lt
 have r9:w.cell? ⟨R,9,none⟩=some (.slice (some ⟨V.sb,0,none⟩) N N):=h.box.cells.1 9
 have r10:w.cell? ⟨R,10,none⟩=some (.slice (some ⟨V.ob,0,none⟩) N N):=h.box.cells.1 10
 have r14:w.cell? ⟨R,14,none⟩=some (.int .i64 ((N:Nat):Int)):=h.box.cells.1 14
 have hE0:Go.St.rowAt t n.orders s=[]→L4 t n s=(n,6):=fun e=>by unfold L4;rw [e]
 have hE2:=fun (o:G3) (r:List G3) (e:Go.St.rowAt t n.orders s=o::r) (sw:D8) (e2:n.switches.getD s.toNat O5=sw)=>(show L4 t n s=if (Q4 sw o).2≠0 then (n,(Q4 sw o).2) else ({n with orders:=n.orders.set s.toNat r,switches:=n.switches.set s.toNat (Q4 sw o).1,backs:=n.backs.modify s.toNat (·++[o.num])},0) by unfold L4;rw [e];dsimp only;rw [e2])
 by_cases hin:0≤s∧s<(N:Int)
 case neg=>
  have e:Go.St.rowAt t n.orders s=[]:=by unfold Go.St.rowAt;rw [if_pos (by omega)]
  rw [hE0 e]
  clear hE0 hE2 e
  go_enter Tryz.func30,Tryz.ntmps30
  by_cases h0:s<0
  ·clear hin
   go_wp2
   go_ret;exact ⟨rfl,F6.same h (Below.refl _ _)⟩
  ·have h1:s≥(N:Int):=by omega
   clear hin
   go_wp2
   go_ret;exact ⟨rfl,F6.same h (Below.refl _ _)⟩
 obtain ⟨s,rfl⟩:∃ q:Nat,s=(q:Int):=⟨s.toNat,by omega⟩
 have hsn:s<N:=by omega
 have h0:¬(s:Int)<0:=by omega
 have h1:¬(s:Int)≥(N:Int):=by omega
 have h2:(s:Int)<(N:Int):=by omega
 have h3:(0:Int)≤(s:Int):=by omega
 rw [A2a htn hsn] at hE0
 simp only [Int.toNat_natCast] at hE2
 rw [A2a htn hsn] at hE2
 have hrr:=fun (I2 M3:Nat→Prop) (w3:World) (n3:Net) (V3:RV) (hA:C9 I2 M3 lka lkc R N t w3 n3 V3) (e:n3.orders=n.orders)=>(⟨by have:=hA.ords.cell hsn;rwa [e] at this,by have:=hA.ords.own s hsn;rwa [e] at this⟩:w3.cell? ⟨V3.ob,s,none⟩=some (.slice (V3.fo s).1 (n.orders.getD s []).length (V3.fo s).2)∧qR E3 109 I2 R w3 (V3.fo s).1 (n.orders.getD s []).length (V3.fo s).2 (n.orders.getD s []))
 have hrm:n.orders.getD s []∈n.orders:=by rw [List.getD_eq_getElem?_getD,List.getElem?_eq_getElem (by rw [h.ords.len];exact hsn)];exact List.getElem_mem _
 obtain ⟨row,hrow⟩:∃ r,n.orders.getD s []=r:=⟨_,rfl⟩
 have HROW:=Lib.hid hrow
 rw [hrow] at hE0 hE2 hrr hrm
 clear hrow
 have t10:=(hrr _ _ _ _ _ h rfl).1
 have hown:=(hrr _ _ _ _ _ h rfl).2
 have hobl:=h.ords.blk.lt
 have HRR:=Lib.hid hrr
 clear hrr
 cases row with
 |nil=>
  rw [hE0 rfl]
  clear hE0 hE2 hown
  go_enter Tryz.func30,Tryz.ntmps30
  simp only [List.length_nil] at t10
  go_wp2
  go_ret;exact ⟨rfl,F6.same h (Below.refl _ _)⟩
 |cons o r=>
 have hlo:=h.here
 obtain ⟨g,q,cs,ha,_,hgl,hor,hce,_,_⟩:=hown.at (i:=0) (x:=o) rfl
 obtain ⟨ra,rc,fb,fd,rfl,ok1,ok2,ok3,ok4,ok5⟩:=hor
 have hor:E3.rep (fun b=>¬(M b∨H b)) w [.int .i64 o.kind,.int .i64 o.num,.int .i64 o.ver,.slice ra o.rules.length rc,.slice fb o.flows.length fd] o:=⟨ra,rc,fb,fd,rfl,ok1,ok2,ok3,ok4,ok5⟩
 have o0:=hce 0 _ rfl
 have o1:=hce 1 _ rfl
 have o2:=hce 2 _ rfl
 have o3:=hce 3 _ rfl
 have o4:=hce 4 _ rfl
 simp only [Nat.zero_mul,Nat.add_zero] at o0 o1 o2 o3 o4
 rw [ha] at t10
 have hll:((((o::r).length:Nat):Int)==0)=false:=by rw [beq_eq_false_iff_ne];simp only [List.length_cons];omega
 have hl1:¬(((o::r).length:Int)=0):=by simp only [List.length_cons];omega
 have hl2:(0:Int)<((o::r).length:Int):=by simp only [List.length_cons];omega
 obtain ⟨L,hL⟩:∃ L,(o::r).length=L:=⟨_,rfl⟩
 have HL:=Lib.hid hL
 rw [hL] at t10 hll hl1 hl2
 clear hL hce hown
 have hsl:s<n.switches.length:=by rw [h.sws.len];exact hsn
 obtain ⟨sw,hsw⟩:∃ x,n.switches[s]? =some x:=⟨_,List.getElem?_eq_getElem hsl⟩
 have hswD:n.switches.getD s O5=sw:=by rw [List.getD_eq_getElem?_getD,hsw];rfl
 have hE3:=hE2 o r rfl sw hswD
 obtain ⟨sg,sq,scs,sa,_,_,hswr,hsce,_,_⟩:=h.sws.at hsw
 obtain ⟨rfl,rfl⟩:V.sb=sg∧0=sq:=by simpa using sa
 obtain ⟨a1,a2,rfl⟩:=A01 hswr
 have s1:=hsce 0 _ rfl
 have s2:=hsce 1 _ rfl
 have hsz2:E8.size=2:=rfl
 rw [hsz2] at s1 s2
 simp only [Nat.zero_add,Nat.add_zero] at s1 s2
 have hsbl:=(h.sws.lt V.sb rfl).2
 have HE:=Lib.hid hE3
 clear hE0 hE2 hE3 hsce sa hswD
 have hbx:=G8 w (.cells #[.int .i64 o.kind,.int .i64 o.num,.int .i64 o.ver,.slice ra o.rules.length rc,.slice fb o.flows.length fd] 109)
 have hX2:=I6 w 109 #[.int .i64 o.kind,.int .i64 o.num,.int .i64 o.ver,.slice ra o.rules.length rc,.slice fb o.flows.length fd]
 have hA2:=hlo.below hbx
 have hor2:=E3.below hor hbx
 have hsw2:=E8.below hswr hbx
 have s1':=B8 hbx hsbl s1
 have s2':=B8 hbx hsbl s2
 have hs2:(w.alloc (.cells #[.int .i64 o.kind,.int .i64 o.num,.int .i64 o.ver,.slice ra o.rules.length rc,.slice fb o.flows.length fd] 109)).heap.size=w.heap.size+1:=by simp
 have hF2:Frm (fun b=>¬M b∧b<w.heap.size) R w (w.alloc (.cells #[.int .i64 o.kind,.int .i64 o.num,.int .i64 o.ver,.slice ra o.rules.length rc,.slice fb o.flows.length fd] 109)):=Frm.of hbx h.size
 have hfo:Hid (V.fo s=(some ⟨g,q,none⟩,(V.fo s).2)):=by show _=_;rw [←ha]
 have HA:=Lib.hid ha
 clear ha
 go_enter Tryz.func30,Tryz.ntmps30
 go_upto_region 4 with fail
 try rw [hll]
 clear o0 o1 o2 o3 o4 s1 s2 t10 r9 r10 r14 hbx hor hswr ok5 ok4 hll hl1
 generalize w.alloc _=w2 at *
 have hDO:=fun (w':World) (hb:Below w2.heap.size w2 w')=>B60 sw o _ _ _ _ w' (E8.below hsw2 hb) (E3.below hor2 hb)
 have HDO:=Lib.hid hDO
 have hSof:∀ w',Below w2.heap.size w2 w'→SW4 R V.sb s w.heap.size (.slice (some ⟨V.sb,0,none⟩) N N) a1 a2 (.int .i64 o.kind) (.int .i64 o.num) (.int .i64 o.ver) (.slice ra o.rules.length rc) (.slice fb o.flows.length fd) w':=fun w' hb=>SW4.of ((hA2.below hb).box.cells.1 9) (B8 hb (by omega) s1') (B8 hb (by omega) s2') (hX2.under hb)
 have hS0:SW4 R V.sb s w.heap.size (.slice (some ⟨V.sb,0,none⟩) N N) a1 a2 (.int .i64 o.kind) (.int .i64 o.num) (.int .i64 o.ver) (.slice ra o.rules.length rc) (.slice fb o.flows.length fd) w2.drew:=hSof _ (by (repeat' (first|with_reducible (first|exact Below.refl _ _|assumption|refine Below.drew ?_|refine A3 ?_ _|refine Below.alloc ?_ ?_ _|refine Below.setCell ?_ ?_ _)|omega|(simp;done)|(simp;omega))))
 clear hDO hor2 hsw2
 refine B9 (SW4 R V.sb s w.heap.size (.slice (some ⟨V.sb,0,none⟩) N N) a1 a2 (.int .i64 o.kind) (.int .i64 o.num) (.int .i64 o.ver) (.slice ra o.rules.length rc) (.slice fb o.flows.length fd)) 99 (fun a0 a' w'=>∃ v6 v7 v41 v42 v43 v44 v45 v46 v47 v48 v49 v50 v51 v52 v53,a'=C8 a0 [(6,v6),(7,v7),(41,v41),(42,v42),(43,v43),(44,v44),(45,v45),(46,v46),(47,v47),(48,v48),(49,v49),(50,v50),(51,v51),(52,v52),(53,v53)]∧∃ D b1 b2,v6=.pointer (some ⟨D,0,none⟩)∧v7=.int .i64 (Q4 sw o).2∧w2.heap.size≤D∧A6 w' D 65 #[b1,b2]∧E8.rep (fun b=>w2.heap.size≤b∧b≠D) w' [b1,b2] (Q4 sw o).1∧Below w2.heap.size w2 w') (by kernel_rfl) ?_ ?_
 ·intro Q' hR hQp
  have hb0:Below w2.heap.size w2 w2.drew:=N4 _
  have hS:SW4 R V.sb s w.heap.size (.slice (some ⟨V.sb,0,none⟩) N N) a1 a2 (.int .i64 o.kind) (.int .i64 o.num) (.int .i64 o.ver) (.slice ra o.rules.length rc) (.slice fb o.flows.length fd) w2.drew:=hS0
  generalize w2.drew=wa at *
  refine A9 hQp hS [0,5,8,1,2,3,4,6,7] ?_
  iterate 9 (refine B2 _ rfl (by kernel_rfl) (A0 (by kernel_rfl) (by intro w0 hw0;have hw1:=hw0;simp only [SW4] at hw1;first|(go_simp;done)|(go_simp;rfl))) ?_;simp only [Act.put,St.tA,St.tD,St.tE,St.tS,St.tC,St.tZ])
  refine B3 ?_
  refine H5 (i:=9) (j:=13) rfl rfl (by kernel_rfl) (by kernel_rfl) (by kernel_rfl) (fun K9 hK9=>?_) (fun K13 hK13=>?_)
  ·skip
   go_simp
   go_wp2_with fail
   refine (HDO.out wa hb0).mono ?_
   rintro e wk ⟨ts,rfl,ht0,hbk⟩
   obtain ⟨b1,b2,rfl⟩:=A01 ht0
   obtain ⟨lb1,lb2⟩:b1.oneCell'=true∧b2.oneCell'=true:=⟨E8.one ht0 _ (by simp),E8.one ht0 _ (by simp)⟩
   have st1:=Q5 (P:=Tryz.prog) lb1
   have st2:=Q5 (P:=Tryz.prog) lb2
   go_wp2_with fail
   have hb:=hb0.trans (hbk.mono hb0.size)
   have hS:SW4 R V.sb s w.heap.size (.slice (some ⟨V.sb,0,none⟩) N N) a1 a2 (.int .i64 o.kind) (.int .i64 o.num) (.int .i64 o.ver) (.slice ra o.rules.length rc) (.slice fb o.flows.length fd) wk:=hSof _ hb
   refine hK9 _ _ (fun _=>hS) ?_
   clear hK9
   refine A9 hQp hS [10,11,12] ?_
   iterate 3 (refine B2 _ rfl (by kernel_rfl) (A0 (by kernel_rfl) (by intro w0 hw0;have hw1:=hw0;simp only [SW4] at hw1;first|(go_simp;done)|(go_simp;rfl))) ?_;simp only [Act.put,St.tA,St.tD,St.tE,St.tS,St.tC,St.tZ])
   refine B3 ?_
   clear hS
   refine A7 (i:=13) rfl (by kernel_rfl) (by kernel_rfl) fun K13 hK13=>?_
   go_simp
   go_wp2_with fail
   have hD:=I6 wk 65 #[.slice none 0 0,.slice none 0 0]
   have hbA:=G8 wk (.cells #[.slice none 0 0,.slice none 0 0] 65)
   have hsz0:=hb0.size
   have hDs:w2.heap.size≤wk.heap.size:=hb.size
   have hb:=hb.trans (hbA.mono hb.size)
   have ht:=E8.below (E8.anyOk ht0 (ok':=fun b=>w2.heap.size≤b∧b≠wk.heap.size) (fun b hl hh=>by omega)) hbA
   clear hbA
   generalize wk.alloc _=wA at *
   have hS:SW4 R V.sb s w.heap.size (.slice (some ⟨V.sb,0,none⟩) N N) a1 a2 (.int .i64 o.kind) (.int .i64 o.num) (.int .i64 o.ver) (.slice ra o.rules.length rc) (.slice fb o.flows.length fd) wA:=hSof _ hb
   refine hK13 _ _ (fun _=>hS) ?_
   clear hK13 ht0 hbk
   generalize wk.heap.size=D at *
   clear hS
   obtain ⟨d1,d2⟩:=hD.cells
   have hDl:=hD.lt
   clear hS
   refine A7 (i:=14) rfl (by kernel_rfl) (by kernel_rfl) fun K14 hK14=>?_
   go_simp
   go_wp2_with fail
   have FRE:Frm (fun b=>b≠D) w2.heap.size _ ((wA.setCell ⟨D,0,none⟩ b1).setCell ⟨D,1,none⟩ b2):=(Frm.set (a:=⟨D,0,none⟩) (fun h=>h rfl) hDs b1).trans (Frm.set (a:=⟨D,1,none⟩) (fun h=>h rfl) hDs b2)
   have hDE:A6 ((wA.setCell ⟨D,0,none⟩ b1).setCell ⟨D,1,none⟩ b2) D 65 #[b1,b2]:=(hD.set 0 b1).set 1 b2
   have htE:=FRE.rep' ht (fun b hb=>.inl hb.2)
   have hbE:=(Frm.of (W:=fun b=>b≠D) hb (Nat.le_refl _)).trans FRE
   have hAE:=hA2.below hbE.below
   have hS:SW4 R V.sb s w.heap.size (.slice (some ⟨V.sb,0,none⟩) N N) a1 a2 (.int .i64 o.kind) (.int .i64 o.num) (.int .i64 o.ver) (.slice ra o.rules.length rc) (.slice fb o.flows.length fd) _:=hSof _ hbE.below
   refine hK14 _ _ (fun _=>hS) ?_
   clear hK14 d1 d2
   refine A9 hQp hS [15] ?_
   iterate 1 (refine B2 _ rfl (by kernel_rfl) (A0 (by kernel_rfl) (by intro w0 hw0;have hw1:=hw0;simp only [SW4] at hw1;first|(go_simp;done)|(go_simp;rfl))) ?_;simp only [Act.put,St.tA,St.tD,St.tE,St.tS,St.tC,St.tZ])
   refine B3 ?_
   refine B5 (by kernel_rfl) ?_ _
   refine hR _ _ ?_
   iterate 15 apply Exists.intro
   refine ⟨?_,⟨D,b1,b2,rfl,rfl,hDs,hDE,htE,hbE.below⟩⟩
   simp only [C8,Act.put,St.tS,St.tC,St.tZ]
   rfl
  ·skip
   go_simp
   go_wp2_with fail
   have hD:=I6 wa 65 #[.slice none 0 0,.slice none 0 0]
   have hbA:=G8 wa (.cells #[.slice none 0 0,.slice none 0 0] 65)
   have hDs:w2.heap.size≤wa.heap.size:=hb0.size
   have hb:=hb0.trans (hbA.mono hb0.size)
   have hDl0:=hD.lt
   clear hbA
   generalize wa.alloc _=wB at *
   have hS:SW4 R V.sb s w.heap.size (.slice (some ⟨V.sb,0,none⟩) N N) a1 a2 (.int .i64 o.kind) (.int .i64 o.num) (.int .i64 o.ver) (.slice ra o.rules.length rc) (.slice fb o.flows.length fd) wB:=hSof _ hb
   refine hK13 _ _ (fun _=>hS) ?_
   clear hK13
   generalize wa.heap.size=D at *
   clear hS
   refine A7 (i:=9) rfl (by kernel_rfl) (by kernel_rfl) fun K9 hK9=>?_
   go_simp
   go_wp2_with fail
   refine (HDO.out wB hb).mono ?_
   rintro e wA ⟨ts,rfl,ht0,hbk⟩
   obtain ⟨b1,b2,rfl⟩:=A01 ht0
   obtain ⟨lb1,lb2⟩:b1.oneCell'=true∧b2.oneCell'=true:=⟨E8.one ht0 _ (by simp),E8.one ht0 _ (by simp)⟩
   have st1:=Q5 (P:=Tryz.prog) lb1
   have st2:=Q5 (P:=Tryz.prog) lb2
   go_wp2_with fail
   have hsz:=hb.size
   have hD:=hD.under hbk
   have hb:=hb.trans (hbk.mono hb.size)
   have ht:=E8.anyOk ht0 (ok':=fun b=>w2.heap.size≤b∧b≠D) (fun b hl hh=>by omega)
   have hS:SW4 R V.sb s w.heap.size (.slice (some ⟨V.sb,0,none⟩) N N) a1 a2 (.int .i64 o.kind) (.int .i64 o.num) (.int .i64 o.ver) (.slice ra o.rules.length rc) (.slice fb o.flows.length fd) wA:=hSof _ hb
   refine hK9 _ _ (fun _=>hS) ?_
   clear hK9 ht0 hbk
   refine A9 hQp hS [10,11,12] ?_
   iterate 3 (refine B2 _ rfl (by kernel_rfl) (A0 (by kernel_rfl) (by intro w0 hw0;have hw1:=hw0;simp only [SW4] at hw1;first|(go_simp;done)|(go_simp;rfl))) ?_;simp only [Act.put,St.tA,St.tD,St.tE,St.tS,St.tC,St.tZ])
   refine B3 ?_
   clear hS
   obtain ⟨d1,d2⟩:=hD.cells
   have hDl:=hD.lt
   clear hS
   refine A7 (i:=14) rfl (by kernel_rfl) (by kernel_rfl) fun K14 hK14=>?_
   go_simp
   go_wp2_with fail
   have FRE:Frm (fun b=>b≠D) w2.heap.size _ ((wA.setCell ⟨D,0,none⟩ b1).setCell ⟨D,1,none⟩ b2):=(Frm.set (a:=⟨D,0,none⟩) (fun h=>h rfl) hDs b1).trans (Frm.set (a:=⟨D,1,none⟩) (fun h=>h rfl) hDs b2)
   have hDE:A6 ((wA.setCell ⟨D,0,none⟩ b1).setCell ⟨D,1,none⟩ b2) D 65 #[b1,b2]:=(hD.set 0 b1).set 1 b2
   have htE:=FRE.rep' ht (fun b hb=>.inl hb.2)
   have hbE:=(Frm.of (W:=fun b=>b≠D) hb (Nat.le_refl _)).trans FRE
   have hAE:=hA2.below hbE.below
   have hS:SW4 R V.sb s w.heap.size (.slice (some ⟨V.sb,0,none⟩) N N) a1 a2 (.int .i64 o.kind) (.int .i64 o.num) (.int .i64 o.ver) (.slice ra o.rules.length rc) (.slice fb o.flows.length fd) _:=hSof _ hbE.below
   refine hK14 _ _ (fun _=>hS) ?_
   clear hK14 d1 d2
   refine A9 hQp hS [15] ?_
   iterate 1 (refine B2 _ rfl (by kernel_rfl) (A0 (by kernel_rfl) (by intro w0 hw0;have hw1:=hw0;simp only [SW4] at hw1;first|(go_simp;done)|(go_simp;rfl))) ?_;simp only [Act.put,St.tA,St.tD,St.tE,St.tS,St.tC,St.tZ])
   refine B3 ?_
   refine B5 (by kernel_rfl) ?_ _
   refine hR _ _ ?_
   iterate 15 apply Exists.intro
   refine ⟨?_,⟨D,b1,b2,rfl,rfl,hDs,hDE,htE,hbE.below⟩⟩
   simp only [C8,Act.put,St.tS,St.tC,St.tZ]
   rfl
 rintro a' w8 ⟨v6,v7,v41,v42,v43,v44,v45,v46,v47,v48,v49,v50,v51,v52,v53,rfl,hb8⟩
 simp only [C8,Act.put,St.tS,St.tC,St.tZ]
 obtain ⟨D,b1,b2,rfl,rfl,hDs,hD8,ht8,hb8⟩:=hb8
 have hA8:=hA2.below hb8
 have hX8:=hX2.under hb8
 have hF8:=hF2.trans (Frm.of hb8 (by have:=hA2.size;omega))
 have hs8:=hb8.size
 clear hSof hS0 HDO hA2 hX2 hF2 hb8 s1' s2'
 generalize Q4 sw o=dw at *
 obtain ⟨ns,er⟩:=dw
 dsimp only at *
 by_cases he:er=0
 case neg=>
  have hE:=HE.out
  rw [if_pos he] at hE
  have HE1:=Lib.hid hE
  have he':(er !=0)=true:=by rw [bne_iff_ne];exact he
  have hO:F6 H M lka lkc R N t w n w8:=⟨M,V,hA8.wideH (fun b _ hb hh=>by first|exact hb (.inr hh)|exact hb.1 (.inr hh)|exact hb.2.2 (.inr hh)|(have:=hH b hh;omega)),hF8.weak (fun b hb hm=>.inl ⟨hm,hb⟩) (Nat.le_refl _),fun b hb=>.inl hb⟩
  clear he hE HE HRR HROW hA8
  go_wp2
  go_ret;rw [HE1.out];exact ⟨rfl,hO⟩
 subst he
 have hE:=HE.out
 rw [if_neg (by decide)] at hE
 have HE1:=Lib.hid hE
 clear hE HE
 have r10:w8.cell? ⟨R,10,none⟩=some (.slice (some ⟨V.ob,0,none⟩) N N):=hA8.box.cells.1 10
 have t10:=(HRR.out _ _ _ _ _ hA8 rfl).1
 rw [HA.out,show (o::r).length=r.length+1 from rfl] at t10
 have hobl:=hA8.ords.blk.lt
 have hobf:=hA8.ords.blk.cells.2
 have hl9:(1:Int)≤(r.length:Int)+1:=by omega
 obtain ⟨ad,hadE⟩:∃ ad,(if (V.fo s).2=1 then some (⟨g,q,none⟩:Addr) else some ⟨g,q+5,none⟩)=ad:=⟨_,rfl⟩
 have had:ad=some ⟨g,q+E3.size,none⟩∨((V.fo s).2=1∧ad=some ⟨g,q,none⟩):=by
  subst hadE
  split
  ·rename_i hc;exact .inr ⟨hc,rfl⟩
  ·exact .inl rfl
 have HAD:=Lib.hid had
 have hDM:¬M D:=fun hm=>by have:=(hA8.rng D hm).2;have:=(h.rng D hm).2;omega
 have hXM:¬M w.heap.size:=fun hm=>by have:=(h.rng _ hm).2;omega
 obtain ⟨lb1,lb2⟩:b1.oneCell'=true∧b2.oneCell'=true:=⟨E8.one ht8 _ (by simp),E8.one ht8 _ (by simp)⟩
 have st1:=Q5 (P:=Tryz.prog) lb1
 have st2:=Q5 (P:=Tryz.prog) lb2
 have htn8:∀ b,(w2.heap.size≤b∧b≠D)→¬(M b∨H b):=fun b hb hm=>by have:=hm.elim (fun hm=>(h.rng b hm).2) (hH b);omega
 have hbm:=hf.back (n.backs.getD s []) (by rw [List.getD_eq_getElem?_getD,List.getElem?_eq_getElem (by rw [h.bks.len];exact hsn)];exact List.getElem_mem _)
 have hR8:=h.size
 have hMl:∀ b,M b→b<w.heap.size:=fun b hb=>(h.rng b hb).2
 have hS0:SQ2 R 10 V.ob s (.slice (some ⟨V.ob,0,none⟩) N N) (.slice (some ⟨g,q,none⟩) (r.length+1) (V.fo s).2) w8.drew:=⟨r10,t10⟩
 clear had hlo h hf
 go_wp2
 refine B9 (SQ2 R 10 V.ob s (.slice (some ⟨V.ob,0,none⟩) N N) (.slice (some ⟨g,q,none⟩) (r.length+1) (V.fo s).2)) 16 (fun a0 a' w'=>∃ v57 v58 v59 v60 v61 v62 v63 v64 v65 v66 v67 v68 v69 v70 v71 v72,a'=C8 a0 [(57,v57),(58,v58),(59,v59),(60,v60),(61,v61),(62,v62),(63,v63),(64,v64),(65,v65),(66,v66),(67,v67),(68,v68),(69,v69),(70,v70),(71,v71),(72,v72)]∧C9 (fun b=>¬(M b∨H b)∧b<w.heap.size) M lka lkc R N t w' {n with orders:=n.orders.set s r} {V with fo:=upd V.fo s (ad,(V.fo s).2 - 1)}∧Frm (fun b=>¬M b) R w8 w') (by kernel_rfl) ?_ ?_
 ·intro Q' hR hQp
  have hb0:Below w8.heap.size w8 w8.drew:=N4 _
  have hS:SQ2 R 10 V.ob s (.slice (some ⟨V.ob,0,none⟩) N N) (.slice (some ⟨g,q,none⟩) (r.length+1) (V.fo s).2) w8.drew:=hS0
  generalize w8.drew=wa at *
  have hAa:=hA8.below hb0
  refine A9 hQp hS [0,5,6,11,1,7,2,8,3,9,4,10,12,13,14,15] ?_
  iterate 16 (refine B2 _ rfl (by kernel_rfl) (A0 (by kernel_rfl) (by intro w0 hw0;have hw1:=hw0;simp only [SQ2] at hw1;first|(go_simp;done)|(go_simp;rfl))) ?_;simp only [Act.put,St.tA,St.tD,St.tE,St.tS,St.tC,St.tZ])
  refine B3 ?_
  have hca:=hS.2
  clear hS
  have hoa:V.ob<wa.heap.size:=by have:=hb0.size;omega
  have hfa:=hAa.ords.blk.cells.2
  refine A7 (i:=16) rfl (by kernel_rfl) (by kernel_rfl) fun K16 hK16=>?_
  go_simp
  go_wp2_with fail
  obtain ⟨hA9,hF9⟩:=hAa.takeOrder hsn HROW.out hfo.out HAD.out
  refine hK16 _ _ (fun h=>absurd rfl h) ?_
  clear hK16
  refine B5 (by kernel_rfl) ?_ _
  refine hR _ _ ?_
  iterate 16 apply Exists.intro
  refine ⟨?_,⟨hA9,(Frm.of hb0 (by have:=hA8.size;omega)).trans hF9⟩⟩
  simp only [C8,Act.put,St.tS,St.tC,St.tZ]
  rfl
 rintro a' w8 ⟨v57,v58,v59,v60,v61,v62,v63,v64,v65,v66,v67,v68,v69,v70,v71,v72,rfl,hb8⟩
 simp only [C8,Act.put,St.tS,St.tC,St.tZ]
 obtain ⟨hA9,hF9⟩:=hb8
 rename World=>w9
 have hD9:=hF9.blk hD8 (.inl hDM)
 have hX9:=hF9.blk hX8 (.inl hXM)
 have ht9:=hF9.rep' ht8 (fun b hb=>.inl (fun hm=>htn8 b hb (.inl hm)))
 have hAw:=hA9.wideH (fun b _ hb hh=>by first|exact hb (.inr hh)|exact hb.1 (.inr hh)|exact hb.2.2 (.inr hh)|(have:=hH b hh;omega))
 have hF10:=hF8.trans (hF9.weak (V:=fun b=>¬M b∧b<w.heap.size) (fun b _ hb=>.inl hb.1) (Nat.le_refl _))
 have hs9:=hF9.size
 have r9:w9.cell? ⟨R,9,none⟩=some (.slice (some ⟨V.sb,0,none⟩) N N):=hAw.box.cells.1 9
 have hsb9:=(hAw.sws.lt V.sb rfl).2
 obtain ⟨cur9,hcur9⟩:=hAw.sws.has (k:=V.sb) rfl
 clear hA8 hX8 hD8 ht8 hF8 hF9 hA9 hS0 hadE t10 r10
 have hS0:SQ3 R 9 D (.slice (some ⟨V.sb,0,none⟩) N N) b1 b2 w9.drew:=⟨r9,hD9.cells.1 0,hD9.cells.1 1⟩
 go_wp2
 refine B9 (SQ3 R 9 D (.slice (some ⟨V.sb,0,none⟩) N N) b1 b2) 99 (fun a0 a' w'=>∃ v73 v74 v75 v76 v77 v78 v79 v80,a'=C8 a0 [(73,v73),(74,v74),(75,v75),(76,v76),(77,v77),(78,v78),(79,v79),(80,v80)]∧C9 (fun b=>¬(M b∨H b)) M lka lkc R N t w' {n with orders:=n.orders.set s r,switches:=n.switches.set s ns} {V with fo:=upd V.fo s (ad,(V.fo s).2 - 1)}∧Frm (fun b=>¬M b) R w9 w') (by kernel_rfl) ?_ ?_
 ·intro Q' hR hQp
  have hb0:Below w9.heap.size w9 w9.drew:=N4 _
  have hS:SQ3 R 9 D (.slice (some ⟨V.sb,0,none⟩) N N) b1 b2 w9.drew:=hS0
  generalize w9.drew=wa at *
  have hAa:=hAw.below hb0
  have hDa:=hD9.under hb0
  have hta:=E8.below ht9 hb0
  obtain ⟨g1,q1,cs1,e1,_,hg1,hr1,hc1,hz1,_⟩:=hAa.sws.at (i:=s) (x:=sw) hsw
  obtain ⟨rfl,rfl⟩:V.sb=g1∧0=q1:=by simpa using e1
  obtain ⟨u1,u2,rfl⟩:=A01 hr1
  have c0:=hc1 0 _ rfl
  have c1:=hc1 1 _ rfl
  rw [hsz2] at c0 c1
  simp only [Nat.zero_add,Nat.add_zero] at c0 c1
  refine A9 hQp hS [0,5,6,1,2,3,4,7] ?_
  iterate 8 (refine B2 _ rfl (by kernel_rfl) (A0 (by kernel_rfl) (by intro w0 hw0;have hw1:=hw0;simp only [SQ3] at hw1;first|(go_simp;done)|(go_simp;rfl))) ?_;simp only [Act.put,St.tA,St.tD,St.tE,St.tS,St.tC,St.tZ])
  refine B3 ?_
  clear hS
  refine A7 (i:=8) rfl (by kernel_rfl) (by kernel_rfl) fun K8 hK8=>?_
  go_simp
  go_wp2_with fail
  have hQ:=hAa.setSwitch (s:=s) (g:=V.sb) (q:=0) (x:=sw) (y:=ns) (cs:=[b1,b2]) rfl hsw rfl (E8.anyOk hta (fun b _ hb=>htn8 b hb))
  rw [hsz2,Nat.zero_add] at hQ
  obtain ⟨hAb,hFb⟩:=hQ
  have hS:_:=(⟨hAb.box.cells.1 9,(hFb.blk hDa (.inl hDM)).cells.1 0,(hFb.blk hDa (.inl hDM)).cells.1 1⟩:SQ3 R 9 D (.slice (some ⟨V.sb,0,none⟩) N N) b1 b2 ((wa.setCell ⟨V.sb,s * 2,none⟩ b1).setCell ⟨V.sb,s * 2+1,none⟩ b2))
  refine hK8 _ _ (fun _=>hS) ?_
  clear hK8
  refine B5 (by kernel_rfl) ?_ _
  refine hR _ _ ?_
  iterate 8 apply Exists.intro
  refine ⟨?_,⟨hAb,(Frm.of hb0 (by have:=hAw.size;omega)).trans hFb⟩⟩
  simp only [C8,Act.put,St.tS,St.tC,St.tZ]
  rfl
 rintro a' w8 ⟨v73,v74,v75,v76,v77,v78,v79,v80,rfl,hb8⟩
 simp only [C8,Act.put,St.tS,St.tC,St.tZ]
 obtain ⟨hA11,hF11⟩:=hb8
 rename World=>w11
 have hX11:=hF11.blk hX9 (.inl hXM)
 have hF12:=hF10.trans (hF11.weak (V:=fun b=>¬M b∧b<w.heap.size) (fun b _ hb=>.inl hb.1) (Nat.le_refl _))
 have hs11:=hF11.size
 have r11:w11.cell? ⟨R,11,none⟩=some (.slice (some ⟨V.bb,0,none⟩) N N):=hA11.box.cells.1 11
 have hbr:=fun (I2 M3:Nat→Prop) (w3:World) (n3:Net) (V3:RV) (hA:C9 I2 M3 lka lkc R N t w3 n3 V3) (e:n3.backs=n.backs)=>(⟨by have:=hA.bks.cell hsn;rwa [e] at this,by have:=hA.bks.own s hsn;rwa [e] at this⟩:w3.cell? ⟨V3.bb,s,none⟩=some (.slice (V3.fb s).1 (n.backs.getD s []).length (V3.fb s).2)∧qR C2 3 I2 R w3 (V3.fb s).1 (n.backs.getD s []).length (V3.fb s).2 (n.backs.getD s []))
 have hbl:s<n.backs.length:=by have:=hA11.bks.len;dsimp only at this;omega
 have hmod:=A8v (l:=n.backs) hbl o.num
 generalize n.backs.getD s []=br at *
 have HBR:=Lib.hid hbr
 have HMOD:=Lib.hid hmod
 have t11:=(hbr _ _ _ _ _ hA11 rfl).1
 dsimp only at t11
 clear hbr hmod hAw hD9 hX9 ht9 hF10 hF11 hS0 r9 hcur9
 have hbbl:=hA11.bks.blk.lt
 obtain ⟨i0,hi,hz0,hz1,hz2⟩:=info_parts P6
 have hS0:SQ4 R 11 V.bb s w.heap.size 1 (.slice (some ⟨V.bb,0,none⟩) N N) (.slice (V.fb s).1 br.length (V.fb s).2) (.int .i64 o.num) w11.drew:=⟨r11,t11,hX11.cells.1 1⟩
 go_wp2
 refine B9 (SQ4 R 11 V.bb s w.heap.size 1 (.slice (some ⟨V.bb,0,none⟩) N N) (.slice (V.fb s).1 br.length (V.fb s).2) (.int .i64 o.num)) 19 (fun a0 a' w'=>∃ v81 v82 v83 v84 v85 v86 v87 v88 v89 v90 v91 v92 v93 v94 v95 v96 v97 v98 v99,a'=C8 a0 [(81,v81),(82,v82),(83,v83),(84,v84),(85,v85),(86,v86),(87,v87),(88,v88),(89,v89),(90,v90),(91,v91),(92,v92),(93,v93),(94,v94),(95,v95),(96,v96),(97,v97),(98,v98),(99,v99)]∧∃ M3 V3,C9 (fun b=>¬(M b∨H b)∧b<w'.heap.size∧¬M3 b) M3 lka lkc R N t w' {n with orders:=n.orders.set s r,switches:=n.switches.set s ns,backs:=n.backs.set s (br++[o.num])} V3∧Frm (fun b=>¬M b∧b<w.heap.size) R w w'∧∀ b,M3 b→M b∨w.heap.size≤b) (by kernel_rfl) ?_ ?_
 ·intro Q' hR hQp
  have hb0:Below w11.heap.size w11 w11.drew:=N4 _
  have hS:SQ4 R 11 V.bb s w.heap.size 1 (.slice (some ⟨V.bb,0,none⟩) N N) (.slice (V.fb s).1 br.length (V.fb s).2) (.int .i64 o.num) w11.drew:=hS0
  generalize w11.drew=wa at *
  have hAa:=hA11.below hb0
  have hXa:=hX11.under hb0
  have hsa:=hb0.size
  refine A9 hQp hS [0,5,6,11,14,1,7,15,2,8,3,9,4,10,12,13] ?_
  iterate 16 (refine B2 _ rfl (by kernel_rfl) (A0 (by kernel_rfl) (by intro w0 hw0;have hw1:=hw0;simp only [SQ4] at hw1;first|(go_simp;done)|(go_simp;rfl))) ?_;simp only [Act.put,St.tA,St.tD,St.tE,St.tS,St.tC,St.tZ])
  refine B3 ?_
  clear hS
  refine A7 (i:=16) rfl (by kernel_rfl) (by kernel_rfl) fun K16 hK16=>?_
  go_simp
  go_wp2_with fail
  have hb3:=G8 wa (.cells #[.int .i64 o.num] 3)
  have hsrc:D7 C2 (fun b=>¬(M b∨H b)) (wa.alloc (.cells #[.int .i64 o.num] 3)) (some ⟨wa.heap.size,0,none⟩) [o.num]:=D7.ints [o.num] rfl (by intro y hy;obtain rfl:y=o.num:=(by simpa using hy);exact ok2)
  have hAb:=hAa.below hb3
  have hXb:=hXa.under hb3
  have hb4:=hb0.trans (hb3.mono hsa)
  refine hK16 _ _ (fun _=>⟨hAb.box.cells.1 11,(HBR.out _ _ _ _ _ hAb rfl).1,hXb.cells.1 1⟩) ?_
  clear hK16
  have hsb:(wa.alloc (.cells #[.int .i64 o.num] 3)).heap.size=wa.heap.size+1:=by simp
  generalize wa.alloc (.cells #[.int .i64 o.num] 3)=wx at *
  refine A7 (i:=17) rfl (by kernel_rfl) (by kernel_rfl) fun K17 hK17=>?_
  have hown:=(HBR.out _ _ _ _ _ hAb rfl).2
  dsimp only at hown
  refine A3s (sh:=C2) (n:=br.length) (c:=1) (.tmp 94) (.tmp 97) 41 (by rfl) 3 i0 (.int .i64 0) 8 Tryz.underlying41 hi hz0 hz1 hz2 rfl (by decide) (ok:=fun b=>¬(M b∨H b)) (base:=R) (by rfl) hown (fun k hk hi=>hAb.im k hi (hAb.mb s hsn k hk)) (by rfl) hsrc (by simp only [maxLen];omega) (by omega) (by omega) ?_
  intro ao cap wy ho hg hd
  simp only [Act.put,St.tA,St.tD,St.tE,St.tS,St.tC,St.tZ]
  have hlen:br.length+1=(br++[o.num]).length:=by simp
  obtain ⟨hAc,hFc⟩:=hAb.pushBack hsn hlen ho hg hd
  clear hlen
  have hne:∀ {b:Nat} {cs:Array Value} {σ:TypeId},A6 wx b σ cs→3≠σ→some b≠Go.St.blk (V.fb s).1:=fun hb hσ e=>(hown.noType hb hσ) e.symm
  have hXy:=hXb.grown hg (hne hXb (by decide))
  have hRy:=hAb.box.grown hg (hne hAb.box (by decide))
  have hOy:=hAb.bks.blk.grown hg (hne hAb.bks.blk (by decide))
  have hSy:SQ4 R 11 V.bb s w.heap.size 1 (.slice (some ⟨V.bb,0,none⟩) N N) (.slice (V.fb s).1 br.length (V.fb s).2) (.int .i64 o.num) wy:=⟨hRy.cells.1 11,by have e:=(HBR.out _ _ _ _ _ hAb rfl).1;dsimp only at e;rw [←e,hOy.cells.1,←hAb.bks.blk.cells.1],hXy.cells.1 1⟩
  have hoy:=hOy.lt
  have hofz:=hOy.cells.2
  have ho10:=hSy.2.1
  have q1:∀ b,(¬(M b∨H b)∧b<wx.heap.size)→¬(M b∨Go.St.blk ao=some b):=hAc.im
  have q3:∀ b,(M b∨Go.St.blk ao=some b)→M b∨w.heap.size≤b:=fun b hb=>by
   rcases hb with h1|h1
   ·exact .inl h1
   ·rcases hd with h2|h2
    ·exact .inl (hAb.mb s hsn b (by show Go.St.blk (V.fb s).1=some b;rw [←h2];exact h1))
    ·rw [h2] at h1
     have h3:wx.heap.size=b:=by simpa using h1
     exact .inr (by omega)
  have q2:=(hF12.trans (Frm.of hb4 (by omega))).trans (hFc.weak (V:=fun b=>¬M b∧b<w.heap.size) (fun b _ hb=>.inl hb.1) (Nat.le_refl _))
  have hAd:=hAc.sub (I':=fun b=>¬(M b∨H b)∧b<(wy.setCell ⟨V.bb,s,none⟩ (.slice ao (br.length+1) cap)).heap.size∧¬(M b∨Go.St.blk ao=some b)) (fun b hl hb=>⟨hb.1,hl,hAc.im b hb⟩) (fun b hb=>hb.2.2)
  refine hK17 _ _ (fun _=>hSy) ?_
  clear hK17
  refine A7 (i:=18) rfl (by kernel_rfl) (by kernel_rfl) fun K18 hK18=>?_
  go_simp
  go_wp2_with fail
  refine hK18 _ _ (fun _=>hSy) ?_
  clear hK18
  refine A7 (i:=19) rfl (by kernel_rfl) (by kernel_rfl) fun K19 hK19=>?_
  go_simp
  go_wp2_with fail
  refine hK19 _ _ (fun h=>absurd rfl h) ?_
  clear hK19
  refine B5 (by kernel_rfl) ?_ _
  refine hR _ _ ?_
  iterate 19 apply Exists.intro
  refine ⟨?_,⟨_,_,hAd,q2,q3⟩⟩
  simp only [C8,Act.put,St.tS,St.tC,St.tZ]
  rfl
 rintro a' w8 ⟨v81,v82,v83,v84,v85,v86,v87,v88,v89,v90,v91,v92,v93,v94,v95,v96,v97,v98,v99,rfl,hb8⟩
 simp only [C8,Act.put,St.tS,St.tC,St.tZ]
 obtain ⟨M3,V3,hA13,hF13,hM3⟩:=hb8
 have hO:F6 H M lka lkc R N t w {n with orders:=n.orders.set s r,switches:=n.switches.set s ns,backs:=n.backs.modify s (·++[o.num])} w8:=by
  rw [HMOD.out]
  exact ⟨M3,V3,hA13.wideH (fun b _ hb hh=>by first|exact hb (.inr hh)|exact hb.1 (.inr hh)|exact hb.2.2 (.inr hh)|(have:=hH b hh;omega)),hF13.weak (fun b hb hm=>.inl ⟨hm,hb⟩) (Nat.le_refl _),hM3⟩
 clear hA13 hF13 hM3 hA11 hX11 hF12 hS0
 go_wp2
 go_ret;rw [HE1.out];exact ⟨rfl,hO⟩
end Go.Proofs.YtampcbncgofkoaaGreatDoor
