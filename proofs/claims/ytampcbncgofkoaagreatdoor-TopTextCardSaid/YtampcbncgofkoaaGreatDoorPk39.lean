/- Texts of this proof, one behind the other. -/
import Derived.Test.YtampcbncgofkoaaGreatDoorPk38
set_option linter.unusedSimpArgs false
set_option linter.unusedVariables false
set_option maxRecDepth 100000
set_option maxHeartbeats 16000000
namespace Go.St
open Go.RowKit
def T3 {α:Type} (sh:D1 α) (τ:TypeId) (ok:Nat→Prop) (w:World) (b N:Nat) (rows:List (List α)):Prop:=
 ∃ g:Nat→Option Addr × Nat,A6 w b τ (N7 N g fun i=>(rows.getD i []).length)∧∀ i,i<N→A8 sh ok w (g i).1 (g i).2 (rows.getD i [])
section
variable {α : Type} {sh : D1 α} {τ : TypeId} {ok ok' : Nat → Prop} {w w' : World} {b N : Nat} {rows : List (List α)}
theorem T3.cell (h:T3 sh τ ok w b N rows) {i:Nat} (hi:i<N):∃ a c,w.cell? ⟨b,i,none⟩=some (.slice a (rows.getD i []).length c)∧A8 sh ok w a c (rows.getD i []):=by
 obtain ⟨g,h1,h2⟩:=h
 exact ⟨_,_,by rw [h1.cells.1];exact X4 hi,h2 i hi⟩
theorem T3.lt (h:T3 sh τ ok w b N rows):b<w.heap.size:=by obtain ⟨g,h1,_⟩:=h;exact h1.lt
theorem T3.free (h:T3 sh τ ok w b N rows):∀ o,w.frozen? ⟨b,o,none⟩=false:=by obtain ⟨g,h1,_⟩:=h;exact h1.cells.2
theorem T3.frm {W:Nat→Prop} {B:Nat} (h:T3 sh τ ok w b N rows) (F:Frm W B w w') (hb:W b∨b<B) (hW:∀ k,k<w.heap.size→ok k→W k∨k<B):T3 sh τ ok w' b N rows:=by
 obtain ⟨g,h1,h2⟩:=h
 refine ⟨g,F.blk h1 hb,fun i hi=>(h2 i hi).mono fun k hk ho=>⟨ho,?_⟩⟩
 rcases hW k hk ho with h3|h3
 ·exact F.keep k hk h3
 ·exact F.below.block k h3
theorem T3.put (h:T3 sh τ ok w b N rows) {i:Nat} (hi:i<N) {a:Option Addr} {c:Nat} (hr:A8 sh ok w a c (rows.getD i [])) (hb:¬ok b):T3 sh τ ok (w.setCell ⟨b,i,none⟩ (.slice a (rows.getD i []).length c)) b N rows:=by
 obtain ⟨g,h1,h2⟩:=h
 have hk:∀ {a:Option Addr} {c:Nat} {l:List α},A8 sh ok w a c l→A8 sh ok (w.setCell ⟨b,i,none⟩ (.slice a (rows.getD i []).length c)) a c l:=fun h=>h.mono fun k _ ho=>⟨ho,Below.heap_setCell _ _ _ _ (fun e=>hb (by have e1:k=b:=e;rw [←e1];exact ho))⟩
 have hk2:∀ {a2:Option Addr} {c2:Nat} {l:List α},A8 sh ok w a2 c2 l→A8 sh ok (w.setCell ⟨b,i,none⟩ (.slice a (rows.getD i []).length c)) a2 c2 l:=fun h=>h.mono fun k _ ho=>⟨ho,Below.heap_setCell _ _ _ _ (fun e=>hb (by have e1:k=b:=e;rw [←e1];exact ho))⟩
 refine ⟨upd g i (a,c),?_,fun j hj=>?_⟩
 ·have:=h1.set i (.slice a (rows.getD i []).length c)
  rw [A3a hi] at this
  rw [T7 (f:=upd g i (a,c)) (len':=upd (fun i=>(rows.getD i []).length) i (rows.getD i []).length) (fun j hj=>by
   by_cases e:j=i
   ·subst e;rw [C10]
   ·rw [O9 _ _ e])]
  exact this
 ·by_cases e:j=i
  ·subst e;rw [C10];exact hk2 hr
  ·rw [O9 _ _ e];exact hk2 (h2 j hj)
theorem T3.row (h:T3 sh τ ok w b N rows) (hl:rows.length=N) (hm:N≤maxLen):A8 (F7 sh) (fun _=>True) w (some ⟨b,0,none⟩) N rows:=by
  obtain ⟨g,h1,h2⟩:=h
  refine ⟨by omega,hm,.inr ⟨b,0,rfl,trivial,h1.lt,fun i x hx=>?_⟩⟩
  have hi:i<N:=by rw [←hl];exact (List.getElem?_eq_some_iff.1 hx).1
  have hxe:rows.getD i []=x:=by rw [List.getD_eq_getElem?_getD,hx];rfl
  refine ⟨_,⟨(g i).1,(g i).2,rfl,(h2 i hi).anyOk (fun _ _ _=>trivial)|>fun h=>by rwa [hxe] at h⟩,fun j c hc=>?_⟩
  have hs1:(F7 sh).size=1:=rfl
  match j,hc with
  |0,hc=>
    obtain rfl:c=_:=by simpa using hc.symm
    rw [hs1,Nat.zero_add,Nat.mul_one,Nat.add_zero,h1.cells.1,X4 hi,hxe]
  |j+1,hc=>simp at hc
theorem T3.row' (h:T3 sh τ ok w b N rows) (hl:rows.length=N) (hm:N≤maxLen) (hk:∀ k,k<w.heap.size→ok k→ok' k) (hb':ok' b):A8 (F7 sh) ok' w (some ⟨b,0,none⟩) N rows:=by
  obtain ⟨g,h1,h2⟩:=h
  refine ⟨by omega,hm,.inr ⟨b,0,rfl,hb',h1.lt,fun i x hx=>?_⟩⟩
  have hi:i<N:=by rw [←hl];exact (List.getElem?_eq_some_iff.1 hx).1
  have hxe:rows.getD i []=x:=by rw [List.getD_eq_getElem?_getD,hx];rfl
  refine ⟨_,⟨(g i).1,(g i).2,rfl,(h2 i hi).anyOk hk|>fun h=>by rwa [hxe] at h⟩,fun j c hc=>?_⟩
  have hs1:(F7 sh).size=1:=rfl
  match j,hc with
  |0,hc=>
    obtain rfl:c=_:=by simpa using hc.symm
    rw [hs1,Nat.zero_add,Nat.mul_one,Nat.add_zero,h1.cells.1,X4 hi,hxe]
  |j+1,hc=>simp at hc
end
def A1d (w:World):Prop:=True
end Go.St
namespace Go.Proofs.YtampcbncgofkoaaGreatDoor
open Go.RowKit Go.St
structure A80 (ok:Nat→Prop) (N:Nat) (w:World) (n:Net) (V:RV):Prop where
 st:I64 n.ctl.stage
 nu:I64 n.ctl.num
 now:B7 w ok V.n0 V.n1 V.n2 n.ctl.now
 next:B7 w ok V.x0 V.x1 V.x2 n.ctl.next
 wts:A8 C2 ok w V.qa V.qc n.ctl.waits
 sws:A8 E8 ok w (some ⟨V.sb,0,none⟩) N n.switches
 pks:A8 K0 ok w V.pa V.pc n.packets
 pls:A8 C3 ok w V.la V.lc n.plans
theorem A80.frm {ok:Nat→Prop} {N:Nat} {w w':World} {n:Net} {V:RV} {W:Nat→Prop} {B:Nat} (h:A80 ok N w n V) (F:Frm W B w w') (hW:∀ k,k<w.heap.size→ok k→W k∨k<B):A80 ok N w' n V:=by
 have hk:∀ k,k<w.heap.size→ok k→ok k∧w'.heap[k]? =w.heap[k]? :=fun k hl ho=>⟨ho,by
  rcases hW k hl ho with h3|h3
  ·exact F.keep k hl h3
  ·exact F.below.block k h3⟩
 exact ⟨h.st,h.nu,C3.mono h.now hk,C3.mono h.next hk,h.wts.mono hk,h.sws.mono hk,h.pks.mono hk,h.pls.mono hk⟩
theorem B05 {w:World} {b:Nat} {τ:TypeId} {c0 c1 c2 c3 c4 c5 c6 c7 c8 c9 c10 c11 c12 c13:Value} (h:A6 w b τ #[c0,c1,c2,c3,c4,c5,c6,c7,c8,c9,c10,c11,c12,c13]) (W:Nat→Prop) (B:Nat) (ha:¬W b) (hB:B≤b) (v0 v1 v2 v3 v4 v5 v6 v7 v8 v9 v10 v11 v12 v13:Value):
  A6 ((((((((((((((w.setCell ⟨b,0,none⟩ v0).setCell ⟨b,1,none⟩ v1).setCell ⟨b,2,none⟩ v2).setCell ⟨b,3,none⟩ v3).setCell ⟨b,4,none⟩ v4).setCell ⟨b,5,none⟩ v5).setCell ⟨b,6,none⟩ v6).setCell ⟨b,7,none⟩ v7).setCell ⟨b,8,none⟩ v8).setCell ⟨b,9,none⟩ v9).setCell ⟨b,10,none⟩ v10).setCell ⟨b,11,none⟩ v11).setCell ⟨b,12,none⟩ v12).setCell ⟨b,13,none⟩ v13) b τ #[v0,v1,v2,v3,v4,v5,v6,v7,v8,v9,v10,v11,v12,v13]∧Frm W B w ((((((((((((((w.setCell ⟨b,0,none⟩ v0).setCell ⟨b,1,none⟩ v1).setCell ⟨b,2,none⟩ v2).setCell ⟨b,3,none⟩ v3).setCell ⟨b,4,none⟩ v4).setCell ⟨b,5,none⟩ v5).setCell ⟨b,6,none⟩ v6).setCell ⟨b,7,none⟩ v7).setCell ⟨b,8,none⟩ v8).setCell ⟨b,9,none⟩ v9).setCell ⟨b,10,none⟩ v10).setCell ⟨b,11,none⟩ v11).setCell ⟨b,12,none⟩ v12).setCell ⟨b,13,none⟩ v13):=by
 have h9:=((((((((((((((h.set 0 v0).set 1 v1).set 2 v2).set 3 v3).set 4 v4).set 5 v5).set 6 v6).set 7 v7).set 8 v8).set 9 v9).set 10 v10).set 11 v11).set 12 v12).set 13 v13)
 simp only [St.tS,St.tC,St.tZ] at h9
 exact ⟨h9,((((((((((((((Frm.set (a:=⟨b,0,none⟩) ha hB v0).trans (Frm.set (a:=⟨b,1,none⟩) ha hB v1)).trans (Frm.set (a:=⟨b,2,none⟩) ha hB v2)).trans (Frm.set (a:=⟨b,3,none⟩) ha hB v3)).trans (Frm.set (a:=⟨b,4,none⟩) ha hB v4)).trans (Frm.set (a:=⟨b,5,none⟩) ha hB v5)).trans (Frm.set (a:=⟨b,6,none⟩) ha hB v6)).trans (Frm.set (a:=⟨b,7,none⟩) ha hB v7)).trans (Frm.set (a:=⟨b,8,none⟩) ha hB v8)).trans (Frm.set (a:=⟨b,9,none⟩) ha hB v9)).trans (Frm.set (a:=⟨b,10,none⟩) ha hB v10)).trans (Frm.set (a:=⟨b,11,none⟩) ha hB v11)).trans (Frm.set (a:=⟨b,12,none⟩) ha hB v12)).trans (Frm.set (a:=⟨b,13,none⟩) ha hB v13))⟩
theorem B26 {ok:Nat→Prop} {i:Nat} {wk:World} {n:Net} {V:RV} {R b B:Nat} {ap:Option Addr} {cp kk:Nat} (hI:A80 ok i wk n V) (hO:T3 E3 76 ok wk V.ob i n.orders) (hB:T3 C2 41 ok wk V.bb i n.backs)
  {wz:World} (hF:Frm (fun k=>k≠b∧k≠b+1) R wk wz) (hXl:b<wk.heap.size) (hR:R≤b) (hrow:A8 C3 (fun k=>B≤k) wk ap cp n.plans) (hBb:b+2≤B) (hoL:n.orders.length=i) (hbL:n.backs.length=i) (hsL:n.switches.length=i) (hN:i≤maxLen) (hk:kk=n.plans.length) (hob:V.ob<b) (hbb:V.bb<b) (hok:∀ k,ok k→k≠b∧k≠b+1) {Y:Nat→Prop} (hok2:∀ k,ok k→¬Y k) (k1:∀ k,B≤k→¬Y k) (k3:¬Y V.ob) (k5:¬Y V.bb):
  A0g.rep (fun k=>¬Y k) wz [.int .i64 n.ctl.stage,V.n0,V.n1,V.n2,V.x0,V.x1,V.x2,.int .i64 n.ctl.num,.slice V.qa n.ctl.waits.length V.qc,.slice (some ⟨V.sb,0,none⟩) i i,.slice (some ⟨V.ob,0,none⟩) i i,.slice (some ⟨V.bb,0,none⟩) i i,.slice V.pa n.packets.length V.pc,.slice ap kk cp] n:=by
 have hIz:=hI.frm hF (fun _ _ ho=>.inl (hok _ ho))
 have hOz:=hO.frm hF (.inl ⟨by omega,by omega⟩) (fun _ _ ho=>.inl (hok _ ho))
 have hBz:=hB.frm hF (.inl ⟨by omega,by omega⟩) (fun _ _ ho=>.inl (hok _ ho))
 have hrz:A8 C3 (fun k=>B≤k) wz ap cp n.plans:=hrow.mono fun k hb ho=>⟨ho,hF.keep k hb ⟨by have h9:B≤k:=ho;omega,by have h9:B≤k:=ho;omega⟩⟩
 have h1:P3.rep (fun k=>¬Y k) wz [.int .i64 n.ctl.stage,V.n0,V.n1,V.n2,V.x0,V.x1,V.x2,.int .i64 n.ctl.num,.slice V.qa n.ctl.waits.length V.qc] n.ctl:=P3.mk_ hIz.st hIz.nu (C3.anyOk hIz.now fun _ _ h=>hok2 _ h) (C3.anyOk hIz.next fun _ _ h=>hok2 _ h) (hIz.wts.anyOk fun _ _ h=>hok2 _ h)
 have h2:=hIz.sws.anyOk (ok':=fun k=>¬Y k) (fun _ _ h=>hok2 _ h)
 have h3:=hIz.pks.anyOk (ok':=fun k=>¬Y k) (fun _ _ h=>hok2 _ h)
 have h4:=hrz.anyOk (ok':=fun k=>¬Y k) (fun b _ h=>k1 b h)
 exact ⟨[.int .i64 n.ctl.stage,V.n0,V.n1,V.n2,V.x0,V.x1,V.x2,.int .i64 n.ctl.num,.slice V.qa n.ctl.waits.length V.qc],_,_,_,_,_,_,_,_,_,_,by rw [hoL,hbL,hsL,←hk];rfl,h1,h2,hOz.row' hoL hN (fun k _ h=>hok2 k h) k3,hBz.row' hbL hN (fun k _ h=>hok2 k h) k5,h3,h4⟩
theorem B2h {ok:Nat→Prop} {i:Nat} {wk:World} {n:Net} {V:RV} {R b B:Nat} {ap:Option Addr} {cp kk:Nat} (hI:A80 ok i wk n V) (hO:T3 E3 76 ok wk V.ob i n.orders) (hB:T3 C2 41 ok wk V.bb i n.backs)
  (hZ:A6 wk (b+1) 50 #[.int .i64 0,.int .i64 0,.slice none 0 0,.slice none 0 0,.int .i64 0,.slice none 0 0,.slice none 0 0,.int .i64 0,.slice none 0 0,.slice none 0 0,.slice none 0 0,.slice none 0 0,.slice none 0 0,.slice none 0 0]) (hXl:b<wk.heap.size) (hR:R≤b) (hrow:A8 C3 (fun k=>B≤k) wk ap cp n.plans) (hBb:b+2≤B) (hoL:n.orders.length=i) (hbL:n.backs.length=i) (hsL:n.switches.length=i) (hN:i≤maxLen) (hk:kk=n.plans.length) (hob:V.ob<b) (hbb:V.bb<b) (hok:∀ k,ok k→k≠b∧k≠b+1) {Y:Nat→Prop} (hok2:∀ k,ok k→¬Y k) (k1:∀ k,B≤k→¬Y k) (k3:¬Y V.ob) (k5:¬Y V.bb):
  ∃ wz,wz=(((((((((((((((wk.setCell ⟨b,13,none⟩ (.slice ap kk cp)).setCell ⟨b+1,0,none⟩ (.int .i64 n.ctl.stage)).setCell ⟨b+1,1,none⟩ (V.n0)).setCell ⟨b+1,2,none⟩ (V.n1)).setCell ⟨b+1,3,none⟩ (V.n2)).setCell ⟨b+1,4,none⟩ (V.x0)).setCell ⟨b+1,5,none⟩ (V.x1)).setCell ⟨b+1,6,none⟩ (V.x2)).setCell ⟨b+1,7,none⟩ (.int .i64 n.ctl.num)).setCell ⟨b+1,8,none⟩ (.slice V.qa n.ctl.waits.length V.qc)).setCell ⟨b+1,9,none⟩ (.slice (some ⟨V.sb,0,none⟩) i i)).setCell ⟨b+1,10,none⟩ (.slice (some ⟨V.ob,0,none⟩) i i)).setCell ⟨b+1,11,none⟩ (.slice (some ⟨V.bb,0,none⟩) i i)).setCell ⟨b+1,12,none⟩ (.slice V.pa n.packets.length V.pc)).setCell ⟨b+1,13,none⟩ (.slice ap kk cp))∧A6 wz (b+1) 50 #[.int .i64 n.ctl.stage,V.n0,V.n1,V.n2,V.x0,V.x1,V.x2,.int .i64 n.ctl.num,.slice V.qa n.ctl.waits.length V.qc,.slice (some ⟨V.sb,0,none⟩) i i,.slice (some ⟨V.ob,0,none⟩) i i,.slice (some ⟨V.bb,0,none⟩) i i,.slice V.pa n.packets.length V.pc,.slice ap kk cp]∧A0g.rep (fun k=>¬Y k) wz [.int .i64 n.ctl.stage,V.n0,V.n1,V.n2,V.x0,V.x1,V.x2,.int .i64 n.ctl.num,.slice V.qa n.ctl.waits.length V.qc,.slice (some ⟨V.sb,0,none⟩) i i,.slice (some ⟨V.ob,0,none⟩) i i,.slice (some ⟨V.bb,0,none⟩) i i,.slice V.pa n.packets.length V.pc,.slice ap kk cp] n∧Frm (fun k=>k≠b∧k≠b+1) R wk wz:=by
 have hG:=B05 (hZ.setOther (a:=⟨b,13,none⟩) (by first|(simp;done)|(simp;omega)) (.slice ap kk cp)) (fun k=>k≠b+1) R (fun h=>h rfl) (by omega) (.int .i64 n.ctl.stage) (V.n0) (V.n1) (V.n2) (V.x0) (V.x1) (V.x2) (.int .i64 n.ctl.num) (.slice V.qa n.ctl.waits.length V.qc) (.slice (some ⟨V.sb,0,none⟩) i i) (.slice (some ⟨V.ob,0,none⟩) i i) (.slice (some ⟨V.bb,0,none⟩) i i) (.slice V.pa n.packets.length V.pc) (.slice ap kk cp)
 have hF:=(Frm.set (W:=fun k=>k≠b∧k≠b+1) (w:=wk) (a:=⟨b,13,none⟩) (fun h=>h.1 rfl) (by show R≤b;omega) (.slice ap kk cp)).trans (hG.2.weak (fun _ _ h=>.inl h.2) (Nat.le_refl _))
 exact ⟨_,rfl,hG.1,B26 (b:=b) hI hO hB hF hXl hR hrow hBb hoL hbL hsL hN hk hob hbb hok hok2 k1 k3 k5,hF⟩
theorem B5h (H M Y:Nat→Prop) (lka:Option Addr) (lkc R N:Nat) (t:C5) (k:Nat) (n:Net) (V:RV) (w:World) (h:C9 (fun b=>¬(M b∨H b)) M lka lkc R N t w n V) (hf:F4 t k n) (hk:k≤1000) (hN:N≤8) (hY:∀ b,Y b→b<R) (hYH:∀ b,Y b→H b):
  Calls Tryz.prog 18 #[.agg #[.int .i64 n.ctl.stage,V.n0,V.n1,V.n2,V.x0,V.x1,V.x2,.int .i64 n.ctl.num,.slice V.qa n.ctl.waits.length V.qc,.slice (some ⟨V.sb,0,none⟩) N N,.slice (some ⟨V.ob,0,none⟩) N N,.slice (some ⟨V.bb,0,none⟩) N N,.slice V.pa n.packets.length V.pc,.slice V.la n.plans.length V.lc]] w fun e w'=>∃ cs:List Value,e=.returned (.agg cs.toArray)∧A0g.rep (fun b=>¬Y b) w' cs n∧Frm (fun b=>¬M b) R w w':=by
 have hR8:=h.size
 have hMO9:=h.mO
 have hnew:∀ b,w.heap.size+2≤b→b≠V.ob∧b≠V.bb∧b≠w.heap.size∧b≠w.heap.size+1∧¬Y b:=fun b hb=>by
  have h1:=(h.rng _ h.mO).2
  have h2:=(h.rng _ h.mB).2
  exact ⟨by omega,by omega,by omega,by omega,fun hy=>by have:=hY b hy;have:=h.size;omega⟩
 have hMB9:=h.mB
 have hsR9:R≤V.sb:=(h.rng _ h.mS).1
 have hMl:∀ b,M b→b<w.heap.size:=fun b hb=>(h.rng b hb).2
 have hMR:∀ b,M b→R≤b:=fun b hb=>(h.rng b hb).1
 have hnOB:V.ob≠V.bb:=(h.far h.ords.blk).2.2.2.1 (by decide)
 have hb2:Below w.heap.size w ((w.alloc (.cells #[.int .i64 n.ctl.stage,V.n0,V.n1,V.n2,V.x0,V.x1,V.x2,.int .i64 n.ctl.num,.slice V.qa n.ctl.waits.length V.qc,.slice (some ⟨V.sb,0,none⟩) N N,.slice (some ⟨V.ob,0,none⟩) N N,.slice (some ⟨V.bb,0,none⟩) N N,.slice V.pa n.packets.length V.pc,.slice V.la n.plans.length V.lc] 50)).alloc (.cells #[.int .i64 0,.int .i64 0,.slice none 0 0,.slice none 0 0,.int .i64 0,.slice none 0 0,.slice none 0 0,.int .i64 0,.slice none 0 0,.slice none 0 0,.slice none 0 0,.slice none 0 0,.slice none 0 0,.slice none 0 0] 50)):=A1t _ _ _
 have hno:∀ b,b<w.heap.size→¬(M b∨H b)→b≠V.ob∧b≠V.bb∧b≠w.heap.size∧b≠w.heap.size+1∧¬Y b:=fun b hl hb=>⟨fun e=>hb (.inl (e▸h.mO)),fun e=>hb (.inl (e▸h.mB)),by omega,by omega,fun hy=>hb (.inr (hYH b hy))⟩
 have hfar:∀ {b:Nat} {cur:Array Value} {σ:TypeId} {fr:Nat × Nat},R≤b→w.heap[b]? =some (.cells cur σ fr)→76≠σ→41≠σ→b≠V.ob∧b≠V.bb∧b≠w.heap.size∧b≠w.heap.size+1∧¬Y b:=fun {b cur σ fr} hRb hb h1 h2=>by
  have:=h.far hb
  have hl:b<w.heap.size:=(Array.getElem?_eq_some_iff.1 hb).1
  exact ⟨this.2.2.1 h1,this.2.2.2.1 h2,by omega,by omega,fun hy=>by have:=hY b hy;omega⟩
 have hI:A80 (fun b=>b≠V.ob∧b≠V.bb∧b≠w.heap.size∧b≠w.heap.size+1∧¬Y b) N w n V:=by
  have hm:∀ k,k<w.heap.size→¬(M k∨H k)→(k≠V.ob∧k≠V.bb∧k≠w.heap.size∧k≠w.heap.size+1∧¬Y k)∧w.heap[k]? =w.heap[k]? :=fun k hl hk=>⟨hno k hl hk,rfl⟩
  have h':=h.here
  refine ⟨h.st,h.nu,C3.mono h.now hm,C3.mono h.next hm,h.wts.mono hm,h'.sws.row (fun b hb=>hno b hb.2 hb.1) (fun k hk=>?_),h'.pks.row (fun b hb=>hno b hb.2 hb.1) (fun k hk=>?_),h'.pls.row (fun b hb=>hno b hb.2 hb.1) (fun k hk=>?_)⟩
  ·obtain ⟨cur,hc⟩:=h.sws.has hk;exact hfar (h.sws.lt k hk).1 hc (by decide) (by decide)
  ·obtain ⟨cur,hc⟩:=h.pks.has hk;exact hfar (h.pks.lt k hk).1 hc (by decide) (by decide)
  ·obtain ⟨cur,hc⟩:=h.pls.has hk;exact hfar (h.pls.lt k hk).1 hc (by decide) (by decide)
 have hO:T3 E3 76 (fun b=>b≠V.ob∧b≠V.bb∧b≠w.heap.size∧b≠w.heap.size+1∧¬Y b) w V.ob N n.orders:=by
  have h':=h.here
  exact ⟨V.fo,h.ords.blk,fun i hi=>(h'.ords.own i hi).row (fun b hb=>hno b hb.2 hb.1) (fun k hk=>let ⟨cur,hc⟩:=(h.ords.own i hi).has hk;hfar ((h.ords.own i hi).lt k hk).1 hc (by decide) (by decide))⟩
 have hBk:T3 C2 41 (fun b=>b≠V.ob∧b≠V.bb∧b≠w.heap.size∧b≠w.heap.size+1∧¬Y b) w V.bb N n.backs:=by
  have h':=h.here
  exact ⟨V.fb,h.bks.blk,fun i hi=>(h'.bks.own i hi).row (fun b hb=>hno b hb.2 hb.1) (fun k hk=>let ⟨cur,hc⟩:=(h.bks.own i hi).has hk;hfar ((h.bks.own i hi).lt k hk).1 hc (by decide) (by decide))⟩
 have hRob:R≤V.ob:=hMR _ h.mO
 have hRbb:R≤V.bb:=hMR _ h.mB
 have hoL:=h.ords.len
 have hswl:n.switches.length=N:=by rw [hf.sw,h.tn];omega
 have hbL:=h.bks.len
 have hord:∀ i,i<N→n.orders.getD i []∈n.orders:=fun i hi=>by rw [List.getD_eq_getElem?_getD,List.getElem?_eq_getElem (by rw [hoL];exact hi)];exact List.getElem_mem _
 have hbak:∀ i,i<N→n.backs.getD i []∈n.backs:=fun i hi=>by rw [List.getD_eq_getElem?_getD,List.getElem?_eq_getElem (by rw [hbL];exact hi)];exact List.getElem_mem _
 have hofit:∀ i,i<N→(n.orders.getD i []).length≤100000∧∀ o∈n.orders.getD i [],Z4 t o:=fun i hi=>⟨by have:=(hf.ord _ (hord i hi)).1;omega,(hf.ord _ (hord i hi)).2⟩
 have hbfit:∀ i,i<N→(n.backs.getD i []).length≤100000:=fun i hi=>by have:=hf.back _ (hbak i hi);omega
 have hX:A6 ((w.alloc (.cells #[.int .i64 n.ctl.stage,V.n0,V.n1,V.n2,V.x0,V.x1,V.x2,.int .i64 n.ctl.num,.slice V.qa n.ctl.waits.length V.qc,.slice (some ⟨V.sb,0,none⟩) N N,.slice (some ⟨V.ob,0,none⟩) N N,.slice (some ⟨V.bb,0,none⟩) N N,.slice V.pa n.packets.length V.pc,.slice V.la n.plans.length V.lc] 50)).alloc (.cells #[.int .i64 0,.int .i64 0,.slice none 0 0,.slice none 0 0,.int .i64 0,.slice none 0 0,.slice none 0 0,.int .i64 0,.slice none 0 0,.slice none 0 0,.slice none 0 0,.slice none 0 0,.slice none 0 0,.slice none 0 0] 50)) w.heap.size 50 #[.int .i64 n.ctl.stage,V.n0,V.n1,V.n2,V.x0,V.x1,V.x2,.int .i64 n.ctl.num,.slice V.qa n.ctl.waits.length V.qc,.slice (some ⟨V.sb,0,none⟩) N N,.slice (some ⟨V.ob,0,none⟩) N N,.slice (some ⟨V.bb,0,none⟩) N N,.slice V.pa n.packets.length V.pc,.slice V.la n.plans.length V.lc]:=(A6.new rfl).alloc _
 have hZ:A6 ((w.alloc (.cells #[.int .i64 n.ctl.stage,V.n0,V.n1,V.n2,V.x0,V.x1,V.x2,.int .i64 n.ctl.num,.slice V.qa n.ctl.waits.length V.qc,.slice (some ⟨V.sb,0,none⟩) N N,.slice (some ⟨V.ob,0,none⟩) N N,.slice (some ⟨V.bb,0,none⟩) N N,.slice V.pa n.packets.length V.pc,.slice V.la n.plans.length V.lc] 50)).alloc (.cells #[.int .i64 0,.int .i64 0,.slice none 0 0,.slice none 0 0,.int .i64 0,.slice none 0 0,.slice none 0 0,.int .i64 0,.slice none 0 0,.slice none 0 0,.slice none 0 0,.slice none 0 0,.slice none 0 0,.slice none 0 0] 50)) (w.heap.size+1) 50 #[.int .i64 0,.int .i64 0,.slice none 0 0,.slice none 0 0,.int .i64 0,.slice none 0 0,.slice none 0 0,.int .i64 0,.slice none 0 0,.slice none 0 0,.slice none 0 0,.slice none 0 0,.slice none 0 0,.slice none 0 0]:=A6.new (by simp)
 have hF2:Frm (fun _=>True) R w ((w.alloc (.cells #[.int .i64 n.ctl.stage,V.n0,V.n1,V.n2,V.x0,V.x1,V.x2,.int .i64 n.ctl.num,.slice V.qa n.ctl.waits.length V.qc,.slice (some ⟨V.sb,0,none⟩) N N,.slice (some ⟨V.ob,0,none⟩) N N,.slice (some ⟨V.bb,0,none⟩) N N,.slice V.pa n.packets.length V.pc,.slice V.la n.plans.length V.lc] 50)).alloc (.cells #[.int .i64 0,.int .i64 0,.slice none 0 0,.slice none 0 0,.int .i64 0,.slice none 0 0,.slice none 0 0,.int .i64 0,.slice none 0 0,.slice none 0 0,.slice none 0 0,.slice none 0 0,.slice none 0 0,.slice none 0 0] 50)):=Frm.of hb2 hR8
 have hI2:=hI.frm hF2 (fun _ _ _=>.inl trivial)
 have hO2:=hO.frm hF2 (.inl trivial) (fun _ _ _=>.inl trivial)
 have hB2:=hBk.frm hF2 (.inl trivial) (fun _ _ _=>.inl trivial)
 have hs2:((w.alloc (.cells #[.int .i64 n.ctl.stage,V.n0,V.n1,V.n2,V.x0,V.x1,V.x2,.int .i64 n.ctl.num,.slice V.qa n.ctl.waits.length V.qc,.slice (some ⟨V.sb,0,none⟩) N N,.slice (some ⟨V.ob,0,none⟩) N N,.slice (some ⟨V.bb,0,none⟩) N N,.slice V.pa n.packets.length V.pc,.slice V.la n.plans.length V.lc] 50)).alloc (.cells #[.int .i64 0,.int .i64 0,.slice none 0 0,.slice none 0 0,.int .i64 0,.slice none 0 0,.slice none 0 0,.int .i64 0,.slice none 0 0,.slice none 0 0,.slice none 0 0,.slice none 0 0,.slice none 0 0,.slice none 0 0] 50)).heap.size=w.heap.size+2:=by simp
 have hBl2:Frm (fun b=>(b≠V.ob∧b≠V.bb)∧b<w.heap.size) R w ((w.alloc (.cells #[.int .i64 n.ctl.stage,V.n0,V.n1,V.n2,V.x0,V.x1,V.x2,.int .i64 n.ctl.num,.slice V.qa n.ctl.waits.length V.qc,.slice (some ⟨V.sb,0,none⟩) N N,.slice (some ⟨V.ob,0,none⟩) N N,.slice (some ⟨V.bb,0,none⟩) N N,.slice V.pa n.packets.length V.pc,.slice V.la n.plans.length V.lc] 50)).alloc (.cells #[.int .i64 0,.int .i64 0,.slice none 0 0,.slice none 0 0,.int .i64 0,.slice none 0 0,.slice none 0 0,.int .i64 0,.slice none 0 0,.slice none 0 0,.slice none 0 0,.slice none 0 0,.slice none 0 0,.slice none 0 0] 50)):=hF2.weak (fun _ _ _=>.inl trivial) (Nat.le_refl _)
 have hobl:V.ob<w.heap.size:=hMl _ h.mO
 have hbbl:V.bb<w.heap.size:=hMl _ h.mB
 have HSL:=Lib.hid (show n.switches.length=N from hswl)
 have hN9:N≤maxLen:=by simp only [maxLen];omega
 have HOF:=Lib.hid hofit
 have HBF:=Lib.hid hbfit
 have HOR:=Lib.hid hord
 have hpl:=hf.pl
 have hpn:=hf.pn
 clear h hI hO hBk hno hfar hb2 hF2 hofit hbfit hord hbak
 go_enter Tryz.func18,Tryz.ntmps18
 go_upto_region 1 with fail
 generalize ((w.alloc (.cells #[.int .i64 n.ctl.stage,V.n0,V.n1,V.n2,V.x0,V.x1,V.x2,.int .i64 n.ctl.num,.slice V.qa n.ctl.waits.length V.qc,.slice (some ⟨V.sb,0,none⟩) N N,.slice (some ⟨V.ob,0,none⟩) N N,.slice (some ⟨V.bb,0,none⟩) N N,.slice V.pa n.packets.length V.pc,.slice V.la n.plans.length V.lc] 50)).alloc (.cells #[.int .i64 0,.int .i64 0,.slice none 0 0,.slice none 0 0,.int .i64 0,.slice none 0 0,.slice none 0 0,.int .i64 0,.slice none 0 0,.slice none 0 0,.slice none 0 0,.slice none 0 0,.slice none 0 0,.slice none 0 0] 50))=w2 at *
 have hXc:=hX.cells
 obtain ⟨x1,x2⟩:=hXc
 have hXl:=hX.lt
 go_wp2
 clear x1 x2
 go_loopw [17] (fun idx wr=>∃ i:Nat,idx=.int .i64 i∧i≤N∧A80 (fun b=>b≠V.ob∧b≠V.bb∧b≠w.heap.size∧b≠w.heap.size+1∧¬Y b) N wr n V∧T3 E3 76 (fun b=>b≠V.ob∧b≠V.bb∧b≠w.heap.size∧b≠w.heap.size+1∧¬Y b) wr V.ob N n.orders∧T3 C2 41 (fun b=>b≠V.ob∧b≠V.bb∧b≠w.heap.size∧b≠w.heap.size+1∧¬Y b) wr V.bb N n.backs∧A6 wr w.heap.size 50 #[.int .i64 n.ctl.stage,V.n0,V.n1,V.n2,V.x0,V.x1,V.x2,.int .i64 n.ctl.num,.slice V.qa n.ctl.waits.length V.qc,.slice (some ⟨V.sb,0,none⟩) N N,.slice (some ⟨V.ob,0,none⟩) N N,.slice (some ⟨V.bb,0,none⟩) N N,.slice V.pa n.packets.length V.pc,.slice V.la n.plans.length V.lc]∧A6 wr (w.heap.size+1) 50 #[.int .i64 0,.int .i64 0,.slice none 0 0,.slice none 0 0,.int .i64 0,.slice none 0 0,.slice none 0 0,.int .i64 0,.slice none 0 0,.slice none 0 0,.slice none 0 0,.slice none 0 0,.slice none 0 0,.slice none 0 0]∧w.heap.size+2≤wr.heap.size∧Frm (fun b=>(b≠V.ob∧b≠V.bb)∧b<w.heap.size) R w wr) (fun idx _=>N - (intOf idx).toNat)
 case atStart=>exact ⟨0,rfl,Nat.zero_le _,hI2,hO2,hB2,hX,hZ,by omega,hBl2⟩
 case round=>
  clear hI2 hO2 hB2 hX hZ hBl2
  obtain ⟨i,rfl,hi,hI,hO,hBk,hX,hZ,hsz,hBl⟩:=hrel
  rename World=>wo
  obtain ⟨x1,x2⟩:=hX.cells
  have hXl:=hX.lt
  by_cases hlt:i<N
  case pos=>
   have b1:(i:Int)<(N:Int):=by omega
   have b0:(0:Int)≤(i:Int):=by omega
   obtain ⟨a,c,hc,hr⟩:=hO.cell hlt
   have hol:=hO.lt
   have hfit:=HOF.out i hlt
   obtain ⟨row,hrow⟩:∃ r,n.orders.getD i []=r:=⟨_,rfl⟩
   rw [hrow] at hc hr hfit
   have HROW:=Lib.hid hrow
   clear hrow
   obtain ⟨hrl,hro⟩:=hfit
   go_wp2_with fail
   refine (B2m row _ a c wo hr (by omega)).mono ?_
   rintro e w3 ⟨ao,cap,rfl,hown,hb3⟩
   have hq0:=hown.q
   have hlao:∀ k2,Go.St.blk ao=some k2→wo.heap.size≤k2∧k2<w3.heap.size:=hown.lt
   have hs3:=hb3.size
   have hq3:qR E3 109 (fun b=>(b≠V.ob∧b≠V.bb∧b≠w.heap.size∧b≠w.heap.size+1∧¬Y b)∧Go.St.blk ao≠some b) wo.heap.size w3 ao row.length cap row:=hq0.keep (fun _ _ _=>rfl) (fun b _ hb=>⟨hb.1,fun e=>by have:=hlao b e;omega⟩)
   clear hown hq0 hr x1 x2 hc
   go_wp2
   go_loopw [26] (fun idx wr=>∃ kk:Nat,idx=.int .i64 kk∧kk≤row.length∧qR E3 109 (fun b=>(b≠V.ob∧b≠V.bb∧b≠w.heap.size∧b≠w.heap.size+1∧¬Y b)∧Go.St.blk ao≠some b) wo.heap.size wr ao row.length cap row∧Frm (fun b=>b<w3.heap.size∧Go.St.blk ao≠some b) R w3 wr) (fun idx _=>row.length - (intOf idx).toNat)
   case atStart=>exact ⟨0,rfl,Nat.zero_le _,hq3,Frm.refl _ _ _⟩
   case round=>
    clear hq3
    obtain ⟨kk,rfl,hkk,hQ,hF⟩:=hrel
    rename World=>wi
    have hsi:=hF.size
    by_cases hkl:kk<row.length
    case pos=>
     have c1:(kk:Int)<(row.length:Int):=by omega
     have c0:(0:Int)≤(kk:Int):=by omega
     obtain ⟨o,ho⟩:∃ o,row[kk]? =some o:=⟨_,List.getElem?_eq_getElem hkl⟩
     have hfo:=hro o (List.mem_of_getElem? ho)
     obtain ⟨_,hfo1,hfo2⟩:=hfo
     obtain ⟨g,q,cs,ha,_,hgl,hor,hce,hgf,_⟩:=hQ.at ho
     obtain ⟨ra,rc,fb,fd,rfl,i1,i2,i3,hru,hfs⟩:=hor
     have e3:=hce 3 _ rfl
     have e4:=hce 4 _ rfl
     rw [show E3.size=5 from rfl] at e3 e4
     subst ha
     have HO9:=Lib.hid ho
     have hset:row.set kk o=row:=by
      have e9:=(List.getElem?_eq_some_iff.1 ho).2
      rw [←e9]
      exact List.set_getElem_self _
     have hng0:wo.heap.size≤g:=(hlao g rfl).1
     have hg3:g<w3.heap.size:=(hlao g rfl).2
     clear hce ho
     have hS0:A1d wi.drew:=trivial
     go_wp2
     refine B9 (A1d) 99 (fun a0 a' w'=>∃ v29 v30 v31 v32 v33 v34 v35 v36 v37 v38 v39 v40 v41 v42 v43 v44 v45 v46 v47 v48,a'=C8 a0 [(29,v29),(30,v30),(31,v31),(32,v32),(33,v33),(34,v34),(35,v35),(36,v36),(37,v37),(38,v38),(39,v39),(40,v40),(41,v41),(42,v42),(43,v43),(44,v44),(45,v45),(46,v46),(47,v47),(48,v48)]∧qR E3 109 (fun b=>(b≠V.ob∧b≠V.bb∧b≠w.heap.size∧b≠w.heap.size+1∧¬Y b)∧Go.St.blk (some ⟨g,q,none⟩)≠some b) wo.heap.size w' (some ⟨g,q,none⟩) row.length cap row∧Frm (fun b=>b<w3.heap.size∧Go.St.blk (some ⟨g,q,none⟩)≠some b) R wi w') (by kernel_rfl) ?_ ?_
     ·intro Q' hR hQp
      have hb0:Below wi.heap.size wi wi.drew:=N4 _
      have hS:A1d wi.drew:=hS0
      generalize wi.drew=wa at *
      have hsa:=hb0.size
      have e3a:=B8 hb0 hgl e3
      have e4a:=B8 hb0 hgl e4
      have hbwa:=hb0
      refine A9 hQp hS [0,1,2,3,4,5,10,11,6,12,7,13] ?_
      iterate 12 (refine B2 _ rfl (by kernel_rfl) (A0 (by kernel_rfl) (by intro w0 hw0;have hw1:=hw0;simp only [A1d] at hw1;first|(go_simp;done)|(go_simp;rfl))) ?_;simp only [Act.put,St.tA,St.tD,St.tE,St.tS,St.tC,St.tZ])
      refine B3 ?_
      clear hS
      refine H5 (i:=8) (j:=14) rfl rfl (by kernel_rfl) (by kernel_rfl) (by kernel_rfl) (fun K8 hK8=>?_) (fun K14 hK14=>?_)
      ·skip
       go_simp
       go_wp2_with fail
       refine hK8 _ _ (fun _=>trivial) ?_
       clear hK8
       refine H5 (i:=9) (j:=14) rfl rfl (by kernel_rfl) (by kernel_rfl) (by kernel_rfl) (fun K9 hK9=>?_) (fun K14 hK14=>?_)
       ·skip
        go_simp
        go_wp2_with fail
        refine (A00 o.rules _ ra rc wa (hru.below hbwa) (by omega)).mono ?_
        rintro e wb ⟨a9,k9,rfl,h9,hn9⟩
        go_wp2_with fail
        have h9r:=h9.row
        have hbwb:=hbwa.trans (hn9.mono hbwa.size)
        have hz9:=hbwa.size
        refine hK9 _ _ (fun _=>trivial) ?_
        clear hK9
        refine A7 (i:=14) rfl (by kernel_rfl) (by kernel_rfl) fun K14 hK14=>?_
        have e4b:=B8 hbwb hgl e4
        go_simp
        go_wp2_with fail
        refine hK14 _ _ (fun _=>trivial) ?_
        clear hK14
        refine A7 (i:=15) rfl (by kernel_rfl) (by kernel_rfl) fun K15 hK15=>?_
        go_simp
        go_wp2_with fail
        refine (R7 o.flows _ fb fd wb (hfs.below hbwb) (by omega)).mono ?_
        rintro e wc ⟨a15,k15,rfl,h15,hn15⟩
        go_wp2_with fail
        have hbwc:=hbwb.trans (hn15.mono hbwb.size)
        have hz15:=hbwb.size
        refine hK15 _ _ (fun _=>trivial) ?_
        clear hK15
        have hR9:A8 G6 (fun b=>(b≠V.ob∧b≠V.bb∧b≠w.heap.size∧b≠w.heap.size+1∧¬Y b)∧Go.St.blk (some ⟨g,q,none⟩)≠some b) wc a9 k9 o.rules:=(h9r.below hn15).anyOk (fun b _ hb=>⟨hnew b (by omega),fun e=>by have e1:g=b:=(by simpa [Go.St.blk] using e);omega⟩)
        have hF9:A8 C2 (fun b=>(b≠V.ob∧b≠V.bb∧b≠w.heap.size∧b≠w.heap.size+1∧¬Y b)∧Go.St.blk (some ⟨g,q,none⟩)≠some b) wc a15 k15 o.flows:=h15.row (fun _ h=>h.elim) (fun k2 hk2=>by have:=(h15.lt k2 hk2).1;exact ⟨hnew k2 (by omega),fun e=>by have e1:g=k2:=(by simpa [Go.St.blk] using e);omega⟩)
        have hQc:=hQ.below hbwc
        have hng:¬((g≠V.ob∧g≠V.bb∧g≠w.heap.size∧g≠w.heap.size+1∧¬Y g)∧Go.St.blk (some ⟨g,q,none⟩)≠some g):=fun h=>h.2 rfl
        have hQ1:=hQc.put1 (g:=g) (q:=q) hng HO9.out (o:=3) (by decide) (.slice a9 o.rules.length k9) (y:=o) (fun cs hcs=>by
         obtain ⟨_,_,fb',fd',rfl,j1,j2,j3,_,j5⟩:=hcs
         exact ⟨a9,k9,fb',fd',rfl,j1,j2,j3,hR9,j5⟩)
        rw [hset] at hQ1
        have hF1:A8 C2 (fun b=>(b≠V.ob∧b≠V.bb∧b≠w.heap.size∧b≠w.heap.size+1∧¬Y b)∧Go.St.blk (some ⟨g,q,none⟩)≠some b) (wc.setCell ⟨g,q+kk * E3.size+3,none⟩ (.slice a9 o.rules.length k9)) a15 k15 o.flows:=hF9.mono fun b _ ho=>⟨ho,Below.heap_setCell _ _ _ _ (fun e=>ho.2 (by have e1:b=g:=e;rw [e1];rfl))⟩
        have hQ2:=hQ1.put1 (g:=g) (q:=q) hng HO9.out (o:=4) (by decide) (.slice a15 o.flows.length k15) (y:=o) (fun cs hcs=>by
         obtain ⟨ra',rc',_,_,rfl,j1,j2,j3,j4,_⟩:=hcs
         exact ⟨ra',rc',a15,k15,rfl,j1,j2,j3,j4,hF1⟩)
        rw [hset] at hQ2
        have hFz:=(Frm.of (W:=fun b=>b<w3.heap.size∧Go.St.blk (some ⟨g,q,none⟩)≠some b) (B:=R) hbwc (by omega)).trans ((Frm.set (a:=⟨g,q+kk * E3.size+3,none⟩) (fun h=>h.2 rfl) (by show R≤g;omega) (.slice a9 o.rules.length k9)).trans (Frm.set (a:=⟨g,q+kk * E3.size+4,none⟩) (fun h=>h.2 rfl) (by show R≤g;omega) (.slice a15 o.flows.length k15)))
        obtain ⟨g3,q3,cs3,y1,_,y3,⟨_,_,_,_,rfl,_⟩,y5,y6,_⟩:=hQc.at HO9.out
        obtain ⟨rfl,rfl⟩:g=g3∧q=q3:=by simpa using y1
        have y53:=y5 3 _ rfl
        have y54:=y5 4 _ rfl
        rw [show E3.size=5 from rfl] at y53 y54 hQ2 hFz
        have hS:A1d wc:=trivial
        refine A9 hQp hS [16,17] ?_
        iterate 2 (refine B2 _ rfl (by kernel_rfl) (A0 (by kernel_rfl) (by intro w0 hw0;have hw1:=hw0;simp only [A1d] at hw1;first|(go_simp;done)|(go_simp;rfl))) ?_;simp only [Act.put,St.tA,St.tD,St.tE,St.tS,St.tC,St.tZ])
        refine B3 ?_
        clear hS
        refine A7 (i:=18) rfl (by kernel_rfl) (by kernel_rfl) fun K18 hK18=>?_
        go_simp
        go_wp2_with fail
        refine hK18 _ _ (fun _=>trivial) ?_
        clear hK18
        have hS:A1d (wc.setCell ⟨g,q+kk * 5+3,none⟩ (.slice a9 o.rules.length k9)):=trivial
        refine A9 hQp hS [19,20] ?_
        iterate 2 (refine B2 _ rfl (by kernel_rfl) (A0 (by kernel_rfl) (by intro w0 hw0;have hw1:=hw0;simp only [A1d] at hw1;first|(go_simp;done)|(go_simp;rfl))) ?_;simp only [Act.put,St.tA,St.tD,St.tE,St.tS,St.tC,St.tZ])
        refine B3 ?_
        clear hS
        refine A7 (i:=21) rfl (by kernel_rfl) (by kernel_rfl) fun K21 hK21=>?_
        go_simp
        go_wp2_with fail
        refine hK21 _ _ (fun _=>trivial) ?_
        clear hK21
        refine B5 (by kernel_rfl) ?_ _
        refine hR _ _ ?_
        iterate 20 apply Exists.intro
        refine ⟨?_,⟨hQ2,hFz⟩⟩
        simp only [C8,Act.put,St.tS,St.tC,St.tZ]
        rfl
       ·skip
        go_simp
        go_wp2_with fail
        refine hK14 _ _ (fun _=>trivial) ?_
        clear hK14
        refine A7 (i:=9) rfl (by kernel_rfl) (by kernel_rfl) fun K9 hK9=>?_
        go_simp
        go_wp2_with fail
        refine (A00 o.rules _ ra rc wa (hru.below hbwa) (by omega)).mono ?_
        rintro e wb ⟨a9,k9,rfl,h9,hn9⟩
        go_wp2_with fail
        have h9r:=h9.row
        have hbwb:=hbwa.trans (hn9.mono hbwa.size)
        have hz9:=hbwa.size
        refine hK9 _ _ (fun _=>trivial) ?_
        clear hK9
        refine A7 (i:=15) rfl (by kernel_rfl) (by kernel_rfl) fun K15 hK15=>?_
        go_simp
        go_wp2_with fail
        refine (R7 o.flows _ fb fd wb (hfs.below hbwb) (by omega)).mono ?_
        rintro e wc ⟨a15,k15,rfl,h15,hn15⟩
        go_wp2_with fail
        have hbwc:=hbwb.trans (hn15.mono hbwb.size)
        have hz15:=hbwb.size
        refine hK15 _ _ (fun _=>trivial) ?_
        clear hK15
        have hR9:A8 G6 (fun b=>(b≠V.ob∧b≠V.bb∧b≠w.heap.size∧b≠w.heap.size+1∧¬Y b)∧Go.St.blk (some ⟨g,q,none⟩)≠some b) wc a9 k9 o.rules:=(h9r.below hn15).anyOk (fun b _ hb=>⟨hnew b (by omega),fun e=>by have e1:g=b:=(by simpa [Go.St.blk] using e);omega⟩)
        have hF9:A8 C2 (fun b=>(b≠V.ob∧b≠V.bb∧b≠w.heap.size∧b≠w.heap.size+1∧¬Y b)∧Go.St.blk (some ⟨g,q,none⟩)≠some b) wc a15 k15 o.flows:=h15.row (fun _ h=>h.elim) (fun k2 hk2=>by have:=(h15.lt k2 hk2).1;exact ⟨hnew k2 (by omega),fun e=>by have e1:g=k2:=(by simpa [Go.St.blk] using e);omega⟩)
        have hQc:=hQ.below hbwc
        have hng:¬((g≠V.ob∧g≠V.bb∧g≠w.heap.size∧g≠w.heap.size+1∧¬Y g)∧Go.St.blk (some ⟨g,q,none⟩)≠some g):=fun h=>h.2 rfl
        have hQ1:=hQc.put1 (g:=g) (q:=q) hng HO9.out (o:=3) (by decide) (.slice a9 o.rules.length k9) (y:=o) (fun cs hcs=>by
         obtain ⟨_,_,fb',fd',rfl,j1,j2,j3,_,j5⟩:=hcs
         exact ⟨a9,k9,fb',fd',rfl,j1,j2,j3,hR9,j5⟩)
        rw [hset] at hQ1
        have hF1:A8 C2 (fun b=>(b≠V.ob∧b≠V.bb∧b≠w.heap.size∧b≠w.heap.size+1∧¬Y b)∧Go.St.blk (some ⟨g,q,none⟩)≠some b) (wc.setCell ⟨g,q+kk * E3.size+3,none⟩ (.slice a9 o.rules.length k9)) a15 k15 o.flows:=hF9.mono fun b _ ho=>⟨ho,Below.heap_setCell _ _ _ _ (fun e=>ho.2 (by have e1:b=g:=e;rw [e1];rfl))⟩
        have hQ2:=hQ1.put1 (g:=g) (q:=q) hng HO9.out (o:=4) (by decide) (.slice a15 o.flows.length k15) (y:=o) (fun cs hcs=>by
         obtain ⟨ra',rc',_,_,rfl,j1,j2,j3,j4,_⟩:=hcs
         exact ⟨ra',rc',a15,k15,rfl,j1,j2,j3,j4,hF1⟩)
        rw [hset] at hQ2
        have hFz:=(Frm.of (W:=fun b=>b<w3.heap.size∧Go.St.blk (some ⟨g,q,none⟩)≠some b) (B:=R) hbwc (by omega)).trans ((Frm.set (a:=⟨g,q+kk * E3.size+3,none⟩) (fun h=>h.2 rfl) (by show R≤g;omega) (.slice a9 o.rules.length k9)).trans (Frm.set (a:=⟨g,q+kk * E3.size+4,none⟩) (fun h=>h.2 rfl) (by show R≤g;omega) (.slice a15 o.flows.length k15)))
        obtain ⟨g3,q3,cs3,y1,_,y3,⟨_,_,_,_,rfl,_⟩,y5,y6,_⟩:=hQc.at HO9.out
        obtain ⟨rfl,rfl⟩:g=g3∧q=q3:=by simpa using y1
        have y53:=y5 3 _ rfl
        have y54:=y5 4 _ rfl
        rw [show E3.size=5 from rfl] at y53 y54 hQ2 hFz
        have hS:A1d wc:=trivial
        refine A9 hQp hS [16,17] ?_
        iterate 2 (refine B2 _ rfl (by kernel_rfl) (A0 (by kernel_rfl) (by intro w0 hw0;have hw1:=hw0;simp only [A1d] at hw1;first|(go_simp;done)|(go_simp;rfl))) ?_;simp only [Act.put,St.tA,St.tD,St.tE,St.tS,St.tC,St.tZ])
        refine B3 ?_
        clear hS
        refine A7 (i:=18) rfl (by kernel_rfl) (by kernel_rfl) fun K18 hK18=>?_
        go_simp
        go_wp2_with fail
        refine hK18 _ _ (fun _=>trivial) ?_
        clear hK18
        have hS:A1d (wc.setCell ⟨g,q+kk * 5+3,none⟩ (.slice a9 o.rules.length k9)):=trivial
        refine A9 hQp hS [19,20] ?_
        iterate 2 (refine B2 _ rfl (by kernel_rfl) (A0 (by kernel_rfl) (by intro w0 hw0;have hw1:=hw0;simp only [A1d] at hw1;first|(go_simp;done)|(go_simp;rfl))) ?_;simp only [Act.put,St.tA,St.tD,St.tE,St.tS,St.tC,St.tZ])
        refine B3 ?_
        clear hS
        refine A7 (i:=21) rfl (by kernel_rfl) (by kernel_rfl) fun K21 hK21=>?_
        go_simp
        go_wp2_with fail
        refine hK21 _ _ (fun _=>trivial) ?_
        clear hK21
        refine B5 (by kernel_rfl) ?_ _
        refine hR _ _ ?_
        iterate 20 apply Exists.intro
        refine ⟨?_,⟨hQ2,hFz⟩⟩
        simp only [C8,Act.put,St.tS,St.tC,St.tZ]
        rfl
      ·skip
       go_simp
       go_wp2_with fail
       refine hK14 _ _ (fun _=>trivial) ?_
       clear hK14
       refine A7 (i:=8) rfl (by kernel_rfl) (by kernel_rfl) fun K8 hK8=>?_
       go_simp
       go_wp2_with fail
       refine hK8 _ _ (fun _=>trivial) ?_
       clear hK8
       refine A7 (i:=9) rfl (by kernel_rfl) (by kernel_rfl) fun K9 hK9=>?_
       go_simp
       go_wp2_with fail
       refine (A00 o.rules _ ra rc wa (hru.below hbwa) (by omega)).mono ?_
       rintro e wb ⟨a9,k9,rfl,h9,hn9⟩
       go_wp2_with fail
       have h9r:=h9.row
       have hbwb:=hbwa.trans (hn9.mono hbwa.size)
       have hz9:=hbwa.size
       refine hK9 _ _ (fun _=>trivial) ?_
       clear hK9
       refine A7 (i:=15) rfl (by kernel_rfl) (by kernel_rfl) fun K15 hK15=>?_
       go_simp
       go_wp2_with fail
       refine (R7 o.flows _ fb fd wb (hfs.below hbwb) (by omega)).mono ?_
       rintro e wc ⟨a15,k15,rfl,h15,hn15⟩
       go_wp2_with fail
       have hbwc:=hbwb.trans (hn15.mono hbwb.size)
       have hz15:=hbwb.size
       refine hK15 _ _ (fun _=>trivial) ?_
       clear hK15
       have hR9:A8 G6 (fun b=>(b≠V.ob∧b≠V.bb∧b≠w.heap.size∧b≠w.heap.size+1∧¬Y b)∧Go.St.blk (some ⟨g,q,none⟩)≠some b) wc a9 k9 o.rules:=(h9r.below hn15).anyOk (fun b _ hb=>⟨hnew b (by omega),fun e=>by have e1:g=b:=(by simpa [Go.St.blk] using e);omega⟩)
       have hF9:A8 C2 (fun b=>(b≠V.ob∧b≠V.bb∧b≠w.heap.size∧b≠w.heap.size+1∧¬Y b)∧Go.St.blk (some ⟨g,q,none⟩)≠some b) wc a15 k15 o.flows:=h15.row (fun _ h=>h.elim) (fun k2 hk2=>by have:=(h15.lt k2 hk2).1;exact ⟨hnew k2 (by omega),fun e=>by have e1:g=k2:=(by simpa [Go.St.blk] using e);omega⟩)
       have hQc:=hQ.below hbwc
       have hng:¬((g≠V.ob∧g≠V.bb∧g≠w.heap.size∧g≠w.heap.size+1∧¬Y g)∧Go.St.blk (some ⟨g,q,none⟩)≠some g):=fun h=>h.2 rfl
       have hQ1:=hQc.put1 (g:=g) (q:=q) hng HO9.out (o:=3) (by decide) (.slice a9 o.rules.length k9) (y:=o) (fun cs hcs=>by
        obtain ⟨_,_,fb',fd',rfl,j1,j2,j3,_,j5⟩:=hcs
        exact ⟨a9,k9,fb',fd',rfl,j1,j2,j3,hR9,j5⟩)
       rw [hset] at hQ1
       have hF1:A8 C2 (fun b=>(b≠V.ob∧b≠V.bb∧b≠w.heap.size∧b≠w.heap.size+1∧¬Y b)∧Go.St.blk (some ⟨g,q,none⟩)≠some b) (wc.setCell ⟨g,q+kk * E3.size+3,none⟩ (.slice a9 o.rules.length k9)) a15 k15 o.flows:=hF9.mono fun b _ ho=>⟨ho,Below.heap_setCell _ _ _ _ (fun e=>ho.2 (by have e1:b=g:=e;rw [e1];rfl))⟩
       have hQ2:=hQ1.put1 (g:=g) (q:=q) hng HO9.out (o:=4) (by decide) (.slice a15 o.flows.length k15) (y:=o) (fun cs hcs=>by
        obtain ⟨ra',rc',_,_,rfl,j1,j2,j3,j4,_⟩:=hcs
        exact ⟨ra',rc',a15,k15,rfl,j1,j2,j3,j4,hF1⟩)
       rw [hset] at hQ2
       have hFz:=(Frm.of (W:=fun b=>b<w3.heap.size∧Go.St.blk (some ⟨g,q,none⟩)≠some b) (B:=R) hbwc (by omega)).trans ((Frm.set (a:=⟨g,q+kk * E3.size+3,none⟩) (fun h=>h.2 rfl) (by show R≤g;omega) (.slice a9 o.rules.length k9)).trans (Frm.set (a:=⟨g,q+kk * E3.size+4,none⟩) (fun h=>h.2 rfl) (by show R≤g;omega) (.slice a15 o.flows.length k15)))
       obtain ⟨g3,q3,cs3,y1,_,y3,⟨_,_,_,_,rfl,_⟩,y5,y6,_⟩:=hQc.at HO9.out
       obtain ⟨rfl,rfl⟩:g=g3∧q=q3:=by simpa using y1
       have y53:=y5 3 _ rfl
       have y54:=y5 4 _ rfl
       rw [show E3.size=5 from rfl] at y53 y54 hQ2 hFz
       have hS:A1d wc:=trivial
       refine A9 hQp hS [16,17] ?_
       iterate 2 (refine B2 _ rfl (by kernel_rfl) (A0 (by kernel_rfl) (by intro w0 hw0;have hw1:=hw0;simp only [A1d] at hw1;first|(go_simp;done)|(go_simp;rfl))) ?_;simp only [Act.put,St.tA,St.tD,St.tE,St.tS,St.tC,St.tZ])
       refine B3 ?_
       clear hS
       refine A7 (i:=18) rfl (by kernel_rfl) (by kernel_rfl) fun K18 hK18=>?_
       go_simp
       go_wp2_with fail
       refine hK18 _ _ (fun _=>trivial) ?_
       clear hK18
       have hS:A1d (wc.setCell ⟨g,q+kk * 5+3,none⟩ (.slice a9 o.rules.length k9)):=trivial
       refine A9 hQp hS [19,20] ?_
       iterate 2 (refine B2 _ rfl (by kernel_rfl) (A0 (by kernel_rfl) (by intro w0 hw0;have hw1:=hw0;simp only [A1d] at hw1;first|(go_simp;done)|(go_simp;rfl))) ?_;simp only [Act.put,St.tA,St.tD,St.tE,St.tS,St.tC,St.tZ])
       refine B3 ?_
       clear hS
       refine A7 (i:=21) rfl (by kernel_rfl) (by kernel_rfl) fun K21 hK21=>?_
       go_simp
       go_wp2_with fail
       refine hK21 _ _ (fun _=>trivial) ?_
       clear hK21
       refine B5 (by kernel_rfl) ?_ _
       refine hR _ _ ?_
       iterate 20 apply Exists.intro
       refine ⟨?_,⟨hQ2,hFz⟩⟩
       simp only [C8,Act.put,St.tS,St.tC,St.tZ]
       rfl
     rintro a' w8 ⟨v29,v30,v31,v32,v33,v34,v35,v36,v37,v38,v39,v40,v41,v42,v43,v44,v45,v46,v47,v48,rfl,hb8⟩
     simp only [C8,Act.put,St.tS,St.tC,St.tZ]
     obtain ⟨hQ8,hF8⟩:=hb8
     have hF9:=hF.trans hF8
     clear hQ hF hF8 hru hfs e3 e4 hS0
     go_wp2
     case roundEnd=>
      go_roundw
      case rel=>exact ⟨kk+1,by go_num,by omega,hQ8,hF9⟩
      case measure=>simp [intOf]<;>omega
    have c1:¬(kk:Int)<(row.length:Int):=by omega
    have hFo:Frm (fun b=>b<wo.heap.size) R wo wi:=(Frm.of (B:=R) hb3 (by omega)).trans (hF.weak (V:=fun b=>b<wo.heap.size) (fun b _ hb=>.inl ⟨by omega,fun e=>by have:=hlao b e;omega⟩) (Nat.le_refl _))
    have hIi:=hI.frm hFo (fun k2 hl _=>.inl hl)
    have hOi:=hO.frm hFo (.inl hol) (fun k2 hl _=>.inl hl)
    have hBi:=hBk.frm hFo (.inl hBk.lt) (fun k2 hl _=>.inl hl)
    have hXi:=hFo.blk hX (.inl hXl)
    have hZi:=hFo.blk hZ (.inl hZ.lt)
    have hBli:=hBl.trans (hFo.weak (fun b _ hb=>.inl (by omega)) (Nat.le_refl _))
    have hri:A8 E3 (fun b=>b≠V.ob∧b≠V.bb∧b≠w.heap.size∧b≠w.heap.size+1∧¬Y b) wi ao cap row:=hQ.row (fun b hb=>hb.1) (fun k2 hk2=>hnew k2 (by have:=hlao k2 hk2;omega))
    obtain ⟨aa,cc,hcc,_⟩:=hOi.cell hlt
    have hfo:=hOi.free
    have hbl9:=hBi.lt
    have hri2:=hri
    rw [←HROW.out] at hri2
    have hput:=hOi.put hlt hri2 (fun hb=>hb.1 rfl)
    rw [HROW.out] at hcc hput
    have hFs:Frm (fun b=>b≠V.ob) R wi (wi.setCell ⟨V.ob,i,none⟩ (.slice ao row.length cap)):=Frm.set (a:=⟨V.ob,i,none⟩) (fun h=>h rfl) hRob _
    have hIs:=hIi.frm hFs (fun k2 _ ho=>.inl ho.1)
    have hBs:=hBi.frm hFs (.inl (fun e=>hnOB e.symm)) (fun k2 _ ho=>.inl ho.1)
    have hXs:=hFs.blk hXi (.inl (by omega))
    have hZs:=hFs.blk hZi (.inl (by omega))
    have hBls:=hBli.trans (hFs.weak (fun b _ hb=>.inl hb.1.1) (Nat.le_refl _))
    have hsz9:=hFs.size
    have hsz8:=hFo.size
    obtain ⟨x1,x2⟩:=hXi.cells
    have hXl9:=hXi.lt
    have hol9:=hOi.lt
    clear hI hO hBk hX hZ hBl hFo hQ hF hb3 hIi hOi hBi hZi hBli hri hri2 hFs
    go_wp2
    case roundEnd=>
     go_roundw
     case rel=>exact ⟨i+1,by go_num,by omega,hIs,hput,hBs,hXs,hZs,by omega,hBls⟩
     case measure=>simp [intOf]<;>omega
  obtain rfl:i=N:=by omega
  have b1:¬(i:Int)<(i:Int):=by omega
  clear hlt
  go_wp2
  clear x1 x2
  go_loopw [59] (fun idx wr=>∃ j:Nat,idx=.int .i64 j∧j≤i∧A80 (fun b=>b≠V.ob∧b≠V.bb∧b≠w.heap.size∧b≠w.heap.size+1∧¬Y b) i wr n V∧T3 E3 76 (fun b=>b≠V.ob∧b≠V.bb∧b≠w.heap.size∧b≠w.heap.size+1∧¬Y b) wr V.ob i n.orders∧T3 C2 41 (fun b=>b≠V.ob∧b≠V.bb∧b≠w.heap.size∧b≠w.heap.size+1∧¬Y b) wr V.bb i n.backs∧A6 wr w.heap.size 50 #[.int .i64 n.ctl.stage,V.n0,V.n1,V.n2,V.x0,V.x1,V.x2,.int .i64 n.ctl.num,.slice V.qa n.ctl.waits.length V.qc,.slice (some ⟨V.sb,0,none⟩) i i,.slice (some ⟨V.ob,0,none⟩) i i,.slice (some ⟨V.bb,0,none⟩) i i,.slice V.pa n.packets.length V.pc,.slice V.la n.plans.length V.lc]∧A6 wr (w.heap.size+1) 50 #[.int .i64 0,.int .i64 0,.slice none 0 0,.slice none 0 0,.int .i64 0,.slice none 0 0,.slice none 0 0,.int .i64 0,.slice none 0 0,.slice none 0 0,.slice none 0 0,.slice none 0 0,.slice none 0 0,.slice none 0 0]∧w.heap.size+2≤wr.heap.size∧Frm (fun b=>(b≠V.ob∧b≠V.bb)∧b<w.heap.size) R w wr) (fun idx _=>i - (intOf idx).toNat)
  case atStart=>exact ⟨0,rfl,Nat.zero_le _,hI,hO,hBk,hX,hZ,hsz,hBl⟩
  case round=>
   clear hI hO hBk hX hZ hBl hsz
   obtain ⟨j,rfl,hj,hI,hO,hBk,hX,hZ,hsz,hBl⟩:=hrel
   rename World=>wj
   obtain ⟨x1,x2⟩:=hX.cells
   have hXl:=hX.lt
   by_cases hlt:j<i
   case pos=>
    have c1:(j:Int)<(i:Int):=by omega
    have c0:(0:Int)≤(j:Int):=by omega
    obtain ⟨a,c,hc,hr⟩:=hBk.cell hlt
    have hbl:=hBk.lt
    have hbfr:=hBk.free
    have hfit:=HBF.out j hlt
    obtain ⟨row,hrow⟩:∃ r,n.backs.getD j []=r:=⟨_,rfl⟩
    rw [hrow] at hc hr hfit
    have HROW:=Lib.hid hrow
    clear hrow
    have hS0:SQ2 w.heap.size 11 V.bb j (.slice (some ⟨V.bb,0,none⟩) i i) (.slice a row.length c) wj.drew:=⟨x1 11,hc⟩
    clear x1 x2
    go_wp2
    refine B9 (SQ2 w.heap.size 11 V.bb j (.slice (some ⟨V.bb,0,none⟩) i i) (.slice a row.length c)) 10 (fun a0 a' w'=>∃ v62 v63 v64 v65 v66 v67 v68 v69 v70 v71,a'=C8 a0 [(62,v62),(63,v63),(64,v64),(65,v65),(66,v66),(67,v67),(68,v68),(69,v69),(70,v70),(71,v71)]∧T3 C2 41 (fun b=>b≠V.ob∧b≠V.bb∧b≠w.heap.size∧b≠w.heap.size+1∧¬Y b) w' V.bb i n.backs∧Frm (fun b=>b<wj.heap.size∧b≠V.bb) R wj w') (by kernel_rfl) ?_ ?_
    ·intro Q' hR hQp
     have hb0:Below wj.heap.size wj wj.drew:=N4 _
     have hS:SQ2 w.heap.size 11 V.bb j (.slice (some ⟨V.bb,0,none⟩) i i) (.slice a row.length c) wj.drew:=hS0
     generalize wj.drew=wa at *
     have hca:=hX.under hb0
     refine A9 hQp hS [0,2,3,5,1,4,6,7] ?_
     iterate 8 (refine B2 _ rfl (by kernel_rfl) (A0 (by kernel_rfl) (by intro w0 hw0;have hw1:=hw0;simp only [SQ2] at hw1;first|(go_simp;done)|(go_simp;rfl))) ?_;simp only [Act.put,St.tA,St.tD,St.tE,St.tS,St.tC,St.tZ])
     refine B3 ?_
     clear hS
     refine A7 (i:=8) rfl (by kernel_rfl) (by kernel_rfl) fun K8 hK8=>?_
     go_simp
     go_wp2_with fail
     refine (R7 row _ a c wa (hr.below hb0) (by omega)).mono ?_
     rintro e wb ⟨ao,cap,rfl,hown,hab⟩
     have hb1:=hb0.trans (hab.mono hb0.size)
     have hsz0:=hb0.size
     go_wp2_with fail
     have hFo:Frm (fun b=>b<wj.heap.size) R wj wb:=Frm.of hb1 (by omega)
     have hBb:=hBk.frm hFo (.inl hbl) (fun k2 hl _=>.inl hl)
     have hXb:=hFo.blk hX (.inl hXl)
     obtain ⟨aa,cc,hcc,_⟩:=hBb.cell hlt
     rw [HROW.out] at hcc
     have hco:=B8 hb1 hbl hc
     have hfb:=hBb.free
     have hbl9:=hBb.lt
     have hrow2:A8 C2 (fun b=>b≠V.ob∧b≠V.bb∧b≠w.heap.size∧b≠w.heap.size+1∧¬Y b) wb ao cap row:=hown.row (fun _ h=>h.elim) (fun k2 hk2=>hnew k2 (by have:=(hown.lt k2 hk2).1;omega))
     rw [←HROW.out] at hrow2
     have hput:=hBb.put hlt hrow2 (fun hb=>hb.2.1 rfl)
     rw [HROW.out] at hput
     have hFz:=(hFo.weak (V:=fun b=>b<wj.heap.size∧b≠V.bb) (fun b _ hb=>.inl hb.1) (Nat.le_refl _)).trans (Frm.set (a:=⟨V.bb,j,none⟩) (fun h=>h.2 rfl) hRbb (.slice ao row.length cap))
     refine hK8 _ _ (fun _=>⟨hXb.cells.1 11,hco⟩) ?_
     clear hK8 hcc
     refine A7 (i:=9) rfl (by kernel_rfl) (by kernel_rfl) fun K9 hK9=>?_
     go_simp
     go_wp2_with fail
     refine hK9 _ _ (fun _=>⟨hXb.cells.1 11,hco⟩) ?_
     clear hK9
     refine A7 (i:=10) rfl (by kernel_rfl) (by kernel_rfl) fun K10 hK10=>?_
     go_simp
     go_wp2_with fail
     refine hK10 _ _ (fun h=>absurd rfl h) ?_
     clear hK10
     refine B5 (by kernel_rfl) ?_ _
     refine hR _ _ ?_
     iterate 10 apply Exists.intro
     refine ⟨?_,⟨hput,hFz⟩⟩
     simp only [C8,Act.put,St.tS,St.tC,St.tZ]
     rfl
    rintro a' w8 ⟨v62,v63,v64,v65,v66,v67,v68,v69,v70,v71,rfl,hb8⟩
    simp only [C8,Act.put,St.tS,St.tC,St.tZ]
    obtain ⟨hB9,hF9⟩:=hb8
    have hI9:=hI.frm hF9 (fun k2 hl ho=>.inl ⟨hl,ho.2.1⟩)
    have hO9:=hO.frm hF9 (.inl ⟨hO.lt,hnOB⟩) (fun k2 hl ho=>.inl ⟨hl,ho.2.1⟩)
    have hX9:=hF9.blk hX (.inl ⟨hXl,by omega⟩)
    have hZ9:=hF9.blk hZ (.inl ⟨hZ.lt,by omega⟩)
    have hBl9:=hBl.trans (hF9.weak (fun b _ hb=>.inl ⟨by omega,hb.1.2⟩) (Nat.le_refl _))
    have hsz9:=hF9.size
    clear hI hO hBk hX hZ hBl hF9 hr hc hS0
    go_wp2
    case roundEnd=>
     go_roundw
     case rel=>exact ⟨j+1,by go_num,by omega,hI9,hO9,hB9,hX9,hZ9,by omega,hBl9⟩
     case measure=>simp [intOf]<;>omega
   obtain rfl:i=j:=by omega
   have c1:¬(i:Int)<(i:Int):=by omega
   have hls:=hI.pls
   have hplx:=hls.len_le
   clear hlt
   generalize V.la=la at *
   generalize V.lc=lc at *
   have hwj2:w.heap.size+2≤wj.heap.size:=hsz
   go_wp2
   clear x1 x2
   go_loopw [8,76] (fun s idx wr=>∃ (kk:Nat) (ap:Option Addr) (cp:Nat),s=.slice ap kk cp∧idx=.int .i64 kk∧kk≤n.plans.length∧C7 C3 34 (oth wj.heap.size wr ap) wj.heap.size wr ap kk cp (n.plans.take kk)∧Below wj.heap.size wj wr) (fun _ idx _=>n.plans.length - (intOf idx).toNat)
   case atStart=>exact ⟨0,none,0,rfl,rfl,Nat.zero_le _,oth.nil _ _ _ _ _,Below.refl _ _⟩
   case round=>
    obtain ⟨kk,ap,cp,rfl,rfl,hkk,hown,hbC⟩:=hrel
    rename World=>wk
    have hsk:=hbC.size
    by_cases hkl:kk<n.plans.length
    case pos=>
     have c3:(kk:Int)<(n.plans.length:Int):=by omega
     have c4:(0:Int)≤(kk:Int):=by omega
     obtain ⟨p,hp⟩:∃ p,n.plans[kk]? =some p:=⟨_,List.getElem?_eq_getElem hkl⟩
     have htk:n.plans.take (kk+1)=n.plans.take kk++[p]:=by rw [List.take_add_one,hp];rfl
     have HTK:=Lib.hid htk
     have hheld:=hpl p (List.mem_of_getElem? hp)
     obtain ⟨q1,q2,q3,q4⟩:=hheld.good.1
     have hplen:p.paths.length=p.flows.length:=by
      rcases hheld with rfl|⟨v,l,h9⟩
      ·rfl
      ·rw [h9.plen,h9.flows]
     have HPLEN:=Lib.hid hplen
     have HQ2:=Lib.hid q2
     have HQ4:=Lib.hid q4
     obtain ⟨g,off,rfl,_,hgl,cs,hps0,hce⟩:=(hls.below hbC).get hp
     obtain ⟨fa,fc,pa,pc,rfl,hv,hfl,hps⟩:=hps0
     have e0:=hce 0 _ rfl
     have e1:=hce 1 _ rfl
     have e2:=hce 2 _ rfl
     rw [show C3.size=3 from rfl] at e0 e1 e2
     simp only [Nat.add_zero] at e0 e1 e2
     have hflx:=hfl.len_le
     have hpsx:=hps.len_le
     clear hce htk hp hheld hplen q2 q4
     have hB0:Below wk.heap.size wk ((wk.alloc (.cells #[.int .i64 p.ver,.slice fa p.flows.length fc,.slice pa p.paths.length pc] 34)).alloc (.cells #[.int .i64 p.ver,.slice none 0 0,.slice none 0 0] 34)):=A1t _ _ _
     have hP0:A6 ((wk.alloc (.cells #[.int .i64 p.ver,.slice fa p.flows.length fc,.slice pa p.paths.length pc] 34)).alloc (.cells #[.int .i64 p.ver,.slice none 0 0,.slice none 0 0] 34)) wk.heap.size 34 #[.int .i64 p.ver,.slice fa p.flows.length fc,.slice pa p.paths.length pc]:=(A6.new rfl).alloc _
     have hQ0:A6 ((wk.alloc (.cells #[.int .i64 p.ver,.slice fa p.flows.length fc,.slice pa p.paths.length pc] 34)).alloc (.cells #[.int .i64 p.ver,.slice none 0 0,.slice none 0 0] 34)) (wk.heap.size+1) 34 #[.int .i64 p.ver,.slice none 0 0,.slice none 0 0]:=A6.new (by simp)
     go_wp2
     generalize ((wk.alloc (.cells #[.int .i64 p.ver,.slice fa p.flows.length fc,.slice pa p.paths.length pc] 34)).alloc (.cells #[.int .i64 p.ver,.slice none 0 0,.slice none 0 0] 34))=w0 at *
     clear e0 e1 e2
     go_loopw [86] (fun idx wr=>∃ (m:Nat) (af:Option Addr) (cf:Nat) (aq:Option Addr) (cq:Nat),idx=.int .i64 m∧m≤p.flows.length∧A6 wr (wk.heap.size+1) 34 #[.int .i64 p.ver,.slice af m cf,.slice aq m cq]∧two H6 56 (F7 C2) 72 (wk.heap.size+2) wr af m cf (p.flows.take m) aq m cq (p.paths.take m)∧Below wk.heap.size wk wr∧A6 wr wk.heap.size 34 #[.int .i64 p.ver,.slice fa p.flows.length fc,.slice pa p.paths.length pc]) (fun idx _=>p.flows.length - (intOf idx).toNat)
     case atStart=>exact ⟨0,none,0,none,0,rfl,Nat.zero_le _,hQ0,two.nil _ _ _ _ _ _,hB0,hP0⟩
     case round=>
      clear hQ0 hB0 hP0
      obtain ⟨m,af,cf,aq,cq,rfl,hm,hQ,htwo,hb,hP⟩:=hrel
      rename World=>wo
      have s0:=hQ.lt
      have s2:=hb.size
      obtain ⟨o1,o2⟩:=hQ.cells
      by_cases hml:m<p.flows.length
      case neg=>
       have HM:=Lib.hid (show p.flows.length=m by omega)
       have HMP:=Lib.hid (show p.paths.length=m by rw [HPLEN.out];omega)
       have htf:p.flows.take m=p.flows:=List.take_of_length_le (by omega)
       have htp:p.paths.take m=p.paths:=List.take_of_length_le (by rw [HPLEN.out];omega)
       rw [htf,htp] at htwo
       have d1:¬(m:Int)<(p.flows.length:Int):=by omega
       have hak:∀ k,Go.St.blk ap=some k→k<wk.heap.size:=fun k hk=>(hown.lt k hk).2
       have hr1:A8 H6 (oth wj.heap.size wo ap) wo af cf p.flows:=htwo.1.row (fun b hh=>⟨by have:=hh.1;omega,hh.2.1,fun e=>by have:=hak b e;have:=hh.1;omega⟩) (fun k hk=>⟨by have:=(htwo.1.lt k hk).1;omega,(htwo.1.lt k hk).2,fun e=>by have:=hak k e;have:=(htwo.1.lt k hk).1;omega⟩)
       have hr2:A8 (F7 C2) (oth wj.heap.size wo ap) wo aq cq p.paths:=htwo.2.1.row (fun b hh=>⟨by have:=hh.1;omega,hh.2.1,fun e=>by have:=hak b e;have:=hh.1;omega⟩) (fun k hk=>⟨by have:=(htwo.2.1.lt k hk).1;omega,(htwo.2.1.lt k hk).2,fun e=>by have:=hak k e;have:=(htwo.2.1.lt k hk).1;omega⟩)
       have hpr:B7 wo (oth wj.heap.size wo ap) (.int .i64 p.ver) (.slice af m cf) (.slice aq m cq) p:=⟨af,cf,aq,cq,by rw [HM.out,HMP.out],hv,hr1,hr2⟩
       have hbn:=G8 wo (.cells #[.int .i64 p.ver,.slice af m cf,.slice aq m cq] 34)
       have hN:=I6 wo 34 #[.int .i64 p.ver,.slice af m cf,.slice aq m cq]
       have hbk:=hb.trans (hbn.mono s2)
       have hown9:=oth.below hown hbk
       have hpr9:B7 (wo.alloc (.cells #[.int .i64 p.ver,.slice af m cf,.slice aq m cq] 34)) (oth wj.heap.size (wo.alloc (.cells #[.int .i64 p.ver,.slice af m cf,.slice aq m cq] 34)) ap) (.int .i64 p.ver) (.slice af m cf) (.slice aq m cq) p:=C3.anyOk (C3.below hpr hbn) (fun b _ hh=>⟨hh.1,Nat.lt_of_lt_of_le hh.2.1 hbn.size,hh.2.2⟩)
       have hsrc:=A7w hN hpr9
       have hwn:wj.heap.size≤(wo.alloc (.cells #[.int .i64 p.ver,.slice af m cf,.slice aq m cq] 34)).heap.size:=by first|omega|(simp;done)|(simp;omega)
       obtain ⟨i0,hi,hz0,hz1,hz2⟩:=info_parts A52
       clear htf htp htwo hr1 hr2 hpr hpr9 hN hP hls hI hO hBk hX hZ hBl hml
       go_wp2_with (at_builtin;go_must (refine H4 (sh:=C3) (n:=kk) (m:=1) rfl _ _ 48 rfl 34 i0 (.agg #[.int .i64 0,.slice none 0 0,.slice none 0 0]) 56 Tryz.underlying48 hi hz0 hz1 hz2 rfl (by decide) (ok:=oth wj.heap.size (wo.alloc (.cells #[.int .i64 p.ver,.slice af m cf,.slice aq m cq] 34)) ap) (base:=wj.heap.size) rfl hown9 rfl rfl hsrc (by simp only [maxLen];omega) (by omega) hwn ?_);go_must (
        intro ap' cp' wz hop hgp hlie
        have hbz:=hbC.trans (((hbk.mono hsk).trans (D6 (B:=wj.heap.size) hgp (fun k hk=>(hown9.lt k hk).1) hwn)))
        have hopz:=oth.grown hop hgp.size hlie))
       case roundEnd=>
        go_roundw
        case rel=>exact ⟨kk+1,ap',cp',rfl,by go_num,by omega,by rw [HTK.out];exact hopz,hbz⟩
        case measure=>simp [intOf]<;>omega
      have d1:(m:Int)<(p.flows.length:Int):=by omega
      have d0:(0:Int)≤(m:Int):=by omega
      obtain ⟨f,hf9⟩:∃ f,p.flows[m]? =some f:=⟨_,List.getElem?_eq_getElem hml⟩
      obtain ⟨pt,hpt⟩:∃ pt,p.paths[m]? =some pt:=⟨_,List.getElem?_eq_getElem (by rw [HPLEN.out];exact hml)⟩
      have htk:p.flows.take (m+1)=p.flows.take m++[f]:=by rw [List.take_add_one,hf9];rfl
      have htk2:p.paths.take (m+1)=p.paths.take m++[pt]:=by rw [List.take_add_one,hpt];rfl
      have HTF:=Lib.hid htk
      have HTP:=Lib.hid htk2
      obtain ⟨hvl,hnl⟩:=HQ2.out f (List.mem_of_getElem? hf9)
      have hql:=HQ4.out pt (List.mem_of_getElem? hpt)
      obtain ⟨g2,off2,qa,qc,rfl,hg2l,hqr,hce2⟩:=S9 hps hpt
      obtain ⟨g3,off3,rfl,_,hbl,cs,hcs,hce⟩:=hfl.get hf9
      obtain ⟨va,vc,na,nc,rfl,hsi,hdi,hvi,hni⟩:=hcs
      have e0:=B8 hb hbl (hce 0 _ rfl)
      have e1:=B8 hb hbl (hce 1 _ rfl)
      have e2:=B8 hb hbl (hce 2 _ rfl)
      have e3:=B8 hb hbl (hce 3 _ rfl)
      have HCE:=Lib.hid hce2
      have c3n:(m:Int)<(p.paths.length:Int):=by rw [HPLEN.out];exact d1
      clear hce hce2 htk htk2 hf9 hpt
      simp only [H6,Nat.add_zero] at e0 e1 e2 e3
      have hob6:=G8 wo (.cells #[.int .i64 f.src,.int .i64 f.dst,.slice va f.via.length vc,.slice na f.no.length nc] 56)
      have hX6:=I6 wo 56 #[.int .i64 f.src,.int .i64 f.dst,.slice va f.via.length vc,.slice na f.no.length nc]
      have hO6:=hQ.under hob6
      have hP6:=hP.under hob6
      have htwo6:=htwo.below hob6
      have hb6:Below wk.heap.size wk (wo.alloc (.cells #[.int .i64 f.src,.int .i64 f.dst,.slice va f.via.length vc,.slice na f.no.length nc] 56)):=hb.trans (hob6.mono s2)
      have hlf:∀ k,Go.St.blk af=some k→k<wo.heap.size:=fun k hk=>(htwo.1.lt k hk).2
      have hlq:∀ k,Go.St.blk aq=some k→k<wo.heap.size:=fun k hk=>(htwo.2.1.lt k hk).2
      have hwo6:wo.heap.size<(wo.alloc (.cells #[.int .i64 f.src,.int .i64 f.dst,.slice va f.via.length vc,.slice na f.no.length nc] 56)).heap.size:=by simp
      go_wp2
      generalize wo.alloc _=w6 at *
      clear o1 o2 e0 e1 e2 e3 hQ hP htwo hob6
      generalize wo.heap.size=fb at *
      have hS0:SP (wk.heap.size+1) fb af m cf f va vc na nc w6.drew:=SP.of hO6 hX6
      obtain ⟨j0,gi,gz0,gz1,gz2⟩:=info_parts A2w
      refine B9 (SP (wk.heap.size+1) fb af m cf f va vc na nc) 16 (fun a0 a' w'=>∃ v91 v92 v93 v94 v95 v96 v97 v98 v99 v100 v101 v102 v103 v104 v105 v106,a'=C8 a0 [(91,v91),(92,v92),(93,v93),(94,v94),(95,v95),(96,v96),(97,v97),(98,v98),(99,v99),(100,v100),(101,v101),(102,v102),(103,v103),(104,v104),(105,v105),(106,v106)]∧∃ af' cf',two H6 56 (F7 C2) 72 (wk.heap.size+2) w' af' (m+1) cf' (p.flows.take m++[f]) aq m cq (p.paths.take m)∧A6 w' (wk.heap.size+1) 34 #[.int .i64 p.ver,.slice af' (m+1) cf',.slice aq m cq]∧Below wk.heap.size wk w'∧A6 w' wk.heap.size 34 #[.int .i64 p.ver,.slice (some ⟨g3,off3,none⟩) p.flows.length fc,.slice (some ⟨g2,off2,none⟩) p.paths.length pc]) (by kernel_rfl) ?_ ?_
      ·intro Q' hR hQp
       have hb0:Below w6.heap.size w6 w6.drew:=N4 _
       have hS:SP (wk.heap.size+1) fb af m cf f va vc na nc w6.drew:=hS0
       generalize w6.drew=wa at *
       have hO8:=hO6.under hb0
       have hP8:=hP6.under hb0
       have hX8:=hX6.under hb0
       have htwo8:=htwo6.below hb0
       have hb8:Below wk.heap.size wk wa:=hb6.trans (hb0.mono hb6.size)
       refine A9 hQp hS [0,1,2,3,4,5,6,7,9,10] ?_
       iterate 10 (refine B2 _ rfl (by kernel_rfl) (A0 (by kernel_rfl) (by intro w0 hw0;have hw1:=hw0;simp only [SP] at hw1;first|(go_simp;done)|(go_simp;rfl))) ?_;simp only [Act.put,St.tA,St.tD,St.tE,St.tS,St.tC,St.tZ])
       refine B3 ?_
       clear hS
       refine A7 (i:=8) rfl (by kernel_rfl) (by kernel_rfl) fun K8 hK8=>?_
       go_simp
       go_wp2_with fail
       refine (R7 f.via _ va vc wa (hvi.below hb8) (by omega)).mono ?_
       rintro e wb ⟨a1,c1,rfl,hr1,hab⟩
       have hb9:Below wk.heap.size wk wb:=hb8.trans (hab.mono hb8.size)
       go_wp2_with fail
       have hS:_:=SP.of (hO8.under hab) (hX8.under hab)
       refine hK8 _ _ (fun _=>hS) ?_
       clear hK8
       clear hS
       refine A7 (i:=11) rfl (by kernel_rfl) (by kernel_rfl) fun K11 hK11=>?_
       go_simp
       go_wp2_with fail
       refine (R7 f.no _ na nc wb (hni.below hb9) (by omega)).mono ?_
       rintro e wc ⟨a2,c2,rfl,hr2,hbc⟩
       have hac:Below wa.heap.size wa wc:=hab.trans (hbc.mono hab.size)
       have hr1':=(hr1.fresh.below hbc).mono (ok':=fun b=>wa.heap.size≤b) (fun b _ h=>⟨h,rfl⟩)
       have hr2':=hr2.fresh.mono (ok':=fun b=>wa.heap.size≤b) (fun b _ (h:wb.heap.size≤b)=>⟨Nat.le_trans hab.size h,rfl⟩)
       have hb10:Below wk.heap.size wk wc:=hb8.trans (hac.mono hb8.size)
       go_wp2_with fail
       have hS:_:=SP.of (hO8.under hac) (hX8.under hac)
       refine hK11 _ _ (fun _=>hS) ?_
       clear hK11
       clear hr1 hr2 hb9
       refine A9 hQp hS [12] ?_
       iterate 1 (refine B2 _ rfl (by kernel_rfl) (A0 (by kernel_rfl) (by intro w0 hw0;have hw1:=hw0;simp only [SP] at hw1;first|(go_simp;done)|(go_simp;rfl))) ?_;simp only [Act.put,St.tA,St.tD,St.tE,St.tS,St.tC,St.tZ])
       refine B3 ?_
       clear hS
       refine A7 (i:=13) rfl (by kernel_rfl) (by kernel_rfl) fun K13 hK13=>?_
       go_simp
       go_wp2_with fail
       have hcd:=G8 wc (.cells #[.int .i64 f.src,.int .i64 f.dst,.slice a1 f.via.length c1,.slice a2 f.no.length c2] 56)
       have had:=hac.trans (hcd.mono hac.size)
       have hN:=I6 wc 56 #[.int .i64 f.src,.int .i64 f.dst,.slice a1 f.via.length c1,.slice a2 f.no.length c2]
       have hNl:=hN.lt
       have hr1'':=hr1'.below hcd
       have hr2'':=hr2'.below hcd
       have hb11:=hb8.trans (had.mono hb8.size)
       have hS:_:=SP.of (hO8.under had) (hX8.under had)
       refine hK13 _ _ (fun _=>hS) ?_
       clear hK13
       clear hr1' hr2' hb10 hcd hS
       have hacz:=hac.size
       generalize wc.alloc _=wd at *
       generalize wc.heap.size=nb at *
       have htwo9:=htwo8.below had
       have hwas:=hb0.size
       have hla':∀ k,Go.St.blk af=some k→k<wa.heap.size:=fun k hk=>(htwo8.1.lt k hk).2
       have hlq':∀ k,Go.St.blk aq=some k→k<wa.heap.size:=fun k hk=>(htwo8.2.1.lt k hk).2
       have hsrc:=A03 hN hsi hdi (two.okof (lo:=wk.heap.size+2) (ao:=af) (bo:=aq) hr1'' (by have:=hO8.lt;omega) hla' hlq') (two.okof (lo:=wk.heap.size+2) (ao:=af) (bo:=aq) hr2'' (by have:=hO8.lt;omega) hla' hlq')
       refine A7 (i:=14) rfl (by kernel_rfl) (by kernel_rfl) fun K14 hK14=>?_
       refine Q3 (sh:=H6) (n:=m) (m:=1) (.tmp 92) (.tmp 104) 26 (by rfl) 56 j0 (.agg #[.int .i64 0,.int .i64 0,.slice none 0 0,.slice none 0 0]) 64 Tryz.underlying26 gi gz0 gz1 gz2 rfl (by decide) (ok:=twn (wk.heap.size+2) wd af aq) (base:=wk.heap.size+2) (by rfl) htwo9.1 (by rfl) rfl hsrc (by simp only [maxLen];omega) (by omega) (by have:=had.size;have:=hO8.lt;omega) ?_
       intro af' cf' we' hof hgf hlief
       have hne:∀ b,b≤wk.heap.size+1→some b≠Go.St.blk af:=fun b hbb e=>by have:=(htwo9.1.lt _ e.symm).1;omega
       have hOf:=(hO8.under had).grown hgf (hne _ (by omega))
       have hPf:=(hP8.under had).grown hgf (hne _ (by omega))
       have hXf:=(hX8.under had).grown hgf (fun e=>by have:=hlf _ e.symm;omega)
       have hbf:Below wk.heap.size wk we':=hb11.trans (D6 (B:=wk.heap.size) hgf (fun k hk=>by have:=(htwo9.1.lt k hk).1;omega) hb11.size)
       have htwof:=htwo9.grownA hof hgf hlief
       simp only [Act.put,St.tA,St.tD,St.tE,St.tS,St.tC,St.tZ]
       have hS:_:=SP.of hOf hXf
       refine hK14 _ _ (fun _=>hS) ?_
       clear hK14
       clear hof hsrc htwo9 hgf
       refine A9 hQp hS [15] ?_
       iterate 1 (refine B2 _ rfl (by kernel_rfl) (A0 (by kernel_rfl) (by intro w0 hw0;have hw1:=hw0;simp only [SP] at hw1;first|(go_simp;done)|(go_simp;rfl))) ?_;simp only [Act.put,St.tA,St.tD,St.tE,St.tS,St.tC,St.tZ])
       refine B3 ?_
       clear hS
       refine A7 (i:=16) rfl (by kernel_rfl) (by kernel_rfl) fun K16 hK16=>?_
       obtain ⟨o1,o2⟩:=hOf.cells
       have hofl:=hOf.lt
       go_simp
       go_wp2_with fail
       refine hK16 _ _ (fun h=>absurd rfl h) ?_
       clear hK16
       refine B5 (by kernel_rfl) ?_ _
       refine hR _ _ ?_
       iterate 16 apply Exists.intro
       refine ⟨?_,⟨af',cf',htwof.setOther (by omega),hOf.set 1 (.slice af' (m+1) cf'),by (repeat' (first|with_reducible (first|exact Below.refl _ _|assumption|refine Below.drew ?_|refine A3 ?_ _|refine Below.alloc ?_ ?_ _|refine Below.setCell ?_ ?_ _)|omega|(simp;done)|(simp;omega))),hPf.setOther (by first|(simp;done)|(simp;omega)) _⟩⟩
       simp only [C8,Act.put,St.tS,St.tC,St.tZ]
       rfl
      rintro a' w8 ⟨v91,v92,v93,v94,v95,v96,v97,v98,v99,v100,v101,v102,v103,v104,v105,v106,rfl,hb8⟩
      simp only [C8,Act.put,St.tS,St.tC,St.tZ]
      clear hO6 hP6 htwo6 hb6 hX6 hb s2 hS0 hwo6 hlf hlq hvi hni
      obtain ⟨af',cf',htwo7,hO7,hb7,hP7⟩:=hb8
      rename World=>w7
      have e4:=HCE.out _ hb7
      have hgl7:g2<w7.heap.size:=by have:=hb7.size;omega
      have hS0:SQ4 (wk.heap.size+1) 2 wk.heap.size 2 g2 (off2+m) (.slice aq m cq) (.slice (some ⟨g2,off2,none⟩) p.paths.length pc) (.slice qa pt.length qc) w7.drew:=⟨hO7.cells.1 2,hP7.cells.1 2,e4⟩
      obtain ⟨l0,ki,kz0,kz1,kz2⟩:=info_parts A1v
      go_wp2
      refine B9 (SQ4 (wk.heap.size+1) 2 wk.heap.size 2 g2 (off2+m) (.slice aq m cq) (.slice (some ⟨g2,off2,none⟩) p.paths.length pc) (.slice qa pt.length qc)) 11 (fun a0 a' w'=>∃ v107 v108 v109 v110 v111 v112 v113 v114 v115 v116 v117,a'=C8 a0 [(107,v107),(108,v108),(109,v109),(110,v110),(111,v111),(112,v112),(113,v113),(114,v114),(115,v115),(116,v116),(117,v117)]∧∃ aq' cq',two H6 56 (F7 C2) 72 (wk.heap.size+2) w' af' (m+1) cf' (p.flows.take m++[f]) aq' (m+1) cq' (p.paths.take m++[pt])∧A6 w' (wk.heap.size+1) 34 #[.int .i64 p.ver,.slice af' (m+1) cf',.slice aq' (m+1) cq']∧Below wk.heap.size wk w'∧A6 w' wk.heap.size 34 #[.int .i64 p.ver,.slice (some ⟨g3,off3,none⟩) p.flows.length fc,.slice (some ⟨g2,off2,none⟩) p.paths.length pc]) (by kernel_rfl) ?_ ?_
      ·intro Q' hR hQp
       have hb0:Below w7.heap.size w7 w7.drew:=N4 _
       have hS:SQ4 (wk.heap.size+1) 2 wk.heap.size 2 g2 (off2+m) (.slice aq m cq) (.slice (some ⟨g2,off2,none⟩) p.paths.length pc) (.slice qa pt.length qc) w7.drew:=hS0
       generalize w7.drew=wa at *
       have hO1:=hO7.under hb0
       have hP1:=hP7.under hb0
       have htwo1:=htwo7.below hb0
       have hb1:Below wk.heap.size wk wa:=hb7.trans (hb0.mono hb7.size)
       have e5:=B8 hb0 hgl7 e4
       refine A9 hQp hS [0,1,2,3,4,5,6] ?_
       iterate 7 (refine B2 _ rfl (by kernel_rfl) (A0 (by kernel_rfl) (by intro w0 hw0;have hw1:=hw0;simp only [SQ4] at hw1;first|(go_simp;done)|(go_simp;rfl))) ?_;simp only [Act.put,St.tA,St.tD,St.tE,St.tS,St.tC,St.tZ])
       refine B3 ?_
       clear hS
       refine A7 (i:=7) rfl (by kernel_rfl) (by kernel_rfl) fun K7 hK7=>?_
       go_simp
       go_wp2_with fail
       refine (A8p pt _ qa qc wa (hqr.below hb1) (by omega)).mono ?_
       rintro e wb ⟨a1,c1,rfl,hr1,hab⟩
       have hb2:Below wk.heap.size wk wb:=hb1.trans (hab.mono hb1.size)
       have hgla:g2<wa.heap.size:=by have:=hb0.size;omega
       go_wp2_with fail
       have hS:_:=(show SQ4 (wk.heap.size+1) 2 wk.heap.size 2 g2 (off2+m) (.slice aq m cq) (.slice (some ⟨g2,off2,none⟩) p.paths.length pc) (.slice qa pt.length qc) wb from ⟨(hO1.under hab).cells.1 2,(hP1.under hab).cells.1 2,B8 hab hgla e5⟩)
       refine hK7 _ _ (fun _=>hS) ?_
       clear hK7
       clear hS
       have hlf':∀ k,Go.St.blk af'=some k→k<wa.heap.size:=fun k hk=>(htwo1.1.lt k hk).2
       have hlp':∀ k,Go.St.blk aq=some k→k<wa.heap.size:=fun k hk=>(htwo1.2.1.lt k hk).2
       refine A7 (i:=8) rfl (by kernel_rfl) (by kernel_rfl) fun K8 hK8=>?_
       go_simp
       go_wp2_with fail
       have hbc:=G8 wb (.cells #[.slice a1 pt.length c1] 72)
       have hac:=hab.trans (hbc.mono hab.size)
       have hN:=I6 wb 72 #[.slice a1 pt.length c1]
       have hr2:=hr1.fresh.below hbc
       have hb3:=hb2.trans (hbc.mono hb2.size)
       have hS:_:=(show SQ4 (wk.heap.size+1) 2 wk.heap.size 2 g2 (off2+m) (.slice aq m cq) (.slice (some ⟨g2,off2,none⟩) p.paths.length pc) (.slice qa pt.length qc) (wb.alloc (.cells #[.slice a1 pt.length c1] 72)) from ⟨(hO1.under hac).cells.1 2,(hP1.under hac).cells.1 2,B8 hac hgla e5⟩)
       refine hK8 _ _ (fun _=>hS) ?_
       clear hK8
       clear hS
       have hsz3:=hac.size
       generalize wb.alloc _=wc at *
       generalize wb.heap.size=nb at *
       have htwo3:=htwo1.below hac
       have hsrc:=A0z hN (two.okof (lo:=wk.heap.size+2) (ao:=af') (bo:=aq) hr2 (by have:=hb1.size;have:=hO1.lt;omega) hlf' hlp')
       refine A7 (i:=9) rfl (by kernel_rfl) (by kernel_rfl) fun K9 hK9=>?_
       refine Q3 (sh:=F7 C2) (n:=m) (m:=1) (.tmp 108) (.tmp 115) 32 (by rfl) 72 l0 (.slice none 0 0) 24 Tryz.underlying32 ki kz0 kz1 kz2 rfl (by decide) (ok:=twn (wk.heap.size+2) wc af' aq) (base:=wk.heap.size+2) (by rfl) htwo3.2.1 (by rfl) rfl hsrc (by simp only [maxLen];omega) (by omega) (by have:=hO1.lt;omega) ?_
       intro aq' cq' wd hop hgp hliep
       have hne:∀ b,b≤wk.heap.size+1→some b≠Go.St.blk aq:=fun b hbb e=>by have:=(htwo3.2.1.lt _ e.symm).1;omega
       have hO4:=(hO1.under hac).grown hgp (hne _ (by omega))
       have hP4:=(hP1.under hac).grown hgp (hne _ (by omega))
       have hbgp:Below wk.heap.size wc wd:=D6 (B:=wk.heap.size) hgp (fun k hk=>by have:=(htwo3.2.1.lt k hk).1;omega) hb3.size
       have hb4:Below wk.heap.size wk wd:=hb3.trans hbgp
       have htwo4:=htwo3.grownB hop hgp hliep
       have e6:=B8 hbgp hg2l (B8 hac hgla e5)
       simp only [Act.put,St.tA,St.tD,St.tE,St.tS,St.tC,St.tZ]
       have hS:_:=(show SQ4 (wk.heap.size+1) 2 wk.heap.size 2 g2 (off2+m) (.slice aq m cq) (.slice (some ⟨g2,off2,none⟩) p.paths.length pc) (.slice qa pt.length qc) wd from ⟨hO4.cells.1 2,hP4.cells.1 2,e6⟩)
       refine hK9 _ _ (fun _=>hS) ?_
       clear hK9
       clear hop hsrc htwo3 hgp
       refine A9 hQp hS [10] ?_
       iterate 1 (refine B2 _ rfl (by kernel_rfl) (A0 (by kernel_rfl) (by intro w0 hw0;have hw1:=hw0;simp only [SQ4] at hw1;first|(go_simp;done)|(go_simp;rfl))) ?_;simp only [Act.put,St.tA,St.tD,St.tE,St.tS,St.tC,St.tZ])
       refine B3 ?_
       clear hS
       refine A7 (i:=11) rfl (by kernel_rfl) (by kernel_rfl) fun K11 hK11=>?_
       obtain ⟨o1,o2⟩:=hO4.cells
       have hofl:=hO4.lt
       go_simp
       go_wp2_with fail
       refine hK11 _ _ (fun h=>absurd rfl h) ?_
       clear hK11
       refine B5 (by kernel_rfl) ?_ _
       refine hR _ _ ?_
       iterate 11 apply Exists.intro
       refine ⟨?_,⟨aq',cq',htwo4.setOther (by omega),hO4.set 2 (.slice aq' (m+1) cq'),by (repeat' (first|with_reducible (first|exact Below.refl _ _|assumption|refine Below.drew ?_|refine A3 ?_ _|refine Below.alloc ?_ ?_ _|refine Below.setCell ?_ ?_ _)|omega|(simp;done)|(simp;omega))),hP4.setOther (by first|(simp;done)|(simp;omega)) _⟩⟩
       simp only [C8,Act.put,St.tS,St.tC,St.tZ]
       rfl
      rintro a' w8 ⟨v107,v108,v109,v110,v111,v112,v113,v114,v115,v116,v117,rfl,hb8⟩
      simp only [C8,Act.put,St.tS,St.tC,St.tZ]
      clear hO7 hP7 htwo7 hb7 hS0
      obtain ⟨aq',cq',htwo9,hO9,hb9,hP9⟩:=hb8
      go_wp2
      case roundEnd=>
       go_roundw
       case rel=>exact ⟨m+1,af',cf',aq',cq',by go_num,by omega,hO9,by rw [HTF.out,HTP.out];exact htwo9,hb9,hP9⟩
       case measure=>simp [intOf]<;>omega
    have HKN:=Lib.hid (show kk=n.plans.length by omega)
    have c3:¬(kk:Int)<(n.plans.length:Int):=by omega
    have htk:n.plans.take kk=n.plans:=List.take_of_length_le (by omega)
    rw [htk] at hown
    clear htk hkl
    have hFk:Frm (fun _=>True) R wj wk:=Frm.of hbC (by omega)
    have hIk:=hI.frm hFk (fun _ _ _=>.inl trivial)
    have hOk:=hO.frm hFk (.inl trivial) (fun _ _ _=>.inl trivial)
    have hBk9:=hBk.frm hFk (.inl trivial) (fun _ _ _=>.inl trivial)
    have hXk:=hX.under hbC
    have hZk:=hZ.under hbC
    have hBl9:=hBl.trans (hFk.weak (fun _ _ _=>.inl trivial) (Nat.le_refl _))
    have hrow:A8 C3 (fun b=>wj.heap.size≤b) wk ap cp n.plans:=hown.row (fun b hb=>hb.1) (fun k2 hk2=>(hown.lt k2 hk2).1)
    have hol9:=hXk.lt
    have hzl9:=hZk.lt
    obtain ⟨x1,x2⟩:=hXk.cells
    have hXs:=hXk.set 13 (.slice ap kk cp)
    simp only [St.tS,St.tC,St.tZ] at hXs
    obtain ⟨y1,y2⟩:=hXs.cells
    obtain ⟨ln0,ln1,ln2⟩:=B7.st (P:=Tryz.prog) hIk.now
    obtain ⟨lx0,lx1,lx2⟩:=B7.st (P:=Tryz.prog) hIk.next
    have hZs:=hZk.setOther (a:=⟨w.heap.size,13,none⟩) (by first|(simp;done)|(simp;omega)) (.slice ap kk cp)
    have hoo:=hO.lt
    have hbb:=hBk.lt
    have hwr:R≤w.heap.size:=hR8
    obtain ⟨wz9,hwz9,hE1,hE2,hE3⟩:=B2h (R:=R) (b:=w.heap.size) hIk hOk hBk9 hZk hol9 hwr hrow (by omega) hoL hbL HSL.out hN9 HKN.out (by omega) (by omega) (fun k9 hk9=>⟨hk9.2.2.1,hk9.2.2.2.1⟩) (fun k9 hk9=>hk9.2.2.2.2) (fun k9 hk9 hy=>by have:=hY k9 hy;omega) (fun hy=>by have:=hY _ hy;omega) (fun hy=>by have:=hY _ hy;omega)
    subst hwz9
    have hbz:=Lib.hid ((hBl9.trans (hE3.weak (fun b _ hb=>.inl ⟨by omega,by omega⟩) (Nat.le_refl _))).weak (V:=fun b=>¬M b) (fun b hl hb=>.inl ⟨⟨fun e=>hb (e▸hMO9),fun e=>hb (e▸hMB9)⟩,hl⟩) (Nat.le_refl _))
    have HE:=Lib.hid hE2
    obtain ⟨z1,z2⟩:=hE1.cells
    obtain ⟨q1,q2⟩:=hZk.cells
    obtain ⟨r1,r2⟩:=hZs.cells
    clear hE1 hE2 hE3 hIk hOk hBk9 hrow hI hO hBk hown hX hZ hZk hls hBl hBl9 hFk hXk hXs hZs
    go_wp2_with ((with_reducible refine bodyPost_ret (v:=.agg ([.int .i64 n.ctl.stage,V.n0,V.n1,V.n2,V.x0,V.x1,V.x2,.int .i64 n.ctl.num,.slice V.qa n.ctl.waits.length V.qc,.slice (some ⟨V.sb,0,none⟩) i i,.slice (some ⟨V.ob,0,none⟩) i i,.slice (some ⟨V.bb,0,none⟩) i i,.slice V.pa n.packets.length V.pc,.slice ap kk cp]).toArray) ?ra1 ?rb1 ?rc1);go_must (case ra1=>simp [results,Tryz.results18,go_sem,z1]);go_must (case rb1=>rfl);go_must (case rc1=>exact ⟨_,rfl,HE.out,hbz.out⟩))
end Go.Proofs.YtampcbncgofkoaaGreatDoor
