/- Texts of this proof, one behind the other. -/
import Derived.Test.YtampcbncgofkoaaQ6
import Derived.Test.YtampcbncgofkoaaQ4
import Derived.Test.YtampcbncgofkoaaQ3
import Derived.Test.YtampcbncgofkoaaPk42
set_option linter.unusedSimpArgs false
set_option linter.unusedVariables false
set_option maxRecDepth 100000
set_option maxHeartbeats 16000000
namespace Go.St
open Go.RowKit
structure C0y (a b:Nat) (c:List Do) (R:Net × List Int × (Int × Int)):Prop where
 err:R.2.2.1=0
 at_:R.2.1[c.length]? =some (if a+b≤16 then 0 else 10)
theorem C0w {a b:Nat} (ha:a≤12) (hb:b≤12):C0y a b (B85 (H3 2) (B85 (H3 2) [B9y (List.replicate a (B98 0 1))]++[B8e])) (D9 (H3 2) (B85 (H3 2) (B85 (H3 2) [B9y (List.replicate a (B98 0 1))]++[B8e])++[B9y (List.replicate b (B98 0 1))])):=by
 have h:=C0v
 rw [List.all_eq_true] at h
 have h':=h a (List.mem_range.2 (by omega))
 rw [List.all_eq_true] at h'
 have h2:=h' b (List.mem_range.2 (by omega))
 unfold C0l C06 at h2
 simp only [Bool.and_eq_true,decide_eq_true_eq] at h2
 exact ⟨h2.1,h2.2⟩
theorem C0f {w:World} {fa:Option Addr} {fc:Nat} {fl:List E0} {ok:Nat→Prop} (h:A8 H6 ok w fa fc fl):doS.rep ok w [.int .i64 1,.int .i64 0,.slice fa fl.length fc] (B9y fl):=
 ⟨fa,fc,rfl,I64.small (n:=1) (by decide) (by decide),I64.small (n:=0) (by decide) (by decide),h⟩
theorem C0t {w:World} {fa:Option Addr} {fc:Nat} {e:TypeId} {fl:List E0} (h:A8 H6 (fun b=>b<w.heap.size) w fa fc fl) {base:Nat} (hb:base≤w.heap.size):C7 doS e (fun b=>b<w.heap.size) base (w.alloc (.cells #[.int .i64 1,.int .i64 0,.slice fa fl.length fc] e)) (some ⟨w.heap.size,0,none⟩) 1 1 [B9y fl]:=by
  refine C7.lit (cs:=[.int .i64 1,.int .i64 0,.slice fa fl.length fc]) rfl rfl hb (by decide) (fun i d hd=>?_) (fun b hb=>hb)
  match i,hd with
  |0,hd=>
    obtain rfl:_=d:=by simpa using hd
    exact C0f (h.below ((Below.refl _ _).alloc (Nat.le_refl _) _))
  |i+1,hd=>simp at hd
end Go.St
namespace Go.Proofs.Ytampcbncgofkoaa
open Go.RowKit Go.St
theorem C0i:(Try.prog.info? 28).map (fun i=>(i.zero,i.size,i.bytes))=some (some (.agg #[.int .i64 0,.int .i64 0,.slice none 0 0,.slice none 0 0]),4,64):=by kernel_rfl
theorem C0k (n:Nat) (hn:n≤12) (w:World):Calls Try.prog 15 #[.int .i64 (n:Int)] w fun e w'=>∃ (la:Option Addr) (lc:Nat),e=.returned (.slice la n lc)∧A8 H6 (fun b=>w.heap.size≤b) w' la lc (List.replicate n (B98 0 1))∧Below w.heap.size w w':=by
 obtain ⟨i0,gi,gz0,gz1,gz2⟩:=info_parts C0i
 go_enter Try.func15,Try.ntmps15
 go_wp2
 go_loopw [3,5] (fun lv idx wr=>∃ (i:Nat) (la:Option Addr) (lc:Nat),lv=.slice la i lc∧idx=.int .i64 i∧i≤n∧C7 H6 28 (fun _=>False) w.heap.size wr la i lc (List.replicate i (B98 0 1))∧Below w.heap.size w wr) (fun _ idx _=>n - (intOf idx).toNat)
 case atStart=>exact ⟨0,none,0,rfl,rfl,Nat.zero_le _,C7.nil _ _ _ _ _ (fun _ h=>h.elim),Below.refl _ _⟩
 case round=>
  obtain ⟨i,la,lc,rfl,rfl,hi,hO,hb⟩:=hrel
  rename World=>wo
  by_cases hlt:i<n
  case neg=>
   have b1:¬(i:Int)<(n:Int):=by omega
   obtain rfl:i=n:=by omega
   go_wp2
   go_ret;exact ⟨la,lc,rfl,hO.row (fun _ h=>h.elim) (fun k hk=>(hO.lt k hk).1),hb⟩
  have b1:(i:Int)<(n:Int):=by omega
  have hbx:=B8j wo (.cells #[.int .i64 0,.int .i64 1,.slice none 0 0,.slice none 0 0] 28)
  have hE:=I6 wo 28 #[.int .i64 0,.int .i64 1,.slice none 0 0,.slice none 0 0]
  have hO4:=hO.below hbx
  have hb4:=hb.trans (hbx.mono hb.size)
  have hz4:=hb4.size
  have hsrc:=B9l (sh:=H6) (ok:=fun _=>False) (x:=B98 0 1) hE ⟨none,0,none,0,rfl,I64.small (n:=((0:Nat):Int)) (by decide) (by decide),I64.small (n:=((1:Nat):Int)) (by decide) (by decide),A8.nil _ _ _ _,A8.nil _ _ _ _⟩
  clear hO hb hbx hE
  go_wp2_with (at_builtin;go_must (refine H4 (sh:=H6) (n:=i) (m:=1) rfl _ _ 29 rfl 28 i0 (.agg #[.int .i64 0,.int .i64 0,.slice none 0 0,.slice none 0 0]) 64 Try.underlying29 gi gz0 gz1 gz2 rfl (by decide) rfl hO4 rfl rfl hsrc (by simp only [maxLen];omega) (by omega) hz4 ?_);go_must (intro la5 lc5 w5 hO5 hg5 hd5))
  case roundEnd=>
   have hb5:=hb4.trans (D6 hg5 (fun k hk=>(hO4.lt k hk).1) hz4)
   rw [←List.replicate_succ'] at hO5
   go_roundw
   case rel=>exact ⟨i+1,la5,lc5,rfl,by go_num,by omega,hO5,hb5⟩
   case measure=>simp [intOf]<;>omega
theorem C0o (w:World) (a:Int) (ha:I64 a) (b:Int) (hb:I64 b):Calls Try.prog 4 #[.int .i64 a,.int .i64 b] w fun e w'=>e=.returned (.bool true)∧Below w.heap.size w w':=by
 obtain ⟨i0,gi,gz0,gz1,gz2⟩:=info_parts B92
 go_enter Try.func4,Try.ntmps4
 go_wp2_with fail
 refine (B9f _).mono ?_
 rintro e w1 ⟨rfl,hB1⟩
 by_cases ha0:a<0
 case pos=>
  go_wp2
  go_ret;exact ⟨rfl,hB1⟩
 by_cases hb0:b<0
 case pos=>
  go_wp2
  go_ret;exact ⟨rfl,hB1⟩
 by_cases ha12:12<a
 case pos=>
  go_wp2
  go_ret;exact ⟨rfl,hB1⟩
 by_cases hb12:12<b
 case pos=>
  go_wp2
  go_ret;exact ⟨rfl,hB1⟩
 obtain ⟨A,rfl⟩:∃ A:Nat,a=(A:Int):=⟨a.toNat,by omega⟩
 obtain ⟨B,rfl⟩:∃ B:Nat,b=(B:Int):=⟨b.toNat,by omega⟩
 have hA12:A≤12:=by omega
 have hB12:B≤12:=by omega
 have HL:=Lib.hid (fun w=>B9j 2 (by decide) w)
 have HA:=Lib.hid (fun w=>C0k A hA12 w)
 have HB:=Lib.hid (fun w=>C0k B hB12 w)
 have HFO:=Lib.hid (C0w hA12 hB12)
 have hm1:=C03 (H3 2) [B9y (List.replicate A (B98 0 1))]
 have HD1:=Lib.hid (B9q (H3 2))
 clear ha hb
 go_wp2_with fail
 refine (HL.out _).mono ?_
 rintro e w2 ⟨la,lc,rfl,hL2,hb2,_⟩
 have hB2:=hB1.trans (hb2.mono hB1.size)
 go_wp2_with fail
 refine (HA.out _).mono ?_
 rintro e w3 ⟨fa,fc,rfl,hF3,hb3⟩
 have hB3:=hB2.trans (hb3.mono hB2.size)
 have hfl:(List.replicate A (B98 0 1)).length=A:=List.length_replicate
 have hO3:=C0t (e:=41) (hF3.mono (ok':=fun b=>b<w3.heap.size) (fun b hl _=>⟨hl,rfl⟩)) (Nat.le_refl w3.heap.size)
 rw [hfl] at hO3
 have hbx:=B8j w3 (.cells #[.int .i64 1,.int .i64 0,.slice fa A fc] 41)
 have hT4:I5.rep (fun b=>b<w2.heap.size) (w3.alloc (.cells #[.int .i64 1,.int .i64 0,.slice fa A fc] 41)) [.int .i64 ((2:Nat):Int),.slice la (2 - 1) lc] (H3 2):=I5.below (I5.below (I5.mono (B95 (by decide) hL2) (ok':=fun b=>b<w2.heap.size) (fun b hl _=>⟨hl,rfl⟩)) hb3) hbx
 have hB4:=hB3.trans (hbx.mono hB3.size)
 have hw3:w.heap.size≤w3.heap.size:=hB3.size
 have hz23:=hb3.size
 have hz4:w3.heap.size≤(w3.alloc (.cells #[.int .i64 1,.int .i64 0,.slice fa A fc] 41)).heap.size:=hbx.size
 clear hF3 hL2 hfl hbx hb3 hb2 hB1 hB2 hB3
 go_wp2_with fail
 generalize w3.alloc _=w4 at *
 refine (HD1.out _ (fun b=>b<w2.heap.size) (fun b=>b<w3.heap.size) w3.heap.size w4 hT4 [B9y (List.replicate A (B98 0 1))] _ _ hO3 hz4 (fun b hb e=>by have h9:w3.heap.size=b:=(by simpa [Go.St.blk] using e);omega) (by simp)).mono ?_
 rintro e w5 ⟨ma,mc,rfl,hO5,hG5⟩
 have hB5:=hB4.trans (hG5.below.mono hw3)
 have hz5:w3.heap.size≤w5.heap.size:=Nat.le_trans hz4 hG5.size
 have hcl1:(B85 (H3 2) [B9y (List.replicate A (B98 0 1))]).length≤216:=by simpa using hm1
 have hm2:=C03 (H3 2) (B85 (H3 2) [B9y (List.replicate A (B98 0 1))]++[B8e])
 generalize B85 (H3 2) [B9y (List.replicate A (B98 0 1))]=c1 at *
 have hl1:(c1++[B8e]).length=c1.length+1:=by simp
 rw [hl1] at hm2
 have hcl2:(B85 (H3 2) (c1++[B8e])).length≤220:=by omega
 obtain ⟨c2,hc2⟩:∃ c2,B85 (H3 2) (c1++[B8e])=c2:=⟨_,rfl⟩
 rw [hc2] at hcl2 HFO
 have HC2:=Lib.hid hc2
 have HL1:=Lib.hid hl1
 have hma:∀ k,Go.St.blk ma=some k→k<w5.heap.size:=fun k hk=>(hO5.lt k hk).2
 clear hO3 hT4 hG5 hB4 hz23 hz4 hm1 hm2 hc2 hl1
 go_wp2_with fail
 refine (HL.out _).mono ?_
 rintro e w6 ⟨la,lc,rfl,hL6,hb6,_⟩
 have hO6:=hO5.below hb6
 have hB6:=hB5.trans (hb6.mono hB5.size)
 have hT6:=I5.mono (B95 (by decide) hL6) (ok':=fun b=>w5.heap.size≤b∧b<w6.heap.size) (w':=w6) (fun b hl hb=>⟨⟨by omega,hl⟩,rfl⟩)
 go_wp2_with fail
 refine (B9t _ _ _).mono ?_
 rintro e w7 ⟨rfl,hb7⟩
 have hbx:=B8j w7 (.cells #[.int .i64 6,.int .i64 0,.slice none 0 0] 41)
 have hE:=I6 w7 41 #[.int .i64 6,.int .i64 0,.slice none 0 0]
 have hb8:=hb7.trans (hbx.mono hb7.size)
 have hO8:=hO6.below hb8
 have hT8:=I5.below hT6 hb8
 have hB8:=hB6.trans (hb8.mono hB6.size)
 have hz8:w3.heap.size≤(w7.alloc (.cells #[.int .i64 6,.int .i64 0,.slice none 0 0] 41)).heap.size:=Nat.le_trans hz5 (Nat.le_trans hb6.size hb8.size)
 have hz68:w6.heap.size≤(w7.alloc (.cells #[.int .i64 6,.int .i64 0,.slice none 0 0] 41)).heap.size:=hb8.size
 have hz56:=hb6.size
 have hz67:=hb7.size
 have hsrc:=B9l (sh:=doS) (ok:=fun b=>b<w3.heap.size) (x:=B8e) hE ⟨none,0,rfl,I64.small (n:=6) (by decide) (by decide),I64.small (n:=0) (by decide) (by decide),A8.nil _ _ _ _⟩
 clear hO6 hO5 hT6 hL6 hB6 hb6 hb7 hb8 hbx hE hB5
 go_wp2_with (at_builtin;go_must (refine H4 (sh:=doS) (n:=c1.length) (m:=1) rfl _ _ 38 rfl 41 i0 (.agg #[.int .i64 0,.int .i64 0,.slice none 0 0]) 40 Try.underlying38 gi gz0 gz1 gz2 rfl (by decide) rfl hO8 rfl rfl hsrc (by simp only [maxLen];omega) (by omega) hz8 ?_);go_must (intro ma9 mc9 w9 hO9 hg9 hd9))
 have hB9:=hB8.trans (D6 (B:=w.heap.size) hg9 (fun k hk=>by have:=(hO8.lt k hk).1;omega) (by omega))
 have hT9:I5.rep (fun b=>w5.heap.size≤b∧b<w6.heap.size) w9 [.int .i64 ((2:Nat):Int),.slice la (2 - 1) lc] (H3 2):=(Frm.grown (W:=fun b=>Go.St.blk ma≠some b) (B:=w3.heap.size) hg9 (fun k hk=>⟨fun h=>h hk,(hO8.lt k hk).1⟩) hz8).rep' hT8 (fun b hb=>.inl (fun e=>by have:=hma b e;omega))
 have hz9:w3.heap.size≤w9.heap.size:=Nat.le_trans hz8 hg9.size
 have hne9:∀ b,(w5.heap.size≤b∧b<w6.heap.size)→Go.St.blk ma9≠some b:=fun b hb e=>by
  rcases hd9 with h9|h9
  ·rw [h9] at e;have:=hma b e;omega
  ·rw [h9] at e
   have h10:_=b:=(by simpa using e)
   omega
 have HDR:=HD1.out _ (fun b=>w5.heap.size≤b∧b<w6.heap.size) (fun b=>b<w3.heap.size) w3.heap.size w9 hT9 (c1++[B8e]) ma9 mc9 (by rw [HL1.out];exact hO9) hz9 hne9 (by rw [HL1.out];omega)
 rw [HC2.out,HL1.out] at HDR
 refine HDR.mono ?_
 rintro e w10 ⟨mb,mbc,rfl,hO10,hG10⟩
 have hB10:=hB9.trans (hG10.below.mono hw3)
 have hz10:w3.heap.size≤w10.heap.size:=Nat.le_trans hz9 hG10.size
 have hmb:∀ k,Go.St.blk mb=some k→k<w10.heap.size:=fun k hk=>(hO10.lt k hk).2
 clear HDR hT9 hT8 hO9 hO8 hG10 hg9 hd9 hne9 hB9 hB8 hz8 hz68 hz9 hsrc hma hz56
 go_wp2_with fail
 refine (HL.out _).mono ?_
 rintro e w11 ⟨la,lc,rfl,hL11,hb11,_⟩
 have hT11:=I5.mono (B95 (by decide) hL11) (ok':=fun b=>w10.heap.size≤b∧b<w11.heap.size) (w':=w11) (fun b hl hb=>⟨⟨by omega,hl⟩,rfl⟩)
 go_wp2_with fail
 refine (HB.out _).mono ?_
 rintro e w12 ⟨fa,fc,rfl,hF12,hb12⟩
 have hfl:(List.replicate B (B98 0 1)).length=B:=List.length_replicate
 have hbx:=B8j w12 (.cells #[.int .i64 1,.int .i64 0,.slice fa B fc] 41)
 have hE:=I6 w12 41 #[.int .i64 1,.int .i64 0,.slice fa B fc]
 have hb13:=hb11.trans ((hb12.trans (hbx.mono hb12.size)).mono hb11.size)
 have hO13:C7 doS 41 (fun b=>b<w3.heap.size∨(w11.heap.size≤b∧b<w12.heap.size)) w3.heap.size (w12.alloc (.cells #[.int .i64 1,.int .i64 0,.slice fa B fc] 41)) mb c2.length mbc c2:=(hO10.below hb13).weaken (fun b h=>.inl h) (fun k hk h=>by
  rcases h with h|h
  ·have:=(hO10.lt k hk).1;omega
  ·have:=hmb k hk;have:=hb11.size;omega) (fun b h=>by
  have:=hbx.size;have:=hb12.size;have:=hb11.size
  rcases h with h|h<;>omega)
 have hT13:=I5.below (I5.below hT11 hb12) hbx
 have hB13:=hB10.trans (hb13.mono hB10.size)
 have hz13:w3.heap.size≤(w12.alloc (.cells #[.int .i64 1,.int .i64 0,.slice fa B fc] 41)).heap.size:=Nat.le_trans hz10 hb13.size
 have hz1113:w11.heap.size≤(w12.alloc (.cells #[.int .i64 1,.int .i64 0,.slice fa B fc] 41)).heap.size:=Nat.le_trans hb12.size hbx.size
 have hz1011:=hb11.size
 have hask:=C0f ((hF12.mono (ok':=fun b=>b<w3.heap.size∨(w11.heap.size≤b∧b<w12.heap.size)) (fun b hl h=>⟨.inr ⟨h,hl⟩,rfl⟩)).below hbx)
 rw [hfl] at hask
 have hsrc:=B9l (sh:=doS) (x:=B9y (List.replicate B (B98 0 1))) hE hask
 have hl2:(c2++[B9y (List.replicate B (B98 0 1))]).length=c2.length+1:=by simp
 have HL2:=Lib.hid hl2
 clear hO10 hT11 hL11 hb11 hb12 hb13 hbx hE hF12 hfl hask hB10 hl2
 go_wp2_with (at_builtin;go_must (refine H4 (sh:=doS) (n:=c2.length) (m:=1) rfl _ _ 38 rfl 41 i0 (.agg #[.int .i64 0,.int .i64 0,.slice none 0 0]) 40 Try.underlying38 gi gz0 gz1 gz2 rfl (by decide) rfl hO13 rfl rfl hsrc (by simp only [maxLen];omega) (by omega) hz13 ?_);go_must (intro md mdc w13 hO14 hg14 hd14))
 have hB14:=hB13.trans (D6 (B:=w.heap.size) hg14 (fun k hk=>by have:=(hO13.lt k hk).1;omega) (by omega))
 have hT14:I5.rep (fun b=>w10.heap.size≤b∧b<w11.heap.size) w13 [.int .i64 ((2:Nat):Int),.slice la (2 - 1) lc] (H3 2):=(Frm.grown (W:=fun b=>Go.St.blk mb≠some b) (B:=w3.heap.size) hg14 (fun k hk=>⟨fun h=>h hk,(hO13.lt k hk).1⟩) hz13).rep' hT13 (fun b hb=>.inl (fun e=>by have:=hmb b e;omega))
 have hPC:=A2z (H3 2) _ _ w13 hT14 (c2++[B9y (List.replicate B (B98 0 1))]) md mdc _ ((show C7 doS 41 _ w3.heap.size w13 md (c2++[B9y (List.replicate B (B98 0 1))]).length mdc _ by rw [HL2.out];exact hO14).row (ok':=fun _=>True) (fun _ _=>trivial) (fun _ _=>trivial))
 rw [HL2.out] at hPC
 have hfe:=HFO.out.err
 have hat:=HFO.out.at_
 generalize D9 (H3 2) (c2++[B9y (List.replicate B (B98 0 1))])=RR at *
 obtain ⟨n,es,fe,ff⟩:=RR
 dsimp only at *
 subst hfe
 have HAT:=Lib.hid hat
 have hB13':=hB14
 clear hat hT14 hT13 hO13 hO14 hg14 hd14 hB14 hB13 hz13 hz1113 hz1011 hsrc hmb HC2 HL2 HL1
 refine hPC.mono ?_
 rintro e w20 ⟨cs,ea,ec,rfl,hn,he,hb20⟩
 have hB20:=hB13'.trans (hb20.mono hB13'.size)
 obtain ⟨n0,n1,n2,y0,y1,y2,wa,wc,sa,sc,oa,oc,ba,bc,pa,pc,pl,lc2,rfl,_,_,hnow,hnext,_⟩:=A0g.open8 hn
 obtain ⟨lp0,lp1,lp2⟩:=B7.st (P:=Try.prog) hnow
 obtain ⟨lq0,lq1,lq2⟩:=B7.st (P:=Try.prog) hnext
 have hbx:Below w20.heap.size w20 ((w20.alloc (.cells #[.int .i64 n.ctl.stage,n0,n1,n2,y0,y1,y2,.int .i64 n.ctl.num,.slice wa n.ctl.waits.length wc,.slice sa n.switches.length sc,.slice oa n.orders.length oc,.slice ba n.backs.length bc,.slice pa n.packets.length pc,.slice pl n.plans.length lc2] 51)).alloc (.cells #[.int .i64 0,.int .i64 ff] 35)):=A1t _ _ _
 have hG:A6 ((w20.alloc (.cells #[.int .i64 n.ctl.stage,n0,n1,n2,y0,y1,y2,.int .i64 n.ctl.num,.slice wa n.ctl.waits.length wc,.slice sa n.switches.length sc,.slice oa n.orders.length oc,.slice ba n.backs.length bc,.slice pa n.packets.length pc,.slice pl n.plans.length lc2] 51)).alloc (.cells #[.int .i64 0,.int .i64 ff] 35)) (w20.heap.size+1) 35 #[.int .i64 0,.int .i64 ff]:=A6.new (by simp)
 have hB21:=hB20.trans (hbx.mono hB20.size)
 obtain ⟨eg,eo,rfl,_,_,cs,rfl,hce⟩:=(he.below hbx).get HAT.out
 have q0:=hce 0 _ rfl
 rw [show A71.size=1 from rfl,Nat.add_zero,Nat.mul_one] at q0
 have k1:(c2.length:Int)<(es.length:Int):=by have:=(List.getElem?_eq_some_iff.1 HAT.out).1;omega
 have k0:(0:Int)≤(c2.length:Int):=by omega
 have hel:=he.len_le
 clear hnow hnext hn he hb20 hB13' hbx hB20 hPC hce
 go_upto_region 9 with fail
 generalize ((w20.alloc (.cells #[.int .i64 n.ctl.stage,n0,n1,n2,y0,y1,y2,.int .i64 n.ctl.num,.slice wa n.ctl.waits.length wc,.slice sa n.switches.length sc,.slice oa n.orders.length oc,.slice ba n.backs.length bc,.slice pa n.packets.length pc,.slice pl n.plans.length lc2] 51)).alloc (.cells #[.int .i64 0,.int .i64 ff] 35))=w21 at *
 generalize w20.heap.size=xb at *
 clear lp0 lp1 lp2 lq0 lq1 lq2
 obtain ⟨f1,f2⟩:=hG.cells
 have hgl:=hG.lt
 have hw9:IntKind.i64.wrap ((A:Int)+(B:Int))=(A:Int)+(B:Int):=IntWalk.i64_in _ (by omega)
 by_cases h16:A+B≤16
 ·rw [if_pos h16] at q0
  have k2:(A:Int)+(B:Int)≤16:=by omega
  go_wp2
  go_ret;exact ⟨rfl,hB21⟩
 ·rw [if_neg h16] at q0
  have k2:¬(A:Int)+(B:Int)≤16:=by omega
  go_wp2
  go_ret;exact ⟨rfl,hB21⟩
end Go.Proofs.Ytampcbncgofkoaa
namespace Go.St
open Go.RowKit
theorem C0s {t:C5} {f:E0} (hw:(I1 t f).2=0) {k:Nat} (hl:(C02 t f k).length≤200):(D9 t (C02 t f k)).2.2=(0,0)∧C0p t f k (D9 t (C02 t f k)).1:=by
 have ht:=(B0p hw).1
 rw [W2 ht hl]
 exact ⟨rfl,C07 hw k hl⟩
end Go.St
namespace Go.Proofs.Ytampcbncgofkoaa
open Go.RowKit Go.St
theorem C0n (w:World) (t:C5) (ts:List Value) (okt:Nat→Prop) (h:I5.rep okt w ts t) (a:Int) (ha:I64 a) (b:Int) (hb:I64 b) (m:Int) (hm:I64 m):
  Calls Try.prog 7 #[.agg ts.toArray,.int .i64 a,.int .i64 b,.int .i64 m] w fun e w'=>e=.returned (.bool true)∧Below w.heap.size w w':=by
 have hT:=h
 obtain ⟨la,lc0,rfl,htn,htr⟩:=h
 obtain ⟨i0,gi,gz0,gz1,gz2⟩:=info_parts B92
 have hB0:=G8 w (.cells #[.int .i64 t.n,.slice la t.links.length lc0] 24)
 have hT0:=I6 w 24 #[.int .i64 t.n,.slice la t.links.length lc0]
 go_enter Try.func7,Try.ntmps7
 go_wp2_with fail
 generalize w.alloc _=w0 at *
 refine (B9f _).mono ?_
 rintro e w1 ⟨rfl,hb1⟩
 have hB1:=hB0.trans (hb1.mono hB0.size)
 have hT1:=hT0.under hb1
 have htb1:w.heap.size<w1.heap.size:=hT1.lt
 obtain ⟨t1,t2⟩:=hT1.cells
 have htl:=hT1.lt
 clear hB0 hT0 hb1
 have hbx:Below w1.heap.size w1 ((w1.alloc (.cells #[.int .i64 a,.int .i64 b,.slice none 0 0,.slice none 0 0] 28)).alloc (.cells #[.int .i64 1,.int .i64 0,.slice (some ⟨w1.heap.size,0,none⟩) 1 1] 41)):=A1t _ _ _
 have hF2:A6 ((w1.alloc (.cells #[.int .i64 a,.int .i64 b,.slice none 0 0,.slice none 0 0] 28)).alloc (.cells #[.int .i64 1,.int .i64 0,.slice (some ⟨w1.heap.size,0,none⟩) 1 1] 41)) w1.heap.size 28 #[.int .i64 a,.int .i64 b,.slice none 0 0,.slice none 0 0]:=(A6.new rfl).alloc _
 have hD2:A6 ((w1.alloc (.cells #[.int .i64 a,.int .i64 b,.slice none 0 0,.slice none 0 0] 28)).alloc (.cells #[.int .i64 1,.int .i64 0,.slice (some ⟨w1.heap.size,0,none⟩) 1 1] 41)) (w1.heap.size+1) 41 #[.int .i64 1,.int .i64 0,.slice (some ⟨w1.heap.size,0,none⟩) 1 1]:=A6.new (by simp)
 have hB2:=hB1.trans (hbx.mono hB1.size)
 have hT2:=hT1.under hbx
 clear hbx hT1 hB1
 go_upto_region 4 with fail
 generalize ((w1.alloc (.cells #[.int .i64 a,.int .i64 b,.slice none 0 0,.slice none 0 0] 28)).alloc (.cells #[.int .i64 1,.int .i64 0,.slice (some ⟨w1.heap.size,0,none⟩) 1 1] 41))=w2 at *
 generalize w1.heap.size=fb at *
 clear t1 t2 htl
 have hTr2:I5.rep (fun b=>okt b∧b<w.heap.size) w2 [.int .i64 t.n,.slice la t.links.length lc0] t:=I5.mono hT (fun b hb ho=>⟨⟨ho,hb⟩,hB2.block b hb⟩)
 have hfb2:fb+1<w2.heap.size:=hD2.lt
 have hFr2:=B9h hF2 ha hb
 have HWB:=Lib.hid (show w.heap.size<fb by omega)
 generalize htb:w.heap.size=tb at hT2 htb1 ⊢
 have HTB:=Lib.hid htb
 clear htb
 have hS1:SC [(⟨tb,0,none⟩,(.int .i64 t.n)),(⟨tb,1,none⟩,(.slice la t.links.length lc0)),(⟨fb+1,0,none⟩,(.int .i64 1)),(⟨fb+1,1,none⟩,(.int .i64 0)),(⟨fb+1,2,none⟩,(.slice (some ⟨fb,0,none⟩) 1 1)),(⟨fb,0,none⟩,(.int .i64 a)),(⟨fb,1,none⟩,(.int .i64 b)),(⟨fb,2,none⟩,(.slice none 0 0)),(⟨fb,3,none⟩,(.slice none 0 0))] w2:=⟨hT2.cells.1 0,hT2.cells.1 1,hD2.cells.1 0,hD2.cells.1 1,hD2.cells.1 2,hF2.cells.1 0,hF2.cells.1 1,hF2.cells.1 2,hF2.cells.1 3,trivial⟩
 have hS0:SC [(⟨tb,0,none⟩,(.int .i64 t.n)),(⟨tb,1,none⟩,(.slice la t.links.length lc0)),(⟨fb+1,0,none⟩,(.int .i64 1)),(⟨fb+1,1,none⟩,(.int .i64 0)),(⟨fb+1,2,none⟩,(.slice (some ⟨fb,0,none⟩) 1 1)),(⟨fb,0,none⟩,(.int .i64 a)),(⟨fb,1,none⟩,(.int .i64 b)),(⟨fb,2,none⟩,(.slice none 0 0)),(⟨fb,3,none⟩,(.slice none 0 0))] w2.drew:=hS1
 have HFI:=Lib.hid (fun (w':World) (hb':Below w2.heap.size w2 w')=>B9r t ⟨a,b,[],[]⟩ _ [.int .i64 a,.int .i64 b,.slice none 0 0,.slice none 0 0] _ (fun _=>True) w' (I5.below hTr2 hb') ⟨_,_,_,_,rfl,ha,hb,A8.nil _ _ _ _,A8.nil _ _ _ _⟩)
 refine B9 (SC [(⟨tb,0,none⟩,(.int .i64 t.n)),(⟨tb,1,none⟩,(.slice la t.links.length lc0)),(⟨fb+1,0,none⟩,(.int .i64 1)),(⟨fb+1,1,none⟩,(.int .i64 0)),(⟨fb+1,2,none⟩,(.slice (some ⟨fb,0,none⟩) 1 1)),(⟨fb,0,none⟩,(.int .i64 a)),(⟨fb,1,none⟩,(.int .i64 b)),(⟨fb,2,none⟩,(.slice none 0 0)),(⟨fb,3,none⟩,(.slice none 0 0))]) 99 (fun a0 a' w'=>∃ v10 v11 v25 v26 v27 v28 v29 v30 v31 v32 v33,a'=C8 a0 [(10,v10),(11,v11),(25,v25),(26,v26),(27,v27),(28,v28),(29,v29),(30,v30),(31,v31),(32,v32),(33,v33)]∧∃ (pa:Option Addr) (pc:Nat),v10=.slice pa (I1 t ⟨a,b,[],[]⟩).1.length pc∧v11=.int .i64 (I1 t ⟨a,b,[],[]⟩).2∧A8 C2 (fun _=>True) w' pa pc (I1 t ⟨a,b,[],[]⟩).1∧Below w2.heap.size w2 w') (by kernel_rfl) ?_ ?_
 ·intro Q' hR hQp
  have hb0:Below w2.heap.size w2 w2.drew:=N4 _
  have hS:SC [(⟨tb,0,none⟩,(.int .i64 t.n)),(⟨tb,1,none⟩,(.slice la t.links.length lc0)),(⟨fb+1,0,none⟩,(.int .i64 1)),(⟨fb+1,1,none⟩,(.int .i64 0)),(⟨fb+1,2,none⟩,(.slice (some ⟨fb,0,none⟩) 1 1)),(⟨fb,0,none⟩,(.int .i64 a)),(⟨fb,1,none⟩,(.int .i64 b)),(⟨fb,2,none⟩,(.slice none 0 0)),(⟨fb,3,none⟩,(.slice none 0 0))] w2.drew:=hS0
  generalize w2.drew=wa at *
  refine A9 hQp hS [0,1,2,3,4] ?_
  iterate 5 (refine B2 _ rfl (by kernel_rfl) (A0 (by kernel_rfl) (by intro w0 hw0;have hw1:=hw0;simp only [SC] at hw1;first|(go_simp;done)|(go_simp;rfl))) ?_;simp only [Act.put,St.tA,St.tD,St.tE,St.tS,St.tC,St.tZ])
  refine B3 ?_
  clear hS
  refine A7 (i:=5) rfl (by kernel_rfl) (by kernel_rfl) fun K5 hK5=>?_
  go_simp
  go_wp2_with fail
  refine (HFI.out wa hb0).mono ?_
  rintro e wb ⟨pa,pc,rfl,hpr,hb1⟩
  have hb2:=hb0.trans (hb1.mono hb0.size)
  go_wp2_with fail
  have hS:_:=SC.later hb2 hS1
  refine hK5 _ _ (fun _=>hS) ?_
  clear hK5
  refine A9 hQp hS [6,7,8,9,10] ?_
  iterate 5 (refine B2 _ rfl (by kernel_rfl) (A0 (by kernel_rfl) (by intro w0 hw0;have hw1:=hw0;simp only [SC] at hw1;first|(go_simp;done)|(go_simp;rfl))) ?_;simp only [Act.put,St.tA,St.tD,St.tE,St.tS,St.tC,St.tZ])
  refine B3 ?_
  refine B5 (by kernel_rfl) ?_ _
  refine hR _ _ ?_
  iterate 11 apply Exists.intro
  refine ⟨?_,⟨pa,pc,rfl,rfl,hpr,hb2⟩⟩
  simp only [C8,Act.put,St.tS,St.tC,St.tZ]
  rfl
 rintro a' w8 ⟨v10,v11,v25,v26,v27,v28,v29,v30,v31,v32,v33,rfl,hb8⟩
 simp only [C8,Act.put,St.tS,St.tC,St.tZ]
 obtain ⟨pa,pc,rfl,rfl,hpr,hb8⟩:=hb8
 rename World=>w3
 have hS3:=SC.later hb8 hS1
 have hB3:=hB2.trans (hb8.mono hB2.size)
 have hTr3:=I5.below hTr2 hb8
 have hFr3:=hFr2.below hb8
 have hz3:=hb8.size
 have hfb3:fb+1<w3.heap.size:=by omega
 have htb3:tb<w3.heap.size:=by omega
 clear hS0 hS1 HFI hb8 hB2 hTr2 hFr2 hF2 hD2 hT2
 by_cases he:(I1 t ⟨a,b,[],[]⟩).2=0
 case neg=>
  have e1:((I1 t ⟨a,b,[],[]⟩).2 !=0)=true:=by rw [bne_iff_ne];exact he
  clear he
  go_wp2
  go_ret;exact ⟨rfl,hB3⟩
 have HE:=Lib.hid he
 have e1:((I1 t ⟨a,b,[],[]⟩).2 !=0)=false:=by rw [he];decide
 clear he
 by_cases hm0:m<0
 case pos=>
  go_wp2
  go_ret;exact ⟨rfl,hB3⟩
 by_cases hm4:4<m
 case pos=>
  go_wp2
  go_ret;exact ⟨rfl,hB3⟩
 obtain ⟨M,rfl⟩:∃ M:Nat,m=(M:Int):=⟨m.toNat,by omega⟩
 have hlow:∀ x∈([(⟨tb,0,none⟩,(.int .i64 t.n)),(⟨tb,1,none⟩,(.slice la t.links.length lc0)),(⟨fb+1,0,none⟩,(.int .i64 1)),(⟨fb+1,1,none⟩,(.int .i64 0)),(⟨fb+1,2,none⟩,(.slice (some ⟨fb,0,none⟩) 1 1)),(⟨fb,0,none⟩,(.int .i64 a)),(⟨fb,1,none⟩,(.int .i64 b)),(⟨fb,2,none⟩,(.slice none 0 0)),(⟨fb,3,none⟩,(.slice none 0 0))]:List (Addr × Value)),x.1.block<w3.heap.size:=by
  intro x hx
  simp only [List.mem_cons,List.not_mem_nil,or_false] at hx
  rcases hx with rfl|rfl|rfl|rfl|rfl|rfl|rfl|rfl|rfl<;>first|exact htb3|exact hfb3|(show fb<w3.heap.size;omega)
 go_wp2
 clear e1
 go_loopw [12,45] (fun cv idx wr=>∃ (i:Nat) (c:List Do) (ma:Option Addr) (mc:Nat),cv=.slice ma c.length mc∧idx=.int .i64 i∧i≤M∧Hid (c=C02 t ⟨a,b,[],[]⟩ i)∧c.length≤300∧C7 doS 41 (fun b=>b<w3.heap.size) w3.heap.size wr ma c.length mc c∧Below w3.heap.size w3 wr) (fun _ idx _=>M - (intOf idx).toNat)
 case atStart=>exact ⟨0,[],none,0,rfl,rfl,Nat.zero_le _,Lib.hid rfl,Nat.zero_le _,C7.nil _ _ _ _ _ (fun b h=>h),Below.refl _ _⟩
 case round=>
  obtain ⟨i,c,ma,mc,rfl,rfl,hi,HC,hcl,hO,hb9⟩:=hrel
  rename World=>wo
  have hSo:=SC.low hb9 hlow hS3
  have hzo:=hb9.size
  by_cases hlt:i<M
  case pos=>
   have b1:(i:Int)<(M:Int):=by omega
   have hTo:I5.rep (fun b=>okt b∧b<w.heap.size) wo [.int .i64 t.n,.slice la t.links.length lc0] t:=I5.below hTr3 hb9
   have hFo:=(hFr3.anyOk (ok':=fun b=>b<w3.heap.size) (fun k _ hk=>by show k<_;rw [hk];omega)).below hb9
   obtain ⟨c1,hc1⟩:∃ c1,B85 t (c++[B9y [⟨a,b,[],[]⟩]])=c1:=⟨_,rfl⟩
   obtain ⟨c2,hc2⟩:∃ c2,B85 t (c1++[B8e])=c2:=⟨_,rfl⟩
   have hm1:=C03 t (c++[B9y [⟨a,b,[],[]⟩]])
   have hl1:(c++[B9y [⟨a,b,[],[]⟩]]).length=c.length+1:=by simp
   have hl2:(c1++[B8e]).length=c1.length+1:=by simp
   have HCC:Hid (c2=C02 t ⟨a,b,[],[]⟩ (i+1)):=Lib.hid (by rw [←hc2,←hc1,HC.out];rfl)
   have hcl2:c2.length≤300:=by rw [HCC.out];have:=C0a t ⟨a,b,[],[]⟩ (i+1);omega
   rw [hc1,hl1] at hm1
   have hcl1:c1.length≤400:=by omega
   have HD1:=Lib.hid hc1
   have HD2:=Lib.hid hc2
   have HL1:=Lib.hid hl1
   have HL2:=Lib.hid hl2
   clear hc1 hc2 hl1 hl2 hm1 HC
   have hS0:=hSo
   go_upto_region 10 with fail
   refine B9 (SC [(⟨tb,0,none⟩,(.int .i64 t.n)),(⟨tb,1,none⟩,(.slice la t.links.length lc0)),(⟨fb+1,0,none⟩,(.int .i64 1)),(⟨fb+1,1,none⟩,(.int .i64 0)),(⟨fb+1,2,none⟩,(.slice (some ⟨fb,0,none⟩) 1 1)),(⟨fb,0,none⟩,(.int .i64 a)),(⟨fb,1,none⟩,(.int .i64 b)),(⟨fb,2,none⟩,(.slice none 0 0)),(⟨fb,3,none⟩,(.slice none 0 0))]) 99 (fun a0 a' w'=>∃ v12 v47 v48 v49 v50 v51 v52,a'=C8 a0 [(12,v12),(47,v47),(48,v48),(49,v49),(50,v50),(51,v51),(52,v52)]∧∃ (ma:Option Addr) (mc:Nat),v12=.slice ma c1.length mc∧C7 doS 41 (fun b=>b<w3.heap.size) w3.heap.size w' ma c1.length mc c1∧Below w3.heap.size wo w') (by kernel_rfl) ?_ ?_
   ·intro Q' hR hQp
    have hb0:Below wo.heap.size wo wo.drew:=N4 _
    have hS:SC [(⟨tb,0,none⟩,(.int .i64 t.n)),(⟨tb,1,none⟩,(.slice la t.links.length lc0)),(⟨fb+1,0,none⟩,(.int .i64 1)),(⟨fb+1,1,none⟩,(.int .i64 0)),(⟨fb+1,2,none⟩,(.slice (some ⟨fb,0,none⟩) 1 1)),(⟨fb,0,none⟩,(.int .i64 a)),(⟨fb,1,none⟩,(.int .i64 b)),(⟨fb,2,none⟩,(.slice none 0 0)),(⟨fb,3,none⟩,(.slice none 0 0))] wo.drew:=hS0
    generalize wo.drew=wa at *
    refine A9 hQp hS [0,1,2] ?_
    iterate 3 (refine B2 _ rfl (by kernel_rfl) (A0 (by kernel_rfl) (by intro w0 hw0;have hw1:=hw0;simp only [SC] at hw1;first|(go_simp;done)|(go_simp;rfl))) ?_;simp only [Act.put,St.tA,St.tD,St.tE,St.tS,St.tC,St.tZ])
    refine B3 ?_
    have hbm:=hb0
    clear hb0
    generalize wa=wm at *
    refine A7 (i:=3) rfl (by kernel_rfl) (by kernel_rfl) fun K3 hK3=>?_
    go_simp
    go_wp2_with fail
    have hbx:Below wm.heap.size wm (wm.alloc (.cells #[.int .i64 1,.int .i64 0,.slice (some ⟨fb,0,none⟩) 1 1] 41)):=B8j _ _
    have hE:=I6 wm 41 #[.int .i64 1,.int .i64 0,.slice (some ⟨fb,0,none⟩) 1 1]
    have hb3:=hbm.trans (hbx.mono hbm.size)
    have hO3:=hO.below hb3
    have hsrc:=B9l (sh:=doS) (ok:=fun b=>b<w3.heap.size) (x:=B9y [⟨a,b,[],[]⟩]) hE ⟨_,1,rfl,I64.small (n:=1) (by decide) (by decide),I64.small (n:=0) (by decide) (by decide),hFo.below hb3⟩
    have hz9:w3.heap.size≤(wm.alloc (.cells #[.int .i64 1,.int .i64 0,.slice (some ⟨fb,0,none⟩) 1 1] 41)).heap.size:=Nat.le_trans hzo hb3.size
    have hS:_:=SC.later hb3 hSo
    refine hK3 _ _ (fun _=>hS) ?_
    clear hK3
    generalize wm.alloc _=wb at *
    generalize wm.heap.size=ab at *
    clear hbx hE hbm hS
    refine A7 (i:=4) rfl (by kernel_rfl) (by kernel_rfl) fun K4 hK4=>?_
    refine Q3 (sh:=doS) (n:=c.length) (m:=1) (.tmp 48) (.tmp 50) 38 (by rfl) 41 i0 (.agg #[.int .i64 0,.int .i64 0,.slice none 0 0]) 40 Try.underlying38 gi gz0 gz1 gz2 rfl (by decide) (by rfl) hO3 (by rfl) rfl hsrc (by simp only [maxLen];omega) (by omega) hz9 ?_
    intro ma3 mc3 w6 hO6 hg6 hd6
    have hB6:Below w3.heap.size wo w6:=(hb3.mono hzo).trans (D6 hg6 (fun k hk=>(hO3.lt k hk).1) hz9)
    have hS:_:=SC.low hB6 hlow hSo
    refine hK4 _ _ (fun _=>hS) ?_
    clear hK4
    have hz6:=hB6.size
    have hTr6:=I5.mono hTo (w':=w6) (ok':=fun b=>okt b∧b<w.heap.size) (fun b hb ho=>⟨ho,hB6.block b (by have:=ho.2;have:=HWB.out;omega)⟩)
    clear hO3 hsrc hz9 hg6 hd6 hb3
    clear hS
    refine A7 (i:=5) rfl (by kernel_rfl) (by kernel_rfl) fun K5 hK5=>?_
    go_simp
    go_wp2_with fail
    have HDR:=B9q t _ (fun b=>okt b∧b<w.heap.size) (fun b=>b<w3.heap.size) w3.heap.size w6 hTr6 (c++[B9y [⟨a,b,[],[]⟩]]) ma3 mc3 (by rw [HL1.out];exact hO6) (by omega) (fun b hb e=>by have:=(hO6.lt b e).1;have:=hb.2;have:=HWB.out;omega) (by rw [HL1.out];omega)
    rw [HD1.out,HL1.out] at HDR
    refine HDR.mono ?_
    rintro e w7 ⟨ma2,mc2,rfl,hO7,hG7⟩
    have hB7:=hB6.trans hG7.below
    go_wp2_with fail
    have hS:_:=SC.low hB7 hlow hSo
    refine hK5 _ _ (fun _=>hS) ?_
    clear hK5
    refine A9 hQp hS [6] ?_
    iterate 1 (refine B2 _ rfl (by kernel_rfl) (A0 (by kernel_rfl) (by intro w0 hw0;have hw1:=hw0;simp only [SC] at hw1;first|(go_simp;done)|(go_simp;rfl))) ?_;simp only [Act.put,St.tA,St.tD,St.tE,St.tS,St.tC,St.tZ])
    refine B3 ?_
    refine B5 (by kernel_rfl) ?_ _
    refine hR _ _ ?_
    iterate 7 apply Exists.intro
    refine ⟨?_,⟨ma2,mc2,rfl,hO7,hB7⟩⟩
    simp only [C8,Act.put,St.tS,St.tC,St.tZ]
    rfl
   rintro a' w8 ⟨v12,v47,v48,v49,v50,v51,v52,rfl,hb8⟩
   simp only [C8,Act.put,St.tS,St.tC,St.tZ]
   obtain ⟨ma5,mc5,rfl,hO5,hB5⟩:=hb8
   rename World=>w5
   have hS5:=SC.low hB5 hlow hSo
   have hz5:w3.heap.size≤w5.heap.size:=Nat.le_trans hzo hB5.size
   have hTo5:I5.rep (fun b=>okt b∧b<w.heap.size) w5 [.int .i64 t.n,.slice la t.links.length lc0] t:=I5.mono hTo (fun b hb ho=>⟨ho,hB5.block b (by have:=ho.2;have:=HWB.out;omega)⟩)
   clear hS0 hSo hO hTo hFo
   have hS0:=hS5
   go_upto_region 11 with fail
   refine B9 (SC [(⟨tb,0,none⟩,(.int .i64 t.n)),(⟨tb,1,none⟩,(.slice la t.links.length lc0)),(⟨fb+1,0,none⟩,(.int .i64 1)),(⟨fb+1,1,none⟩,(.int .i64 0)),(⟨fb+1,2,none⟩,(.slice (some ⟨fb,0,none⟩) 1 1)),(⟨fb,0,none⟩,(.int .i64 a)),(⟨fb,1,none⟩,(.int .i64 b)),(⟨fb,2,none⟩,(.slice none 0 0)),(⟨fb,3,none⟩,(.slice none 0 0))]) 99 (fun a0 a' w'=>∃ v12 v53 v54 v55 v56 v57 v58,a'=C8 a0 [(12,v12),(53,v53),(54,v54),(55,v55),(56,v56),(57,v57),(58,v58)]∧∃ (ma:Option Addr) (mc:Nat),v12=.slice ma c2.length mc∧C7 doS 41 (fun b=>b<w3.heap.size) w3.heap.size w' ma c2.length mc c2∧Below w3.heap.size w5 w') (by kernel_rfl) ?_ ?_
   ·intro Q' hR hQp
    have hb0:Below w5.heap.size w5 w5.drew:=N4 _
    have hS:SC [(⟨tb,0,none⟩,(.int .i64 t.n)),(⟨tb,1,none⟩,(.slice la t.links.length lc0)),(⟨fb+1,0,none⟩,(.int .i64 1)),(⟨fb+1,1,none⟩,(.int .i64 0)),(⟨fb+1,2,none⟩,(.slice (some ⟨fb,0,none⟩) 1 1)),(⟨fb,0,none⟩,(.int .i64 a)),(⟨fb,1,none⟩,(.int .i64 b)),(⟨fb,2,none⟩,(.slice none 0 0)),(⟨fb,3,none⟩,(.slice none 0 0))] w5.drew:=hS0
    generalize w5.drew=wa at *
    refine A9 hQp hS [0,1] ?_
    iterate 2 (refine B2 _ rfl (by kernel_rfl) (A0 (by kernel_rfl) (by intro w0 hw0;have hw1:=hw0;simp only [SC] at hw1;first|(go_simp;done)|(go_simp;rfl))) ?_;simp only [Act.put,St.tA,St.tD,St.tE,St.tS,St.tC,St.tZ])
    refine B3 ?_
    clear hS
    refine A7 (i:=2) rfl (by kernel_rfl) (by kernel_rfl) fun K2 hK2=>?_
    go_simp
    go_wp2_with fail
    refine (B9t _ _ _).mono ?_
    rintro e wm ⟨rfl,hbm1⟩
    have hbm:=hb0.trans (hbm1.mono hb0.size)
    go_wp2_with fail
    have hS:_:=SC.later hbm hS5
    refine hK2 _ _ (fun _=>hS) ?_
    clear hK2
    clear hbm1 hb0
    refine A7 (i:=3) rfl (by kernel_rfl) (by kernel_rfl) fun K3 hK3=>?_
    go_simp
    go_wp2_with fail
    have hbx:Below wm.heap.size wm (wm.alloc (.cells #[.int .i64 6,.int .i64 0,.slice none 0 0] 41)):=B8j _ _
    have hE:=I6 wm 41 #[.int .i64 6,.int .i64 0,.slice none 0 0]
    have hb3:=hbm.trans (hbx.mono hbm.size)
    have hO3:=hO5.below hb3
    have hsrc:=B9l (sh:=doS) (ok:=fun b=>b<w3.heap.size) (x:=B8e) hE ⟨none,0,rfl,I64.small (n:=6) (by decide) (by decide),I64.small (n:=0) (by decide) (by decide),A8.nil _ _ _ _⟩
    have hz9:w3.heap.size≤(wm.alloc (.cells #[.int .i64 6,.int .i64 0,.slice none 0 0] 41)).heap.size:=Nat.le_trans hz5 hb3.size
    have hS:_:=SC.later hb3 hS5
    refine hK3 _ _ (fun _=>hS) ?_
    clear hK3
    generalize wm.alloc _=wb at *
    generalize wm.heap.size=ab at *
    clear hbx hE hbm hS
    refine A7 (i:=4) rfl (by kernel_rfl) (by kernel_rfl) fun K4 hK4=>?_
    refine Q3 (sh:=doS) (n:=c1.length) (m:=1) (.tmp 54) (.tmp 56) 38 (by rfl) 41 i0 (.agg #[.int .i64 0,.int .i64 0,.slice none 0 0]) 40 Try.underlying38 gi gz0 gz1 gz2 rfl (by decide) (by rfl) hO3 (by rfl) rfl hsrc (by simp only [maxLen];omega) (by omega) hz9 ?_
    intro ma3 mc3 w6 hO6 hg6 hd6
    have hB6:Below w3.heap.size w5 w6:=(hb3.mono hz5).trans (D6 hg6 (fun k hk=>(hO3.lt k hk).1) hz9)
    have hS:_:=SC.low hB6 hlow hS5
    refine hK4 _ _ (fun _=>hS) ?_
    clear hK4
    have hz6:=hB6.size
    have hTr6:=I5.mono hTo5 (w':=w6) (ok':=fun b=>okt b∧b<w.heap.size) (fun b hb ho=>⟨ho,hB6.block b (by have:=ho.2;have:=HWB.out;omega)⟩)
    clear hO3 hsrc hz9 hg6 hd6 hb3
    clear hS
    refine A7 (i:=5) rfl (by kernel_rfl) (by kernel_rfl) fun K5 hK5=>?_
    go_simp
    go_wp2_with fail
    have HDR:=B9q t _ (fun b=>okt b∧b<w.heap.size) (fun b=>b<w3.heap.size) w3.heap.size w6 hTr6 (c1++[B8e]) ma3 mc3 (by rw [HL2.out];exact hO6) (by omega) (fun b hb e=>by have:=(hO6.lt b e).1;have:=hb.2;have:=HWB.out;omega) (by rw [HL2.out];omega)
    rw [HD2.out,HL2.out] at HDR
    refine HDR.mono ?_
    rintro e w7 ⟨ma2,mc2,rfl,hO7,hG7⟩
    have hB7:=hB6.trans hG7.below
    go_wp2_with fail
    have hS:_:=SC.low hB7 hlow hS5
    refine hK5 _ _ (fun _=>hS) ?_
    clear hK5
    refine A9 hQp hS [6] ?_
    iterate 1 (refine B2 _ rfl (by kernel_rfl) (A0 (by kernel_rfl) (by intro w0 hw0;have hw1:=hw0;simp only [SC] at hw1;first|(go_simp;done)|(go_simp;rfl))) ?_;simp only [Act.put,St.tA,St.tD,St.tE,St.tS,St.tC,St.tZ])
    refine B3 ?_
    refine B5 (by kernel_rfl) ?_ _
    refine hR _ _ ?_
    iterate 7 apply Exists.intro
    refine ⟨?_,⟨ma2,mc2,rfl,hO7,hB7⟩⟩
    simp only [C8,Act.put,St.tS,St.tC,St.tZ]
    rfl
   rintro a' w8 ⟨v12,v53,v54,v55,v56,v57,v58,rfl,hb8⟩
   simp only [C8,Act.put,St.tS,St.tC,St.tZ]
   obtain ⟨ma6,mc6,rfl,hO6,hB6⟩:=hb8
   rename World=>w8
   have hb10:=hb9.trans (hB5.trans hB6)
   clear hS0 hS5
   go_wp2
   case roundEnd=>
    go_roundw
    case rel=>exact ⟨i+1,c2,ma6,mc6,rfl,by go_num,by omega,HCC,hcl2,hO6,hb10⟩
    case measure=>simp [intOf]<;>omega
  have b1:¬(i:Int)<(M:Int):=by omega
  obtain rfl:i=M:=by omega
  have hBo:=hB3.trans (hb9.mono hB3.size)
  by_cases h200:c.length≤200
  case neg=>
   have c1:(200:Int)<(c.length:Int):=by omega
   have c2:200<c.length:=by omega
   go_wp2
   go_ret;exact ⟨rfl,hBo⟩
  have c1:¬(200:Int)<(c.length:Int):=by omega
  have c2:¬200<c.length:=by omega
  have HMM:Hid ((D9 t c).2.2=(0,0)∧C0p t ⟨a,b,[],[]⟩ i (D9 t c).1):=Lib.hid (by rw [HC.out];exact C0s HE.out (by rw [←HC.out];exact h200))
  have hTo:I5.rep (fun b=>okt b∧b<w.heap.size) wo [.int .i64 t.n,.slice la t.links.length lc0] t:=I5.below hTr3 hb9
  have HPL:=Lib.hid (A2z t _ _ wo hTo c ma mc _ (hO.row (ok':=fun _=>True) (fun _ _=>trivial) (fun _ _=>trivial)))
  have hpo:=hpr.below (hb9)
  obtain ⟨t1,t2,_⟩:=hSo
  have htlo:tb<wo.heap.size:=by omega
  clear hTo hO hTr3 hFr3 hS3 hlow HC hlt hi
  generalize D9 t c=RR at *
  obtain ⟨n,es,fe,ff⟩:=RR
  dsimp only at *
  obtain ⟨rfl,rfl⟩:fe=0∧ff=0:=by have:=HMM.out.1;simpa using this
  go_wp2_with fail
  refine HPL.out.mono ?_
  rintro e w5 ⟨cs,ea,ec,rfl,hn5,he5,hb5⟩
  have hB5:=hBo.trans (hb5.mono hBo.size)
  obtain ⟨n0,n1,n2,y0,y1,y2,wa,wc,sa,sc,oa,oc,ba,bc,qa,qc,pl,lc,rfl,hst,hnu,hnow,hnext,hwt,hks,hko,hkb,hkp,hkl⟩:=A0g.open8 hn5
  obtain ⟨lq0,lq1,lq2⟩:=B7.st (P:=Try.prog) hnext
  obtain ⟨fa,fc,ga,gc,hce,hIv,_,_⟩:=hnow
  obtain ⟨rfl,rfl,rfl⟩:n0=.int .i64 n.ctl.now.ver∧n1=.slice fa n.ctl.now.flows.length fc∧n2=.slice ga n.ctl.now.paths.length gc:=by simpa using hce
  have hbx:Below w5.heap.size w5 ((w5.alloc (.cells #[.int .i64 n.ctl.stage,.int .i64 n.ctl.now.ver,.slice fa n.ctl.now.flows.length fc,.slice ga n.ctl.now.paths.length gc,y0,y1,y2,.int .i64 n.ctl.num,.slice wa n.ctl.waits.length wc,.slice sa n.switches.length sc,.slice oa n.orders.length oc,.slice ba n.backs.length bc,.slice qa n.packets.length qc,.slice pl n.plans.length lc] 51)).alloc (.cells #[.int .i64 0,.int .i64 0] 35)):=A1t _ _ _
  have hW:A6 ((w5.alloc (.cells #[.int .i64 n.ctl.stage,.int .i64 n.ctl.now.ver,.slice fa n.ctl.now.flows.length fc,.slice ga n.ctl.now.paths.length gc,y0,y1,y2,.int .i64 n.ctl.num,.slice wa n.ctl.waits.length wc,.slice sa n.switches.length sc,.slice oa n.orders.length oc,.slice ba n.backs.length bc,.slice qa n.packets.length qc,.slice pl n.plans.length lc] 51)).alloc (.cells #[.int .i64 0,.int .i64 0] 35)) w5.heap.size 51 #[.int .i64 n.ctl.stage,.int .i64 n.ctl.now.ver,.slice fa n.ctl.now.flows.length fc,.slice ga n.ctl.now.paths.length gc,y0,y1,y2,.int .i64 n.ctl.num,.slice wa n.ctl.waits.length wc,.slice sa n.switches.length sc,.slice oa n.orders.length oc,.slice ba n.backs.length bc,.slice qa n.packets.length qc,.slice pl n.plans.length lc]:=(A6.new rfl).alloc _
  have hG:A6 ((w5.alloc (.cells #[.int .i64 n.ctl.stage,.int .i64 n.ctl.now.ver,.slice fa n.ctl.now.flows.length fc,.slice ga n.ctl.now.paths.length gc,y0,y1,y2,.int .i64 n.ctl.num,.slice wa n.ctl.waits.length wc,.slice sa n.switches.length sc,.slice oa n.orders.length oc,.slice ba n.backs.length bc,.slice qa n.packets.length qc,.slice pl n.plans.length lc] 51)).alloc (.cells #[.int .i64 0,.int .i64 0] 35)) (w5.heap.size+1) 35 #[.int .i64 0,.int .i64 0]:=A6.new (by simp)
  have hB6:=hB5.trans (hbx.mono hB5.size)
  have hkl6:=hkl.below hbx
  have hpr6:=(hpo.below hb5).below hbx
  have k1:((n.plans.length:Int) !=(i:Int))=false:=by rw [HMM.out.2.len];simp
  have k2:(n.ctl.now.ver !=(i:Int))=false:=by rw [HMM.out.2.ver];simp
  have hlx:=hkl.len_le
  clear hn5 he5 hb5 hnext hwt hks hko hkb hkp hkl hce hbx hB5 hpo HPL t1 t2 hB3 hb9
  go_upto_region 16 with fail
  generalize ((w5.alloc (.cells #[.int .i64 n.ctl.stage,.int .i64 n.ctl.now.ver,.slice fa n.ctl.now.flows.length fc,.slice ga n.ctl.now.paths.length gc,y0,y1,y2,.int .i64 n.ctl.num,.slice wa n.ctl.waits.length wc,.slice sa n.switches.length sc,.slice oa n.orders.length oc,.slice ba n.backs.length bc,.slice qa n.packets.length qc,.slice pl n.plans.length lc] 51)).alloc (.cells #[.int .i64 0,.int .i64 0] 35))=w6 at *
  generalize w5.heap.size=xb at *
  clear lq0 lq1 lq2
  obtain ⟨x1,x2⟩:=hW.cells
  obtain ⟨f1,f2⟩:=hG.cells
  have hwl:=hW.lt
  have hgl:=hG.lt
  go_wp2
  clear x1 x2 f1 f2 k1 k2
  go_loopw [91] (fun idx wr=>∃ j:Nat,idx=.int .i64 j∧j≤n.plans.length∧Below w6.heap.size w6 wr) (fun idx _=>n.plans.length - (intOf idx).toNat)
  case atStart=>exact ⟨0,rfl,Nat.zero_le _,Below.refl _ _⟩
  case round=>
   obtain ⟨j,rfl,hj,hbj⟩:=hrel
   rename World=>wi
   have hBi:=hB6.trans (hbj.mono hB6.size)
   by_cases hlj:j<n.plans.length
   case neg=>
    have d1:¬(j:Int)<(n.plans.length:Int):=by omega
    go_wp2
    go_ret;exact ⟨rfl,hBi⟩
   have d1:(j:Int)<(n.plans.length:Int):=by omega
   have d0:(0:Int)≤(j:Int):=by omega
   obtain ⟨q,hq⟩:∃ q,n.plans[j]? =some q:=⟨_,List.getElem?_eq_getElem hlj⟩
   obtain ⟨-,hqp⟩:=HMM.out.2.all q (List.mem_of_getElem? hq)
   obtain ⟨lg,lo,rfl,_,_,cs,⟨fb2,fc2,ua,uc,rfl,_,_,hqr⟩,hpe⟩:=(hkl6.below hbj).get hq
   rw [hqp] at hqr hpe
   have v0:=hpe 0 _ rfl
   have v1:=hpe 1 _ rfl
   have v2:=hpe 2 _ rfl
   simp only [show C3.size=3 from rfl,Nat.add_zero] at v0 v1 v2
   obtain ⟨ug,uo,rfl,_,_,cs,⟨ra,rc,rfl,hrr⟩,hue⟩:=hqr.get (i:=0) rfl
   have u0:=hue 0 _ rfl
   simp only [show (F7 C2).size=1 from rfl,Nat.zero_mul,Nat.add_zero] at u0
   have hbx:=B8j wi (.cells #[.int .i64 q.ver,.slice fb2 q.flows.length fc2,.slice (some ⟨ug,uo,none⟩) 1 uc] 32)
   have hP:=I6 wi 32 #[.int .i64 q.ver,.slice fb2 q.flows.length fc2,.slice (some ⟨ug,uo,none⟩) 1 uc]
   have hbz:=hbj.trans (hbx.mono hbj.size)
   have HI:=Lib.hid (B1y _ _ _ _ _ _ _ _ (wi.alloc (.cells #[.int .i64 q.ver,.slice fb2 q.flows.length fc2,.slice (some ⟨ug,uo,none⟩) 1 uc] 32)) (hrr.below hbx) (hpr6.below hbz))
   have u9:=cell_later hbx u0
   clear hpe hue hq hqp hrr hqr u0
   go_upto_region 21 with fail
   clear v0 v1 v2
   generalize wi.alloc _=wj at *
   generalize wi.heap.size=yb at *
   obtain ⟨y1,y2⟩:=hP.cells
   have hyl:=hP.lt
   go_wp2_with fail
   refine HI.out.mono ?_
   rintro e w9 ⟨rfl,hb10⟩
   rw [beq_self_eq_true]
   have hbf:=hbz.trans (hb10.mono hbz.size)
   clear y1 y2 u9
   go_wp2
   case roundEnd=>
    go_roundw
    case rel=>exact ⟨j+1,by go_num,by omega,hbf⟩
    case measure=>simp [intOf]<;>omega
end Go.Proofs.Ytampcbncgofkoaa
