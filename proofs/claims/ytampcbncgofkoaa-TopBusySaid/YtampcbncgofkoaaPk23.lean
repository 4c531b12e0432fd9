/- Texts of this proof, one behind the other. -/
import Derived.Test.YtampcbncgofkoaaPk20
set_option linter.unusedSimpArgs false
set_option linter.unusedVariables false
set_option maxRecDepth 100000
set_option maxHeartbeats 16000000
namespace Go.St
open Go.RowKit
theorem A2l {P:Program} (t e:TypeId) (h:P.underlying t=some (.slice e)) (w:World) (a:Option Addr) (l c:Nat):(binOp .eql t (.slice a l c) (.slice none 0 0)).run P w=.ok (.bool a.isNone) w:=by
 show ((do return .bool (←Op.equal t _ _)):Sem Value).run P w=_
 simp [run_equal_slice_nil w t e a l c h]
end Go.St
namespace Go.Proofs.Ytampcbncgofkoaa
open Go.RowKit Go.St
theorem A00 (l:List C1) (ok:Nat→Prop) (ax:Option Addr) (cx:Nat) (w:World) (hx:A8 G6 ok w ax cx l) (hbig:l.length * 24≤140737488355328):
    Calls Try.prog 40 #[.slice ax l.length cx] w fun e w'=>∃ ao cap,e=.returned (.slice ao l.length cap)∧OR 95 w' w.heap.size ao cap l∧Below w.heap.size w w':=by
  obtain ⟨i0,hi,hz0,hz1,hz2⟩:=info_parts W7
  have hlx:=hx.len_le
  have hnil:=A2l (P:=Try.prog) 73 95 Try.underlying73
  cases ax with
  |none=>
    obtain rfl:l=[]:=by
      obtain ⟨_,_,h|⟨_,_,h,_⟩⟩:=hx
      · exact h
      · cases h
    go_enter Try.func40,Try.ntmps40
    go_wp2
    go_ret;exact ⟨none,0,rfl,.inl ⟨rfl,rfl,rfl⟩,by (repeat' (first|with_reducible (first|exact Below.refl _ _|assumption|refine Below.drew ?_|refine A3 ?_ _|refine Below.alloc ?_ ?_ _|refine Below.setCell ?_ ?_ _)|omega|(simp;done)|(simp;omega)))⟩
  |some a=>
    have hown:C7 G6 95 (fun _=>False) w.heap.size (w.alloc (.cells (([]:List C1).map (fun _=>Value.int .i64 0)).toArray 95)) (some ⟨w.heap.size,0,none⟩) 0 0 []:=C7.lit rfl rfl (Nat.le_refl _) (by decide) (by simp) (fun _ h=>h.elim)
    go_enter Try.func40,Try.ntmps40
    go_wp2_with (at_builtin;go_must (refine H4 (sh:=G6) rfl _ _ 73 rfl 95 i0 (.agg #[.int .i64 0,.int .i64 0,.int .i64 0]) 24 Try.underlying73 hi hz0 hz1 hz2 rfl (by decide) rfl hown rfl rfl ((hx.below (by (repeat' (first|with_reducible (first|exact Below.refl _ _|assumption|refine Below.drew ?_|refine A3 ?_ _|refine Below.alloc ?_ ?_ _|refine Below.setCell ?_ ?_ _)|omega|(simp;done)|(simp;omega))))).src.flat fun h=>h) (by simp only [maxLen];omega) (by omega) (by first|omega|(simp;done)|(simp;omega)) ?_);go_must (
      intro ao1 cap1 w2 hown1 hg1 hbk
      have hb2:=D6 (B:=w.heap.size) hg1 (fun k hk=>(hown.lt k hk).1) (by first|omega|(simp;done)|(simp;omega))
      rw [List.nil_append,Nat.zero_add] at hown1))
    have hor:OR 95 w2 w.heap.size ao1 cap1 l:=by
      cases ao1 with
      |none=>simp [blk] at hbk
      |some a1=>
        obtain ⟨b1,o1,s1⟩:=a1
        have hshape:o1=0∧s1=none:=by
          obtain ⟨cells,⟨_,_,_,⟨h,_⟩|⟨g,cur,h,_⟩⟩,_⟩:=hown1
          · cases h
          · simp at h;exact ⟨h.2.1,h.2.2⟩
        obtain ⟨rfl,rfl⟩:=hshape
        obtain ⟨junk,hRR,k1,k2,k3,k4⟩:=hown1.rr
        exact .inr ⟨b1,junk,rfl,k3,k4,k1,hRR⟩
    go_ret;exact ⟨ao1,cap1,rfl,hor,Below.trans (by (repeat' (first|with_reducible (first|exact Below.refl _ _|assumption|refine Below.drew ?_|refine A3 ?_ _|refine Below.alloc ?_ ?_ _|refine Below.setCell ?_ ?_ _)|omega|(simp;done)|(simp;omega)))) hb2⟩
theorem B0f (r:C1) (v:Int) (p:Nat) (w:World) (hp:w.cell? ⟨p,0,none⟩=some (.int .i64 v)) (hpl:p<w.heap.size):
  Calls Try.prog 73 #[.agg #[.int .i64 r.ver,.int .i64 r.flow,.int .i64 r.next],.pointer (some ⟨p,0,none⟩)] w fun e w'=>e=.returned (.bool (r.ver==v))∧Below w.heap.size w w':=by
 go_enter Try.func73,Try.ntmps73
 go_wp2
 go_ret;exact ⟨rfl,by (repeat' (first|with_reducible (first|exact Below.refl _ _|assumption|refine Below.drew ?_|refine A3 ?_ _|refine Below.alloc ?_ ?_ _|refine Below.setCell ?_ ?_ _)|omega|(simp;done)|(simp;omega)))⟩
theorem A9q (l:List C1) (v:Int) (p:Nat) (ok:Nat→Prop) (ax:Option Addr) (cx:Nat) (w:World) (hx:A8 G6 ok w ax cx l) (hp:w.cell? ⟨p,0,none⟩=some (.int .i64 v)) (hpl:p<w.heap.size):
  Calls Try.prog 82 #[.slice ax l.length cx,.func (.func 73) #[] #[.pointer (some ⟨p,0,none⟩)]] w fun e w'=>
   ((∃ k r,e=.returned (.int .i64 ((k:Nat):Int))∧l[k]? =some r∧(r.ver==v)=true∧∀ y∈l.take k,(y.ver==v)=false)∨(e=.returned (.int .i64 (-1))∧∀ y∈l.take l.length,(y.ver==v)=false))∧Below w.heap.size w w':=by
 have hlx:=hx.len_le
 have hst:Hid (∀ y∈l.take 0,(y.ver==v)=false):=fun y hy=>by simp at hy
 go_enter Try.func82,Try.ntmps82
 go_wp2
 go_loopw [5,8] (fun _ i wr=>∃ j:Nat,j≤l.length∧i=.int .i64 j∧Hid (∀ y∈l.take j,(y.ver==v)=false)∧Below w.heap.size w wr) (fun _ i _=>l.length - (intOf i).toNat)
 case atStart=>exact ⟨0,Nat.zero_le _,rfl,hst,Below.refl _ _⟩
 case round=>
  clear hst
  obtain ⟨j,hj,rfl,hS,hb⟩:=hrel
  rename World=>wo
  have hzz:=hb.size
  by_cases hlt:j<l.length
  case neg=>
   obtain rfl:j=l.length:=by omega
   go_wp2
   go_ret;exact ⟨.inr ⟨rfl,hS.out⟩,hb⟩
  obtain ⟨r,hr⟩:∃ r,l[j]? =some r:=⟨_,List.getElem?_eq_getElem hlt⟩
  obtain ⟨b,off,rfl,hbl,hri,hce⟩:=hx.rules hr
  obtain ⟨e0,e1,e2⟩:=hce _ hb
  have b0:(0:Int)≤(j:Int):=by omega
  have b1:(j:Int)<(l.length:Int):=by omega
  have hC:=B0f r v p wo (B8 hb hpl hp) (by omega)
  have HR:=Lib.hid hr
  have HN:Hid ((r.ver==v)=false→∀ y∈l.take (j+1),(y.ver==v)=false):=fun h=>B1b (p:=fun y:C1=>y.ver==v) hS.out hr h
  clear hce hr
  cases hrv:(r.ver==v)
  ·rw [hrv] at hC
   have HC:=Lib.hid hC
   have HM:=Lib.hid (HN.out hrv)
   clear hC HN hS hrv
   go_wp2_with fail
   refine HC.out.mono ?_
   rintro e w1 ⟨rfl,hb1⟩
   have hb2:Below w.heap.size w w1:=hb.trans (hb1.mono hzz)
   go_wp2
   case roundEnd=>
    go_roundw
    case rel=>exact ⟨j+1,by omega,by go_num,HM,hb2⟩
    case measure=>simp [intOf]<;>omega
  ·rw [hrv] at hC
   have HC:=Lib.hid hC
   have HV:=Lib.hid hrv
   clear hC HN hrv
   go_wp2_with fail
   refine HC.out.mono ?_
   rintro e w1 ⟨rfl,hb1⟩
   have hb2:Below w.heap.size w w1:=hb.trans (hb1.mono hzz)
   go_wp2
   go_ret;exact ⟨.inl ⟨j,r,rfl,HR.out,HV.out,hS.out⟩,hb2⟩
theorem B28 (B:Nat) (xs:List C1) (v:Int) (p:Nat) (ao:Option Addr) (cap:Nat) (w:World) (h:OR 95 w B ao cap xs) (hB:B≤w.heap.size) (hp:w.cell? ⟨p,0,none⟩=some (.int .i64 v)) (hpB:p<B) (hbig:xs.length≤100000000000000):
  Calls Try.prog 72 #[.slice ao xs.length cap,.func (.func 73) #[] #[.pointer (some ⟨p,0,none⟩)]] w fun e w'=>e=.returned (.slice ao (S0 xs v).length cap)∧OR 95 w' B ao cap (S0 xs v)∧Below B w w':=by
 obtain ⟨i0,hi,hz0,hz1,hz2⟩:=info_parts W7
 have hIx:=A9q xs v p _ ao cap w h.row hp (by omega)
 have HE:Hid ((∀ y∈xs.take xs.length,(y.ver==v)=false)→S0 xs v=xs):=fun h=>B2w h (Nat.le_refl _)
 have HDN:Hid (∀ m kk zs,Del (fun y:C1=>y.ver==v) xs m kk zs→xs.length≤m→kk≤xs.length→zs.take kk=S0 xs v∧(S0 xs v).length=kk):=fun m kk zs h1 h2 h3=>h1.done h2 h3
 generalize S0 xs v=ys at *
 go_enter Try.func72,Try.ntmps72
 go_wp2_with fail
 refine hIx.mono ?_
 rintro e w1 ⟨⟨k,x,rfl,hk,hkv,hkn⟩|⟨rfl,hall⟩,hb1⟩
 case inr=>
  have HEE:=Lib.hid (HE.out hall)
  have hb2:Below B w w1:=hb1.mono hB
  have h1:=h.below hb1
  clear HE hall HDN hIx
  go_wp2
  go_ret;exact ⟨V8 (by rw [HEE.out]),by rw [HEE.out];exact h1,hb2⟩
 have h1:=h.below hb1
 have hb2:Below B w w1:=hb1.mono hB
 rcases h1 with ⟨rfl,_,_⟩|⟨g,junk,rfl,f1,f2,f3,hR⟩
 ·simp at hk
 have hkl:=(List.getElem?_eq_some_iff.1 hk).1
 have hst:=Lib.hid (Del.start hkn hk hkv)
 have hc63:cap≤9223372036854775807:=by simp only [maxLen] at f2;omega
 have b1:((k:Int)==-1)=false:=by rw [beq_eq_false_iff_ne];omega
 have hB1:=hb2.size
 clear hIx h hk hkv hkn HE hb1
 generalize hn:xs.length=n at *
 have HXN:=Lib.hid hn
 clear hn
 go_wp2
 go_loopw [5,6,7] (fun ii jj _ wr=>∃ (i j:Nat) (zs:List C1),ii=.int .i64 i∧jj=.int .i64 j∧j≤n∧i<j∧Hid (Del (fun y:C1=>y.ver==v) xs j i zs)∧RR wr g 95 zs junk∧Below B w wr) (fun _ jj _ _=>n - (intOf jj).toNat)
 case atStart=>exact ⟨k,k+1,xs,rfl,by go_num,by omega,by omega,hst,hR,hb2⟩
 case round=>
  clear hst hR hb2 hB1
  obtain ⟨i,j,zs,rfl,rfl,hj,hij,hS,hR,hb⟩:=hrel
  rename World=>wo
  have hzl:zs.length=n:=by rw [hS.out.2.2.1,HXN.out]
  have hgl:=hR.lt
  by_cases hlt:j<n
  case neg=>
   obtain ⟨g1,g2⟩:=HDN.out _ _ _ hS.out (by omega) (by omega)
   obtain ⟨wc,hcl,⟨junk',hRc⟩,hNc⟩:=A2e (P:=Try.prog) (t:=73) (k:=i) (n:=n) Try.underlying73 hi hz0 rfl (by decide) hR hzl (by omega)
   have HG1:=Lib.hid g1
   have HG2:=Lib.hid g2
   have hbz:=hb.size
   have HNC:=Lib.hid (hNc.to hb (by omega) f3)
   have b2:¬(j:Int)<(n:Int):=by omega
   clear hS g1 g2 hNc hzl
   go_wp2
   go_ret;exact ⟨V8 (by rw [HG2.out]),.inr ⟨g,junk',rfl,by rw [HG2.out];omega,f2,f3,by rw [←HG1.out];exact hRc⟩,HNC.out⟩
  obtain ⟨r,hr⟩:∃ r,zs[j]? =some r:=⟨_,List.getElem?_eq_getElem (by omega)⟩
  obtain ⟨o,ho⟩:∃ o,zs[i]? =some o:=⟨_,List.getElem?_eq_getElem (by omega)⟩
  obtain ⟨x0,x1,x2⟩:=hR.get hr
  have hri:=hR.elem hr
  have hrx:xs[j]? =some r:=by rw [←hr];exact (hS.out.2.2.2 j (by omega)).symm
  have b2:(j:Int)<(n:Int):=by omega
  have b0:(0:Int)≤(j:Int):=by omega
  have hbz:=hb.size
  have HSK:Hid ((r.ver==v)=true→Del (fun y:C1=>y.ver==v) xs (j+1) i zs):=fun h=>hS.out.skip hrx h
  have HKP:Hid ((r.ver==v)=false→Del (fun y:C1=>y.ver==v) xs (j+1) (i+1) (zs.set i r)):=fun h=>hS.out.keep hrx h
  have HO:=Lib.hid ho
  have hpw:(wo.alloc (.cells #[.int .i64 r.ver,.int .i64 r.flow,.int .i64 r.next] 95)).cell? ⟨p,0,none⟩=some (.int .i64 v):=B8 (B:=B) (Below.trans hb (by (repeat' (first|with_reducible (first|exact Below.refl _ _|assumption|refine Below.drew ?_|refine A3 ?_ _|refine Below.alloc ?_ ?_ _|refine Below.setCell ?_ ?_ _)|omega|(simp;done)|(simp;omega))))) hpB hp
  have hV:=B0f r v p _ hpw (by simp;omega)
  have hR1:=hR.alloc (.cells #[.int .i64 r.ver,.int .i64 r.flow,.int .i64 r.next] 95)
  have hbx:Below B w (wo.alloc (.cells #[.int .i64 r.ver,.int .i64 r.flow,.int .i64 r.next] 95)):=by (repeat' (first|with_reducible (first|exact Below.refl _ _|assumption|refine Below.drew ?_|refine A3 ?_ _|refine Below.alloc ?_ ?_ _|refine Below.setCell ?_ ?_ _)|omega|(simp;done)|(simp;omega)))
  have hbk:=(A6.new (w:=wo) (t:=95) (cs:=#[.int .i64 r.ver,.int .i64 r.flow,.int .i64 r.next]) rfl)
  clear hS hr hrx ho
  cases hrv:(r.ver==v)
  ·rw [hrv] at hV
   have HV:=Lib.hid hV
   have HM:=Lib.hid (HKP.out hrv)
   clear hV HSK HKP hrv
   go_wp2_with fail
   refine HV.out.mono ?_
   rintro e w2 ⟨rfl,hb3⟩
   have hR2:=hR1.under hb3
   have hbk2:=hbk.under hb3
   have hb4:Below B w w2:=hbx.trans (hb3.mono (Nat.le_trans hB hbx.size))
   obtain ⟨o0,o1,o2⟩:=hR2.get HO.out
   obtain ⟨k0,k1⟩:=hbk2.cells
   have hfz:=hR2.frz
   have hR3:=hR2.put (i:=i) (by omega) hri
   have hgl2:=hR2.lt
   clear HV hb3 hbk
   go_wp2
   case roundEnd=>
    go_roundw
    case rel=>exact ⟨i+1,j+1,_,by go_num,by go_num,by omega,by omega,HM,hR3,((hb4.setCell (p:=⟨g,i * 3,none⟩) f3 _).setCell (p:=⟨g,i * 3+1,none⟩) f3 _).setCell (p:=⟨g,i * 3+2,none⟩) f3 _⟩
    case measure=>simp [intOf]<;>omega
  ·rw [hrv] at hV
   have HV:=Lib.hid hV
   have HM:=Lib.hid (HSK.out hrv)
   clear hV HSK HKP hrv
   go_wp2_with fail
   refine HV.out.mono ?_
   rintro e w2 ⟨rfl,hb3⟩
   have hR2:=hR1.under hb3
   have hb4:Below B w w2:=hbx.trans (hb3.mono (Nat.le_trans hB hbx.size))
   clear HV hb3 hbk
   go_wp2
   case roundEnd=>
    go_roundw
    case rel=>exact ⟨i,j+1,_,rfl,by go_num,by omega,by omega,HM,hR2,hb4⟩
    case measure=>simp [intOf]<;>omega
theorem B4t (l:List C1) (v:Int) (ok:Nat→Prop) (ax:Option Addr) (cx:Nat) (w:World) (hx:A8 G6 ok w ax cx l) (hbig:l.length * 24≤140737488355328):
  Calls Try.prog 59 #[.slice ax l.length cx,.int .i64 v] w fun e w'=>∃ ao cap,e=.returned (.slice ao (S0 l v).length cap)∧OR 95 w' w.heap.size ao cap (S0 l v)∧Below w.heap.size w w':=by
 go_enter Try.func59,Try.ntmps59
 go_wp2_with fail
 have hb0:=G8 w (.cells #[.int .i64 v] 3)
 have hk0:=(A6.new (w:=w) (t:=3) (cs:=#[.int .i64 v]) rfl)
 refine (A00 l ok ax cx _ (hx.below hb0) hbig).mono ?_
 rintro e w1 ⟨ao,cap,rfl,hO,hb1⟩
 have hk1:=hk0.under hb1
 have hB1:Below w.heap.size w w1:=hb0.trans (hb1.mono hb0.size)
 have hs1:w.heap.size+1≤w1.heap.size:=by have:=hb1.size;simpa using this
 rw [show (w.alloc (.cells #[.int .i64 v] 3)).heap.size=w.heap.size+1 by simp] at hO
 clear hb1 hb0 hk0
 go_wp2_with fail
 refine (B28 (w.heap.size+1) l v w.heap.size ao cap w1 hO hs1 (hk1.cells.1 0) (by omega) (by omega)).mono ?_
 rintro e w2 ⟨rfl,hO2,hb2⟩
 have hB2:Below w.heap.size w w2:=hB1.trans (hb2.mono (by omega))
 go_wp2
 go_ret;refine ⟨ao,cap,rfl,?_,hB2⟩
 rcases hO2 with h|⟨g,junk,h0,h1,h2,h3,h4⟩
 ·exact .inl h
 ·exact .inr ⟨g,junk,h0,h1,h2,by omega,h4⟩
end Go.Proofs.Ytampcbncgofkoaa
