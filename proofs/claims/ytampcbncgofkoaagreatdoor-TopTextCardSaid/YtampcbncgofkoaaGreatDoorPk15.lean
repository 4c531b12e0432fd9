/- Texts of this proof, one behind the other. -/
import Derived.Test.YtampcbncgofkoaaGreatDoorRows
import Derived.WalkSpells
import Derived.WalkLawsBesides
import Derived.Lib.Hide
import Derived.Deep.LoopGhost
import Derived.Deep.QuietTactic
import Derived.BigQuiet
import Derived.Deep.RegionWith
import Derived.Handy
import Derived.Test.YtampcbncgofkoaaGreatDoorPk5
import Derived.Test.YtampcbncgofkoaaGreatDoorPk9
set_option linter.unusedSimpArgs false
set_option linter.unusedVariables false
set_option maxRecDepth 100000
set_option maxHeartbeats 16000000
namespace Go.St
def orI (x y:Int):Int:=if x≠0 then x else y
end Go.St
namespace Go.Proofs.YtampcbncgofkoaaGreatDoor
open Go.RowKit Go.St
theorem A35 (x y:Int) (w:World):
  Calls Tryz.prog 81 #[.int .i64 x,.int .i64 y] w fun e w'=>e=.returned (.int .i64 (X1 x y))∧w'=w:=by
 have hc:∀ r,X1 x y=r→r=if x<y then -1 else if y<x then 1 else 0:=fun r h=>by rw [←h];rfl
 generalize hr:X1 x y=r at *
 have HC:=Lib.hid (hc r rfl)
 clear hc hr
 go_enter Tryz.func81,Tryz.ntmps81
 by_cases h1:x<y
 ·have HN:=Lib.hid (show r=-1 by rw [HC.out,if_pos h1])
  go_wp2
  go_ret;exact ⟨by rw [HN.out];rfl,rfl⟩
 by_cases h2:y<x
 ·have HN:=Lib.hid (show r=1 by rw [HC.out,if_neg h1,if_pos h2])
  go_wp2
  go_ret;exact ⟨by rw [HN.out];rfl,rfl⟩
 ·have HN:=Lib.hid (show r=0 by rw [HC.out,if_neg h1,if_neg h2])
  go_wp2
  go_ret;exact ⟨by rw [HN.out];rfl,rfl⟩
theorem B5v (x y:Int) (b:Nat) (w:World) (hb:A6 w b 3 #[.int .i64 x,.int .i64 y]):
  Calls Tryz.prog 93 #[.slice (some ⟨b,0,none⟩) 2 2] w fun e w'=>e=.returned (.int .i64 (orI x y))∧w'=w:=by
 obtain ⟨c1,c2⟩:=hb.cells
 have e0:=c1 0
 have e1:=c1 1
 simp only [List.getElem?_toArray,List.getElem?_cons_zero,List.getElem?_cons_succ] at e0 e1
 clear c1 c2
 go_enter Tryz.func93,Tryz.ntmps93
 by_cases h1:x=0
 case neg=>
  have h1':(x !=0)=true:=by rw [bne_iff_ne];exact h1
  have HN:=Lib.hid (show orI x y=x by unfold orI;rw [if_pos h1])
  generalize orI x y=r at *
  clear h1
  go_wp2
  go_rounds 1
  go_ret;exact ⟨by rw [HN.out];rfl,rfl⟩
 subst h1
 by_cases h2:y=0
 ·subst h2
  go_wp2
  go_rounds 3
  go_ret;exact ⟨rfl,rfl⟩
 ·have h1':(y !=0)=true:=by rw [bne_iff_ne];exact h2
  have HN:=Lib.hid (show orI 0 y=y by unfold orI;rw [if_neg (by simp)])
  generalize orI 0 y=r at *
  clear h2
  go_wp2
  go_rounds 2
  go_ret;exact ⟨by rw [HN.out];rfl,rfl⟩
open Go.RowKit Go.St
def OC (B:Nat) (a b:C1) (w:World):Prop:=w.cell? ⟨B,0,none⟩=some (.int .i64 a.ver)∧w.cell? ⟨B,1,none⟩=some (.int .i64 a.flow)∧w.cell? ⟨B+1,0,none⟩=some (.int .i64 b.ver)∧w.cell? ⟨B+1,1,none⟩=some (.int .i64 b.flow)
theorem OC.of {B:Nat} {a b:C1} {w:World} {t:TypeId} (h1:A6 w B t #[.int .i64 a.ver,.int .i64 a.flow,.int .i64 a.next]) (h2:A6 w (B+1) t #[.int .i64 b.ver,.int .i64 b.flow,.int .i64 b.next]):OC B a b w:=
 ⟨h1.cells.1 0,h1.cells.1 1,h2.cells.1 0,h2.cells.1 1⟩
theorem A16 (a b:C1) (w:World):
  Calls Tryz.prog 77 #[.agg #[.int .i64 a.ver,.int .i64 a.flow,.int .i64 a.next],.agg #[.int .i64 b.ver,.int .i64 b.flow,.int .i64 b.next]] w fun e w'=>e=.returned (.int .i64 (V5 a b))∧Below w.heap.size w w':=by
 go_enter Tryz.func77,Tryz.ntmps77
 go_wp2
 refine B9 (OC w.heap.size a b) 99 (fun a0 a' w'=>∃ v5 v6 v7 v8 v9 v10 v11 v12 v13 v14 v15 v16,a'=C8 a0 [(5,v5),(6,v6),(7,v7),(8,v8),(9,v9),(10,v10),(11,v11),(12,v12),(13,v13),(14,v14),(15,v15),(16,v16),(4,.int .i64 (V5 a b))]∧Below w.heap.size w w') (by kernel_rfl) ?_ ?_
 ·intro Q' hR hQp
  have hA:A6 ((w.alloc (.cells #[.int .i64 a.ver,.int .i64 a.flow,.int .i64 a.next] 112)).alloc (.cells #[.int .i64 b.ver,.int .i64 b.flow,.int .i64 b.next] 112)).drew w.heap.size 112 #[.int .i64 a.ver,.int .i64 a.flow,.int .i64 a.next]:=((A6.new rfl).alloc _).drew
  have hB:A6 ((w.alloc (.cells #[.int .i64 a.ver,.int .i64 a.flow,.int .i64 a.next] 112)).alloc (.cells #[.int .i64 b.ver,.int .i64 b.flow,.int .i64 b.next] 112)).drew (w.heap.size+1) 112 #[.int .i64 b.ver,.int .i64 b.flow,.int .i64 b.next]:=(A6.new (by simp)).drew
  have hb:Below w.heap.size w ((w.alloc (.cells #[.int .i64 a.ver,.int .i64 a.flow,.int .i64 a.next] 112)).alloc (.cells #[.int .i64 b.ver,.int .i64 b.flow,.int .i64 b.next] 112)).drew:=by (repeat' (first|with_reducible (first|exact Below.refl _ _|assumption|refine Below.drew ?_|refine A3 ?_ _|refine Below.alloc ?_ ?_ _|refine Below.setCell ?_ ?_ _)|omega|(simp;done)|(simp;omega)))
  generalize ((w.alloc (.cells #[.int .i64 a.ver,.int .i64 a.flow,.int .i64 a.next] 112)).alloc (.cells #[.int .i64 b.ver,.int .i64 b.flow,.int .i64 b.next] 112)).drew=wa at *
  have hS:OC w.heap.size a b wa:=OC.of hA hB
  refine B0 (i:=0) (.pointer (some ⟨w.heap.size,0,none⟩)) rfl (by kernel_rfl) (fun _ _ _ h=>hQp _ _ _ _ h) hS (A0 (by kernel_rfl) (by intro w0 hw0;have hw1:=hw0;simp only [OC] at hw1;go_simp)) ?_;simp only [Act.put,St.tA,St.tD,St.tE,St.tS,St.tC,St.tZ]
  refine B0 (i:=1) (.int .i64 a.ver) rfl (by kernel_rfl) (fun _ _ _ h=>hQp _ _ _ _ h) hS (A0 (by kernel_rfl) (by intro w0 hw0;have hw1:=hw0;simp only [OC] at hw1;go_simp)) ?_;simp only [Act.put,St.tA,St.tD,St.tE,St.tS,St.tC,St.tZ]
  refine B0 (i:=2) (.pointer (some ⟨w.heap.size+1,0,none⟩)) rfl (by kernel_rfl) (fun _ _ _ h=>hQp _ _ _ _ h) hS (A0 (by kernel_rfl) (by intro w0 hw0;have hw1:=hw0;simp only [OC] at hw1;go_simp)) ?_;simp only [Act.put,St.tA,St.tD,St.tE,St.tS,St.tC,St.tZ]
  refine B0 (i:=3) (.int .i64 b.ver) rfl (by kernel_rfl) (fun _ _ _ h=>hQp _ _ _ _ h) hS (A0 (by kernel_rfl) (by intro w0 hw0;have hw1:=hw0;simp only [OC] at hw1;go_simp)) ?_;simp only [Act.put,St.tA,St.tD,St.tE,St.tS,St.tC,St.tZ]
  refine B0 (i:=5) (.pointer (some ⟨w.heap.size,1,none⟩)) rfl (by kernel_rfl) (fun _ _ _ h=>hQp _ _ _ _ h) hS (A0 (by kernel_rfl) (by intro w0 hw0;have hw1:=hw0;simp only [OC] at hw1;go_simp)) ?_;simp only [Act.put,St.tA,St.tD,St.tE,St.tS,St.tC,St.tZ]
  refine B0 (i:=6) (.int .i64 a.flow) rfl (by kernel_rfl) (fun _ _ _ h=>hQp _ _ _ _ h) hS (A0 (by kernel_rfl) (by intro w0 hw0;have hw1:=hw0;simp only [OC] at hw1;go_simp)) ?_;simp only [Act.put,St.tA,St.tD,St.tE,St.tS,St.tC,St.tZ]
  refine B0 (i:=7) (.pointer (some ⟨w.heap.size+1,1,none⟩)) rfl (by kernel_rfl) (fun _ _ _ h=>hQp _ _ _ _ h) hS (A0 (by kernel_rfl) (by intro w0 hw0;have hw1:=hw0;simp only [OC] at hw1;go_simp)) ?_;simp only [Act.put,St.tA,St.tD,St.tE,St.tS,St.tC,St.tZ]
  refine B0 (i:=8) (.int .i64 b.flow) rfl (by kernel_rfl) (fun _ _ _ h=>hQp _ _ _ _ h) hS (A0 (by kernel_rfl) (by intro w0 hw0;have hw1:=hw0;simp only [OC] at hw1;go_simp)) ?_;simp only [Act.put,St.tA,St.tD,St.tE,St.tS,St.tC,St.tZ]
  refine A7 (i:=4) rfl (by kernel_rfl) (by kernel_rfl) fun K4 hK4=>?_
  go_simp
  go_wp2_with fail
  refine (A35 a.ver b.ver wa).mono ?_
  rintro e wb ⟨rfl,rfl⟩
  go_wp2_with fail
  refine hK4 _ _ (fun _=>hS) ?_
  clear hK4
  refine A7 (i:=9) rfl (by kernel_rfl) (by kernel_rfl) fun K9 hK9=>?_
  go_simp
  go_wp2_with fail
  refine (A35 a.flow b.flow _).mono ?_
  rintro e wb ⟨rfl,rfl⟩
  go_wp2_with fail
  refine hK9 _ _ (fun _=>hS) ?_
  clear hK9
  refine A7 (i:=10) rfl (by kernel_rfl) (by kernel_rfl) fun K10 hK10=>?_
  go_simp
  go_wp2_with fail
  have hN:=I6 wb 3 #[.int .i64 (X1 a.ver b.ver),.int .i64 (X1 a.flow b.flow)]
  have hS1:OC w.heap.size a b (wb.alloc (.cells #[.int .i64 (X1 a.ver b.ver),.int .i64 (X1 a.flow b.flow)] 3)):=OC.of (hA.alloc _) (hB.alloc _)
  have hb1:Below w.heap.size w (wb.alloc (.cells #[.int .i64 (X1 a.ver b.ver),.int .i64 (X1 a.flow b.flow)] 3)):=hb.alloc hb.size _
  refine hK10 _ _ (fun _=>hS1) ?_
  clear hK10 hS
  generalize wb.alloc (.cells #[.int .i64 (X1 a.ver b.ver),.int .i64 (X1 a.flow b.flow)] 3)=wc at *
  refine A7 (i:=11) rfl (by kernel_rfl) (by kernel_rfl) fun K11 hK11=>?_
  go_simp
  go_wp2_with fail
  refine (B5v (X1 a.ver b.ver) (X1 a.flow b.flow) _ wc hN).mono ?_
  rintro e wd ⟨rfl,rfl⟩
  go_wp2_with fail
  refine hK11 _ _ (fun _=>hS1) ?_
  clear hK11
  have hS:=hS1
  rw [show orI (X1 a.ver b.ver) (X1 a.flow b.flow)=V5 a b from rfl]
  refine B0 (i:=12) (.int .i64 (V5 a b)) rfl (by kernel_rfl) (fun _ _ _ h=>hQp _ _ _ _ h) hS (A0 (by kernel_rfl) (by intro w0 hw0;have hw1:=hw0;simp only [OC] at hw1;go_simp)) ?_;simp only [Act.put,St.tA,St.tD,St.tE,St.tS,St.tC,St.tZ]
  refine B5 (by kernel_rfl) ?_ _
  refine hR _ _ ?_
  iterate 12 apply Exists.intro
  refine ⟨?_,hb1⟩
  simp only [C8,Act.put,St.tS,St.tC,St.tZ]
  rfl
 rintro a' w8 ⟨v5,v6,v7,v8,v9,v10,v11,v12,v13,v14,v15,v16,rfl,hb8⟩
 simp only [C8,Act.put,St.tS,St.tC,St.tZ]
 go_wp2
 go_ret;exact ⟨rfl,hb8⟩
open Go.RowKit Go.St
theorem A6b (g n cap a b k:Nat) (p u q v s:List C1) (junk:List Value) (cf:Value) (w:World) (h:RR w g 112 (p++u++q++v++s) junk) (hn:(p++u++q++v++s).length=n) (hbig:n≤100000000000000)
  (ha:p.length=a) (hk:u.length=k) (hk':v.length=k) (hb:a+k+q.length=b):
  Calls Tryz.prog 112 #[.slice (some ⟨g,0,none⟩) n cap,.int .i64 a,.int .i64 b,.int .i64 k,cf] w fun e w'=>e=.returned (.tuple #[])∧RR w' g 112 (p++v++q++u++s) junk∧H9 g w w':=by
 have hstep:∀ i zs x y,SwR p u q v s i zs→i<k→zs[a+i]? =some x→zs[b+i]? =some y→SwR p u q v s (i+1) ((zs.set (a+i) y).set (b+i) x):=by
  intro i zs x y h1 h2 h3 h4
  have hb':b=p.length+u.length+q.length:=by omega
  subst ha
  rw [hb'] at h4 ⊢
  exact h1.step (by omega) (by omega) h3 h4
 have hend:∀ i zs,SwR p u q v s i zs→k≤i→zs=p++v++q++u++s:=fun i zs h1 h2=>h1.done (by omega) (by omega)
 have hlen:∀ i zs,SwR p u q v s i zs→i≤k→zs.length=n:=fun i zs h1 h2=>by rw [h1.len (by omega) (by omega),hn]
 have hbn:b+k≤n:=by simp only [List.length_append] at hn;omega
 have hak:a+k≤b:=by omega
 have hst:Hid (SwR p u q v s 0 (p++u++q++v++s)):=SwR.zero p u q v s
 have HS:=Lib.hid hstep
 have HE:=Lib.hid hend
 have HL:=Lib.hid hlen
 clear hstep hend hlen ha hk hk' hb hn
 generalize p++u++q++v++s=z0 at *
 generalize p++v++q++u++s=z1 at *
 go_enter Tryz.func112,Tryz.ntmps112
 go_wp2
 go_loopw [10] (fun idx wr=>∃ (i:Nat) (zs:List C1),idx=.int .i64 i∧i≤k∧Hid (SwR p u q v s i zs)∧RR wr g 112 zs junk∧H9 g w wr) (fun idx _=>k - (intOf idx).toNat)
 case atStart=>exact ⟨0,z0,rfl,Nat.zero_le _,hst,h,H9.refl _ _⟩
 case round=>
  clear hst h
  obtain ⟨i,zs,rfl,hi,hS,hR,hN⟩:=hrel
  rename World=>wo
  have hl:=HL.out i zs hS.out hi
  have hl1:zs.length≤n:=by omega
  have hl2:n≤zs.length:=by omega
  clear hl
  by_cases hlt:i<k
  case neg=>
   have b1:¬(i:Int)<(k:Int):=by omega
   have HZ:=Lib.hid (HE.out i zs hS.out (by omega))
   clear hS
   go_wp2
   go_returns;exact ⟨rfl,by rw [←HZ.out];exact hR,hN⟩
  have b1:(i:Int)<(k:Int):=by omega
  obtain ⟨x,hx⟩:∃ x,zs[a+i]? =some x:=⟨_,List.getElem?_eq_getElem (by omega)⟩
  obtain ⟨y,hy⟩:∃ y,zs[b+i]? =some y:=⟨_,List.getElem?_eq_getElem (by omega)⟩
  obtain ⟨x0,x1,x2⟩:=hR.get hx
  obtain ⟨y0,y1,y2⟩:=hR.get hy
  have hfz:=hR.frz
  have hgl:=hR.lt
  have HX:=Lib.hid (HS.out i zs x y hS.out hlt hx hy)
  have hxr:=hR.elem hx
  have hyr:=hR.elem hy
  have hne:(a+i) * 3<(b+i) * 3:=by omega
  have hai:a+i<n:=by omega
  have hbi:b+i<n:=by omega
  clear hx hy hS
  go_wp2
  go_region
  have hR2:=hR.swap (i:=a+i) (j:=b+i) (x:=x) (y:=y) (by omega) (by omega) hxr hyr
  have hN2:=hN.swap (a+i) (b+i) y x
  simp only [B17] at hR2 hN2
  go_wp2
  case roundEnd=>
   go_roundw
   case rel=>exact ⟨i+1,_,by go_num,by omega,HX,hR2,hN2⟩
   case measure=>simp [intOf]<;>omega
open Go.RowKit Go.St
theorem A8h (g n cap a m b:Nat) (p u v s:List C1) (junk:List Value) (cf:Value) (w:World) (h:RR w g 112 (p++(u++(v++s))) junk) (hn:(p++(u++(v++s))).length=n) (hbig:n≤100000000000000)
  (ha:p.length=a) (hm:a+u.length=m) (hb:m+v.length=b) (hu:1≤u.length) (hv:1≤v.length):
  Calls Tryz.prog 106 #[.slice (some ⟨g,0,none⟩) n cap,.int .i64 a,.int .i64 m,.int .i64 b,cf] w fun e w'=>e=.returned (.tuple #[])∧RR w' g 112 (p++(v++(u++s))) junk∧H9 g w w':=by
 have hst:Hid (Rot p u v s m u.length v.length (p++(u++(v++s)))):=by have:=Rot.zero p u v s;rw [←hm,←ha];exact this
 have hlen:∀ i j zs,Rot p u v s m i j zs→zs.length=n:=fun i j zs h1=>by rw [h1.len,hn]
 have HL:=Lib.hid hlen
 have hmn:m≤n:=by simp only [List.length_append] at hn;omega
 have hbn:b≤n:=by simp only [List.length_append] at hn;omega
 have e1:(m:Int) - (a:Int)=(u.length:Int):=by omega
 have e2:(b:Int) - (m:Int)=(v.length:Int):=by omega
 have hum:u.length≤m:=by omega
 have hvb:m+v.length≤n:=by omega
 clear hlen hn ha hm hb
 generalize hz0:p++(u++(v++s))=z0 at *
 generalize hul:u.length=i0 at *
 generalize hvl:v.length=j0 at *
 clear hz0 hul hvl
 go_enter Tryz.func106,Tryz.ntmps106
 go_wp2
 clear e1 e2
 go_loopw [10,11] (fun ii jj wr=>∃ (i j:Nat) (zs:List C1),ii=.int .i64 i∧jj=.int .i64 j∧1≤i∧1≤j∧Hid (Rot p u v s m i j zs)∧RR wr g 112 zs junk∧H9 g w wr) (fun ii jj _=>(intOf ii).toNat+(intOf jj).toNat)
 case atStart=>exact ⟨i0,j0,z0,rfl,rfl,hu,hv,hst,h,H9.refl _ _⟩
 case round=>
  clear hst h hum hvb hu hv
  obtain ⟨i,j,zs,rfl,rfl,hi,hj,hS,hR,hN⟩:=hrel
  rename World=>wo
  have hl:=HL.out i j zs hS.out
  obtain ⟨k1,k2⟩:=hS.out.bounds
  have hl1:zs.length≤n:=by omega
  have hl2:n≤zs.length:=by omega
  have e1:(m:Int) - (i:Int)=((m - i:Nat):Int):=by omega
  have hgl:=hR.lt
  have HN:=Lib.hid hN
  clear hl hN
  by_cases hij:i=j
  ·subst hij
   obtain ⟨P,U,V,E,hz,f1,f2,f3,f4,f5⟩:=hS.out.same
   have hR1:RR wo g 112 (P++U++[]++V++E) junk:=hz▸hR
   have hn1:(P++U++[]++V++E).length=n:=by rw [←hz];omega
   have HC:=Lib.hid (A6b g n cap (m - i) m i P U [] V E junk cf wo hR1 hn1 hbig f1 f2 f3 (by simp only [List.length_nil] at f4 ⊢;omega))
   have HE:=Lib.hid (show P++V++[]++U++E=p++(v++(u++s)) from f5)
   clear hS hR hR1 hn1 hz f1 f2 f3 f4 f5
   go_wp2_with fail
   try rw [e1]
   refine HC.out.mono ?_
   rintro e w1 ⟨rfl,hr1,hn1⟩
   rw [HE.out] at hr1
   go_wp2
   go_returns;exact ⟨rfl,hr1,HN.out.trans hn1⟩
  have hne:((i:Int) !=(j:Int))=true:=by rw [bne_iff_ne];omega
  by_cases hgt:j<i
  ·obtain ⟨P,U1,U2,V,E,hz,f1,f2,f3,f4,f5⟩:=hS.out.more hgt
   have hR1:RR wo g 112 (P++U1++U2++V++E) junk:=hz▸hR
   have hn1:(P++U1++U2++V++E).length=n:=by rw [←hz];omega
   have HC:=Lib.hid (A6b g n cap (m - i) m j P U1 U2 V E junk cf wo hR1 hn1 hbig f1 f2 f3 (by omega))
   have HT:Hid (Rot p u v s m (i - j) j (P++V++U2++U1++E)):=f5
   have b1:(j:Int)<(i:Int):=by omega
   have e3:(i:Int) - (j:Int)=((i - j:Nat):Int):=by omega
   clear hS hR hR1 hn1 hz f1 f2 f3 f4 f5
   go_wp2_with fail
   try rw [e1]
   refine HC.out.mono ?_
   rintro e w1 ⟨rfl,hr1,hn1⟩
   go_wp2
   case roundEnd=>
    go_roundw
    case rel=>exact ⟨i - j,j,_,by first|rfl|rw [e3],rfl,by omega,hj,HT,hr1,HN.out.trans hn1⟩
    case measure=>simp [intOf]<;>omega
  ·have hlt:i<j:=by omega
   obtain ⟨P,U,V1,V2,E,hz,f1,f2,f3,f4,f5⟩:=hS.out.less hlt
   have hR1:RR wo g 112 (P++U++V1++V2++E) junk:=hz▸hR
   have hn1:(P++U++V1++V2++E).length=n:=by rw [←hz];omega
   have HC:=Lib.hid (A6b g n cap (m - i) (m+j - i) i P U V1 V2 E junk cf wo hR1 hn1 hbig f1 f2 f3 (by omega))
   have HT:Hid (Rot p u v s m i (j - i) (P++V2++V1++U++E)):=f5
   have b1:¬(j:Int)<(i:Int):=by omega
   have e3:(j:Int) - (i:Int)=((j - i:Nat):Int):=by omega
   have e4:(m:Int)+(j:Int) - (i:Int)=((m+j - i:Nat):Int):=by omega
   clear hS hR hR1 hn1 hz f1 f2 f3 f4 f5
   go_wp2_with fail
   try rw [e4]
   try rw [e1]
   refine HC.out.mono ?_
   rintro e w1 ⟨rfl,hr1,hn1⟩
   go_wp2
   case roundEnd=>
    go_roundw
    case rel=>exact ⟨i,j - i,_,rfl,by first|rfl|rw [e3],hi,by omega,HT,hr1,HN.out.trans hn1⟩
    case measure=>simp [intOf]<;>omega
end Go.Proofs.YtampcbncgofkoaaGreatDoor
namespace Go.St
open Go.RowKit
def R2 (g o o':Nat) (x y:C1) (w:World):Prop:=
 w.cell? ⟨g,o,none⟩=some (.int .i64 x.ver)∧w.cell? ⟨g,o+1,none⟩=some (.int .i64 x.flow)∧w.cell? ⟨g,o+2,none⟩=some (.int .i64 x.next)∧
 w.cell? ⟨g,o',none⟩=some (.int .i64 y.ver)∧w.cell? ⟨g,o'+1,none⟩=some (.int .i64 y.flow)∧w.cell? ⟨g,o'+2,none⟩=some (.int .i64 y.next)
theorem R2.of {w:World} {g:Nat} {t:TypeId} {zs:List C1} {junk:List Value} (h:RR w g t zs junk) {i j:Nat} {x y:C1} (hx:zs[i]? =some x) (hy:zs[j]? =some y):R2 g (i * 3) (j * 3) x y w:=
 ⟨(h.get hx).1,(h.get hx).2.1,(h.get hx).2.2,(h.get hy).1,(h.get hy).2.1,(h.get hy).2.2⟩
theorem T5 (x y:C1):(decide (V5 x y<0))=B4 x y:=by
 rw [Bool.eq_iff_iff,decide_eq_true_eq,A95]
theorem R2.under {g o o':Nat} {x y:C1} {w w':World} (h:R2 g o o' x y w) (hg:g<w.heap.size) (hb:Below w.heap.size w w'):R2 g o o' x y w':=by
 have e:∀ k,w'.cell? ⟨g,k,none⟩=w.cell? ⟨g,k,none⟩:=fun k=>hb.cell hg
 unfold R2 at *
 simp only [e];exact h
end Go.St
namespace Go.Proofs.YtampcbncgofkoaaGreatDoor
open Go.RowKit Go.St
theorem A5p (g n cap a b:Nat) (p u s:List C1) (junk:List Value) (w:World) (h:RR w g 112 (p++(u++s)) junk) (hn:(p++(u++s)).length=n) (hbig:n≤100000000000000)
  (ha:p.length=a) (hb:a+u.length=b):
  Calls Tryz.prog 102 #[.slice (some ⟨g,0,none⟩) n cap,.int .i64 a,.int .i64 b,.func (.func 77) #[] #[]] w fun e w'=>e=.returned (.tuple #[])∧(∃ v,RR w' g 112 (p++(v++s)) junk∧v.length=u.length∧Srt B4 v∧E4 B4 u v)∧H9 g w w':=by
 have hgo:∀ i ys,A0h B4 p u s (i - a) ys→a≤i→i<b→A0t B4 p u s (i - a) (i - a) ys:=fun i ys h1 h2 h3=>h1.go (by omega)
 have hdown:∀ i jp zs x y,A0t B4 p u s (i - a) (jp+1 - a) zs→a≤jp→zs[jp+1]? =some x→zs[jp]? =some y→B4 x y=true→A0t B4 p u s (i - a) (jp - a) ((zs.set (jp+1) y).set jp x):=by
  intro i jp zs x y h1 h2 h3 h4 h5
  have e1:jp+1 - a=(jp - a)+1:=by omega
  have e2:jp+1=p.length+((jp - a)+1):=by omega
  have e3:jp=p.length+(jp - a):=by omega
  rw [e1] at h1
  rw [e2] at h3
  rw [e3] at h4
  have:=h1.down C4 h3 h4 h5
  rw [←e2,←e3] at this
  exact this
 have hstop:∀ i jp zs x y,A0t B4 p u s (i - a) (jp+1 - a) zs→a≤i→a≤jp→zs[jp+1]? =some x→zs[jp]? =some y→B4 x y=false→A0h B4 p u s (i+1 - a) zs:=by
  intro i jp zs x y h1 h0 h2 h3 h4 h5
  have e1:jp+1 - a=(jp - a)+1:=by omega
  have e2:jp+1=p.length+((jp - a)+1):=by omega
  have e3:jp=p.length+(jp - a):=by omega
  have e4:i+1 - a=(i - a)+1:=by omega
  rw [e4]
  refine h1.stop C4 (.inr ⟨jp - a,x,y,e1,by rw [←e2];exact h3,by rw [←e3];exact h4,h5⟩)
 have hstop0:∀ i zs,A0t B4 p u s (i - a) (a - a) zs→a≤i→A0h B4 p u s (i+1 - a) zs:=by
  intro i zs h1 h0
  have e4:i+1 - a=(i - a)+1:=by omega
  rw [e4]
  exact h1.stop C4 (.inl (by omega))
 have hend:∀ i ys,A0h B4 p u s (i - a) ys→b≤i→∃ v,ys=p++(v++s)∧v.length=u.length∧Srt B4 v∧E4 B4 u v:=fun i ys h1 h2=>h1.done (by omega)
 have hlenO:∀ i zs,A0h B4 p u s i zs→zs.length=n:=fun i zs h1=>by rw [h1.len,hn]
 have hlenI:∀ i m zs,A0t B4 p u s i m zs→zs.length=n:=fun i m zs h1=>by rw [h1.len,hn]
 have hbn:b≤n:=by simp only [List.length_append] at hn;omega
 have hab:a≤b:=by omega
 have hst:Hid (A0h B4 p u s (a+1 - a) (p++(u++s))):=by have:=A0h.one (lt:=B4) p u s;rw [show a+1 - a=1 by omega];exact this
 have HG:=Lib.hid hgo
 have HD:=Lib.hid hdown
 have HS:=Lib.hid hstop
 have HS0:=Lib.hid hstop0
 have HE:=Lib.hid hend
 have HLO:=Lib.hid hlenO
 have HLI:=Lib.hid hlenI
 clear hgo hdown hstop hstop0 hend hlenO hlenI ha hb hn
 generalize hz0:p++(u++s)=z0 at *
 clear hz0
 go_enter Tryz.func102,Tryz.ntmps102
 go_wp2
 go_loopw [8,9] (fun ii _ wr=>∃ (i:Nat) (zs:List C1),ii=.int .i64 i∧a<i∧i≤b+1∧Hid (A0h B4 p u s (i - a) zs)∧RR wr g 112 zs junk∧Hid (H9 g w wr)) (fun ii _ _=>b+1 - (intOf ii).toNat)
 case atStart=>exact ⟨a+1,z0,by go_num,by omega,by omega,hst,h,H9.refl _ _⟩
 case round=>
  clear hst h
  obtain ⟨i,zs,rfl,hi,hib,hO,hR,hN⟩:=hrel
  rename World=>wo
  by_cases hlt:i<b
  case neg=>
   have b1:¬(i:Int)<(b:Int):=by omega
   obtain ⟨v,hv0,hv1,hv2,hv3⟩:=HE.out i zs hO.out (by omega)
   have HZ:=Lib.hid hv0
   clear hv0 hO
   go_wp2
   go_returns;exact ⟨rfl,⟨v,by rw [←HZ.out];exact hR,hv1,hv2,hv3⟩,hN.out⟩
  have b1:(i:Int)<(b:Int):=by omega
  have hI:=Lib.hid (HG.out i zs hO.out (by omega) hlt)
  clear hO
  go_wp2
  go_loopw [9] (fun jj wr=>∃ (j:Nat) (zs:List C1),jj=.int .i64 j∧a≤j∧j≤i∧Hid (A0t B4 p u s (i - a) (j - a) zs)∧RR wr g 112 zs junk∧Hid (H9 g w wr)) (fun jj _=>(intOf jj).toNat)
  case atStart=>exact ⟨i,zs,rfl,by omega,by omega,hI,hR,hN⟩
  case round=>
   clear hI hR hN
   clear zs
   obtain ⟨j,zs,rfl,hj,hji,hI,hR,hN⟩:=hrel
   rename World=>wi
   have hl:=HLI.out _ _ zs hI.out
   have hl1:zs.length≤n:=by omega
   have hl2:n≤zs.length:=by omega
   have hgl:=hR.lt
   clear hl
   by_cases hja:a<j
   case neg=>
    obtain rfl:j=a:=by omega
    have hO:=Lib.hid (HS0.out i zs hI.out (by omega))
    clear hI
    have b2:¬(j:Int)<(j:Int):=by omega
    go_wp2
    refine B9 (fun _=>True) 99 (fun a0 a' w'=>∃ v18 v19 v20 v21 v22 v23 v24 v25 v26 v27 v28 v29 v30 v31 v32 v33,a'=C8 a0 [(18,v18),(19,v19),(20,v20),(21,v21),(22,v22),(23,v23),(24,v24),(25,v25),(26,v26),(27,v27),(28,v28),(29,v29),(30,v30),(31,v31),(32,v32),(33,v33),(34,.bool false)]∧w'=wi.drew) (by kernel_rfl) ?_ ?_
    ·intro Q' hR hQp
     have hS:(fun _:World=>True) wi.drew:=trivial
     refine B0 (i:=0) (.int .i64 j) rfl (by kernel_rfl) (fun _ _ _ h=>hQp _ _ _ _ h) hS (A0 (by kernel_rfl) (by intro w0 hw0;go_simp)) ?_;simp only [Act.put,St.tA,St.tD,St.tE,St.tS,St.tC,St.tZ]
     refine B0 (i:=1) (.int .i64 j) rfl (by kernel_rfl) (fun _ _ _ h=>hQp _ _ _ _ h) hS (A0 (by kernel_rfl) (by intro w0 hw0;go_simp)) ?_;simp only [Act.put,St.tA,St.tD,St.tE,St.tS,St.tC,St.tZ]
     refine B0 (i:=2) (.bool false) rfl (by kernel_rfl) (fun _ _ _ h=>hQp _ _ _ _ h) hS (A0 (by kernel_rfl) (by intro w0 hw0;go_simp)) ?_;simp only [Act.put,St.tA,St.tD,St.tE,St.tS,St.tC,St.tZ]
     refine B0 (i:=3) (.bool false) rfl (by kernel_rfl) (fun _ _ _ h=>hQp _ _ _ _ h) hS (A0 (by kernel_rfl) (by intro w0 hw0;go_simp)) ?_;simp only [Act.put,St.tA,St.tD,St.tE,St.tS,St.tC,St.tZ]
     refine B0 (i:=4) undef rfl (by kernel_rfl) (fun _ _ _ h=>hQp _ _ _ _ h) hS (.inr ⟨by kernel_rfl,rfl⟩) ?_;simp only [Act.put,St.tA,St.tD,St.tE,St.tS,St.tC,St.tZ]
     refine B0 (i:=5) undef rfl (by kernel_rfl) (fun _ _ _ h=>hQp _ _ _ _ h) hS (.inr ⟨by kernel_rfl,rfl⟩) ?_;simp only [Act.put,St.tA,St.tD,St.tE,St.tS,St.tC,St.tZ]
     refine B0 (i:=6) undef rfl (by kernel_rfl) (fun _ _ _ h=>hQp _ _ _ _ h) hS (.inr ⟨by kernel_rfl,rfl⟩) ?_;simp only [Act.put,St.tA,St.tD,St.tE,St.tS,St.tC,St.tZ]
     refine B0 (i:=7) undef rfl (by kernel_rfl) (fun _ _ _ h=>hQp _ _ _ _ h) hS (.inr ⟨by kernel_rfl,rfl⟩) ?_;simp only [Act.put,St.tA,St.tD,St.tE,St.tS,St.tC,St.tZ]
     refine B0 (i:=8) undef rfl (by kernel_rfl) (fun _ _ _ h=>hQp _ _ _ _ h) hS (.inr ⟨by kernel_rfl,rfl⟩) ?_;simp only [Act.put,St.tA,St.tD,St.tE,St.tS,St.tC,St.tZ]
     refine B0 (i:=9) undef rfl (by kernel_rfl) (fun _ _ _ h=>hQp _ _ _ _ h) hS (.inr ⟨by kernel_rfl,rfl⟩) ?_;simp only [Act.put,St.tA,St.tD,St.tE,St.tS,St.tC,St.tZ]
     refine B0 (i:=10) undef rfl (by kernel_rfl) (fun _ _ _ h=>hQp _ _ _ _ h) hS (.inr ⟨by kernel_rfl,rfl⟩) ?_;simp only [Act.put,St.tA,St.tD,St.tE,St.tS,St.tC,St.tZ]
     refine B0 (i:=11) undef rfl (by kernel_rfl) (fun _ _ _ h=>hQp _ _ _ _ h) hS (.inr ⟨by kernel_rfl,rfl⟩) ?_;simp only [Act.put,St.tA,St.tD,St.tE,St.tS,St.tC,St.tZ]
     refine B0 (i:=12) undef rfl (by kernel_rfl) (fun _ _ _ h=>hQp _ _ _ _ h) hS (.inr ⟨by kernel_rfl,rfl⟩) ?_;simp only [Act.put,St.tA,St.tD,St.tE,St.tS,St.tC,St.tZ]
     refine B0 (i:=13) undef rfl (by kernel_rfl) (fun _ _ _ h=>hQp _ _ _ _ h) hS (.inr ⟨by kernel_rfl,rfl⟩) ?_;simp only [Act.put,St.tA,St.tD,St.tE,St.tS,St.tC,St.tZ]
     refine B0 (i:=14) undef rfl (by kernel_rfl) (fun _ _ _ h=>hQp _ _ _ _ h) hS (.inr ⟨by kernel_rfl,rfl⟩) ?_;simp only [Act.put,St.tA,St.tD,St.tE,St.tS,St.tC,St.tZ]
     refine B0 (i:=15) undef rfl (by kernel_rfl) (fun _ _ _ h=>hQp _ _ _ _ h) hS (.inr ⟨by kernel_rfl,rfl⟩) ?_;simp only [Act.put,St.tA,St.tD,St.tE,St.tS,St.tC,St.tZ]
     refine B0 (i:=16) (.bool false) rfl (by kernel_rfl) (fun _ _ _ h=>hQp _ _ _ _ h) hS (A0 (by kernel_rfl) (by intro w0 hw0;go_simp)) ?_;simp only [Act.put,St.tA,St.tD,St.tE,St.tS,St.tC,St.tZ]
     refine B5 (by kernel_rfl) ?_ _
     refine hR _ _ ?_
     iterate 16 apply Exists.intro
     refine ⟨?_,rfl⟩
     simp only [C8,Act.put,St.tS,St.tC,St.tZ]
     rfl
    rintro a' w8 ⟨v18,v19,v20,v21,v22,v23,v24,v25,v26,v27,v28,v29,v30,v31,v32,v33,rfl,rfl⟩
    simp only [C8,Act.put,St.tS,St.tC,St.tZ]
    have hR2:=hR.drew
    have hN2:Hid (H9 g w wi.drew):=hN.out.drew
    go_wp2
    case roundEnd=>
     go_roundw
     case rel=>exact ⟨i+1,zs,by go_num,by omega,by omega,hO,hR2,hN2⟩
     case measure=>simp [intOf]<;>omega
   obtain ⟨jp,rfl⟩:∃ jp,j=jp+1:=⟨j - 1,by omega⟩
   obtain ⟨x,hx⟩:∃ x,zs[jp+1]? =some x:=⟨_,List.getElem?_eq_getElem (by omega)⟩
   obtain ⟨y,hy⟩:∃ y,zs[jp]? =some y:=⟨_,List.getElem?_eq_getElem (by omega)⟩
   have hS0:=R2.of hR hx hy
   have b2:(a:Int)<(jp:Int)+1:=by omega
   have hjn:jp+1<n:=by omega
   have hjn':jp<n:=by omega
   have HD1:=Lib.hid (HD.out i jp zs x y hI.out (by omega) hx hy)
   have HS1:=Lib.hid (HS.out i jp zs x y hI.out (by omega) (by omega) hx hy)
   have hxr:=hR.elem hx
   have hyr:=hR.elem hy
   have HX:=Lib.hid hx
   have HY:=Lib.hid hy
   have ob:=T5 x y
   have k1:IntKind.i64.wrap (jp:Int)=jp:=IntWalk.i64_in _ (by omega)
   have k2:(0:Int)≤(jp:Int)+1:=by omega
   have k3:¬(n:Int)≤(jp:Int)+1:=by omega
   have k4:¬(n:Int)≤(jp:Int):=by omega
   clear hI hx hy
   go_wp2
   refine B9 (R2 g ((jp+1) * 3) (jp * 3) x y) 99 (fun a0 a' w'=>∃ v18 v19 v20 v21 v22 v23 v24 v25 v26 v27 v28 v29 v30 v31 v32 v33,a'=C8 a0 [(18,v18),(19,v19),(20,v20),(21,v21),(22,v22),(23,v23),(24,v24),(25,v25),(26,v26),(27,v27),(28,v28),(29,v29),(30,v30),(31,v31),(32,v32),(33,v33),(34,.bool (B4 x y))]∧Below wi.heap.size wi w') (by kernel_rfl) ?_ ?_
   ·intro Q' hR hQp
    have hb0:Below wi.heap.size wi wi.drew:=N4 _
    have hS:R2 g ((jp+1) * 3) (jp * 3) x y wi.drew:=hS0
    generalize wi.drew=wa at *
    refine B0 (i:=0) (.int .i64 (↑jp+1)) rfl (by kernel_rfl) (fun _ _ _ h=>hQp _ _ _ _ h) hS (A0 (by kernel_rfl) (by intro w0 hw0;have hw1:=hw0;simp only [R2] at hw1;go_simp)) ?_;simp only [Act.put,St.tA,St.tD,St.tE,St.tS,St.tC,St.tZ]
    refine B0 (i:=1) (.int .i64 a) rfl (by kernel_rfl) (fun _ _ _ h=>hQp _ _ _ _ h) hS (A0 (by kernel_rfl) (by intro w0 hw0;have hw1:=hw0;simp only [R2] at hw1;go_simp)) ?_;simp only [Act.put,St.tA,St.tD,St.tE,St.tS,St.tC,St.tZ]
    refine B0 (i:=2) (.bool true) rfl (by kernel_rfl) (fun _ _ _ h=>hQp _ _ _ _ h) hS (A0 (by kernel_rfl) (by intro w0 hw0;have hw1:=hw0;simp only [R2] at hw1;go_simp)) ?_;simp only [Act.put,St.tA,St.tD,St.tE,St.tS,St.tC,St.tZ]
    refine B0 (i:=3) (.bool true) rfl (by kernel_rfl) (fun _ _ _ h=>hQp _ _ _ _ h) hS (A0 (by kernel_rfl) (by intro w0 hw0;have hw1:=hw0;simp only [R2] at hw1;go_simp)) ?_;simp only [Act.put,St.tA,St.tD,St.tE,St.tS,St.tC,St.tZ]
    refine B0 (i:=4) (.func (.func 77) #[] #[]) rfl (by kernel_rfl) (fun _ _ _ h=>hQp _ _ _ _ h) hS (A0 (by kernel_rfl) (by intro w0 hw0;have hw1:=hw0;simp only [R2] at hw1;go_simp)) ?_;simp only [Act.put,St.tA,St.tD,St.tE,St.tS,St.tC,St.tZ]
    refine B0 (i:=5) (.slice (some ⟨g,0,none⟩) n cap) rfl (by kernel_rfl) (fun _ _ _ h=>hQp _ _ _ _ h) hS (A0 (by kernel_rfl) (by intro w0 hw0;have hw1:=hw0;simp only [R2] at hw1;go_simp)) ?_;simp only [Act.put,St.tA,St.tD,St.tE,St.tS,St.tC,St.tZ]
    refine B0 (i:=6) (.int .i64 (↑jp+1)) rfl (by kernel_rfl) (fun _ _ _ h=>hQp _ _ _ _ h) hS (A0 (by kernel_rfl) (by intro w0 hw0;have hw1:=hw0;simp only [R2] at hw1;go_simp)) ?_;simp only [Act.put,St.tA,St.tD,St.tE,St.tS,St.tC,St.tZ]
    refine B0 (i:=7) (.pointer (some ⟨g,(jp+1) * 3,none⟩)) rfl (by kernel_rfl) (fun _ _ _ h=>hQp _ _ _ _ h) hS (A0 (by kernel_rfl) (by intro w0 hw0;have hw1:=hw0;simp only [R2] at hw1;go_simp)) ?_;simp only [Act.put,St.tA,St.tD,St.tE,St.tS,St.tC,St.tZ]
    refine B0 (i:=8) (.agg #[.int .i64 x.ver,.int .i64 x.flow,.int .i64 x.next]) rfl (by kernel_rfl) (fun _ _ _ h=>hQp _ _ _ _ h) hS (A0 (by kernel_rfl) (by intro w0 hw0;have hw1:=hw0;simp only [R2] at hw1;go_simp)) ?_;simp only [Act.put,St.tA,St.tD,St.tE,St.tS,St.tC,St.tZ]
    refine B0 (i:=9) (.slice (some ⟨g,0,none⟩) n cap) rfl (by kernel_rfl) (fun _ _ _ h=>hQp _ _ _ _ h) hS (A0 (by kernel_rfl) (by intro w0 hw0;have hw1:=hw0;simp only [R2] at hw1;go_simp)) ?_;simp only [Act.put,St.tA,St.tD,St.tE,St.tS,St.tC,St.tZ]
    refine B0 (i:=10) (.int .i64 (↑jp+1)) rfl (by kernel_rfl) (fun _ _ _ h=>hQp _ _ _ _ h) hS (A0 (by kernel_rfl) (by intro w0 hw0;have hw1:=hw0;simp only [R2] at hw1;go_simp)) ?_;simp only [Act.put,St.tA,St.tD,St.tE,St.tS,St.tC,St.tZ]
    refine B0 (i:=11) (.int .i64 jp) rfl (by kernel_rfl) (fun _ _ _ h=>hQp _ _ _ _ h) hS (A0 (by kernel_rfl) (by intro w0 hw0;have hw1:=hw0;simp only [R2] at hw1;go_simp)) ?_;simp only [Act.put,St.tA,St.tD,St.tE,St.tS,St.tC,St.tZ]
    refine B0 (i:=12) (.pointer (some ⟨g,jp * 3,none⟩)) rfl (by kernel_rfl) (fun _ _ _ h=>hQp _ _ _ _ h) hS (A0 (by kernel_rfl) (by intro w0 hw0;have hw1:=hw0;simp only [R2] at hw1;go_simp)) ?_;simp only [Act.put,St.tA,St.tD,St.tE,St.tS,St.tC,St.tZ]
    refine B0 (i:=13) (.agg #[.int .i64 y.ver,.int .i64 y.flow,.int .i64 y.next]) rfl (by kernel_rfl) (fun _ _ _ h=>hQp _ _ _ _ h) hS (A0 (by kernel_rfl) (by intro w0 hw0;have hw1:=hw0;simp only [R2] at hw1;go_simp)) ?_;simp only [Act.put,St.tA,St.tD,St.tE,St.tS,St.tC,St.tZ]
    clear hS
    refine A7 (i:=14) rfl (by kernel_rfl) (by kernel_rfl) fun K14 hK14=>?_
    go_simp
    go_wp2_with fail
    refine (A16 x y wa).mono ?_
    rintro e wb ⟨rfl,hb1⟩
    go_wp2_with fail
    have hb2:Below wi.heap.size wi wb:=hb0.trans (hb1.mono hb0.size)
    have hS:=hS0.under hgl hb2
    refine hK14 _ _ (fun _=>hS) ?_
    clear hK14
    refine B0 (i:=15) (.bool (B4 x y)) rfl (by kernel_rfl) (fun _ _ _ h=>hQp _ _ _ _ h) hS (A0 (by kernel_rfl) (by intro w0 hw0;have hw1:=hw0;simp only [R2] at hw1;go_simp)) ?_;simp only [Act.put,St.tA,St.tD,St.tE,St.tS,St.tC,St.tZ]
    refine B0 (i:=16) (.bool (B4 x y)) rfl (by kernel_rfl) (fun _ _ _ h=>hQp _ _ _ _ h) hS (A0 (by kernel_rfl) (by intro w0 hw0;have hw1:=hw0;simp only [R2] at hw1;go_simp)) ?_;simp only [Act.put,St.tA,St.tD,St.tE,St.tS,St.tC,St.tZ]
    refine B5 (by kernel_rfl) ?_ _
    refine hR _ _ ?_
    iterate 16 apply Exists.intro
    refine ⟨?_,hb2⟩
    simp only [C8,Act.put,St.tS,St.tC,St.tZ]
    rfl
   rintro a' w8 ⟨v18,v19,v20,v21,v22,v23,v24,v25,v26,v27,v28,v29,v30,v31,v32,v33,rfl,hb8⟩
   simp only [C8,Act.put,St.tS,St.tC,St.tZ]
   have hR8:=hR.under hb8
   have hN8:Hid (H9 g w w8):=hN.out.then hb8
   clear hR hN hS0 hb8 k2 k3 k4
   by_cases hxy:B4 x y=true
   case neg=>
    have hxy':B4 x y=false:=by simpa using hxy
    have hO:=Lib.hid (HS1.out hxy')
    rw [hxy']
    clear hxy HD1 HS1
    go_wp2
    case roundEnd=>
     go_roundw
     case rel=>exact ⟨i+1,zs,by go_num,by omega,by omega,hO,hR8,hN8⟩
     case measure=>simp [intOf]<;>omega
   have hI:=Lib.hid (HD1.out hxy)
   rw [hxy]
   clear HD1 HS1
   obtain ⟨x0,x1,x2⟩:=hR8.get HX.out
   obtain ⟨y0,y1,y2⟩:=hR8.get HY.out
   have hfz:=hR8.frz
   have hgl:=hR8.lt
   go_wp2
   go_region
   have hR2:=hR8.swap (i:=jp+1) (j:=jp) (x:=x) (y:=y) (by omega) (by omega) hxr hyr
   have hN2:=Lib.hid (hN8.out.swap (jp+1) jp y x)
   simp only [B17] at hR2 hN2
   go_wp2
   case roundEnd=>
    go_roundw
    case rel=>exact ⟨jp,_,by go_num,by omega,by omega,hI,hR2,hN2⟩
    case measure=>simp [intOf]<;>omega
end Go.Proofs.YtampcbncgofkoaaGreatDoor
