/- Texts of this proof, one behind the other. -/
import Derived.Test.YtampcbncgofkoaaGreatDoorPk15
set_option linter.unusedSimpArgs false
set_option linter.unusedVariables false
set_option maxRecDepth 100000
set_option maxHeartbeats 16000000
namespace Go.St
def BsA (v:List C1) (x:C1) (i j:Nat):Prop:=(i=0∨∃ h y,h+1=i∧v[h]? =some y∧B4 y x=true)∧(v.length≤j∨∃ y,v[j]? =some y∧B4 y x=false)
theorem BsA.start (v:List C1) (x:C1):BsA v x 0 v.length:=⟨.inl rfl,.inl (Nat.le_refl _)⟩
theorem BsA.up {v:List C1} {x y:C1} {i j h:Nat} (g:BsA v x i j) (hy:v[h]? =some y) (hl:B4 y x=true):BsA v x (h+1) j:=⟨.inr ⟨h,y,rfl,hy,hl⟩,g.2⟩
theorem BsA.down {v:List C1} {x y:C1} {i j h:Nat} (g:BsA v x i j) (hy:v[h]? =some y) (hl:B4 y x=false):BsA v x i h:=⟨g.1,.inr ⟨y,hy,hl⟩⟩
theorem U3 {v:List C1} (hv:Srt B4 v) {i j:Nat} {a b:C1} (hij:i≤j) (ha:v[i]? =some a) (hb:v[j]? =some b):B4 b a=false:=by
 rcases Nat.lt_or_eq_of_le hij with h|rfl
 ·obtain ⟨h1,rfl⟩:=List.getElem?_eq_some_iff.1 ha
  obtain ⟨h2,rfl⟩:=List.getElem?_eq_some_iff.1 hb
  exact List.pairwise_iff_getElem.1 hv i j h1 h2 h
 ·rw [ha] at hb;obtain rfl:a=b:=by simpa using hb
  exact C4.irr _
theorem BsA.done {v:List C1} {x:C1} {i:Nat} (g:BsA v x i i) (hv:Srt B4 v):(∀ y∈v.take i,B4 y x=true)∧∀ y∈v.drop i,B4 y x=false:=by
 constructor
 ·intro y hy
  rcases g.1 with rfl|⟨h,z,rfl,hz,hl⟩
  ·simp at hy
  obtain ⟨k,hk,e⟩:=List.getElem_of_mem hy
  have hk':v[k]? =some y:=by rw [←e,List.getElem_take];exact List.getElem?_eq_getElem _
  have hkh:k≤h:=by simp at hk;omega
  exact C4.le_lt (U3 hv hkh hk' hz) hl
 ·intro y hy
  obtain ⟨k,hk,e⟩:=List.getElem_of_mem hy
  have hk':v[i+k]? =some y:=by rw [←e,List.getElem_drop];exact List.getElem?_eq_getElem _
  rcases g.2 with h|⟨z,hz,hl⟩
  ·have:=(List.getElem?_eq_some_iff.1 hk').1;omega
  ·exact C4.neg (U3 hv (by omega) hz hk') hl
end Go.St
namespace Go.Proofs.YtampcbncgofkoaaGreatDoor
open Go.RowKit Go.St
theorem B5c (g n cap a m b:Nat) (p v s:List C1) (x:C1) (junk:List Value) (w:World) (h:RR w g 112 (p++x::(v++s)) junk) (hn:(p++x::(v++s)).length=n) (hbig:n≤100000000000000)
  (ha:p.length=a) (hm:m=a+1) (hb:m+v.length=b) (hv:Srt B4 v):
  Calls Tryz.prog 103 #[.slice (some ⟨g,0,none⟩) n cap,.int .i64 a,.int .i64 m,.int .i64 b,.func (.func 77) #[] #[]] w fun e w'=>e=.returned (.tuple #[])∧(∃ v1 v2,v=v1++v2∧(∀ y∈v1,B4 y x=true)∧(∀ y∈v2,B4 y x=false)∧RR w' g 112 (p++(v1++x::(v2++s))) junk)∧H9 g w w':=by
 have hx0:(p++x::(v++s))[a]? =some x:=Go.St.get_at p _ x ha.symm
 have hget:∀ h y,m≤h→h<b→(p++x::(v++s))[h]? =some y→v[h - m]? =some y:=by
  intro h y h1 h2 h3
  rw [List.getElem?_append_right (by omega),show h - p.length=(h - m)+1 by omega,List.getElem?_cons_succ,List.getElem?_append_left (by omega)] at h3
  exact h3
 have hbn:b≤n:=by simp only [List.length_append,List.length_cons] at hn;omega
 have hvl:v.length=b - m:=by omega
 have hxr:=h.elem hx0
 have hst:Hid (BsA v x (m - m) (b - m)):=by have:=BsA.start v x;rw [hvl] at this;rw [Nat.sub_self];exact this
 have hfin:∀ i,m≤i→i≤b→BsA v x (i - m) (i - m)→∃ v1 v2,v=v1++v2∧v1.length=i - m∧(∀ y∈v1,B4 y x=true)∧(∀ y∈v2,B4 y x=false):=fun i h1 h2 h3=>
  ⟨v.take (i - m),v.drop (i - m),(List.take_append_drop _ _).symm,by simp;omega,(h3.done hv).1,(h3.done hv).2⟩
 have HF:=Lib.hid hfin
 generalize hz0:p++x::(v++s)=z0 at *
 have HZ:=Lib.hid hz0
 have HG:=Lib.hid hget
 have HX0:=Lib.hid hx0
 have HA:=Lib.hid ha
 have hmb:m≤b:=by omega
 have e1:(m:Int) - (a:Int)=1:=by omega
 have han:a<n:=by omega
 have hm':a<m:=by omega
 have hm2:m≤a+1:=by omega
 have hl1:z0.length≤n:=by omega
 have hl2:n≤z0.length:=by omega
 clear hget hx0 hv hvl hb hm hn ha hz0 hfin
 go_enter Tryz.func103,Tryz.ntmps103
 go_wp2
 go_loopw [10,11,12] (fun ii jj _ wr=>∃ (i j:Nat),ii=.int .i64 i∧jj=.int .i64 j∧m≤i∧i≤j∧j≤b∧Hid (BsA v x (i - m) (j - m))∧RR wr g 112 z0 junk∧Hid (H9 g w wr)) (fun ii jj _ _=>(intOf jj).toNat - (intOf ii).toNat)
 case atStart=>exact ⟨m,b,rfl,rfl,Nat.le_refl _,hmb,Nat.le_refl _,hst,h,H9.refl _ _⟩
 case round=>
  clear hst h
  obtain ⟨i,j,rfl,rfl,hi,hij,hjb,hS,hR,hN⟩:=hrel
  rename World=>wo
  by_cases hlt:i<j
  case neg=>
   obtain rfl:i=j:=by omega
   obtain ⟨v1,v2,hv12,hv1,hlo,hhi⟩:=HF.out i hi hjb hS.out
   have HV12:=Lib.hid hv12
   have HLO:=Lib.hid hlo
   have HHI:=Lib.hid hhi
   have hM:=Lib.hid (show MvU p x v1 (v2++s) (a - a) z0 by rw [←HZ.out,HV12.out,Nat.sub_self,List.append_assoc];exact MvU.zero _ _ _ _)
   have hmz:∀ k zs,MvU p x v1 (v2++s) k zs→zs.length=n:=fun k zs h=>by
    have h1:=h.len;have h2:=hM.out.len;omega
   have hms:∀ k zs y z,MvU p x v1 (v2++s) (k - a) zs→a≤k→k+1<i→zs[k]? =some y→zs[k+1]? =some z→MvU p x v1 (v2++s) (k+1 - a) ((zs.set k z).set (k+1) y):=by
    intro k zs y z h1 h2 h3 h4 h5
    have e0:=HA.out
    have e3:k=p.length+(k - a):=by omega
    have e4:k+1=p.length+(k - a)+1:=by omega
    rw [e4] at h5
    rw [e3] at h4
    have:=h1.step (by omega) h4 h5
    rw [←e4,←e3] at this
    rw [show k+1 - a=k - a+1 by omega]
    exact this
   have hmd:∀ k zs,MvU p x v1 (v2++s) (k - a) zs→i≤k+1→zs=p++(v1++x::(v2++s)):=fun k zs h1 h2=>h1.done (by omega)
   have HMZ:=Lib.hid hmz
   have HMS:=Lib.hid hms
   have HMD:=Lib.hid hmd
   have b1:¬(i:Int)<(i:Int):=by omega
   clear hmz hms hmd hv1 hv12 hlo hhi hS
   go_wp2
   go_loopw [13] (fun kk wr=>∃ (k:Nat) (zs:List C1),kk=.int .i64 k∧a≤k∧k+1≤i∧Hid (MvU p x v1 (v2++s) (k - a) zs)∧RR wr g 112 zs junk∧Hid (H9 g w wr)) (fun kk _=>i - (intOf kk).toNat)
   case atStart=>exact ⟨a,z0,rfl,Nat.le_refl _,by omega,hM,hR,hN⟩
   case round=>
   clear hM hR hN
   obtain ⟨k,zs,rfl,hk,hki,hM,hR,hN⟩:=hrel
   rename World=>wi
   have hl:=HMZ.out _ zs hM.out
   have hl3:zs.length≤n:=by omega
   have hl4:n≤zs.length:=by omega
   clear hl
   by_cases hk1:k+1<i
   case neg=>
    have b2:¬(k:Int)<(i:Int) - 1:=by omega
    have HE:=Lib.hid (HMD.out k zs hM.out (by omega))
    clear hM
    go_wp2
    go_returns;exact ⟨rfl,⟨v1,v2,HV12.out,HLO.out,HHI.out,by rw [←HE.out];exact hR⟩,hN.out⟩
   have b2:(k:Int)<(i:Int) - 1:=by omega
   obtain ⟨y,hy⟩:∃ y,zs[k]? =some y:=⟨_,List.getElem?_eq_getElem (by omega)⟩
   obtain ⟨z,hz⟩:∃ z,zs[k+1]? =some z:=⟨_,List.getElem?_eq_getElem (by omega)⟩
   have HM:=Lib.hid (HMS.out k zs y z hM.out hk hk1 hy hz)
   have HX:=Lib.hid hy
   have HY:=Lib.hid hz
   have hxr:=hR.elem hy
   have hyr:=hR.elem hz
   have hkn:k+1<n:=by omega
   clear hM hy hz
   obtain ⟨x0,x1,x2⟩:=hR.get HX.out
   obtain ⟨y0,y1,y2⟩:=hR.get HY.out
   have hfz:=hR.frz
   have hgl:=hR.lt
   go_wp2
   go_region
   have hR2:=hR.swap (i:=k) (j:=k+1) (x:=y) (y:=z) (by omega) (by omega) hxr hyr
   have hN2:=Lib.hid (hN.out.swap (k) (k+1) z y)
   simp only [B17] at hR2 hN2
   go_wp2
   case roundEnd=>
    go_roundw
    case rel=>exact ⟨k+1,_,by go_num,by omega,by omega,HM,hR2,hN2⟩
    case measure=>simp [intOf]<;>omega
  have b1:(i:Int)<(j:Int):=by omega
  obtain ⟨h,e2⟩:∃ h:Nat,((i:Int)+j) / 2=(h:Int):=⟨(i+j) / 2,by omega⟩
  have h1:i≤h:=by omega
  have h2:h<j:=by omega
  obtain ⟨y,hy⟩:∃ y,z0[h]? =some y:=⟨_,List.getElem?_eq_getElem (by omega)⟩
  have hvy:=HG.out h y (by omega) (by omega) hy
  have hU:B4 y x=true→Hid (BsA v x (h+1 - m) (j - m)):=fun hl=>by rw [show h+1 - m=h - m+1 by omega];exact hS.out.up hvy hl
  have hD:B4 y x=false→Hid (BsA v x (i - m) (h - m)):=fun hl=>hS.out.down hvy hl
  have HU:=Lib.hid hU
  have HD:=Lib.hid hD
  have hS0:=R2.of hR hy HX0.out
  have ob:=T5 y x
  have hhn:h<n:=by omega
  have hgl:=hR.lt
  have k1:¬(n:Int)≤(h:Int):=by omega
  have k2:¬(n:Int)≤(a:Int):=by omega
  have hyr:=hR.elem hy
  clear hS hy hvy hU hD
  go_wp2
  refine B9 (R2 g (h * 3) (a * 3) y x) 99 (fun a0 a' w'=>∃ v40 v41 v42 v43 v44 v45 v46 v47 v48 v49,a'=C8 a0 [(40,v40),(41,v41),(42,v42),(43,v43),(44,v44),(45,v45),(46,v46),(47,v47),(48,v48),(49,v49),(50,.bool (B4 y x))]∧Below wo.heap.size wo w') (by kernel_rfl) ?_ ?_
  ·intro Q' hR hQp
   have hb0:Below wo.heap.size wo wo.drew:=N4 _
   have hS:R2 g (h * 3) (a * 3) y x wo.drew:=hS0
   generalize wo.drew=wa at *
   refine B0 (i:=0) (.func (.func 77) #[] #[]) rfl (by kernel_rfl) (fun _ _ _ h=>hQp _ _ _ _ h) hS (A0 (by kernel_rfl) (by intro w0 hw0;have hw1:=hw0;simp only [R2] at hw1;go_simp)) ?_;simp only [Act.put,St.tA,St.tD,St.tE,St.tS,St.tC,St.tZ]
   refine B0 (i:=1) (.slice (some ⟨g,0,none⟩) n cap) rfl (by kernel_rfl) (fun _ _ _ h=>hQp _ _ _ _ h) hS (A0 (by kernel_rfl) (by intro w0 hw0;have hw1:=hw0;simp only [R2] at hw1;go_simp)) ?_;simp only [Act.put,St.tA,St.tD,St.tE,St.tS,St.tC,St.tZ]
   refine B0 (i:=2) (.int .i64 h) rfl (by kernel_rfl) (fun _ _ _ h=>hQp _ _ _ _ h) hS (A0 (by kernel_rfl) (by intro w0 hw0;have hw1:=hw0;simp only [R2] at hw1;go_simp)) ?_;simp only [Act.put,St.tA,St.tD,St.tE,St.tS,St.tC,St.tZ]
   refine B0 (i:=3) (.pointer (some ⟨g,h * 3,none⟩)) rfl (by kernel_rfl) (fun _ _ _ h=>hQp _ _ _ _ h) hS (A0 (by kernel_rfl) (by intro w0 hw0;have hw1:=hw0;simp only [R2] at hw1;go_simp)) ?_;simp only [Act.put,St.tA,St.tD,St.tE,St.tS,St.tC,St.tZ]
   refine B0 (i:=4) (.agg #[.int .i64 y.ver,.int .i64 y.flow,.int .i64 y.next]) rfl (by kernel_rfl) (fun _ _ _ h=>hQp _ _ _ _ h) hS (A0 (by kernel_rfl) (by intro w0 hw0;have hw1:=hw0;simp only [R2] at hw1;go_simp)) ?_;simp only [Act.put,St.tA,St.tD,St.tE,St.tS,St.tC,St.tZ]
   refine B0 (i:=5) (.slice (some ⟨g,0,none⟩) n cap) rfl (by kernel_rfl) (fun _ _ _ h=>hQp _ _ _ _ h) hS (A0 (by kernel_rfl) (by intro w0 hw0;have hw1:=hw0;simp only [R2] at hw1;go_simp)) ?_;simp only [Act.put,St.tA,St.tD,St.tE,St.tS,St.tC,St.tZ]
   refine B0 (i:=6) (.int .i64 a) rfl (by kernel_rfl) (fun _ _ _ h=>hQp _ _ _ _ h) hS (A0 (by kernel_rfl) (by intro w0 hw0;have hw1:=hw0;simp only [R2] at hw1;go_simp)) ?_;simp only [Act.put,St.tA,St.tD,St.tE,St.tS,St.tC,St.tZ]
   refine B0 (i:=7) (.pointer (some ⟨g,a * 3,none⟩)) rfl (by kernel_rfl) (fun _ _ _ h=>hQp _ _ _ _ h) hS (A0 (by kernel_rfl) (by intro w0 hw0;have hw1:=hw0;simp only [R2] at hw1;go_simp)) ?_;simp only [Act.put,St.tA,St.tD,St.tE,St.tS,St.tC,St.tZ]
   refine B0 (i:=8) (.agg #[.int .i64 x.ver,.int .i64 x.flow,.int .i64 x.next]) rfl (by kernel_rfl) (fun _ _ _ h=>hQp _ _ _ _ h) hS (A0 (by kernel_rfl) (by intro w0 hw0;have hw1:=hw0;simp only [R2] at hw1;go_simp)) ?_;simp only [Act.put,St.tA,St.tD,St.tE,St.tS,St.tC,St.tZ]
   clear hS
   refine A7 (i:=9) rfl (by kernel_rfl) (by kernel_rfl) fun K9 hK9=>?_
   go_simp
   go_wp2_with fail
   refine (A16 y x wa).mono ?_
   rintro e wb ⟨rfl,hb1⟩
   go_wp2_with fail
   have hb2:Below wo.heap.size wo wb:=hb0.trans (hb1.mono hb0.size)
   have hS:=hS0.under hgl hb2
   refine hK9 _ _ (fun _=>hS) ?_
   clear hK9
   refine B0 (i:=10) (.bool (B4 y x)) rfl (by kernel_rfl) (fun _ _ _ h=>hQp _ _ _ _ h) hS (A0 (by kernel_rfl) (by intro w0 hw0;have hw1:=hw0;simp only [R2] at hw1;go_simp)) ?_;simp only [Act.put,St.tA,St.tD,St.tE,St.tS,St.tC,St.tZ]
   refine B5 (by kernel_rfl) ?_ _
   refine hR _ _ ?_
   iterate 10 apply Exists.intro
   refine ⟨?_,hb2⟩
   simp only [C8,Act.put,St.tS,St.tC,St.tZ]
   rfl
  rintro a' w8 ⟨v40,v41,v42,v43,v44,v45,v46,v47,v48,v49,rfl,hb8⟩
  simp only [C8,Act.put,St.tS,St.tC,St.tZ]
  have hR8:=hR.under hb8
  have hN8:Hid (H9 g w w8):=hN.out.then hb8
  clear hR hN hS0 hb8
  by_cases hyx:B4 y x=true
  ·have hS:=HU.out hyx
   rw [hyx]
   clear HU HD
   go_wp2
   case roundEnd=>
    go_roundw
    case rel=>exact ⟨h+1,j,by go_num,rfl,by omega,by omega,hjb,hS,hR8,hN8⟩
    case measure=>simp [intOf]<;>omega
  ·have hyx':B4 y x=false:=by simpa using hyx
   have hS:=HD.out hyx'
   rw [hyx']
   clear HU HD hyx
   go_wp2
   case roundEnd=>
    go_roundw
    case rel=>exact ⟨i,h,rfl,rfl,hi,h1,by omega,hS,hR8,hN8⟩
    case measure=>simp [intOf]<;>omega
end Go.Proofs.YtampcbncgofkoaaGreatDoor
namespace Go.St
def BsB (u:List C1) (y:C1) (i j:Nat):Prop:=(i=0∨∃ h x,h+1=i∧u[h]? =some x∧B4 y x=false)∧(u.length≤j∨∃ x,u[j]? =some x∧B4 y x=true)
theorem BsB.start (u:List C1) (y:C1):BsB u y 0 u.length:=⟨.inl rfl,.inl (Nat.le_refl _)⟩
theorem BsB.up {u:List C1} {x y:C1} {i j h:Nat} (g:BsB u y i j) (hx:u[h]? =some x) (hl:B4 y x=false):BsB u y (h+1) j:=⟨.inr ⟨h,x,rfl,hx,hl⟩,g.2⟩
theorem BsB.down {u:List C1} {x y:C1} {i j h:Nat} (g:BsB u y i j) (hx:u[h]? =some x) (hl:B4 y x=true):BsB u y i h:=⟨g.1,.inr ⟨x,hx,hl⟩⟩
theorem BsB.done {u:List C1} {y:C1} {i:Nat} (g:BsB u y i i) (hu:Srt B4 u):(∀ x∈u.take i,B4 y x=false)∧∀ x∈u.drop i,B4 y x=true:=by
 constructor
 ·intro x hx
  rcases g.1 with rfl|⟨h,z,rfl,hz,hl⟩
  ·simp at hx
  obtain ⟨k,hk,e⟩:=List.getElem_of_mem hx
  have hk':u[k]? =some x:=by rw [←e,List.getElem_take];exact List.getElem?_eq_getElem _
  have hkh:k≤h:=by simp at hk;omega
  exact C4.neg hl (U3 hu hkh hk' hz)
 ·intro x hx
  obtain ⟨k,hk,e⟩:=List.getElem_of_mem hx
  have hk':u[i+k]? =some x:=by rw [←e,List.getElem_drop];exact List.getElem?_eq_getElem _
  rcases g.2 with h|⟨z,hz,hl⟩
  ·have:=(List.getElem?_eq_some_iff.1 hk').1;omega
  ·exact C4.lt_le hl (U3 hu (by omega) hz hk')
end Go.St
namespace Go.Proofs.YtampcbncgofkoaaGreatDoor
open Go.RowKit Go.St
theorem B56 (g n cap a m b:Nat) (p u s:List C1) (y:C1) (junk:List Value) (w:World) (h:RR w g 112 (p++(u++y::s)) junk) (hn:(p++(u++y::s)).length=n) (hbig:n≤100000000000000)
  (ha:p.length=a) (hm:a+u.length=m) (hb:b=m+1) (hu1:2≤u.length) (hu:Srt B4 u):
  Calls Tryz.prog 103 #[.slice (some ⟨g,0,none⟩) n cap,.int .i64 a,.int .i64 m,.int .i64 b,.func (.func 77) #[] #[]] w fun e w'=>e=.returned (.tuple #[])∧(∃ u1 u2,u=u1++u2∧(∀ x∈u1,B4 y x=false)∧(∀ x∈u2,B4 y x=true)∧RR w' g 112 (p++(u1++y::(u2++s))) junk)∧H9 g w w':=by
 have hy0:(p++(u++y::s))[m]? =some y:=by rw [←List.append_assoc];exact Go.St.get_at (p++u) _ y (by simp;omega)
 have hget:∀ h x,a≤h→h<m→(p++(u++y::s))[h]? =some x→u[h - a]? =some x:=by
  intro h x h1 h2 h3
  rw [List.getElem?_append_right (by omega),ha,List.getElem?_append_left (by omega)] at h3
  exact h3
 have hmn:m<n:=by simp only [List.length_append,List.length_cons] at hn;omega
 have hul:u.length=m - a:=by omega
 have hyr:=h.elem hy0
 have hst:Hid (BsB u y (a - a) (m - a)):=by have:=BsB.start u y;rw [hul] at this;rw [Nat.sub_self];exact this
 have hfin:∀ i,a≤i→i≤m→BsB u y (i - a) (i - a)→∃ u1 u2,u=u1++u2∧u1.length=i - a∧u2.length=m - i∧(∀ x∈u1,B4 y x=false)∧(∀ x∈u2,B4 y x=true):=fun i h1 h2 h3=>
  ⟨u.take (i - a),u.drop (i - a),(List.take_append_drop _ _).symm,by simp;omega,by simp;omega,(h3.done hu).1,(h3.done hu).2⟩
 have HF:=Lib.hid hfin
 generalize hz0:p++(u++y::s)=z0 at *
 have HZ:=Lib.hid hz0
 have HG:=Lib.hid hget
 have HY0:=Lib.hid hy0
 have HA:=Lib.hid ha
 have ham:a+2≤m:=by omega
 have e0:(((m:Int) - (a:Int))==1)=false:=by simp;omega
 have e1:(b:Int) - (m:Int)=1:=by omega
 have hb1:b≤m+1:=by omega
 have hb2:m+1≤b:=by omega
 have hl1:z0.length≤n:=by omega
 have hl2:n≤z0.length:=by omega
 clear hget hy0 hu hul hb hm hn ha hz0 hfin hu1
 go_enter Tryz.func103,Tryz.ntmps103
 go_wp2
 go_loopw [14,15,16] (fun ii jj _ wr=>∃ (i j:Nat),ii=.int .i64 i∧jj=.int .i64 j∧a≤i∧i≤j∧j≤m∧Hid (BsB u y (i - a) (j - a))∧RR wr g 112 z0 junk∧Hid (H9 g w wr)) (fun ii jj _ _=>(intOf jj).toNat - (intOf ii).toNat)
 case atStart=>exact ⟨a,m,rfl,rfl,Nat.le_refl _,by omega,Nat.le_refl _,hst,h,H9.refl _ _⟩
 case round=>
  clear hst h
  obtain ⟨i,j,rfl,rfl,hi,hij,hjb,hS,hR,hN⟩:=hrel
  rename World=>wo
  by_cases hlt:i<j
  case neg=>
   obtain rfl:i=j:=by omega
   obtain ⟨u1,u2,hv12,hv1,hv2,hlo,hhi⟩:=HF.out i hi hjb hS.out
   have HV12:=Lib.hid hv12
   have HLO:=Lib.hid hlo
   have HHI:=Lib.hid hhi
   have hpl:(p++u1).length=i:=by have:=HA.out;simp;omega
   have hM:=Lib.hid (show MvD (p++u1) y u2 s (m - i) z0 by rw [←HZ.out,HV12.out,←hv2,show p++(u1++u2++y::s)=(p++u1)++(u2++y::s) by simp];exact MvD.start _ _ _ _)
   have hmz:∀ k zs,MvD (p++u1) y u2 s k zs→zs.length=n:=fun k zs h=>by
    have h1:=h.len;have h2:=hM.out.len;omega
   have hms:∀ kp zs x z,MvD (p++u1) y u2 s (kp+1 - i) zs→i≤kp→kp+1≤m→zs[kp+1]? =some x→zs[kp]? =some z→MvD (p++u1) y u2 s (kp - i) ((zs.set (kp+1) z).set kp x):=by
    intro kp zs x z h1 h2 h3 h4 h5
    have e3:kp=(p++u1).length+(kp - i):=by omega
    have e4:kp+1=(p++u1).length+(kp - i+1):=by omega
    rw [show kp+1 - i=kp - i+1 by omega] at h1
    rw [e4] at h4
    rw [e3] at h5
    have:=h1.step (by omega) h4 h5
    rw [←e4,←e3] at this
    exact this
   have hmd:∀ k zs,MvD (p++u1) y u2 s (k - i) zs→k≤i→zs=p++(u1++y::(u2++s)):=fun k zs h1 h2=>by
    rw [show k - i=0 by omega] at h1
    rw [h1.done];simp
   have HMZ:=Lib.hid hmz
   have HMS:=Lib.hid hms
   have HMD:=Lib.hid hmd
   have b1:¬(i:Int)<(i:Int):=by omega
   clear hmz hms hmd hv1 hv2 hv12 hlo hhi hS hpl
   go_wp2
   go_loopw [17] (fun kk wr=>∃ (k:Nat) (zs:List C1),kk=.int .i64 k∧i≤k∧k≤m∧Hid (MvD (p++u1) y u2 s (k - i) zs)∧RR wr g 112 zs junk∧Hid (H9 g w wr)) (fun kk _=>(intOf kk).toNat)
   case atStart=>exact ⟨m,z0,rfl,hjb,by omega,hM,hR,hN⟩
   case round=>
   clear hM hR hN
   obtain ⟨k,zs,rfl,hk,hki,hM,hR,hN⟩:=hrel
   rename World=>wi
   have hl:=HMZ.out _ zs hM.out
   have hl3:zs.length≤n:=by omega
   have hl4:n≤zs.length:=by omega
   clear hl
   by_cases hk1:i<k
   case neg=>
    have b2:¬(i:Int)<(k:Int):=by omega
    have HE:=Lib.hid (HMD.out k zs hM.out (by omega))
    clear hM
    go_wp2
    go_returns;exact ⟨rfl,⟨u1,u2,HV12.out,HLO.out,HHI.out,by rw [←HE.out];exact hR⟩,hN.out⟩
   obtain ⟨kp,rfl⟩:∃ kp,k=kp+1:=⟨k - 1,by omega⟩
   have b2:(i:Int)<(kp:Int)+1:=by omega
   obtain ⟨x,hx⟩:∃ x,zs[kp+1]? =some x:=⟨_,List.getElem?_eq_getElem (by omega)⟩
   obtain ⟨z,hz⟩:∃ z,zs[kp]? =some z:=⟨_,List.getElem?_eq_getElem (by omega)⟩
   have HM:=Lib.hid (HMS.out kp zs x z hM.out (by omega) hki hx hz)
   have HX:=Lib.hid hx
   have HY:=Lib.hid hz
   have hxr:=hR.elem hx
   have hyr:=hR.elem hz
   have hkn:kp+1<n:=by omega
   clear hM hx hz
   obtain ⟨x0,x1,x2⟩:=hR.get HX.out
   obtain ⟨y0,y1,y2⟩:=hR.get HY.out
   have hfz:=hR.frz
   have hgl:=hR.lt
   go_wp2
   go_region
   have hR2:=hR.swap (i:=kp+1) (j:=kp) (x:=x) (y:=z) (by omega) (by omega) hxr hyr
   have hN2:=Lib.hid (hN.out.swap (kp+1) (kp) z x)
   simp only [B17] at hR2 hN2
   go_wp2
   case roundEnd=>
    go_roundw
    case rel=>exact ⟨kp,_,by go_num,by omega,by omega,HM,hR2,hN2⟩
    case measure=>simp [intOf]<;>omega
  have b1:(i:Int)<(j:Int):=by omega
  obtain ⟨h,e2⟩:∃ h:Nat,((i:Int)+j) / 2=(h:Int):=⟨(i+j) / 2,by omega⟩
  have h1:i≤h:=by omega
  have h2:h<j:=by omega
  obtain ⟨x,hx⟩:∃ x,z0[h]? =some x:=⟨_,List.getElem?_eq_getElem (by omega)⟩
  have hvx:=HG.out h x (by omega) (by omega) hx
  have hU:B4 y x=false→Hid (BsB u y (h+1 - a) (j - a)):=fun hl=>by rw [show h+1 - a=h - a+1 by omega];exact hS.out.up hvx hl
  have hD:B4 y x=true→Hid (BsB u y (i - a) (h - a)):=fun hl=>hS.out.down hvx hl
  have HU:=Lib.hid hU
  have HD:=Lib.hid hD
  have hS0:=R2.of hR HY0.out hx
  have ob:=T5 y x
  have hhn:h<n:=by omega
  have hgl:=hR.lt
  have k1:¬(n:Int)≤(h:Int):=by omega
  have k2:¬(n:Int)≤(m:Int):=by omega
  clear hS hx hvx hU hD
  go_wp2
  refine B9 (R2 g (m * 3) (h * 3) y x) 99 (fun a0 a' w'=>∃ v92 v93 v94 v95 v96 v97 v98 v99 v100 v101 v102,a'=C8 a0 [(92,v92),(93,v93),(94,v94),(95,v95),(96,v96),(97,v97),(98,v98),(99,v99),(100,v100),(101,v101),(102,v102),(103,.bool (!B4 y x))]∧Below wo.heap.size wo w') (by kernel_rfl) ?_ ?_
  ·intro Q' hR hQp
   have hb0:Below wo.heap.size wo wo.drew:=N4 _
   have hS:R2 g (m * 3) (h * 3) y x wo.drew:=hS0
   generalize wo.drew=wa at *
   refine B0 (i:=0) (.func (.func 77) #[] #[]) rfl (by kernel_rfl) (fun _ _ _ h=>hQp _ _ _ _ h) hS (A0 (by kernel_rfl) (by intro w0 hw0;have hw1:=hw0;simp only [R2] at hw1;go_simp)) ?_;simp only [Act.put,St.tA,St.tD,St.tE,St.tS,St.tC,St.tZ]
   refine B0 (i:=1) (.slice (some ⟨g,0,none⟩) n cap) rfl (by kernel_rfl) (fun _ _ _ h=>hQp _ _ _ _ h) hS (A0 (by kernel_rfl) (by intro w0 hw0;have hw1:=hw0;simp only [R2] at hw1;go_simp)) ?_;simp only [Act.put,St.tA,St.tD,St.tE,St.tS,St.tC,St.tZ]
   refine B0 (i:=2) (.int .i64 m) rfl (by kernel_rfl) (fun _ _ _ h=>hQp _ _ _ _ h) hS (A0 (by kernel_rfl) (by intro w0 hw0;have hw1:=hw0;simp only [R2] at hw1;go_simp)) ?_;simp only [Act.put,St.tA,St.tD,St.tE,St.tS,St.tC,St.tZ]
   refine B0 (i:=3) (.pointer (some ⟨g,m * 3,none⟩)) rfl (by kernel_rfl) (fun _ _ _ h=>hQp _ _ _ _ h) hS (A0 (by kernel_rfl) (by intro w0 hw0;have hw1:=hw0;simp only [R2] at hw1;go_simp)) ?_;simp only [Act.put,St.tA,St.tD,St.tE,St.tS,St.tC,St.tZ]
   refine B0 (i:=4) (.agg #[.int .i64 y.ver,.int .i64 y.flow,.int .i64 y.next]) rfl (by kernel_rfl) (fun _ _ _ h=>hQp _ _ _ _ h) hS (A0 (by kernel_rfl) (by intro w0 hw0;have hw1:=hw0;simp only [R2] at hw1;go_simp)) ?_;simp only [Act.put,St.tA,St.tD,St.tE,St.tS,St.tC,St.tZ]
   refine B0 (i:=5) (.slice (some ⟨g,0,none⟩) n cap) rfl (by kernel_rfl) (fun _ _ _ h=>hQp _ _ _ _ h) hS (A0 (by kernel_rfl) (by intro w0 hw0;have hw1:=hw0;simp only [R2] at hw1;go_simp)) ?_;simp only [Act.put,St.tA,St.tD,St.tE,St.tS,St.tC,St.tZ]
   refine B0 (i:=6) (.int .i64 h) rfl (by kernel_rfl) (fun _ _ _ h=>hQp _ _ _ _ h) hS (A0 (by kernel_rfl) (by intro w0 hw0;have hw1:=hw0;simp only [R2] at hw1;go_simp)) ?_;simp only [Act.put,St.tA,St.tD,St.tE,St.tS,St.tC,St.tZ]
   refine B0 (i:=7) (.pointer (some ⟨g,h * 3,none⟩)) rfl (by kernel_rfl) (fun _ _ _ h=>hQp _ _ _ _ h) hS (A0 (by kernel_rfl) (by intro w0 hw0;have hw1:=hw0;simp only [R2] at hw1;go_simp)) ?_;simp only [Act.put,St.tA,St.tD,St.tE,St.tS,St.tC,St.tZ]
   refine B0 (i:=8) (.agg #[.int .i64 x.ver,.int .i64 x.flow,.int .i64 x.next]) rfl (by kernel_rfl) (fun _ _ _ h=>hQp _ _ _ _ h) hS (A0 (by kernel_rfl) (by intro w0 hw0;have hw1:=hw0;simp only [R2] at hw1;go_simp)) ?_;simp only [Act.put,St.tA,St.tD,St.tE,St.tS,St.tC,St.tZ]
   clear hS
   refine A7 (i:=9) rfl (by kernel_rfl) (by kernel_rfl) fun K9 hK9=>?_
   go_simp
   go_wp2_with fail
   refine (A16 y x wa).mono ?_
   rintro e wb ⟨rfl,hb1⟩
   go_wp2_with fail
   have hb2:Below wo.heap.size wo wb:=hb0.trans (hb1.mono hb0.size)
   have hS:=hS0.under hgl hb2
   refine hK9 _ _ (fun _=>hS) ?_
   clear hK9
   refine B0 (i:=10) (.bool (B4 y x)) rfl (by kernel_rfl) (fun _ _ _ h=>hQp _ _ _ _ h) hS (A0 (by kernel_rfl) (by intro w0 hw0;have hw1:=hw0;simp only [R2] at hw1;go_simp)) ?_;simp only [Act.put,St.tA,St.tD,St.tE,St.tS,St.tC,St.tZ]
   refine B0 (i:=11) (.bool (!B4 y x)) rfl (by kernel_rfl) (fun _ _ _ h=>hQp _ _ _ _ h) hS (A0 (by kernel_rfl) (by intro w0 hw0;have hw1:=hw0;simp only [R2] at hw1;go_simp)) ?_;simp only [Act.put,St.tA,St.tD,St.tE,St.tS,St.tC,St.tZ]
   refine B5 (by kernel_rfl) ?_ _
   refine hR _ _ ?_
   iterate 11 apply Exists.intro
   refine ⟨?_,hb2⟩
   simp only [C8,Act.put,St.tS,St.tC,St.tZ]
   rfl
  rintro a' w8 ⟨v92,v93,v94,v95,v96,v97,v98,v99,v100,v101,v102,rfl,hb8⟩
  simp only [C8,Act.put,St.tS,St.tC,St.tZ]
  have hR8:=hR.under hb8
  have hN8:Hid (H9 g w w8):=hN.out.then hb8
  clear hR hN hS0 hb8
  by_cases hyx:B4 y x=true
  ·have hS:=HD.out hyx
   rw [hyx,Bool.not_true]
   clear HU HD
   go_wp2
   case roundEnd=>
    go_roundw
    case rel=>exact ⟨i,h,rfl,rfl,hi,h1,by omega,hS,hR8,hN8⟩
    case measure=>simp [intOf]<;>omega
  ·have hyx':B4 y x=false:=by simpa using hyx
   have hS:=HU.out hyx'
   rw [hyx',Bool.not_false]
   clear HU HD hyx
   go_wp2
   case roundEnd=>
    go_roundw
    case rel=>exact ⟨h+1,j,by go_num,rfl,by omega,by omega,hjb,hS,hR8,hN8⟩
    case measure=>simp [intOf]<;>omega
end Go.Proofs.YtampcbncgofkoaaGreatDoor
namespace Go.St
def BsC (z:List C1) (nn lo hi st r:Nat):Prop:=
 (st=lo∨∃ c x y,c+1=st∧z[c]? =some x∧z[nn - 1 - c]? =some y∧B4 y x=false)∧(r=hi∨∃ x y,z[r]? =some x∧z[nn - 1 - r]? =some y∧B4 y x=true)
theorem BsC.start (z:List C1) (nn lo hi:Nat):BsC z nn lo hi lo hi:=⟨.inl rfl,.inl rfl⟩
theorem BsC.up {z:List C1} {nn lo hi st r c:Nat} {x y:C1} (g:BsC z nn lo hi st r) (hx:z[c]? =some x) (hy:z[nn - 1 - c]? =some y) (hl:B4 y x=false):BsC z nn lo hi (c+1) r:=⟨.inr ⟨c,x,y,rfl,hx,hy,hl⟩,g.2⟩
theorem BsC.down {z:List C1} {nn lo hi st r c:Nat} {x y:C1} (g:BsC z nn lo hi st r) (hx:z[c]? =some x) (hy:z[nn - 1 - c]? =some y) (hl:B4 y x=true):BsC z nn lo hi st c:=⟨g.1,.inr ⟨x,y,hx,hy,hl⟩⟩
theorem BsC.done {z p u v s:List C1} {a m b mid st en lo hi:Nat} (g:BsC z (mid+m) lo hi st st) (hz:z=p++(u++(v++s))) (ha:p.length=a) (hm:a+u.length=m) (hb:m+v.length=b) (hu:Srt B4 u) (hv:Srt B4 v)
  (hlo:lo=a∨lo+b=mid+m) (hhi:hi=m∨hi=mid) (h1:a≤st) (h2:st≤m) (he:en+st=mid+m) (h3:m≤en) (h4:en≤b):
  ∃ u1 u2 v1 v2,u=u1++u2∧v=v1++v2∧u1.length=st - a∧u2.length=m - st∧v1.length=en - m∧v2.length=b - en∧(∀ x∈u1,∀ y∈v2,B4 y x=false)∧(∀ x∈u2,∀ y∈v1,B4 y x=true):=by
 have gu:∀ k x,a≤k→k<m→z[k]? =some x→u[k - a]? =some x:=by
  intro k x k1 k2 k3
  rw [hz,List.getElem?_append_right (by omega),ha,List.getElem?_append_left (by omega)] at k3
  exact k3
 have gv:∀ k x,m≤k→k<b→z[k]? =some x→v[k - m]? =some x:=by
  intro k x k1 k2 k3
  rw [hz,List.getElem?_append_right (by omega),ha,List.getElem?_append_right (by omega),List.getElem?_append_left (by omega)] at k3
  rw [←k3];congr 1;omega
 refine ⟨u.take (st - a),u.drop (st - a),v.take (en - m),v.drop (en - m),(List.take_append_drop _ _).symm,(List.take_append_drop _ _).symm,by simp;omega,by simp;omega,by simp;omega,by simp;omega,?_,?_⟩
 ·intro x hx y hy
  obtain ⟨i,hi',e⟩:=List.getElem_of_mem hx
  have hxi:u[i]? =some x:=by rw [←e,List.getElem_take];exact List.getElem?_eq_getElem _
  obtain ⟨j,hj',e⟩:=List.getElem_of_mem hy
  have hyj:v[en - m+j]? =some y:=by rw [←e,List.getElem_drop];exact List.getElem?_eq_getElem _
  have hil:=hi'
  simp only [List.length_take] at hil
  have hjl:=(List.getElem?_eq_some_iff.1 hyj).1
  rcases g.1 with rfl|⟨c,xc,yc,rfl,hc,hd,hl⟩
  ·omega
  ·have k1:=gu c xc (by omega) (by omega) hc
   have k2:=gv _ yc (by omega) (by omega) hd
   exact C4.neg (U3 hv (by omega) k2 hyj) (C4.neg hl (U3 hu (by omega) hxi k1))
 ·intro x hx y hy
  obtain ⟨i,hi',e⟩:=List.getElem_of_mem hx
  have hxi:u[st - a+i]? =some x:=by rw [←e,List.getElem_drop];exact List.getElem?_eq_getElem _
  obtain ⟨j,hj',e⟩:=List.getElem_of_mem hy
  have hyj:v[j]? =some y:=by rw [←e,List.getElem_take];exact List.getElem?_eq_getElem _
  have hjl:=hj'
  simp only [List.length_take] at hjl
  have hil:=(List.getElem?_eq_some_iff.1 hxi).1
  rcases g.2 with rfl|⟨xc,yc,hc,hd,hl⟩
  ·omega
  ·have k1:=gu st xc (by omega) (by omega) hc
   have k2:=gv _ yc (by omega) (by omega) hd
   exact C4.lt_le (C4.le_lt (U3 hv (by omega) hyj k2) hl) (U3 hu (by omega) k1 hxi)
end Go.St
namespace Go.Proofs.YtampcbncgofkoaaGreatDoor
open Go.RowKit Go.St
def A19 (g n cap a m b:Nat) (p u v s:List C1) (junk:List Value) (w:World):Prop:=
 Calls Tryz.prog 103 #[.slice (some ⟨g,0,none⟩) n cap,.int .i64 a,.int .i64 m,.int .i64 b,.func (.func 77) #[] #[]] w fun e w'=>e=.returned (.tuple #[])∧(∃ z,RR w' g 112 (p++(z++s)) junk∧z.length=u.length+v.length∧Srt B4 z∧E4 B4 (u++v) z)∧H9 g w w'
theorem B52 (g n cap a m b:Nat) (p u v s:List C1) (junk:List Value) (w:World) (h:RR w g 112 (p++(u++(v++s))) junk) (hn:(p++(u++(v++s))).length=n) (hbig:n≤100000000000000)
  (ha:p.length=a) (hm:a+u.length=m) (hb:m+v.length=b) (hu:Srt B4 u) (hv:Srt B4 v) (hu1:2≤u.length) (hv1:2≤v.length)
  (IH:∀ (a' m' b':Nat) (p' u' v' s':List C1) (w':World),b'<a'+(b - a)→RR w' g 112 (p'++(u'++(v'++s'))) junk→(p'++(u'++(v'++s'))).length=n→p'.length=a'→a'+u'.length=m'→m'+v'.length=b'→Srt B4 u'→Srt B4 v'→1≤u'.length→1≤v'.length→A19 g n cap a' m' b' p' u' v' s' junk w'):
  A19 g n cap a m b p u v s junk w:=by
 unfold A19
 have HIH:=Lib.hid IH
 obtain ⟨mid,e2⟩:∃ mid:Nat,((a:Int)+b) / 2=(mid:Int):=⟨(a+b) / 2,by omega⟩
 have hm1:a+b≤2 * mid+1:=by omega
 have hm2:2 * mid≤a+b:=by omega
 have hbn:b≤n:=by simp only [List.length_append] at hn;omega
 have hmb:m+2≤b:=by omega
 have ham:a+2≤m:=by omega
 have hdone:∀ lo hi st en,BsC (p++(u++(v++s))) (mid+m) lo hi st st→(lo=a∨lo+b=mid+m)→(hi=m∨hi=mid)→a≤st→st≤m→en+st=mid+m→m≤en→en≤b→
   ∃ u1 u2 v1 v2,u=u1++u2∧v=v1++v2∧u1.length=st - a∧u2.length=m - st∧v1.length=en - m∧v2.length=b - en∧(∀ x∈u1,∀ y∈v2,B4 y x=false)∧(∀ x∈u2,∀ y∈v1,B4 y x=true):=
  fun lo hi st en g1 g2 g3 g4 g5 g6 g7 g8=>g1.done rfl ha hm hb hu hv g2 g3 g4 g5 g6 g7 g8
 have HDN:=Lib.hid hdone
 generalize hz0:p++(u++(v++s))=z0 at *
 have HZ:=Lib.hid hz0
 have HA:=Lib.hid ha
 have HU:=Lib.hid hu
 have HV:=Lib.hid hv
 have e0:(((m:Int) - (a:Int))==1)=false:=by simp;omega
 have e1:(((b:Int) - (m:Int))==1)=false:=by simp;omega
 obtain ⟨qq,e3⟩:∃ qq:Nat,(mid:Int)+(m:Int) - 1=(qq:Int):=⟨mid+m - 1,by omega⟩
 have hq1:qq+1≤mid+m:=by omega
 have hq2:mid+m≤qq+1:=by omega
 have hl1:z0.length≤n:=by omega
 have hl2:n≤z0.length:=by omega
 have hN:Hid (H9 g w w):=H9.refl _ _
 clear hdone hz0 ha hm hb hu hv hn hu1 hv1 IH
 go_enter Tryz.func103,Tryz.ntmps103
 by_cases hgt:mid<m
 ·obtain ⟨lo,e4⟩:∃ lo:Nat,(mid:Int)+(m:Int) - (b:Int)=(lo:Int):=⟨mid+m - b,by omega⟩
  have b0:(mid:Int)<(m:Int):=by omega
  have hlo:lo+b=mid+m:=by omega
  have hst:Hid (BsC z0 (mid+m) (lo) (mid) (lo) (mid)):=BsC.start _ _ _ _
  go_wp2
  go_loopw [20,21,23] (fun ii jj _ wr=>∃ (st r:Nat),ii=.int .i64 st∧jj=.int .i64 r∧lo≤st∧st≤r∧r≤mid∧Hid (BsC z0 (mid+m) (lo) (mid) st r)∧RR wr g 112 z0 junk∧Hid (H9 g w wr)) (fun ii jj _ _=>(intOf jj).toNat - (intOf ii).toNat)
  case atStart=>exact ⟨lo,mid,rfl,rfl,Nat.le_refl _,by omega,Nat.le_refl _,hst,h,hN⟩
  case round=>
   clear hst h hN
   obtain ⟨st,r,rfl,rfl,hi1,hij,hjb,hS,hR,hN⟩:=hrel
   rename World=>wo
   by_cases hlt:st<r
   case neg=>
    obtain rfl:st=r:=by omega
    obtain ⟨en,e5⟩:∃ en:Nat,(mid:Int)+(m:Int) - (st:Int)=(en:Int):=⟨mid+m - st,by omega⟩
    obtain ⟨u1,u2,v1,v2,huu,hvv,u1l,u2l,v1l,v2l,hc1,hc2⟩:=HDN.out _ _ st en hS.out (by omega) (by omega) (by omega) (by omega) (by omega) (by omega) (by omega)
    have HUU:=Lib.hid huu
    have HVV:=Lib.hid hvv
    have HC1:=Lib.hid hc1
    have HC2:=Lib.hid hc2
    have HLN:=Lib.hid (show (p++((u1++u2)++((v1++v2)++s))).length=n by rw [←huu,←hvv,HZ.out];omega)
    have b1:¬(st:Int)<(st:Int):=by omega
    have hq:en+st=mid+m:=by omega
    have hsm:st≤m:=by omega
    have hme:m≤en:=by omega
    have heb:en≤b:=by omega
    have has:a≤st:=by omega
    have huz:u.length=u1.length+u2.length:=by rw [huu];simp
    have hvz:v.length=v1.length+v2.length:=by rw [hvv];simp
    clear huu hvv hc1 hc2 hS
    have hrest:=hR
    rw [←HZ.out,HUU.out,HVV.out,show p++((u1++u2)++((v1++v2)++s))=(p++u1)++(u2++(v1++(v2++s))) by simp only [List.append_assoc]] at hrest
    clear hR
    have B1:st<m∨mid=en:=by omega
    by_cases A1:st<m<;>by_cases A2:st<mid
    ·skip
     have A2':m<en:=by omega
     have A3':mid<en:=by omega
     have hC:=Lib.hid (A8h g n cap st m en (p++u1) u2 v1 (v2++s) junk (.func (.func 77) #[] #[]) wo hrest (by have h1:=HLN.out;simp only [List.length_append] at h1 ⊢;omega) hbig (by have h1:=HA.out;simp only [List.length_append];omega) (by omega) (by omega) (by omega) (by omega))
     clear hrest
     go_wp2_with fail
     refine hC.out.mono ?_
     rintro e w1 ⟨rfl,hR1,hN1⟩
     have hR:=hR1
     rw [show (p++u1)++(v1++(u2++(v2++s)))=p++(u1++(v1++(u2++(v2++s)))) by simp only [List.append_assoc]] at hR
     have hN9:Hid (H9 g w w1):=hN.out.trans hN1
     clear hR1 hN1 hN hC
     by_cases A4:a<st
     case neg=>
      obtain rfl:u1=[]:=List.eq_nil_of_length_eq_zero (by omega)
      obtain ⟨z1,hz1,z1l,z1o,z1s⟩:∃ z1,z1=v1∧z1.length=v1.length∧Srt B4 z1∧E4 B4 ([]++v1) z1:=⟨v1,rfl,rfl,by have h1:=HV.out;rw [HVV.out] at h1;exact (Srt.append.1 h1).1,E4.refl _⟩
      have hR9:RR w1 g 112 (p++(z1++(u2++(v2++s)))) junk:=by rw [hz1];simpa using hR
      clear hR hz1
      have hR:=hR9
      clear hR9
      by_cases A5:en<b
      case neg=>
       obtain rfl:v2=[]:=List.eq_nil_of_length_eq_zero (by omega)
       go_wp2
       go_returns
       have hZ:=F2 C4 (by have h1:=HU.out;rw [HUU.out] at h1;exact h1) (by have h1:=HV.out;rw [HVV.out] at h1;exact h1) HC1.out HC2.out z1s (E4.refl (u2++[])) z1o (by have h1:=HU.out;rw [HUU.out] at h1;simpa using (Srt.append.1 h1).2.1)
       exact ⟨rfl,⟨z1++(u2++[]),by simpa using hR,by simp only [List.length_append,List.length_nil] at *;omega,hZ.2,by rw [HUU.out,HVV.out];exact hZ.1⟩,hN9.out⟩
      rw [show p++(z1++(u2++(v2++s)))=(p++z1)++(u2++(v2++s)) by simp only [List.append_assoc]] at hR
      have hC:=Lib.hid (HIH.out mid en b (p++z1) u2 v2 s w1 (by omega) hR (by have h1:=HLN.out;simp only [List.length_append] at h1 ⊢;omega) (by have h1:=HA.out;simp only [List.length_append];omega) (by omega) (by omega) (by have h1:=HU.out;rw [HUU.out] at h1;exact (Srt.append.1 h1).2.1) (by have h1:=HV.out;rw [HVV.out] at h1;exact (Srt.append.1 h1).2.1) (by omega) (by omega))
      clear hR
      go_wp2_with fail
      refine Calls.mono hC.out ?_
      rintro e w3 ⟨rfl,⟨z2,hR,z2l,z2o,z2s⟩,hN1⟩
      have hN10:=Lib.hid (hN9.out.trans hN1)
      clear hN1 hN9 hC
      go_wp2
      go_returns
      have hZ:=F2 C4 (by have h1:=HU.out;rw [HUU.out] at h1;exact h1) (by have h1:=HV.out;rw [HVV.out] at h1;exact h1) HC1.out HC2.out z1s z2s z1o z2o
      exact ⟨rfl,⟨z1++z2,by simpa using hR,by simp only [List.length_append] at *;omega,hZ.2,by rw [HUU.out,HVV.out];exact hZ.1⟩,hN10.out⟩
     have hC:=Lib.hid (HIH.out a st mid p u1 v1 (u2++(v2++s)) w1 (by omega) hR (by have h1:=HLN.out;simp only [List.length_append,List.length_nil] at h1 ⊢;omega) HA.out (by omega) (by omega) (by have h1:=HU.out;rw [HUU.out] at h1;exact (Srt.append.1 h1).1) (by have h1:=HV.out;rw [HVV.out] at h1;exact (Srt.append.1 h1).1) (by omega) (by omega))
     clear hR
     go_wp2_with fail
     refine Calls.mono hC.out ?_
     rintro e w2 ⟨rfl,⟨z1,hR,z1l,z1o,z1s⟩,hN1⟩
     have hN11:=Lib.hid (hN9.out.trans hN1)
     clear hN1 hN9 hC
     have hN9:=hN11
     clear hN11
     by_cases A5:en<b
     case neg=>
      obtain rfl:v2=[]:=List.eq_nil_of_length_eq_zero (by omega)
      go_wp2
      go_returns
      have hZ:=F2 C4 (by have h1:=HU.out;rw [HUU.out] at h1;exact h1) (by have h1:=HV.out;rw [HVV.out] at h1;exact h1) HC1.out HC2.out z1s (E4.refl (u2++[])) z1o (by have h1:=HU.out;rw [HUU.out] at h1;simpa using (Srt.append.1 h1).2.1)
      exact ⟨rfl,⟨z1++(u2++[]),by simpa using hR,by simp only [List.length_append,List.length_nil] at *;omega,hZ.2,by rw [HUU.out,HVV.out];exact hZ.1⟩,hN9.out⟩
     rw [show p++(z1++(u2++(v2++s)))=(p++z1)++(u2++(v2++s)) by simp only [List.append_assoc]] at hR
     have hC:=Lib.hid (HIH.out mid en b (p++z1) u2 v2 s w2 (by omega) hR (by have h1:=HLN.out;simp only [List.length_append] at h1 ⊢;omega) (by have h1:=HA.out;simp only [List.length_append];omega) (by omega) (by omega) (by have h1:=HU.out;rw [HUU.out] at h1;exact (Srt.append.1 h1).2.1) (by have h1:=HV.out;rw [HVV.out] at h1;exact (Srt.append.1 h1).2.1) (by omega) (by omega))
     clear hR
     go_wp2_with fail
     refine Calls.mono hC.out ?_
     rintro e w3 ⟨rfl,⟨z2,hR,z2l,z2o,z2s⟩,hN1⟩
     have hN10:=Lib.hid (hN9.out.trans hN1)
     clear hN1 hN9 hC
     go_wp2
     go_returns
     have hZ:=F2 C4 (by have h1:=HU.out;rw [HUU.out] at h1;exact h1) (by have h1:=HV.out;rw [HVV.out] at h1;exact h1) HC1.out HC2.out z1s z2s z1o z2o
     exact ⟨rfl,⟨z1++z2,by simpa using hR,by simp only [List.length_append] at *;omega,hZ.2,by rw [HUU.out,HVV.out];exact hZ.1⟩,hN10.out⟩
    ·skip
     have A2':¬m<en:=by omega
     have A3':mid<en:=by omega
     obtain rfl:v1=[]:=List.eq_nil_of_length_eq_zero (by omega)
     have hR:RR wo g 112 (p++(u1++([]++(u2++(v2++s))))) junk:=by simpa using hrest
     have hN9:=hN
     clear hrest hN
     obtain ⟨z1,hz1,z1l,z1o,z1s⟩:∃ z1,z1=u1∧z1.length=u1.length∧Srt B4 z1∧E4 B4 (u1++[]) z1:=⟨u1,rfl,rfl,by have h1:=HU.out;rw [HUU.out] at h1;exact (Srt.append.1 h1).1,by rw [List.append_nil];exact E4.refl _⟩
     have hR9:RR wo g 112 (p++(z1++(u2++(v2++s)))) junk:=by rw [hz1];simpa using hR
     clear hR hz1
     have hR:=hR9
     clear hR9
     by_cases A4:a<st
     all_goals
      by_cases A5:en<b
      case neg=>
       obtain rfl:v2=[]:=List.eq_nil_of_length_eq_zero (by omega)
       go_wp2
       go_returns
       have hZ:=F2 C4 (by have h1:=HU.out;rw [HUU.out] at h1;exact h1) (by have h1:=HV.out;rw [HVV.out] at h1;exact h1) HC1.out HC2.out z1s (E4.refl (u2++[])) z1o (by have h1:=HU.out;rw [HUU.out] at h1;simpa using (Srt.append.1 h1).2.1)
       exact ⟨rfl,⟨z1++(u2++[]),by simpa using hR,by simp only [List.length_append,List.length_nil] at *;omega,hZ.2,by rw [HUU.out,HVV.out];exact hZ.1⟩,hN9.out⟩
      rw [show p++(z1++(u2++(v2++s)))=(p++z1)++(u2++(v2++s)) by simp only [List.append_assoc]] at hR
      have hC:=Lib.hid (HIH.out mid en b (p++z1) u2 v2 s wo (by omega) hR (by have h1:=HLN.out;simp only [List.length_append] at h1 ⊢;omega) (by have h1:=HA.out;simp only [List.length_append];omega) (by omega) (by omega) (by have h1:=HU.out;rw [HUU.out] at h1;exact (Srt.append.1 h1).2.1) (by have h1:=HV.out;rw [HVV.out] at h1;exact (Srt.append.1 h1).2.1) (by omega) (by omega))
      clear hR
      go_wp2_with fail
      refine Calls.mono hC.out ?_
      rintro e w3 ⟨rfl,⟨z2,hR,z2l,z2o,z2s⟩,hN1⟩
      have hN10:=Lib.hid (hN9.out.trans hN1)
      clear hN1 hN9 hC
      go_wp2
      go_returns
      have hZ:=F2 C4 (by have h1:=HU.out;rw [HUU.out] at h1;exact h1) (by have h1:=HV.out;rw [HVV.out] at h1;exact h1) HC1.out HC2.out z1s z2s z1o z2o
      exact ⟨rfl,⟨z1++z2,by simpa using hR,by simp only [List.length_append] at *;omega,hZ.2,by rw [HUU.out,HVV.out];exact hZ.1⟩,hN10.out⟩
    ·skip
     have A3':¬mid<en:=by omega
     obtain rfl:u2=[]:=List.eq_nil_of_length_eq_zero (by omega)
     have hR:RR wo g 112 (p++(u1++(v1++([]++(v2++s))))) junk:=by simpa using hrest
     have hN9:=hN
     clear hrest hN
     by_cases A4:a<st
     case neg=>
      obtain rfl:u1=[]:=List.eq_nil_of_length_eq_zero (by omega)
      obtain ⟨z1,hz1,z1l,z1o,z1s⟩:∃ z1,z1=v1∧z1.length=v1.length∧Srt B4 z1∧E4 B4 ([]++v1) z1:=⟨v1,rfl,rfl,by have h1:=HV.out;rw [HVV.out] at h1;exact (Srt.append.1 h1).1,E4.refl _⟩
      have hR9:RR wo g 112 (p++(z1++([]++(v2++s)))) junk:=by rw [hz1];simpa using hR
      clear hR hz1
      have hR:=hR9
      clear hR9
      go_wp2
      go_returns
      have hZ:=F2 C4 (by have h1:=HU.out;rw [HUU.out] at h1;exact h1) (by have h1:=HV.out;rw [HVV.out] at h1;exact h1) HC1.out HC2.out z1s (E4.refl ([]++v2)) z1o (by have h1:=HV.out;rw [HVV.out] at h1;exact (Srt.append.1 h1).2.1)
      exact ⟨rfl,⟨z1++([]++v2),by simpa using hR,by simp only [List.length_append,List.length_nil] at *;omega,hZ.2,by rw [HUU.out,HVV.out];exact hZ.1⟩,hN9.out⟩
     have hC:=Lib.hid (HIH.out a st mid p u1 v1 ([]++(v2++s)) wo (by omega) hR (by have h1:=HLN.out;simp only [List.length_append,List.length_nil] at h1 ⊢;omega) HA.out (by omega) (by omega) (by have h1:=HU.out;rw [HUU.out] at h1;exact (Srt.append.1 h1).1) (by have h1:=HV.out;rw [HVV.out] at h1;exact (Srt.append.1 h1).1) (by omega) (by omega))
     clear hR
     go_wp2_with fail
     refine Calls.mono hC.out ?_
     rintro e w2 ⟨rfl,⟨z1,hR,z1l,z1o,z1s⟩,hN1⟩
     have hN11:=Lib.hid (hN9.out.trans hN1)
     clear hN1 hN9 hC
     have hN9:=hN11
     clear hN11
     go_wp2
     go_returns
     have hZ:=F2 C4 (by have h1:=HU.out;rw [HUU.out] at h1;exact h1) (by have h1:=HV.out;rw [HVV.out] at h1;exact h1) HC1.out HC2.out z1s (E4.refl ([]++v2)) z1o (by have h1:=HV.out;rw [HVV.out] at h1;exact (Srt.append.1 h1).2.1)
     exact ⟨rfl,⟨z1++([]++v2),by simpa using hR,by simp only [List.length_append,List.length_nil] at *;omega,hZ.2,by rw [HUU.out,HVV.out];exact hZ.1⟩,hN9.out⟩
    ·skip
     have A3':¬mid<en:=by omega
     obtain rfl:u2=[]:=List.eq_nil_of_length_eq_zero (by omega)
     obtain rfl:v1=[]:=List.eq_nil_of_length_eq_zero (by omega)
     have hR:RR wo g 112 (p++(u1++([]++([]++(v2++s))))) junk:=by simpa using hrest
     have hN9:=hN
     clear hrest hN
     obtain ⟨z1,hz1,z1l,z1o,z1s⟩:∃ z1,z1=u1∧z1.length=u1.length∧Srt B4 z1∧E4 B4 (u1++[]) z1:=⟨u1,rfl,rfl,by have h1:=HU.out;rw [HUU.out] at h1;exact (Srt.append.1 h1).1,by rw [List.append_nil];exact E4.refl _⟩
     have hR9:RR wo g 112 (p++(z1++([]++(v2++s)))) junk:=by rw [hz1];simpa using hR
     clear hR hz1
     have hR:=hR9
     clear hR9
     by_cases A4:a<st
     all_goals
      go_wp2
      go_returns
      have hZ:=F2 C4 (by have h1:=HU.out;rw [HUU.out] at h1;exact h1) (by have h1:=HV.out;rw [HVV.out] at h1;exact h1) HC1.out HC2.out z1s (E4.refl ([]++v2)) z1o (by have h1:=HV.out;rw [HVV.out] at h1;exact (Srt.append.1 h1).2.1)
      exact ⟨rfl,⟨z1++([]++v2),by simpa using hR,by simp only [List.length_append,List.length_nil] at *;omega,hZ.2,by rw [HUU.out,HVV.out];exact hZ.1⟩,hN9.out⟩
   have b1:(st:Int)<(r:Int):=by omega
   obtain ⟨c,e6⟩:∃ c:Nat,((st:Int)+r) / 2=(c:Int):=⟨(st+r) / 2,by omega⟩
   have h1:st≤c:=by omega
   have h2:c<r:=by omega
   obtain ⟨d,e7⟩:∃ d:Nat,(qq:Int) - (c:Int)=(d:Int):=⟨qq - c,by omega⟩
   have hd1:d+c=qq:=by omega
   have hdn:d<n:=by omega
   have hcn:c<n:=by omega
   obtain ⟨x,hx⟩:∃ x,z0[c]? =some x:=⟨_,List.getElem?_eq_getElem (by omega)⟩
   obtain ⟨y,hy⟩:∃ y,z0[d]? =some y:=⟨_,List.getElem?_eq_getElem (by omega)⟩
   have hy':z0[mid+m - 1 - c]? =some y:=by rw [show mid+m - 1 - c=d by omega];exact hy
   have hU:B4 y x=false→Hid (BsC z0 (mid+m) (lo) (mid) (c+1) r):=fun hl=>hS.out.up hx hy' hl
   have hD:B4 y x=true→Hid (BsC z0 (mid+m) (lo) (mid) st c):=fun hl=>hS.out.down hx hy' hl
   have HU:=Lib.hid hU
   have HD:=Lib.hid hD
   have hS0:=R2.of hR hy hx
   have ob:=T5 y x
   have hgl:=hR.lt
   have k1:¬(n:Int)≤(c:Int):=by omega
   have k2:¬(n:Int)≤(d:Int):=by omega
   have k3:IntKind.i64.wrap (d:Int)=d:=IntWalk.i64_in _ (by omega)
   clear hS hx hy hy' hU hD
   go_wp2
   refine B9 (R2 g (d * 3) (c * 3) y x) 99 (fun a0 a' w'=>∃ v158 v159 v160 v161 v162 v163 v164 v165 v166 v167 v168 v169 v170,a'=C8 a0 [(158,v158),(159,v159),(160,v160),(161,v161),(162,v162),(163,v163),(164,v164),(165,v165),(166,v166),(167,v167),(168,v168),(169,v169),(170,v170),(171,.bool (!B4 y x))]∧Below wo.heap.size wo w') (by kernel_rfl) ?_ ?_
   ·intro Q' hR hQp
    have hb0:Below wo.heap.size wo wo.drew:=N4 _
    have hS:R2 g (d * 3) (c * 3) y x wo.drew:=hS0
    generalize wo.drew=wa at *
    refine B0 (i:=0) (.func (.func 77) #[] #[]) rfl (by kernel_rfl) (fun _ _ _ h=>hQp _ _ _ _ h) hS (A0 (by kernel_rfl) (by intro w0 hw0;have hw1:=hw0;simp only [R2] at hw1;go_simp)) ?_;simp only [Act.put,St.tA,St.tD,St.tE,St.tS,St.tC,St.tZ]
    refine B0 (i:=1) (.slice (some ⟨g,0,none⟩) n cap) rfl (by kernel_rfl) (fun _ _ _ h=>hQp _ _ _ _ h) hS (A0 (by kernel_rfl) (by intro w0 hw0;have hw1:=hw0;simp only [R2] at hw1;go_simp)) ?_;simp only [Act.put,St.tA,St.tD,St.tE,St.tS,St.tC,St.tZ]
    refine B0 (i:=2) (.int .i64 qq) rfl (by kernel_rfl) (fun _ _ _ h=>hQp _ _ _ _ h) hS (A0 (by kernel_rfl) (by intro w0 hw0;have hw1:=hw0;simp only [R2] at hw1;go_simp)) ?_;simp only [Act.put,St.tA,St.tD,St.tE,St.tS,St.tC,St.tZ]
    refine B0 (i:=3) (.int .i64 c) rfl (by kernel_rfl) (fun _ _ _ h=>hQp _ _ _ _ h) hS (A0 (by kernel_rfl) (by intro w0 hw0;have hw1:=hw0;simp only [R2] at hw1;go_simp)) ?_;simp only [Act.put,St.tA,St.tD,St.tE,St.tS,St.tC,St.tZ]
    refine B0 (i:=4) (.int .i64 d) rfl (by kernel_rfl) (fun _ _ _ h=>hQp _ _ _ _ h) hS (A0 (by kernel_rfl) (by intro w0 hw0;have hw1:=hw0;simp only [R2] at hw1;go_simp)) ?_;simp only [Act.put,St.tA,St.tD,St.tE,St.tS,St.tC,St.tZ]
    refine B0 (i:=5) (.pointer (some ⟨g,d * 3,none⟩)) rfl (by kernel_rfl) (fun _ _ _ h=>hQp _ _ _ _ h) hS (A0 (by kernel_rfl) (by intro w0 hw0;have hw1:=hw0;simp only [R2] at hw1;go_simp)) ?_;simp only [Act.put,St.tA,St.tD,St.tE,St.tS,St.tC,St.tZ]
    refine B0 (i:=6) (.agg #[.int .i64 y.ver,.int .i64 y.flow,.int .i64 y.next]) rfl (by kernel_rfl) (fun _ _ _ h=>hQp _ _ _ _ h) hS (A0 (by kernel_rfl) (by intro w0 hw0;have hw1:=hw0;simp only [R2] at hw1;go_simp)) ?_;simp only [Act.put,St.tA,St.tD,St.tE,St.tS,St.tC,St.tZ]
    refine B0 (i:=7) (.slice (some ⟨g,0,none⟩) n cap) rfl (by kernel_rfl) (fun _ _ _ h=>hQp _ _ _ _ h) hS (A0 (by kernel_rfl) (by intro w0 hw0;have hw1:=hw0;simp only [R2] at hw1;go_simp)) ?_;simp only [Act.put,St.tA,St.tD,St.tE,St.tS,St.tC,St.tZ]
    refine B0 (i:=8) (.int .i64 c) rfl (by kernel_rfl) (fun _ _ _ h=>hQp _ _ _ _ h) hS (A0 (by kernel_rfl) (by intro w0 hw0;have hw1:=hw0;simp only [R2] at hw1;go_simp)) ?_;simp only [Act.put,St.tA,St.tD,St.tE,St.tS,St.tC,St.tZ]
    refine B0 (i:=9) (.pointer (some ⟨g,c * 3,none⟩)) rfl (by kernel_rfl) (fun _ _ _ h=>hQp _ _ _ _ h) hS (A0 (by kernel_rfl) (by intro w0 hw0;have hw1:=hw0;simp only [R2] at hw1;go_simp)) ?_;simp only [Act.put,St.tA,St.tD,St.tE,St.tS,St.tC,St.tZ]
    refine B0 (i:=10) (.agg #[.int .i64 x.ver,.int .i64 x.flow,.int .i64 x.next]) rfl (by kernel_rfl) (fun _ _ _ h=>hQp _ _ _ _ h) hS (A0 (by kernel_rfl) (by intro w0 hw0;have hw1:=hw0;simp only [R2] at hw1;go_simp)) ?_;simp only [Act.put,St.tA,St.tD,St.tE,St.tS,St.tC,St.tZ]
    clear hS
    refine A7 (i:=11) rfl (by kernel_rfl) (by kernel_rfl) fun K11 hK11=>?_
    go_simp
    go_wp2_with fail
    refine (A16 y x wa).mono ?_
    rintro e wb ⟨rfl,hb1⟩
    go_wp2_with fail
    have hb2:Below wo.heap.size wo wb:=hb0.trans (hb1.mono hb0.size)
    have hS:=hS0.under hgl hb2
    refine hK11 _ _ (fun _=>hS) ?_
    clear hK11
    refine B0 (i:=12) (.bool (B4 y x)) rfl (by kernel_rfl) (fun _ _ _ h=>hQp _ _ _ _ h) hS (A0 (by kernel_rfl) (by intro w0 hw0;have hw1:=hw0;simp only [R2] at hw1;go_simp)) ?_;simp only [Act.put,St.tA,St.tD,St.tE,St.tS,St.tC,St.tZ]
    refine B0 (i:=13) (.bool (!B4 y x)) rfl (by kernel_rfl) (fun _ _ _ h=>hQp _ _ _ _ h) hS (A0 (by kernel_rfl) (by intro w0 hw0;have hw1:=hw0;simp only [R2] at hw1;go_simp)) ?_;simp only [Act.put,St.tA,St.tD,St.tE,St.tS,St.tC,St.tZ]
    refine B5 (by kernel_rfl) ?_ _
    refine hR _ _ ?_
    iterate 13 apply Exists.intro
    refine ⟨?_,hb2⟩
    simp only [C8,Act.put,St.tS,St.tC,St.tZ]
    rfl
   rintro a' w8 ⟨v158,v159,v160,v161,v162,v163,v164,v165,v166,v167,v168,v169,v170,rfl,hb8⟩
   simp only [C8,Act.put,St.tS,St.tC,St.tZ]
   have hR8:=hR.under hb8
   have hN8:Hid (H9 g w w8):=hN.out.then hb8
   clear hR hN hS0 hb8
   by_cases hyx:B4 y x=true
   ·have hS:=HD.out hyx
    rw [hyx,Bool.not_true]
    clear HU HD
    go_wp2
    case roundEnd=>
     go_roundw
     case rel=>exact ⟨st,c,rfl,rfl,hi1,h1,by omega,hS,hR8,hN8⟩
     case measure=>simp [intOf]<;>omega
   ·have hyx':B4 y x=false:=by simpa using hyx
    have hS:=HU.out hyx'
    rw [hyx',Bool.not_false]
    clear HU HD hyx
    go_wp2
    case roundEnd=>
     go_roundw
     case rel=>exact ⟨c+1,r,by go_num,rfl,by omega,by omega,hjb,hS,hR8,hN8⟩
     case measure=>simp [intOf]<;>omega
 ·have b0:¬(mid:Int)<(m:Int):=by omega
  have hst:Hid (BsC z0 (mid+m) (a) (m) (a) (m)):=BsC.start _ _ _ _
  go_wp2
  go_loopw [20,21,23] (fun ii jj _ wr=>∃ (st r:Nat),ii=.int .i64 st∧jj=.int .i64 r∧a≤st∧st≤r∧r≤m∧Hid (BsC z0 (mid+m) (a) (m) st r)∧RR wr g 112 z0 junk∧Hid (H9 g w wr)) (fun ii jj _ _=>(intOf jj).toNat - (intOf ii).toNat)
  case atStart=>exact ⟨a,m,rfl,rfl,Nat.le_refl _,by omega,Nat.le_refl _,hst,h,hN⟩
  case round=>
   clear hst h hN
   obtain ⟨st,r,rfl,rfl,hi1,hij,hjb,hS,hR,hN⟩:=hrel
   rename World=>wo
   by_cases hlt:st<r
   case neg=>
    obtain rfl:st=r:=by omega
    obtain ⟨en,e5⟩:∃ en:Nat,(mid:Int)+(m:Int) - (st:Int)=(en:Int):=⟨mid+m - st,by omega⟩
    obtain ⟨u1,u2,v1,v2,huu,hvv,u1l,u2l,v1l,v2l,hc1,hc2⟩:=HDN.out _ _ st en hS.out (by omega) (by omega) (by omega) (by omega) (by omega) (by omega) (by omega)
    have HUU:=Lib.hid huu
    have HVV:=Lib.hid hvv
    have HC1:=Lib.hid hc1
    have HC2:=Lib.hid hc2
    have HLN:=Lib.hid (show (p++((u1++u2)++((v1++v2)++s))).length=n by rw [←huu,←hvv,HZ.out];omega)
    have b1:¬(st:Int)<(st:Int):=by omega
    have hq:en+st=mid+m:=by omega
    have hsm:st≤m:=by omega
    have hme:m≤en:=by omega
    have heb:en≤b:=by omega
    have has:a≤st:=by omega
    have huz:u.length=u1.length+u2.length:=by rw [huu];simp
    have hvz:v.length=v1.length+v2.length:=by rw [hvv];simp
    clear huu hvv hc1 hc2 hS
    have hrest:=hR
    rw [←HZ.out,HUU.out,HVV.out,show p++((u1++u2)++((v1++v2)++s))=(p++u1)++(u2++(v1++(v2++s))) by simp only [List.append_assoc]] at hrest
    clear hR
    have B1:st<m∨mid=en:=by omega
    by_cases A1:st<m<;>by_cases A2:st<mid
    ·skip
     have A2':m<en:=by omega
     have A3':mid<en:=by omega
     have hC:=Lib.hid (A8h g n cap st m en (p++u1) u2 v1 (v2++s) junk (.func (.func 77) #[] #[]) wo hrest (by have h1:=HLN.out;simp only [List.length_append] at h1 ⊢;omega) hbig (by have h1:=HA.out;simp only [List.length_append];omega) (by omega) (by omega) (by omega) (by omega))
     clear hrest
     go_wp2_with fail
     refine hC.out.mono ?_
     rintro e w1 ⟨rfl,hR1,hN1⟩
     have hR:=hR1
     rw [show (p++u1)++(v1++(u2++(v2++s)))=p++(u1++(v1++(u2++(v2++s)))) by simp only [List.append_assoc]] at hR
     have hN9:Hid (H9 g w w1):=hN.out.trans hN1
     clear hR1 hN1 hN hC
     by_cases A4:a<st
     case neg=>
      obtain rfl:u1=[]:=List.eq_nil_of_length_eq_zero (by omega)
      obtain ⟨z1,hz1,z1l,z1o,z1s⟩:∃ z1,z1=v1∧z1.length=v1.length∧Srt B4 z1∧E4 B4 ([]++v1) z1:=⟨v1,rfl,rfl,by have h1:=HV.out;rw [HVV.out] at h1;exact (Srt.append.1 h1).1,E4.refl _⟩
      have hR9:RR w1 g 112 (p++(z1++(u2++(v2++s)))) junk:=by rw [hz1];simpa using hR
      clear hR hz1
      have hR:=hR9
      clear hR9
      by_cases A5:en<b
      case neg=>
       obtain rfl:v2=[]:=List.eq_nil_of_length_eq_zero (by omega)
       go_wp2
       go_returns
       have hZ:=F2 C4 (by have h1:=HU.out;rw [HUU.out] at h1;exact h1) (by have h1:=HV.out;rw [HVV.out] at h1;exact h1) HC1.out HC2.out z1s (E4.refl (u2++[])) z1o (by have h1:=HU.out;rw [HUU.out] at h1;simpa using (Srt.append.1 h1).2.1)
       exact ⟨rfl,⟨z1++(u2++[]),by simpa using hR,by simp only [List.length_append,List.length_nil] at *;omega,hZ.2,by rw [HUU.out,HVV.out];exact hZ.1⟩,hN9.out⟩
      rw [show p++(z1++(u2++(v2++s)))=(p++z1)++(u2++(v2++s)) by simp only [List.append_assoc]] at hR
      have hC:=Lib.hid (HIH.out mid en b (p++z1) u2 v2 s w1 (by omega) hR (by have h1:=HLN.out;simp only [List.length_append] at h1 ⊢;omega) (by have h1:=HA.out;simp only [List.length_append];omega) (by omega) (by omega) (by have h1:=HU.out;rw [HUU.out] at h1;exact (Srt.append.1 h1).2.1) (by have h1:=HV.out;rw [HVV.out] at h1;exact (Srt.append.1 h1).2.1) (by omega) (by omega))
      clear hR
      go_wp2_with fail
      refine Calls.mono hC.out ?_
      rintro e w3 ⟨rfl,⟨z2,hR,z2l,z2o,z2s⟩,hN1⟩
      have hN10:=Lib.hid (hN9.out.trans hN1)
      clear hN1 hN9 hC
      go_wp2
      go_returns
      have hZ:=F2 C4 (by have h1:=HU.out;rw [HUU.out] at h1;exact h1) (by have h1:=HV.out;rw [HVV.out] at h1;exact h1) HC1.out HC2.out z1s z2s z1o z2o
      exact ⟨rfl,⟨z1++z2,by simpa using hR,by simp only [List.length_append] at *;omega,hZ.2,by rw [HUU.out,HVV.out];exact hZ.1⟩,hN10.out⟩
     have hC:=Lib.hid (HIH.out a st mid p u1 v1 (u2++(v2++s)) w1 (by omega) hR (by have h1:=HLN.out;simp only [List.length_append,List.length_nil] at h1 ⊢;omega) HA.out (by omega) (by omega) (by have h1:=HU.out;rw [HUU.out] at h1;exact (Srt.append.1 h1).1) (by have h1:=HV.out;rw [HVV.out] at h1;exact (Srt.append.1 h1).1) (by omega) (by omega))
     clear hR
     go_wp2_with fail
     refine Calls.mono hC.out ?_
     rintro e w2 ⟨rfl,⟨z1,hR,z1l,z1o,z1s⟩,hN1⟩
     have hN11:=Lib.hid (hN9.out.trans hN1)
     clear hN1 hN9 hC
     have hN9:=hN11
     clear hN11
     by_cases A5:en<b
     case neg=>
      obtain rfl:v2=[]:=List.eq_nil_of_length_eq_zero (by omega)
      go_wp2
      go_returns
      have hZ:=F2 C4 (by have h1:=HU.out;rw [HUU.out] at h1;exact h1) (by have h1:=HV.out;rw [HVV.out] at h1;exact h1) HC1.out HC2.out z1s (E4.refl (u2++[])) z1o (by have h1:=HU.out;rw [HUU.out] at h1;simpa using (Srt.append.1 h1).2.1)
      exact ⟨rfl,⟨z1++(u2++[]),by simpa using hR,by simp only [List.length_append,List.length_nil] at *;omega,hZ.2,by rw [HUU.out,HVV.out];exact hZ.1⟩,hN9.out⟩
     rw [show p++(z1++(u2++(v2++s)))=(p++z1)++(u2++(v2++s)) by simp only [List.append_assoc]] at hR
     have hC:=Lib.hid (HIH.out mid en b (p++z1) u2 v2 s w2 (by omega) hR (by have h1:=HLN.out;simp only [List.length_append] at h1 ⊢;omega) (by have h1:=HA.out;simp only [List.length_append];omega) (by omega) (by omega) (by have h1:=HU.out;rw [HUU.out] at h1;exact (Srt.append.1 h1).2.1) (by have h1:=HV.out;rw [HVV.out] at h1;exact (Srt.append.1 h1).2.1) (by omega) (by omega))
     clear hR
     go_wp2_with fail
     refine Calls.mono hC.out ?_
     rintro e w3 ⟨rfl,⟨z2,hR,z2l,z2o,z2s⟩,hN1⟩
     have hN10:=Lib.hid (hN9.out.trans hN1)
     clear hN1 hN9 hC
     go_wp2
     go_returns
     have hZ:=F2 C4 (by have h1:=HU.out;rw [HUU.out] at h1;exact h1) (by have h1:=HV.out;rw [HVV.out] at h1;exact h1) HC1.out HC2.out z1s z2s z1o z2o
     exact ⟨rfl,⟨z1++z2,by simpa using hR,by simp only [List.length_append] at *;omega,hZ.2,by rw [HUU.out,HVV.out];exact hZ.1⟩,hN10.out⟩
    ·skip
     have A2':¬m<en:=by omega
     have A3':mid<en:=by omega
     obtain rfl:v1=[]:=List.eq_nil_of_length_eq_zero (by omega)
     have hR:RR wo g 112 (p++(u1++([]++(u2++(v2++s))))) junk:=by simpa using hrest
     have hN9:=hN
     clear hrest hN
     obtain ⟨z1,hz1,z1l,z1o,z1s⟩:∃ z1,z1=u1∧z1.length=u1.length∧Srt B4 z1∧E4 B4 (u1++[]) z1:=⟨u1,rfl,rfl,by have h1:=HU.out;rw [HUU.out] at h1;exact (Srt.append.1 h1).1,by rw [List.append_nil];exact E4.refl _⟩
     have hR9:RR wo g 112 (p++(z1++(u2++(v2++s)))) junk:=by rw [hz1];simpa using hR
     clear hR hz1
     have hR:=hR9
     clear hR9
     by_cases A4:a<st
     all_goals
      by_cases A5:en<b
      case neg=>
       obtain rfl:v2=[]:=List.eq_nil_of_length_eq_zero (by omega)
       go_wp2
       go_returns
       have hZ:=F2 C4 (by have h1:=HU.out;rw [HUU.out] at h1;exact h1) (by have h1:=HV.out;rw [HVV.out] at h1;exact h1) HC1.out HC2.out z1s (E4.refl (u2++[])) z1o (by have h1:=HU.out;rw [HUU.out] at h1;simpa using (Srt.append.1 h1).2.1)
       exact ⟨rfl,⟨z1++(u2++[]),by simpa using hR,by simp only [List.length_append,List.length_nil] at *;omega,hZ.2,by rw [HUU.out,HVV.out];exact hZ.1⟩,hN9.out⟩
      rw [show p++(z1++(u2++(v2++s)))=(p++z1)++(u2++(v2++s)) by simp only [List.append_assoc]] at hR
      have hC:=Lib.hid (HIH.out mid en b (p++z1) u2 v2 s wo (by omega) hR (by have h1:=HLN.out;simp only [List.length_append] at h1 ⊢;omega) (by have h1:=HA.out;simp only [List.length_append];omega) (by omega) (by omega) (by have h1:=HU.out;rw [HUU.out] at h1;exact (Srt.append.1 h1).2.1) (by have h1:=HV.out;rw [HVV.out] at h1;exact (Srt.append.1 h1).2.1) (by omega) (by omega))
      clear hR
      go_wp2_with fail
      refine Calls.mono hC.out ?_
      rintro e w3 ⟨rfl,⟨z2,hR,z2l,z2o,z2s⟩,hN1⟩
      have hN10:=Lib.hid (hN9.out.trans hN1)
      clear hN1 hN9 hC
      go_wp2
      go_returns
      have hZ:=F2 C4 (by have h1:=HU.out;rw [HUU.out] at h1;exact h1) (by have h1:=HV.out;rw [HVV.out] at h1;exact h1) HC1.out HC2.out z1s z2s z1o z2o
      exact ⟨rfl,⟨z1++z2,by simpa using hR,by simp only [List.length_append] at *;omega,hZ.2,by rw [HUU.out,HVV.out];exact hZ.1⟩,hN10.out⟩
    ·skip
     have A3':¬mid<en:=by omega
     obtain rfl:u2=[]:=List.eq_nil_of_length_eq_zero (by omega)
     have hR:RR wo g 112 (p++(u1++(v1++([]++(v2++s))))) junk:=by simpa using hrest
     have hN9:=hN
     clear hrest hN
     by_cases A4:a<st
     case neg=>
      obtain rfl:u1=[]:=List.eq_nil_of_length_eq_zero (by omega)
      obtain ⟨z1,hz1,z1l,z1o,z1s⟩:∃ z1,z1=v1∧z1.length=v1.length∧Srt B4 z1∧E4 B4 ([]++v1) z1:=⟨v1,rfl,rfl,by have h1:=HV.out;rw [HVV.out] at h1;exact (Srt.append.1 h1).1,E4.refl _⟩
      have hR9:RR wo g 112 (p++(z1++([]++(v2++s)))) junk:=by rw [hz1];simpa using hR
      clear hR hz1
      have hR:=hR9
      clear hR9
      go_wp2
      go_returns
      have hZ:=F2 C4 (by have h1:=HU.out;rw [HUU.out] at h1;exact h1) (by have h1:=HV.out;rw [HVV.out] at h1;exact h1) HC1.out HC2.out z1s (E4.refl ([]++v2)) z1o (by have h1:=HV.out;rw [HVV.out] at h1;exact (Srt.append.1 h1).2.1)
      exact ⟨rfl,⟨z1++([]++v2),by simpa using hR,by simp only [List.length_append,List.length_nil] at *;omega,hZ.2,by rw [HUU.out,HVV.out];exact hZ.1⟩,hN9.out⟩
     have hC:=Lib.hid (HIH.out a st mid p u1 v1 ([]++(v2++s)) wo (by omega) hR (by have h1:=HLN.out;simp only [List.length_append,List.length_nil] at h1 ⊢;omega) HA.out (by omega) (by omega) (by have h1:=HU.out;rw [HUU.out] at h1;exact (Srt.append.1 h1).1) (by have h1:=HV.out;rw [HVV.out] at h1;exact (Srt.append.1 h1).1) (by omega) (by omega))
     clear hR
     go_wp2_with fail
     refine Calls.mono hC.out ?_
     rintro e w2 ⟨rfl,⟨z1,hR,z1l,z1o,z1s⟩,hN1⟩
     have hN11:=Lib.hid (hN9.out.trans hN1)
     clear hN1 hN9 hC
     have hN9:=hN11
     clear hN11
     go_wp2
     go_returns
     have hZ:=F2 C4 (by have h1:=HU.out;rw [HUU.out] at h1;exact h1) (by have h1:=HV.out;rw [HVV.out] at h1;exact h1) HC1.out HC2.out z1s (E4.refl ([]++v2)) z1o (by have h1:=HV.out;rw [HVV.out] at h1;exact (Srt.append.1 h1).2.1)
     exact ⟨rfl,⟨z1++([]++v2),by simpa using hR,by simp only [List.length_append,List.length_nil] at *;omega,hZ.2,by rw [HUU.out,HVV.out];exact hZ.1⟩,hN9.out⟩
    ·skip
     have A3':¬mid<en:=by omega
     obtain rfl:u2=[]:=List.eq_nil_of_length_eq_zero (by omega)
     obtain rfl:v1=[]:=List.eq_nil_of_length_eq_zero (by omega)
     have hR:RR wo g 112 (p++(u1++([]++([]++(v2++s))))) junk:=by simpa using hrest
     have hN9:=hN
     clear hrest hN
     obtain ⟨z1,hz1,z1l,z1o,z1s⟩:∃ z1,z1=u1∧z1.length=u1.length∧Srt B4 z1∧E4 B4 (u1++[]) z1:=⟨u1,rfl,rfl,by have h1:=HU.out;rw [HUU.out] at h1;exact (Srt.append.1 h1).1,by rw [List.append_nil];exact E4.refl _⟩
     have hR9:RR wo g 112 (p++(z1++([]++(v2++s)))) junk:=by rw [hz1];simpa using hR
     clear hR hz1
     have hR:=hR9
     clear hR9
     by_cases A4:a<st
     all_goals
      go_wp2
      go_returns
      have hZ:=F2 C4 (by have h1:=HU.out;rw [HUU.out] at h1;exact h1) (by have h1:=HV.out;rw [HVV.out] at h1;exact h1) HC1.out HC2.out z1s (E4.refl ([]++v2)) z1o (by have h1:=HV.out;rw [HVV.out] at h1;exact (Srt.append.1 h1).2.1)
      exact ⟨rfl,⟨z1++([]++v2),by simpa using hR,by simp only [List.length_append,List.length_nil] at *;omega,hZ.2,by rw [HUU.out,HVV.out];exact hZ.1⟩,hN9.out⟩
   have b1:(st:Int)<(r:Int):=by omega
   obtain ⟨c,e6⟩:∃ c:Nat,((st:Int)+r) / 2=(c:Int):=⟨(st+r) / 2,by omega⟩
   have h1:st≤c:=by omega
   have h2:c<r:=by omega
   obtain ⟨d,e7⟩:∃ d:Nat,(qq:Int) - (c:Int)=(d:Int):=⟨qq - c,by omega⟩
   have hd1:d+c=qq:=by omega
   have hdn:d<n:=by omega
   have hcn:c<n:=by omega
   obtain ⟨x,hx⟩:∃ x,z0[c]? =some x:=⟨_,List.getElem?_eq_getElem (by omega)⟩
   obtain ⟨y,hy⟩:∃ y,z0[d]? =some y:=⟨_,List.getElem?_eq_getElem (by omega)⟩
   have hy':z0[mid+m - 1 - c]? =some y:=by rw [show mid+m - 1 - c=d by omega];exact hy
   have hU:B4 y x=false→Hid (BsC z0 (mid+m) (a) (m) (c+1) r):=fun hl=>hS.out.up hx hy' hl
   have hD:B4 y x=true→Hid (BsC z0 (mid+m) (a) (m) st c):=fun hl=>hS.out.down hx hy' hl
   have HU:=Lib.hid hU
   have HD:=Lib.hid hD
   have hS0:=R2.of hR hy hx
   have ob:=T5 y x
   have hgl:=hR.lt
   have k1:¬(n:Int)≤(c:Int):=by omega
   have k2:¬(n:Int)≤(d:Int):=by omega
   have k3:IntKind.i64.wrap (d:Int)=d:=IntWalk.i64_in _ (by omega)
   clear hS hx hy hy' hU hD
   go_wp2
   refine B9 (R2 g (d * 3) (c * 3) y x) 99 (fun a0 a' w'=>∃ v158 v159 v160 v161 v162 v163 v164 v165 v166 v167 v168 v169 v170,a'=C8 a0 [(158,v158),(159,v159),(160,v160),(161,v161),(162,v162),(163,v163),(164,v164),(165,v165),(166,v166),(167,v167),(168,v168),(169,v169),(170,v170),(171,.bool (!B4 y x))]∧Below wo.heap.size wo w') (by kernel_rfl) ?_ ?_
   ·intro Q' hR hQp
    have hb0:Below wo.heap.size wo wo.drew:=N4 _
    have hS:R2 g (d * 3) (c * 3) y x wo.drew:=hS0
    generalize wo.drew=wa at *
    refine B0 (i:=0) (.func (.func 77) #[] #[]) rfl (by kernel_rfl) (fun _ _ _ h=>hQp _ _ _ _ h) hS (A0 (by kernel_rfl) (by intro w0 hw0;have hw1:=hw0;simp only [R2] at hw1;go_simp)) ?_;simp only [Act.put,St.tA,St.tD,St.tE,St.tS,St.tC,St.tZ]
    refine B0 (i:=1) (.slice (some ⟨g,0,none⟩) n cap) rfl (by kernel_rfl) (fun _ _ _ h=>hQp _ _ _ _ h) hS (A0 (by kernel_rfl) (by intro w0 hw0;have hw1:=hw0;simp only [R2] at hw1;go_simp)) ?_;simp only [Act.put,St.tA,St.tD,St.tE,St.tS,St.tC,St.tZ]
    refine B0 (i:=2) (.int .i64 qq) rfl (by kernel_rfl) (fun _ _ _ h=>hQp _ _ _ _ h) hS (A0 (by kernel_rfl) (by intro w0 hw0;have hw1:=hw0;simp only [R2] at hw1;go_simp)) ?_;simp only [Act.put,St.tA,St.tD,St.tE,St.tS,St.tC,St.tZ]
    refine B0 (i:=3) (.int .i64 c) rfl (by kernel_rfl) (fun _ _ _ h=>hQp _ _ _ _ h) hS (A0 (by kernel_rfl) (by intro w0 hw0;have hw1:=hw0;simp only [R2] at hw1;go_simp)) ?_;simp only [Act.put,St.tA,St.tD,St.tE,St.tS,St.tC,St.tZ]
    refine B0 (i:=4) (.int .i64 d) rfl (by kernel_rfl) (fun _ _ _ h=>hQp _ _ _ _ h) hS (A0 (by kernel_rfl) (by intro w0 hw0;have hw1:=hw0;simp only [R2] at hw1;go_simp)) ?_;simp only [Act.put,St.tA,St.tD,St.tE,St.tS,St.tC,St.tZ]
    refine B0 (i:=5) (.pointer (some ⟨g,d * 3,none⟩)) rfl (by kernel_rfl) (fun _ _ _ h=>hQp _ _ _ _ h) hS (A0 (by kernel_rfl) (by intro w0 hw0;have hw1:=hw0;simp only [R2] at hw1;go_simp)) ?_;simp only [Act.put,St.tA,St.tD,St.tE,St.tS,St.tC,St.tZ]
    refine B0 (i:=6) (.agg #[.int .i64 y.ver,.int .i64 y.flow,.int .i64 y.next]) rfl (by kernel_rfl) (fun _ _ _ h=>hQp _ _ _ _ h) hS (A0 (by kernel_rfl) (by intro w0 hw0;have hw1:=hw0;simp only [R2] at hw1;go_simp)) ?_;simp only [Act.put,St.tA,St.tD,St.tE,St.tS,St.tC,St.tZ]
    refine B0 (i:=7) (.slice (some ⟨g,0,none⟩) n cap) rfl (by kernel_rfl) (fun _ _ _ h=>hQp _ _ _ _ h) hS (A0 (by kernel_rfl) (by intro w0 hw0;have hw1:=hw0;simp only [R2] at hw1;go_simp)) ?_;simp only [Act.put,St.tA,St.tD,St.tE,St.tS,St.tC,St.tZ]
    refine B0 (i:=8) (.int .i64 c) rfl (by kernel_rfl) (fun _ _ _ h=>hQp _ _ _ _ h) hS (A0 (by kernel_rfl) (by intro w0 hw0;have hw1:=hw0;simp only [R2] at hw1;go_simp)) ?_;simp only [Act.put,St.tA,St.tD,St.tE,St.tS,St.tC,St.tZ]
    refine B0 (i:=9) (.pointer (some ⟨g,c * 3,none⟩)) rfl (by kernel_rfl) (fun _ _ _ h=>hQp _ _ _ _ h) hS (A0 (by kernel_rfl) (by intro w0 hw0;have hw1:=hw0;simp only [R2] at hw1;go_simp)) ?_;simp only [Act.put,St.tA,St.tD,St.tE,St.tS,St.tC,St.tZ]
    refine B0 (i:=10) (.agg #[.int .i64 x.ver,.int .i64 x.flow,.int .i64 x.next]) rfl (by kernel_rfl) (fun _ _ _ h=>hQp _ _ _ _ h) hS (A0 (by kernel_rfl) (by intro w0 hw0;have hw1:=hw0;simp only [R2] at hw1;go_simp)) ?_;simp only [Act.put,St.tA,St.tD,St.tE,St.tS,St.tC,St.tZ]
    clear hS
    refine A7 (i:=11) rfl (by kernel_rfl) (by kernel_rfl) fun K11 hK11=>?_
    go_simp
    go_wp2_with fail
    refine (A16 y x wa).mono ?_
    rintro e wb ⟨rfl,hb1⟩
    go_wp2_with fail
    have hb2:Below wo.heap.size wo wb:=hb0.trans (hb1.mono hb0.size)
    have hS:=hS0.under hgl hb2
    refine hK11 _ _ (fun _=>hS) ?_
    clear hK11
    refine B0 (i:=12) (.bool (B4 y x)) rfl (by kernel_rfl) (fun _ _ _ h=>hQp _ _ _ _ h) hS (A0 (by kernel_rfl) (by intro w0 hw0;have hw1:=hw0;simp only [R2] at hw1;go_simp)) ?_;simp only [Act.put,St.tA,St.tD,St.tE,St.tS,St.tC,St.tZ]
    refine B0 (i:=13) (.bool (!B4 y x)) rfl (by kernel_rfl) (fun _ _ _ h=>hQp _ _ _ _ h) hS (A0 (by kernel_rfl) (by intro w0 hw0;have hw1:=hw0;simp only [R2] at hw1;go_simp)) ?_;simp only [Act.put,St.tA,St.tD,St.tE,St.tS,St.tC,St.tZ]
    refine B5 (by kernel_rfl) ?_ _
    refine hR _ _ ?_
    iterate 13 apply Exists.intro
    refine ⟨?_,hb2⟩
    simp only [C8,Act.put,St.tS,St.tC,St.tZ]
    rfl
   rintro a' w8 ⟨v158,v159,v160,v161,v162,v163,v164,v165,v166,v167,v168,v169,v170,rfl,hb8⟩
   simp only [C8,Act.put,St.tS,St.tC,St.tZ]
   have hR8:=hR.under hb8
   have hN8:Hid (H9 g w w8):=hN.out.then hb8
   clear hR hN hS0 hb8
   by_cases hyx:B4 y x=true
   ·have hS:=HD.out hyx
    rw [hyx,Bool.not_true]
    clear HU HD
    go_wp2
    case roundEnd=>
     go_roundw
     case rel=>exact ⟨st,c,rfl,rfl,hi1,h1,by omega,hS,hR8,hN8⟩
     case measure=>simp [intOf]<;>omega
   ·have hyx':B4 y x=false:=by simpa using hyx
    have hS:=HU.out hyx'
    rw [hyx',Bool.not_false]
    clear HU HD hyx
    go_wp2
    case roundEnd=>
     go_roundw
     case rel=>exact ⟨c+1,r,by go_num,rfl,by omega,by omega,hjb,hS,hR8,hN8⟩
     case measure=>simp [intOf]<;>omega
theorem B1z (g n cap:Nat) (junk:List Value) (hbig:n≤100000000000000):∀ (N a m b:Nat) (p u v s:List C1) (w:World),b - a≤N→RR w g 112 (p++(u++(v++s))) junk→(p++(u++(v++s))).length=n→p.length=a→a+u.length=m→m+v.length=b→Srt B4 u→Srt B4 v→1≤u.length→1≤v.length→A19 g n cap a m b p u v s junk w
 |0,a,m,b,p,u,v,s,w,hN,h,hn,ha,hm,hb,hu,hv,hu1,hv1=>by omega
 |N+1,a,m,b,p,u,v,s,w,hN,h,hn,ha,hm,hb,hu,hv,hu1,hv1=>by
  by_cases h1:u.length=1
  ·obtain ⟨x,rfl⟩:=List.length_eq_one_iff.1 h1
   have:=B5c g n cap a m b p v s x junk w (by simpa using h) (by simpa using hn) hbig ha (by simpa using hm.symm) hb hv
   refine this.mono ?_
   rintro e w' ⟨rfl,⟨v1,v2,rfl,g1,g2,hr⟩,hnr⟩
   obtain ⟨k1,k2⟩:=A9o C4 (x:=x) hv g1 g2
   exact ⟨rfl,⟨v1++([x]++v2),by simpa using hr,by simp;omega,k2,k1⟩,hnr⟩
  by_cases h2:v.length=1
  ·obtain ⟨y,rfl⟩:=List.length_eq_one_iff.1 h2
   have:=B56 g n cap a m b p u s y junk w (by simpa using h) (by simpa using hn) hbig ha hm (by simpa using hb.symm) (by omega) hu
   refine this.mono ?_
   rintro e w' ⟨rfl,⟨u1,u2,rfl,g1,g2,hr⟩,hnr⟩
   obtain ⟨k1,k2⟩:=A3b C4 (y:=y) hu g1 g2
   exact ⟨rfl,⟨(u1++[y])++u2,by simpa using hr,by simp;omega,k2,k1⟩,hnr⟩
  exact B52 g n cap a m b p u v s junk w h hn hbig ha hm hb hu hv (by omega) (by omega) fun a' m' b' p' u' v' s' w' q0 q1 q2 q3 q4 q5 q6 q7 q8 q9=>
   B1z g n cap junk hbig N a' m' b' p' u' v' s' w' (by omega) q1 q2 q3 q4 q5 q6 q7 q8 q9
end Go.Proofs.YtampcbncgofkoaaGreatDoor
