/- Texts of this proof, one behind the other. -/
import Derived.Test.YtampcbncgofkoaaPk42
set_option linter.unusedSimpArgs false
set_option linter.unusedVariables false
set_option maxRecDepth 100000
set_option maxHeartbeats 16000000
namespace Go.St
open Go.RowKit
def B97 (p:F5) (n:Nat):Nat:=((List.range n).map fun s:Nat=>(C6 p (s:Int)).length).foldl (·+·) 0
theorem B9b (p:F5) (n:Nat):B97 p (n+1)=B97 p n+(C6 p (n:Int)).length:=by simp [B97,List.range_succ]
structure B9z (n a b k:Nat) (R:F5 × (Int × Int)):Prop where
 max_:max ((a:Int) - b) (b - a)=(k:Int)
 err:R.2.1=0
 len:R.1.paths.length=1
 cost:∀ p,R.1.paths[0]? =some p→S6 (H3 n) p=((k:Int),true)∧p.length=k+1
 sum:B97 R.1 n=k
 each:∀ s:Int,(C6 R.1 s).length≤96
theorem B9x {n a b:Nat} (hn:n≤8) (ha:a<n) (hb:b<n) (hab:a≠b):∃ k,k≤8∧B9z n a b k (D2 (H3 n) 1 [B98 a b]):=by
 have h:=B9s
 rw [List.all_eq_true] at h
 have h':=h n (List.mem_range.2 (by omega))
 rw [List.all_eq_true] at h'
 have h2:=h' a (List.mem_range.2 ha)
 rw [List.all_eq_true] at h2
 have h3:=h2 b (List.mem_range.2 hb)
 unfold B9m at h3
 rw [Bool.or_eq_true,decide_eq_true_eq] at h3
 have h4:=h3.resolve_left hab
 rw [Bool.and_eq_true,decide_eq_true_eq] at h4
 obtain ⟨e1,e2⟩:=h4
 have hp:=A6v e1
 refine ⟨(max ((a:Int) - b) (b - a)).toNat,by omega,by omega,e1,by rw [hp.plen];rfl,fun p hp2=>?_,?_,fun s=>hp.short s⟩
 ·split at e2
  ·rename_i q hq
   rw [hq] at hp2
   obtain rfl:q=p:=by simpa using hp2
   simp only [Bool.and_eq_true,decide_eq_true_eq] at e2
   obtain ⟨⟨g1,g2⟩,_⟩:=e2
   exact ⟨by rw [g1];congr 1;omega,g2⟩
  ·exact absurd e2 (by decide)
 ·split at e2
  ·simp only [Bool.and_eq_true,decide_eq_true_eq] at e2
   exact e2.2
  ·exact absurd e2 (by decide)
theorem B9a {p:F5} (h:∀ s:Int,(C6 p s).length≤96):∀ n,B97 p n≤96 * n
 |0=>Nat.zero_le _
 |n+1=>by rw [B9b];have:=B9a h n;have:=h (n:Int);omega
end Go.St
namespace Go.Proofs.Ytampcbncgofkoaa
open Go.RowKit Go.St
theorem B9p (w:World) (n:Int) (hn:I64 n) (a:Int) (ha:I64 a) (b:Int) (hb:I64 b):Calls Try.prog 8 #[.int .i64 n,.int .i64 a,.int .i64 b] w fun e w'=>e=.returned (.bool true)∧Below w.heap.size w w':=by
 go_enter Try.func8,Try.ntmps8
 go_wp2_with fail
 refine (B9f _).mono ?_
 rintro e w1 ⟨rfl,hB1⟩
 by_cases h2:n<2
 case pos=>
  go_wp2
  go_ret;exact ⟨rfl,hB1⟩
 by_cases h8:8<n
 case pos=>
  go_wp2
  go_ret;exact ⟨rfl,hB1⟩
 by_cases ha0:a<0
 case pos=>
  go_wp2
  go_ret;exact ⟨rfl,hB1⟩
 by_cases hb0:b<0
 case pos=>
  go_wp2
  go_ret;exact ⟨rfl,hB1⟩
 by_cases han:n≤a
 case pos=>
  go_wp2
  go_ret;exact ⟨rfl,hB1⟩
 by_cases hbn:n≤b
 case pos=>
  go_wp2
  go_ret;exact ⟨rfl,hB1⟩
 by_cases hab:a=b
 case pos=>
  have e1:(a==b)=true:=by rw [beq_iff_eq];exact hab
  clear hab
  go_wp2
  go_ret;exact ⟨rfl,hB1⟩
 have e1:(a==b)=false:=by rw [beq_eq_false_iff_ne];exact hab
 obtain ⟨N,rfl⟩:∃ N:Nat,n=(N:Int):=⟨n.toNat,by omega⟩
 obtain ⟨A,rfl⟩:∃ A:Nat,a=(A:Int):=⟨a.toNat,by omega⟩
 obtain ⟨B,rfl⟩:∃ B:Nat,b=(B:Int):=⟨b.toNat,by omega⟩
 obtain ⟨k,hk8,hOK⟩:=B9x (n:=N) (a:=A) (b:=B) (by omega) (by omega) (by omega) (by omega)
 have HA:=Lib.hid hOK
 have hw1:IntKind.i64.wrap ((A:Int) - (B:Int))=(A:Int) - (B:Int):=IntWalk.i64_in _ (by omega)
 have hw2:IntKind.i64.wrap ((B:Int) - (A:Int))=(B:Int) - (A:Int):=IntWalk.i64_in _ (by omega)
 have hw3:IntKind.i64.wrap ((k:Int)+1)=(k:Int)+1:=IntWalk.i64_in _ (by omega)
 have HL:=Lib.hid (fun w=>B9j N (by omega) w)
 have hA8:A≤8:=by omega
 have hB8:B≤8:=by omega
 have hN8:N≤8:=by omega
 clear hOK hab
 go_wp2_with fail
 refine (HL.out _).mono ?_
 rintro e w2 ⟨la,lc,rfl,hL2,hb2,hz2⟩
 have hB2:=hB1.trans (hb2.mono hB1.size)
 have hF:=I6 w2 28 #[.int .i64 (A:Int),.int .i64 (B:Int),.slice none 0 0,.slice none 0 0]
 have hbx:=G8 w2 (.cells #[.int .i64 (A:Int),.int .i64 (B:Int),.slice none 0 0,.slice none 0 0] 28)
 have hFr:=B9h hF (I64.small (by show -1000000000000≤(A:Int);omega) (by show (A:Int)≤1000000000000;omega)) (I64.small (by show -1000000000000≤(B:Int);omega) (by show (B:Int)≤1000000000000;omega))
 have HPL:=Lib.hid (B50 (H3 N) 1 (I64.small (by decide) (by decide)) [B98 A B] _ _ _ _ _ (w2.alloc (.cells #[.int .i64 (A:Int),.int .i64 (B:Int),.slice none 0 0,.slice none 0 0] 28)) (I5.below (B95 hN8 hL2) hbx) hFr)
 have hB3:=hB2.trans (hbx.mono hB2.size)
 generalize D2 (H3 N) 1 [B98 A B]=R at *
 obtain ⟨p,ee,ff⟩:=R
 have hee:=HA.out.err
 dsimp only at *
 subst hee
 clear hF hFr hbx hL2 hz2 hb2 hB2
 go_wp2_with fail
 refine HPL.out.mono ?_
 rintro e w4 ⟨pcs,rfl,hp4,hb4⟩
 have hB4:=hB3.trans (hb4.mono hB3.size)
 have hp5:=hp4
 obtain ⟨fa,fc,qa,qc,rfl,hIv,hfl,hps⟩:=hp4
 obtain ⟨pth,hpth⟩:∃ x,p.paths[0]? =some x:=⟨_,List.getElem?_eq_getElem (by rw [HA.out.len];decide)⟩
 obtain ⟨qg,qo,rfl,_,hqg,cs,⟨ta,tc,rfl,hpr⟩,hqe⟩:=hps.get hpth
 have u0:=hqe 0 _ rfl
 simp only [show (F7 C2).size=1 from rfl,Nat.zero_mul,Nat.add_zero] at u0
 have hp1:=HA.out.len
 rw [hp1] at hp5 ⊢
 have HC:=Lib.hid (HA.out.cost pth hpth)
 have hbx:Below w4.heap.size w4 ((w4.alloc (.cells #[.int .i64 p.ver,.slice fa p.flows.length fc,.slice (some ⟨qg,qo,none⟩) 1 qc] 32)).alloc (.cells #[.int .i64 0,.int .i64 ff] 35)):=A1t _ _ _
 have hP:A6 ((w4.alloc (.cells #[.int .i64 p.ver,.slice fa p.flows.length fc,.slice (some ⟨qg,qo,none⟩) 1 qc] 32)).alloc (.cells #[.int .i64 0,.int .i64 ff] 35)) w4.heap.size 32 #[.int .i64 p.ver,.slice fa p.flows.length fc,.slice (some ⟨qg,qo,none⟩) 1 qc]:=(A6.new rfl).alloc _
 have hG:A6 ((w4.alloc (.cells #[.int .i64 p.ver,.slice fa p.flows.length fc,.slice (some ⟨qg,qo,none⟩) 1 qc] 32)).alloc (.cells #[.int .i64 0,.int .i64 ff] 35)) (w4.heap.size+1) 35 #[.int .i64 0,.int .i64 ff]:=A6.new (by simp)
 have hB5:=hB4.trans (hbx.mono hB4.size)
 have hp6:=C3.below hp5 hbx
 have hpr6:=hpr.below hbx
 have v0:=cell_later hbx u0
 clear hp5 hps hqe hfl hp1 hbx hb4 HPL hpr u0 hpth
 go_upto_region 6 with fail
 generalize ((w4.alloc (.cells #[.int .i64 p.ver,.slice fa p.flows.length fc,.slice (some ⟨qg,qo,none⟩) 1 qc] 32)).alloc (.cells #[.int .i64 0,.int .i64 ff] 35))=w5 at *
 generalize w4.heap.size=pb at *
 obtain ⟨x1,x2⟩:=hP.cells
 obtain ⟨f1,f2⟩:=hG.cells
 have hpl:=hP.lt
 have hgl:=hG.lt
 have hmx:(if (A:Int) - (B:Int)<(B:Int) - (A:Int) then (B:Int) - (A:Int) else (A:Int) - (B:Int))=(k:Int):=by
  rw [←HA.out.max_,Int.max_def]
  split<;>split<;>omega
 go_upto_region 9 with fail
 try rw [hmx]
 clear hmx
 have hS1:SC [(⟨pb,2,none⟩,(.slice (some ⟨qg,qo,none⟩) 1 qc)),(⟨qg,qo,none⟩,(.slice ta pth.length tc))] w5:=⟨hP.cells.1 2,v0,trivial⟩
 have hS0:SC [(⟨pb,2,none⟩,(.slice (some ⟨qg,qo,none⟩) 1 qc)),(⟨qg,qo,none⟩,(.slice ta pth.length tc))] w5.drew:=hS1
 clear x1 x2 f1 f2
 refine B9 (SC [(⟨pb,2,none⟩,(.slice (some ⟨qg,qo,none⟩) 1 qc)),(⟨qg,qo,none⟩,(.slice ta pth.length tc))]) 99 (fun a0 a' w'=>∃ v66 v67 v68 v69 v70 v71 v72 v73 v74 v75,a'=C8 a0 [(66,v66),(67,v67),(68,v68),(69,v69),(70,v70),(71,v71),(72,v72),(73,v73),(74,v74),(75,v75),(10,.int .i64 (k:Int)),(11,.bool true)]∧Below w5.heap.size w5 w') (by kernel_rfl) ?_ ?_
 ·intro Q' hR hQp
  have hb0:Below w5.heap.size w5 w5.drew:=N4 _
  have hS:SC [(⟨pb,2,none⟩,(.slice (some ⟨qg,qo,none⟩) 1 qc)),(⟨qg,qo,none⟩,(.slice ta pth.length tc))] w5.drew:=hS0
  generalize w5.drew=wa at *
  refine A9 hQp hS [0,2,3,4,5] ?_
  iterate 5 (refine B2 _ rfl (by kernel_rfl) (A0 (by kernel_rfl) (by intro w0 hw0;have hw1:=hw0;simp only [SC] at hw1;first|(go_simp;done)|(go_simp;rfl))) ?_;simp only [Act.put,St.tA,St.tD,St.tE,St.tS,St.tC,St.tZ])
  refine B3 ?_
  clear hS
  refine A7 (i:=1) rfl (by kernel_rfl) (by kernel_rfl) fun K1 hK1=>?_
  go_simp
  go_wp2_with fail
  refine (HL.out wa).mono ?_
  rintro e wb ⟨la9,lc9,rfl,hL9,hb1,_⟩
  have hb2:=hb0.trans (hb1.mono hb0.size)
  go_wp2_with fail
  have hS:_:=SC.later hb2 hS1
  refine hK1 _ _ (fun _=>hS) ?_
  clear hK1
  clear hS
  refine A7 (i:=6) rfl (by kernel_rfl) (by kernel_rfl) fun K6 hK6=>?_
  go_simp
  go_wp2_with fail
  refine (B9v (H3 N) pth _ _ _ _ _ wb (B95 hN8 hL9) (hpr6.below hb2)).mono ?_
  rintro e wc9 ⟨rfl,hb3⟩
  rw [HC.out.1]
  have hb4:=hb2.trans (hb3.mono hb2.size)
  go_wp2_with fail
  have hS:_:=SC.later hb4 hS1
  refine hK6 _ _ (fun _=>hS) ?_
  clear hK6
  refine A9 hQp hS [7,8,9,10,11] ?_
  iterate 5 (refine B2 _ rfl (by kernel_rfl) (A0 (by kernel_rfl) (by intro w0 hw0;have hw1:=hw0;simp only [SC] at hw1;first|(go_simp;done)|(go_simp;rfl))) ?_;simp only [Act.put,St.tA,St.tD,St.tE,St.tS,St.tC,St.tZ])
  refine B3 ?_
  refine B5 (by kernel_rfl) ?_ _
  refine hR _ _ ?_
  iterate 10 apply Exists.intro
  refine ⟨?_,hb4⟩
  simp only [C8,Act.put,St.tS,St.tC,St.tZ]
  rfl
 rintro a' w8 ⟨v66,v67,v68,v69,v70,v71,v72,v73,v74,v75,rfl,hb8⟩
 simp only [C8,Act.put,St.tS,St.tC,St.tZ]
 rename World=>w6
 have hB6:=hB5.trans (hb8.mono hB5.size)
 have hP6:=hP.under hb8
 have hp7:=C3.below hp6 hb8
 have hv6:=cell_later hb8 v0
 have hpl1:=HA.out.len
 have HOF:=Lib.hid (B5d p N _ _ w6 hp7 (by omega) (fun s=>by have:=HA.out.each (s:Int);dsimp only at this;omega) (by dsimp only at hpl1;omega))
 obtain ⟨x1,x2⟩:=hP6.cells
 have hxl:=hP6.lt
 clear hS0 hS1 hB5 hP hG hp6 hp7 hpl1 hb8 v0
 go_wp2_with fail
 refine HOF.out.mono ?_
 rintro e w7 ⟨ob,f,rfl,hob,hTab,hb7⟩
 have hB7:=hB6.trans (hb7.mono hB6.size)
 have hP7:=hP6.under hb7
 have hv7:=cell_later hb7 hv6
 have hsl:=B9a HA.out.each N
 clear x1 x2 hB6 hP6 hv6 hb7 HOF
 go_wp2
 go_loopw [12,80] (fun sv idx wr=>∃ (i s:Nat),sv=.int .i64 (s:Int)∧idx=.int .i64 i∧i≤N∧Hid (s=B97 p i)∧s≤1000∧Below w7.heap.size w7 wr) (fun _ idx _=>N - (intOf idx).toNat)
 case atStart=>exact ⟨0,0,rfl,rfl,Nat.zero_le _,Lib.hid rfl,Nat.zero_le _,Below.refl _ _⟩
 case round=>
  obtain ⟨i,s,rfl,rfl,hi,HS,hs,hb⟩:=hrel
  rename World=>wo
  have hBo:=hB7.trans (hb.mono hB7.size)
  by_cases hlt:i<N
  case pos=>
   have c1:(i:Int)<(N:Int):=by omega
   have c0:(0:Int)≤(i:Int):=by omega
   have u0:=(hTab.under hb).cell hlt
   have hs1:=B9b p i
   have hle:=B9a HA.out.each (i+1)
   have he96:=HA.out.each (i:Int)
   dsimp only at hle he96
   have HS2:Hid (s+(C6 p (i:Int)).length=B97 p (i+1)):=Lib.hid (by rw [hs1,←HS.out])
   have hs2:s+(C6 p (i:Int)).length≤1000:=by rw [HS2.out];omega
   have hw9:IntKind.i64.wrap ((s:Int)+((C6 p (i:Int)).length:Int))=(s:Int)+((C6 p (i:Int)).length:Int):=IntWalk.i64_in _ (by omega)
   clear hs1 hle he96 HS
   go_wp2
   case roundEnd=>
    go_roundw
    case rel=>exact ⟨i+1,s+(C6 p (i:Int)).length,by first|rfl|(rw [hw9];simp)|simp,by go_num,by omega,HS2,hs2,hb⟩
    case measure=>simp [intOf]<;>omega
  have c1:¬(i:Int)<(N:Int):=by omega
  obtain rfl:i=N:=by omega
  have hsk:s=k:=by rw [HS.out];exact HA.out.sum
  subst hsk
  have hPo:=hP7.under hb
  have u0:=cell_later hb hv7
  obtain ⟨x1,x2⟩:=hPo.cells
  have hxl:=hPo.lt
  have k1:((pth.length:Int)==(s:Int)+1)=true:=by rw [HC.out.2];simp
  clear HS
  go_wp2
  go_ret;exact ⟨rfl,hBo⟩
end Go.Proofs.Ytampcbncgofkoaa
