/- Texts of this proof, one behind the other. -/
import Derived.Test.YtampcbncgofkoaaPk42
set_option linter.unusedSimpArgs false
set_option linter.unusedVariables false
set_option maxRecDepth 100000
set_option maxHeartbeats 16000000
namespace Go.St
open Go.RowKit
structure C00 (n b c:Nat):Prop where
 e1:(I1 (B94 n) ⟨0,(b:Int),[],[(c:Int)]⟩).2=0
 l1:(I1 (B94 n) ⟨0,(b:Int),[],[(c:Int)]⟩).1.length=n - b+1
 x1:(I1 (B94 n) ⟨0,(b:Int),[],[(c:Int)]⟩).1[1]? =some ((n:Int) - 1)
 e2:(I1 (B94 n) ⟨0,(b:Int),[(c:Int)],[]⟩).2=0
 l2:(I1 (B94 n) ⟨0,(b:Int),[(c:Int)],[]⟩).1.length=b+1
 x2:(I1 (B94 n) ⟨0,(b:Int),[(c:Int)],[]⟩).1[1]? =some 1
theorem C01 {n b c:Nat} (h4:4≤n) (h8:n≤8) (h2:2≤b) (hb:b<n - 1) (h1:1≤c) (hc:c<b):C00 n b c:=by
 have h:=B9o
 rw [List.all_eq_true] at h
 have h':=h n (List.mem_range.2 (by omega))
 rw [Bool.or_eq_true,decide_eq_true_eq,List.all_eq_true] at h'
 have h3:=h'.resolve_left (by omega) b (List.mem_range.2 (by omega))
 rw [Bool.or_eq_true,decide_eq_true_eq,List.all_eq_true] at h3
 have h5:=h3.resolve_left (by omega) c (List.mem_range.2 hc)
 rw [Bool.or_eq_true,decide_eq_true_eq] at h5
 have h6:=h5.resolve_left (by omega)
 unfold B9e at h6
 simp only [Bool.and_eq_true,decide_eq_true_eq] at h6
 obtain ⟨⟨⟨a1,a2⟩,a3⟩,⟨a4,a5⟩,a6⟩:=h6
 exact ⟨a1,a2,a3,a4,a5,a6⟩
theorem B9u (n:Nat) (h:1≤n):(B94 n).links.length=n:=by simp [B94,H3];omega
theorem B9k {w:World} {b:Nat} {e:TypeId} {x:Int} (h:A6 w b e #[.int .i64 x]) (hx:I64 x):A8 C2 (fun k=>k=b) w (some ⟨b,0,none⟩) 1 [x]:=by
  refine ⟨Nat.le_refl _,by decide,.inr ⟨b,0,rfl,rfl,h.lt,fun i z hz=>?_⟩⟩
  match i,hz with
  |0,hz=>
    obtain rfl:_=z:=by simpa using hz
    refine ⟨_,⟨rfl,hx⟩,fun j c hj=>?_⟩
    simp only [Nat.zero_mul,Nat.zero_add]
    rw [h.cells.1 j]
    simpa using hj
  |i+1,hz=>simp at hz
end Go.St
namespace Go.Proofs.Ytampcbncgofkoaa
open Go.RowKit Go.St
theorem B9i (w:World) (n:Int) (hn:I64 n) (b:Int) (hb:I64 b) (c:Int) (hc:I64 c):Calls Try.prog 6 #[.int .i64 n,.int .i64 b,.int .i64 c] w fun e w'=>e=.returned (.bool true)∧Below w.heap.size w w':=by
 obtain ⟨i0,gi,gz0,gz1,gz2⟩:=info_parts B99
 go_enter Try.func6,Try.ntmps6
 go_wp2_with fail
 refine (B9f _).mono ?_
 rintro e w1 ⟨rfl,hB1⟩
 by_cases h4:n<4
 case pos=>
  go_wp2
  go_ret;exact ⟨rfl,hB1⟩
 by_cases h8:8<n
 case pos=>
  go_wp2
  go_ret;exact ⟨rfl,hB1⟩
 by_cases h2:b<2
 case pos=>
  go_wp2
  go_ret;exact ⟨rfl,hB1⟩
 obtain ⟨N,rfl⟩:∃ N:Nat,n=(N:Int):=⟨n.toNat,by omega⟩
 have hw1:IntKind.i64.wrap ((N:Int) - 1)=(N:Int) - 1:=IntWalk.i64_in _ (by omega)
 by_cases hbn:(N:Int) - 1≤b
 case pos=>
  go_wp2
  go_ret;exact ⟨rfl,hB1⟩
 by_cases hc1:c<1
 case pos=>
  go_wp2
  go_ret;exact ⟨rfl,hB1⟩
 by_cases hcb:b≤c
 case pos=>
  go_wp2
  go_ret;exact ⟨rfl,hB1⟩
 obtain ⟨M,rfl⟩:∃ M:Nat,b=(M:Int):=⟨b.toNat,by omega⟩
 obtain ⟨C,rfl⟩:∃ C:Nat,c=(C:Int):=⟨c.toNat,by omega⟩
 have HA:=Lib.hid (C01 (n:=N) (b:=M) (c:=C) (by omega) (by omega) (by omega) (by omega) (by omega) (by omega))
 obtain ⟨K,hK⟩:∃ K,N - 1=K:=⟨_,rfl⟩
 have hL0:=B9j N (by omega) w1
 rw [hK] at hL0
 have HL:=Lib.hid hL0
 have HK:=Lib.hid hK
 have hN4:4≤N:=by omega
 have hN8:N≤8:=by omega
 have hM2:2≤M:=by omega
 have hMN:M+1<N:=by omega
 have hC1:1≤C:=by omega
 have hCM:C<M:=by omega
 have hw2:IntKind.i64.wrap ((N:Int) - (M:Int))=(N:Int) - (M:Int):=IntWalk.i64_in _ (by omega)
 have hw3:IntKind.i64.wrap ((N:Int) - (M:Int)+1)=(N:Int) - (M:Int)+1:=IntWalk.i64_in _ (by omega)
 have hw4:IntKind.i64.wrap ((M:Int)+1)=(M:Int)+1:=IntWalk.i64_in _ (by omega)
 have hKN:K+1=N:=by omega
 have hK8:K≤8:=by omega
 have HKN:=Lib.hid hKN
 clear hL0 hK hKN
 go_wp2_with fail
 refine HL.out.mono ?_
 rintro e w2 ⟨la,lc,rfl,hL2,hb2,hz2⟩
 have hB2:=hB1.trans (hb2.mono hB1.size)
 have hbx:Below w2.heap.size w2 ((w2.alloc (.cells #[.int .i64 (N:Int),.slice la K lc] 24)).alloc (.cells #[.int .i64 ((N:Int) - 1),.int .i64 0,.int .i64 1] 67)):=A1t _ _ _
 have hT3:A6 ((w2.alloc (.cells #[.int .i64 (N:Int),.slice la K lc] 24)).alloc (.cells #[.int .i64 ((N:Int) - 1),.int .i64 0,.int .i64 1] 67)) w2.heap.size 24 #[.int .i64 (N:Int),.slice la K lc]:=(A6.new rfl).alloc _
 have hE:A6 ((w2.alloc (.cells #[.int .i64 (N:Int),.slice la K lc] 24)).alloc (.cells #[.int .i64 ((N:Int) - 1),.int .i64 0,.int .i64 1] 67)) (w2.heap.size+1) 67 #[.int .i64 ((N:Int) - 1),.int .i64 0,.int .i64 1]:=A6.new (by simp)
 have hO3:=hL2.below hbx
 have hB3:=hB2.trans (hbx.mono hB2.size)
 have hz3:w1.heap.size+2≤(((w2.alloc (.cells #[.int .i64 (N:Int),.slice la K lc] 24)).alloc (.cells #[.int .i64 ((N:Int) - 1),.int .i64 0,.int .i64 1] 67))).heap.size:=Nat.le_trans hz2 hbx.size
 have hz31:(((w2.alloc (.cells #[.int .i64 (N:Int),.slice la K lc] 24)).alloc (.cells #[.int .i64 ((N:Int) - 1),.int .i64 0,.int .i64 1] 67))).heap.size=w2.heap.size+2:=by simp
 have hla:∀ k,Go.St.blk la=some k→k<w2.heap.size:=fun k hk=>(hL2.lt k hk).2
 have hsrc:=B9l (sh:=A0e) (ok:=fun _=>False) (x:=⟨(N:Int) - 1,0,1⟩) hE ⟨rfl,I64.small (by show -1000000000000≤(N:Int) - 1;omega) (by show (N:Int) - 1≤1000000000000;omega),I64.small (n:=0) (by decide) (by decide),I64.small (n:=1) (by decide) (by decide)⟩
 clear hbx hE hB2 hb2 hL2
 go_upto_region 7 with (at_builtin;go_must (refine H4 (sh:=A0e) (n:=K) (m:=1) rfl _ _ 22 rfl 67 i0 (.agg #[.int .i64 0,.int .i64 0,.int .i64 0]) 24 Try.underlying22 gi gz0 gz1 gz2 rfl (by decide) rfl hO3 rfl rfl hsrc (by simp only [maxLen];omega) (by omega) hz3 ?_);go_must (intro la5 lc5 w5 hO5 hg5 hd5;have hT5:=hT3.grown hg5 (fun e=>by have:=hla _ e.symm;omega);obtain ⟨q1,q2⟩:=hT5.cells;have hql:=hT5.lt))
 have hb5:Below (w1.heap.size+2) _ w5:=D6 hg5 (fun k hk=>(hO3.lt k hk).1) hz3
 have hT6:=hT5.set 1 (.slice la5 (K+1) lc5)
 simp only [St.tS,St.tC,St.tZ] at hT6
 have hO6:C7 A0e 67 (fun _=>False) (w1.heap.size+2) (w5.setCell ⟨w2.heap.size,1,none⟩ (.slice la5 (K+1) lc5)) la5 (K+1) lc5 ((H3 N).links++[⟨(N:Int) - 1,0,1⟩]):=hO5.keep (by simp) (fun k hk=>by
  rcases hk with hk|hk
  ·refine (Frm.set (w:=w5) (W:=fun x=>x≠w2.heap.size) (B:=0) (a:=⟨w2.heap.size,1,none⟩) (fun h=>h rfl) (Nat.zero_le _) _).keep k (hO5.lt k hk).2 (fun e=>?_)
   rcases hd5 with h9|h9
   ·rw [h9] at hk;have:=hla k hk;omega
   ·rw [h9] at hk
    have h10:_=k:=(by simpa using hk)
    omega
  ·exact hk.elim)
 have hB6:Below w.heap.size w (w5.setCell ⟨w2.heap.size,1,none⟩ (.slice la5 (K+1) lc5)):=(hB3.trans (hb5.mono (by have:=hB1.size;omega))).setCell (p:=⟨w2.heap.size,1,none⟩) (by show w.heap.size≤w2.heap.size;have:=hB1.size;omega) _
 have hlr:(H3 N).links++[⟨(N:Int) - 1,0,1⟩]=(B94 N).links:=rfl
 rw [hlr] at hO6
 have hR6:I5.rep (fun _=>True) (w5.setCell ⟨w2.heap.size,1,none⟩ (.slice la5 (K+1) lc5)) [.int .i64 (N:Int),.slice la5 (K+1) lc5] (B94 N):=⟨la5,lc5,by rw [B9u N (by omega),HKN.out];rfl,I64.small (by show -1000000000000≤(N:Int);omega) (by show (N:Int)≤1000000000000;omega),hO6.row (fun _ h=>h.elim) (fun _ _=>trivial)⟩
 clear hT3 hT5 hO3 hO5 hO6 hb5 hB3 hg5 hd5 hsrc hz3 hz31 hla q1 q2 hql hlr HL hz2
 generalize w5.setCell ⟨w2.heap.size,1,none⟩ (.slice la5 (K+1) lc5)=w6 at *
 generalize w2.heap.size=tb at *
 obtain ⟨q1,q2⟩:=hT6.cells
 have hql:=hT6.lt
 have hbx:=G8 w6 (.cells #[.int .i64 (C:Int)] 3)
 have hI:=I6 w6 3 #[.int .i64 (C:Int)]
 have hIr:=B9k hI (I64.small (by show -1000000000000≤(C:Int);omega) (by show (C:Int)≤1000000000000;omega))
 have HF:=Lib.hid (B9r (B94 N) ⟨0,(M:Int),[],[(C:Int)]⟩ _ [.int .i64 0,.int .i64 (M:Int),.slice none 0 0,.slice (some ⟨w6.heap.size,0,none⟩) 1 1] _ _ (w6.alloc (.cells #[.int .i64 (C:Int)] 3)) (I5.below hR6 hbx) ⟨_,_,_,_,rfl,I64.small (n:=0) (by decide) (by decide),I64.small (by show -1000000000000≤(M:Int);omega) (by show (M:Int)≤1000000000000;omega),A8.nil _ _ _ _,hIr⟩)
 have hxx:=HA.out.x1
 have hll:=HA.out.l1
 have hee:=HA.out.e1
 generalize I1 (B94 N) ⟨0,(M:Int),[],[(C:Int)]⟩=R at *
 obtain ⟨P,e9⟩:=R
 dsimp only at *
 subst hee
 clear hI hIr
 go_wp2_with fail
 refine HF.out.mono ?_
 rintro e w7 ⟨pa,pc,rfl,hPP,hbf⟩
 have hx1:=hxx
 have hl1:=hll
 have hB7:=hB6.trans ((hbx.trans (hbf.mono hbx.size)).mono hB6.size)
 have hT7:=(hT6.under hbx).under hbf
 have hRb:=hbx.trans (hbf.mono hbx.size)
 have hP7:=hPP
 clear hxx hll hT6 hB6 hbx hbf HF q1 q2 hql hPP
 obtain ⟨q1,q2⟩:=hT7.cells
 have hql:=hT7.lt
 have hbx:=G8 w7 (.cells #[.int .i64 (C:Int)] 3)
 have hI:=I6 w7 3 #[.int .i64 (C:Int)]
 have hIr:=B9k hI (I64.small (by show -1000000000000≤(C:Int);omega) (by show (C:Int)≤1000000000000;omega))
 have HF:=Lib.hid (B9r (B94 N) ⟨0,(M:Int),[(C:Int)],[]⟩ _ [.int .i64 0,.int .i64 (M:Int),.slice (some ⟨w7.heap.size,0,none⟩) 1 1,.slice none 0 0] _ _ (w7.alloc (.cells #[.int .i64 (C:Int)] 3)) (I5.below hR6 (hRb.trans (hbx.mono hRb.size))) ⟨_,_,_,_,rfl,I64.small (n:=0) (by decide) (by decide),I64.small (by show -1000000000000≤(M:Int);omega) (by show (M:Int)≤1000000000000;omega),hIr,A8.nil _ _ _ _⟩)
 have hxx:=HA.out.x2
 have hll:=HA.out.l2
 have hee:=HA.out.e2
 generalize I1 (B94 N) ⟨0,(M:Int),[(C:Int)],[]⟩=R at *
 obtain ⟨Q,e9⟩:=R
 dsimp only at *
 subst hee
 clear hI hIr
 go_wp2_with fail
 refine HF.out.mono ?_
 rintro e w8 ⟨pa,pc,rfl,hPP,hbf⟩
 have hx2:=hxx
 have hl2:=hll
 have hB9:=hB7.trans ((hbx.trans (hbf.mono hbx.size)).mono hB7.size)
 have hP9:=(hP7.below hbx).below hbf
 have hQ9:=hPP
 clear hxx hll hT7 hB7 hbx hbf HF q1 q2 hql hPP hP7 hRb hR6
 obtain ⟨pg,po,rfl,_,_,cs,⟨rfl,_⟩,hpe⟩:=hP9.get (i:=1) hx1
 obtain ⟨qg,qo,rfl,_,_,cs,⟨rfl,_⟩,hqe⟩:=hQ9.get (i:=1) hx2
 have u1:=hpe 0 _ rfl
 have u2:=hqe 0 _ rfl
 simp only [show C2.size=1 from rfl,Nat.add_zero,Nat.mul_one] at u1 u2
 have k1:((P.length:Int)==(N:Int) - (M:Int)+1)=true:=by rw [beq_iff_eq];omega
 have k2:((Q.length:Int)==(M:Int)+1)=true:=by rw [beq_iff_eq];omega
 have k3:(1:Int)<(P.length:Int):=by omega
 have k4:(1:Int)<(Q.length:Int):=by omega
 have hpl:=hP9.len_le
 have hq9:=hQ9.len_le
 clear hpe hqe hx1 hx2 hl1 hl2 hP9 hQ9
 go_wp2
 go_ret;exact ⟨rfl,hB9⟩
end Go.Proofs.Ytampcbncgofkoaa
