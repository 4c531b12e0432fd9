/- Texts of this proof, one behind the other. -/
import Derived.Test.YtpfmolaebloipaaPk17
set_option linter.unusedSimpArgs false
set_option linter.unusedVariables false
set_option maxRecDepth 100000
set_option maxHeartbeats 16000000
namespace Go.Proofs.Ytpfmolaebloipaa
open Go.RowKit Go.St
theorem A3j (t:C5) (p:List Int) (cs:List Value) (ok ok':Nat→Prop) (pa:Option Addr) (pc:Nat) (w:World) (h:I5.rep ok w cs t) (hp:A8 C2 ok' w pa pc p):
  Calls Try.prog 28 #[.agg cs.toArray,.slice pa p.length pc] w fun e w'=>e=.returned (.tuple #[.int .i64 (S6 t p).1,.bool (S6 t p).2])∧Below w.heap.size w w':=by
 have hT:=h
 obtain ⟨la,lc,rfl,hn,hr⟩:=h
 have hlx:=hp.len_le
 have hcx:=hp.1
 have hst:Hid (S6 t p=E7 t (p.take 0) 0 (p.drop 0)):=rfl
 generalize S6 t p=c at *
 go_enter Try.func28,Try.ntmps28
 go_wp2
 go_loopw [6,7,8,9,12] (fun a _ _ _ i wr=>∃ (j:Nat) (acc:Int),j≤p.length∧a=.int .i64 acc∧i=.int .i64 j∧Hid (c=E7 t (p.take j) acc (p.drop j))∧Below w.heap.size w wr∧A6 wr w.heap.size 24 #[.int .i64 t.n,.slice la t.links.length lc]) (fun _ _ _ _ i _=>p.length - (intOf i).toNat)
 case atStart=>exact ⟨0,0,Nat.zero_le _,rfl,rfl,hst,by (repeat' (first|with_reducible (first|exact Below.refl _ _|assumption|refine Below.drew ?_|refine A3 ?_ _|refine Below.alloc ?_ ?_ _|refine Below.setCell ?_ ?_ _)|omega|(simp;done)|(simp;omega))),A6.new rfl⟩
 case round=>
  obtain ⟨j,acc,hj,rfl,rfl,hall,hb,hB⟩:=hrel
  obtain ⟨r1,r2⟩:=hB.cells
  have hz:=hB.lt
  by_cases hlt:j<p.length
  case neg=>
   have HE:=Lib.hid (B3s hlt hall.out)
   have b1:¬(j:Int)<(p.length:Int):=by omega
   clear hall
   go_wp2
   go_ret2
   rw [HE.out]
   exact ⟨by simp,by (repeat' (first|with_reducible (first|exact Below.refl _ _|assumption|refine Below.drew ?_|refine A3 ?_ _|refine Below.alloc ?_ ?_ _|refine Below.setCell ?_ ?_ _)|omega|(simp;done)|(simp;omega)))⟩
  obtain ⟨pb,po,rfl,_,hpb,cs,hcs,hce⟩:=hp.get (List.getElem?_eq_getElem hlt)
  obtain ⟨rfl,_⟩:=hcs
  have e0:=B8 hb hpb (hce 0 _ rfl)
  clear hce
  simp only [C2,Nat.add_zero,Nat.mul_one] at e0
  have b0:(0:Int)≤(j:Int):=by omega
  have b1:(j:Int)<(p.length:Int):=by omega
  have hcell:∀ (m:Nat) (hm:m<p.length),wr.cell? ⟨pb,po+m,none⟩=some (.int .i64 p[m]):=by
   intro m hm
   obtain ⟨pb',po',hbo,_,_,cs',⟨rfl,_⟩,hce⟩:=hp.get (List.getElem?_eq_getElem hm)
   obtain ⟨rfl,rfl⟩:pb=pb'∧po=po':=by simpa using hbo
   have:=B8 hb hpb (hce 0 _ rfl)
   simpa only [C2,Nat.add_zero,Nat.mul_one] using this
  have HCE:=Lib.hid hcell
  clear hcell
  have g1:=B4a (c:=c) hlt hall.out
  by_cases p1:p[j]<0
  ·have HH:=Lib.hid (g1 (.inl p1))
   clear g1 hall
   generalize p[j]=s at *
   go_wp2
   go_ret2
   rw [HH.out]
   exact ⟨rfl,by (repeat' (first|with_reducible (first|exact Below.refl _ _|assumption|refine Below.drew ?_|refine A3 ?_ _|refine Below.alloc ?_ ?_ _|refine Below.setCell ?_ ?_ _)|omega|(simp;done)|(simp;omega)))⟩
  by_cases p2:t.n≤p[j]
  ·have HH:=Lib.hid (g1 (.inr (.inl p2)))
   clear g1 hall
   generalize p[j]=s at *
   go_wp2
   go_ret2
   rw [HH.out]
   exact ⟨rfl,by (repeat' (first|with_reducible (first|exact Below.refl _ _|assumption|refine Below.drew ?_|refine A3 ?_ _|refine Below.alloc ?_ ?_ _|refine Below.setCell ?_ ?_ _)|omega|(simp;done)|(simp;omega)))⟩
  have HB:=Lib.hid (fun h3=>g1 (.inr (.inr h3)))
  have HN:Hid (p[j] ∉ p.take j→¬(p[j]<0∨t.n≤p[j]∨p[j]∈p.take j)):=fun p3=>by simp only [not_or];exact ⟨p1,p2,p3⟩
  have HF:Hid (∀ h0:j=0,p[j] ∉ p.take j→c=E7 t (p.take 1) acc (p.drop 1)):=by
   intro h0 p3
   have hh:=HN.out p3
   subst h0
   exact B1o hlt hall.out hh
  have H2:Hid (∀ hj1:0<j,p[j] ∉ p.take j→E9 t (p[j - 1]'(by omega)) p[j]=0→c=(0,false)):=fun hj1 p3 h=>A9u hj1 hlt hall.out (HN.out p3) h
  have H3:Hid (∀ hj1:0<j,p[j] ∉ p.take j→¬E9 t (p[j - 1]'(by omega)) p[j]=0→c=E7 t (p.take (j+1)) (IntKind.i64.wrap (acc+E9 t (p[j - 1]'(by omega)) p[j])) (p.drop (j+1))):=fun hj1 p3 h=>by
   exact B4u hj1 hlt hall.out (HN.out p3) h
  clear g1 hall HN
  have HS:Hid (∃ s,s=p[j]):=⟨_,rfl⟩
  obtain ⟨s,hs⟩:=HS.out
  rw [←hs] at p1 p2 e0
  have HX:=Lib.hid hs
  clear HS hs
  go_wp2
  go_loop [9] (fun k=>∃ m:Nat,m≤j∧k=.int .i64 m∧Hid (s ∉ p.take m)) (fun k=>j - (intOf k).toNat)
  case atStart=>exact ⟨0,Nat.zero_le _,rfl,by show s ∉ _;simp⟩
  case round=>
   obtain ⟨m,hm,rfl,hnot⟩:=hrel
   by_cases hmj:m<j
   ·have em:=HCE.out m (by omega)
    have hgo:=A3u hnot.out (show m<p.length by omega)
    have hin:(s==p[m])=true→s∈p.take j:=fun h=>by
     rw [beq_iff_eq] at h
     rw [h]
     exact List.mem_take_iff_getElem.2 ⟨m,by omega,rfl⟩
    rw [show (s==p[m])=(p[m]==s) from BEq.comm] at hgo hin
    generalize p[m]=y at *
    have m0:(0:Int)≤(m:Int):=by omega
    have m1:(m:Int)<(p.length:Int):=by omega
    have m2:(m:Int)<(j:Int):=by omega
    cases q1:(y==s)
    ·have HG:=Lib.hid (hgo q1)
     clear hgo hin
     go_wp2
     go_round
     case rel=>exact ⟨m+1,by omega,by go_num,HG⟩
     case measure=>simp [intOf];omega
    ·have HH:=Lib.hid (HB.out (HX.out▸hin q1))
     clear hgo hin
     go_wp2
     go_ret2
     rw [HH.out]
     exact ⟨rfl,by (repeat' (first|with_reducible (first|exact Below.refl _ _|assumption|refine Below.drew ?_|refine A3 ?_ _|refine Below.alloc ?_ ?_ _|refine Below.setCell ?_ ?_ _)|omega|(simp;done)|(simp;omega)))⟩
   have hmj':m=j:=by omega
   have p3:p[j] ∉ p.take j:=by have:=hnot.out;rw [hmj',HX.out] at this;exact this
   have m2:¬(m:Int)<(j:Int):=by omega
   clear hnot HB hmj'
   by_cases hj0:j=0
   ·have HH:=Lib.hid (HF.out hj0 p3)
    have d1:¬(0:Int)<(j:Int):=by omega
    have d1':decide ((0:Int)<(j:Int))=false:=decide_eq_false d1
    clear HF H2 H3 p3 HCE HX
    go_wp2
    go_quiet (fail)
    go_wp2
    case roundEnd=>
     go_roundw
     case rel=>exact ⟨1,acc,by omega,rfl,by go_num,HH,by (repeat' (first|with_reducible (first|exact Below.refl _ _|assumption|refine Below.drew ?_|refine A3 ?_ _|refine Below.alloc ?_ ?_ _|refine Below.setCell ?_ ?_ _)|omega|(simp;done)|(simp;omega))),hB.drewN _⟩
     case measure=>simp [intOf];omega
   have hj1:0<j:=by omega
   have h2:=H2.out hj1 p3
   have h3:=H3.out hj1 p3
   rw [←HX.out] at h2 h3
   have e1:=HCE.out (j - 1) (by omega)
   clear HF H2 H3 p3 HCE HX
   generalize p[j - 1]=q at *
   have d1:(0:Int)<(j:Int):=by omega
   have d2:IntKind.i64.wrap ((j:Int) - 1)=((j - 1:Nat):Int):=by rw [IntWalk.i64_in _ (by omega)];omega
   have d3:(0:Int)≤((j - 1:Nat):Int):=by omega
   have d4:((j - 1:Nat):Int)<(p.length:Int):=by omega
   have d5:(((j - 1:Nat):Int)).toNat=j - 1:=by omega
   have hcost:=fun w' (hw':Below wr.heap.size wr w')=>B0n t [.int .i64 t.n,.slice la t.links.length lc] ok q s w' ⟨la,lc,rfl,hn,(hr.below hb).below hw'⟩
   have hpbz:pb<wr.heap.size:=by have:=hb.size;omega
   have hT0:SL w.heap.size pb (po+(j - 1)) t.n la t.links.length lc q wr.drew:=⟨r1 0,r1 1,e1⟩
   go_wp2
   refine A0v (SL w.heap.size pb (po+(j - 1)) t.n la t.links.length lc q) 99 (by kernel_rfl) ?_
   have hS:=hT0
   refine B0 (i:=0) (.int .i64 j) rfl (by kernel_rfl) (fun _ _ _ h=>h) hS (A0 (by kernel_rfl) (by intro w0 hw0;have hw1:=hw0;simp only [SL] at hw1;go_simp)) ?_;simp only [Act.put,St.tS,St.tC,St.tZ]
   refine B0 (i:=1) (.bool true) rfl (by kernel_rfl) (fun _ _ _ h=>h) hS (A0 (by kernel_rfl) (by intro w0 hw0;have hw1:=hw0;simp only [SL] at hw1;go_simp)) ?_;simp only [Act.put,St.tS,St.tC,St.tZ]
   refine B0 (i:=2) (.bool true) rfl (by kernel_rfl) (fun _ _ _ h=>h) hS (A0 (by kernel_rfl) (by intro w0 hw0;have hw1:=hw0;simp only [SL] at hw1;go_simp)) ?_;simp only [Act.put,St.tS,St.tC,St.tZ]
   refine B0 (i:=3) (.agg #[.int .i64 t.n,.slice la t.links.length lc]) rfl (by kernel_rfl) (fun _ _ _ h=>h) hS (A0 (by kernel_rfl) (by intro w0 hw0;have hw1:=hw0;simp only [SL] at hw1;go_simp)) ?_;simp only [Act.put,St.tS,St.tC,St.tZ]
   refine B0 (i:=4) (.slice (some ⟨pb,po,none⟩) p.length pc) rfl (by kernel_rfl) (fun _ _ _ h=>h) hS (A0 (by kernel_rfl) (by intro w0 hw0;have hw1:=hw0;simp only [SL] at hw1;go_simp)) ?_;simp only [Act.put,St.tS,St.tC,St.tZ]
   refine B0 (i:=5) (.int .i64 j) rfl (by kernel_rfl) (fun _ _ _ h=>h) hS (A0 (by kernel_rfl) (by intro w0 hw0;have hw1:=hw0;simp only [SL] at hw1;go_simp)) ?_;simp only [Act.put,St.tS,St.tC,St.tZ]
   refine B0 (i:=6) (.int .i64 ((j - 1:Nat):Int)) rfl (by kernel_rfl) (fun _ _ _ h=>h) hS (A0 (by kernel_rfl) (by intro w0 hw0;have hw1:=hw0;simp only [SL] at hw1;go_simp)) ?_;simp only [Act.put,St.tS,St.tC,St.tZ]
   refine B0 (i:=7) (.pointer (some ⟨pb,po+(j - 1),none⟩)) rfl (by kernel_rfl) (fun _ _ _ h=>h) hS (A0 (by kernel_rfl) (by intro w0 hw0;have hw1:=hw0;simp only [SL] at hw1;go_simp)) ?_;simp only [Act.put,St.tS,St.tC,St.tZ]
   refine B0 (i:=8) (.int .i64 q) rfl (by kernel_rfl) (fun _ _ _ h=>h) hS (A0 (by kernel_rfl) (by intro w0 hw0;have hw1:=hw0;simp only [SL] at hw1;go_simp)) ?_;simp only [Act.put,St.tS,St.tC,St.tZ]
   refine B0 (i:=9) (.int .i64 s) rfl (by kernel_rfl) (fun _ _ _ h=>h) hS (A0 (by kernel_rfl) (by intro w0 hw0;have hw1:=hw0;simp only [SL] at hw1;go_simp)) ?_;simp only [Act.put,St.tS,St.tC,St.tZ]
   refine A7 (i:=10) rfl (by kernel_rfl) (by kernel_rfl) fun K7 hK7=>?_
   go_simp
   go_wp2_with fail
   refine (hcost _ (by (repeat' (first|with_reducible (first|exact Below.refl _ _|assumption|refine Below.drew ?_|refine A3 ?_ _|refine Below.alloc ?_ ?_ _|refine Below.setCell ?_ ?_ _)|omega|(simp;done)|(simp;omega))))).mono ?_
   rintro e w2 ⟨rfl,hb2⟩
   have hb12:Below wr.heap.size wr w2:=Below.trans (by (repeat' (first|with_reducible (first|exact Below.refl _ _|assumption|refine Below.drew ?_|refine A3 ?_ _|refine Below.alloc ?_ ?_ _|refine Below.setCell ?_ ?_ _)|omega|(simp;done)|(simp;omega)))) (hb2.mono (by simp))
   have hS2:SL w.heap.size pb (po+(j - 1)) t.n la t.links.length lc q w2:=hT0.keep hb2 (by simpa using hz) (by simpa using hpbz)
   have hB2:=hB.under hb12
   have hbb:=hb.trans (hb12.mono (by have:=hb.size;omega))
   have hz2:=hb12.size
   clear hb2 r1 r2 e0 e1 hS hT0
   have hS:=hS2
   go_wp2_with fail
   refine hK7 _ _ (fun _=>hS) ?_
   clear hK7
   by_cases hk:E9 t q s=0
   ·have HH:=Lib.hid (h2 hk)
    have hk':(E9 t q s==0)=true:=by rw [beq_iff_eq];exact hk
    clear h2 h3 hk hcost
    generalize E9 t q s=k at *
    refine B0 (i:=11) (.bool true) rfl (by kernel_rfl) (fun _ _ _ h=>h) hS (A0 (by kernel_rfl) (by intro w0 hw0;have hw1:=hw0;simp only [SL] at hw1;go_simp)) ?_;simp only [Act.put,St.tS,St.tC,St.tZ]
    refine B0 (i:=12) (.bool true) rfl (by kernel_rfl) (fun _ _ _ h=>h) hS (A0 (by kernel_rfl) (by intro w0 hw0;have hw1:=hw0;simp only [SL] at hw1;go_simp)) ?_;simp only [Act.put,St.tS,St.tC,St.tZ]
    refine B5 (by kernel_rfl) ?_ _
    go_wp2
    go_ret2
    rw [HH.out]
    exact ⟨rfl,by (repeat' (first|with_reducible (first|exact Below.refl _ _|assumption|refine Below.drew ?_|refine A3 ?_ _|refine Below.alloc ?_ ?_ _|refine Below.setCell ?_ ?_ _)|omega|(simp;done)|(simp;omega)))⟩
   have HH:=Lib.hid (h3 hk)
   have hk':(E9 t q s==0)=false:=by rw [beq_eq_false_iff_ne];exact hk
   have HCC:=Lib.hid hcost
   clear h2 h3 hk hcost
   have hkk:Hid (∃ k,k=E9 t q s):=⟨_,rfl⟩
   refine B0 (i:=11) (.bool false) rfl (by kernel_rfl) (fun _ _ _ h=>h) hS (A0 (by kernel_rfl) (by intro w0 hw0;have hw1:=hw0;simp only [SL] at hw1;go_simp)) ?_;simp only [Act.put,St.tS,St.tC,St.tZ]
   refine B0 (i:=12) (.bool false) rfl (by kernel_rfl) (fun _ _ _ h=>h) hS (A0 (by kernel_rfl) (by intro w0 hw0;have hw1:=hw0;simp only [SL] at hw1;go_simp)) ?_;simp only [Act.put,St.tS,St.tC,St.tZ]
   refine B5 (by kernel_rfl) ?_ _
   go_wp2
   have hT3:SL w.heap.size pb (po+(j - 1)) t.n la t.links.length lc q w2.drew:=hS2
   refine A0v (SL w.heap.size pb (po+(j - 1)) t.n la t.links.length lc q) 99 (by kernel_rfl) ?_
   clear hS hS2
   have hS:=hT3
   refine B0 (i:=0) (.int .i64 acc) rfl (by kernel_rfl) (fun _ _ _ h=>h) hS (A0 (by kernel_rfl) (by intro w0 hw0;have hw1:=hw0;simp only [SL] at hw1;go_simp)) ?_;simp only [Act.put,St.tS,St.tC,St.tZ]
   refine B0 (i:=1) (.agg #[.int .i64 t.n,.slice la t.links.length lc]) rfl (by kernel_rfl) (fun _ _ _ h=>h) hS (A0 (by kernel_rfl) (by intro w0 hw0;have hw1:=hw0;simp only [SL] at hw1;go_simp)) ?_;simp only [Act.put,St.tS,St.tC,St.tZ]
   refine B0 (i:=2) (.slice (some ⟨pb,po,none⟩) p.length pc) rfl (by kernel_rfl) (fun _ _ _ h=>h) hS (A0 (by kernel_rfl) (by intro w0 hw0;have hw1:=hw0;simp only [SL] at hw1;go_simp)) ?_;simp only [Act.put,St.tS,St.tC,St.tZ]
   refine B0 (i:=3) (.int .i64 j) rfl (by kernel_rfl) (fun _ _ _ h=>h) hS (A0 (by kernel_rfl) (by intro w0 hw0;have hw1:=hw0;simp only [SL] at hw1;go_simp)) ?_;simp only [Act.put,St.tS,St.tC,St.tZ]
   refine B0 (i:=4) (.int .i64 ((j - 1:Nat):Int)) rfl (by kernel_rfl) (fun _ _ _ h=>h) hS (A0 (by kernel_rfl) (by intro w0 hw0;have hw1:=hw0;simp only [SL] at hw1;go_simp)) ?_;simp only [Act.put,St.tS,St.tC,St.tZ]
   refine B0 (i:=5) (.pointer (some ⟨pb,po+(j - 1),none⟩)) rfl (by kernel_rfl) (fun _ _ _ h=>h) hS (A0 (by kernel_rfl) (by intro w0 hw0;have hw1:=hw0;simp only [SL] at hw1;go_simp)) ?_;simp only [Act.put,St.tS,St.tC,St.tZ]
   refine B0 (i:=6) (.int .i64 q) rfl (by kernel_rfl) (fun _ _ _ h=>h) hS (A0 (by kernel_rfl) (by intro w0 hw0;have hw1:=hw0;simp only [SL] at hw1;go_simp)) ?_;simp only [Act.put,St.tS,St.tC,St.tZ]
   refine B0 (i:=7) (.int .i64 s) rfl (by kernel_rfl) (fun _ _ _ h=>h) hS (A0 (by kernel_rfl) (by intro w0 hw0;have hw1:=hw0;simp only [SL] at hw1;go_simp)) ?_;simp only [Act.put,St.tS,St.tC,St.tZ]
   refine A7 (i:=8) rfl (by kernel_rfl) (by kernel_rfl) fun K8 hK8=>?_
   go_simp
   go_wp2_with fail
   refine (HCC.out _ (by (repeat' (first|with_reducible (first|exact Below.refl _ _|assumption|refine Below.drew ?_|refine A3 ?_ _|refine Below.alloc ?_ ?_ _|refine Below.setCell ?_ ?_ _)|omega|(simp;done)|(simp;omega))))).mono ?_
   rintro e w3 ⟨rfl,hb3⟩
   have hb23:Below w2.heap.size w2 w3:=Below.trans (by (repeat' (first|with_reducible (first|exact Below.refl _ _|assumption|refine Below.drew ?_|refine A3 ?_ _|refine Below.alloc ?_ ?_ _|refine Below.setCell ?_ ?_ _)|omega|(simp;done)|(simp;omega)))) (hb3.mono (by simp))
   have hS3:SL w.heap.size pb (po+(j - 1)) t.n la t.links.length lc q w3:=hT3.keep hb3 (by simp;omega) (by simp;omega)
   have hB3:=hB2.under hb23
   have hbb3:=hbb.trans (hb23.mono (by have:=hbb.size;omega))
   clear hb3 hS hT3 HCC hkk
   have hS:=hS3
   generalize E9 t q s=k at *
   go_wp2_with fail
   refine hK8 _ _ (fun _=>hS) ?_
   clear hK8
   refine B0 (i:=9) (.int .i64 (IntKind.i64.wrap (acc+k))) rfl (by kernel_rfl) (fun _ _ _ h=>h) hS (A0 (by kernel_rfl) (by intro w0 hw0;have hw1:=hw0;simp only [SL] at hw1;go_simp)) ?_;simp only [Act.put,St.tS,St.tC,St.tZ]
   refine B0 (i:=10) (.int .i64 (IntKind.i64.wrap (acc+k))) rfl (by kernel_rfl) (fun _ _ _ h=>h) hS (A0 (by kernel_rfl) (by intro w0 hw0;have hw1:=hw0;simp only [SL] at hw1;go_simp)) ?_;simp only [Act.put,St.tS,St.tC,St.tZ]
   refine B5 (by kernel_rfl) ?_ _
   clear hS hS3
   go_wp2
   case roundEnd=>
    go_roundw
    case rel=>exact ⟨j+1,_,by omega,rfl,by go_num,(by have h9:=HH.out;rw [IntWalk.i64_left] at h9;exact Lib.hid h9),hbb3,hB3⟩
    case measure=>simp [intOf];omega
end Go.Proofs.Ytpfmolaebloipaa
