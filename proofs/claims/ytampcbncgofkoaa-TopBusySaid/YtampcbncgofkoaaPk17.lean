/- Texts of this proof, one behind the other. -/
import Derived.Test.YtampcbncgofkoaaRows
import Derived.WalkSpells
import Derived.WalkLawsBesides
import Derived.Lib.Hide
import Derived.Deep.LoopGhost
import Derived.Deep.QuietTactic
import Derived.BigQuiet
import Derived.Deep.RegionWith
import Derived.Handy
import Derived.Test.YtampcbncgofkoaaPk8
import Derived.Test.YtampcbncgofkoaaPk13
set_option linter.unusedSimpArgs false
set_option linter.unusedVariables false
set_option maxRecDepth 100000
set_option maxHeartbeats 16000000
namespace Go.Proofs.Ytampcbncgofkoaa
open Go.RowKit Go.St
theorem A6q:(Try.prog.info? 95).map (fun i=>(i.zero,i.size,i.bytes))=some (some (.agg #[.int .i64 0,.int .i64 0,.int .i64 0]),3,24):=by kernel_rfl
theorem A8t:(Try.prog.info? 73).map (fun i=>(i.zero,i.size,i.bytes))=some (some (.slice none 0 0),1,24):=by kernel_rfl
theorem B5d (p:F5) (n:Nat) (cs:List Value) (ok:Nat→Prop) (w:World) (h:C3.rep ok w cs p) (hn:n≤1000) (hbig:∀ s:Nat,(C6 p s).length≤5864062014800) (hpl:p.paths.length≤100000000000000):
  Calls Try.prog 19 #[.agg cs.toArray,.int .i64 n] w fun e w'=>∃ ob f,e=.returned (.slice (some ⟨ob,0,none⟩) n n)∧w.heap.size≤ob∧Tbl w' ob 73 95 n f (fun s=>C6 p s)∧Below w.heap.size w w':=by
 obtain ⟨fa,fc,pa,pc,rfl,hv,hfl,hps⟩:=h
 obtain ⟨v,fls,ps⟩:=p
 dsimp only at *
 obtain ⟨i0,hi,hz0,hz1,hz2⟩:=info_parts A6q
 obtain ⟨j0,gi,gz0,gz1,gz2⟩:=info_parts A8t
 have hrun:=fun w'=>run_make (P:=Try.prog) w' 71 73 j0 (.slice none 0 0) Try.underlying71 gi gz0 .i64 .i64 (n:Int) (n:Int) (by omega) (Int.le_refl _) (by rw [gz2];omega) (by omega)
 rw [gz1,Nat.mul_one,Int.toNat_natCast] at hrun
 have hmk:∀ w',(Instr.makeSlice 71 (.int .i64 n) (.int .i64 n)).run Try.prog w'=.ok (.slice (some ⟨w'.heap.size,0,none⟩) n n) (w'.alloc (.cells (L2 n (fun _=>(none,0)) (fun _=>[])) 73)):=fun w'=>by rw [←A4n];exact hrun w'
 clear hrun
 have HBG:Hid (∀ s:Nat,(D4 v s 0 ps).length≤5864062014800):=hbig
 have hst:Hid (∀ s:Nat,s<n→([]:List C1)++D4 v s ((0:Nat):Int) (ps.drop 0)=D4 v s 0 ps):=fun s _=>rfl
 have hlx:=hps.len_le
 have hmx:max (n:Int) 0=(n:Int):=by omega
 clear hbig
 go_enter Try.func19,Try.ntmps19
 go_wp2
 go_loopw [6,7,8,9,16] (fun _ _ _ _ idx wr=>∃ (j:Nat) (f:Nat→Option Addr × Nat) (tabs:Nat→List C1),idx=.int .i64 j∧j≤ps.length∧Tbl wr (w.heap.size+1) 73 95 n f tabs∧Hid (∀ s:Nat,s<n→tabs s++D4 v s ((j:Nat):Int) (ps.drop j)=D4 v s 0 ps)∧A6 wr w.heap.size 32 #[.int .i64 v,.slice fa fls.length fc,.slice pa ps.length pc]∧Below w.heap.size w wr) (fun _ _ _ _ idx _=>ps.length - (intOf idx).toNat)
 case atStart=>exact ⟨0,_,_,rfl,Nat.zero_le _,Tbl.start (by simp),hst,(A6.new rfl).alloc _,by (repeat' (first|with_reducible (first|exact Below.refl _ _|assumption|refine Below.drew ?_|refine A3 ?_ _|refine Below.alloc ?_ ?_ _|refine Below.setCell ?_ ?_ _)|omega|(simp;done)|(simp;omega)))⟩
 case round=>
  clear hst
  obtain ⟨j,f,tabs,rfl,hj,hT,hS,hP,hb⟩:=hrel
  rename World=>wo
  obtain ⟨p1,p2⟩:=hP.cells
  have hPl:=hP.lt
  by_cases hlt:j<ps.length
  case neg=>
   have hT9:=Lib.hid (hT.congr (tabs':=fun s=>C6 ⟨v,fls,ps⟩ s) fun s hs=>by have:=hS.out s hs;rw [A5d (by omega),List.append_nil] at this;exact this)
   have b1:¬(j:Int)<(ps.length:Int):=by omega
   clear hS hT
   go_wp2
   go_ret;exact ⟨w.heap.size+1,rfl,by omega,⟨f,hT9.out⟩,hb⟩
  obtain ⟨pp,hpp⟩:∃ pp,ps[j]? =some pp:=⟨_,List.getElem?_eq_getElem hlt⟩
  obtain ⟨gb,go,pao,pcap,rfl,hgl,hpr,hce⟩:=S9 hps hpp
  have e0:=hce _ hb
  have hplen:=hpr.len_le
  have b0:(0:Int)≤(j:Int):=by omega
  have b1:(j:Int)<(ps.length:Int):=by omega
  have hst:Hid (∀ s:Nat,s<n→tabs s++(F0 v j s (pp.drop 0)++D4 v s ((j+1:Nat):Int) (ps.drop (j+1)))=D4 v s 0 ps):=fun s hs=>by have:=hS.out s hs;rw [A4o hpp] at this;exact this
  clear hS hce hpp
  go_wp2
  clear e0
  go_loopw [8,9] (fun ii _ wr=>∃ (i:Nat) (f:Nat→Option Addr × Nat) (tabs:Nat→List C1),ii=.int .i64 i∧(i=0∨i<pp.length)∧Tbl wr (w.heap.size+1) 73 95 n f tabs∧Hid (∀ s:Nat,s<n→tabs s++(F0 v j s (pp.drop i)++D4 v s ((j+1:Nat):Int) (ps.drop (j+1)))=D4 v s 0 ps)∧A6 wr w.heap.size 32 #[.int .i64 v,.slice fa fls.length fc,.slice (some ⟨gb,go,none⟩) ps.length pc]∧Below w.heap.size w wr) (fun ii _ _=>pp.length - (intOf ii).toNat)
  case atStart=>exact ⟨0,f,tabs,rfl,.inl rfl,hT,hst,hP,hb⟩
  case round=>
  clear hst hT hP hb p1 p2 hPl
  obtain ⟨i,f,tabs,rfl,hi0,hT,hS,hP,hb⟩:=hrel
  rename World=>wi
  obtain ⟨p1,p2⟩:=hP.cells
  have hPl:=hP.lt
  have k1:IntKind.i64.wrap ((i:Int)+1)=(i:Int)+1:=IntWalk.i64_in _ (by omega)
  by_cases hil:i+1<pp.length
  case neg=>
   have hS2:Hid (∀ s:Nat,s<n→tabs s++D4 v s ((j+1:Nat):Int) (ps.drop (j+1))=D4 v s 0 ps):=fun s hs=>by have:=hS.out s hs;rw [A5b (by omega),List.nil_append] at this;exact this
   have b2:¬(i:Int)+1<(pp.length:Int):=by omega
   clear hS
   go_wp2
   case roundEnd=>
    go_roundw
    case rel=>exact ⟨j+1,f,tabs,by go_num,by omega,hT,hS2,hP,hb⟩
    case measure=>simp [intOf]<;>omega
  obtain ⟨a,ha⟩:∃ a,pp[i]? =some a:=⟨_,List.getElem?_eq_getElem (by omega)⟩
  obtain ⟨y,hy⟩:∃ y,pp[i+1]? =some y:=⟨_,List.getElem?_eq_getElem hil⟩
  obtain ⟨qb,qo,rfl,hql,haI,hca⟩:=A1p hpr ha
  obtain ⟨qb',qo',hqe,_,hyI,hcy⟩:=A1p hpr hy
  obtain ⟨rfl,rfl⟩:qb=qb'∧qo=qo':=by simpa using hqe
  have e1:=hca _ hb
  have e2:=hcy _ hb
  have b2:(i:Int)+1<(pp.length:Int):=by omega
  have b3:(0:Int)≤(i:Int):=by omega
  have b4:(i:Int)<(pp.length:Int):=by omega
  have hzz:=hb.size
  have HPS:Hid (∀ s:Nat,F0 v j s (pp.drop i)=(if a=(s:Int) then [⟨v,j,y⟩] else [])++F0 v j s (pp.drop (i+1))):=fun s=>A3z ha hy
  clear ha hy hca hcy hqe
  by_cases hin:0≤a∧a<(n:Int)
  case neg=>
   have hS3:Hid (∀ s:Nat,s<n→tabs s++(F0 v j s (pp.drop (i+1))++D4 v s ((j+1:Nat):Int) (ps.drop (j+1)))=D4 v s 0 ps):=fun s hs=>by
    have:=hS.out s hs
    rw [HPS.out s,if_neg (by omega),List.nil_append] at this;exact this
   clear hS HPS
   by_cases o1:a≥0
   ·have o2:¬a<(n:Int):=by omega
    clear hin
    go_wp2
    case roundEnd=>
     go_roundw
     case rel=>exact ⟨i+1,f,tabs,by go_num,by omega,hT,hS3,hP,hb⟩
     case measure=>simp [intOf]<;>omega
   ·clear hin
    go_wp2
    case roundEnd=>
     go_roundw
     case rel=>exact ⟨i+1,f,tabs,by go_num,by omega,hT,hS3,hP,hb⟩
     case measure=>simp [intOf]<;>omega
  obtain ⟨s,rfl⟩:∃ s:Nat,a=(s:Int):=⟨a.toNat,by omega⟩
  have hsn:s<n:=by omega
  have o1:(s:Int)≥0:=by omega
  have o2:(s:Int)<(n:Int):=by omega
  have o3:IntKind.i64.wrap (s:Int)=s:=IntWalk.i64_in _ (by omega)
  have c9:=hT.cell hsn
  have hTl:=hT.blk.lt
  have hown:=hT.own s hsn
  have hlen:(tabs s).length+1≤5864062014800:=by
   have h1:=HBG.out s
   rw [←hS.out s hsn,HPS.out s,if_pos rfl] at h1
   simp only [List.length_append,List.length_cons,List.length_nil] at h1;omega
  have hS3:Hid (∀ s':Nat,s'<n→upd tabs s (tabs s++[⟨v,j,y⟩]) s'++(F0 v j s' (pp.drop (i+1))++D4 v s' ((j+1:Nat):Int) (ps.drop (j+1)))=D4 v s' 0 ps):=fun s' hs=>by
   have h1:=hS.out s' hs
   rw [HPS.out s'] at h1
   by_cases he:s'=s
   ·subst he
    rw [if_pos rfl] at h1
    rw [C10,←h1];simp
   ·rw [if_neg (by omega),List.nil_append] at h1
    rw [O9 _ _ he];exact h1
  have hjI:I64 (j:Int):=⟨by omega,by omega⟩
  clear hS HPS hin
  go_wp2
  have hS0:SO (w.heap.size+1) s w.heap.size qb (qo+(i+1)) (.slice (f s).1 (tabs s).length (f s).2) v y wi.drew:=⟨c9,p1 0,e2⟩
  refine B9 (SO (w.heap.size+1) s w.heap.size qb (qo+(i+1)) (.slice (f s).1 (tabs s).length (f s).2) v y) 18 (fun a0 a' w'=>∃ v39 v40 v41 v42 v43 v44 v45 v46 v47 v48 v49 v50 v51 v52 v53 v54 v55 v56,a'=C8 a0 [(39,v39),(40,v40),(41,v41),(42,v42),(43,v43),(44,v44),(45,v45),(46,v46),(47,v47),(48,v48),(49,v49),(50,v50),(51,v51),(52,v52),(53,v53),(54,v54),(55,v55),(56,v56)]∧∃ ao cap,Tbl w' (w.heap.size+1) 73 95 n (upd f s (ao,cap)) (upd tabs s (tabs s++[⟨v,j,y⟩]))∧A6 w' w.heap.size 32 #[.int .i64 v,.slice fa fls.length fc,.slice (some ⟨gb,go,none⟩) ps.length pc]∧Below w.heap.size w w') (by kernel_rfl) ?_ ?_
  ·intro Q' hR hQp
   have hb0:Below wi.heap.size wi wi.drew:=N4 _
   have hS:SO (w.heap.size+1) s w.heap.size qb (qo+(i+1)) (.slice (f s).1 (tabs s).length (f s).2) v y wi.drew:=hS0
   generalize wi.drew=wa at *
   refine A9 hQp hS [0,1,2,3,4,5,6,7,8,9,10,11,12,13,14] ?_
   iterate 15 (refine B2 _ rfl (by kernel_rfl) (A0 (by kernel_rfl) (by intro w0 hw0;have hw1:=hw0;simp only [SO] at hw1;first|(go_simp;done)|(go_simp;rfl))) ?_;simp only [Act.put,St.tA,St.tD,St.tE,St.tS,St.tC,St.tZ])
   refine B3 ?_
   have hwz:wi.heap.size≤wa.heap.size:=hb0.size
   clear hS
   refine A7 (i:=15) rfl (by kernel_rfl) (by kernel_rfl) fun K15 hK15=>?_
   go_simp
   go_wp2_with fail
   have hb3:=G8 wa (.cells #[.int .i64 v,.int .i64 j,.int .i64 y] 95)
   have hsr:D7 G6 (fun _=>False) (wa.alloc (.cells #[.int .i64 v,.int .i64 j,.int .i64 y] 95)) (some ⟨wa.heap.size,0,none⟩) [⟨v,j,y⟩]:=D7.rule ⟨v,j,y⟩ rfl hv hjI hyI
   refine hK15 _ _ (fun _=>hS0.under (by omega) (by omega) (by omega) hb3) ?_
   clear hK15
   generalize wa.alloc (.cells #[.int .i64 v,.int .i64 j,.int .i64 y] 95)=wx at *
   have hb4:Below wi.heap.size wi wx:=hb0.trans (hb3.mono hwz)
   have hT4:=hT.under hb4
   have hP4:=hP.under hb4
   have hB4:Below w.heap.size w wx:=hb.trans (hb4.mono hb.size)
   have hown4:=hT4.own s hsn
   have hxz:=hb3.size
   refine A7 (i:=16) rfl (by kernel_rfl) (by kernel_rfl) fun K16 hK16=>?_
   refine Q3 (sh:=G6) (n:=(tabs s).length) (m:=1) (c:=1) (.tmp 44) (.tmp 54) 73 (by rfl) 95 i0 (.agg #[.int .i64 0,.int .i64 0,.int .i64 0]) 24 Try.underlying73 hi hz0 hz1 hz2 rfl (by decide) (ok:=fun _=>False) (base:=w.heap.size+1+1) (by rfl) hown4 (by rfl) rfl hsr (by simp only [maxLen];omega) (by omega) (by omega) ?_
   intro ao cap wy ho hg hlie
   have hb5:Below (w.heap.size+1+1) wx wy:=D6 hg (fun k hk=>(hown4.lt k hk).1) (by omega)
   simp only [Act.put,St.tA,St.tD,St.tE,St.tS,St.tC,St.tZ]
   have hP5:A6 wy w.heap.size 32 #[.int .i64 v,.slice fa fls.length fc,.slice (some ⟨gb,go,none⟩) ps.length pc]:=hP4.keep (hb5.block _ (by omega))
   have hob5:wy.cell? ⟨w.heap.size+1,s,none⟩=some (.slice (f s).1 (tabs s).length (f s).2):=B8 hb5 (by omega) (hT4.cell hsn)
   have hfz5:wy.frozen? ⟨w.heap.size+1,s,none⟩=false:=by
    have:=hb5.frozen (p:=⟨w.heap.size+1,s,none⟩) (by simp)
    rw [this];exact hT4.blk.cells.2 s
   have hT5:=hT4.put hsn (by simp) ho hg hlie
   have hS5:SO (w.heap.size+1) s w.heap.size qb (qo+(i+1)) (.slice (f s).1 (tabs s).length (f s).2) v y wy:=⟨hob5,hP5.cells.1 0,B8 (hB4.trans (hb5.mono (by omega))) hql (by have:=e2;exact (hb.cell (p:=⟨qb,qo+(i+1),none⟩) hql).symm.trans this)⟩
   refine hK16 _ _ (fun _=>hS5) ?_
   clear hK16
   refine A7 (i:=17) rfl (by kernel_rfl) (by kernel_rfl) fun K17 hK17=>?_
   go_simp
   go_wp2_with fail
   refine hK17 _ _ (fun _=>hS5) ?_
   clear hK17
   refine A7 (i:=18) rfl (by kernel_rfl) (by kernel_rfl) fun K18 hK18=>?_
   go_simp
   go_wp2_with fail
   refine hK18 _ _ (fun h=>absurd rfl h) ?_
   clear hK18
   refine B5 (by kernel_rfl) ?_ _
   refine hR _ _ ?_
   iterate 18 apply Exists.intro
   refine ⟨?_,⟨ao,cap,hT5,hP5.setOther (by simp) _,(hB4.trans (hb5.mono (by omega))).setCell (p:=⟨w.heap.size+1,s,none⟩) (Nat.le_succ _) _⟩⟩
   simp only [C8,Act.put,St.tS,St.tC,St.tZ]
   rfl
  rintro a' w8 ⟨v39,v40,v41,v42,v43,v44,v45,v46,v47,v48,v49,v50,v51,v52,v53,v54,v55,v56,rfl,hb8⟩
  simp only [C8,Act.put,St.tS,St.tC,St.tZ]
  obtain ⟨ao,cap,hT8,hP8,hb9⟩:=hb8
  go_wp2
  case roundEnd=>
   go_roundw
   case rel=>exact ⟨i+1,_,_,by go_num,by omega,hT8,hS3,hP8,hb9⟩
   case measure=>simp [intOf]<;>omega
end Go.Proofs.Ytampcbncgofkoaa
