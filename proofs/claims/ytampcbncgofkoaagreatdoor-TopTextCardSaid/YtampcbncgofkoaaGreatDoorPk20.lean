/- Texts of this proof, one behind the other. -/
import Derived.ChangeKeysEq
import Derived.Test.YtampcbncgofkoaaGreatDoorPk7
import Derived.Laws.Cover3
import Derived.Test.YtampcbncgofkoaaGreatDoorPk19
import Derived.Test.YtampcbncgofkoaaGreatDoorPk18
set_option linter.unusedSimpArgs false
set_option linter.unusedVariables false
set_option maxRecDepth 100000
set_option maxHeartbeats 16000000
namespace Go.Proofs.YtampcbncgofkoaaGreatDoor
open Go.RowKit Go.St
def A3l (p:Int × Int):Value:=.agg #[.int .i64 p.1,.int .i64 p.2]
theorem Z7:A0l Tryz.prog 92 A3l:=by
  have hp:Tryz.prog.plainKey 3=true:=by kernel_rfl
  have hc:Tryz.prog.cellsOf 3=1:=by kernel_rfl
  obtain ⟨i0,hi,hi1⟩:∃ i,Tryz.prog.info? 3=some i∧i.size=1:=by
    have h:(Tryz.prog.info? 3).map (·.size)=some 1:=by kernel_rfl
    cases hh:Tryz.prog.info? 3 with
    |none=>rw [hh] at h;cases h
    |some i=>rw [hh] at h;exact ⟨i,rfl,by simpa using h⟩
  refine A0l.asking (by simp [Tryz.underlying92]) ?_ ?_ ?_
  · intro e k w
    have p0:=run_part_plain (P:=Tryz.prog) (w:=w) hp (xs:=#[.int .i64 k.1,.int .i64 k.2]) (off:=0) (v:=.int .i64 k.1) rfl
    have p1:=run_part_plain (P:=Tryz.prog) (w:=w) hp (xs:=#[.int .i64 k.1,.int .i64 k.2]) (off:=1) (v:=.int .i64 k.2) rfl
    have hk:∀ z:Int,(Instr.checkKey e 9999 3 (.int .i64 z)).run Tryz.prog w=.ok () w:=fun z=>by
      rw [Instr.checkKey];simp [run_underlying Tryz.underlying3]
    rw [Instr.checkKey]
    simp only [Sem.run_bind,run_underlying Tryz.underlying92,Result.andThen_ok,A3l]
    simp only [Std.Legacy.Range.forIn_eq_forIn_range',Std.Legacy.Range.size,Nat.sub_zero,Nat.add_one_sub_one,Nat.div_one]
    simp [List.range',run_sizeOf w hi,hi1,hc,p0,p1,hk]
  · intro a b w
    rw [Op.equal,show Op.maxDepth=9999+1 from rfl,A3l,A3l,run_equalIn_array (w:=w) 9999 _ _ Tryz.underlying92 hi]
    have a0:=fun w:World=>run_part_plain (P:=Tryz.prog) (w:=w) hp (xs:=#[.int .i64 a.1,.int .i64 a.2]) (off:=0) (v:=.int .i64 a.1) rfl
    have a1:=fun w:World=>run_part_plain (P:=Tryz.prog) (w:=w) hp (xs:=#[.int .i64 a.1,.int .i64 a.2]) (off:=1) (v:=.int .i64 a.2) rfl
    have b0:=fun w:World=>run_part_plain (P:=Tryz.prog) (w:=w) hp (xs:=#[.int .i64 b.1,.int .i64 b.2]) (off:=0) (v:=.int .i64 b.1) rfl
    have b1:=fun w:World=>run_part_plain (P:=Tryz.prog) (w:=w) hp (xs:=#[.int .i64 b.1,.int .i64 b.2]) (off:=1) (v:=.int .i64 b.2) rfl
    have hq:=fun (w:World) (x y:Int)=>run_equalIn_int (P:=Tryz.prog) w 9998 3 .i64 .i64 x y Tryz.underlying3
    rw [hc,show List.range 2=[0,1] from rfl]
    obtain ⟨x,y⟩:=a
    obtain ⟨z,u⟩:=b
    dsimp only at a0 a1 b0 b1 ⊢
    simp [Op.eqItems,a0,a1,b0,b1,hq]
    by_cases h1:x=z<;>by_cases h2:y=u<;>simp [h1,h2]
  · intro k
    simp [A3l,Instr.sameBits]
open Go.RowKit Go.St
theorem A6q:(Tryz.prog.info? 112).map (fun i=>(i.zero,i.size,i.bytes))=some (some (.agg #[.int .i64 0,.int .i64 0,.int .i64 0]),3,24):=by kernel_rfl
theorem A8t:(Tryz.prog.info? 62).map (fun i=>(i.zero,i.size,i.bytes))=some (some (.slice none 0 0),1,24):=by kernel_rfl
theorem B5d (p:F5) (n:Nat) (cs:List Value) (ok:Nat→Prop) (w:World) (h:C3.rep ok w cs p) (hn:n≤1000) (hbig:∀ s:Nat,(C6 p s).length≤5864062014800) (hpl:p.paths.length≤100000000000000):
  Calls Tryz.prog 53 #[.agg cs.toArray,.int .i64 n] w fun e w'=>∃ ob f,e=.returned (.slice (some ⟨ob,0,none⟩) n n)∧w.heap.size≤ob∧Tbl w' ob 62 112 n f (fun s=>C6 p s)∧Below w.heap.size w w':=by
 obtain ⟨fa,fc,pa,pc,rfl,hv,hfl,hps⟩:=h
 obtain ⟨v,fls,ps⟩:=p
 dsimp only at *
 obtain ⟨i0,hi,hz0,hz1,hz2⟩:=info_parts A6q
 obtain ⟨j0,gi,gz0,gz1,gz2⟩:=info_parts A8t
 have hrun:=fun w'=>run_make (P:=Tryz.prog) w' 132 62 j0 (.slice none 0 0) Tryz.underlying132 gi gz0 .i64 .i64 (n:Int) (n:Int) (by omega) (Int.le_refl _) (by rw [gz2];omega) (by omega)
 rw [gz1,Nat.mul_one,Int.toNat_natCast] at hrun
 have hmk:∀ w',(Instr.makeSlice 132 (.int .i64 n) (.int .i64 n)).run Tryz.prog w'=.ok (.slice (some ⟨w'.heap.size,0,none⟩) n n) (w'.alloc (.cells (L2 n (fun _=>(none,0)) (fun _=>[])) 62)):=fun w'=>by rw [←A4n];exact hrun w'
 clear hrun
 have HBG:Hid (∀ s:Nat,(D4 v s 0 ps).length≤5864062014800):=hbig
 have hst:Hid (∀ s:Nat,s<n→([]:List C1)++D4 v s ((0:Nat):Int) (ps.drop 0)=D4 v s 0 ps):=fun s _=>rfl
 have hlx:=hps.len_le
 have hmx:max (n:Int) 0=(n:Int):=by omega
 clear hbig
 go_enter Tryz.func53,Tryz.ntmps53
 go_wp2
 go_loopw [6,7,8,9,16] (fun _ _ _ _ idx wr=>∃ (j:Nat) (f:Nat→Option Addr × Nat) (tabs:Nat→List C1),idx=.int .i64 j∧j≤ps.length∧Tbl wr (w.heap.size+1) 62 112 n f tabs∧Hid (∀ s:Nat,s<n→tabs s++D4 v s ((j:Nat):Int) (ps.drop j)=D4 v s 0 ps)∧A6 wr w.heap.size 34 #[.int .i64 v,.slice fa fls.length fc,.slice pa ps.length pc]∧Below w.heap.size w wr) (fun _ _ _ _ idx _=>ps.length - (intOf idx).toNat)
 case atStart=>exact ⟨0,_,_,rfl,Nat.zero_le _,Tbl.start (by simp),hst,(A6.new rfl).alloc _,by (repeat' (first|with_reducible (first|exact Below.refl _ _|assumption|refine Below.drew ?_|refine A3 ?_ _|refine Below.alloc ?_ ?_ _|refine Below.setCell ?_ ?_ _)|omega|(simp;done)|(simp;omega)))⟩
 case round=>
  clear hst
  obtain ⟨j,f,tabs,rfl,hj,hT,hS,hP,hb⟩:=hrel
  rename World=>wo
  obtain ⟨p1,p2⟩:=hP.cells
  have hPl:=hP.lt
  by_cases hlt:j<ps.length
  case neg=>
   have hT9:=Lib.hid (hT.congr (tabs':=fun s=>C6 ⟨v,fls,ps⟩ s) fun s hs=>by have:=hS.out s hs;rw [A5d (by omega),List.append_nil] at this;exact this)
   have b1:¬(j:Int)<(ps.length:Int):=by omega
   clear hS hT
   go_wp2
   go_ret;exact ⟨w.heap.size+1,rfl,by omega,⟨f,hT9.out⟩,hb⟩
  obtain ⟨pp,hpp⟩:∃ pp,ps[j]? =some pp:=⟨_,List.getElem?_eq_getElem hlt⟩
  obtain ⟨gb,go,pao,pcap,rfl,hgl,hpr,hce⟩:=S9 hps hpp
  have e0:=hce _ hb
  have hplen:=hpr.len_le
  have b0:(0:Int)≤(j:Int):=by omega
  have b1:(j:Int)<(ps.length:Int):=by omega
  have hst:Hid (∀ s:Nat,s<n→tabs s++(F0 v j s (pp.drop 0)++D4 v s ((j+1:Nat):Int) (ps.drop (j+1)))=D4 v s 0 ps):=fun s hs=>by have:=hS.out s hs;rw [A4o hpp] at this;exact this
  clear hS hce hpp
  go_wp2
  clear e0
  go_loopw [8,9] (fun ii _ wr=>∃ (i:Nat) (f:Nat→Option Addr × Nat) (tabs:Nat→List C1),ii=.int .i64 i∧(i=0∨i<pp.length)∧Tbl wr (w.heap.size+1) 62 112 n f tabs∧Hid (∀ s:Nat,s<n→tabs s++(F0 v j s (pp.drop i)++D4 v s ((j+1:Nat):Int) (ps.drop (j+1)))=D4 v s 0 ps)∧A6 wr w.heap.size 34 #[.int .i64 v,.slice fa fls.length fc,.slice (some ⟨gb,go,none⟩) ps.length pc]∧Below w.heap.size w wr) (fun ii _ _=>pp.length - (intOf ii).toNat)
  case atStart=>exact ⟨0,f,tabs,rfl,.inl rfl,hT,hst,hP,hb⟩
  case round=>
  clear hst hT hP hb p1 p2 hPl
  obtain ⟨i,f,tabs,rfl,hi0,hT,hS,hP,hb⟩:=hrel
  rename World=>wi
  obtain ⟨p1,p2⟩:=hP.cells
  have hPl:=hP.lt
  have k1:IntKind.i64.wrap ((i:Int)+1)=(i:Int)+1:=IntWalk.i64_in _ (by omega)
  by_cases hil:i+1<pp.length
  case neg=>
   have hS2:Hid (∀ s:Nat,s<n→tabs s++D4 v s ((j+1:Nat):Int) (ps.drop (j+1))=D4 v s 0 ps):=fun s hs=>by have:=hS.out s hs;rw [A5b (by omega),List.nil_append] at this;exact this
   have b2:¬(i:Int)+1<(pp.length:Int):=by omega
   clear hS
   go_wp2
   case roundEnd=>
    go_roundw
    case rel=>exact ⟨j+1,f,tabs,by go_num,by omega,hT,hS2,hP,hb⟩
    case measure=>simp [intOf]<;>omega
  obtain ⟨a,ha⟩:∃ a,pp[i]? =some a:=⟨_,List.getElem?_eq_getElem (by omega)⟩
  obtain ⟨y,hy⟩:∃ y,pp[i+1]? =some y:=⟨_,List.getElem?_eq_getElem hil⟩
  obtain ⟨qb,qo,rfl,hql,haI,hca⟩:=A1p hpr ha
  obtain ⟨qb',qo',hqe,_,hyI,hcy⟩:=A1p hpr hy
  obtain ⟨rfl,rfl⟩:qb=qb'∧qo=qo':=by simpa using hqe
  have e1:=hca _ hb
  have e2:=hcy _ hb
  have b2:(i:Int)+1<(pp.length:Int):=by omega
  have b3:(0:Int)≤(i:Int):=by omega
  have b4:(i:Int)<(pp.length:Int):=by omega
  have hzz:=hb.size
  have HPS:Hid (∀ s:Nat,F0 v j s (pp.drop i)=(if a=(s:Int) then [⟨v,j,y⟩] else [])++F0 v j s (pp.drop (i+1))):=fun s=>A3z ha hy
  clear ha hy hca hcy hqe
  by_cases hin:0≤a∧a<(n:Int)
  case neg=>
   have hS3:Hid (∀ s:Nat,s<n→tabs s++(F0 v j s (pp.drop (i+1))++D4 v s ((j+1:Nat):Int) (ps.drop (j+1)))=D4 v s 0 ps):=fun s hs=>by
    have:=hS.out s hs
    rw [HPS.out s,if_neg (by omega),List.nil_append] at this;exact this
   clear hS HPS
   by_cases o1:a≥0
   ·have o2:¬a<(n:Int):=by omega
    clear hin
    go_wp2
    case roundEnd=>
     go_roundw
     case rel=>exact ⟨i+1,f,tabs,by go_num,by omega,hT,hS3,hP,hb⟩
     case measure=>simp [intOf]<;>omega
   ·clear hin
    go_wp2
    case roundEnd=>
     go_roundw
     case rel=>exact ⟨i+1,f,tabs,by go_num,by omega,hT,hS3,hP,hb⟩
     case measure=>simp [intOf]<;>omega
  obtain ⟨s,rfl⟩:∃ s:Nat,a=(s:Int):=⟨a.toNat,by omega⟩
  have hsn:s<n:=by omega
  have o1:(s:Int)≥0:=by omega
  have o2:(s:Int)<(n:Int):=by omega
  have o3:IntKind.i64.wrap (s:Int)=s:=IntWalk.i64_in _ (by omega)
  have c9:=hT.cell hsn
  have hTl:=hT.blk.lt
  have hown:=hT.own s hsn
  have hlen:(tabs s).length+1≤5864062014800:=by
   have h1:=HBG.out s
   rw [←hS.out s hsn,HPS.out s,if_pos rfl] at h1
   simp only [List.length_append,List.length_cons,List.length_nil] at h1;omega
  have hS3:Hid (∀ s':Nat,s'<n→upd tabs s (tabs s++[⟨v,j,y⟩]) s'++(F0 v j s' (pp.drop (i+1))++D4 v s' ((j+1:Nat):Int) (ps.drop (j+1)))=D4 v s' 0 ps):=fun s' hs=>by
   have h1:=hS.out s' hs
   rw [HPS.out s'] at h1
   by_cases he:s'=s
   ·subst he
    rw [if_pos rfl] at h1
    rw [C10,←h1];simp
   ·rw [if_neg (by omega),List.nil_append] at h1
    rw [O9 _ _ he];exact h1
  have hjI:I64 (j:Int):=⟨by omega,by omega⟩
  clear hS HPS hin
  go_wp2
  have hS0:SO (w.heap.size+1) s w.heap.size qb (qo+(i+1)) (.slice (f s).1 (tabs s).length (f s).2) v y wi.drew:=⟨c9,p1 0,e2⟩
  refine B9 (SO (w.heap.size+1) s w.heap.size qb (qo+(i+1)) (.slice (f s).1 (tabs s).length (f s).2) v y) 18 (fun a0 a' w'=>∃ v39 v40 v41 v42 v43 v44 v45 v46 v47 v48 v49 v50 v51 v52 v53 v54 v55 v56,a'=C8 a0 [(39,v39),(40,v40),(41,v41),(42,v42),(43,v43),(44,v44),(45,v45),(46,v46),(47,v47),(48,v48),(49,v49),(50,v50),(51,v51),(52,v52),(53,v53),(54,v54),(55,v55),(56,v56)]∧∃ ao cap,Tbl w' (w.heap.size+1) 62 112 n (upd f s (ao,cap)) (upd tabs s (tabs s++[⟨v,j,y⟩]))∧A6 w' w.heap.size 34 #[.int .i64 v,.slice fa fls.length fc,.slice (some ⟨gb,go,none⟩) ps.length pc]∧Below w.heap.size w w') (by kernel_rfl) ?_ ?_
  ·intro Q' hR hQp
   have hb0:Below wi.heap.size wi wi.drew:=N4 _
   have hS:SO (w.heap.size+1) s w.heap.size qb (qo+(i+1)) (.slice (f s).1 (tabs s).length (f s).2) v y wi.drew:=hS0
   generalize wi.drew=wa at *
   refine A9 hQp hS [0,1,2,3,4,5,6,7,8,9,10,11,12,13,14] ?_
   iterate 15 (refine B2 _ rfl (by kernel_rfl) (A0 (by kernel_rfl) (by intro w0 hw0;have hw1:=hw0;simp only [SO] at hw1;first|(go_simp;done)|(go_simp;rfl))) ?_;simp only [Act.put,St.tA,St.tD,St.tE,St.tS,St.tC,St.tZ])
   refine B3 ?_
   have hwz:wi.heap.size≤wa.heap.size:=hb0.size
   clear hS
   refine A7 (i:=15) rfl (by kernel_rfl) (by kernel_rfl) fun K15 hK15=>?_
   go_simp
   go_wp2_with fail
   have hb3:=G8 wa (.cells #[.int .i64 v,.int .i64 j,.int .i64 y] 112)
   have hsr:D7 G6 (fun _=>False) (wa.alloc (.cells #[.int .i64 v,.int .i64 j,.int .i64 y] 112)) (some ⟨wa.heap.size,0,none⟩) [⟨v,j,y⟩]:=D7.rule ⟨v,j,y⟩ rfl hv hjI hyI
   refine hK15 _ _ (fun _=>hS0.under (by omega) (by omega) (by omega) hb3) ?_
   clear hK15
   generalize wa.alloc (.cells #[.int .i64 v,.int .i64 j,.int .i64 y] 112)=wx at *
   have hb4:Below wi.heap.size wi wx:=hb0.trans (hb3.mono hwz)
   have hT4:=hT.under hb4
   have hP4:=hP.under hb4
   have hB4:Below w.heap.size w wx:=hb.trans (hb4.mono hb.size)
   have hown4:=hT4.own s hsn
   have hxz:=hb3.size
   refine A7 (i:=16) rfl (by kernel_rfl) (by kernel_rfl) fun K16 hK16=>?_
   refine Q3 (sh:=G6) (n:=(tabs s).length) (m:=1) (c:=1) (.tmp 44) (.tmp 54) 62 (by rfl) 112 i0 (.agg #[.int .i64 0,.int .i64 0,.int .i64 0]) 24 Tryz.underlying62 hi hz0 hz1 hz2 rfl (by decide) (ok:=fun _=>False) (base:=w.heap.size+1+1) (by rfl) hown4 (by rfl) rfl hsr (by simp only [maxLen];omega) (by omega) (by omega) ?_
   intro ao cap wy ho hg hlie
   have hb5:Below (w.heap.size+1+1) wx wy:=D6 hg (fun k hk=>(hown4.lt k hk).1) (by omega)
   simp only [Act.put,St.tA,St.tD,St.tE,St.tS,St.tC,St.tZ]
   have hP5:A6 wy w.heap.size 34 #[.int .i64 v,.slice fa fls.length fc,.slice (some ⟨gb,go,none⟩) ps.length pc]:=hP4.keep (hb5.block _ (by omega))
   have hob5:wy.cell? ⟨w.heap.size+1,s,none⟩=some (.slice (f s).1 (tabs s).length (f s).2):=B8 hb5 (by omega) (hT4.cell hsn)
   have hfz5:wy.frozen? ⟨w.heap.size+1,s,none⟩=false:=by
    have:=hb5.frozen (p:=⟨w.heap.size+1,s,none⟩) (by simp)
    rw [this];exact hT4.blk.cells.2 s
   have hT5:=hT4.put hsn (by simp) ho hg hlie
   have hS5:SO (w.heap.size+1) s w.heap.size qb (qo+(i+1)) (.slice (f s).1 (tabs s).length (f s).2) v y wy:=⟨hob5,hP5.cells.1 0,B8 (hB4.trans (hb5.mono (by omega))) hql (by have:=e2;exact (hb.cell (p:=⟨qb,qo+(i+1),none⟩) hql).symm.trans this)⟩
   refine hK16 _ _ (fun _=>hS5) ?_
   clear hK16
   refine A7 (i:=17) rfl (by kernel_rfl) (by kernel_rfl) fun K17 hK17=>?_
   go_simp
   go_wp2_with fail
   refine hK17 _ _ (fun _=>hS5) ?_
   clear hK17
   refine A7 (i:=18) rfl (by kernel_rfl) (by kernel_rfl) fun K18 hK18=>?_
   go_simp
   go_wp2_with fail
   refine hK18 _ _ (fun h=>absurd rfl h) ?_
   clear hK18
   refine B5 (by kernel_rfl) ?_ _
   refine hR _ _ ?_
   iterate 18 apply Exists.intro
   refine ⟨?_,⟨ao,cap,hT5,hP5.setOther (by simp) _,(hB4.trans (hb5.mono (by omega))).setCell (p:=⟨w.heap.size+1,s,none⟩) (Nat.le_succ _) _⟩⟩
   simp only [C8,Act.put,St.tS,St.tC,St.tZ]
   rfl
  rintro a' w8 ⟨v39,v40,v41,v42,v43,v44,v45,v46,v47,v48,v49,v50,v51,v52,v53,v54,v55,v56,rfl,hb8⟩
  simp only [C8,Act.put,St.tS,St.tC,St.tZ]
  obtain ⟨ao,cap,hT8,hP8,hb9⟩:=hb8
  go_wp2
  case roundEnd=>
   go_roundw
   case rel=>exact ⟨i+1,_,_,by go_num,by omega,hT8,hS3,hP8,hb9⟩
   case measure=>simp [intOf]<;>omega
open Go.RowKit Go.St
theorem B3l (x y:C1) (w:World):(binOp .neq 112 (.agg #[.int .i64 x.ver,.int .i64 x.flow,.int .i64 x.next]) (.agg #[.int .i64 y.ver,.int .i64 y.flow,.int .i64 y.next])).run Tryz.prog w=.ok (.bool (!decide (x=y))) w:=by
 obtain ⟨a,b,c⟩:=x
 obtain ⟨d,e,f⟩:=y
 rw [run_neq_struct,run_equalIn_agg _ _ _ _ _ (by kernel_rfl) (by kernel_rfl)]
 by_cases h1:a=d<;>by_cases h2:b=e<;>by_cases h3:c=f<;>simp [go_sem,h1,h2,h3,C1.mk.injEq]
end Go.Proofs.YtampcbncgofkoaaGreatDoor
namespace Go.St
theorem V8 {a:Option Addr} {n m c:Nat} (h:n=m):Ending.returned (.slice a n c)=.returned (.slice a m c):=by rw [h]
theorem RR.drewN {w:World} {g:Nat} {t:TypeId} {xs:List C1} {junk:List Value} (h:RR w g t xs junk) (n:Nat):RR (w.drewN n) g t xs junk:=⟨h.blk.drewN n,h.rng⟩
theorem H9.drewN {g:Nat} {a b:World} (h:H9 g a b) (n:Nat):H9 g a (b.drewN n):=⟨h.os,h.tape,h.output,h.size,h.block⟩
def Cmp (xs:List C1) (m kk:Nat) (zs:List C1):Prop:=zs.take kk=O6 (xs.take m)∧kk<m∧1≤kk∧zs.length=xs.length∧∀ i,kk≤i→zs[i]? =xs[i]?
theorem A3f:∀ (l:List C1) (p q r:C1),(p::l).getLast? =some q→Q9 p (l++[r])=if r=q then Q9 p l else Q9 p l++[r]
 |[],p,q,r,h=>by
  obtain rfl:p=q:=by simpa using h
  simp only [List.nil_append,Q9]
 |x::l,p,q,r,h=>by
  have h':(x::l).getLast? =some q:=by rw [List.getLast?_cons_cons] at h;exact h
  have ih:=A3f l x q r h'
  simp only [List.cons_append,Q9]
  rw [ih]
  by_cases e1:x=p<;>by_cases e2:r=q<;>simp [e1,e2]
theorem B19 (l:List C1) (q r:C1) (h:l.getLast? =some q):O6 (l++[r])=if r=q then O6 l else O6 l++[r]:=by
  cases l with
  |nil=>simp at h
  |cons p l=>
    show p::Q9 p (l++[r])=_
    rw [A3f l p q r h]
    split<;>rfl
theorem A15 {xs:List C1} {m:Nat} {q r:C1} (hm:1≤m) (hq:xs[m - 1]? =some q) (hr:xs[m]? =some r):O6 (xs.take (m+1))=if r=q then O6 (xs.take m) else O6 (xs.take m)++[r]:=by
 have hl:=(List.getElem?_eq_some_iff.1 hr).1
 rw [List.take_add_one,hr]
 refine B19 _ q r ?_
 rw [List.getLast?_eq_getElem?,List.length_take,show min m xs.length - 1=m - 1 by omega,List.getElem?_take,if_pos (by omega),hq]
theorem B3i (xs:List C1):O6 (xs.take 1)=xs.take 1:=by
 cases xs<;>rfl
theorem B1r {xs:List C1} {k:Nat} {q r:C1} (h:O6 (xs.take k)=xs.take k) (hk:1≤k) (hq:xs[k - 1]? =some q) (hr:xs[k]? =some r) (hne:r≠q):O6 (xs.take (k+1))=xs.take (k+1):=by
 rw [A15 hk hq hr,if_neg hne,h,List.take_add_one,hr];rfl
theorem Cmp.start {xs:List C1} {k:Nat} {q:C1} (h:O6 (xs.take k)=xs.take k) (hk:1≤k) (hq:xs[k - 1]? =some q) (hr:xs[k]? =some q):Cmp xs (k+1) k xs:=
 ⟨by rw [A15 hk hq hr,if_pos rfl,h],by omega,hk,rfl,fun _ _=>rfl⟩
theorem Cmp.skip {xs zs:List C1} {m kk:Nat} {q:C1} (h:Cmp xs m kk zs) (hq:xs[m - 1]? =some q) (hr:xs[m]? =some q):Cmp xs (m+1) kk zs:=by
 obtain ⟨h1,h2,h3,h4,h5⟩:=h
 exact ⟨by rw [A15 (by omega) hq hr,if_pos rfl,h1],by omega,h3,h4,h5⟩
theorem Cmp.keep {xs zs:List C1} {m kk:Nat} {q r:C1} (h:Cmp xs m kk zs) (hq:xs[m - 1]? =some q) (hr:xs[m]? =some r) (hne:r≠q):Cmp xs (m+1) (kk+1) (zs.set kk r):=by
 obtain ⟨h1,h2,h3,h4,h5⟩:=h
 have hm:=(List.getElem?_eq_some_iff.1 hr).1
 refine ⟨?_,by omega,by omega,by simpa using h4,fun i hi=>?_⟩
 ·rw [A15 (by omega) hq hr,if_neg hne,List.take_add_one,List.getElem?_set_self (by omega),List.take_set_of_le (Nat.le_refl _),h1];rfl
 ·rw [List.getElem?_set_ne (by omega)];exact h5 i (by omega)
theorem Cmp.done {xs zs:List C1} {m kk:Nat} (h:Cmp xs m kk zs) (hm:xs.length≤m):zs.take kk=O6 xs∧(O6 xs).length=min kk zs.length:=by
 have h1:=h.1
 rw [List.take_of_length_le hm] at h1
 exact ⟨h1,by rw [←h1];simp⟩
theorem A9r (xs:List C1) (h:xs.length<2):O6 xs=xs:=by
 match xs,h with
 |[],_=>rfl
 |[x],_=>rfl
end Go.St
namespace Go.Proofs.YtampcbncgofkoaaGreatDoor
open Go.RowKit Go.St
theorem W7:(Tryz.prog.info? 112).map (fun i=>(i.zero,i.size,i.bytes))=some (some (.agg #[.int .i64 0,.int .i64 0,.int .i64 0]),3,24):=by kernel_rfl
theorem B3k (x y:C1) (w:World):(binOp .eql 112 (.agg #[.int .i64 x.ver,.int .i64 x.flow,.int .i64 x.next]) (.agg #[.int .i64 y.ver,.int .i64 y.flow,.int .i64 y.next])).run Tryz.prog w=.ok (.bool (decide (x=y))) w:=by
 obtain ⟨a,b,c⟩:=x
 obtain ⟨d,e,f⟩:=y
 rw [run_eql_struct,run_equalIn_agg _ _ _ _ _ (by kernel_rfl) (by kernel_rfl)]
 by_cases h1:a=d<;>by_cases h2:b=e<;>by_cases h3:c=f<;>simp [go_sem,h1,h2,h3,C1.mk.injEq]
theorem B1c (n:Nat) (hn:0<n) (hbig:n * 24≤281474976710656) (w:World):
  Calls Tryz.prog 91 #[.slice none 0 0,.int .i64 n] w fun e w'=>∃ cap,e=.returned (.slice (some ⟨w.heap.size,0,none⟩) 0 cap)∧n≤cap∧(∀ ok:Nat→Prop,(∀ b,ok b→b<w.heap.size)→C7 G6 112 ok w.heap.size w' (some ⟨w.heap.size,0,none⟩) 0 cap [])∧Below w.heap.size w w':=by
 obtain ⟨i0,hi,hz0,hz1,hz2⟩:=info_parts W7
 have hrz:∀ ty,(Builtin.append_ #[62,3] ty #[.slice none 0 0,.int .i64 n]).run Tryz.prog w=
   .ok (.slice (some ⟨w.heap.size,0,none⟩) n (grownCap w n 0 112)) (w.drew.alloc (.cells ((#[]:Array Value)++Builtin.zeroCells #[.int .i64 0,.int .i64 0,.int .i64 0] n++Builtin.zeroCells #[.int .i64 0,.int .i64 0,.int .i64 0] (grownCap w n 0 112 - n)) 112)):=fun ty=>by
  have h:=Lib.run_append_grow_zeros (P:=Tryz.prog) w 62 3 ty 112 i0 _ .i64 .i64 Tryz.underlying62 Tryz.underlying3 hi hz0 none 0 0 [] (run_firstCells_none w.drew i0.size 0 0 0) n hn (by omega) (by omega) (by omega) (by rw [hz2];exact hbig) (by rw [Nat.zero_add,nextslicecap_zero hn,hz2];exact hbig)
  rw [Nat.zero_add] at h
  exact h
 have hge:=grownCap_ge w n 0 112
 have hcm:grownCap w n 0 112≤maxLen:=grownCap_le_maxLen w n 0 _ (by simp only [maxLen];omega)
 have hc63:grownCap w n 0 112≤9223372036854775807:=by simp only [maxLen] at hcm;omega
 generalize grownCap w n 0 112=cap at *
 have b1:¬((n:Int)<0):=by omega
 have b2:(n:Int)>0:=by omega
 have b3:IntKind.i64.wrap (n:Int)=n:=IntWalk.i64_in _ (by omega)
 go_enter Tryz.func91,Tryz.ntmps91
 go_wp2_with (at_builtin;go_must (refine Lib.wpList_append_run _ rfl _ _ _ _ rfl _ _ rfl rfl _ _ (hrz _) ?_))
 go_ret;exact ⟨cap,rfl,hge,fun ok hok=>C7.room _ cap (by simp) hcm (by simp [size_zeroCells,G6];omega) (by simpa using hok),by (repeat' (first|with_reducible (first|exact Below.refl _ _|assumption|refine Below.drew ?_|refine A3 ?_ _|refine Below.alloc ?_ ?_ _|refine Below.setCell ?_ ?_ _)|omega|(simp;done)|(simp;omega)))⟩
theorem A8y (w:World):
  Calls Tryz.prog 91 #[.slice none 0 0,.int .i64 0] w fun e w'=>e=.returned (.slice none 0 0)∧w'=w:=by
 go_enter Tryz.func91,Tryz.ntmps91
 go_wp2
 go_ret;exact ⟨rfl,rfl⟩
def B5z (n1 n2:Nat) (i s:Nat):Prop:=(i=0∧s=0)∨(i=1∧s=n1)∨(i=2∧s=n1+n2)
theorem B2g (xs ys:List C1) (ok ok':Nat→Prop) (ax ay:Option Addr) (cx cy b:Nat) (w:World) (hx:A8 G6 ok w ax cx xs) (hy:A8 G6 ok' w ay cy ys)
  (c0:w.cell? ⟨b,0,none⟩=some (.slice ax xs.length cx)) (c1:w.cell? ⟨b,1,none⟩=some (.slice ay ys.length cy)) (hbig:xs.length * 24≤140737488355328) (hbig2:ys.length * 24≤140737488355328):
  Calls Tryz.prog 75 #[.slice (some ⟨b,0,none⟩) 2 2] w fun e w'=>((xs++ys=[]∧e=.returned (.slice none 0 0))∨
   (∃ g cap junk,e=.returned (.slice (some ⟨g,0,none⟩) (xs++ys).length cap)∧(xs++ys).length≤cap∧cap≤maxLen∧w.heap.size≤g∧RR w' g 112 (xs++ys) junk))∧Below w.heap.size w w':=by
 obtain ⟨i0,hi,hz0,hz1,hz2⟩:=info_parts W7
 have hbl:b<w.heap.size:=by
  rcases Nat.lt_or_ge b w.heap.size with h|h
  ·exact h
  ·simp [World.cell?,Array.getElem?_eq_none h] at c0
 have hlz:(xs++ys).length=xs.length+ys.length:=List.length_append
 generalize hn1:xs.length=n1 at *
 generalize hn2:ys.length=n2 at *
 go_enter Tryz.func75,Tryz.ntmps75
 go_wp2
 go_loop [3,5,11] (fun ss _ ii=>∃ i s:Nat,ss=.int .i64 s∧ii=.int .i64 i∧B5z n1 n2 i s) (fun _ _ ii=>2 - (intOf ii).toNat)
 case atStart=>exact ⟨0,0,rfl,rfl,.inl ⟨rfl,rfl⟩⟩
 case round=>
  obtain ⟨i,s,rfl,rfl,(⟨rfl,rfl⟩|⟨rfl,rfl⟩|⟨rfl,rfl⟩)⟩:=hrel
  ·go_wp2
   go_round
   case rel=>exact ⟨1,n1,by go_num,by go_num,.inr (.inl ⟨rfl,rfl⟩)⟩
   case measure=>simp [intOf]
  ·have b1:¬((s:Int)+(n2:Int)<0):=by omega
   go_wp2
   go_round
   case rel=>exact ⟨2,s+n2,by go_num,by go_num,.inr (.inr ⟨rfl,rfl⟩)⟩
   case measure=>simp [intOf]
  by_cases hz:n1+n2=0
  ·obtain rfl:n1=0:=by omega
   obtain rfl:n2=0:=by omega
   obtain rfl:xs=[]:=List.eq_nil_of_length_eq_zero hn1
   obtain rfl:ys=[]:=List.eq_nil_of_length_eq_zero hn2
   go_wp2_with fail
   refine (A8y _).mono ?_
   rintro e w1 ⟨rfl,rfl⟩
   rename World=>w
   have hr0:∀ (ty:TypeId) (a:Option Addr) (c:Nat) (w:World),(Builtin.append_ #[62,62] ty #[.slice none 0 0,.slice a 0 c]).run Tryz.prog w=.ok (.slice none 0 0) w:=fun ty a c w=>by
    cases a<;>simp [Builtin.append_,run_underlying (P:=Tryz.prog) Tryz.underlying62,sizeOf,typeInfo,hi,Builtin.lenOf,Builtin.firstCells,loadCells,loadCellsFrom,storeCells]
   go_wp2
   go_loop [6,8,27] (fun ss _ ii=>∃ i:Nat,ss=.slice none 0 0∧ii=.int .i64 i∧i≤2) (fun _ _ ii=>2 - (intOf ii).toNat)
   case atStart=>exact ⟨0,rfl,rfl,by omega⟩
   case round=>
    obtain ⟨i,rfl,rfl,hi2⟩:=hrel
    rcases (show i=0∨i=1∨i=2 by omega) with rfl|rfl|rfl
    ·go_wp2_with (at_builtin;go_must (refine Lib.wpList_append_run _ rfl _ _ _ _ rfl _ _ rfl rfl _ _ (hr0 _ _ _ _) ?_))
     go_round
     case rel=>exact ⟨1,rfl,by go_num,by omega⟩
     case measure=>simp [intOf]
    ·go_wp2_with (at_builtin;go_must (refine Lib.wpList_append_run _ rfl _ _ _ _ rfl _ _ rfl rfl _ _ (hr0 _ _ _ _) ?_))
     go_round
     case rel=>exact ⟨2,rfl,by go_num,by omega⟩
     case measure=>simp [intOf]
    ·go_wp2
     go_ret;exact ⟨.inl rfl,by (repeat' (first|with_reducible (first|exact Below.refl _ _|assumption|refine Below.drew ?_|refine A3 ?_ _|refine Below.alloc ?_ ?_ _|refine Below.setCell ?_ ?_ _)|omega|(simp;done)|(simp;omega)))⟩
  have hgr:=B1c (n1+n2) (by omega) (by omega) w
  have HN1:=Lib.hid hn1
  have HN2:=Lib.hid hn2
  have HLZ:=Lib.hid hlz
  clear hn1 hn2 hz hlz
  rw [Int.natCast_add] at hgr
  go_wp2_with fail
  refine hgr.mono ?_
  rintro e w1 ⟨cap,rfl,hcap,hown,hb1⟩
  have hown1:=hown (fun k=>k<w.heap.size) (fun _ h=>h)
  have hx0:A8 G6 (fun k=>k<w.heap.size) w ax cx xs:=hx.mono fun b hb _=>⟨hb,rfl⟩
  have hy0:A8 G6 (fun k=>k<w.heap.size) w ay cy ys:=hy.mono fun b hb _=>⟨hb,rfl⟩
  clear hown hgr hx hy
  go_wp2
  go_loopw [6,8,27] (fun ss _ ii wr=>∃ (i s:Nat) (zs:List C1),ss=.slice (some ⟨w.heap.size,0,none⟩) s cap∧ii=.int .i64 i∧((i=0∧zs=[]∧s=0)∨(i=1∧zs=xs∧s=n1)∨(i=2∧zs=xs++ys∧s=n1+n2))∧C7 G6 112 (fun k=>k<w.heap.size) w.heap.size wr (some ⟨w.heap.size,0,none⟩) s cap zs∧Below w.heap.size w wr) (fun _ _ ii _=>2 - (intOf ii).toNat)
  case atStart=>exact ⟨0,0,[],rfl,rfl,.inl ⟨rfl,rfl,rfl⟩,hown1,hb1⟩
  case round=>
   clear hown1 hb1
   obtain ⟨i,s,zs,rfl,rfl,hI,hown,hb⟩:=hrel
   rename World=>wo
   have q0:=(B8 hb hbl c0)
   have q1:=(B8 hb hbl c1)
   have hxo:=hx0.below hb
   have hyo:=hy0.below hb
   have hz:=hb.size
   have HN1:=HN1.out
   have HN2:=HN2.out
   rcases hI with ⟨rfl,rfl,rfl⟩|⟨rfl,rfl,rfl⟩|⟨rfl,rfl,rfl⟩
   ·have H1:=Lib.hid HN1
    have H2:=Lib.hid HN2
    clear HN1 HN2 hyo
    go_wp2_with (at_builtin;go_must (refine A0x (sh:=G6) rfl _ _ 62 rfl 112 i0 Tryz.underlying62 hi hz1 (by decide) rfl hown rfl H1.out hxo.src (by omega) ?_);go_must (
     intro w2 hown1 hg1
     have hb2:=D6 (B:=w.heap.size) hg1 (fun k hk=>(hown.lt k hk).1) hz
     rw [List.nil_append,Nat.zero_add] at hown1))
    go_roundw
    case rel=>exact ⟨1,_,_,rfl,by go_num,.inr (.inl ⟨rfl,rfl,rfl⟩),hown1,hb.trans hb2⟩
    case measure=>simp [intOf]
   ·have H1:=Lib.hid HN1
    have H2:=Lib.hid HN2
    clear HN1 HN2 hxo
    go_wp2_with (at_builtin;go_must (refine A0x (sh:=G6) rfl _ _ 62 rfl 112 i0 Tryz.underlying62 hi hz1 (by decide) rfl hown rfl H2.out hyo.src (by omega) ?_);go_must (
     intro w2 hown1 hg1
     have hb2:=D6 (B:=w.heap.size) hg1 (fun k hk=>(hown.lt k hk).1) hz))
    go_roundw
    case rel=>exact ⟨2,_,_,rfl,by go_num,.inr (.inr ⟨rfl,rfl,rfl⟩),hown1,hb.trans hb2⟩
    case measure=>simp [intOf]
   ·have H1:=Lib.hid HN1
    have H2:=Lib.hid HN2
    clear HN1 HN2 hxo hyo
    go_wp2
    obtain ⟨junk,hRR,k1,k2,k3,k4⟩:=hown.rr
    go_ret;exact ⟨.inr ⟨w.heap.size,cap,junk,V8 k2,by omega,k4,k1,hRR⟩,by (repeat' (first|with_reducible (first|exact Below.refl _ _|assumption|refine Below.drew ?_|refine A3 ?_ _|refine Below.alloc ?_ ?_ _|refine Below.setCell ?_ ?_ _)|omega|(simp;done)|(simp;omega)))⟩
theorem B12 (g n cap:Nat) (xs:List C1) (junk:List Value) (w:World) (h:RR w g 112 xs junk) (hn:xs.length=n) (hnc:n≤cap) (hcm:cap≤maxLen) (hbig:n≤100000000000000):
  Calls Tryz.prog 78 #[.slice (some ⟨g,0,none⟩) n cap] w fun e w'=>e=.returned (.slice (some ⟨g,0,none⟩) (O6 xs).length cap)∧(O6 xs).length≤n∧(∃ junk',RR w' g 112 (O6 xs) junk')∧H9 g w w':=by
 obtain ⟨i0,hi,hz0,hz1,hz2⟩:=info_parts W7
 have hN0:Hid (H9 g w w):=H9.refl _ _
 have hc63:cap≤9223372036854775807:=by simp only [maxLen] at hcm;omega
 have q1:Tryz.prog.eqGuardType Tryz.prog.depth 112=false:=by kernel_rfl
 by_cases h2:n<2
 ·have HE:Hid (O6 xs=xs):=A9r xs (by omega)
  have HN:=Lib.hid hn
  have b1:(n:Int)<2:=by omega
  clear hn h2
  go_enter Tryz.func78,Tryz.ntmps78
  go_wp2
  go_ret;exact ⟨V8 (by rw [HE.out,HN.out]),by rw [HE.out,HN.out];exact Nat.le_refl _,⟨junk,by rw [HE.out];exact h⟩,hN0.out⟩
 have b1:¬(n:Int)<2:=by omega
 have hst:Hid (O6 (xs.take 1)=xs.take 1):=B3i xs
 have hxl:∀ k,k<n→∃ x,xs[k]? =some x:=fun k hk=>⟨_,List.getElem?_eq_getElem (by omega)⟩
 have HXL:=Lib.hid hxl
 have HN:=Lib.hid hn
 have HEN:Hid (O6 (xs.take n)=xs.take n→O6 xs=xs):=fun h=>by rw [List.take_of_length_le (by omega)] at h;exact h
 have HDN:Hid (∀ m kk zs,Cmp xs m kk zs→n≤m→zs.take kk=O6 xs∧(O6 xs).length=min kk zs.length):=fun m kk zs h1 h2=>h1.done (by omega)
 have HLN:Hid (∀ m kk zs,Cmp xs m kk zs→zs.length=n):=fun m kk zs h1=>by rw [h1.2.2.2.1,hn]
 clear hn hxl
 go_enter Tryz.func78,Tryz.ntmps78
 go_wp2
 go_loopw [3] (fun kk wr=>∃ k:Nat,kk=.int .i64 k∧1≤k∧k≤n∧Hid (O6 (xs.take k)=xs.take k)∧RR wr g 112 xs junk∧Hid (H9 g w wr)) (fun kk _=>n - (intOf kk).toNat)
 case atStart=>exact ⟨1,rfl,Nat.le_refl _,by omega,hst,h,hN0⟩
 case round=>
  clear hst h hN0
  obtain ⟨k,rfl,hk1,hkn,hS,hR,hN⟩:=hrel
  rename World=>wo
  by_cases hlt:k<n
  case neg=>
   obtain rfl:k=n:=by omega
   have HE:=Lib.hid (HEN.out hS.out)
   clear hS
   go_wp2
   go_ret;exact ⟨V8 (by rw [HE.out,HN.out]),by rw [HE.out,HN.out];exact Nat.le_refl _,⟨junk,by rw [HE.out];exact hR⟩,hN.out⟩
  obtain ⟨x,hx⟩:=HXL.out k hlt
  obtain ⟨y,hy⟩:=HXL.out (k - 1) (by omega)
  have b2:(k:Int)<(n:Int):=by omega
  have e1:(k:Int) - 1=((k - 1:Nat):Int):=by omega
  have b3:((k - 1:Nat):Int)<(n:Int):=by omega
  obtain ⟨x0,x1,x2⟩:=hR.get hx
  obtain ⟨y0,y1,y2⟩:=hR.get hy
  have hq:=B3k x y
  have HX:=Lib.hid hx
  have HY:=Lib.hid hy
  clear hx hy
  by_cases hxy:x=y
  ·subst hxy
   rw [decide_eq_true rfl] at hq
   have hC:=Lib.hid (Cmp.start hS.out hk1 HY.out HX.out)
   clear hS
   go_wp2
   go_quiet (fail)
   go_wp2
   clear x0 x1 x2 y0 y1 y2 hq
   go_loopw [3,5] (fun kk jj wr=>∃ (q j:Nat) (zs:List C1),kk=.int .i64 q∧jj=.int .i64 j∧1≤j∧k+j≤n∧q<k+j∧1≤q∧Hid (Cmp xs (k+j) q zs)∧RR wr g 112 zs junk∧Hid (H9 g w wr)) (fun _ jj _=>n - (intOf jj).toNat)
   case atStart=>exact ⟨k,1,xs,rfl,rfl,Nat.le_refl _,by omega,by omega,hk1,hC,hR.drewN _,hN.out.drewN _⟩
   case round=>
    clear hC hR hN
    obtain ⟨q,j,zs,rfl,rfl,hj1,hjn,hqj,hq1,hC,hR,hN⟩:=hrel
    rename World=>wi
    have hzl:=HLN.out _ _ _ hC.out
    by_cases hlt2:k+j<n
    case neg=>
     obtain ⟨g1,g2⟩:=HDN.out _ _ _ hC.out (by omega)
     obtain ⟨wc,hcl,⟨junk',hRc⟩,hNc⟩:=A2e (P:=Tryz.prog) (t:=62) (k:=q) (n:=n) Tryz.underlying62 hi hz0 rfl (by decide) hR hzl (by omega)
     have HG1:=Lib.hid g1
     have hlq:(O6 xs).length=q:=by rw [g2];omega
     have HLQ:=Lib.hid hlq
     have hjn':j=n - k:=by omega
     have b4:¬(j:Int)<((n - k:Nat):Int):=by omega
     have HNC:=Lib.hid hNc
     clear hC g1 g2 hlq hNc hzl
     go_wp2
     go_ret;exact ⟨V8 (by rw [HLQ.out]),by rw [HLQ.out];omega,⟨junk',by rw [←HG1.out];exact hRc⟩,hN.out.trans HNC.out⟩
    obtain ⟨r,hr⟩:=HXL.out (k+j) hlt2
    obtain ⟨p,hp⟩:=HXL.out (k+j - 1) (by omega)
    have hrz:zs[k+j]? =some r:=by rw [←hr];exact hC.out.2.2.2.2 _ (by omega)
    have hpz:zs[k+j - 1]? =some p:=by rw [←hp];exact hC.out.2.2.2.2 _ (by omega)
    obtain ⟨x0,x1,x2⟩:=hR.get hrz
    obtain ⟨y0,y1,y2⟩:=hR.get hpz
    have hri:=hR.elem hrz
    have e5:(k+j - 1) * 3=k * 3+(j - 1) * 3:=by omega
    have e6:(k+j) * 3=k * 3+j * 3:=by omega
    rw [e6] at x0 x1 x2
    rw [e5] at y0 y1 y2
    have b4:(j:Int)<((n - k:Nat):Int):=by omega
    have e7:(j:Int) - 1=((j - 1:Nat):Int):=by omega
    have b5:((j - 1:Nat):Int)<((n - k:Nat):Int):=by omega
    have b6:(q:Int)<(n:Int):=by omega
    have hfz:=hR.frz
    have hq:=B3l r p
    have HRX:=Lib.hid hr
    have HPX:=Lib.hid hp
    clear hr hp hrz hpz
    by_cases hrp:r=p
    ·subst hrp
     rw [decide_eq_true rfl] at hq
     have hC2:=Lib.hid (hC.out.skip HPX.out HRX.out)
     clear hC
     go_wp2
     go_quiet (fail)
     go_wp2
     case roundEnd=>
      go_roundw
      case rel=>exact ⟨q,j+1,zs,rfl,by go_num,by omega,by omega,by omega,hq1,hC2,hR.drewN _,hN.out.drewN _⟩
      case measure=>simp [intOf]<;>omega
    ·rw [decide_eq_false hrp] at hq
     have hC2:=Lib.hid (hC.out.keep HPX.out HRX.out hrp)
     obtain ⟨o,ho⟩:∃ o,zs[q]? =some o:=⟨_,List.getElem?_eq_getElem (by omega)⟩
     obtain ⟨o0,o1,o2⟩:=hR.get ho
     clear hC ho
     go_wp2
     go_quiet (fail)
     have hR2:=(hR.drewN nq).put (i:=q) (by omega) hri
     have hN2:=Lib.hid ((((hN.out.drewN nq).set (q * 3) (.int .i64 r.ver)).set (q * 3+1) (.int .i64 r.flow)).set (q * 3+2) (.int .i64 r.next))
     go_wp2
     case roundEnd=>
      go_roundw
      case rel=>exact ⟨q+1,j+1,_,by go_num,by go_num,by omega,by omega,by omega,by omega,hC2,hR2,hN2⟩
      case measure=>simp [intOf]<;>omega
  ·rw [decide_eq_false hxy] at hq
   have hS2:=Lib.hid (B1r hS.out hk1 HY.out HX.out hxy)
   clear hS
   go_wp2
   go_quiet (fail)
   go_wp2
   case roundEnd=>
    go_roundw
    case rel=>exact ⟨k+1,by go_num,by omega,by omega,hS2,hR.drewN _,hN.out.drewN _⟩
    case measure=>simp [intOf]<;>omega
theorem A6c (ao:Option Addr) (cap:Nat) (w:World):
  Calls Tryz.prog 78 #[.slice ao 0 cap] w fun e w'=>e=.returned (.slice ao 0 cap)∧w'=w:=by
 go_enter Tryz.func78,Tryz.ntmps78
 go_wp2
 go_ret;exact ⟨rfl,rfl⟩
end Go.Proofs.YtampcbncgofkoaaGreatDoor
namespace Go.St
open Go.RowKit
theorem O7 {P:Program} (t e:TypeId) (h:P.underlying t=some (.slice e)) (w:World) (a:Option Addr) (l c:Nat):(binOp .eql t (.slice a l c) (.slice none 0 0)).run P w=.ok (.bool a.isNone) w:=by
 show ((do return .bool (←Op.equal t _ _)):Sem Value).run P w=_
 simp [run_equal_slice_nil w t e a l c h]
def A1r (x:Int) (l:List Int):Int:=match N8 x l with|none=>-1|some i=>i
theorem B09 {x:Int}:∀ {l:List Int} {j:Nat},x ∉ l.take j→l[j]? =some x→N8 x l=some j
 |[],j,_,h=>by simp at h
 |y::r,0,_,h=>by simp at h;simp [N8,h]
 |y::r,j+1,h0,h=>by
  simp only [List.take_succ_cons,List.mem_cons,not_or] at h0
  simp only [N8]
  rw [if_neg h0.1,B09 h0.2 (by simpa using h)]
  rfl
theorem B06 {x:Int}:∀ {l:List Int},x ∉ l→N8 x l=none
 |[],_=>rfl
 |y::r,h=>by
  simp only [List.mem_cons,not_or] at h
  simp only [N8]
  rw [if_neg h.1,B06 h.2]
  rfl
theorem A8o {x:Int} {l:List Int} {j:Nat} (h:x ∉ l.take j) (hj:j<l.length) (he:(x==l[j])=true):A1r x l=j:=by
 unfold A1r
 rw [B09 h (by rw [List.getElem?_eq_getElem hj];simpa using (beq_iff_eq.1 he).symm)]
theorem A3u {x:Int} {l:List Int} {j:Nat} (h:x ∉ l.take j) (hj:j<l.length) (he:(x==l[j])=false):x ∉ l.take (j+1):=by
 rw [List.take_succ_eq_append_getElem hj]
 intro hm
 rcases List.mem_append.1 hm with hm|hm
 ·exact h hm
 ·simp at hm;simp [hm] at he
theorem A85 {x:Int} {l:List Int} {j:Nat} (h:x ∉ l.take j) (hj:¬j<l.length):A1r x l=-1:=by
 rw [List.take_of_length_le (by omega)] at h
 unfold A1r
 rw [B06 h]
theorem B2l {x:Int} {l:List Int}:decide (A1r x l≥0)=decide (x∈l):=by
  unfold A1r
  cases h:N8 x l with
  |none=>simp [A0c h]
  |some i=>simp [List.mem_of_getElem? (S2 h)]
theorem A66 {x:Int} {l:List Int}:decide (0≤A1r x l)=decide (x∈l):=B2l
end Go.St
namespace Go.Proofs.YtampcbncgofkoaaGreatDoor
open Go.RowKit Go.St
theorem P6:(Tryz.prog.info? 3).map (fun i=>(i.zero,i.size,i.bytes))=some (some (.int .i64 0),1,8):=by kernel_rfl
theorem A29 (l:List Int) (x:Int) (ok:Nat→Prop) (ax:Option Addr) (cx:Nat) (w:World) (hx:A8 C2 ok w ax cx l):
  Calls Tryz.prog 43 #[.slice ax l.length cx,.int .i64 x] w fun e w'=>e=.returned (.int .i64 (A1r x l))∧w'=w:=by
 have hlx:=hx.len_le
 go_enter Tryz.func43,Tryz.ntmps43
 go_wp2
 go_loop [5,8] (fun _ i=>∃ j:Nat,j≤l.length∧i=.int .i64 j∧Hid (x ∉ l.take j)) (fun _ i=>l.length - (intOf i).toNat)
 case atStart=>exact ⟨0,Nat.zero_le _,rfl,by show x ∉ _;simp⟩
 case round=>
  obtain ⟨j,hj,rfl,hall⟩:=hrel
  by_cases hlt:j<l.length
  ·obtain ⟨b,off,rfl,_,hbl,cs,hcs,hce⟩:=hx.get (List.getElem?_eq_getElem hlt)
   obtain ⟨rfl,hi1,hi2⟩:=hcs
   have e0:=hce 0 _ rfl
   clear hce
   simp only [C2,Nat.add_zero,Nat.mul_one] at e0
   have hgo:=A3u hall.out hlt
   have hhit:=A8o hall.out hlt
   generalize l[j]=y at *
   cases p1:(x==y)
   ·have HG:=Lib.hid (hgo p1)
    clear hgo hhit
    go_wp2
    go_round
    case rel=>exact ⟨j+1,by omega,by go_num,HG⟩
    case measure=>simp [intOf];omega
   ·have HH:=Lib.hid (hhit p1)
    clear hgo hhit
    go_wp2
    go_ret;exact ⟨I0 HH.out.symm,rfl⟩
  ·have HE:=Lib.hid (A85 hall.out hlt)
   go_wp2
   go_ret;exact ⟨I0 HE.out.symm,rfl⟩
theorem X3 (l:List Int) (x:Int) (ok:Nat→Prop) (ax:Option Addr) (cx:Nat) (w:World) (hx:A8 C2 ok w ax cx l):
  Calls Tryz.prog 27 #[.slice ax l.length cx,.int .i64 x] w fun e w'=>e=.returned (.bool (decide (x∈l)))∧w'=w:=by
 go_enter Tryz.func27,Tryz.ntmps27
 go_wp2_with fail
 refine (A29 l x ok ax cx w hx).mono ?_
 rintro e w' ⟨rfl,rfl⟩
 go_wp2
 go_ret;exact ⟨C13 A66,rfl⟩
theorem B21 (l:List Int) (ok:Nat→Prop) (ax:Option Addr) (cx:Nat) (w:World) (hx:A8 C2 ok w ax cx l) (hn:ax=none→cx=0) (hsm:l.length≤1000000):
  Calls Tryz.prog 16 #[.slice ax l.length cx] w fun e w'=>∃ ao cap,e=.returned (.slice ao l.length cap)∧A8 C2 (fun b=>w.heap.size≤b) w' ao cap l∧(ao=none↔ax=none)∧Below w.heap.size w w':=by
 obtain ⟨i0,hi,hz0,hz1,hz2⟩:=info_parts P6
 have hlx:=hx.len_le
 have hnil:=O7 (P:=Tryz.prog) 41 3 Tryz.underlying41
 cases ax with
 |none=>
  obtain rfl:l=[]:=by
   obtain ⟨_,_,h|⟨_,_,h,_⟩⟩:=hx
   ·exact h
   ·cases h
  obtain rfl:=hn rfl
  go_enter Tryz.func16,Tryz.ntmps16
  go_wp2
  go_ret;exact ⟨none,0,rfl,A8.nil _ _ _ _,by simp,by (repeat' (first|with_reducible (first|exact Below.refl _ _|assumption|refine Below.drew ?_|refine A3 ?_ _|refine Below.alloc ?_ ?_ _|refine Below.setCell ?_ ?_ _)|omega|(simp;done)|(simp;omega)))⟩
 |some a=>
  have hown:C7 C2 3 (fun _=>False) w.heap.size (w.alloc (.cells (([]:List Int).map (Value.int .i64)).toArray 3)) (some ⟨w.heap.size,0,none⟩) 0 0 []:=C7.lit rfl rfl (Nat.le_refl _) (by decide) (by simp) (fun _ h=>h.elim)
  have hlm:l.length≤9223372036854775807:=hlx
  go_enter Tryz.func16,Tryz.ntmps16
  go_wp2_with (at_builtin;go_must (refine H4 (sh:=C2) rfl _ _ 41 rfl 3 i0 (.int .i64 0) 8 Tryz.underlying41 hi hz0 hz1 hz2 rfl (by decide) rfl hown rfl rfl ((hx.below (by (repeat' (first|with_reducible (first|exact Below.refl _ _|assumption|refine Below.drew ?_|refine A3 ?_ _|refine Below.alloc ?_ ?_ _|refine Below.setCell ?_ ?_ _)|omega|(simp;done)|(simp;omega))))).src) (by simp only [maxLen];omega) (by omega) (by first|omega|(simp;done)|(simp;omega)) ?_);go_must (
   intro ao1 cap1 w2 hown1 hg1 hbk
   have hb2:=D6 (B:=w.heap.size) hg1 (fun k hk=>(hown.lt k hk).1) (by first|omega|(simp;done)|(simp;omega))
   rw [List.nil_append,Nat.zero_add] at hown1))
  have hrow:A8 C2 (fun b=>w.heap.size≤b) w2 ao1 cap1 l:=hown1.row (fun _ h=>h.elim) (fun k hk=>(hown1.lt k hk).1)
  have hne:ao1≠none:=by rintro rfl;simp [blk] at hbk
  go_ret;exact ⟨ao1,cap1,rfl,hrow,by simp [hne],Below.trans (by (repeat' (first|with_reducible (first|exact Below.refl _ _|assumption|refine Below.drew ?_|refine A3 ?_ _|refine Below.alloc ?_ ?_ _|refine Below.setCell ?_ ?_ _)|omega|(simp;done)|(simp;omega)))) hb2⟩
theorem B32 (l:List Int) (x:Int) (ok:Nat→Prop) (ax:Option Addr) (cx:Nat) (w:World) (hx:A8 C2 ok w ax cx l):
  Calls Tryz.prog 59 #[.slice ax l.length cx,.int .i64 x] w fun e w'=>e=.returned (.int .i64 (A1r x l))∧w'=w:=by
 have hlx:=hx.len_le
 go_enter Tryz.func59,Tryz.ntmps59
 go_wp2
 go_loop [5,8] (fun _ i=>∃ j:Nat,j≤l.length∧i=.int .i64 j∧Hid (x ∉ l.take j)) (fun _ i=>l.length - (intOf i).toNat)
 case atStart=>exact ⟨0,Nat.zero_le _,rfl,by show x ∉ _;simp⟩
 case round=>
  obtain ⟨j,hj,rfl,hall⟩:=hrel
  by_cases hlt:j<l.length
  ·obtain ⟨b,off,rfl,_,hbl,cs,hcs,hce⟩:=hx.get (List.getElem?_eq_getElem hlt)
   obtain ⟨rfl,hi1,hi2⟩:=hcs
   have e0:=hce 0 _ rfl
   clear hce
   simp only [C2,Nat.add_zero,Nat.mul_one] at e0
   have hgo:=A3u hall.out hlt
   have hhit:=A8o hall.out hlt
   generalize l[j]=y at *
   cases p1:(x==y)
   ·have HG:=Lib.hid (hgo p1)
    clear hgo hhit
    go_wp2
    go_round
    case rel=>exact ⟨j+1,by omega,by go_num,HG⟩
    case measure=>simp [intOf];omega
   ·have HH:=Lib.hid (hhit p1)
    clear hgo hhit
    go_wp2
    go_ret;exact ⟨I0 HH.out.symm,rfl⟩
  ·have HE:=Lib.hid (A85 hall.out hlt)
   go_wp2
   go_ret;exact ⟨I0 HE.out.symm,rfl⟩
theorem A39 (l:List Int) (x:Int) (ok:Nat→Prop) (ax:Option Addr) (cx:Nat) (w:World) (hx:A8 C2 ok w ax cx l):
  Calls Tryz.prog 45 #[.slice ax l.length cx,.int .i64 x] w fun e w'=>e=.returned (.bool (decide (x∈l)))∧w'=w:=by
 go_enter Tryz.func45,Tryz.ntmps45
 go_wp2_with fail
 refine (B32 l x ok ax cx w hx).mono ?_
 rintro e w' ⟨rfl,rfl⟩
 go_wp2
 go_ret;exact ⟨C13 A66,rfl⟩
theorem A7l (l:List Int) (ok:Nat→Prop) (ax:Option Addr) (cx:Nat) (w:World) (hx:A8 C2 ok w ax cx l) (hn:ax=none→cx=0) (hsm:l.length≤1000000):
  Calls Tryz.prog 38 #[.slice ax l.length cx] w fun e w'=>∃ ao cap,e=.returned (.slice ao l.length cap)∧A8 C2 (fun b=>w.heap.size≤b) w' ao cap l∧(ao=none↔ax=none)∧Below w.heap.size w w':=by
 obtain ⟨i0,hi,hz0,hz1,hz2⟩:=info_parts P6
 have hlx:=hx.len_le
 have hnil:=O7 (P:=Tryz.prog) 72 3 Tryz.underlying72
 cases ax with
 |none=>
  obtain rfl:l=[]:=by
   obtain ⟨_,_,h|⟨_,_,h,_⟩⟩:=hx
   ·exact h
   ·cases h
  obtain rfl:=hn rfl
  go_enter Tryz.func38,Tryz.ntmps38
  go_wp2
  go_ret;exact ⟨none,0,rfl,A8.nil _ _ _ _,by simp,by (repeat' (first|with_reducible (first|exact Below.refl _ _|assumption|refine Below.drew ?_|refine A3 ?_ _|refine Below.alloc ?_ ?_ _|refine Below.setCell ?_ ?_ _)|omega|(simp;done)|(simp;omega)))⟩
 |some a=>
  have hown:C7 C2 3 (fun _=>False) w.heap.size (w.alloc (.cells (([]:List Int).map (Value.int .i64)).toArray 3)) (some ⟨w.heap.size,0,none⟩) 0 0 []:=C7.lit rfl rfl (Nat.le_refl _) (by decide) (by simp) (fun _ h=>h.elim)
  have hlm:l.length≤9223372036854775807:=hlx
  go_enter Tryz.func38,Tryz.ntmps38
  go_wp2_with (at_builtin;go_must (refine H4 (sh:=C2) rfl _ _ 72 rfl 3 i0 (.int .i64 0) 8 Tryz.underlying72 hi hz0 hz1 hz2 rfl (by decide) rfl hown rfl rfl ((hx.below (by (repeat' (first|with_reducible (first|exact Below.refl _ _|assumption|refine Below.drew ?_|refine A3 ?_ _|refine Below.alloc ?_ ?_ _|refine Below.setCell ?_ ?_ _)|omega|(simp;done)|(simp;omega))))).src) (by simp only [maxLen];omega) (by omega) (by first|omega|(simp;done)|(simp;omega)) ?_);go_must (
   intro ao1 cap1 w2 hown1 hg1 hbk
   have hb2:=D6 (B:=w.heap.size) hg1 (fun k hk=>(hown.lt k hk).1) (by first|omega|(simp;done)|(simp;omega))
   rw [List.nil_append,Nat.zero_add] at hown1))
  have hrow:A8 C2 (fun b=>w.heap.size≤b) w2 ao1 cap1 l:=hown1.row (fun _ h=>h.elim) (fun k hk=>(hown1.lt k hk).1)
  have hne:ao1≠none:=by rintro rfl;simp [blk] at hbk
  go_ret;exact ⟨ao1,cap1,rfl,hrow,by simp [hne],Below.trans (by (repeat' (first|with_reducible (first|exact Below.refl _ _|assumption|refine Below.drew ?_|refine A3 ?_ _|refine Below.alloc ?_ ?_ _|refine Below.setCell ?_ ?_ _)|omega|(simp;done)|(simp;omega)))) hb2⟩
end Go.Proofs.YtampcbncgofkoaaGreatDoor
namespace Go.St
theorem B57 {n src dst c:Int} {l:List Int} {j:Nat} (hj:j<l.length) (h:c=F1 n src dst (l.take j) (l.drop j)) (h1:¬(l[j]<0∨n≤l[j])) (h2:¬(l[j]=src∨l[j]=dst)) (h3:l[j] ∉ l.take j):
  c=F1 n src dst (l.take (j+1)) (l.drop (j+1)):=by
 rw [h,List.drop_eq_getElem_cons hj,F1,if_neg h1,if_neg h2,if_neg h3,List.take_succ_eq_append_getElem hj]
theorem B5s {n src dst c:Int} {l:List Int} {j:Nat} (hj:j<l.length) (h:c=F1 n src dst (l.take j) (l.drop j)) (h1:l[j]<0∨n≤l[j]):c=6:=by
 rw [h,List.drop_eq_getElem_cons hj,F1,if_pos h1]
theorem B5q {n src dst c:Int} {l:List Int} {j:Nat} (hj:j<l.length) (h:c=F1 n src dst (l.take j) (l.drop j)) (h1:¬(l[j]<0∨n≤l[j])) (h2:l[j]=src∨l[j]=dst):c=8:=by
 rw [h,List.drop_eq_getElem_cons hj,F1,if_neg h1,if_pos h2]
theorem B5m {n src dst c:Int} {l:List Int} {j:Nat} (hj:j<l.length) (h:c=F1 n src dst (l.take j) (l.drop j)) (h1:¬(l[j]<0∨n≤l[j])) (h2:¬(l[j]=src∨l[j]=dst)) (h3:l[j]∈l.take j):c=7:=by
 rw [h,List.drop_eq_getElem_cons hj,F1,if_neg h1,if_neg h2,if_pos h3]
theorem B46 {n src dst c:Int} {l:List Int} {j:Nat} (hj:¬j<l.length) (h:c=F1 n src dst (l.take j) (l.drop j)):c=0:=by
 rw [h,List.drop_of_length_le (by omega)];rfl
end Go.St
namespace Go.Proofs.YtampcbncgofkoaaGreatDoor
open Go.RowKit Go.St
theorem A43 (l:List Int) (n src dst:Int) (ok:Nat→Prop) (ax:Option Addr) (cx b o:Nat) (w:World) (hx:A8 C2 ok w ax cx l) (f0:w.cell? ⟨b,o,none⟩=some (.int .i64 src)) (f1:w.cell? ⟨b,o+1,none⟩=some (.int .i64 dst)):
  Calls Tryz.prog 24 #[.slice ax l.length cx,.pointer (some ⟨b,o,none⟩),.int .i64 n] w fun e w'=>e=.returned (.int .i64 (F1 n src dst [] l))∧w'=w:=by
 have hlx:=hx.len_le
 have hcx:=hx.1
 have hst:Hid (F1 n src dst [] l=F1 n src dst (l.take 0) (l.drop 0)):=rfl
 generalize F1 n src dst [] l=c at *
 go_enter Tryz.func24,Tryz.ntmps24
 go_wp2
 go_loop [7,8,11] (fun _ _ i=>∃ j:Nat,j≤l.length∧i=.int .i64 j∧Hid (c=F1 n src dst (l.take j) (l.drop j))) (fun _ _ i=>l.length - (intOf i).toNat)
 case atStart=>exact ⟨0,Nat.zero_le _,rfl,hst⟩
 case round=>
  obtain ⟨j,hj,rfl,hall⟩:=hrel
  by_cases hlt:j<l.length
  ·obtain ⟨g,off,rfl,_,hbl,cs,hcs,hce⟩:=hx.get (List.getElem?_eq_getElem hlt)
   obtain ⟨rfl,_⟩:=hcs
   have e0:=hce 0 _ rfl
   clear hce
   simp only [C2,Nat.add_zero,Nat.mul_one] at e0
   have b0:(0:Int)≤(j:Int):=by omega
   have b1:(j:Int)<(l.length:Int):=by omega
   have b2:(j:Int)≤(cx:Int):=by omega
   have b3:((j:Int)).toNat=j:=by omega
   have hcon:Calls Tryz.prog 27 #[.slice (some ⟨g,off,none⟩) j cx,.int .i64 l[j]] w fun e w'=>e=.returned (.bool (decide (l[j]∈l.take j)))∧w'=w:=by
    have:=X3 (l.take j) l[j] ok _ cx w (hx.take j)
    rwa [List.length_take,Nat.min_eq_left hj] at this
   have g0:=B57 (c:=c) hlt hall.out
   have g1:=B5s (c:=c) hlt hall.out
   have g2:=B5q (c:=c) hlt hall.out
   have g3:=B5m (c:=c) hlt hall.out
   clear hall
   generalize l[j]=x at *
   by_cases p1:x<0
   ·have HH:=Lib.hid (g1 (.inl p1))
    clear g0 g1 g2 g3 hcon
    go_wp2
    go_ret;exact ⟨I0 HH.out.symm,rfl⟩
   by_cases p2:n≤x
   ·have HH:=Lib.hid (g1 (.inr p2))
    clear g0 g1 g2 g3 hcon
    go_wp2
    go_ret;exact ⟨I0 HH.out.symm,rfl⟩
   have p12:¬(x<0∨n≤x):=by omega
   cases p3:(x==src)
   case true=>
    have HH:=Lib.hid (g2 p12 (.inl (beq_iff_eq.1 p3)))
    clear g0 g1 g2 g3 hcon p12
    go_wp2
    go_ret;exact ⟨I0 HH.out.symm,rfl⟩
   cases p4:(x==dst)
   case true=>
    have HH:=Lib.hid (g2 p12 (.inr (beq_iff_eq.1 p4)))
    clear g0 g1 g2 g3 hcon p12
    go_wp2
    go_ret;exact ⟨I0 HH.out.symm,rfl⟩
   have p34:¬(x=src∨x=dst):=by
    rintro (h|h)
    ·exact (beq_eq_false_iff_ne.1 p3) h
    ·exact (beq_eq_false_iff_ne.1 p4) h
   by_cases p5:x∈l.take j
   ·have HH:=Lib.hid (g3 p12 p34 p5)
    have hd:decide (x∈l.take j)=true:=decide_eq_true p5
    rw [hd] at hcon
    clear g0 g1 g2 g3 p12 p34 p5 hd
    have HC:=Lib.hid hcon
    clear hcon
    go_wp2_with fail
    refine HC.out.mono ?_
    rintro e w1 ⟨rfl,rfl⟩
    go_wp2
    go_ret;exact ⟨I0 HH.out.symm,rfl⟩
   ·have HH:=Lib.hid (g0 p12 p34 p5)
    have hd:decide (x∈l.take j)=false:=decide_eq_false p5
    rw [hd] at hcon
    clear g0 g1 g2 g3 p12 p34 p5 hd
    have HC:=Lib.hid hcon
    clear hcon
    go_wp2_with fail
    refine HC.out.mono ?_
    rintro e w1 ⟨rfl,rfl⟩
    go_wp2
    go_round
    case rel=>exact ⟨j+1,by omega,by go_num,HH⟩
    case measure=>simp [intOf];omega
  ·have HE:=Lib.hid (B46 hlt hall.out)
   have b1:¬(j:Int)<(l.length:Int):=by omega
   clear hall
   go_wp2
   go_ret;exact ⟨I0 HE.out.symm,rfl⟩
end Go.Proofs.YtampcbncgofkoaaGreatDoor
namespace Go.St
open Go.RowKit
theorem B5b {l no:List Int} {j:Nat} (hj:j<l.length) (h:∀ x∈l.take j,x ∉ no) (h1:l[j] ∉ no):∀ x∈l.take (j+1),x ∉ no:=by
 intro x hx
 rw [List.take_succ_eq_append_getElem hj] at hx
 rcases List.mem_append.1 hx with hx|hx
 ·exact h x hx
 ·simp at hx;exact hx▸h1
theorem B3y {l no:List Int} {j:Nat} (hj:j<l.length) (h1:l[j]∈no):l.any (fun s=>decide (s∈no))=true:=List.any_eq_true.2 ⟨l[j],List.getElem_mem hj,by simpa using h1⟩
theorem B4k {l no:List Int} {j:Nat} (hj:¬j<l.length) (h:∀ x∈l.take j,x ∉ no):l.any (fun s=>decide (s∈no))=false:=by
 rw [List.take_of_length_le (by omega)] at h
 rw [List.any_eq_false]
 intro x hx;simpa using h x hx
theorem M8 {P:Program} {f:FuncId} {args:Array Value} {w:World} {k n:Nat} {v:Value}
  (h:Calls P f args (w.drewN (k+n)) fun e w'=>e=.returned v∧w'=w.drewN (k+n)):Calls P f args (w.drewN (k+n)) fun e w''=>e=.returned v∧∃ m,w''=w.drewN (k+m):=
 h.mono fun _ _ ⟨he,hm⟩=>⟨he,n,hm⟩
theorem B4s {n:Int} {l:List E0} {c:Int × Int} {j:Nat} (hj:j<l.length) (h:c=Q0 n j (l.drop j)) (h1:M4 n l[j]=0):c=Q0 n ((j+1:Nat):Int) (l.drop (j+1)):=by
 rw [h,List.drop_eq_getElem_cons hj,Q0,if_pos h1];rfl
theorem B4d {n:Int} {l:List E0} {c:Int × Int} {j:Nat} (hj:j<l.length) (h:c=Q0 n j (l.drop j)) {e:Int} (h1:M4 n l[j]=e) (he:e≠0):c=(e,(j:Int)):=by
 rw [h,List.drop_eq_getElem_cons hj,Q0,h1,if_neg he]
theorem B48 {n:Int} {l:List E0} {c:Int × Int} {j:Nat} (hj:¬j<l.length) (h:c=Q0 n j (l.drop j)):c=(0,0):=by
 rw [h,List.drop_of_length_le (by omega)];rfl
end Go.St
namespace Go.Proofs.YtampcbncgofkoaaGreatDoor
open Go.RowKit Go.St
theorem B2t (x:Int) (no:List Int) (ok:Nat→Prop) (na:Option Addr) (nc p b o:Nat) (w:World) (hp:w.cell? ⟨p,0,none⟩=some (.pointer (some ⟨b,o,none⟩))) (hf:w.cell? ⟨b,o+3,none⟩=some (.slice na no.length nc)) (hn:A8 C2 ok w na nc no):
  Calls Tryz.prog 26 #[.int .i64 x,.pointer (some ⟨p,0,none⟩)] w fun e w'=>e=.returned (.bool (decide (x∈no)))∧w'=w:=by
 go_enter Tryz.func26,Tryz.ntmps26
 go_wp2_with fail
 refine (X3 no x ok na nc w hn).mono ?_
 rintro e w' ⟨rfl,rfl⟩
 go_wp2
 go_ret;exact ⟨rfl,rfl⟩
theorem B0h (l no:List Int) (ok ok':Nat→Prop) (ax na:Option Addr) (cx nc p b o:Nat) (w:World) (hx:A8 C2 ok w ax cx l) (hp:w.cell? ⟨p,0,none⟩=some (.pointer (some ⟨b,o,none⟩))) (hf:w.cell? ⟨b,o+3,none⟩=some (.slice na no.length nc)) (hn:A8 C2 ok' w na nc no):
  Calls Tryz.prog 42 #[.slice ax l.length cx,.func (.func 26) #[] #[.pointer (some ⟨p,0,none⟩)]] w fun e w'=>∃ k:Int,e=.returned (.int .i64 k)∧decide (0≤k)=l.any (fun s=>decide (s∈no))∧w'=w:=by
 have hlx:=hx.len_le
 go_enter Tryz.func42,Tryz.ntmps42
 go_wp2
 go_loop [5,8] (fun _ i=>∃ j:Nat,j≤l.length∧i=.int .i64 j∧Hid (∀ x∈l.take j,x ∉ no)) (fun _ i=>l.length - (intOf i).toNat)
 case atStart=>exact ⟨0,Nat.zero_le _,rfl,by show ∀ x∈_,_;simp⟩
 case round=>
  obtain ⟨j,hj,rfl,hall⟩:=hrel
  by_cases hlt:j<l.length
  ·obtain ⟨g,off,rfl,_,hbl,cs,hcs,hce⟩:=hx.get (List.getElem?_eq_getElem hlt)
   obtain ⟨rfl,_⟩:=hcs
   have e0:=hce 0 _ rfl
   clear hce
   simp only [C2,Nat.add_zero,Nat.mul_one] at e0
   have b0:(0:Int)≤(j:Int):=by omega
   have b1:(j:Int)<(l.length:Int):=by omega
   have g1:=B5b hlt hall.out
   have g2:=B3y (no:=no) hlt
   clear hall
   generalize l[j]=x at *
   by_cases p5:x∈no
   ·have HH:=Lib.hid (g2 p5)
    have hd:decide (x∈no)=true:=decide_eq_true p5
    have HC:=Lib.hid (B2t x no ok' na nc p b o w hp hf hn)
    rw [hd] at HC
    clear g1 g2 p5 hd
    go_wp2_with fail
    refine HC.out.mono ?_
    rintro e w1 ⟨rfl,rfl⟩
    go_wp2
    go_ret;exact ⟨j,rfl,by rw [HH.out];simp,rfl⟩
   ·have HH:=Lib.hid (g1 p5)
    have hd:decide (x∈no)=false:=decide_eq_false p5
    have HC:=Lib.hid (B2t x no ok' na nc p b o w hp hf hn)
    rw [hd] at HC
    clear g1 g2 p5 hd
    go_wp2_with fail
    refine HC.out.mono ?_
    rintro e w1 ⟨rfl,rfl⟩
    go_wp2
    go_round
    case rel=>exact ⟨j+1,by omega,by go_num,HH⟩
    case measure=>simp [intOf];omega
  ·have HE:=Lib.hid (B4k hlt hall.out)
   have b1:¬(j:Int)<(l.length:Int):=by omega
   clear hall
   go_wp2
   go_ret;exact ⟨-1,rfl,by rw [HE.out];rfl,rfl⟩
theorem A6w (l no:List Int) (ok ok':Nat→Prop) (ax na:Option Addr) (cx nc p b o:Nat) (w:World) (hx:A8 C2 ok w ax cx l) (hp:w.cell? ⟨p,0,none⟩=some (.pointer (some ⟨b,o,none⟩))) (hf:w.cell? ⟨b,o+3,none⟩=some (.slice na no.length nc)) (hn:A8 C2 ok' w na nc no):
  Calls Tryz.prog 25 #[.slice ax l.length cx,.func (.func 26) #[] #[.pointer (some ⟨p,0,none⟩)]] w fun e w'=>e=.returned (.bool (l.any (fun s=>decide (s∈no))))∧w'=w:=by
 go_enter Tryz.func25,Tryz.ntmps25
 go_wp2_with fail
 refine (B0h l no ok ok' ax na cx nc p b o w hx hp hf hn).mono ?_
 rintro e w' ⟨k,rfl,hk,rfl⟩
 have HK:=Lib.hid hk
 clear hk
 go_wp2
 go_ret;exact ⟨C13 HK.out,rfl⟩
open Go.RowKit Go.St
theorem B35 (ao:Option Addr) (cap:Nat) (cf:Value) (w:World):
  Calls Tryz.prog 102 #[.slice ao 0 cap,.int .i64 0,.int .i64 0,cf] w fun e w'=>e=.returned (.tuple #[])∧w'=w:=by
 go_enter Tryz.func102,Tryz.ntmps102
 go_wp2
 go_loopw [8,9] (fun ii _ wr=>ii=.int .i64 1∧wr=w) (fun ii _ _=>0)
 case atStart=>exact ⟨rfl,rfl⟩
 case round=>
  obtain ⟨rfl,rfl⟩:=hrel
  go_wp2
  go_returns;exact ⟨rfl,rfl⟩
theorem B2y (g n cap : Nat) (xs : List C1) (junk : List Value) (w : World) (h : RR w g 112 xs junk) (hn : xs.length = n) (hbig : n ≤ 100000000000000) :
  Calls Tryz.prog 92 #[.slice (some ⟨g, 0, none⟩) n cap, .int .i64 n, .func (.func 77) #[] #[]] w fun e w' => e = .returned (.tuple #[]) ∧ RR w' g 112 (S4 B4 xs) junk ∧ H9 g w w' := by
 have hst : Hid (StI B4 xs 0 xs) := StI.zero xs
 have hN0 : Hid (H9 g w w) := H9.refl _ _
 have HL : Hid (∀ a ys, StI B4 xs a ys → a ≤ n → ys.length = n) := fun a ys h1 h2 => by rw [h1.len (by omega), hn]
 have HP : Hid (∀ a b ys, StI B4 xs a ys → a ≤ b → b ≤ n → ∃ p u s, ys = p ++ (u ++ s) ∧ p.length = a ∧ a + u.length = b ∧ (∀ v, v.length = u.length → Srt B4 v → E4 B4 u v → b = a + 20 → StI B4 xs b (p ++ (v ++ s))) ∧
  (∀ v, v.length = u.length → Srt B4 v → E4 B4 u v → b < a + 20 → b = n → Bk B4 20 (p ++ (v ++ s)) ∧ E4 B4 xs (p ++ (v ++ s)))) := fun a b ys h1 h2 h3 => by
   have := h1.parts h2 (by omega)
   rw [hn] at this; exact this
 have HSL : Hid (∀ ys, E4 B4 xs ys → ys.length = n → ∀ k, Bk B4 k ys → n ≤ k → ys = S4 B4 xs) := fun ys h1 h2 k h3 h4 => h3.done C4 h1 (by omega)
 clear hn
 go_enter Tryz.func92, Tryz.ntmps92
 go_wp2
 go_loopw [7, 8] (fun aa bb wr => ∃ (a : Nat) (ys : List C1), aa = .int .i64 a ∧ bb = .int .i64 ((a + 20 : Nat) : Int) ∧ a ≤ n ∧ Hid (StI B4 xs a ys) ∧ RR wr g 112 ys junk ∧ Hid (H9 g w wr)) (fun aa _ _ => n - (intOf aa).toNat)
 case atStart => exact ⟨0, xs, rfl, rfl, Nat.zero_le _, hst, h, hN0⟩
 case round =>
  clear hst h hN0
  obtain ⟨a, ys, rfl, rfl, han, hS, hR, hN⟩ := hrel
  rename World => wo
  have hl := HL.out a ys hS.out han
  by_cases hlt : a + 20 ≤ n
  ·obtain ⟨p, u, s, rfl, f1, f2, f3, _⟩ := HP.out a (a + 20) ys hS.out (by omega) hlt
   have HC := Lib.hid (A5p g n cap a (a + 20) p u s junk wo hR hl hbig f1 f2)
   have HF := Lib.hid f3
   have b1 : ((a + 20 : Nat) : Int) ≤ (n : Int) := by omega
   clear hS hR f1 f2 f3 hl
   go_wp2_with fail
   refine HC.out.mono ?_
   rintro e w1 ⟨rfl, ⟨v, hR, hvl, hvs, hvt⟩, hn1⟩
   have HS := Lib.hid (HF.out v hvl hvs hvt (by first | trivial | rfl))
   have HN := Lib.hid (hN.out.trans hn1)
   clear HF HC hvl hvs hvt hn1 hN b1
   go_wp2
   case roundEnd =>
    go_roundw
    case rel => exact ⟨a + 20, _, rfl, by go_num, hlt, HS, hR, HN⟩
    case measure => simp [intOf] <;> omega
  obtain ⟨p, u, s, rfl, f1, f2, _, f3⟩ := HP.out a n ys hS.out (by omega) (Nat.le_refl _)
  have HC := Lib.hid (A5p g n cap a n p u s junk wo hR hl hbig f1 f2)
  have HF := Lib.hid f3
  have b1 : ¬ ((a + 20 : Nat) : Int) ≤ (n : Int) := by omega
  have hpl : p.length + (u.length + s.length) = n := by rw [← hl]; simp [List.length_append]
  clear hS hR f1 f2 f3 hl
  go_wp2_with fail
  refine HC.out.mono ?_
  rintro e w1 ⟨rfl, ⟨v, hR, hvl, hvs, hvt⟩, hn1⟩
  obtain ⟨hbk, hsb⟩ := HF.out v hvl hvs hvt (by omega) (by first | trivial | rfl)
  have HB := Lib.hid hbk
  have HT := Lib.hid hsb
  have HN := Lib.hid (hN.out.trans hn1)
  have hzl : (p ++ (v ++ s)).length = n := by simp only [List.length_append]; omega
  clear HF HC hvl hvs hvt hn1 hN b1 hbk hsb HP HL hpl
  generalize p ++ (v ++ s) = z0 at *
  go_wp2
  go_loopw [6, 7, 8, 9] (fun kk aa bb mm wr => ∃ (k : Nat) (zs : List C1), kk = .int .i64 k ∧ 20 ≤ k ∧ k ≤ 2 * n + 20 ∧ zs.length = n ∧ Hid (Bk B4 k zs) ∧ Hid (E4 B4 xs zs) ∧ RR wr g 112 zs junk ∧ Hid (H9 g w wr)) (fun kk _ _ _ _ => 2 * n + 20 - (intOf kk).toNat)
  case atStart => exact ⟨20, z0, rfl, Nat.le_refl _, by omega, hzl, HB, HT, hR, HN⟩
  case round =>
  clear HB HT hR HN hzl
  obtain ⟨k, zs, rfl, hk20, hkn, hzl, hB, hT, hR, hN⟩ := hrel
  rename World => wi
  by_cases hkl : k < n
  case neg =>
   have b1 : ¬ (k : Int) < (n : Int) := by omega
   have HE := Lib.hid (HSL.out zs hT.out hzl k hB.out (by omega))
   clear hB hT
   go_wp2
   go_returns; exact ⟨rfl, by rw [← HE.out]; exact hR, hN.out⟩
  have b1 : (k : Int) < (n : Int) := by omega
  have hM := Lib.hid (StM.zero hB.out hT.out)
  have e0 : IntKind.i64.wrap (2 * (k : Int)) = ((2 * k : Nat) : Int) := by rw [IntWalk.i64_in _ (by omega)]; omega
  have e9 : IntKind.i64.wrap ((k : Int) * 2) = ((2 * k : Nat) : Int) := by rw [IntWalk.i64_in _ (by omega)]; omega
  clear hB hT
  go_wp2
  go_loopw [7, 8] (fun aa bb wr => ∃ (a : Nat) (ys : List C1), aa = .int .i64 a ∧ bb = .int .i64 ((a + 2 * k : Nat) : Int) ∧ a ≤ n ∧ ys.length = n ∧ Hid (StM B4 xs k a ys) ∧ RR wr g 112 ys junk ∧ Hid (H9 g w wr)) (fun aa _ _ => n - (intOf aa).toNat)
  case atStart => exact ⟨0, zs, rfl, by simp, Nat.zero_le _, hzl, hM, hR, hN⟩
  case round =>
  clear hM hR hN hzl
  obtain ⟨a, ys, rfl, rfl, han, hyl, hM, hR, hN⟩ := hrel
  rename World => wj
  by_cases hlt : a + 2 * k ≤ n
  ·obtain ⟨p, u, v, s, rfl, f1, f2, f3, f4, f5, f6⟩ := hM.out.two (by omega) (by omega)
   have HC := Lib.hid (B1z g n cap junk hbig _ a (a + k) (a + 2 * k) p u v s wj (Nat.le_refl _) hR hyl f1 (by omega) (by omega) f4 f5 (by omega) (by omega))
   have HF := Lib.hid f6
   have b2 : ((a + 2 * k : Nat) : Int) ≤ (n : Int) := by omega
   have e2 : IntKind.i64.wrap ((a : Int) + (k : Int)) = ((a + k : Nat) : Int) := by rw [IntWalk.i64_in _ (by omega)]; omega
   have hzz : ∀ z : List C1, z.length = u.length + v.length → (p ++ (z ++ s)).length = n := fun z h1 => by simp only [List.length_append] at hyl ⊢; omega
   have HZ := Lib.hid hzz
   clear hM hR f1 f2 f3 f4 f5 f6 hyl hzz
   unfold A19 at HC
   go_wp2_with fail
   refine HC.out.mono ?_
   rintro e w1 ⟨rfl, ⟨z, hR, hvl, hvs, hvt⟩, hn1⟩
   have HS := Lib.hid (HF.out z hvl hvs hvt)
   have HN := Lib.hid (hN.out.trans hn1)
   have hyl := HZ.out z hvl
   have e3 : IntKind.i64.wrap (((a + 2 * k : Nat) : Int) + ((2 * k : Nat) : Int)) = ((a + 2 * k + 2 * k : Nat) : Int) := by rw [IntWalk.i64_in _ (by omega)]; omega
   clear HF HC hvl hvs hvt hn1 hN b2 HZ
   go_wp2
   case roundEnd =>
    go_roundw
    case rel => exact ⟨a + 2 * k, _, rfl, by first | rfl | (simp; omega), hlt, hyl, HS, hR, HN⟩
    case measure => simp [intOf] <;> omega
  have b2 : ¬ ((a + 2 * k : Nat) : Int) ≤ (n : Int) := by omega
  have e2 : IntKind.i64.wrap ((a : Int) + (k : Int)) = ((a + k : Nat) : Int) := by rw [IntWalk.i64_in _ (by omega)]; omega
  by_cases hml : a + k < n
  case neg =>
   obtain ⟨g1, g2⟩ := hM.out.none (by omega)
   have HB := Lib.hid g1
   have HT := Lib.hid g2
   have b3 : ¬ ((a + k : Nat) : Int) < (n : Int) := by omega
   clear hM g1 g2
   go_wp2
   case roundEnd =>
    go_roundw
    case rel => exact ⟨2 * k, _, rfl, by omega, by omega, hyl, HB, HT, hR, hN⟩
    case measure => simp [intOf] <;> omega
  have b3 : ((a + k : Nat) : Int) < (n : Int) := by omega
  obtain ⟨p, u, v, rfl, f1, f2, f4, f5, f6⟩ := hM.out.last (by omega) (by omega)
  have hvl : v.length + (a + k) = n := by simp only [List.length_append, List.length_nil] at hyl; omega
  have HC := Lib.hid (B1z g n cap junk hbig _ a (a + k) n p u v [] wj (Nat.le_refl _) hR hyl f1 (by omega) (by omega) f4 f5 (by omega) (by omega))
  have HF := Lib.hid f6
  have hzz : ∀ z : List C1, z.length = u.length + v.length → (p ++ (z ++ [])).length = n := fun z h1 => by simp only [List.length_append, List.length_nil] at hyl ⊢; omega
  have HZ := Lib.hid hzz
  clear hM hR f1 f2 f4 f5 f6 hyl hzz hvl
  unfold A19 at HC
  go_wp2_with fail
  refine HC.out.mono ?_
  rintro e w1 ⟨rfl, ⟨z, hR, hvl, hvs, hvt⟩, hn1⟩
  obtain ⟨g1, g2⟩ := HF.out z hvl hvs hvt
  have HB := Lib.hid g1
  have HT := Lib.hid g2
  have HN := Lib.hid (hN.out.trans hn1)
  have hyl := HZ.out z hvl
  clear HF HC hvl hvs hvt hn1 hN HZ g1 g2
  go_wp2
  case roundEnd =>
   go_roundw
   case rel => exact ⟨2 * k, _, rfl, by omega, by omega, hyl, HB, HT, hR, HN⟩
   case measure => simp [intOf] <;> omega
theorem A8q (ao:Option Addr) (cap:Nat) (cf:Value) (w:World):
  Calls Tryz.prog 92 #[.slice ao 0 cap,.int .i64 0,cf] w fun e w'=>e=.returned (.tuple #[])∧w'=w:=by
 go_enter Tryz.func92,Tryz.ntmps92
 go_wp2
 go_loopw [7,8] (fun aa bb wr=>aa=.int .i64 0∧bb=.int .i64 20∧wr=w) (fun aa _ _=>0)
 case atStart=>exact ⟨rfl,rfl,rfl⟩
 case round=>
  obtain ⟨rfl,rfl,rfl⟩:=hrel
  go_wp2_with fail
  refine (B35 ao cap cf _).mono ?_
  rintro e w1 ⟨rfl,rfl⟩
  go_wp2
  rename World=>wq
  go_loopw [6] (fun aa wr=>aa=.int .i64 20∧wr=wq) (fun aa _=>0)
  case atStart=>exact ⟨rfl,rfl⟩
  case round=>
   obtain ⟨rfl,rfl⟩:=hrel
   go_wp2
   go_returns;exact ⟨rfl,rfl⟩
theorem A6e (g n cap:Nat) (xs:List C1) (junk:List Value) (w:World) (h:RR w g 112 xs junk) (hn:xs.length=n) (hbig:n≤100000000000000):
  Calls Tryz.prog 76 #[.slice (some ⟨g,0,none⟩) n cap,.func (.func 77) #[] #[]] w fun e w'=>e=.returned (.tuple #[])∧RR w' g 112 (S4 B4 xs) junk∧H9 g w w':=by
 have HC:=Lib.hid (B2y g n cap xs junk w h hn hbig)
 clear h hn
 go_enter Tryz.func76,Tryz.ntmps76
 go_wp2_with fail
 refine HC.out.mono ?_
 rintro e w1 ⟨rfl,h1,h2⟩
 go_wp2
 go_returns;exact ⟨rfl,h1,h2⟩
theorem A3m (ao:Option Addr) (cap:Nat) (cf:Value) (w:World):
  Calls Tryz.prog 76 #[.slice ao 0 cap,cf] w fun e w'=>e=.returned (.tuple #[])∧w'=w:=by
 go_enter Tryz.func76,Tryz.ntmps76
 go_wp2_with fail
 refine (A8q ao cap cf _).mono ?_
 rintro e w1 ⟨rfl,rfl⟩
 go_wp2
 go_returns;exact ⟨rfl,rfl⟩
end Go.Proofs.YtampcbncgofkoaaGreatDoor
namespace Go.St
open Go.RowKit
def OR (t:TypeId) (w:World) (B:Nat) (ao:Option Addr) (cap:Nat) (xs:List C1):Prop:=
 (xs=[]∧ao=none∧cap=0)∨∃ g junk,ao=some ⟨g,0,none⟩∧xs.length≤cap∧cap≤maxLen∧B≤g∧RR w g t xs junk
theorem OR.row {t:TypeId} {w:World} {B:Nat} {ao:Option Addr} {cap:Nat} {xs:List C1} (h:OR t w B ao cap xs):A8 G6 (fun b=>B≤b) w ao cap xs:=by
 rcases h with ⟨rfl,rfl,rfl⟩|⟨g,junk,rfl,h1,h2,h3,h4⟩
 ·exact A8.nil _ _ _ _
 ·exact h4.row h1 h2 h3
theorem OR.below {t:TypeId} {w w':World} {B:Nat} {ao:Option Addr} {cap:Nat} {xs:List C1} (h:OR t w B ao cap xs) (hb:Below w.heap.size w w'):OR t w' B ao cap xs:=by
 rcases h with ⟨rfl,rfl,rfl⟩|⟨g,junk,rfl,h1,h2,h3,h4⟩
 ·exact .inl ⟨rfl,rfl,rfl⟩
 ·exact .inr ⟨g,junk,rfl,h1,h2,h3,h4.under hb⟩
end Go.St
namespace Go.Proofs.YtampcbncgofkoaaGreatDoor
open Go.RowKit Go.St
theorem B1v (xs ys:List C1) (ok ok':Nat→Prop) (ax ay:Option Addr) (cx cy b:Nat) (w:World) (hx:A8 G6 ok w ax cx xs) (hy:A8 G6 ok' w ay cy ys)
  (c0:w.cell? ⟨b,0,none⟩=some (.slice ax xs.length cx)) (c1:w.cell? ⟨b,1,none⟩=some (.slice ay ys.length cy)) (hbig:xs.length * 24≤140737488355328) (hbig2:ys.length * 24≤140737488355328):
  Calls Tryz.prog 75 #[.slice (some ⟨b,0,none⟩) 2 2] w fun e w'=>∃ ao cap,e=.returned (.slice ao (xs++ys).length cap)∧OR 112 w' w.heap.size ao cap (xs++ys)∧Below w.heap.size w w':=by
 refine (B2g xs ys ok ok' ax ay cx cy b w hx hy c0 c1 hbig hbig2).mono ?_
 rintro e w' ⟨⟨h1,rfl⟩|⟨g,cap,junk,rfl,h1,h2,h3,h4⟩,hb⟩
 ·exact ⟨none,0,by rw [h1];rfl,.inl ⟨h1,rfl,rfl⟩,hb⟩
 ·exact ⟨_,cap,rfl,.inr ⟨g,junk,rfl,h1,h2,h3,h4⟩,hb⟩
theorem B4j (B:Nat) (ao:Option Addr) (cap:Nat) (xs:List C1) (w:World) (h:OR 112 w B ao cap xs) (hB:B≤w.heap.size) (hbig:xs.length≤100000000000000):
  Calls Tryz.prog 76 #[.slice ao xs.length cap,.func (.func 77) #[] #[]] w fun e w'=>e=.returned (.tuple #[])∧OR 112 w' B ao cap (S4 B4 xs)∧Below B w w':=by
 rcases h with ⟨rfl,rfl,rfl⟩|⟨g,junk,rfl,h1,h2,h3,h4⟩
 ·refine (A3m none 0 _ w).mono ?_
  rintro e w' ⟨rfl,rfl⟩
  exact ⟨rfl,.inl ⟨rfl,rfl,rfl⟩,Below.refl _ _⟩
 ·refine (A6e g xs.length cap xs junk w h4 rfl hbig).mono ?_
  rintro e w' ⟨rfl,h5,h6⟩
  exact ⟨rfl,.inr ⟨g,junk,rfl,by rw [A5l];exact h1,h2,h3,h5⟩,h6.to (Below.refl _ _) hB h3⟩
theorem A97 (B:Nat) (ao:Option Addr) (cap:Nat) (xs:List C1) (w:World) (h:OR 112 w B ao cap xs) (hB:B≤w.heap.size) (hbig:xs.length≤100000000000000):
  Calls Tryz.prog 78 #[.slice ao xs.length cap] w fun e w'=>e=.returned (.slice ao (O6 xs).length cap)∧OR 112 w' B ao cap (O6 xs)∧Below B w w':=by
 rcases h with ⟨rfl,rfl,rfl⟩|⟨g,junk,rfl,h1,h2,h3,h4⟩
 ·refine (A6c none 0 w).mono ?_
  rintro e w' ⟨rfl,rfl⟩
  exact ⟨rfl,.inl ⟨rfl,rfl,rfl⟩,Below.refl _ _⟩
 ·refine (B12 g xs.length cap xs junk w h4 rfl h1 h2 hbig).mono ?_
  rintro e w' ⟨rfl,h5,⟨junk',h6⟩,h7⟩
  exact ⟨rfl,.inr ⟨g,junk',rfl,Nat.le_trans h5 h1,h2,h3,h6⟩,h7.to (Below.refl _ _) hB h3⟩
theorem B5r (l more:List C1) (ok ok':Nat→Prop) (ax ay:Option Addr) (cx cy:Nat) (w:World) (hx:A8 G6 ok w ax cx l) (hy:A8 G6 ok' w ay cy more) (hbig:l.length * 24≤140737488355328) (hbig2:more.length * 24≤140737488355328):
  Calls Tryz.prog 63 #[.slice ax l.length cx,.slice ay more.length cy] w fun e w'=>∃ ao cap,e=.returned (.tuple #[.slice ao (O8 l more).1.length cap,.int .i64 (O8 l more).2])∧A8 G6 (fun b=>w.heap.size≤b) w' ao cap (O8 l more).1∧Below w.heap.size w w':=by
 have hsl:(S4 B4 (l++more)).length=(l++more).length:=A5l _
 have hcl:(O6 (S4 B4 (l++more))).length≤(S4 B4 (l++more)).length:=(A7f _).length_le
 have hll:(l++more).length=l.length+more.length:=List.length_append
 have HE1:Hid ((E5 l).1≠0→O8 l more=([],(E5 l).1)):=fun h=>by unfold O8;rw [if_pos h]
 have HE2:Hid ((E5 l).1=0→(E5 (O6 (S4 B4 (l++more)))).1≠0→O8 l more=([],(E5 (O6 (S4 B4 (l++more)))).1)):=fun h h2=>by unfold O8;rw [if_neg (by simpa using h)];exact if_pos h2
 have HE3:Hid ((E5 l).1=0→(E5 (O6 (S4 B4 (l++more)))).1=0→O8 l more=(O6 (S4 B4 (l++more)),0)):=fun h h2=>by unfold O8;rw [if_neg (by simpa using h)];exact if_neg (fun h3=>h3 h2)
 generalize O8 l more=c at *
 obtain ⟨c1,c2⟩:=c
 dsimp only
 have hC1:=fun b (w1:World) (h1:Below w.heap.size w w1)=>B1v l more ok ok' ax ay cx cy b w1 (hx.below h1) (hy.below h1)
 have HC1:=Lib.hid hC1
 clear hC1
 generalize l++more=xs at *
 have HSL:=Lib.hid hsl
 have HLL:=Lib.hid hll
 clear hsl hll
 generalize hss:S4 B4 xs=ss at *
 generalize hoo:O6 ss=oo at *
 have HSS:=Lib.hid hss
 have HOO:=Lib.hid hoo
 clear hss hoo
 go_enter Tryz.func63,Tryz.ntmps63
 go_wp2_with fail
 have x1:=(A6.new (w:=w) (t:=62) (cs:=#[.slice ax l.length cx,.slice ay more.length cy]) rfl).cells.1
 have hb0:=G8 w (.cells #[.slice ax l.length cx,.slice ay more.length cy] 62)
 refine (HC1.out w.heap.size _ hb0 (x1 0) (x1 1) hbig hbig2).mono ?_
 rintro e w1 ⟨ao,cap,rfl,hO,hb1⟩
 have hB1:Below w.heap.size w w1:=hb0.trans (hb1.mono hb0.size)
 have hO1:OR 112 w1 w.heap.size ao cap xs:=by
  rcases hO with h|⟨g,junk,h0,h1,h2,h3,h4⟩
  ·exact .inl h
  ·exact .inr ⟨g,junk,h0,h1,h2,by simp at h3;omega,h4⟩
 clear hO hb1 x1 hb0 HC1
 go_wp2_with fail
 refine (B4j w.heap.size ao cap xs w1 hO1 hB1.size (by have:=HLL.out;omega)).mono ?_
 rintro e w2 ⟨rfl,hO2,hb2⟩
 rw [HSS.out] at hO2
 have hB2:=hB1.trans hb2
 clear hO1 hb2 hB1
 rw [←HSL.out]
 go_wp2_with fail
 refine (A97 w.heap.size ao cap ss w2 hO2 hB2.size (by have:=HLL.out;have:=HSL.out;omega)).mono ?_
 rintro e w3 ⟨rfl,hO3,hb3⟩
 rw [HOO.out] at hO3 ⊢
 have hB3:=hB2.trans hb3
 clear hO2 hb3 hB2
 go_wp2_with fail
 refine (A0a l ok ax cx w3 (hx.below hB3)).mono ?_
 rintro e w4 ⟨rfl,hb4⟩
 have hO4:=hO3.below hb4
 have hB4:=hB3.trans (hb4.mono hB3.size)
 have hz4:=hB4.size
 clear hO3 hB3 hb4
 generalize hwl:E5 l=wl at *
 have HWL:=Lib.hid hwl
 clear hwl
 obtain ⟨wl1,wl2⟩:=wl
 dsimp only at *
 by_cases h1:wl1=0
 case neg=>
  have h1':(wl1 !=0)=true:=by rw [bne_iff_ne];exact h1
  obtain ⟨rfl,rfl⟩:c1=[]∧c2=wl1:=by have:=HE1.out h1;simpa using this
  clear h1 HE1 HE2 HE3
  go_wp2
  go_quiet (fail)
  go_wp2
  go_returns;exact ⟨none,0,rfl,A8.nil _ _ _ _,by (repeat' (first|with_reducible (first|exact Below.refl _ _|assumption|refine Below.drew ?_|refine A3 ?_ _|refine Below.alloc ?_ ?_ _|refine Below.setCell ?_ ?_ _)|omega|(simp;done)|(simp;omega)))⟩
 subst h1
 clear HE1
 go_wp2_with fail
 refine (A0a oo (fun b=>w.heap.size≤b) ao cap _ (hO4.row.below (by (repeat' (first|with_reducible (first|exact Below.refl _ _|assumption|refine Below.drew ?_|refine A3 ?_ _|refine Below.alloc ?_ ?_ _|refine Below.setCell ?_ ?_ _)|omega|(simp;done)|(simp;omega)))))).mono ?_
 rintro e w5 ⟨rfl,hb5⟩
 have hB5:Below w.heap.size w w5:=Below.trans (show Below w.heap.size w (w4.alloc _) by (repeat' (first|with_reducible (first|exact Below.refl _ _|assumption|refine Below.drew ?_|refine A3 ?_ _|refine Below.alloc ?_ ?_ _|refine Below.setCell ?_ ?_ _)|omega|(simp;done)|(simp;omega)))) (hb5.mono (by simp;omega))
 have hO5:=(hO4.row (xs:=oo)).below (w':=w5) (Below.trans (by (repeat' (first|with_reducible (first|exact Below.refl _ _|assumption|refine Below.drew ?_|refine A3 ?_ _|refine Below.alloc ?_ ?_ _|refine Below.setCell ?_ ?_ _)|omega|(simp;done)|(simp;omega)))) (hb5.mono (by simp)))
 have hz5:=hB5.size
 clear hO4 hB4
 generalize hwo:E5 oo=wl at *
 have HWO:=Lib.hid hwo
 clear hwo
 obtain ⟨wo1,wo2⟩:=wl
 dsimp only at *
 by_cases h2:wo1=0
 case neg=>
  have h1':(wo1 !=0)=true:=by rw [bne_iff_ne];exact h2
  obtain ⟨rfl,rfl⟩:c1=[]∧c2=wo1:=by have:=HE2.out (by first|trivial|rfl) h2;simpa using this
  clear h2 HE2 HE3
  go_wp2
  go_quiet (fail)
  go_wp2
  go_returns;exact ⟨none,0,rfl,A8.nil _ _ _ _,by (repeat' (first|with_reducible (first|exact Below.refl _ _|assumption|refine Below.drew ?_|refine A3 ?_ _|refine Below.alloc ?_ ?_ _|refine Below.setCell ?_ ?_ _)|omega|(simp;done)|(simp;omega)))⟩
 subst h2
 obtain ⟨rfl,rfl⟩:c1=oo∧c2=0:=by have:=HE3.out (by first|trivial|rfl) (by first|trivial|rfl);simpa using this
 clear HE2 HE3
 go_wp2
 go_returns;exact ⟨ao,cap,rfl,hO5.below (by (repeat' (first|with_reducible (first|exact Below.refl _ _|assumption|refine Below.drew ?_|refine A3 ?_ _|refine Below.alloc ?_ ?_ _|refine Below.setCell ?_ ?_ _)|omega|(simp;done)|(simp;omega)))),by (repeat' (first|with_reducible (first|exact Below.refl _ _|assumption|refine Below.drew ?_|refine A3 ?_ _|refine Below.alloc ?_ ?_ _|refine Below.setCell ?_ ?_ _)|omega|(simp;done)|(simp;omega)))⟩
end Go.Proofs.YtampcbncgofkoaaGreatDoor
namespace Go.St
open Go.RowKit
theorem A2l {P:Program} (t e:TypeId) (h:P.underlying t=some (.slice e)) (w:World) (a:Option Addr) (l c:Nat):(binOp .eql t (.slice a l c) (.slice none 0 0)).run P w=.ok (.bool a.isNone) w:=by
 show ((do return .bool (←Op.equal t _ _)):Sem Value).run P w=_
 simp [run_equal_slice_nil w t e a l c h]
end Go.St
namespace Go.Proofs.YtampcbncgofkoaaGreatDoor
open Go.RowKit Go.St
theorem A00 (l:List C1) (ok:Nat→Prop) (ax:Option Addr) (cx:Nat) (w:World) (hx:A8 G6 ok w ax cx l) (hbig:l.length * 24≤140737488355328):
    Calls Tryz.prog 37 #[.slice ax l.length cx] w fun e w'=>∃ ao cap,e=.returned (.slice ao l.length cap)∧OR 112 w' w.heap.size ao cap l∧Below w.heap.size w w':=by
  obtain ⟨i0,hi,hz0,hz1,hz2⟩:=info_parts W7
  have hlx:=hx.len_le
  have hnil:=A2l (P:=Tryz.prog) 62 112 Tryz.underlying62
  cases ax with
  |none=>
    obtain rfl:l=[]:=by
      obtain ⟨_,_,h|⟨_,_,h,_⟩⟩:=hx
      · exact h
      · cases h
    go_enter Tryz.func37,Tryz.ntmps37
    go_wp2
    go_ret;exact ⟨none,0,rfl,.inl ⟨rfl,rfl,rfl⟩,by (repeat' (first|with_reducible (first|exact Below.refl _ _|assumption|refine Below.drew ?_|refine A3 ?_ _|refine Below.alloc ?_ ?_ _|refine Below.setCell ?_ ?_ _)|omega|(simp;done)|(simp;omega)))⟩
  |some a=>
    have hown:C7 G6 112 (fun _=>False) w.heap.size (w.alloc (.cells (([]:List C1).map (fun _=>Value.int .i64 0)).toArray 112)) (some ⟨w.heap.size,0,none⟩) 0 0 []:=C7.lit rfl rfl (Nat.le_refl _) (by decide) (by simp) (fun _ h=>h.elim)
    go_enter Tryz.func37,Tryz.ntmps37
    go_wp2_with (at_builtin;go_must (refine H4 (sh:=G6) rfl _ _ 62 rfl 112 i0 (.agg #[.int .i64 0,.int .i64 0,.int .i64 0]) 24 Tryz.underlying62 hi hz0 hz1 hz2 rfl (by decide) rfl hown rfl rfl ((hx.below (by (repeat' (first|with_reducible (first|exact Below.refl _ _|assumption|refine Below.drew ?_|refine A3 ?_ _|refine Below.alloc ?_ ?_ _|refine Below.setCell ?_ ?_ _)|omega|(simp;done)|(simp;omega))))).src.flat fun h=>h) (by simp only [maxLen];omega) (by omega) (by first|omega|(simp;done)|(simp;omega)) ?_);go_must (
      intro ao1 cap1 w2 hown1 hg1 hbk
      have hb2:=D6 (B:=w.heap.size) hg1 (fun k hk=>(hown.lt k hk).1) (by first|omega|(simp;done)|(simp;omega))
      rw [List.nil_append,Nat.zero_add] at hown1))
    have hor:OR 112 w2 w.heap.size ao1 cap1 l:=by
      cases ao1 with
      |none=>simp [blk] at hbk
      |some a1=>
        obtain ⟨b1,o1,s1⟩:=a1
        have hshape:o1=0∧s1=none:=by
          obtain ⟨cells,⟨_,_,_,⟨h,_⟩|⟨g,cur,h,_⟩⟩,_⟩:=hown1
          · cases h
          · simp at h;exact ⟨h.2.1,h.2.2⟩
        obtain ⟨rfl,rfl⟩:=hshape
        obtain ⟨junk,hRR,k1,k2,k3,k4⟩:=hown1.rr
        exact .inr ⟨b1,junk,rfl,k3,k4,k1,hRR⟩
    go_ret;exact ⟨ao1,cap1,rfl,hor,Below.trans (by (repeat' (first|with_reducible (first|exact Below.refl _ _|assumption|refine Below.drew ?_|refine A3 ?_ _|refine Below.alloc ?_ ?_ _|refine Below.setCell ?_ ?_ _)|omega|(simp;done)|(simp;omega)))) hb2⟩
theorem B0f (r:C1) (v:Int) (p:Nat) (w:World) (hp:w.cell? ⟨p,0,none⟩=some (.int .i64 v)) (hpl:p<w.heap.size):
  Calls Tryz.prog 84 #[.agg #[.int .i64 r.ver,.int .i64 r.flow,.int .i64 r.next],.pointer (some ⟨p,0,none⟩)] w fun e w'=>e=.returned (.bool (r.ver==v))∧Below w.heap.size w w':=by
 go_enter Tryz.func84,Tryz.ntmps84
 go_wp2
 go_ret;exact ⟨rfl,by (repeat' (first|with_reducible (first|exact Below.refl _ _|assumption|refine Below.drew ?_|refine A3 ?_ _|refine Below.alloc ?_ ?_ _|refine Below.setCell ?_ ?_ _)|omega|(simp;done)|(simp;omega)))⟩
theorem A9q (l:List C1) (v:Int) (p:Nat) (ok:Nat→Prop) (ax:Option Addr) (cx:Nat) (w:World) (hx:A8 G6 ok w ax cx l) (hp:w.cell? ⟨p,0,none⟩=some (.int .i64 v)) (hpl:p<w.heap.size):
  Calls Tryz.prog 97 #[.slice ax l.length cx,.func (.func 84) #[] #[.pointer (some ⟨p,0,none⟩)]] w fun e w'=>
   ((∃ k r,e=.returned (.int .i64 ((k:Nat):Int))∧l[k]? =some r∧(r.ver==v)=true∧∀ y∈l.take k,(y.ver==v)=false)∨(e=.returned (.int .i64 (-1))∧∀ y∈l.take l.length,(y.ver==v)=false))∧Below w.heap.size w w':=by
 have hlx:=hx.len_le
 have hst:Hid (∀ y∈l.take 0,(y.ver==v)=false):=fun y hy=>by simp at hy
 go_enter Tryz.func97,Tryz.ntmps97
 go_wp2
 go_loopw [5,8] (fun _ i wr=>∃ j:Nat,j≤l.length∧i=.int .i64 j∧Hid (∀ y∈l.take j,(y.ver==v)=false)∧Below w.heap.size w wr) (fun _ i _=>l.length - (intOf i).toNat)
 case atStart=>exact ⟨0,Nat.zero_le _,rfl,hst,Below.refl _ _⟩
 case round=>
  clear hst
  obtain ⟨j,hj,rfl,hS,hb⟩:=hrel
  rename World=>wo
  have hzz:=hb.size
  by_cases hlt:j<l.length
  case neg=>
   obtain rfl:j=l.length:=by omega
   go_wp2
   go_ret;exact ⟨.inr ⟨rfl,hS.out⟩,hb⟩
  obtain ⟨r,hr⟩:∃ r,l[j]? =some r:=⟨_,List.getElem?_eq_getElem hlt⟩
  obtain ⟨b,off,rfl,hbl,hri,hce⟩:=hx.rules hr
  obtain ⟨e0,e1,e2⟩:=hce _ hb
  have b0:(0:Int)≤(j:Int):=by omega
  have b1:(j:Int)<(l.length:Int):=by omega
  have hC:=B0f r v p wo (B8 hb hpl hp) (by omega)
  have HR:=Lib.hid hr
  have HN:Hid ((r.ver==v)=false→∀ y∈l.take (j+1),(y.ver==v)=false):=fun h=>B1b (p:=fun y:C1=>y.ver==v) hS.out hr h
  clear hce hr
  cases hrv:(r.ver==v)
  ·rw [hrv] at hC
   have HC:=Lib.hid hC
   have HM:=Lib.hid (HN.out hrv)
   clear hC HN hS hrv
   go_wp2_with fail
   refine HC.out.mono ?_
   rintro e w1 ⟨rfl,hb1⟩
   have hb2:Below w.heap.size w w1:=hb.trans (hb1.mono hzz)
   go_wp2
   case roundEnd=>
    go_roundw
    case rel=>exact ⟨j+1,by omega,by go_num,HM,hb2⟩
    case measure=>simp [intOf]<;>omega
  ·rw [hrv] at hC
   have HC:=Lib.hid hC
   have HV:=Lib.hid hrv
   clear hC HN hrv
   go_wp2_with fail
   refine HC.out.mono ?_
   rintro e w1 ⟨rfl,hb1⟩
   have hb2:Below w.heap.size w w1:=hb.trans (hb1.mono hzz)
   go_wp2
   go_ret;exact ⟨.inl ⟨j,r,rfl,HR.out,HV.out,hS.out⟩,hb2⟩
theorem B28 (B:Nat) (xs:List C1) (v:Int) (p:Nat) (ao:Option Addr) (cap:Nat) (w:World) (h:OR 112 w B ao cap xs) (hB:B≤w.heap.size) (hp:w.cell? ⟨p,0,none⟩=some (.int .i64 v)) (hpB:p<B) (hbig:xs.length≤100000000000000):
  Calls Tryz.prog 83 #[.slice ao xs.length cap,.func (.func 84) #[] #[.pointer (some ⟨p,0,none⟩)]] w fun e w'=>e=.returned (.slice ao (S0 xs v).length cap)∧OR 112 w' B ao cap (S0 xs v)∧Below B w w':=by
 obtain ⟨i0,hi,hz0,hz1,hz2⟩:=info_parts W7
 have hIx:=A9q xs v p _ ao cap w h.row hp (by omega)
 have HE:Hid ((∀ y∈xs.take xs.length,(y.ver==v)=false)→S0 xs v=xs):=fun h=>B2w h (Nat.le_refl _)
 have HDN:Hid (∀ m kk zs,Del (fun y:C1=>y.ver==v) xs m kk zs→xs.length≤m→kk≤xs.length→zs.take kk=S0 xs v∧(S0 xs v).length=kk):=fun m kk zs h1 h2 h3=>h1.done h2 h3
 generalize S0 xs v=ys at *
 go_enter Tryz.func83,Tryz.ntmps83
 go_wp2_with fail
 refine hIx.mono ?_
 rintro e w1 ⟨⟨k,x,rfl,hk,hkv,hkn⟩|⟨rfl,hall⟩,hb1⟩
 case inr=>
  have HEE:=Lib.hid (HE.out hall)
  have hb2:Below B w w1:=hb1.mono hB
  have h1:=h.below hb1
  clear HE hall HDN hIx
  go_wp2
  go_ret;exact ⟨V8 (by rw [HEE.out]),by rw [HEE.out];exact h1,hb2⟩
 have h1:=h.below hb1
 have hb2:Below B w w1:=hb1.mono hB
 rcases h1 with ⟨rfl,_,_⟩|⟨g,junk,rfl,f1,f2,f3,hR⟩
 ·simp at hk
 have hkl:=(List.getElem?_eq_some_iff.1 hk).1
 have hst:=Lib.hid (Del.start hkn hk hkv)
 have hc63:cap≤9223372036854775807:=by simp only [maxLen] at f2;omega
 have b1:((k:Int)==-1)=false:=by rw [beq_eq_false_iff_ne];omega
 have hB1:=hb2.size
 clear hIx h hk hkv hkn HE hb1
 generalize hn:xs.length=n at *
 have HXN:=Lib.hid hn
 clear hn
 go_wp2
 go_loopw [5,6,7] (fun ii jj _ wr=>∃ (i j:Nat) (zs:List C1),ii=.int .i64 i∧jj=.int .i64 j∧j≤n∧i<j∧Hid (Del (fun y:C1=>y.ver==v) xs j i zs)∧RR wr g 112 zs junk∧Below B w wr) (fun _ jj _ _=>n - (intOf jj).toNat)
 case atStart=>exact ⟨k,k+1,xs,rfl,by go_num,by omega,by omega,hst,hR,hb2⟩
 case round=>
  clear hst hR hb2 hB1
  obtain ⟨i,j,zs,rfl,rfl,hj,hij,hS,hR,hb⟩:=hrel
  rename World=>wo
  have hzl:zs.length=n:=by rw [hS.out.2.2.1,HXN.out]
  have hgl:=hR.lt
  by_cases hlt:j<n
  case neg=>
   obtain ⟨g1,g2⟩:=HDN.out _ _ _ hS.out (by omega) (by omega)
   obtain ⟨wc,hcl,⟨junk',hRc⟩,hNc⟩:=A2e (P:=Tryz.prog) (t:=62) (k:=i) (n:=n) Tryz.underlying62 hi hz0 rfl (by decide) hR hzl (by omega)
   have HG1:=Lib.hid g1
   have HG2:=Lib.hid g2
   have hbz:=hb.size
   have HNC:=Lib.hid (hNc.to hb (by omega) f3)
   have b2:¬(j:Int)<(n:Int):=by omega
   clear hS g1 g2 hNc hzl
   go_wp2
   go_ret;exact ⟨V8 (by rw [HG2.out]),.inr ⟨g,junk',rfl,by rw [HG2.out];omega,f2,f3,by rw [←HG1.out];exact hRc⟩,HNC.out⟩
  obtain ⟨r,hr⟩:∃ r,zs[j]? =some r:=⟨_,List.getElem?_eq_getElem (by omega)⟩
  obtain ⟨o,ho⟩:∃ o,zs[i]? =some o:=⟨_,List.getElem?_eq_getElem (by omega)⟩
  obtain ⟨x0,x1,x2⟩:=hR.get hr
  have hri:=hR.elem hr
  have hrx:xs[j]? =some r:=by rw [←hr];exact (hS.out.2.2.2 j (by omega)).symm
  have b2:(j:Int)<(n:Int):=by omega
  have b0:(0:Int)≤(j:Int):=by omega
  have hbz:=hb.size
  have HSK:Hid ((r.ver==v)=true→Del (fun y:C1=>y.ver==v) xs (j+1) i zs):=fun h=>hS.out.skip hrx h
  have HKP:Hid ((r.ver==v)=false→Del (fun y:C1=>y.ver==v) xs (j+1) (i+1) (zs.set i r)):=fun h=>hS.out.keep hrx h
  have HO:=Lib.hid ho
  have hpw:(wo.alloc (.cells #[.int .i64 r.ver,.int .i64 r.flow,.int .i64 r.next] 112)).cell? ⟨p,0,none⟩=some (.int .i64 v):=B8 (B:=B) (Below.trans hb (by (repeat' (first|with_reducible (first|exact Below.refl _ _|assumption|refine Below.drew ?_|refine A3 ?_ _|refine Below.alloc ?_ ?_ _|refine Below.setCell ?_ ?_ _)|omega|(simp;done)|(simp;omega))))) hpB hp
  have hV:=B0f r v p _ hpw (by simp;omega)
  have hR1:=hR.alloc (.cells #[.int .i64 r.ver,.int .i64 r.flow,.int .i64 r.next] 112)
  have hbx:Below B w (wo.alloc (.cells #[.int .i64 r.ver,.int .i64 r.flow,.int .i64 r.next] 112)):=by (repeat' (first|with_reducible (first|exact Below.refl _ _|assumption|refine Below.drew ?_|refine A3 ?_ _|refine Below.alloc ?_ ?_ _|refine Below.setCell ?_ ?_ _)|omega|(simp;done)|(simp;omega)))
  have hbk:=(A6.new (w:=wo) (t:=112) (cs:=#[.int .i64 r.ver,.int .i64 r.flow,.int .i64 r.next]) rfl)
  clear hS hr hrx ho
  cases hrv:(r.ver==v)
  ·rw [hrv] at hV
   have HV:=Lib.hid hV
   have HM:=Lib.hid (HKP.out hrv)
   clear hV HSK HKP hrv
   go_wp2_with fail
   refine HV.out.mono ?_
   rintro e w2 ⟨rfl,hb3⟩
   have hR2:=hR1.under hb3
   have hbk2:=hbk.under hb3
   have hb4:Below B w w2:=hbx.trans (hb3.mono (Nat.le_trans hB hbx.size))
   obtain ⟨o0,o1,o2⟩:=hR2.get HO.out
   obtain ⟨k0,k1⟩:=hbk2.cells
   have hfz:=hR2.frz
   have hR3:=hR2.put (i:=i) (by omega) hri
   have hgl2:=hR2.lt
   clear HV hb3 hbk
   go_wp2
   case roundEnd=>
    go_roundw
    case rel=>exact ⟨i+1,j+1,_,by go_num,by go_num,by omega,by omega,HM,hR3,((hb4.setCell (p:=⟨g,i * 3,none⟩) f3 _).setCell (p:=⟨g,i * 3+1,none⟩) f3 _).setCell (p:=⟨g,i * 3+2,none⟩) f3 _⟩
    case measure=>simp [intOf]<;>omega
  ·rw [hrv] at hV
   have HV:=Lib.hid hV
   have HM:=Lib.hid (HSK.out hrv)
   clear hV HSK HKP hrv
   go_wp2_with fail
   refine HV.out.mono ?_
   rintro e w2 ⟨rfl,hb3⟩
   have hR2:=hR1.under hb3
   have hb4:Below B w w2:=hbx.trans (hb3.mono (Nat.le_trans hB hbx.size))
   clear HV hb3 hbk
   go_wp2
   case roundEnd=>
    go_roundw
    case rel=>exact ⟨i,j+1,_,rfl,by go_num,by omega,by omega,HM,hR2,hb4⟩
    case measure=>simp [intOf]<;>omega
theorem B4t (l:List C1) (v:Int) (ok:Nat→Prop) (ax:Option Addr) (cx:Nat) (w:World) (hx:A8 G6 ok w ax cx l) (hbig:l.length * 24≤140737488355328):
  Calls Tryz.prog 65 #[.slice ax l.length cx,.int .i64 v] w fun e w'=>∃ ao cap,e=.returned (.slice ao (S0 l v).length cap)∧OR 112 w' w.heap.size ao cap (S0 l v)∧Below w.heap.size w w':=by
 go_enter Tryz.func65,Tryz.ntmps65
 go_wp2_with fail
 have hb0:=G8 w (.cells #[.int .i64 v] 3)
 have hk0:=(A6.new (w:=w) (t:=3) (cs:=#[.int .i64 v]) rfl)
 refine (A00 l ok ax cx _ (hx.below hb0) hbig).mono ?_
 rintro e w1 ⟨ao,cap,rfl,hO,hb1⟩
 have hk1:=hk0.under hb1
 have hB1:Below w.heap.size w w1:=hb0.trans (hb1.mono hb0.size)
 have hs1:w.heap.size+1≤w1.heap.size:=by have:=hb1.size;simpa using this
 rw [show (w.alloc (.cells #[.int .i64 v] 3)).heap.size=w.heap.size+1 by simp] at hO
 clear hb1 hb0 hk0
 go_wp2_with fail
 refine (B28 (w.heap.size+1) l v w.heap.size ao cap w1 hO hs1 (hk1.cells.1 0) (by omega) (by omega)).mono ?_
 rintro e w2 ⟨rfl,hO2,hb2⟩
 have hB2:Below w.heap.size w w2:=hB1.trans (hb2.mono (by omega))
 go_wp2
 go_ret;refine ⟨ao,cap,rfl,?_,hB2⟩
 rcases hO2 with h|⟨g,junk,h0,h1,h2,h3,h4⟩
 ·exact .inl h
 ·exact .inr ⟨g,junk,h0,h1,h2,by omega,h4⟩
end Go.Proofs.YtampcbncgofkoaaGreatDoor
namespace Go.St
open Go.RowKit
theorem A8.stamps {ok:Nat→Prop} {w:World} {ax:Option Addr} {cx:Nat} {l:List J0} (h:A8 J6 ok w ax cx l) {j:Nat} {r:J0} (hr:l[j]? =some r):∃ b off,ax=some ⟨b,off,none⟩∧b<w.heap.size∧(I64 r.flow∧I64 r.ver)∧
  ∀ w',Below w.heap.size w w'→w'.cell? ⟨b,off+j * 2,none⟩=some (.int .i64 r.flow)∧w'.cell? ⟨b,off+j * 2+1,none⟩=some (.int .i64 r.ver):=by
 obtain ⟨b,off,rfl,_,hbl,cs,hcs,hce⟩:=h.get hr
 obtain ⟨rfl,h1,h2⟩:=hcs
 refine ⟨b,off,rfl,hbl,⟨h1,h2⟩,fun w' hb=>⟨?_,?_⟩⟩
 ·have:=B8 hb hbl (hce 0 _ rfl);simpa only [J6,Nat.add_zero] using this
 ·have:=B8 hb hbl (hce 1 _ rfl);simpa only [J6] using this
end Go.St
namespace Go.Proofs.YtampcbncgofkoaaGreatDoor
open Go.RowKit Go.St
theorem A4p:(Tryz.prog.info? 146).map (fun i=>(i.zero,i.size,i.bytes))=some (some (.agg #[.int .i64 0,.int .i64 0]),2,16):=by kernel_rfl
theorem A6d (s:D8) (cs:List Value) (ok:Nat→Prop) (w:World) (h:E8.rep ok w cs s):
  Calls Tryz.prog 60 #[.agg cs.toArray] w fun e w'=>e=.returned (.int .i64 (N3 s))∧Below w.heap.size w w':=by
 obtain ⟨ra,rc,sa,sc,rfl,hr,hs⟩:=h
 obtain ⟨rs,ss⟩:=s
 dsimp only at *
 have hsx:=hs.len_le
 have HW1:Hid ((E5 rs).1≠0→N3 ⟨rs,ss⟩=(E5 rs).1):=fun h=>by unfold N3;exact if_pos h
 have HW2:Hid ((E5 rs).1=0→N3 ⟨rs,ss⟩=A34 (A1j ss 0) (ss.drop 0)):=fun h=>by unfold N3;exact if_neg (fun h2=>h2 h)
 generalize N3 ⟨rs,ss⟩=c at *
 go_enter Tryz.func60,Tryz.ntmps60
 go_wp2_with fail
 have hk0:=(A6.new (w:=w) (t:=65) (cs:=#[.slice ra rs.length rc,.slice sa ss.length sc]) rfl)
 have hb0:=G8 w (.cells #[.slice ra rs.length rc,.slice sa ss.length sc] 65)
 refine (A0a rs ok ra rc _ (hr.below hb0)).mono ?_
 rintro e w1 ⟨rfl,hb1⟩
 have hk1:=hk0.under hb1
 have hB1:Below w.heap.size w w1:=hb0.trans (hb1.mono hb0.size)
 have hk1l:=hk1.lt
 obtain ⟨k1,k2⟩:=hk1.cells
 generalize E5 rs=tw at *
 obtain ⟨tw1,tw2⟩:=tw
 dsimp only at *
 clear hk0 hb0 hb1
 by_cases h1:tw1=0
 case neg=>
  have h1':(tw1 !=0)=true:=by rw [bne_iff_ne];exact h1
  have HE:=Lib.hid (HW1.out h1)
  clear HW1 HW2 h1
  go_wp2
  go_ret;exact ⟨by rw [HE.out];rfl,by (repeat' (first|with_reducible (first|exact Below.refl _ _|assumption|refine Below.drew ?_|refine A3 ?_ _|refine Below.alloc ?_ ?_ _|refine Below.setCell ?_ ?_ _)|omega|(simp;done)|(simp;omega)))⟩
 subst h1
 have hst:=Lib.hid (HW2.out (by first|trivial|rfl))
 clear HW1 HW2
 go_wp2
 go_loopw [4,5,17] (fun _ _ i wr=>∃ j:Nat,j≤ss.length∧i=.int .i64 j∧Hid (c=A34 (A1j ss j) (ss.drop j))∧Below w.heap.size w wr∧A6 wr w.heap.size 65 #[.slice ra rs.length rc,.slice sa ss.length sc]) (fun _ _ i _=>ss.length - (intOf i).toNat)
 case atStart=>exact ⟨0,Nat.zero_le _,rfl,hst,by (repeat' (first|with_reducible (first|exact Below.refl _ _|assumption|refine Below.drew ?_|refine A3 ?_ _|refine Below.alloc ?_ ?_ _|refine Below.setCell ?_ ?_ _)|omega|(simp;done)|(simp;omega))),hk1.alloc _⟩
 case round=>
  clear hst k1 k2
  obtain ⟨j,hj,rfl,hS,hb,hK⟩:=hrel
  rename World=>wo
  obtain ⟨k1,k2⟩:=hK.cells
  have hKl:=hK.lt
  by_cases hlt:j<ss.length
  case neg=>
   have HE:=Lib.hid (B4p hS.out (by omega))
   have b1:¬(j:Int)<(ss.length:Int):=by omega
   clear hS
   go_wp2
   go_ret;exact ⟨I0 HE.out.symm,by (repeat' (first|with_reducible (first|exact Below.refl _ _|assumption|refine Below.drew ?_|refine A3 ?_ _|refine Below.alloc ?_ ?_ _|refine Below.setCell ?_ ?_ _)|omega|(simp;done)|(simp;omega)))⟩
  obtain ⟨x,hx⟩:∃ x,ss[j]? =some x:=⟨_,List.getElem?_eq_getElem hlt⟩
  obtain ⟨b,off,rfl,hbl,hri,hce⟩:=hs.stamps hx
  obtain ⟨e0,e1⟩:=hce _ hb
  have HT:=Lib.hid (B3x hS.out hx)
  have b0:(0:Int)≤(j:Int):=by omega
  have b1:(j:Int)<(ss.length:Int):=by omega
  have hzz:=hb.size
  by_cases hro:W8 x
  ·rw [if_pos hro] at HT
   have HQ:=Lib.hid HT.out
   clear HT hS
   unfold W8 at hro
   by_cases o1:x.flow<0
   ·go_wp2
    go_ret;exact ⟨I0 HQ.out.symm,by (repeat' (first|with_reducible (first|exact Below.refl _ _|assumption|refine Below.drew ?_|refine A3 ?_ _|refine Below.alloc ?_ ?_ _|refine Below.setCell ?_ ?_ _)|omega|(simp;done)|(simp;omega)))⟩
   by_cases o2:x.flow≥12
   ·go_wp2
    go_ret;exact ⟨I0 HQ.out.symm,by (repeat' (first|with_reducible (first|exact Below.refl _ _|assumption|refine Below.drew ?_|refine A3 ?_ _|refine Below.alloc ?_ ?_ _|refine Below.setCell ?_ ?_ _)|omega|(simp;done)|(simp;omega)))⟩
   by_cases o3:x.ver<1
   ·go_wp2
    go_ret;exact ⟨I0 HQ.out.symm,by (repeat' (first|with_reducible (first|exact Below.refl _ _|assumption|refine Below.drew ?_|refine A3 ?_ _|refine Below.alloc ?_ ?_ _|refine Below.setCell ?_ ?_ _)|omega|(simp;done)|(simp;omega)))⟩
   have o4:x.ver>1000:=by omega
   go_wp2
   go_ret;exact ⟨I0 HQ.out.symm,by (repeat' (first|with_reducible (first|exact Below.refl _ _|assumption|refine Below.drew ?_|refine A3 ?_ _|refine Below.alloc ?_ ?_ _|refine Below.setCell ?_ ?_ _)|omega|(simp;done)|(simp;omega)))⟩
  rw [if_neg hro] at HT
  unfold W8 at hro
  have o1:¬x.flow<0:=by omega
  have o2:¬x.flow≥12:=by omega
  have o3:¬x.ver<1:=by omega
  have o4:¬x.ver>1000:=by omega
  clear hro hS
  cases j with
  |zero=>
   simp only [Nat.zero_mul,Nat.add_zero] at e0 e1
   have HT2:Hid (c=A34 (A1j ss (0+1)) (ss.drop (0+1))):=HT.out
   clear HT
   go_wp2
   go_quiet (fail)
   go_wp2
   case roundEnd=>
    go_roundw
    case rel=>exact ⟨1,by omega,by go_num,HT2,by (repeat' (first|with_reducible (first|exact Below.refl _ _|assumption|refine Below.drew ?_|refine A3 ?_ _|refine Below.alloc ?_ ?_ _|refine Below.setCell ?_ ?_ _)|omega|(simp;done)|(simp;omega))),(hK.alloc _).drewN _⟩
    case measure=>simp [intOf]<;>omega
  |succ k=>
   obtain ⟨q,hq⟩:∃ q,ss[k]? =some q:=⟨_,List.getElem?_eq_getElem (by omega)⟩
   obtain ⟨b',off',hbo,_,_,hce'⟩:=hs.stamps hq
   obtain ⟨rfl,rfl⟩:b=b'∧off=off':=by simpa using hbo
   obtain ⟨d0,d1⟩:=hce' _ hb
   have HT2:Hid (c=if decide (x.flow≤q.flow)=true then 2 else A34 (A1j ss (k+1+1)) (ss.drop (k+1+1))):=by
    have:=HT.out
    rw [show A1j ss (k+1)=some q from hq] at this
    exact this
   have e3:IntKind.i64.wrap (((k+1:Nat):Int) - 1)=(k:Int):=by rw [IntWalk.i64_in _ (by omega)];omega
   have b3:(k:Int)<(ss.length:Int):=by omega
   have k9:IntKind.i64.wrap (k:Int)=k:=IntWalk.i64_in _ (by omega)
   have hbl2:b<wo.heap.size:=by omega
   clear HT hce hce' hbo hx hq
   by_cases hqx:x.flow≤q.flow
   ·have hqx':q.flow≥x.flow:=hqx
    have HT3:=HT2.out
    rw [if_pos (decide_eq_true hqx)] at HT3
    have HT4:=Lib.hid HT3
    clear HT2 HT3
    go_wp2
    go_quiet (fail)
    go_wp2
    go_ret;exact ⟨I0 HT4.out.symm,by (repeat' (first|with_reducible (first|exact Below.refl _ _|assumption|refine Below.drew ?_|refine A3 ?_ _|refine Below.alloc ?_ ?_ _|refine Below.setCell ?_ ?_ _)|omega|(simp;done)|(simp;omega)))⟩
   ·have hqx':¬q.flow≥x.flow:=hqx
    have HT3:=HT2.out
    rw [if_neg (by simpa using hqx)] at HT3
    have HT4:=Lib.hid HT3
    clear HT2 HT3
    go_wp2
    go_quiet (fail)
    go_wp2
    case roundEnd=>
     go_roundw
     case rel=>exact ⟨k+1+1,by omega,by go_num,HT4,by (repeat' (first|with_reducible (first|exact Below.refl _ _|assumption|refine Below.drew ?_|refine A3 ?_ _|refine Below.alloc ?_ ?_ _|refine Below.setCell ?_ ?_ _)|omega|(simp;done)|(simp;omega))),(hK.alloc _).drewN _⟩
     case measure=>simp [intOf]<;>omega
theorem A37 (s:D8) (f:Int) (cs:List Value) (ok:Nat→Prop) (w:World) (h:E8.rep ok w cs s):
  Calls Tryz.prog 50 #[.agg cs.toArray,.int .i64 f] w fun e w'=>e=.returned (.int .i64 (J5 s f))∧Below w.heap.size w w':=by
 obtain ⟨ra,rc,sa,sc,rfl,hr,hs⟩:=h
 obtain ⟨rs,ss⟩:=s
 dsimp only at *
 have hsx:=hs.len_le
 have hst:Hid (J5 ⟨rs,ss⟩ f=J5 ⟨rs,ss.drop 0⟩ f):=rfl
 have HSTP:Hid (∀ (j:Nat) (x:J0),ss[j]? =some x→J5 ⟨rs,ss.drop j⟩ f=if x.flow=f then x.ver else J5 ⟨rs,ss.drop (j+1)⟩ f):=fun j x hx=>B37 hx
 have HEND:Hid (∀ j:Nat,ss.length≤j→J5 ⟨rs,ss.drop j⟩ f=0):=fun j hj=>B43 hj
 generalize J5 ⟨rs,ss⟩ f=c at *
 go_enter Tryz.func50,Tryz.ntmps50
 go_wp2
 go_loopw [6,10] (fun _ i wr=>∃ j:Nat,j≤ss.length∧i=.int .i64 j∧Hid (c=J5 ⟨rs,ss.drop j⟩ f)∧Below w.heap.size w wr) (fun _ i _=>ss.length - (intOf i).toNat)
 case atStart=>exact ⟨0,Nat.zero_le _,rfl,hst,by (repeat' (first|with_reducible (first|exact Below.refl _ _|assumption|refine Below.drew ?_|refine A3 ?_ _|refine Below.alloc ?_ ?_ _|refine Below.setCell ?_ ?_ _)|omega|(simp;done)|(simp;omega)))⟩
 case round=>
  clear hst
  obtain ⟨j,hj,rfl,hS,hb⟩:=hrel
  rename World=>wo
  by_cases hlt:j<ss.length
  case neg=>
   have HE:Hid (c=0):=by show _=_;rw [hS.out,HEND.out j (by omega)]
   have b1:¬(j:Int)<(ss.length:Int):=by omega
   clear hS
   go_wp2
   go_ret;exact ⟨I0 HE.out.symm,by (repeat' (first|with_reducible (first|exact Below.refl _ _|assumption|refine Below.drew ?_|refine A3 ?_ _|refine Below.alloc ?_ ?_ _|refine Below.setCell ?_ ?_ _)|omega|(simp;done)|(simp;omega)))⟩
  obtain ⟨x,hx⟩:∃ x,ss[j]? =some x:=⟨_,List.getElem?_eq_getElem hlt⟩
  obtain ⟨b,off,rfl,hbl,hri,hce⟩:=hs.stamps hx
  obtain ⟨e0,e1⟩:=hce _ hb
  have hE:=HSTP.out j x hx
  have b0:(0:Int)≤(j:Int):=by omega
  have b1:(j:Int)<(ss.length:Int):=by omega
  have hzz:=hb.size
  by_cases h1:x.flow=f
  ·rw [if_pos h1] at hE
   have HE:Hid (c=x.ver):=by show _=_;rw [hS.out,hE]
   have p1:(x.flow==f)=true:=by simpa using h1
   clear hS hE h1 hce hx
   go_wp2
   go_ret;exact ⟨I0 HE.out.symm,by (repeat' (first|with_reducible (first|exact Below.refl _ _|assumption|refine Below.drew ?_|refine A3 ?_ _|refine Below.alloc ?_ ?_ _|refine Below.setCell ?_ ?_ _)|omega|(simp;done)|(simp;omega)))⟩
  ·rw [if_neg h1] at hE
   have HE:Hid (c=J5 ⟨rs,ss.drop (j+1)⟩ f):=by show _=_;rw [hS.out,hE]
   have p1:(x.flow==f)=false:=by simpa using h1
   clear hS hE h1 hce hx
   go_wp2
   go_roundw
   case rel=>exact ⟨j+1,by omega,by go_num,HE,by (repeat' (first|with_reducible (first|exact Below.refl _ _|assumption|refine Below.drew ?_|refine A3 ?_ _|refine Below.alloc ?_ ?_ _|refine Below.setCell ?_ ?_ _)|omega|(simp;done)|(simp;omega)))⟩
   case measure=>simp [intOf]<;>omega
theorem A4z (l:List J0) (ok:Nat→Prop) (ax:Option Addr) (cx:Nat) (w:World) (hx:A8 J6 ok w ax cx l) (hsm:l.length≤1000000):
  Calls Tryz.prog 62 #[.slice ax l.length cx] w fun e w'=>∃ ao cap,e=.returned (.slice ao l.length cap)∧A8 J6 (fun b=>w.heap.size≤b) w' ao cap l∧Below w.heap.size w w':=by
 obtain ⟨i0,hi,hz0,hz1,hz2⟩:=info_parts A4p
 have hlx:=hx.len_le
 have hnil:=A2l (P:=Tryz.prog) 63 146 Tryz.underlying63
 cases ax with
 |none=>
  obtain rfl:l=[]:=by
   obtain ⟨_,_,h|⟨_,_,h,_⟩⟩:=hx
   ·exact h
   ·cases h
  go_enter Tryz.func62,Tryz.ntmps62
  go_wp2
  go_ret;exact ⟨none,0,rfl,A8.nil _ _ _ _,by (repeat' (first|with_reducible (first|exact Below.refl _ _|assumption|refine Below.drew ?_|refine A3 ?_ _|refine Below.alloc ?_ ?_ _|refine Below.setCell ?_ ?_ _)|omega|(simp;done)|(simp;omega)))⟩
 |some a=>
  have hown:C7 J6 146 (fun _=>False) w.heap.size (w.alloc (.cells (([]:List J0).map (fun _=>Value.int .i64 0)).toArray 146)) (some ⟨w.heap.size,0,none⟩) 0 0 []:=C7.lit rfl rfl (Nat.le_refl _) (by decide) (by simp) (fun _ h=>h.elim)
  go_enter Tryz.func62,Tryz.ntmps62
  go_wp2_with (at_builtin;go_must (refine H4 (sh:=J6) rfl _ _ 63 rfl 146 i0 (.agg #[.int .i64 0,.int .i64 0]) 16 Tryz.underlying63 hi hz0 hz1 hz2 rfl (by decide) rfl hown rfl rfl ((hx.below (by (repeat' (first|with_reducible (first|exact Below.refl _ _|assumption|refine Below.drew ?_|refine A3 ?_ _|refine Below.alloc ?_ ?_ _|refine Below.setCell ?_ ?_ _)|omega|(simp;done)|(simp;omega))))).src.flat fun h=>h) (by simp only [maxLen];omega) (by omega) (by first|omega|(simp;done)|(simp;omega)) ?_);go_must (
   intro ao1 cap1 w2 hown1 hg1 hbk
   have hb2:=D6 (B:=w.heap.size) hg1 (fun k hk=>(hown.lt k hk).1) (by first|omega|(simp;done)|(simp;omega))
   rw [List.nil_append,Nat.zero_add] at hown1))
  have hrow:A8 J6 (fun b=>w.heap.size≤b) w2 ao1 cap1 l:=hown1.row (fun _ h=>h.elim) (fun k hk=>(hown1.lt k hk).1)
  go_ret;exact ⟨ao1,cap1,rfl,hrow,Below.trans (by (repeat' (first|with_reducible (first|exact Below.refl _ _|assumption|refine Below.drew ?_|refine A3 ?_ _|refine Below.alloc ?_ ?_ _|refine Below.setCell ?_ ?_ _)|omega|(simp;done)|(simp;omega)))) hb2⟩
end Go.Proofs.YtampcbncgofkoaaGreatDoor
namespace Go.St
open Go.RowKit
theorem D7.stamp {e:TypeId} {w:World} (r:J0) {b:Nat} (hb:A6 w b e #[.int .i64 r.flow,.int .i64 r.ver]) (h1:I64 r.flow) (h2:I64 r.ver) {ok:Nat→Prop}:D7 J6 ok w (some ⟨b,0,none⟩) [r]:=by
  refine .inr ⟨b,0,rfl,fun i x hx=>?_⟩
  match i,hx with
  |0,hx=>
    obtain rfl:r=x:=by simpa using hx
    refine ⟨_,⟨rfl,h1,h2⟩,fun j c hc=>?_⟩
    simp only [Nat.zero_mul,Nat.zero_add]
    rw [hb.cells.1 j]
    simpa using hc
  |i+1,hx=>simp at hx
end Go.St
namespace Go.Proofs.YtampcbncgofkoaaGreatDoor
open Go.RowKit Go.St
theorem A9a (x:J0) (f:Int) (w:World):
  Calls Tryz.prog 80 #[.agg #[.int .i64 x.flow,.int .i64 x.ver],.int .i64 f] w fun e w'=>e=.returned (.int .i64 (X1 x.flow f))∧Below w.heap.size w w':=by
 go_enter Tryz.func80,Tryz.ntmps80
 go_wp2_with fail
 have hb0:=G8 w (.cells #[.int .i64 x.flow,.int .i64 x.ver] 146)
 refine (A35 x.flow f _).mono ?_
 rintro e w1 ⟨rfl,rfl⟩
 go_wp2
 go_ret;exact ⟨rfl,hb0⟩
theorem B10 (xs:List J0) (f:Int) (hf:∀ x∈xs,x.flow<f) (ok:Nat→Prop) (ao:Option Addr) (cap:Nat) (w:World) (hx:A8 J6 ok w ao cap xs) (hsm:xs.length≤1000000):
  Calls Tryz.prog 79 #[.slice ao xs.length cap,.int .i64 f,.func (.func 80) #[] #[]] w fun e w'=>e=.returned (.tuple #[.int .i64 xs.length,.bool false])∧Below w.heap.size w w':=by
 have HF:Hid (∀ (h:Nat) (x:J0),xs[h]? =some x→X1 x.flow f=-1):=fun h x hx=>by unfold X1;rw [if_pos (hf x (List.mem_of_getElem? hx))]
 clear hf
 generalize hn:xs.length=n at *
 have HN:=Lib.hid hn
 go_enter Tryz.func79,Tryz.ntmps79
 clear hn
 go_wp2
 go_loopw [9,10,11] (fun ii jj _ wr=>∃ i:Nat,ii=.int .i64 i∧jj=.int .i64 n∧i≤n∧Below w.heap.size w wr) (fun ii _ _ _=>n - (intOf ii).toNat)
 case atStart=>exact ⟨0,rfl,rfl,Nat.zero_le _,Below.refl _ _⟩
 case round=>
  obtain ⟨i,rfl,rfl,hi,hb⟩:=hrel
  rename World=>wo
  by_cases hlt:i<n
  case neg=>
   obtain rfl:i=n:=by omega
   go_wp2
   go_returns;exact ⟨rfl,hb⟩
  have b1:(i:Int)<(n:Int):=by omega
  obtain ⟨h,e2⟩:∃ h:Nat,((i:Int)+n) / 2=(h:Int):=⟨(i+n) / 2,by omega⟩
  have h1:i≤h:=by omega
  have h2:h<n:=by omega
  obtain ⟨x,hxh⟩:∃ x,xs[h]? =some x:=⟨_,List.getElem?_eq_getElem (by rw [HN.out];omega)⟩
  obtain ⟨b,off,rfl,hbl,hri,hce⟩:=hx.stamps hxh
  obtain ⟨d0,d1⟩:=hce _ hb
  have hC:=A9a x f wo
  rw [HF.out h x hxh] at hC
  have HC:=Lib.hid hC
  have b2:(0:Int)≤(h:Int):=by omega
  have b3:(h:Int)<(n:Int):=by omega
  have k9:IntKind.i64.wrap (h:Int)=h:=IntWalk.i64_in _ (by omega)
  have hzz:=hb.size
  clear hC hce hxh
  go_wp2_with fail
  refine HC.out.mono ?_
  rintro e w1 ⟨rfl,hb1⟩
  have hb2:Below w.heap.size w w1:=hb.trans (hb1.mono hzz)
  go_wp2
  case roundEnd=>
   go_roundw
   case rel=>exact ⟨h+1,by go_num,rfl,by omega,hb2⟩
   case measure=>simp [intOf]<;>omega
theorem A89 (base:Nat) (xs:List J0) (x:J0) (ao:Option Addr) (cap b n:Nat) (w:World) (hn:xs.length=n) (hown:C7 J6 146 (fun _=>False) base w ao n cap xs) (hbase:base≤w.heap.size) (hsm:n≤1000000)
  (hb:A6 w b 146 #[.int .i64 x.flow,.int .i64 x.ver]) (h1:I64 x.flow) (h2:I64 x.ver):
  Calls Tryz.prog 82 #[.slice ao n cap,.int .i64 n,.slice (some ⟨b,0,none⟩) 1 1] w fun e w'=>∃ ao' cap',e=.returned (.slice ao' (n+1) cap')∧C7 J6 146 (fun _=>False) base w' ao' (n+1) cap' (xs++[x])∧Below base w w':=by
 obtain ⟨i0,hi,hz0,hz1,hz2⟩:=info_parts A4p
 have hsr:=D7.stamp x hb h1 h2 (ok:=fun _=>False)
 have hcap:n≤cap∧cap≤9223372036854775807∧(ao=none→cap=0)∧(∀ a,ao=some a→∃ g,a=⟨g,0,none⟩):=by
  obtain ⟨cells,⟨_,q1,q2,⟨q3,q4⟩|⟨g,cur,q3,_⟩⟩,_⟩:=hown
  ·exact ⟨q1,q2,fun _=>q4,fun a ha=>by rw [q3] at ha;cases ha⟩
  ·exact ⟨q1,q2,fun hh=>(by rw [q3] at hh;cases hh),fun a ha=>⟨g,by rw [q3] at ha;exact (Option.some.inj ha).symm⟩⟩
 obtain ⟨c1,c2,c3,c4⟩:=hcap
 have b9:((n:Int)==(n:Int))=true:=by simp
 cases ao with
 |none=>
  obtain rfl:=c3 rfl
  obtain rfl:n=0:=by omega
  go_enter Tryz.func82,Tryz.ntmps82
  go_wp2_with (at_builtin;go_must (refine H4 (sh:=J6) (n:=0) (m:=1) rfl _ _ 63 rfl 146 i0 (.agg #[.int .i64 0,.int .i64 0]) 16 Tryz.underlying63 hi hz0 hz1 hz2 rfl (by decide) rfl hown rfl rfl hsr (by simp only [maxLen];omega) (by omega) hbase ?_);go_must (
   intro ao1 cap1 w2 hown1 hg1 hbk
   have hb2:=D6 (B:=base) hg1 (fun k hk=>(hown.lt k hk).1) hbase))
  go_ret;exact ⟨ao1,cap1,rfl,hown1,hb2⟩
 |some a=>
  obtain ⟨g,rfl⟩:=c4 a rfl
  clear c3 c4
  go_enter Tryz.func82,Tryz.ntmps82
  go_wp2_with (at_builtin;go_must (refine H4 (sh:=J6) (n:=n) (m:=1) rfl _ _ 63 rfl 146 i0 (.agg #[.int .i64 0,.int .i64 0]) 16 Tryz.underlying63 hi hz0 hz1 hz2 rfl (by decide) rfl hown rfl rfl hsr (by simp only [maxLen];omega) (by omega) hbase ?_);go_must (
   intro ao1 cap1 w2 hown1 hg1 hbk
   have hb2:=D6 (B:=base) hg1 (fun k hk=>(hown.lt k hk).1) hbase))
  all_goals (go_ret;exact ⟨ao1,cap1,rfl,hown1,hb2⟩)
theorem B3q (base:Nat) (xs:List J0) (x:J0) (ao:Option Addr) (cap n:Nat) (w:World) (hn:xs.length=n) (hown:C7 J6 146 (fun _=>False) base w ao n cap xs) (hbase:base≤w.heap.size) (hsm:n≤1000000)
  (hf:∀ y∈xs,y.flow<x.flow) (h1:I64 x.flow) (h2:I64 x.ver):
  Calls Tryz.prog 64 #[.slice ao n cap,.agg #[.int .i64 x.flow,.int .i64 x.ver]] w fun e w'=>∃ ao' cap',e=.returned (.slice ao' (n+1) cap')∧C7 J6 146 (fun _=>False) base w' ao' (n+1) cap' (xs++[x])∧Below base w w':=by
 subst hn
 have hrow:A8 J6 (fun b=>base≤b) w ao cap xs:=hown.row (fun _ h=>h.elim) (fun k hk=>(hown.lt k hk).1)
 go_enter Tryz.func64,Tryz.ntmps64
 go_wp2_with fail
 have hb0:=G8 w (.cells #[.int .i64 x.flow,.int .i64 x.ver] 146)
 have hk0:=(A6.new (w:=w) (t:=146) (cs:=#[.int .i64 x.flow,.int .i64 x.ver]) rfl)
 refine (B10 xs x.flow hf _ ao cap _ (hrow.below hb0) hsm).mono ?_
 rintro e w1 ⟨rfl,hb1⟩
 have hk1:=hk0.under hb1
 have hB1:Below w.heap.size w w1:=hb0.trans (hb1.mono hb0.size)
 have hz1:=hB1.size
 obtain ⟨k1,k2⟩:=hk1.cells
 clear hk0 hb0 hb1 hrow hf
 go_wp2_with fail
 have hb2:Below w.heap.size w (w1.alloc (.cells #[.int .i64 x.flow,.int .i64 x.ver] 146)):=by (repeat' (first|with_reducible (first|exact Below.refl _ _|assumption|refine Below.drew ?_|refine A3 ?_ _|refine Below.alloc ?_ ?_ _|refine Below.setCell ?_ ?_ _)|omega|(simp;done)|(simp;omega)))
 have hk2:=(A6.new (w:=w1) (t:=146) (cs:=#[.int .i64 x.flow,.int .i64 x.ver]) rfl)
 have hown2:C7 J6 146 (fun _=>False) base (w1.alloc (.cells #[.int .i64 x.flow,.int .i64 x.ver] 146)) ao xs.length cap xs:=hown.below hb2
 refine (A89 base xs x ao cap w1.heap.size xs.length _ rfl hown2 (by simp;omega) hsm hk2 h1 h2).mono ?_
 rintro e w3 ⟨ao3,cap3,rfl,ho3,hb3⟩
 have hB3:Below base w w3:=(hb2.mono hbase).trans hb3
 go_wp2
 go_ret;exact ⟨ao3,cap3,rfl,ho3,hB3⟩
end Go.Proofs.YtampcbncgofkoaaGreatDoor
namespace Go.St
theorem B01 {ls:List X9} {a b c:Int} {j:Nat} (hj:j<ls.length) (h:c=Q7 a b (ls.drop j)) (hl:A31 a b ls[j]=false):c=Q7 a b (ls.drop (j+1)):=by
 rw [h,List.drop_eq_getElem_cons hj];simp [Q7,hl]
theorem A87 {ls:List X9} {a b c:Int} {j:Nat} (hj:j<ls.length) (h:c=Q7 a b (ls.drop j)) (hl:A31 a b ls[j]=true):c=ls[j].cost:=by
 rw [h,List.drop_eq_getElem_cons hj];simp [Q7,hl]
theorem A7u {ls:List X9} {a b c:Int} {j:Nat} (hj:¬j<ls.length) (h:c=Q7 a b (ls.drop j)):c=0:=by
 rw [h,List.drop_of_length_le (by omega)];rfl
end Go.St
namespace Go.Proofs.YtampcbncgofkoaaGreatDoor
open Go.RowKit Go.St
theorem B3e (t:C5) (cs:List Value) (ok:Nat→Prop) (a b:Int) (w:World) (h:I5.rep ok w cs t):
  Calls Tryz.prog 44 #[.agg cs.toArray,.int .i64 a,.int .i64 b] w fun e w'=>e=.returned (.int .i64 (E9 t a b))∧Below w.heap.size w w':=by
 obtain ⟨la,lc,rfl,hn,hr⟩:=h
 obtain ⟨n,ls⟩:=t
 dsimp only at *
 have hlx:=hr.len_le
 have hst:Hid (E9 ⟨n,ls⟩ a b=Q7 a b (ls.drop 0)):=rfl
 generalize E9 ⟨n,ls⟩ a b=c at *
 go_enter Tryz.func44,Tryz.ntmps44
 go_wp2
 go_loopw [8,12] (fun _ i wr=>∃ j:Nat,j≤ls.length∧i=.int .i64 j∧Hid (c=Q7 a b (ls.drop j))∧Below w.heap.size w wr) (fun _ i _=>ls.length - (intOf i).toNat)
 case atStart=>exact ⟨0,Nat.zero_le _,rfl,hst,by (repeat' (first|with_reducible (first|exact Below.refl _ _|assumption|refine Below.drew ?_|refine A3 ?_ _|refine Below.alloc ?_ ?_ _|refine Below.setCell ?_ ?_ _)|omega|(simp;done)|(simp;omega)))⟩
 case round=>
  obtain ⟨j,hj,rfl,hall,hb⟩:=hrel
  have hsz:=hb.size
  by_cases hlt:j<ls.length
  ·obtain ⟨g,off,rfl,_,hbl,cs,hcs,hce⟩:=hr.get (List.getElem?_eq_getElem hlt)
   obtain ⟨rfl,_⟩:=hcs
   have e0:=B8 hb hbl (hce 0 _ rfl)
   have e1:=B8 hb hbl (hce 1 _ rfl)
   have e2:=B8 hb hbl (hce 2 _ rfl)
   clear hce
   simp only [A0e,Nat.add_zero] at e0 e1 e2
   have b0:(0:Int)≤(j:Int):=by omega
   have b1:(j:Int)<(ls.length:Int):=by omega
   have hgo:=B01 (c:=c) hlt hall.out
   have hhit:=A87 (c:=c) hlt hall.out
   generalize hx:ls[j]=x at *
   obtain ⟨xa,xb,xc⟩:=x
   simp only [A31] at hgo hhit
   dsimp only at *
   clear hx hall
   cases p1:(xa==a)<;>cases p2:(xb==b)<;>cases p3:(xa==b)<;>cases p4:(xb==a)<;>(first|(have HG:=Lib.hid (hgo (by simp only [p1,p2,p3,p4];rfl)))|(have HH:=Lib.hid (hhit (by simp only [p1,p2,p3,p4];rfl))))<;>clear hgo hhit<;>go_wp2
   all_goals first
    |(case roundEnd=>
      go_roundw
      case rel=>exact ⟨j+1,by omega,by go_num,HG,by (repeat' (first|with_reducible (first|exact Below.refl _ _|assumption|refine Below.drew ?_|refine A3 ?_ _|refine Below.alloc ?_ ?_ _|refine Below.setCell ?_ ?_ _)|omega|(simp;done)|(simp;omega)))⟩
      case measure=>simp [intOf];omega)
    |(go_ret;exact ⟨I0 HH.out.symm,by (repeat' (first|with_reducible (first|exact Below.refl _ _|assumption|refine Below.drew ?_|refine A3 ?_ _|refine Below.alloc ?_ ?_ _|refine Below.setCell ?_ ?_ _)|omega|(simp;done)|(simp;omega)))⟩)
  ·have HE:=Lib.hid (A7u hlt hall.out)
   have b1:¬(j:Int)<(ls.length:Int):=by omega
   clear hall
   go_wp2
   go_ret;exact ⟨I0 HE.out.symm,by (repeat' (first|with_reducible (first|exact Below.refl _ _|assumption|refine Below.drew ?_|refine A3 ?_ _|refine Below.alloc ?_ ?_ _|refine Below.setCell ?_ ?_ _)|omega|(simp;done)|(simp;omega)))⟩
end Go.Proofs.YtampcbncgofkoaaGreatDoor
namespace Go.St
open Go.RowKit
theorem B4a {t:C5} {p:List Int} {acc:Int} {c:Int × Bool} {j:Nat} (hj:j<p.length) (h:c=E7 t (p.take j) acc (p.drop j)) (h1:p[j]<0∨t.n≤p[j]∨p[j]∈p.take j):c=(0,false):=by
 rw [h,List.drop_eq_getElem_cons hj,E7,if_pos h1]
theorem A60 {p:List Int} {j:Nat} (h0:0<j) (hj:j<p.length):(p.take j).getLast? =some (p[j - 1]'(by omega)):=by
 rw [List.getLast?_take,if_neg (by omega),List.getElem?_eq_getElem (by omega)];rfl
theorem B1o {t:C5} {p:List Int} {acc:Int} {c:Int × Bool} (hj:0<p.length) (h:c=E7 t (p.take 0) acc (p.drop 0)) (h1:¬(p[0]<0∨t.n≤p[0]∨p[0]∈p.take 0)):c=E7 t (p.take 1) acc (p.drop 1):=by
  rw [h,List.drop_eq_getElem_cons hj,E7,if_neg h1]
  cases p with
  |nil=>simp at hj
  |cons a r=>rfl
theorem A9u {t:C5} {p:List Int} {acc:Int} {c:Int × Bool} {j:Nat} (h0:0<j) (hj:j<p.length) (h:c=E7 t (p.take j) acc (p.drop j)) (h1:¬(p[j]<0∨t.n≤p[j]∨p[j]∈p.take j)) (h2:E9 t (p[j - 1]'(by omega)) p[j]=0):c=(0,false):=by
 rw [h,List.drop_eq_getElem_cons hj,E7,if_neg h1,A60 h0 hj]
 dsimp only
 rw [if_pos h2]
theorem B4u {t:C5} {p:List Int} {acc:Int} {c:Int × Bool} {j:Nat} (h0:0<j) (hj:j<p.length) (h:c=E7 t (p.take j) acc (p.drop j)) (h1:¬(p[j]<0∨t.n≤p[j]∨p[j]∈p.take j)) (h2:¬E9 t (p[j - 1]'(by omega)) p[j]=0):
  c=E7 t (p.take (j+1)) (IntKind.i64.wrap (acc+E9 t (p[j - 1]'(by omega)) p[j])) (p.drop (j+1)):=by
 rw [h,List.drop_eq_getElem_cons hj,E7,if_neg h1,A60 h0 hj]
 dsimp only
 rw [if_neg h2,List.take_succ_eq_append_getElem hj]
theorem B3s {t:C5} {p:List Int} {acc:Int} {c:Int × Bool} {j:Nat} (hj:¬j<p.length) (h:c=E7 t (p.take j) acc (p.drop j)):c=(acc,decide (0<p.length)):=by
 rw [h,List.drop_of_length_le (by omega),List.take_of_length_le (by omega)]
 cases p<;>simp [E7]
def SL (tb pb o:Nat) (n:Int) (la:Option Addr) (ll lc:Nat) (q:Int) (w:World):Prop:=
 w.cell? ⟨tb,0,none⟩=some (.int .i64 n)∧w.cell? ⟨tb,1,none⟩=some (.slice la ll lc)∧w.cell? ⟨pb,o,none⟩=some (.int .i64 q)
theorem SL.keep {B tb pb o:Nat} {n:Int} {la:Option Addr} {ll lc:Nat} {q:Int} {w w':World} (h:SL tb pb o n la ll lc q w) (hb:Below B w w') (h1:tb<B) (h2:pb<B):SL tb pb o n la ll lc q w':=
 ⟨B8 hb h1 h.1,B8 hb h1 h.2.1,B8 hb h2 h.2.2⟩
end Go.St
namespace Go.Proofs.YtampcbncgofkoaaGreatDoor
open Go.RowKit Go.St
theorem B0n (t:C5) (cs:List Value) (ok:Nat→Prop) (a b:Int) (w:World) (h:I5.rep ok w cs t):
  Calls Tryz.prog 39 #[.agg cs.toArray,.int .i64 a,.int .i64 b] w fun e w'=>e=.returned (.int .i64 (E9 t a b))∧Below w.heap.size w w':=by
 obtain ⟨la,lc,rfl,hn,hr⟩:=h
 obtain ⟨n,ls⟩:=t
 dsimp only at *
 have hlx:=hr.len_le
 have hst:Hid (E9 ⟨n,ls⟩ a b=Q7 a b (ls.drop 0)):=rfl
 generalize E9 ⟨n,ls⟩ a b=c at *
 go_enter Tryz.func39,Tryz.ntmps39
 go_wp2
 go_loopw [8,12] (fun _ i wr=>∃ j:Nat,j≤ls.length∧i=.int .i64 j∧Hid (c=Q7 a b (ls.drop j))∧Below w.heap.size w wr) (fun _ i _=>ls.length - (intOf i).toNat)
 case atStart=>exact ⟨0,Nat.zero_le _,rfl,hst,by (repeat' (first|with_reducible (first|exact Below.refl _ _|assumption|refine Below.drew ?_|refine A3 ?_ _|refine Below.alloc ?_ ?_ _|refine Below.setCell ?_ ?_ _)|omega|(simp;done)|(simp;omega)))⟩
 case round=>
  obtain ⟨j,hj,rfl,hall,hb⟩:=hrel
  have hsz:=hb.size
  by_cases hlt:j<ls.length
  ·obtain ⟨g,off,rfl,_,hbl,cs,hcs,hce⟩:=hr.get (List.getElem?_eq_getElem hlt)
   obtain ⟨rfl,_⟩:=hcs
   have e0:=B8 hb hbl (hce 0 _ rfl)
   have e1:=B8 hb hbl (hce 1 _ rfl)
   have e2:=B8 hb hbl (hce 2 _ rfl)
   clear hce
   simp only [A0e,Nat.add_zero] at e0 e1 e2
   have b0:(0:Int)≤(j:Int):=by omega
   have b1:(j:Int)<(ls.length:Int):=by omega
   have hgo:=B01 (c:=c) hlt hall.out
   have hhit:=A87 (c:=c) hlt hall.out
   generalize hx:ls[j]=x at *
   obtain ⟨xa,xb,xc⟩:=x
   simp only [A31] at hgo hhit
   dsimp only at *
   clear hx hall
   have c1:(xa==a)=(a==xa):=BEq.comm
   have c2:(xb==b)=(b==xb):=BEq.comm
   have c3:(xa==b)=(b==xa):=BEq.comm
   have c4:(xb==a)=(a==xb):=BEq.comm
   rw [c1,c2,c3,c4] at hgo hhit
   clear c1 c2 c3 c4
   cases p1:(a==xa)<;>cases p2:(b==xb)<;>cases p3:(a==xb)<;>cases p4:(b==xa)<;>(first|(have HG:=Lib.hid (hgo (by simp only [p1,p2,p3,p4];rfl)))|(have HH:=Lib.hid (hhit (by simp only [p1,p2,p3,p4];rfl))))<;>clear hgo hhit<;>go_wp2
   all_goals first
    |(case roundEnd=>
      go_roundw
      case rel=>exact ⟨j+1,by omega,by go_num,HG,by (repeat' (first|with_reducible (first|exact Below.refl _ _|assumption|refine Below.drew ?_|refine A3 ?_ _|refine Below.alloc ?_ ?_ _|refine Below.setCell ?_ ?_ _)|omega|(simp;done)|(simp;omega)))⟩
      case measure=>simp [intOf];omega)
    |(go_ret;exact ⟨I0 HH.out.symm,by (repeat' (first|with_reducible (first|exact Below.refl _ _|assumption|refine Below.drew ?_|refine A3 ?_ _|refine Below.alloc ?_ ?_ _|refine Below.setCell ?_ ?_ _)|omega|(simp;done)|(simp;omega)))⟩)
  ·have HE:=Lib.hid (A7u hlt hall.out)
   have b1:¬(j:Int)<(ls.length:Int):=by omega
   clear hall
   go_wp2
   go_ret;exact ⟨I0 HE.out.symm,by (repeat' (first|with_reducible (first|exact Below.refl _ _|assumption|refine Below.drew ?_|refine A3 ?_ _|refine Below.alloc ?_ ?_ _|refine Below.setCell ?_ ?_ _)|omega|(simp;done)|(simp;omega)))⟩
theorem B5k (l:List Int) (x:Int) (ok:Nat→Prop) (ax:Option Addr) (cx:Nat) (w:World) (hx:A8 C2 ok w ax cx l):
  Calls Tryz.prog 20 #[.slice ax l.length cx,.int .i64 x] w fun e w'=>e=.returned (.bool (decide (x∈l)))∧w'=w:=by
 have hlx:=hx.len_le
 go_enter Tryz.func20,Tryz.ntmps20
 go_wp2
 go_loop [6,9] (fun _ i=>∃ j:Nat,j≤l.length∧i=.int .i64 j∧Hid (x ∉ l.take j)) (fun _ i=>l.length - (intOf i).toNat)
 case atStart=>exact ⟨0,Nat.zero_le _,rfl,by show x ∉ _;simp⟩
 case round=>
  obtain ⟨j,hj,rfl,hall⟩:=hrel
  by_cases hlt:j<l.length
  ·obtain ⟨b,off,rfl,_,hbl,cs,hcs,hce⟩:=hx.get (List.getElem?_eq_getElem hlt)
   obtain ⟨rfl,_⟩:=hcs
   have e0:=hce 0 _ rfl
   clear hce
   simp only [C2,Nat.add_zero,Nat.mul_one] at e0
   have hgo:=A3u hall.out hlt
   have hmem:(x==l[j])=true→decide (x∈l)=true:=fun h=>by rw [beq_iff_eq] at h;simp [h]
   rw [show (x==l[j])=(l[j]==x) from BEq.comm] at hgo hmem
   generalize l[j]=y at *
   cases p1:(y==x)
   ·have HG:=Lib.hid (hgo p1)
    clear hgo hmem
    go_wp2
    go_round
    case rel=>exact ⟨j+1,by omega,by go_num,HG⟩
    case measure=>simp [intOf];omega
   ·have HH:=Lib.hid (hmem p1)
    clear hgo hmem
    go_wp2
    go_ret;exact ⟨C13 HH.out.symm,rfl⟩
  ·have HE:Hid (decide (x∈l)=false):=by
    have:=hall.out
    rw [List.take_of_length_le (by omega)] at this
    exact decide_eq_false this
   go_wp2
   go_ret;exact ⟨C13 HE.out.symm,rfl⟩
open Go.RowKit Go.St
theorem A3j (t:C5) (p:List Int) (cs:List Value) (ok ok':Nat→Prop) (pa:Option Addr) (pc:Nat) (w:World) (h:I5.rep ok w cs t) (hp:A8 C2 ok' w pa pc p):
  Calls Tryz.prog 19 #[.agg cs.toArray,.slice pa p.length pc] w fun e w'=>e=.returned (.tuple #[.int .i64 (S6 t p).1,.bool (S6 t p).2])∧Below w.heap.size w w':=by
 have hT:=h
 obtain ⟨la,lc,rfl,hn,hr⟩:=h
 have hlx:=hp.len_le
 have hcx:=hp.1
 have hst:Hid (S6 t p=E7 t (p.take 0) 0 (p.drop 0)):=rfl
 generalize S6 t p=c at *
 go_enter Tryz.func19,Tryz.ntmps19
 go_wp2
 go_loopw [6,7,8,9,12] (fun a _ _ _ i wr=>∃ (j:Nat) (acc:Int),j≤p.length∧a=.int .i64 acc∧i=.int .i64 j∧Hid (c=E7 t (p.take j) acc (p.drop j))∧Below w.heap.size w wr∧A6 wr w.heap.size 24 #[.int .i64 t.n,.slice la t.links.length lc]) (fun _ _ _ _ i _=>p.length - (intOf i).toNat)
 case atStart=>exact ⟨0,0,Nat.zero_le _,rfl,rfl,hst,by (repeat' (first|with_reducible (first|exact Below.refl _ _|assumption|refine Below.drew ?_|refine A3 ?_ _|refine Below.alloc ?_ ?_ _|refine Below.setCell ?_ ?_ _)|omega|(simp;done)|(simp;omega))),A6.new rfl⟩
 case round=>
  obtain ⟨j,acc,hj,rfl,rfl,hall,hb,hB⟩:=hrel
  obtain ⟨r1,r2⟩:=hB.cells
  have hz:=hB.lt
  by_cases hlt:j<p.length
  case neg=>
   have HE:=Lib.hid (B3s hlt hall.out)
   have b1:¬(j:Int)<(p.length:Int):=by omega
   clear hall
   go_wp2
   go_ret2
   rw [HE.out]
   exact ⟨by simp,by (repeat' (first|with_reducible (first|exact Below.refl _ _|assumption|refine Below.drew ?_|refine A3 ?_ _|refine Below.alloc ?_ ?_ _|refine Below.setCell ?_ ?_ _)|omega|(simp;done)|(simp;omega)))⟩
  obtain ⟨pb,po,rfl,_,hpb,cs,hcs,hce⟩:=hp.get (List.getElem?_eq_getElem hlt)
  obtain ⟨rfl,_⟩:=hcs
  have e0:=B8 hb hpb (hce 0 _ rfl)
  clear hce
  simp only [C2,Nat.add_zero,Nat.mul_one] at e0
  have b0:(0:Int)≤(j:Int):=by omega
  have b1:(j:Int)<(p.length:Int):=by omega
  have hcell:∀ (m:Nat) (hm:m<p.length),wr.cell? ⟨pb,po+m,none⟩=some (.int .i64 p[m]):=by
   intro m hm
   obtain ⟨pb',po',hbo,_,_,cs',⟨rfl,_⟩,hce⟩:=hp.get (List.getElem?_eq_getElem hm)
   obtain ⟨rfl,rfl⟩:pb=pb'∧po=po':=by simpa using hbo
   have:=B8 hb hpb (hce 0 _ rfl)
   simpa only [C2,Nat.add_zero,Nat.mul_one] using this
  have HCE:=Lib.hid hcell
  clear hcell
  have g1:=B4a (c:=c) hlt hall.out
  by_cases p1:p[j]<0
  ·have HH:=Lib.hid (g1 (.inl p1))
   clear g1 hall
   generalize p[j]=s at *
   go_wp2
   go_ret2
   rw [HH.out]
   exact ⟨rfl,by (repeat' (first|with_reducible (first|exact Below.refl _ _|assumption|refine Below.drew ?_|refine A3 ?_ _|refine Below.alloc ?_ ?_ _|refine Below.setCell ?_ ?_ _)|omega|(simp;done)|(simp;omega)))⟩
  by_cases p2:t.n≤p[j]
  ·have HH:=Lib.hid (g1 (.inr (.inl p2)))
   clear g1 hall
   generalize p[j]=s at *
   go_wp2
   go_ret2
   rw [HH.out]
   exact ⟨rfl,by (repeat' (first|with_reducible (first|exact Below.refl _ _|assumption|refine Below.drew ?_|refine A3 ?_ _|refine Below.alloc ?_ ?_ _|refine Below.setCell ?_ ?_ _)|omega|(simp;done)|(simp;omega)))⟩
  have HB:=Lib.hid (fun h3=>g1 (.inr (.inr h3)))
  have HN:Hid (p[j] ∉ p.take j→¬(p[j]<0∨t.n≤p[j]∨p[j]∈p.take j)):=fun p3=>by simp only [not_or];exact ⟨p1,p2,p3⟩
  have HF:Hid (∀ h0:j=0,p[j] ∉ p.take j→c=E7 t (p.take 1) acc (p.drop 1)):=by
   intro h0 p3
   have hh:=HN.out p3
   subst h0
   exact B1o hlt hall.out hh
  have H2:Hid (∀ hj1:0<j,p[j] ∉ p.take j→E9 t (p[j - 1]'(by omega)) p[j]=0→c=(0,false)):=fun hj1 p3 h=>A9u hj1 hlt hall.out (HN.out p3) h
  have H3:Hid (∀ hj1:0<j,p[j] ∉ p.take j→¬E9 t (p[j - 1]'(by omega)) p[j]=0→c=E7 t (p.take (j+1)) (IntKind.i64.wrap (acc+E9 t (p[j - 1]'(by omega)) p[j])) (p.drop (j+1))):=fun hj1 p3 h=>by
   exact B4u hj1 hlt hall.out (HN.out p3) h
  clear g1 hall HN
  have HS:Hid (∃ s,s=p[j]):=⟨_,rfl⟩
  obtain ⟨s,hs⟩:=HS.out
  rw [←hs] at p1 p2 e0
  have HX:=Lib.hid hs
  clear HS hs
  go_wp2
  go_loop [9] (fun k=>∃ m:Nat,m≤j∧k=.int .i64 m∧Hid (s ∉ p.take m)) (fun k=>j - (intOf k).toNat)
  case atStart=>exact ⟨0,Nat.zero_le _,rfl,by show s ∉ _;simp⟩
  case round=>
   obtain ⟨m,hm,rfl,hnot⟩:=hrel
   by_cases hmj:m<j
   ·have em:=HCE.out m (by omega)
    have hgo:=A3u hnot.out (show m<p.length by omega)
    have hin:(s==p[m])=true→s∈p.take j:=fun h=>by
     rw [beq_iff_eq] at h
     rw [h]
     exact List.mem_take_iff_getElem.2 ⟨m,by omega,rfl⟩
    rw [show (s==p[m])=(p[m]==s) from BEq.comm] at hgo hin
    generalize p[m]=y at *
    have m0:(0:Int)≤(m:Int):=by omega
    have m1:(m:Int)<(p.length:Int):=by omega
    have m2:(m:Int)<(j:Int):=by omega
    cases q1:(y==s)
    ·have HG:=Lib.hid (hgo q1)
     clear hgo hin
     go_wp2
     go_round
     case rel=>exact ⟨m+1,by omega,by go_num,HG⟩
     case measure=>simp [intOf];omega
    ·have HH:=Lib.hid (HB.out (HX.out▸hin q1))
     clear hgo hin
     go_wp2
     go_ret2
     rw [HH.out]
     exact ⟨rfl,by (repeat' (first|with_reducible (first|exact Below.refl _ _|assumption|refine Below.drew ?_|refine A3 ?_ _|refine Below.alloc ?_ ?_ _|refine Below.setCell ?_ ?_ _)|omega|(simp;done)|(simp;omega)))⟩
   have hmj':m=j:=by omega
   have p3:p[j] ∉ p.take j:=by have:=hnot.out;rw [hmj',HX.out] at this;exact this
   have m2:¬(m:Int)<(j:Int):=by omega
   clear hnot HB hmj'
   by_cases hj0:j=0
   ·have HH:=Lib.hid (HF.out hj0 p3)
    have d1:¬(0:Int)<(j:Int):=by omega
    have d1':decide ((0:Int)<(j:Int))=false:=decide_eq_false d1
    clear HF H2 H3 p3 HCE HX
    go_wp2
    go_quiet (fail)
    go_wp2
    case roundEnd=>
     go_roundw
     case rel=>exact ⟨1,acc,by omega,rfl,by go_num,HH,by (repeat' (first|with_reducible (first|exact Below.refl _ _|assumption|refine Below.drew ?_|refine A3 ?_ _|refine Below.alloc ?_ ?_ _|refine Below.setCell ?_ ?_ _)|omega|(simp;done)|(simp;omega))),hB.drewN _⟩
     case measure=>simp [intOf];omega
   have hj1:0<j:=by omega
   have h2:=H2.out hj1 p3
   have h3:=H3.out hj1 p3
   rw [←HX.out] at h2 h3
   have e1:=HCE.out (j - 1) (by omega)
   clear HF H2 H3 p3 HCE HX
   generalize p[j - 1]=q at *
   have d1:(0:Int)<(j:Int):=by omega
   have d2:IntKind.i64.wrap ((j:Int) - 1)=((j - 1:Nat):Int):=by rw [IntWalk.i64_in _ (by omega)];omega
   have d3:(0:Int)≤((j - 1:Nat):Int):=by omega
   have d4:((j - 1:Nat):Int)<(p.length:Int):=by omega
   have d5:(((j - 1:Nat):Int)).toNat=j - 1:=by omega
   have hcost:=fun w' (hw':Below wr.heap.size wr w')=>B0n t [.int .i64 t.n,.slice la t.links.length lc] ok q s w' ⟨la,lc,rfl,hn,(hr.below hb).below hw'⟩
   have hpbz:pb<wr.heap.size:=by have:=hb.size;omega
   have hT0:SL w.heap.size pb (po+(j - 1)) t.n la t.links.length lc q wr.drew:=⟨r1 0,r1 1,e1⟩
   go_wp2
   refine A0v (SL w.heap.size pb (po+(j - 1)) t.n la t.links.length lc q) 99 (by kernel_rfl) ?_
   have hS:=hT0
   refine B0 (i:=0) (.int .i64 j) rfl (by kernel_rfl) (fun _ _ _ h=>h) hS (A0 (by kernel_rfl) (by intro w0 hw0;have hw1:=hw0;simp only [SL] at hw1;go_simp)) ?_;simp only [Act.put,St.tS,St.tC,St.tZ]
   refine B0 (i:=1) (.bool true) rfl (by kernel_rfl) (fun _ _ _ h=>h) hS (A0 (by kernel_rfl) (by intro w0 hw0;have hw1:=hw0;simp only [SL] at hw1;go_simp)) ?_;simp only [Act.put,St.tS,St.tC,St.tZ]
   refine B0 (i:=2) (.bool true) rfl (by kernel_rfl) (fun _ _ _ h=>h) hS (A0 (by kernel_rfl) (by intro w0 hw0;have hw1:=hw0;simp only [SL] at hw1;go_simp)) ?_;simp only [Act.put,St.tS,St.tC,St.tZ]
   refine B0 (i:=3) (.agg #[.int .i64 t.n,.slice la t.links.length lc]) rfl (by kernel_rfl) (fun _ _ _ h=>h) hS (A0 (by kernel_rfl) (by intro w0 hw0;have hw1:=hw0;simp only [SL] at hw1;go_simp)) ?_;simp only [Act.put,St.tS,St.tC,St.tZ]
   refine B0 (i:=4) (.slice (some ⟨pb,po,none⟩) p.length pc) rfl (by kernel_rfl) (fun _ _ _ h=>h) hS (A0 (by kernel_rfl) (by intro w0 hw0;have hw1:=hw0;simp only [SL] at hw1;go_simp)) ?_;simp only [Act.put,St.tS,St.tC,St.tZ]
   refine B0 (i:=5) (.int .i64 j) rfl (by kernel_rfl) (fun _ _ _ h=>h) hS (A0 (by kernel_rfl) (by intro w0 hw0;have hw1:=hw0;simp only [SL] at hw1;go_simp)) ?_;simp only [Act.put,St.tS,St.tC,St.tZ]
   refine B0 (i:=6) (.int .i64 ((j - 1:Nat):Int)) rfl (by kernel_rfl) (fun _ _ _ h=>h) hS (A0 (by kernel_rfl) (by intro w0 hw0;have hw1:=hw0;simp only [SL] at hw1;go_simp)) ?_;simp only [Act.put,St.tS,St.tC,St.tZ]
   refine B0 (i:=7) (.pointer (some ⟨pb,po+(j - 1),none⟩)) rfl (by kernel_rfl) (fun _ _ _ h=>h) hS (A0 (by kernel_rfl) (by intro w0 hw0;have hw1:=hw0;simp only [SL] at hw1;go_simp)) ?_;simp only [Act.put,St.tS,St.tC,St.tZ]
   refine B0 (i:=8) (.int .i64 q) rfl (by kernel_rfl) (fun _ _ _ h=>h) hS (A0 (by kernel_rfl) (by intro w0 hw0;have hw1:=hw0;simp only [SL] at hw1;go_simp)) ?_;simp only [Act.put,St.tS,St.tC,St.tZ]
   refine B0 (i:=9) (.int .i64 s) rfl (by kernel_rfl) (fun _ _ _ h=>h) hS (A0 (by kernel_rfl) (by intro w0 hw0;have hw1:=hw0;simp only [SL] at hw1;go_simp)) ?_;simp only [Act.put,St.tS,St.tC,St.tZ]
   refine A7 (i:=10) rfl (by kernel_rfl) (by kernel_rfl) fun K7 hK7=>?_
   go_simp
   go_wp2_with fail
   refine (hcost _ (by (repeat' (first|with_reducible (first|exact Below.refl _ _|assumption|refine Below.drew ?_|refine A3 ?_ _|refine Below.alloc ?_ ?_ _|refine Below.setCell ?_ ?_ _)|omega|(simp;done)|(simp;omega))))).mono ?_
   rintro e w2 ⟨rfl,hb2⟩
   have hb12:Below wr.heap.size wr w2:=Below.trans (by (repeat' (first|with_reducible (first|exact Below.refl _ _|assumption|refine Below.drew ?_|refine A3 ?_ _|refine Below.alloc ?_ ?_ _|refine Below.setCell ?_ ?_ _)|omega|(simp;done)|(simp;omega)))) (hb2.mono (by simp))
   have hS2:SL w.heap.size pb (po+(j - 1)) t.n la t.links.length lc q w2:=hT0.keep hb2 (by simpa using hz) (by simpa using hpbz)
   have hB2:=hB.under hb12
   have hbb:=hb.trans (hb12.mono (by have:=hb.size;omega))
   have hz2:=hb12.size
   clear hb2 r1 r2 e0 e1 hS hT0
   have hS:=hS2
   go_wp2_with fail
   refine hK7 _ _ (fun _=>hS) ?_
   clear hK7
   by_cases hk:E9 t q s=0
   ·have HH:=Lib.hid (h2 hk)
    have hk':(E9 t q s==0)=true:=by rw [beq_iff_eq];exact hk
    clear h2 h3 hk hcost
    generalize E9 t q s=k at *
    refine B0 (i:=11) (.bool true) rfl (by kernel_rfl) (fun _ _ _ h=>h) hS (A0 (by kernel_rfl) (by intro w0 hw0;have hw1:=hw0;simp only [SL] at hw1;go_simp)) ?_;simp only [Act.put,St.tS,St.tC,St.tZ]
    refine B0 (i:=12) (.bool true) rfl (by kernel_rfl) (fun _ _ _ h=>h) hS (A0 (by kernel_rfl) (by intro w0 hw0;have hw1:=hw0;simp only [SL] at hw1;go_simp)) ?_;simp only [Act.put,St.tS,St.tC,St.tZ]
    refine B5 (by kernel_rfl) ?_ _
    go_wp2
    go_ret2
    rw [HH.out]
    exact ⟨rfl,by (repeat' (first|with_reducible (first|exact Below.refl _ _|assumption|refine Below.drew ?_|refine A3 ?_ _|refine Below.alloc ?_ ?_ _|refine Below.setCell ?_ ?_ _)|omega|(simp;done)|(simp;omega)))⟩
   have HH:=Lib.hid (h3 hk)
   have hk':(E9 t q s==0)=false:=by rw [beq_eq_false_iff_ne];exact hk
   have HCC:=Lib.hid hcost
   clear h2 h3 hk hcost
   have hkk:Hid (∃ k,k=E9 t q s):=⟨_,rfl⟩
   refine B0 (i:=11) (.bool false) rfl (by kernel_rfl) (fun _ _ _ h=>h) hS (A0 (by kernel_rfl) (by intro w0 hw0;have hw1:=hw0;simp only [SL] at hw1;go_simp)) ?_;simp only [Act.put,St.tS,St.tC,St.tZ]
   refine B0 (i:=12) (.bool false) rfl (by kernel_rfl) (fun _ _ _ h=>h) hS (A0 (by kernel_rfl) (by intro w0 hw0;have hw1:=hw0;simp only [SL] at hw1;go_simp)) ?_;simp only [Act.put,St.tS,St.tC,St.tZ]
   refine B5 (by kernel_rfl) ?_ _
   go_wp2
   have hT3:SL w.heap.size pb (po+(j - 1)) t.n la t.links.length lc q w2.drew:=hS2
   refine A0v (SL w.heap.size pb (po+(j - 1)) t.n la t.links.length lc q) 99 (by kernel_rfl) ?_
   clear hS hS2
   have hS:=hT3
   refine B0 (i:=0) (.int .i64 acc) rfl (by kernel_rfl) (fun _ _ _ h=>h) hS (A0 (by kernel_rfl) (by intro w0 hw0;have hw1:=hw0;simp only [SL] at hw1;go_simp)) ?_;simp only [Act.put,St.tS,St.tC,St.tZ]
   refine B0 (i:=1) (.agg #[.int .i64 t.n,.slice la t.links.length lc]) rfl (by kernel_rfl) (fun _ _ _ h=>h) hS (A0 (by kernel_rfl) (by intro w0 hw0;have hw1:=hw0;simp only [SL] at hw1;go_simp)) ?_;simp only [Act.put,St.tS,St.tC,St.tZ]
   refine B0 (i:=2) (.slice (some ⟨pb,po,none⟩) p.length pc) rfl (by kernel_rfl) (fun _ _ _ h=>h) hS (A0 (by kernel_rfl) (by intro w0 hw0;have hw1:=hw0;simp only [SL] at hw1;go_simp)) ?_;simp only [Act.put,St.tS,St.tC,St.tZ]
   refine B0 (i:=3) (.int .i64 j) rfl (by kernel_rfl) (fun _ _ _ h=>h) hS (A0 (by kernel_rfl) (by intro w0 hw0;have hw1:=hw0;simp only [SL] at hw1;go_simp)) ?_;simp only [Act.put,St.tS,St.tC,St.tZ]
   refine B0 (i:=4) (.int .i64 ((j - 1:Nat):Int)) rfl (by kernel_rfl) (fun _ _ _ h=>h) hS (A0 (by kernel_rfl) (by intro w0 hw0;have hw1:=hw0;simp only [SL] at hw1;go_simp)) ?_;simp only [Act.put,St.tS,St.tC,St.tZ]
   refine B0 (i:=5) (.pointer (some ⟨pb,po+(j - 1),none⟩)) rfl (by kernel_rfl) (fun _ _ _ h=>h) hS (A0 (by kernel_rfl) (by intro w0 hw0;have hw1:=hw0;simp only [SL] at hw1;go_simp)) ?_;simp only [Act.put,St.tS,St.tC,St.tZ]
   refine B0 (i:=6) (.int .i64 q) rfl (by kernel_rfl) (fun _ _ _ h=>h) hS (A0 (by kernel_rfl) (by intro w0 hw0;have hw1:=hw0;simp only [SL] at hw1;go_simp)) ?_;simp only [Act.put,St.tS,St.tC,St.tZ]
   refine B0 (i:=7) (.int .i64 s) rfl (by kernel_rfl) (fun _ _ _ h=>h) hS (A0 (by kernel_rfl) (by intro w0 hw0;have hw1:=hw0;simp only [SL] at hw1;go_simp)) ?_;simp only [Act.put,St.tS,St.tC,St.tZ]
   refine A7 (i:=8) rfl (by kernel_rfl) (by kernel_rfl) fun K8 hK8=>?_
   go_simp
   go_wp2_with fail
   refine (HCC.out _ (by (repeat' (first|with_reducible (first|exact Below.refl _ _|assumption|refine Below.drew ?_|refine A3 ?_ _|refine Below.alloc ?_ ?_ _|refine Below.setCell ?_ ?_ _)|omega|(simp;done)|(simp;omega))))).mono ?_
   rintro e w3 ⟨rfl,hb3⟩
   have hb23:Below w2.heap.size w2 w3:=Below.trans (by (repeat' (first|with_reducible (first|exact Below.refl _ _|assumption|refine Below.drew ?_|refine A3 ?_ _|refine Below.alloc ?_ ?_ _|refine Below.setCell ?_ ?_ _)|omega|(simp;done)|(simp;omega)))) (hb3.mono (by simp))
   have hS3:SL w.heap.size pb (po+(j - 1)) t.n la t.links.length lc q w3:=hT3.keep hb3 (by simp;omega) (by simp;omega)
   have hB3:=hB2.under hb23
   have hbb3:=hbb.trans (hb23.mono (by have:=hbb.size;omega))
   clear hb3 hS hT3 HCC hkk
   have hS:=hS3
   generalize E9 t q s=k at *
   go_wp2_with fail
   refine hK8 _ _ (fun _=>hS) ?_
   clear hK8
   refine B0 (i:=9) (.int .i64 (IntKind.i64.wrap (acc+k))) rfl (by kernel_rfl) (fun _ _ _ h=>h) hS (A0 (by kernel_rfl) (by intro w0 hw0;have hw1:=hw0;simp only [SL] at hw1;go_simp)) ?_;simp only [Act.put,St.tS,St.tC,St.tZ]
   refine B0 (i:=10) (.int .i64 (IntKind.i64.wrap (acc+k))) rfl (by kernel_rfl) (fun _ _ _ h=>h) hS (A0 (by kernel_rfl) (by intro w0 hw0;have hw1:=hw0;simp only [SL] at hw1;go_simp)) ?_;simp only [Act.put,St.tS,St.tC,St.tZ]
   refine B5 (by kernel_rfl) ?_ _
   clear hS hS3
   go_wp2
   case roundEnd=>
    go_roundw
    case rel=>exact ⟨j+1,_,by omega,rfl,by go_num,(by have h9:=HH.out;rw [IntWalk.i64_left] at h9;exact Lib.hid h9),hbb3,hB3⟩
    case measure=>simp [intOf];omega
end Go.Proofs.YtampcbncgofkoaaGreatDoor
namespace Go.St
open Go.RowKit
theorem A0j.ne {t:C5} {f:E0} {p:List Int} (h:A0j t f p):p≠[]:=by rintro rfl;have:=h.src;cases this
open Go.RowKit
def G4 (f:E0):Nat→List Int→Bool
 |met,[]=>decide (met=f.via.length)
 |met,s::r=>if s∈f.no then false else if s∈f.via then (if f.via[met]? =some s then G4 f (met+1) r else false) else G4 f met r
def C2f (t:C5) (f:E0) (p:List Int):Bool:=(S6 t p).2 && (decide (p.head? =some f.src) && (decide (p.getLast? =some f.dst) && G4 f 0 p))
theorem A23 {t:C5}:∀ (r had:List Int) (n:Int),had.Nodup→(∀ s∈had,0≤s∧s<t.n)→S1 t had=true→(E7 t had n r).2=true→(had++r).Nodup∧(∀ s∈had++r,0≤s∧s<t.n)∧S1 t (had++r)=true
 |[],had,n,h1,h2,h3,_=>by rw [List.append_nil];exact ⟨h1,h2,h3⟩
 |s::r,had,n,h1,h2,h3,h=>by
  unfold E7 at h
  by_cases h0:s<0∨t.n≤s∨s∈had
  ·rw [if_pos h0] at h;cases h
  rw [if_neg h0] at h
  have e1:had++s::r=(had++[s])++r:=by simp
  have hnd:(had++[s]).Nodup:=by
   rw [List.nodup_append]
   exact ⟨h1,List.nodup_cons.2 ⟨by simp,List.nodup_nil⟩,fun a ha b hb e=>by
    have hb':b=s:=by simpa using hb
    exact h0 (.inr (.inr (hb'▸e▸ha)))⟩
  have hrg:∀ x∈had++[s],0≤x∧x<t.n:=by
   intro x hx
   rcases List.mem_append.1 hx with hx|hx
   ·exact h2 x hx
   ·have:x=s:=by simpa using hx
    subst this
    exact ⟨Int.not_lt.1 fun h=>h0 (.inl h),Int.not_le.1 fun h=>h0 (.inr (.inl h))⟩
  rw [e1]
  cases hh:had.getLast? with
  |none=>
   have:had=[]:=List.getLast?_eq_none_iff.1 hh
   subst this
   rw [hh] at h
   exact A23 r [s] n hnd hrg rfl h
  |some q=>
   have hne:had≠[]:=by rintro rfl;cases hh
   have hq:had.getLastD 0=q:=by rw [List.getLastD_eq_getLast?,hh];rfl
   rw [hh] at h
   dsimp only at h
   by_cases hc:E9 t q s=0
   ·rw [if_pos hc] at h;cases h
   rw [if_neg hc] at h
   exact A23 r (had++[s]) _ hnd hrg (by rw [U4 t had s hne,h3,Bool.true_and,decide_eq_true_eq,hq];exact hc) h
theorem B1d {t:C5} {p:List Int} (h:(S6 t p).2=true):p.Nodup∧(∀ s∈p,0≤s∧s<t.n)∧S1 t p=true:=A23 p [] 0 List.nodup_nil (by simp) rfl h
theorem A10 {t:C5} (hc:∀ a b,0≤E9 t a b∧E9 t a b≤1000):∀ (r had:List Int) (n:Int),(had++r).Nodup→(∀ s∈had++r,0≤s∧s<t.n)→S1 t (had++r)=true→had++r≠[]→n=H0 t had→0≤n→n≤1000 * had.length→(had++r).length≤1000000→
    E7 t had n r=(H0 t (had++r),true)
  |[],had,n,_,_,_,h,hn,_,_,_=>by
    cases had with
    |nil=>simp at h
    |cons a q=>simp [E7,hn]
  |s::r,had,n,hn,hr,hl,h,hp,h0,h1,hlen=>by
    have hs:=hr s (by simp)
    have hnm:s ∉ had:=fun hm=>(List.nodup_append.1 hn).2.2 _ hm _ (by simp) rfl
    have e1:had++s::r=(had++[s])++r:=by simp
    unfold E7
    rw [if_neg (by simp only [not_or];exact ⟨by omega,by omega,hnm⟩)]
    cases hh:had.getLast? with
    |none=>
      have:had=[]:=List.getLast?_eq_none_iff.1 hh
      subst this
      exact A10 hc r [s] n (by simpa using hn) (by simpa using hr) (by simpa using hl) (by simp) (by simpa [H0] using hp) h0 (by simp at h1;simp;omega) (by simpa using hlen)
    |some q=>
      have hne:had≠[]:=by rintro rfl;cases hh
      have h6:=A0u t _ _ (e1▸hl)
      rw [U4 t had s hne,Bool.and_eq_true,decide_eq_true_eq] at h6
      have hq:had.getLastD 0=q:=by rw [List.getLastD_eq_getLast?,hh];rfl
      rw [hq] at h6
      obtain ⟨c0,c1⟩:=hc q s
      have hll:had.length≤1000000:=by simp at hlen;omega
      have hw:IntKind.i64.wrap (n+E9 t q s)=n+E9 t q s:=IntWalk.i64_in _ (by omega)
      dsimp only
      rw [if_neg h6.2,hw,e1]
      exact A10 hc r (had++[s]) _ (e1▸hn) (by rw [←e1];exact hr) (e1▸hl) (by simp) (by rw [Y0 t had s hne,hq,hp]) (by omega) (by simp;omega) (by rw [←e1];exact hlen)
theorem A8l {t:C5} {f:E0} {p:List Int} (ht:(B6 t).1=0) (h:A0j t f p):S6 t p=(H0 t p,true):=by
 have hl:=T1 h.nodup h.rng
 have:=(J8 ht).1
 exact A10 (A1q ht) p [] 0 h.nodup h.rng h.link h.ne rfl (Int.le_refl 0) (by simp) (by simp;omega)
open Go.RowKit
def A1h (f:E0) (p:List Int) (j met:Nat):Prop:=∀ i,i<met→∃ x,f.via[i]? =some x∧x∈p.take j
theorem A1h.step {f:E0} {p:List Int} {j met:Nat} (hj:j<p.length) (h:A1h f p j met):A1h f p (j+1) met:=fun i hi=>by
 obtain ⟨x,h1,h2⟩:=h i hi
 exact ⟨x,h1,by rw [List.take_succ_eq_append_getElem hj];exact List.mem_append_left _ h2⟩
theorem A1h.more {f:E0} {p:List Int} {j met:Nat} (hj:j<p.length) (h:A1h f p j met) (hv:f.via[met]? =some p[j]):A1h f p (j+1) (met+1):=fun i hi=>by
 by_cases e:i=met
 ·subst e
  exact ⟨_,hv,by rw [List.take_succ_eq_append_getElem hj];exact List.mem_append_right _ (List.mem_singleton.2 rfl)⟩
 ·exact h.step hj i (by omega)
theorem A1h.lt {f:E0} {p:List Int} {j met:Nat} (hn:p.Nodup) (hj:j<p.length) (h:A1h f p j met) (hv:p[j]∈f.via):met<f.via.length:=by
 obtain ⟨i,hi,he⟩:=List.getElem_of_mem hv
 by_cases hlt:i<met
 ·exfalso
  obtain ⟨x,h1,h2⟩:=h i hlt
  rw [List.getElem?_eq_getElem hi,he] at h1
  have hx:=Option.some.inj h1
  rw [←hx] at h2
  obtain ⟨k,hk,hke⟩:=List.mem_take_iff_getElem.1 h2
  have:=A5t hn (by omega) hj hke
  omega
 ·omega
theorem B5o {f:E0} {p:List Int} {j met:Nat} {b:Bool} (hj:j<p.length) (h:b=G4 f met (p.drop j)) (h1:p[j]∈f.no):b=false:=by
 rw [h,List.drop_eq_getElem_cons hj,G4,if_pos h1]
theorem B55 {f:E0} {p:List Int} {j met:Nat} {b:Bool} (hj:j<p.length) (h:b=G4 f met (p.drop j)) (h1:p[j] ∉ f.no) (h2:p[j]∈f.via) (h3:f.via[met]? ≠some p[j]):b=false:=by
 rw [h,List.drop_eq_getElem_cons hj,G4,if_neg h1,if_pos h2,if_neg h3]
theorem B5j {f:E0} {p:List Int} {j met:Nat} {b:Bool} (hj:j<p.length) (h:b=G4 f met (p.drop j)) (h1:p[j] ∉ f.no) (h2:p[j]∈f.via) (h3:f.via[met]? =some p[j]):b=G4 f (met+1) (p.drop (j+1)):=by
 rw [h,List.drop_eq_getElem_cons hj,G4,if_neg h1,if_pos h2,if_pos h3]
theorem B4q {f:E0} {p:List Int} {j met:Nat} {b:Bool} (hj:j<p.length) (h:b=G4 f met (p.drop j)) (h1:p[j] ∉ f.no) (h2:p[j] ∉ f.via):b=G4 f met (p.drop (j+1)):=by
 rw [h,List.drop_eq_getElem_cons hj,G4,if_neg h1,if_neg h2]
theorem B5f {f:E0} {p:List Int} {j met:Nat} {b:Bool} (hj:¬j<p.length) (h:b=G4 f met (p.drop j)):b=decide (met=f.via.length):=by
 rw [h,List.drop_of_length_le (by omega)];rfl
theorem length_nil (t:C5):(S6 t []).2=false:=rfl
end Go.St
namespace Go.Proofs.YtampcbncgofkoaaGreatDoor
open Go.RowKit Go.St
theorem B2n (t:C5) (f:E0) (p:List Int) (cs ds:List Value) (ok ok' ok'':Nat→Prop) (pa:Option Addr) (pc:Nat) (w:World) (h:I5.rep ok w cs t) (hf:H6.rep ok' w ds f) (hp:A8 C2 ok'' w pa pc p):
  Calls Tryz.prog 10 #[.agg cs.toArray,.agg ds.toArray,.slice pa p.length pc] w fun e w'=>e=.returned (.bool (C2f t f p))∧Below w.heap.size w w':=by
 have hT:=h
 obtain ⟨la,lc,rfl,hn,hr⟩:=h
 obtain ⟨va,vc,na,nc,rfl,hs,hd,hv,hno⟩:=id hf
 have hlx:=hp.len_le
 cases hlen:(S6 t p).2
 case false=>
  have hS:Hid (C2f t f p=false):=by show _=_;unfold C2f;rw [hlen];rfl
  go_enter Tryz.func10,Tryz.ntmps10
  go_wp2_with fail
  refine (A3j t p _ ok ok'' _ pc _ (I5.below hT (by (repeat' (first|with_reducible (first|exact Below.refl _ _|assumption|refine Below.drew ?_|refine A3 ?_ _|refine Below.alloc ?_ ?_ _|refine Below.setCell ?_ ?_ _)|omega|(simp;done)|(simp;omega))))) (hp.below (by (repeat' (first|with_reducible (first|exact Below.refl _ _|assumption|refine Below.drew ?_|refine A3 ?_ _|refine Below.alloc ?_ ?_ _|refine Below.setCell ?_ ?_ _)|omega|(simp;done)|(simp;omega)))))).mono ?_
  rintro e w1 ⟨rfl,hb1⟩
  have hB1:Below w.heap.size w w1:=Below.trans (by (repeat' (first|with_reducible (first|exact Below.refl _ _|assumption|refine Below.drew ?_|refine A3 ?_ _|refine Below.alloc ?_ ?_ _|refine Below.setCell ?_ ?_ _)|omega|(simp;done)|(simp;omega)))) (hb1.mono (by simp;omega))
  have hF1:A6 w1 (w.heap.size+1) 56 #[.int .i64 f.src,.int .i64 f.dst,.slice va f.via.length vc,.slice na f.no.length nc]:=(A6.new (by simp)).under hb1
  obtain ⟨f1,f2⟩:=hF1.cells
  have hz1:=hF1.lt
  rw [hlen]
  clear hb1
  go_wp2
  go_quiet (fail)
  go_wp2
  go_ret;exact ⟨C13 hS.out.symm,by (repeat' (first|with_reducible (first|exact Below.refl _ _|assumption|refine Below.drew ?_|refine A3 ?_ _|refine Below.alloc ?_ ?_ _|refine Below.setCell ?_ ?_ _)|omega|(simp;done)|(simp;omega)))⟩
 have hpne:p≠[]:=by rintro rfl;rw [length_nil] at hlen;cases hlen
 have hp0:0<p.length:=List.length_pos_iff.2 hpne
 obtain ⟨hnd,_,_⟩:=B1d hlen
 obtain ⟨pb,po,rfl,_,hpb,_⟩:=hp.get (List.getElem?_eq_getElem hp0)
 have hcell:∀ (w':World) (hw:Below w.heap.size w w') (m:Nat) (hm:m<p.length),w'.cell? ⟨pb,po+m,none⟩=some (.int .i64 p[m]):=by
  intro w' hw m hm
  obtain ⟨pb',po',hbo,_,_,cs',⟨rfl,_⟩,hce⟩:=hp.get (List.getElem?_eq_getElem hm)
  obtain ⟨rfl,rfl⟩:pb=pb'∧po=po':=by simpa using hbo
  have:=B8 hw hpb (hce 0 _ rfl)
  simpa only [C2,Nat.add_zero,Nat.mul_one] using this
 have HCE:=Lib.hid hcell
 clear hcell
 have hS:Hid (C2f t f p=(decide (p.head? =some f.src) && (decide (p.getLast? =some f.dst) && G4 f 0 p))):=by show _=_;unfold C2f;rw [hlen];rfl
 have q0:p.head? =some p[0]:=by rw [List.head?_eq_getElem?,List.getElem?_eq_getElem hp0]
 have q1:p.getLast? =some (p[p.length - 1]'(by omega)):=by rw [List.getLast?_eq_getElem?,List.getElem?_eq_getElem (by omega)]
 have hS1:Hid (p[0]≠f.src→C2f t f p=false):=fun h=>by rw [hS.out,q0];simp [h]
 have hS2:Hid (p[0]=f.src→p[p.length - 1]'(by omega)≠f.dst→C2f t f p=false):=fun h1 h2=>by rw [hS.out,q1];simp [h2]
 have hS3:Hid (p[0]=f.src→p[p.length - 1]'(by omega)=f.dst→C2f t f p=G4 f 0 (p.drop 0)):=fun h1 h2=>by rw [hS.out,q0,q1,h1,h2];simp
 clear hS q0 q1
 generalize C2f t f p=bb at *
 go_enter Tryz.func10,Tryz.ntmps10
 go_wp2_with fail
 refine (A3j t p _ ok ok'' _ pc _ (I5.below hT (by (repeat' (first|with_reducible (first|exact Below.refl _ _|assumption|refine Below.drew ?_|refine A3 ?_ _|refine Below.alloc ?_ ?_ _|refine Below.setCell ?_ ?_ _)|omega|(simp;done)|(simp;omega))))) (hp.below (by (repeat' (first|with_reducible (first|exact Below.refl _ _|assumption|refine Below.drew ?_|refine A3 ?_ _|refine Below.alloc ?_ ?_ _|refine Below.setCell ?_ ?_ _)|omega|(simp;done)|(simp;omega)))))).mono ?_
 rintro e w1 ⟨rfl,hb1⟩
 have hB1:Below w.heap.size w w1:=Below.trans (by (repeat' (first|with_reducible (first|exact Below.refl _ _|assumption|refine Below.drew ?_|refine A3 ?_ _|refine Below.alloc ?_ ?_ _|refine Below.setCell ?_ ?_ _)|omega|(simp;done)|(simp;omega)))) (hb1.mono (by simp;omega))
 have hF1:A6 w1 (w.heap.size+1) 56 #[.int .i64 f.src,.int .i64 f.dst,.slice va f.via.length vc,.slice na f.no.length nc]:=(A6.new (by simp)).under hb1
 obtain ⟨f1,f2⟩:=hF1.cells
 have hz1:=hF1.lt
 rw [hlen]
 clear hb1 hlen
 have e0:=HCE.out w1 hB1 0 hp0
 have e1:=HCE.out w1 hB1 (p.length - 1) (by omega)
 rw [Nat.add_zero] at e0
 have k1:IntKind.i64.wrap ((p.length:Int) - 1)=((p.length - 1:Nat):Int):=by rw [IntWalk.i64_in _ (by omega)];omega
 have k2:(0:Int)≤((p.length - 1:Nat):Int):=by omega
 have k3:((p.length - 1:Nat):Int)<(p.length:Int):=by omega
 have k4:(((p.length - 1:Nat):Int)).toNat=p.length - 1:=by omega
 have k5:(0:Int)<(p.length:Int):=by omega
 by_cases c0:p[0]=f.src
 case neg=>
  have HH:=Lib.hid (hS1.out c0)
  have c0':(p[0] !=f.src)=true:=by rw [bne_iff_ne];exact c0
  clear hS1 hS2 hS3 c0 HCE
  generalize p[0]=x0 at *
  go_wp2
  go_quiet (fail)
  go_wp2
  go_ret;exact ⟨C13 HH.out.symm,by (repeat' (first|with_reducible (first|exact Below.refl _ _|assumption|refine Below.drew ?_|refine A3 ?_ _|refine Below.alloc ?_ ?_ _|refine Below.setCell ?_ ?_ _)|omega|(simp;done)|(simp;omega)))⟩
 by_cases c1:p[p.length - 1]'(by omega)=f.dst
 case neg=>
  have HH:=Lib.hid (hS2.out c0 c1)
  have c1':(p[p.length - 1]'(by omega) !=f.dst)=true:=by rw [bne_iff_ne];exact c1
  rw [c0] at e0
  clear hS1 hS2 hS3 c1 HCE c0
  generalize p[p.length - 1]'(by omega)=x1 at *
  go_wp2
  go_quiet (fail)
  go_wp2
  go_ret;exact ⟨C13 HH.out.symm,by (repeat' (first|with_reducible (first|exact Below.refl _ _|assumption|refine Below.drew ?_|refine A3 ?_ _|refine Below.alloc ?_ ?_ _|refine Below.setCell ?_ ?_ _)|omega|(simp;done)|(simp;omega)))⟩
 have hst:=Lib.hid (hS3.out c0 c1)
 rw [c0] at e0
 rw [c1] at e1
 clear hS1 hS2 hS3 c0 c1
 go_wp2
 go_quiet (fail)
 go_wp2
 go_loop [9,11,41] (fun m _ i=>∃ j met:Nat,j≤p.length∧met≤j∧m=.int .i64 met∧i=.int .i64 j∧Hid (bb=G4 f met (p.drop j))∧Hid (A1h f p j met)) (fun _ _ i=>p.length - (intOf i).toNat)
 case atStart=>exact ⟨0,0,Nat.zero_le _,Nat.le_refl _,rfl,rfl,hst,by show A1h _ _ _ _;intro i hi;omega⟩
 case round=>
  obtain ⟨j,met,hj,hmj,rfl,rfl,hall,hmet⟩:=hrel
  by_cases hlt:j<p.length
  case neg=>
   have HE:=Lib.hid (B5f hlt hall.out)
   have b1:¬(j:Int)<(p.length:Int):=by omega
   clear hmet hall
   by_cases hm:met=f.via.length
   ·have hm':((met:Int)==(f.via.length:Int))=true:=by rw [beq_iff_eq];omega
    have HM:Hid (bb=true):=by show _=_;rw [HE.out];exact decide_eq_true hm
    clear hm HE
    go_wp2
    go_ret;exact ⟨C13 HM.out.symm,by (repeat' (first|with_reducible (first|exact Below.refl _ _|assumption|refine Below.drew ?_|refine A3 ?_ _|refine Below.alloc ?_ ?_ _|refine Below.setCell ?_ ?_ _)|omega|(simp;done)|(simp;omega)))⟩
   ·have hm':((met:Int)==(f.via.length:Int))=false:=by rw [beq_eq_false_iff_ne];omega
    have HM:Hid (bb=false):=by show _=_;rw [HE.out];exact decide_eq_false hm
    clear hm HE
    go_wp2
    go_ret;exact ⟨C13 HM.out.symm,by (repeat' (first|with_reducible (first|exact Below.refl _ _|assumption|refine Below.drew ?_|refine A3 ?_ _|refine Below.alloc ?_ ?_ _|refine Below.setCell ?_ ?_ _)|omega|(simp;done)|(simp;omega)))⟩
  have e2:=HCE.out w1 hB1 j hlt
  have hcn:=fun w' (hw:Below w.heap.size w w')=>B5k f.no p[j] ok' na nc w' (hno.below hw)
  have hcv:=fun w' (hw:Below w.heap.size w w')=>B5k f.via p[j] ok' va vc w' (hv.below hw)
  have b0:(0:Int)≤(j:Int):=by omega
  have b1:(j:Int)<(p.length:Int):=by omega
  by_cases hno':p[j]∈f.no
  ·have HH:=Lib.hid (B5o hlt hall.out hno')
   rw [decide_eq_true hno'] at hcn
   have HCN:=Lib.hid hcn
   clear hall hmet hno' hcn hcv
   generalize p[j]=s at *
   go_wp2_with fail
   refine (HCN.out _ (by (repeat' (first|with_reducible (first|exact Below.refl _ _|assumption|refine Below.drew ?_|refine A3 ?_ _|refine Below.alloc ?_ ?_ _|refine Below.setCell ?_ ?_ _)|omega|(simp;done)|(simp;omega))))).mono ?_
   rintro e w2 ⟨rfl,rfl⟩
   go_wp2
   go_ret;exact ⟨C13 HH.out.symm,by (repeat' (first|with_reducible (first|exact Below.refl _ _|assumption|refine Below.drew ?_|refine A3 ?_ _|refine Below.alloc ?_ ?_ _|refine Below.setCell ?_ ?_ _)|omega|(simp;done)|(simp;omega)))⟩
  rw [decide_eq_false hno'] at hcn
  have HCN:=Lib.hid hcn
  clear hcn
  by_cases hvia:p[j]∈f.via
  ·have hml:=hmet.out.lt hnd hlt hvia
   obtain ⟨vb,vo,rfl,_,hvb,cs',⟨rfl,_⟩,hce⟩:=hv.get (List.getElem?_eq_getElem hml)
   have e3:=B8 hB1 hvb (hce 0 _ rfl)
   simp only [C2,Nat.add_zero,Nat.mul_one] at e3
   have d0:(0:Int)≤(met:Int):=by omega
   have d1:(met:Int)<(f.via.length:Int):=by omega
   have d2:IntKind.i64.wrap ((met:Int)+1)=(met:Int)+1:=IntWalk.i64_in _ (by omega)
   rw [decide_eq_true hvia] at hcv
   have HCV:=Lib.hid hcv
   clear hce hcv
   by_cases hvs:f.via[met]=p[j]
   ·have hsome:f.via[met]? =some p[j]:=by rw [List.getElem?_eq_getElem hml,hvs]
    have HM:=Lib.hid (hmet.out.more hlt hsome)
    have HA:=Lib.hid (B5j hlt hall.out hno' hvia hsome)
    rw [hvs] at e3
    clear hvs hsome hmet hall hno' hvia
    generalize p[j]=s at *
    go_wp2_with fail
    refine (HCN.out _ (by (repeat' (first|with_reducible (first|exact Below.refl _ _|assumption|refine Below.drew ?_|refine A3 ?_ _|refine Below.alloc ?_ ?_ _|refine Below.setCell ?_ ?_ _)|omega|(simp;done)|(simp;omega))))).mono ?_
    rintro e w2 ⟨rfl,rfl⟩
    go_wp2_with fail
    refine (HCV.out _ (by (repeat' (first|with_reducible (first|exact Below.refl _ _|assumption|refine Below.drew ?_|refine A3 ?_ _|refine Below.alloc ?_ ?_ _|refine Below.setCell ?_ ?_ _)|omega|(simp;done)|(simp;omega))))).mono ?_
    rintro e w2 ⟨rfl,rfl⟩
    go_wp2
    go_round
    case rel=>exact ⟨j+1,met+1,by omega,by omega,by go_num,by go_num,HA,HM⟩
    case measure=>simp [intOf];omega
   ·have hsome:f.via[met]? ≠some p[j]:=by rw [List.getElem?_eq_getElem hml];intro h;exact hvs (Option.some.inj h)
    have HH:=Lib.hid (B55 hlt hall.out hno' hvia hsome)
    have hvs':(f.via[met] !=p[j])=true:=by rw [bne_iff_ne];exact hvs
    clear hvs hsome hmet hall hno' hvia
    generalize p[j]=s at *
    generalize f.via[met]=v at *
    go_wp2_with fail
    refine (HCN.out _ (by (repeat' (first|with_reducible (first|exact Below.refl _ _|assumption|refine Below.drew ?_|refine A3 ?_ _|refine Below.alloc ?_ ?_ _|refine Below.setCell ?_ ?_ _)|omega|(simp;done)|(simp;omega))))).mono ?_
    rintro e w2 ⟨rfl,rfl⟩
    go_wp2_with fail
    refine (HCV.out _ (by (repeat' (first|with_reducible (first|exact Below.refl _ _|assumption|refine Below.drew ?_|refine A3 ?_ _|refine Below.alloc ?_ ?_ _|refine Below.setCell ?_ ?_ _)|omega|(simp;done)|(simp;omega))))).mono ?_
    rintro e w2 ⟨rfl,rfl⟩
    go_wp2
    go_ret;exact ⟨C13 HH.out.symm,by (repeat' (first|with_reducible (first|exact Below.refl _ _|assumption|refine Below.drew ?_|refine A3 ?_ _|refine Below.alloc ?_ ?_ _|refine Below.setCell ?_ ?_ _)|omega|(simp;done)|(simp;omega)))⟩
  ·have HM:=Lib.hid (hmet.out.step hlt)
   have HA:=Lib.hid (B4q hlt hall.out hno' hvia)
   rw [decide_eq_false hvia] at hcv
   have HCV:=Lib.hid hcv
   clear hmet hall hvia hno' hcv
   generalize p[j]=s at *
   go_wp2_with fail
   refine (HCN.out _ (by (repeat' (first|with_reducible (first|exact Below.refl _ _|assumption|refine Below.drew ?_|refine A3 ?_ _|refine Below.alloc ?_ ?_ _|refine Below.setCell ?_ ?_ _)|omega|(simp;done)|(simp;omega))))).mono ?_
   rintro e w2 ⟨rfl,rfl⟩
   go_wp2_with fail
   refine (HCV.out _ (by (repeat' (first|with_reducible (first|exact Below.refl _ _|assumption|refine Below.drew ?_|refine A3 ?_ _|refine Below.alloc ?_ ?_ _|refine Below.setCell ?_ ?_ _)|omega|(simp;done)|(simp;omega))))).mono ?_
   rintro e w2 ⟨rfl,rfl⟩
   go_wp2
   go_round
   case rel=>exact ⟨j+1,met,by omega,by omega,rfl,by go_num,HA,HM⟩
   case measure=>simp [intOf];omega
end Go.Proofs.YtampcbncgofkoaaGreatDoor
