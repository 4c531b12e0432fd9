/- Texts of this proof, one behind the other. -/
import Derived.WalkLawsBesides
import Derived.Lib.Hide
import Derived.Deep.LoopGhost
import Derived.Deep.QuietTactic
import Derived.BigQuiet
import Derived.Deep.RegionWith
import Derived.Handy
import Derived.Deep.Cut
import Derived.Lib.AtoiErrMem
import Derived.Test.YtampcbncgofkoaaGreatDoorPk5
import Derived.Test.YtampcbncgofkoaaGreatDoorPk11
import Derived.Test.YtampcbncgofkoaaGreatDoorPk9
import Derived.Test.YtampcbncgofkoaaGreatDoorPk12
set_option linter.unusedSimpArgs false
set_option linter.unusedVariables false
set_option maxRecDepth 100000
set_option maxHeartbeats 16000000
namespace Go.St
open Go.RowKit
theorem C2g {P:Program} {c:Code} {Q:Exit→Act→World→Prop} (R:Act→Act→World→Prop) {a:Act} {w:World} (h:∀ R':Act→World→Prop,(∀ a' w',R a a' w'→R' a' w')→c.wp P (fun e a' w'=>e=.normal∧R' a' w') a w) (hK:∀ a' w',R a a' w'→Q .normal a' w'):c.wp P Q a w:=
 Code.wp_mono (fun e a' w' h=>by obtain ⟨rfl,h⟩:=h;exact hK a' w' h) (h _ fun _ _ h=>h)
def C39 (c:UInt8):Prop:=48≤c.toNat∧c.toNat≤57
def C31 (s:ByteArray) (p k:Nat):Prop:=∀ i,p≤i→i<k→∃ c,s.data.toList[i]? =some c∧C39 c
theorem C31.step {s:ByteArray} {p k:Nat} {c:UInt8} (h:C31 s p k) (hk:s.data.toList[k]? =some c) (hc:C39 c):C31 s p (k+1):=fun i hi hj=>by
 by_cases e:i=k
 ·exact ⟨c,by rw [e];exact hk,hc⟩
 ·exact h i hi (by omega)
theorem C2u:∀ (l:List UInt8) (n:Nat),(∀ c∈l,C39 c)→∃ m,Lib.decFrom n l=some m∧m<(n+1) * 10 ^ l.length
 |[],n,_=>⟨n,rfl,by simp⟩
 |c::r,n,h=>by
  have hc:=h c (by simp)
  obtain ⟨m,h1,h2⟩:=C2u r (n * 10+(c.toNat - 48)) (fun x hx=>h x (by simp [hx]))
  refine ⟨m,?_,?_⟩
  ·unfold Lib.decFrom Lib.digitVal
   rw [if_pos (show 48≤c.toNat∧c.toNat≤57 from hc)]
   exact h1
  ·rw [List.length_cons,Nat.pow_succ]
   have hc2:=hc.2
   refine Nat.lt_of_lt_of_le h2 (Nat.le_trans (Nat.mul_le_mul_right _ (show n * 10+(c.toNat - 48)+1≤(n+1) * 10 by omega)) ?_)
   rw [Nat.mul_assoc,Nat.mul_comm 10]
   exact Nat.le_refl _
theorem C33 {s:ByteArray} {p k:Nat} (h:C31 s p k) (hp:p<k) (hk:k≤p+4) (hs:k≤s.size):(s.extract p k).size≤18∧∃ v:Int,Lib.atoi (s.extract p k).data.toList=some v∧I64 v:=by
  have hl:(s.extract p k).data.toList.length=k - p:=by
    rw [Lib.extract_data,List.length_take,List.length_drop,Array.length_toList]
    show min (k - p) (s.size - p)=_
    omega
  have hall:∀ c∈(s.extract p k).data.toList,C39 c:=fun c hc=>by
    rw [Lib.extract_data] at hc
    obtain ⟨i,hi,rfl⟩:=List.getElem_of_mem hc
    rw [List.length_take] at hi
    obtain ⟨d,hd,h9⟩:=h (p+i) (by omega) (by omega)
    rw [List.getElem_take,List.getElem_drop]
    rw [List.getElem?_eq_some_iff] at hd
    obtain ⟨_,rfl⟩:=hd
    exact h9
  refine ⟨by rw [show (s.extract p k).size=(s.extract p k).data.toList.length by rw [Array.length_toList];rfl];omega,?_⟩
  generalize (s.extract p k).data.toList=l at *
  cases l with
  |nil=>simp at hl;omega
  |cons c r=>
    have hc:=hall c (by simp)
    have h45:(c==45)=false:=by
      rw [beq_eq_false_iff_ne];rintro rfl;exact absurd hc.1 (by decide)
    have h43:(c==43)=false:=by
      rw [beq_eq_false_iff_ne];rintro rfl;exact absurd hc.1 (by decide)
    obtain ⟨m,h1,h2⟩:=C2u (c::r) 0 hall
    have h10:10 ^ (c::r).length≤10 ^ 4:=Nat.pow_le_pow_right (by decide) (by omega)
    refine ⟨(m:Int),?_,I64.small (by omega) (by omega)⟩
    unfold Lib.atoi
    dsimp only
    rw [h45,h43]
    simp only [Bool.false_eq_true,if_false]
    unfold Lib.decNat
    rw [if_neg (by simp),h1]
    rfl
theorem C2w {α:Type} {sh:D1 α} {ok:Nat→Prop} {w:World} {b:Nat} {e:TypeId} {cs:List Value} {x:α} (h:A6 w b e cs.toArray) (hr:sh.rep ok w cs x):D7 sh ok w (some ⟨b,0,none⟩) [x]:=by
  refine .inr ⟨b,0,rfl,fun i y hy=>?_⟩
  match i,hy with
  |0,hy=>
    obtain rfl:x=y:=by simpa using hy
    refine ⟨cs,hr,fun j c hj=>?_⟩
    simp only [Nat.zero_mul,Nat.zero_add]
    rw [h.cells.1 j]
    simpa using hj
  |i+1,hy=>simp at hy
def C2t:Value→Nat
 |.slice _ n _=>n
 |_=>0
end Go.St
namespace Go.Proofs.YtampcbncgofkoaaGreatDoor
open Go.RowKit Go.St
def Ate (s:ByteArray) (p:Nat) (bad:Bool) (rb B:Nat) (w:World) (wd:ByteArray) (e:Ending) (w':World):Prop:=∃ (b:Bool) (q:Nat),e=.returned (.bool b)∧A6 w' rb 68 #[.string s,.int .i64 (q:Int),.bool bad]∧Frm (fun k=>k≠rb) B w w'∧p≤q∧q≤s.size∧(b=true→q=p+wd.size)
theorem C2o (s:ByteArray) (hs:s.size≤2000) (p:Nat) (hp:p≤s.size) (bad:Bool) (rb B:Nat) (hB:B≤rb) (w:World) (h:A6 w rb 68 #[.string s,.int .i64 (p:Int),.bool bad]) (wd:ByteArray) (hw:wd.size≤100):
  Calls Tryz.prog 22 #[.pointer (some ⟨rb,0,none⟩),.string wd] w fun e w'=>Ate s p bad rb B w wd e w':=by
 obtain ⟨r1,r2⟩:=h.cells
 have hrl:=h.lt
 have c0:(0:Int)≤(p:Int):=by omega
 have c1:(p:Int)≤(s.size:Int):=by omega
 have hS1:SC [(⟨rb,0,none⟩,(.string s)),(⟨rb,1,none⟩,(.int .i64 (p:Int)))] w:=⟨h.cells.1 0,h.cells.1 1,trivial⟩
 have hS0:SC [(⟨rb,0,none⟩,(.string s)),(⟨rb,1,none⟩,(.int .i64 (p:Int)))] w.drew:=hS1
 go_enter Tryz.func22,Tryz.ntmps22
 go_upto_region 1 with fail
 clear r1 r2
 have HPL:Hid (Lib.hasPrefix (s.extract p s.size).data.toList wd.data.toList=true→p+wd.size≤s.size):=Lib.hid fun hh=>by
  unfold Lib.hasPrefix at hh
  rw [List.isPrefixOf_iff_prefix] at hh
  have:=hh.length_le
  rw [Lib.extract_data,List.length_take,List.length_drop,Array.length_toList,Array.length_toList] at this
  have h9:s.data.size=s.size:=rfl
  have h8:wd.data.size=wd.size:=rfl
  omega
 generalize hPF:Lib.hasPrefix (s.extract p s.size).data.toList wd.data.toList=PF at *
 refine B9 (SC [(⟨rb,0,none⟩,(.string s)),(⟨rb,1,none⟩,(.int .i64 (p:Int)))]) 99 (fun a0 a' w'=>∃ v5 v6 v7 v8 v9 v10 v11 v12 v13 v14 v15,a'=C8 a0 [(5,v5),(6,v6),(7,v7),(8,v8),(9,v9),(10,v10),(11,v11),(12,v12),(13,v13),(14,v14),(15,v15),(16,.bool (!PF))]∧Below w.heap.size w w') (by kernel_rfl) ?_ ?_
 ·intro Q' hR hQp
  have hb0:Below w.heap.size w w.drew:=N4 _
  have hS:SC [(⟨rb,0,none⟩,(.string s)),(⟨rb,1,none⟩,(.int .i64 (p:Int)))] w.drew:=hS0
  generalize w.drew=wa at *
  refine A9 hQp hS [0,4,9,1,5,2,6,3,7,8] ?_
  iterate 10 (refine B2 _ rfl (by kernel_rfl) (A0 (by kernel_rfl) (by intro w0 hw0;have hw1:=hw0;simp only [SC] at hw1;first|(go_simp;done)|(go_simp;rfl))) ?_;simp only [Act.put,St.tA,St.tD,St.tE,St.tS,St.tC,St.tZ])
  refine B3 ?_
  clear hS
  refine A7 (i:=10) rfl (by kernel_rfl) (by kernel_rfl) fun K10 hK10=>?_
  go_simp
  go_wp2_with fail
  refine (Tryz.strings_HasPrefix _ _ _).mono ?_
  rintro e wb ⟨rfl,rfl⟩
  simp only [Int.toNat_natCast,hPF]
  go_wp2_with fail
  have hS:_:=SC.later hb0 hS1
  refine hK10 _ _ (fun _=>hS) ?_
  clear hK10
  refine A9 hQp hS [11] ?_
  iterate 1 (refine B2 _ rfl (by kernel_rfl) (A0 (by kernel_rfl) (by intro w0 hw0;have hw1:=hw0;simp only [SC] at hw1;first|(go_simp;done)|(go_simp;rfl))) ?_;simp only [Act.put,St.tA,St.tD,St.tE,St.tS,St.tC,St.tZ])
  refine B3 ?_
  refine B5 (by kernel_rfl) ?_ _
  refine hR _ _ ?_
  iterate 11 apply Exists.intro
  refine ⟨?_,hb0⟩
  simp only [C8,Act.put,St.tS,St.tC,St.tZ]
  rfl
 rintro a' w8 ⟨v5,v6,v7,v8,v9,v10,v11,v12,v13,v14,v15,rfl,hb8⟩
 simp only [C8,Act.put,St.tS,St.tC,St.tZ]
 rename World=>w1
 have h1:=h.under hb8
 clear hS0 hS1 hPF
 cases PF with
 |false=>
  go_wp2
  go_ret
  unfold Ate;exact ⟨false,p,rfl,h1,Frm.of hb8 (by omega),Nat.le_refl _,hp,(fun e=>nomatch e)⟩
 |true=>
  have hpl:=HPL.out rfl
  obtain ⟨r1,r2⟩:=h1.cells
  have hrl1:=h1.lt
  have hw1:IntKind.i64.wrap ((p:Int)+(wd.size:Int))=(p:Int)+(wd.size:Int):=IntWalk.i64_in _ (by omega)
  have h2:=h1.set 1 (.int .i64 ((p:Int)+(wd.size:Int)))
  simp only [St.tS,St.tC,St.tZ] at h2
  have hF:Frm (fun k=>k≠rb) B w (w1.setCell ⟨rb,1,none⟩ (.int .i64 ((p:Int)+(wd.size:Int)))):=(Frm.of hb8 (by omega)).trans (Frm.set (a:=⟨rb,1,none⟩) (fun h=>h rfl) hB _)
  go_wp2
  go_ret
  unfold Ate;exact ⟨true,p+wd.size,rfl,h2,hF,Nat.le_add_right _ _,hpl,fun _=>rfl⟩
theorem C2q (s:ByteArray) (hs:s.size≤2000) (p:Nat) (hp:p≤s.size) (rb B:Nat) (hB:B≤rb) (w:World) (h:A6 w rb 68 #[.string s,.int .i64 (p:Int),.bool false]):
  Calls Tryz.prog 21 #[.pointer (some ⟨rb,0,none⟩)] w fun e w'=>∃ (v:Int) (q:Nat) (bad:Bool),e=.returned (.int .i64 v)∧A6 w' rb 68 #[.string s,.int .i64 (q:Int),.bool bad]∧Frm (fun k=>k≠rb) B w w'∧I64 v∧p≤q∧q≤s.size∧(bad=false→p<q):=by
 obtain ⟨r1,r2⟩:=h.cells
 have hrl:=h.lt
 have HAT:Hid (∀ (k:Nat) (hk:k<s.size),s.data.toList[k]? =some (s[k]'hk)):=Lib.hid fun k hk=>by
  rw [List.getElem?_eq_getElem (by rw [Array.length_toList];exact hk)]
  rfl
 go_enter Tryz.func21,Tryz.ntmps21
 go_wp2
 clear r1 r2
 go_loopw [3] (fun kv wr=>∃ k:Nat,kv=.int .i64 (k:Int)∧p≤k∧k≤s.size∧Hid (C31 s p k)∧Below w.heap.size w wr) (fun kv _=>s.size - (intOf kv).toNat)
 case atStart=>exact ⟨p,rfl,Nat.le_refl _,hp,Lib.hid (fun i h1 h2=>by omega),Below.refl _ _⟩
 case round=>
  obtain ⟨k,rfl,hpk,hks,HDG,hb⟩:=hrel
  rename World=>wo
  have h1:=h.under hb
  obtain ⟨r1,r2⟩:=h1.cells
  have hrl1:=h1.lt
  go_upto_region 2 with fail
  refine C2g (fun a0 a' w'=>∃ v10 v11 v12 v13 v14 v15 v16 v17 v18 v19 v20 v21 v22 v23 v24 v25 v26 v27 v28 v29 v30 v31 v32 v33 v34,a'=C8 a0 [(10,v10),(11,v11),(12,v12),(13,v13),(14,v14),(15,v15),(16,v16),(17,v17),(18,v18),(19,v19),(20,v20),(21,v21),(22,v22),(23,v23),(24,v24),(25,v25),(26,v26),(27,v27),(28,v28),(29,v29),(30,v30),(31,v31),(32,v32),(33,v33),(34,v34)]∧w'=wo∧(v34=.bool false∨v34=.bool true∧k<s.size∧C31 s p (k+1))) ?_ ?_
  ·intro R9 hR9
   have HR9:=Lib.hid hR9
   clear hR9
   by_cases hlt:k<s.size
   case neg=>
    have b1:¬(k:Int)<(s.size:Int):=by omega
    go_wp2
    (try refine ⟨by first|trivial|rfl,?_⟩)
    refine HR9.out _ _ ?_
    iterate 25 apply Exists.intro
    refine ⟨?_,⟨rfl,.inl rfl⟩⟩
    simp only [C8,Act.put,St.tS,St.tC,St.tZ]
    rfl
   have b1:(k:Int)<(s.size:Int):=by omega
   have b0:(0:Int)≤(k:Int):=by omega
   by_cases h48:48≤(s[k]'hlt).toNat
   case neg=>
    have d1:¬(48:Int)≤((s[k]'hlt).toNat:Int):=by omega
    go_wp2
    (try refine ⟨by first|trivial|rfl,?_⟩)
    refine HR9.out _ _ ?_
    iterate 25 apply Exists.intro
    refine ⟨?_,⟨rfl,.inl rfl⟩⟩
    simp only [C8,Act.put,St.tS,St.tC,St.tZ]
    rfl
   have d1:(48:Int)≤((s[k]'hlt).toNat:Int):=by omega
   by_cases h57:(s[k]'hlt).toNat≤57
   case neg=>
    have d2:¬((s[k]'hlt).toNat:Int)≤57:=by omega
    go_wp2
    (try refine ⟨by first|trivial|rfl,?_⟩)
    refine HR9.out _ _ ?_
    iterate 25 apply Exists.intro
    refine ⟨?_,⟨rfl,.inl rfl⟩⟩
    simp only [C8,Act.put,St.tS,St.tC,St.tZ]
    rfl
   have d2:((s[k]'hlt).toNat:Int)≤57:=by omega
   go_wp2
   (try refine ⟨by first|trivial|rfl,?_⟩)
   refine HR9.out _ _ ?_
   iterate 25 apply Exists.intro
   refine ⟨?_,⟨rfl,.inr ⟨rfl,hlt,HDG.out.step (HAT.out k hlt) ⟨h48,h57⟩⟩⟩⟩
   simp only [C8,Act.put,St.tS,St.tC,St.tZ]
   rfl
  rintro a' w8 ⟨v10,v11,v12,v13,v14,v15,v16,v17,v18,v19,v20,v21,v22,v23,v24,v25,v26,v27,v28,v29,v30,v31,v32,v33,v34,rfl,hb8⟩
  simp only [C8,Act.put,St.tS,St.tC,St.tZ]
  obtain ⟨rfl,rfl|⟨rfl,hlt,hdg⟩⟩:=hb8
  case inr=>
   have HDG2:=Lib.hid hdg
   clear hdg
   go_wp2
   case roundEnd=>
    go_roundw
    case rel=>exact ⟨k+1,by go_num,by omega,by omega,HDG2,hb⟩
    case measure=>simp [intOf]<;>omega
  have hS1:SC [(⟨rb,0,none⟩,(.string s)),(⟨rb,1,none⟩,(.int .i64 (p:Int)))] w8:=⟨h1.cells.1 0,h1.cells.1 1,trivial⟩
  have hS0:SC [(⟨rb,0,none⟩,(.string s)),(⟨rb,1,none⟩,(.int .i64 (p:Int)))] w8.drew:=hS1
  have hw4:IntKind.i64.wrap ((p:Int)+4)=(p:Int)+4:=IntWalk.i64_in _ (by omega)
  have hw1:IntKind.i64.wrap ((p:Int)+1)=(p:Int)+1:=IntWalk.i64_in _ (by omega)
  clear r1 r2
  go_upto_region 4 with fail
  refine C2g (fun a0 a' w'=>∃ v37 v38 v39 v40 v41 v42 v43 v44 v45 v46 v47 v48 v49 v50 v51 v52 v53 v54 v55 v56 v57 v58 v59 v60 v61 v62 v63 v64 v65 v66 v67 v68 v69 v70 v71 v72,a'=C8 a0 [(37,v37),(38,v38),(39,v39),(40,v40),(41,v41),(42,v42),(43,v43),(44,v44),(45,v45),(46,v46),(47,v47),(48,v48),(49,v49),(50,v50),(51,v51),(52,v52),(53,v53),(54,v54),(55,v55),(56,v56),(57,v57),(58,v58),(59,v59),(60,v60),(61,v61),(62,v62),(63,v63),(64,v64),(65,v65),(66,v66),(67,v67),(68,v68),(69,v69),(70,v70),(71,v71),(72,v72)]∧Below w8.heap.size w8 w'∧(v72=.bool true∨v72=.bool false∧p<k∧k≤p+4)) ?_ ?_
  ·intro R9 hR9
   have HR9:=Lib.hid hR9
   clear hR9
   by_cases hD0:k=p
   case pos=>
    have e1:((k:Int)==(p:Int))=true:=by rw [beq_iff_eq];omega
    refine B9 (SC [(⟨rb,0,none⟩,(.string s)),(⟨rb,1,none⟩,(.int .i64 (p:Int)))]) 99 (fun a0 a' w'=>∃ v37 v38 v39 v40 v41 v42 v43 v44 v45 v46 v47 v48 v49 v50 v51 v52 v53 v54 v55 v56 v57 v58 v59 v60 v61 v62 v63 v64 v65 v66 v67 v68 v69 v70 v71,a'=C8 a0 [(37,v37),(38,v38),(39,v39),(40,v40),(41,v41),(42,v42),(43,v43),(44,v44),(45,v45),(46,v46),(47,v47),(48,v48),(49,v49),(50,v50),(51,v51),(52,v52),(53,v53),(54,v54),(55,v55),(56,v56),(57,v57),(58,v58),(59,v59),(60,v60),(61,v61),(62,v62),(63,v63),(64,v64),(65,v65),(66,v66),(67,v67),(68,v68),(69,v69),(70,v70),(71,v71),(72,.bool true)]∧Below w8.heap.size w8 w') (by kernel_rfl) ?_ ?_
    ·intro Q' hR hQp
     have hb0:Below w8.heap.size w8 w8.drew:=N4 _
     have hS:SC [(⟨rb,0,none⟩,(.string s)),(⟨rb,1,none⟩,(.int .i64 (p:Int)))] w8.drew:=hS0
     generalize w8.drew=wa at *
     refine A9 hQp hS [0,1,2,3,4,5,6] ?_
     iterate 7 (refine B2 _ rfl (by kernel_rfl) (A0 (by kernel_rfl) (by intro w0 hw0;have hw1:=hw0;simp only [SC] at hw1;first|(go_simp;done)|(go_simp;rfl))) ?_;simp only [Act.put,St.tA,St.tD,St.tE,St.tS,St.tC,St.tZ])
     refine B3 ?_
     refine A9 hQp hS [7,8,9,10,11,12,13] ?_
     iterate 7 (refine B2 undef rfl (by kernel_rfl) (.inr ⟨by kernel_rfl,rfl⟩) ?_;simp only [Act.put,St.tA,St.tD,St.tE,St.tS,St.tC,St.tZ])
     refine B3 ?_
     refine A9 hQp hS [14,15] ?_
     iterate 2 (refine B2 _ rfl (by kernel_rfl) (A0 (by kernel_rfl) (by intro w0 hw0;have hw1:=hw0;simp only [SC] at hw1;first|(go_simp;done)|(go_simp;rfl))) ?_;simp only [Act.put,St.tA,St.tD,St.tE,St.tS,St.tC,St.tZ])
     refine B3 ?_
     refine A9 hQp hS [16,17,18,19,20,21,22,23] ?_
     iterate 8 (refine B2 undef rfl (by kernel_rfl) (.inr ⟨by kernel_rfl,rfl⟩) ?_;simp only [Act.put,St.tA,St.tD,St.tE,St.tS,St.tC,St.tZ])
     refine B3 ?_
     refine A9 hQp hS [24,28,25,29,26,30,27,31,32,33] ?_
     iterate 10 (refine B2 undef rfl (by kernel_rfl) (.inr ⟨by kernel_rfl,rfl⟩) ?_;simp only [Act.put,St.tA,St.tD,St.tE,St.tS,St.tC,St.tZ])
     refine B3 ?_
     refine A9 hQp hS [34] ?_
     iterate 1 (refine B2 undef rfl (by kernel_rfl) (.inr ⟨by kernel_rfl,rfl⟩) ?_;simp only [Act.put,St.tA,St.tD,St.tE,St.tS,St.tC,St.tZ])
     refine B3 ?_
     refine A9 hQp hS [35] ?_
     iterate 1 (refine B2 _ rfl (by kernel_rfl) (A0 (by kernel_rfl) (by intro w0 hw0;have hw1:=hw0;simp only [SC] at hw1;first|(go_simp;done)|(go_simp;rfl))) ?_;simp only [Act.put,St.tA,St.tD,St.tE,St.tS,St.tC,St.tZ])
     refine B3 ?_
     refine B5 (by kernel_rfl) ?_ _
     refine hR _ _ ?_
     iterate 35 apply Exists.intro
     refine ⟨?_,hb0⟩
     simp only [C8,Act.put,St.tS,St.tC,St.tZ]
     rfl
    rintro a' w8 ⟨v37,v38,v39,v40,v41,v42,v43,v44,v45,v46,v47,v48,v49,v50,v51,v52,v53,v54,v55,v56,v57,v58,v59,v60,v61,v62,v63,v64,v65,v66,v67,v68,v69,v70,v71,rfl,hb8⟩
    simp only [C8,Act.put,St.tS,St.tC,St.tZ]
    (try refine ⟨by first|trivial|rfl,?_⟩)
    refine HR9.out _ _ ⟨v37,v38,v39,v40,v41,v42,v43,v44,v45,v46,v47,v48,v49,v50,v51,v52,v53,v54,v55,v56,v57,v58,v59,v60,v61,v62,v63,v64,v65,v66,v67,v68,v69,v70,v71,.bool true,?_,hb8,.inl rfl⟩
    simp only [C8,Act.put,St.tS,St.tC,St.tZ]
   have e1:((k:Int)==(p:Int))=false:=by rw [beq_eq_false_iff_ne];omega
   by_cases hD4:p+4<k
   case pos=>
    have e2:(p:Int)+4<(k:Int):=by omega
    refine B9 (SC [(⟨rb,0,none⟩,(.string s)),(⟨rb,1,none⟩,(.int .i64 (p:Int)))]) 99 (fun a0 a' w'=>∃ v37 v38 v39 v40 v41 v42 v43 v44 v45 v46 v47 v48 v49 v50 v51 v52 v53 v54 v55 v56 v57 v58 v59 v60 v61 v62 v63 v64 v65 v66 v67 v68 v69 v70 v71,a'=C8 a0 [(37,v37),(38,v38),(39,v39),(40,v40),(41,v41),(42,v42),(43,v43),(44,v44),(45,v45),(46,v46),(47,v47),(48,v48),(49,v49),(50,v50),(51,v51),(52,v52),(53,v53),(54,v54),(55,v55),(56,v56),(57,v57),(58,v58),(59,v59),(60,v60),(61,v61),(62,v62),(63,v63),(64,v64),(65,v65),(66,v66),(67,v67),(68,v68),(69,v69),(70,v70),(71,v71),(72,.bool true)]∧Below w8.heap.size w8 w') (by kernel_rfl) ?_ ?_
    ·intro Q' hR hQp
     have hb0:Below w8.heap.size w8 w8.drew:=N4 _
     have hS:SC [(⟨rb,0,none⟩,(.string s)),(⟨rb,1,none⟩,(.int .i64 (p:Int)))] w8.drew:=hS0
     generalize w8.drew=wa at *
     refine A9 hQp hS [0,1,2,3,4,5,6] ?_
     iterate 7 (refine B2 _ rfl (by kernel_rfl) (A0 (by kernel_rfl) (by intro w0 hw0;have hw1:=hw0;simp only [SC] at hw1;first|(go_simp;done)|(go_simp;rfl))) ?_;simp only [Act.put,St.tA,St.tD,St.tE,St.tS,St.tC,St.tZ])
     refine B3 ?_
     refine A9 hQp hS [7,8,9,10,11,12,13] ?_
     iterate 7 (refine B2 _ rfl (by kernel_rfl) (A0 (by kernel_rfl) (by intro w0 hw0;have hw1:=hw0;simp only [SC] at hw1;first|(go_simp;done)|(go_simp;rfl))) ?_;simp only [Act.put,St.tA,St.tD,St.tE,St.tS,St.tC,St.tZ])
     refine B3 ?_
     refine A9 hQp hS [14,15] ?_
     iterate 2 (refine B2 _ rfl (by kernel_rfl) (A0 (by kernel_rfl) (by intro w0 hw0;have hw1:=hw0;simp only [SC] at hw1;first|(go_simp;done)|(go_simp;rfl))) ?_;simp only [Act.put,St.tA,St.tD,St.tE,St.tS,St.tC,St.tZ])
     refine B3 ?_
     refine A9 hQp hS [16,17,18,19,20,21,22,23] ?_
     iterate 8 (refine B2 undef rfl (by kernel_rfl) (.inr ⟨by kernel_rfl,rfl⟩) ?_;simp only [Act.put,St.tA,St.tD,St.tE,St.tS,St.tC,St.tZ])
     refine B3 ?_
     refine A9 hQp hS [24,28,25,29,26,30,27,31,32,33] ?_
     iterate 10 (refine B2 undef rfl (by kernel_rfl) (.inr ⟨by kernel_rfl,rfl⟩) ?_;simp only [Act.put,St.tA,St.tD,St.tE,St.tS,St.tC,St.tZ])
     refine B3 ?_
     refine A9 hQp hS [34] ?_
     iterate 1 (refine B2 undef rfl (by kernel_rfl) (.inr ⟨by kernel_rfl,rfl⟩) ?_;simp only [Act.put,St.tA,St.tD,St.tE,St.tS,St.tC,St.tZ])
     refine B3 ?_
     refine A9 hQp hS [35] ?_
     iterate 1 (refine B2 _ rfl (by kernel_rfl) (A0 (by kernel_rfl) (by intro w0 hw0;have hw1:=hw0;simp only [SC] at hw1;first|(go_simp;done)|(go_simp;rfl))) ?_;simp only [Act.put,St.tA,St.tD,St.tE,St.tS,St.tC,St.tZ])
     refine B3 ?_
     refine B5 (by kernel_rfl) ?_ _
     refine hR _ _ ?_
     iterate 35 apply Exists.intro
     refine ⟨?_,hb0⟩
     simp only [C8,Act.put,St.tS,St.tC,St.tZ]
     rfl
    rintro a' w8 ⟨v37,v38,v39,v40,v41,v42,v43,v44,v45,v46,v47,v48,v49,v50,v51,v52,v53,v54,v55,v56,v57,v58,v59,v60,v61,v62,v63,v64,v65,v66,v67,v68,v69,v70,v71,rfl,hb8⟩
    simp only [C8,Act.put,St.tS,St.tC,St.tZ]
    (try refine ⟨by first|trivial|rfl,?_⟩)
    refine HR9.out _ _ ⟨v37,v38,v39,v40,v41,v42,v43,v44,v45,v46,v47,v48,v49,v50,v51,v52,v53,v54,v55,v56,v57,v58,v59,v60,v61,v62,v63,v64,v65,v66,v67,v68,v69,v70,v71,.bool true,?_,hb8,.inl rfl⟩
    simp only [C8,Act.put,St.tS,St.tC,St.tZ]
   have e2:¬(p:Int)+4<(k:Int):=by omega
   by_cases hD1:p+1<k
   case neg=>
    have e3:¬(p:Int)+1<(k:Int):=by omega
    refine B9 (SC [(⟨rb,0,none⟩,(.string s)),(⟨rb,1,none⟩,(.int .i64 (p:Int)))]) 99 (fun a0 a' w'=>∃ v37 v38 v39 v40 v41 v42 v43 v44 v45 v46 v47 v48 v49 v50 v51 v52 v53 v54 v55 v56 v57 v58 v59 v60 v61 v62 v63 v64 v65 v66 v67 v68 v69 v70 v71,a'=C8 a0 [(37,v37),(38,v38),(39,v39),(40,v40),(41,v41),(42,v42),(43,v43),(44,v44),(45,v45),(46,v46),(47,v47),(48,v48),(49,v49),(50,v50),(51,v51),(52,v52),(53,v53),(54,v54),(55,v55),(56,v56),(57,v57),(58,v58),(59,v59),(60,v60),(61,v61),(62,v62),(63,v63),(64,v64),(65,v65),(66,v66),(67,v67),(68,v68),(69,v69),(70,v70),(71,v71),(72,.bool false)]∧Below w8.heap.size w8 w') (by kernel_rfl) ?_ ?_
    ·intro Q' hR hQp
     have hb0:Below w8.heap.size w8 w8.drew:=N4 _
     have hS:SC [(⟨rb,0,none⟩,(.string s)),(⟨rb,1,none⟩,(.int .i64 (p:Int)))] w8.drew:=hS0
     generalize w8.drew=wa at *
     refine A9 hQp hS [0,1,2,3,4,5,6] ?_
     iterate 7 (refine B2 _ rfl (by kernel_rfl) (A0 (by kernel_rfl) (by intro w0 hw0;have hw1:=hw0;simp only [SC] at hw1;first|(go_simp;done)|(go_simp;rfl))) ?_;simp only [Act.put,St.tA,St.tD,St.tE,St.tS,St.tC,St.tZ])
     refine B3 ?_
     refine A9 hQp hS [7,8,9,10,11,12,13] ?_
     iterate 7 (refine B2 _ rfl (by kernel_rfl) (A0 (by kernel_rfl) (by intro w0 hw0;have hw1:=hw0;simp only [SC] at hw1;first|(go_simp;done)|(go_simp;rfl))) ?_;simp only [Act.put,St.tA,St.tD,St.tE,St.tS,St.tC,St.tZ])
     refine B3 ?_
     refine A9 hQp hS [14,15] ?_
     iterate 2 (refine B2 _ rfl (by kernel_rfl) (A0 (by kernel_rfl) (by intro w0 hw0;have hw1:=hw0;simp only [SC] at hw1;first|(go_simp;done)|(go_simp;rfl))) ?_;simp only [Act.put,St.tA,St.tD,St.tE,St.tS,St.tC,St.tZ])
     refine B3 ?_
     refine A9 hQp hS [16,17,18,19,20,21,22,23] ?_
     iterate 8 (refine B2 _ rfl (by kernel_rfl) (A0 (by kernel_rfl) (by intro w0 hw0;have hw1:=hw0;simp only [SC] at hw1;first|(go_simp;done)|(go_simp;rfl))) ?_;simp only [Act.put,St.tA,St.tD,St.tE,St.tS,St.tC,St.tZ])
     refine B3 ?_
     refine A9 hQp hS [24,28,25,29,26,30,27,31,32,33] ?_
     iterate 10 (refine B2 undef rfl (by kernel_rfl) (.inr ⟨by kernel_rfl,rfl⟩) ?_;simp only [Act.put,St.tA,St.tD,St.tE,St.tS,St.tC,St.tZ])
     refine B3 ?_
     refine A9 hQp hS [34] ?_
     iterate 1 (refine B2 _ rfl (by kernel_rfl) (A0 (by kernel_rfl) (by intro w0 hw0;have hw1:=hw0;simp only [SC] at hw1;first|(go_simp;done)|(go_simp;rfl))) ?_;simp only [Act.put,St.tA,St.tD,St.tE,St.tS,St.tC,St.tZ])
     refine B3 ?_
     refine A9 hQp hS [35] ?_
     iterate 1 (refine B2 _ rfl (by kernel_rfl) (A0 (by kernel_rfl) (by intro w0 hw0;have hw1:=hw0;simp only [SC] at hw1;first|(go_simp;done)|(go_simp;rfl))) ?_;simp only [Act.put,St.tA,St.tD,St.tE,St.tS,St.tC,St.tZ])
     refine B3 ?_
     refine B5 (by kernel_rfl) ?_ _
     refine hR _ _ ?_
     iterate 35 apply Exists.intro
     refine ⟨?_,hb0⟩
     simp only [C8,Act.put,St.tS,St.tC,St.tZ]
     rfl
    rintro a' w8 ⟨v37,v38,v39,v40,v41,v42,v43,v44,v45,v46,v47,v48,v49,v50,v51,v52,v53,v54,v55,v56,v57,v58,v59,v60,v61,v62,v63,v64,v65,v66,v67,v68,v69,v70,v71,rfl,hb8⟩
    simp only [C8,Act.put,St.tS,St.tC,St.tZ]
    (try refine ⟨by first|trivial|rfl,?_⟩)
    refine HR9.out _ _ ⟨v37,v38,v39,v40,v41,v42,v43,v44,v45,v46,v47,v48,v49,v50,v51,v52,v53,v54,v55,v56,v57,v58,v59,v60,v61,v62,v63,v64,v65,v66,v67,v68,v69,v70,v71,.bool false,?_,hb8,.inr ⟨rfl,by omega,by omega⟩⟩
    simp only [C8,Act.put,St.tS,St.tC,St.tZ]
   have e3:(p:Int)+1<(k:Int):=by omega
   have b5:(p:Int)<(s.size:Int):=by omega
   have b6:(0:Int)≤(p:Int):=by omega
   have hps:p<s.size:=by omega
   cases e4:(((s[p]'hps).toNat:Int)==48) with
   |true=>
    refine B9 (SC [(⟨rb,0,none⟩,(.string s)),(⟨rb,1,none⟩,(.int .i64 (p:Int)))]) 99 (fun a0 a' w'=>∃ v37 v38 v39 v40 v41 v42 v43 v44 v45 v46 v47 v48 v49 v50 v51 v52 v53 v54 v55 v56 v57 v58 v59 v60 v61 v62 v63 v64 v65 v66 v67 v68 v69 v70 v71,a'=C8 a0 [(37,v37),(38,v38),(39,v39),(40,v40),(41,v41),(42,v42),(43,v43),(44,v44),(45,v45),(46,v46),(47,v47),(48,v48),(49,v49),(50,v50),(51,v51),(52,v52),(53,v53),(54,v54),(55,v55),(56,v56),(57,v57),(58,v58),(59,v59),(60,v60),(61,v61),(62,v62),(63,v63),(64,v64),(65,v65),(66,v66),(67,v67),(68,v68),(69,v69),(70,v70),(71,v71),(72,.bool true)]∧Below w8.heap.size w8 w') (by kernel_rfl) ?_ ?_
    ·intro Q' hR hQp
     have hb0:Below w8.heap.size w8 w8.drew:=N4 _
     have hS:SC [(⟨rb,0,none⟩,(.string s)),(⟨rb,1,none⟩,(.int .i64 (p:Int)))] w8.drew:=hS0
     generalize w8.drew=wa at *
     refine A9 hQp hS [0,1,2,3,4,5,6] ?_
     iterate 7 (refine B2 _ rfl (by kernel_rfl) (A0 (by kernel_rfl) (by intro w0 hw0;have hw1:=hw0;simp only [SC] at hw1;first|(go_simp;done)|(go_simp;rfl))) ?_;simp only [Act.put,St.tA,St.tD,St.tE,St.tS,St.tC,St.tZ])
     refine B3 ?_
     refine A9 hQp hS [7,8,9,10,11,12,13] ?_
     iterate 7 (refine B2 _ rfl (by kernel_rfl) (A0 (by kernel_rfl) (by intro w0 hw0;have hw1:=hw0;simp only [SC] at hw1;first|(go_simp;done)|(go_simp;rfl))) ?_;simp only [Act.put,St.tA,St.tD,St.tE,St.tS,St.tC,St.tZ])
     refine B3 ?_
     refine A9 hQp hS [14,15] ?_
     iterate 2 (refine B2 _ rfl (by kernel_rfl) (A0 (by kernel_rfl) (by intro w0 hw0;have hw1:=hw0;simp only [SC] at hw1;first|(go_simp;done)|(go_simp;rfl))) ?_;simp only [Act.put,St.tA,St.tD,St.tE,St.tS,St.tC,St.tZ])
     refine B3 ?_
     refine A9 hQp hS [16,17,18,19,20,21,22,23] ?_
     iterate 8 (refine B2 _ rfl (by kernel_rfl) (A0 (by kernel_rfl) (by intro w0 hw0;have hw1:=hw0;simp only [SC] at hw1;first|(go_simp;done)|(go_simp;rfl))) ?_;simp only [Act.put,St.tA,St.tD,St.tE,St.tS,St.tC,St.tZ])
     refine B3 ?_
     refine A9 hQp hS [24,28,25,29,26,30,27,31,32,33,34] ?_
     iterate 11 (refine B2 _ rfl (by kernel_rfl) (A0 (by kernel_rfl) (by intro w0 hw0;have hw1:=hw0;simp only [SC] at hw1;first|(go_simp;done)|(go_simp;rfl))) ?_;simp only [Act.put,St.tA,St.tD,St.tE,St.tS,St.tC,St.tZ])
     refine B3 ?_
     refine A9 hQp hS [35] ?_
     iterate 1 (refine B2 _ rfl (by kernel_rfl) (A0 (by kernel_rfl) (by intro w0 hw0;have hw1:=hw0;simp only [SC] at hw1;first|(go_simp;done)|(go_simp;rfl))) ?_;simp only [Act.put,St.tA,St.tD,St.tE,St.tS,St.tC,St.tZ])
     refine B3 ?_
     refine B5 (by kernel_rfl) ?_ _
     refine hR _ _ ?_
     iterate 35 apply Exists.intro
     refine ⟨?_,hb0⟩
     simp only [C8,Act.put,St.tS,St.tC,St.tZ]
     rfl
    rintro a' w8 ⟨v37,v38,v39,v40,v41,v42,v43,v44,v45,v46,v47,v48,v49,v50,v51,v52,v53,v54,v55,v56,v57,v58,v59,v60,v61,v62,v63,v64,v65,v66,v67,v68,v69,v70,v71,rfl,hb8⟩
    simp only [C8,Act.put,St.tS,St.tC,St.tZ]
    (try refine ⟨by first|trivial|rfl,?_⟩)
    refine HR9.out _ _ ⟨v37,v38,v39,v40,v41,v42,v43,v44,v45,v46,v47,v48,v49,v50,v51,v52,v53,v54,v55,v56,v57,v58,v59,v60,v61,v62,v63,v64,v65,v66,v67,v68,v69,v70,v71,.bool true,?_,hb8,.inl rfl⟩
    simp only [C8,Act.put,St.tS,St.tC,St.tZ]
   |false=>
    refine B9 (SC [(⟨rb,0,none⟩,(.string s)),(⟨rb,1,none⟩,(.int .i64 (p:Int)))]) 99 (fun a0 a' w'=>∃ v37 v38 v39 v40 v41 v42 v43 v44 v45 v46 v47 v48 v49 v50 v51 v52 v53 v54 v55 v56 v57 v58 v59 v60 v61 v62 v63 v64 v65 v66 v67 v68 v69 v70 v71,a'=C8 a0 [(37,v37),(38,v38),(39,v39),(40,v40),(41,v41),(42,v42),(43,v43),(44,v44),(45,v45),(46,v46),(47,v47),(48,v48),(49,v49),(50,v50),(51,v51),(52,v52),(53,v53),(54,v54),(55,v55),(56,v56),(57,v57),(58,v58),(59,v59),(60,v60),(61,v61),(62,v62),(63,v63),(64,v64),(65,v65),(66,v66),(67,v67),(68,v68),(69,v69),(70,v70),(71,v71),(72,.bool false)]∧Below w8.heap.size w8 w') (by kernel_rfl) ?_ ?_
    ·intro Q' hR hQp
     have hb0:Below w8.heap.size w8 w8.drew:=N4 _
     have hS:SC [(⟨rb,0,none⟩,(.string s)),(⟨rb,1,none⟩,(.int .i64 (p:Int)))] w8.drew:=hS0
     generalize w8.drew=wa at *
     refine A9 hQp hS [0,1,2,3,4,5,6] ?_
     iterate 7 (refine B2 _ rfl (by kernel_rfl) (A0 (by kernel_rfl) (by intro w0 hw0;have hw1:=hw0;simp only [SC] at hw1;first|(go_simp;done)|(go_simp;rfl))) ?_;simp only [Act.put,St.tA,St.tD,St.tE,St.tS,St.tC,St.tZ])
     refine B3 ?_
     refine A9 hQp hS [7,8,9,10,11,12,13] ?_
     iterate 7 (refine B2 _ rfl (by kernel_rfl) (A0 (by kernel_rfl) (by intro w0 hw0;have hw1:=hw0;simp only [SC] at hw1;first|(go_simp;done)|(go_simp;rfl))) ?_;simp only [Act.put,St.tA,St.tD,St.tE,St.tS,St.tC,St.tZ])
     refine B3 ?_
     refine A9 hQp hS [14,15] ?_
     iterate 2 (refine B2 _ rfl (by kernel_rfl) (A0 (by kernel_rfl) (by intro w0 hw0;have hw1:=hw0;simp only [SC] at hw1;first|(go_simp;done)|(go_simp;rfl))) ?_;simp only [Act.put,St.tA,St.tD,St.tE,St.tS,St.tC,St.tZ])
     refine B3 ?_
     refine A9 hQp hS [16,17,18,19,20,21,22,23] ?_
     iterate 8 (refine B2 _ rfl (by kernel_rfl) (A0 (by kernel_rfl) (by intro w0 hw0;have hw1:=hw0;simp only [SC] at hw1;first|(go_simp;done)|(go_simp;rfl))) ?_;simp only [Act.put,St.tA,St.tD,St.tE,St.tS,St.tC,St.tZ])
     refine B3 ?_
     refine A9 hQp hS [24,28,25,29,26,30,27,31,32,33,34] ?_
     iterate 11 (refine B2 _ rfl (by kernel_rfl) (A0 (by kernel_rfl) (by intro w0 hw0;have hw1:=hw0;simp only [SC] at hw1;first|(go_simp;done)|(go_simp;rfl))) ?_;simp only [Act.put,St.tA,St.tD,St.tE,St.tS,St.tC,St.tZ])
     refine B3 ?_
     refine A9 hQp hS [35] ?_
     iterate 1 (refine B2 _ rfl (by kernel_rfl) (A0 (by kernel_rfl) (by intro w0 hw0;have hw1:=hw0;simp only [SC] at hw1;first|(go_simp;done)|(go_simp;rfl))) ?_;simp only [Act.put,St.tA,St.tD,St.tE,St.tS,St.tC,St.tZ])
     refine B3 ?_
     refine B5 (by kernel_rfl) ?_ _
     refine hR _ _ ?_
     iterate 35 apply Exists.intro
     refine ⟨?_,hb0⟩
     simp only [C8,Act.put,St.tS,St.tC,St.tZ]
     rfl
    rintro a' w8 ⟨v37,v38,v39,v40,v41,v42,v43,v44,v45,v46,v47,v48,v49,v50,v51,v52,v53,v54,v55,v56,v57,v58,v59,v60,v61,v62,v63,v64,v65,v66,v67,v68,v69,v70,v71,rfl,hb8⟩
    simp only [C8,Act.put,St.tS,St.tC,St.tZ]
    (try refine ⟨by first|trivial|rfl,?_⟩)
    refine HR9.out _ _ ⟨v37,v38,v39,v40,v41,v42,v43,v44,v45,v46,v47,v48,v49,v50,v51,v52,v53,v54,v55,v56,v57,v58,v59,v60,v61,v62,v63,v64,v65,v66,v67,v68,v69,v70,v71,.bool false,?_,hb8,.inr ⟨rfl,by omega,by omega⟩⟩
    simp only [C8,Act.put,St.tS,St.tC,St.tZ]
  rintro a' w8 ⟨v37,v38,v39,v40,v41,v42,v43,v44,v45,v46,v47,v48,v49,v50,v51,v52,v53,v54,v55,v56,v57,v58,v59,v60,v61,v62,v63,v64,v65,v66,v67,v68,v69,v70,v71,v72,rfl,hb8⟩
  simp only [C8,Act.put,St.tS,St.tC,St.tZ]
  clear hS0 hS1
  rename World=>w1
  obtain ⟨hb7,rfl|⟨rfl,hpk4,hk4⟩⟩:=hb8
  case inl=>
   have h2:=h1.under hb7
   obtain ⟨r3,r4⟩:=h2.cells
   have hrl2:=h2.lt
   have h3:=h2.set 2 (.bool true)
   simp only [St.tS,St.tC,St.tZ] at h3
   have hF:Frm (fun k=>k≠rb) B w (w1.setCell ⟨rb,2,none⟩ (.bool true)):=(Frm.of (hb.trans (hb7.mono hb.size)) (by omega)).trans (Frm.set (a:=⟨rb,2,none⟩) (fun h=>h rfl) hB (.bool true))
   go_wp2
   go_ret
   exact ⟨0,p,true,rfl,h3,hF,I64.small (by decide) (by decide),Nat.le_refl _,hp,(fun e=>nomatch e)⟩
  have h2:=h1.under hb7
  have hbw:=hb.trans (hb7.mono hb.size)
  have hrl2:=h2.lt
  have hS3:SC [(⟨rb,0,none⟩,(.string s)),(⟨rb,1,none⟩,(.int .i64 (p:Int)))] w1:=⟨h2.cells.1 0,h2.cells.1 1,trivial⟩
  have hS0:SC [(⟨rb,0,none⟩,(.string s)),(⟨rb,1,none⟩,(.int .i64 (p:Int)))] w1.drew:=hS3
  obtain ⟨hsz,v,hat,hv⟩:=C33 HDG.out hpk4 hk4 hks
  have HA:=Lib.hid hat
  clear hat
  go_upto_region 7 with fail
  have g0:(0:Int)≤(p:Int):=by omega
  have g1:(p:Int)≤(k:Int):=by omega
  have g2:(k:Int)≤(s.size:Int):=by omega
  refine B9 (SC [(⟨rb,0,none⟩,(.string s)),(⟨rb,1,none⟩,(.int .i64 (p:Int)))]) 99 (fun a0 a' w'=>∃ v76 v77 v78 v79 v80 v81 v82 v83 v84 v85 v86 v87 v88 v89,a'=C8 a0 [(76,v76),(77,v77),(78,v78),(79,v79),(80,v80),(81,v81),(82,v82),(83,v83),(84,v84),(85,v85),(86,v86),(87,v87),(88,v88),(89,v89),(4,.int .i64 v),(5,.nilIface)]∧Below w1.heap.size w1 w') (by kernel_rfl) ?_ ?_
  ·intro Q' hR hQp
   have hb0:Below w1.heap.size w1 w1.drew:=N4 _
   have hS:SC [(⟨rb,0,none⟩,(.string s)),(⟨rb,1,none⟩,(.int .i64 (p:Int)))] w1.drew:=hS0
   generalize w1.drew=wa at *
   refine A9 hQp hS [0,4,8,1,5,2,6,3,7,9] ?_
   iterate 10 (refine B2 _ rfl (by kernel_rfl) (A0 (by kernel_rfl) (by intro w0 hw0;have hw1:=hw0;simp only [SC] at hw1;first|(go_simp;done)|(go_simp;rfl))) ?_;simp only [Act.put,St.tA,St.tD,St.tE,St.tS,St.tC,St.tZ])
   refine B3 ?_
   clear hS
   refine A7 (i:=10) rfl (by kernel_rfl) (by kernel_rfl) fun K10 hK10=>?_
   go_simp
   go_wp2_with fail
   refine (Tryz.strconv_Atoi (s.extract p k) _ hsz HA.out _).mono ?_
   rintro e wb ⟨rfl,tt,rfl⟩
   have hbx:=Lib.bytesWorld_below wa 5 tt
   have hbz:=hb0.trans (hbx.mono hb0.size)
   go_wp2_with fail
   have hS:_:=SC.later hbz hS3
   refine hK10 _ _ (fun _=>hS) ?_
   clear hK10
   refine A9 hQp hS [11,12,13,14,15] ?_
   iterate 5 (refine B2 _ rfl (by kernel_rfl) (A0 (by kernel_rfl) (by intro w0 hw0;have hw1:=hw0;simp only [SC] at hw1;first|(go_simp;done)|(go_simp;rfl))) ?_;simp only [Act.put,St.tA,St.tD,St.tE,St.tS,St.tC,St.tZ])
   refine B3 ?_
   refine B5 (by kernel_rfl) ?_ _
   refine hR _ _ ?_
   iterate 14 apply Exists.intro
   refine ⟨?_,hbz⟩
   simp only [C8,Act.put,St.tS,St.tC,St.tZ]
   rfl
  rintro a' w8 ⟨v76,v77,v78,v79,v80,v81,v82,v83,v84,v85,v86,v87,v88,v89,rfl,hb8⟩
  simp only [C8,Act.put,St.tS,St.tC,St.tZ]
  rename World=>w2
  have h4:=h2.under hb8
  obtain ⟨r3,r4⟩:=h4.cells
  have hrl4:=h4.lt
  have h5:=h4.set 1 (.int .i64 (k:Int))
  simp only [St.tS,St.tC,St.tZ] at h5
  have hF:Frm (fun k=>k≠rb) B w (w2.setCell ⟨rb,1,none⟩ (.int .i64 (k:Int))):=(Frm.of (hbw.trans (hb8.mono hbw.size)) (by omega)).trans (Frm.set (a:=⟨rb,1,none⟩) (fun h=>h rfl) hB _)
  clear hS0 hS3
  go_wp2
  go_ret
  exact ⟨v,k,false,rfl,h5,hF,hv,hpk,hks,fun _=>hpk4⟩
theorem C32:(Tryz.prog.info? 3).map (fun i=>(i.zero,i.size,i.bytes))=some (some (.int .i64 0),1,8):=by kernel_rfl
theorem C2y (s:ByteArray) (hs:s.size≤2000) (p:Nat) (hp:p≤s.size) (rb B:Nat) (hB:B≤rb) (w:World) (h:A6 w rb 68 #[.string s,.int .i64 (p:Int),.bool false]):
  Calls Tryz.prog 23 #[.pointer (some ⟨rb,0,none⟩)] w fun e w'=>∃ (out:List Int) (oa:Option Addr) (oc q:Nat) (bad:Bool),e=.returned (.slice oa out.length oc)∧A6 w' rb 68 #[.string s,.int .i64 (q:Int),.bool bad]∧Frm (fun k=>k≠rb) B w w'∧A8 C2 (fun b=>w.heap.size≤b) w' oa oc out∧p≤q∧q≤s.size:=by
 obtain ⟨i0,gi,gz0,gz1,gz2⟩:=info_parts C32
 have hrl:=h.lt
 go_enter Tryz.func23,Tryz.ntmps23
 go_wp2_with fail
 refine (C2q s hs p hp rb B hB w h).mono ?_
 rintro e w1 ⟨v,q,bad,rfl,h1,hF1,hv,hpq,hqs,-⟩
 have hx1:=B8j w1 (.cells #[.int .i64 v] 3)
 have hO2:C7 C2 3 (fun _=>False) w.heap.size (w1.alloc (.cells #[.int .i64 v] 3)) (some ⟨w1.heap.size,0,none⟩) 1 1 [v]:=C7.ints (e:=3) [v] (fun x hx=>by obtain rfl:=List.mem_singleton.1 hx;exact hv) hF1.size (by simp only [maxLen,List.length_cons,List.length_nil];omega)
 have h2:=h1.under hx1
 have hF2:Frm (fun k=>k≠rb) B w (w1.alloc (.cells #[.int .i64 v] 3)):=hF1.trans (Frm.of hx1 (by have:=hF1.size;omega))
 clear h1 hF1 hx1
 go_wp2
 generalize w1.alloc _=w2 at *
 generalize w1.heap.size=ab at *
 go_loopw [3] (fun ov wr=>∃ (out:List Int) (oa:Option Addr) (oc q:Nat) (bad:Bool),ov=.slice oa out.length oc∧A6 wr rb 68 #[.string s,.int .i64 (q:Int),.bool bad]∧Frm (fun k=>k≠rb) B w wr∧C7 C2 3 (fun _=>False) w.heap.size wr oa out.length oc out∧p≤q∧q≤s.size∧out.length≤q+1) (fun ov _=>3000 - C2t ov)
 case atStart=>exact ⟨[v],_,1,q,bad,rfl,h2,hF2,hO2,hpq,hqs,by simp⟩
 case round=>
  clear h2 hF2 hO2 h hpq hqs
  obtain ⟨out,oa,oc,q,bad,rfl,h,hF,hO,hpq,hqs,hlen⟩:=hrel
  rename World=>wo
  obtain ⟨r1,r2⟩:=h.cells
  have hrl1:=h.lt
  cases bad with
  |true=>
   go_wp2
   go_ret
   exact ⟨out,oa,oc,q,true,rfl,h,hF,hO.row (fun _ h=>h.elim) (fun k hk=>(hO.lt k hk).1),hpq,hqs⟩
  |false=>
   go_wp2_with fail
   refine (C2o s hs q hqs false rb B hB wo h ⟨#[44]⟩ (by decide)).mono ?_
   rintro e w3 ⟨b9,q3,rfl,h3,hF3,hqq,hq3,hq1⟩
   have hO3:=hO.frm hF3 (fun _ h=>h.elim) (fun k hk e=>by have:=(hO.lt k hk).1;omega)
   have hF4:=hF.trans hF3
   have hsz3:=hF3.size
   clear r1 r2 h hF3
   cases b9 with
   |false=>
    go_wp2
    go_ret
    exact ⟨out,oa,oc,q3,false,rfl,h3,hF4,hO3.row (fun _ h=>h.elim) (fun k hk=>(hO3.lt k hk).1),by omega,hq3⟩
   |true=>
    have hq1:q3=q+1:=hq1 rfl
    obtain ⟨r1,r2⟩:=h3.cells
    have hrl3:=h3.lt
    go_wp2_with fail
    refine (C2q s hs q3 hq3 rb B hB w3 h3).mono ?_
    rintro e w5 ⟨v,q4,bad4,rfl,h5,hF5,hI,hq34,hq4,-⟩
    have hO5:=hO3.frm hF5 (fun _ h=>h.elim) (fun k hk e=>by have:=(hO3.lt k hk).1;omega)
    have hF6:=hF4.trans hF5
    have hbx:=B8j w5 (.cells #[.int .i64 v] 3)
    have hE:=I6 w5 3 #[.int .i64 v]
    have hO6:=hO5.below hbx
    have h6:=h5.under hbx
    have hz5:=hF6.size
    have hF7:Frm (fun k=>k≠rb) B w (w5.alloc (.cells #[.int .i64 v] 3)):=hF6.trans (Frm.of hbx (by omega))
    have hz7:w.heap.size≤(w5.alloc (.cells #[.int .i64 v] 3)).heap.size:=hF7.size
    have hsrc:=C2w (sh:=C2) (ok:=fun _=>False) (x:=v) hE ⟨rfl,hI⟩
    clear r1 r2 h3 hF4 hF5 hO3 hO5 hF6 h5 hbx hE
    go_wp2_with (at_builtin;go_must (refine H4 (sh:=C2) (n:=out.length) (m:=1) rfl _ _ 41 rfl 3 i0 (.int .i64 0) 8 Tryz.underlying41 gi gz0 gz1 gz2 rfl (by decide) rfl hO6 rfl rfl hsrc (by simp only [maxLen];omega) (by omega) hz7 ?_);go_must (intro oa4 oc4 w8 hO8 hg8 hd8))
    case roundEnd=>
     have h8:=h6.grown hg8 (fun e=>by have:=(hO6.lt rb e.symm).1;omega)
     have hF8:Frm (fun k=>k≠rb) B w w8:=⟨hF7.below.trans (D6 hg8 (fun k hk=>by have:=(hO6.lt k hk).1;omega) (by omega)),fun b hb hW=>(hg8.block b (Nat.lt_of_lt_of_le hb hF7.size) (fun e=>by have:=(hO6.lt b e.symm).1;omega)).trans (hF7.keep b hb hW)⟩
     have hl8:(out++[v]).length=out.length+1:=by simp
     go_roundw
     case rel=>exact ⟨out++[v],oa4,oc4,q4,bad4,by rw [hl8],h8,hF8,by rw [hl8];exact hO8,by omega,hq4,by rw [hl8];omega⟩
     case measure=>simp [C2t]<;>omega
def C2j (B rb R fb:Nat) (s:ByteArray) (p:Nat) (w w':World):Prop:=∃ (q:Nat) (bad:Bool) (a b:Int) (via no:List Int) (va na:Option Addr) (vc nc:Nat),A6 w' rb 68 #[.string s,.int .i64 (q:Int),.bool bad]∧A6 w' R 56 #[.int .i64 0,.int .i64 0,.slice none 0 0,.slice none 0 0]∧A6 w' fb 56 #[.int .i64 a,.int .i64 b,.slice va via.length vc,.slice na no.length nc]∧Frm (fun k=>k≠rb) B w w'∧fb<w'.heap.size∧I64 a∧I64 b∧A8 C2 (fun k=>fb<k) w' va vc via∧A8 C2 (fun k=>fb<k) w' na nc no∧p≤q∧q≤s.size∧(bad=false→p<q)
theorem N0 {w:World} {fb b:Nat} {ao:Option Addr} {c:Nat} {xs:List Int} (h:A8 C2 (fun k=>fb<k) w ao c xs) (hb:b≤fb) (o:Nat) (v:Value):A8 C2 (fun k=>fb<k) (w.setCell ⟨b,o,none⟩ v) ao c xs:=
 h.mono fun k _ hk=>⟨hk,Below.heap_setCell _ _ _ _ (show k≠b by omega)⟩
theorem C3a (s:ByteArray) (hs:s.size≤2000) (p:Nat) (hp:p≤s.size) (rb B:Nat) (hB:B≤rb) (w:World) (h:A6 w rb 68 #[.string s,.int .i64 (p:Int),.bool false]):
  Calls Tryz.prog 12 #[.pointer (some ⟨rb,0,none⟩)] w fun e w'=>∃ (f:E0) (cs:List Value) (q:Nat) (bad:Bool),e=.returned (.agg cs.toArray)∧H6.rep (fun b=>w.heap.size≤b) w' cs f∧A6 w' rb 68 #[.string s,.int .i64 (q:Int),.bool bad]∧Frm (fun k=>k≠rb) B w w'∧q≤s.size∧(bad=false→p<q):=by
 have hrl:=h.lt
 have hres0:=I6 w 56 #[.int .i64 0,.int .i64 0,.slice none 0 0,.slice none 0 0]
 have h0:=h.alloc (.cells #[.int .i64 0,.int .i64 0,.slice none 0 0,.slice none 0 0] 56)
 have hF0:Frm (fun k=>k≠rb) B w (w.alloc (.cells #[.int .i64 0,.int .i64 0,.slice none 0 0,.slice none 0 0] 56)):=Frm.of (B8j _ _) (by omega)
 go_enter Tryz.func12,Tryz.ntmps12
 go_wp2_with fail
 refine (C2q s hs p hp rb B hB _ h0).mono ?_
 rintro e w1 ⟨v,q1,bad1,rfl,h1,hF1,hv,hpq1,hqs1,hgo1⟩
 have hres1:=hF1.blk hres0 (.inl (show w.heap.size≠rb by omega))
 have hz1:=hF1.size
 have hx2:=B8j w1 (.cells #[.int .i64 v,.int .i64 0,.slice none 0 0,.slice none 0 0] 56)
 have hsz0:(w.alloc (.cells #[.int .i64 0,.int .i64 0,.slice none 0 0,.slice none 0 0] 56)).heap.size=w.heap.size+1:=by simp
 have hfb1:w.heap.size<w1.heap.size:=by omega
 have hfb2:rb<w1.heap.size:=by omega
 have hL:C2j B rb w.heap.size w1.heap.size s p w (w1.alloc (.cells #[.int .i64 v,.int .i64 0,.slice none 0 0,.slice none 0 0] 56)):=⟨q1,bad1,v,0,[],[],none,none,0,0,h1.under hx2,hres1.under hx2,A6.new rfl,(hF0.trans hF1).trans (Frm.of hx2 (by have:=hF0.size;omega)),by simp,hv,I64.small (by decide) (by decide),A8.nil _ _ _ _,A8.nil _ _ _ _,hpq1,hqs1,hgo1⟩
 clear hres0 h0 hF0 h1 hF1 hres1 hx2 hsz0 hz1 hpq1 hqs1 hgo1 hv
 go_upto_region 2 with fail
 generalize w1.alloc _=wk at *
 generalize w1.heap.size=fb at *
 rename ∀ (_:Act) (_:World),Code.wp _ _ _ _ _→_=>hK2
 obtain ⟨q,bad,a,b,via,no,va,na,vc,nc,hr,hres,hf,hF,hfb,ha,hb,hvr,hnr,hpq,hqs,hgo⟩:=hL
 refine C2g (fun a0 a' w'=>∃ v7 v8 v9 v10 v11 v12 v13 v14 v15 v16 v17 v18,a'=C8 a0 [(7,v7),(8,v8),(9,v9),(10,v10),(11,v11),(12,v12),(13,v13),(14,v14),(15,v15),(16,v16),(17,v17),(18,v18)]∧C2j B rb w.heap.size fb s p w w') ?_ ?_
 ·intro R9 hR9
  have HR9:=Lib.hid hR9
  clear hR9
  obtain ⟨r1,r2⟩:=hr.cells
  have hrl2:=hr.lt
  cases bad with
  |true=>
   have hr4:=hr.set 2 (.bool true)
   simp only [St.tS,St.tC,St.tZ] at hr4
   have hF4:=hF.trans (Frm.set (a:=⟨rb,2,none⟩) (fun h=>h rfl) hB (.bool true))
   have hf4:=hf.setOther (a:=⟨rb,2,none⟩) (show fb≠rb by omega) (.bool true)
   have hres4:=hres.setOther (a:=⟨rb,2,none⟩) (show w.heap.size≠rb by omega) (.bool true)
   go_wp2
   (try refine ⟨by first|trivial|rfl,?_⟩)
   refine HR9.out _ _ ?_
   iterate 12 apply Exists.intro
   refine ⟨?_,⟨q,true,a,b,via,no,va,na,vc,nc,hr4,hres4,hf4,hF4,hf4.lt,ha,hb,N0 hvr (by omega) _ _,N0 hnr (by omega) _ _,hpq,hqs,(fun e=>nomatch e)⟩⟩
   simp only [C8,Act.put,St.tS,St.tC,St.tZ]
   rfl
  |false=>
   go_wp2_with fail
   refine (C2o s hs q hqs false rb B hB wk hr ⟨#[62]⟩ (by decide)).mono ?_
   rintro e w3 ⟨b9,q3,rfl,h3,hF3,hq3,hqs3,-⟩
   obtain ⟨r3,r4⟩:=h3.cells
   have hrl3:=h3.lt
   have hr4:=h3.set 2 (.bool (!b9))
   simp only [St.tS,St.tC,St.tZ] at hr4
   have hF4:=(hF.trans hF3).trans (Frm.set (a:=⟨rb,2,none⟩) (fun h=>h rfl) hB (.bool (!b9)))
   have hf4:=(hF3.blk hf (.inl (show fb≠rb by omega))).setOther (a:=⟨rb,2,none⟩) (show fb≠rb by omega) (.bool (!b9))
   have hres4:=(hF3.blk hres (.inl (show w.heap.size≠rb by omega))).setOther (a:=⟨rb,2,none⟩) (show w.heap.size≠rb by omega) (.bool (!b9))
   have hvr4:=N0 (hvr.mono fun k hl hk=>⟨hk,hF3.keep k (by omega) (show k≠rb by omega)⟩) (show rb≤fb by omega) 2 (.bool (!b9))
   have hnr4:=N0 (hnr.mono fun k hl hk=>⟨hk,hF3.keep k (by omega) (show k≠rb by omega)⟩) (show rb≤fb by omega) 2 (.bool (!b9))
   go_wp2
   (try refine ⟨by first|trivial|rfl,?_⟩)
   refine HR9.out _ _ ?_
   iterate 12 apply Exists.intro
   refine ⟨?_,⟨q3,!b9,a,b,via,no,va,na,vc,nc,hr4,hres4,hf4,hF4,hf4.lt,ha,hb,hvr4,hnr4,by omega,hqs3,fun _=>by have:=hgo (by first|rfl|trivial);omega⟩⟩
   simp only [C8,Act.put,St.tS,St.tC,St.tZ]
   rfl
 rintro a' w8 ⟨v7,v8,v9,v10,v11,v12,v13,v14,v15,v16,v17,v18,rfl,hb8⟩
 simp only [C8,Act.put,St.tS,St.tC,St.tZ]
 clear hr hres hf hF hfb ha hb hvr hnr hpq hqs hgo
 rename World=>wk
 have hL:=hb8
 clear hb8
 refine hK2 _ _ ?_
 refine wp_seq_k fun K3 hK3=>?_
 obtain ⟨q,bad,a,b,via,no,va,na,vc,nc,hr,hres,hf,hF,hfb,ha,hb,hvr,hnr,hpq,hqs,hgo⟩:=hL
 refine C2g (fun a0 a' w'=>∃ v19 v20 v21 v22 v23 v24 v25 v26,a'=C8 a0 [(19,v19),(20,v20),(21,v21),(22,v22),(23,v23),(24,v24),(25,v25),(26,v26)]∧C2j B rb w.heap.size fb s p w w') ?_ ?_
 ·intro R9 hR9
  have HR9:=Lib.hid hR9
  clear hR9
  obtain ⟨r1,r2⟩:=hr.cells
  have hrl2:=hr.lt
  cases bad with
  |true=>
   go_wp2
   (try refine ⟨by first|trivial|rfl,?_⟩)
   refine HR9.out _ _ ?_
   iterate 8 apply Exists.intro
   refine ⟨?_,⟨q,true,a,b,via,no,va,na,vc,nc,hr,hres,hf,hF,hfb,ha,hb,hvr,hnr,hpq,hqs,hgo⟩⟩
   simp only [C8,Act.put,St.tS,St.tC,St.tZ]
   rfl
  |false=>
   go_wp2_with fail
   refine (C2q s hs q hqs rb B hB wk hr).mono ?_
   rintro e w3 ⟨v,q2,bad2,rfl,h3,hF3,hv,hq2,hqs2,hgo2⟩
   have hf3:=hF3.blk hf (.inl (show fb≠rb by omega))
   have hres3:=hF3.blk hres (.inl (show w.heap.size≠rb by omega))
   obtain ⟨f1,f2⟩:=hf3.cells
   have hfl:=hf3.lt
   have hr4:=h3.setOther (a:=⟨fb,1,none⟩) (show rb≠fb by omega) (.int .i64 v)
   have hres4:=hres3.setOther (a:=⟨fb,1,none⟩) (show w.heap.size≠fb by omega) (.int .i64 v)
   have hf4:=hf3.set 1 (.int .i64 v)
   simp only [St.tS,St.tC,St.tZ] at hf4
   have hF4:Frm (fun k=>k≠rb) B w (w3.setCell ⟨fb,1,none⟩ (.int .i64 v)):=⟨(hF.trans hF3).below.setCell (p:=⟨fb,1,none⟩) (show B≤fb by omega) _,fun k hk hW=>(Below.heap_setCell _ _ _ _ (show k≠fb by omega)).trans ((hF.trans hF3).keep k hk hW)⟩
   have hfb4:=hf4.lt
   have hvr4:=N0 (hvr.mono fun k hl hk=>⟨hk,hF3.keep k (by omega) (show k≠rb by omega)⟩) (Nat.le_refl fb) 1 (.int .i64 v)
   have hnr4:=N0 (hnr.mono fun k hl hk=>⟨hk,hF3.keep k (by omega) (show k≠rb by omega)⟩) (Nat.le_refl fb) 1 (.int .i64 v)
   go_wp2
   (try refine ⟨by first|trivial|rfl,?_⟩)
   refine HR9.out _ _ ?_
   iterate 8 apply Exists.intro
   refine ⟨?_,⟨q2,bad2,a,v,via,no,va,na,vc,nc,hr4,hres4,hf4,hF4,hfb4,ha,hv,hvr4,hnr4,by omega,hqs2,fun e=>by have:=hgo (by first|rfl|trivial);omega⟩⟩
   simp only [C8,Act.put,St.tS,St.tC,St.tZ]
   rfl
 rintro a' w8 ⟨v19,v20,v21,v22,v23,v24,v25,v26,rfl,hb8⟩
 simp only [C8,Act.put,St.tS,St.tC,St.tZ]
 clear hr hres hf hF hfb ha hb hvr hnr hpq hqs hgo
 rename World=>wk
 have hL:=hb8
 clear hb8
 refine hK3 _ _ ?_
 refine wp_seq_k fun K5 hK5=>?_
 obtain ⟨q,bad,a,b,via,no,va,na,vc,nc,hr,hres,hf,hF,hfb,ha,hb,hvr,hnr,hpq,hqs,hgo⟩:=hL
 refine C2g (fun a0 a' w'=>∃ v27 v28 v29 v30 v31 v32 v33 v34 v35 v36 v37 v38,a'=C8 a0 [(27,v27),(28,v28),(29,v29),(30,v30),(31,v31),(32,v32),(33,v33),(34,v34),(35,v35),(36,v36),(37,v37),(38,v38)]∧C2j B rb w.heap.size fb s p w w') ?_ ?_
 ·intro R9 hR9
  have HR9:=Lib.hid hR9
  clear hR9
  obtain ⟨r1,r2⟩:=hr.cells
  have hrl2:=hr.lt
  cases bad with
  |true=>
   go_wp2
   (try refine ⟨by first|trivial|rfl,?_⟩)
   refine HR9.out _ _ ?_
   iterate 12 apply Exists.intro
   refine ⟨?_,⟨q,true,a,b,via,no,va,na,vc,nc,hr,hres,hf,hF,hfb,ha,hb,hvr,hnr,hpq,hqs,hgo⟩⟩
   simp only [C8,Act.put,St.tS,St.tC,St.tZ]
   rfl
  |false=>
   go_wp2_with fail
   refine (C2o s hs q hqs false rb B hB wk hr ⟨#[32,118,105,97,32]⟩ (by decide)).mono ?_
   rintro e w3 ⟨b9,q3,rfl,h3,hF3,hq3,hqs3,-⟩
   have hf3:=hF3.blk hf (.inl (show fb≠rb by omega))
   have hres3:=hF3.blk hres (.inl (show w.heap.size≠rb by omega))
   have hvr3:=hvr.mono (w':=w3) (ok':=fun k=>fb<k) fun k hl hk=>⟨hk,hF3.keep k (by omega) (show k≠rb by omega)⟩
   have hnr3:=hnr.mono (w':=w3) (ok':=fun k=>fb<k) fun k hl hk=>⟨hk,hF3.keep k (by omega) (show k≠rb by omega)⟩
   have hF9:=hF.trans hF3
   have hfb3:=hf3.lt
   have hgo3:=hgo (by first|rfl|trivial)
   clear r1 r2 hr hres hf hvr hnr hF hF3
   cases b9 with
   |false=>
    go_wp2
    (try refine ⟨by first|trivial|rfl,?_⟩)
    refine HR9.out _ _ ?_
    iterate 12 apply Exists.intro
    refine ⟨?_,⟨q3,false,a,b,via,no,va,na,vc,nc,h3,hres3,hf3,hF9,hfb3,ha,hb,hvr3,hnr3,by omega,hqs3,fun _=>by omega⟩⟩
    simp only [C8,Act.put,St.tS,St.tC,St.tZ]
    rfl
   |true=>
    go_wp2_with fail
    refine (C2y s hs q3 hqs3 rb B hB w3 h3).mono ?_
    rintro e w5 ⟨out,oa,oc,q4,bad4,rfl,h5,hF5,ho5,hq4,hqs4⟩
    have hf5:=hF5.blk hf3 (.inl (show fb≠rb by omega))
    have hres5:=hF5.blk hres3 (.inl (show w.heap.size≠rb by omega))
    have hvr:=hvr3
    have hnr:=hnr3
    have ho4:=N0 (ho5.anyOk (ok':=fun k=>fb<k) (fun k _ hk=>by omega)) (Nat.le_refl fb) 2 (.slice oa out.length oc)
    obtain ⟨f1,f2⟩:=hf5.cells
    have hfl:=hf5.lt
    have hr4:=h5.setOther (a:=⟨fb,2,none⟩) (show rb≠fb by omega) (.slice oa out.length oc)
    have hres4:=hres5.setOther (a:=⟨fb,2,none⟩) (show w.heap.size≠fb by omega) (.slice oa out.length oc)
    have hf4:=hf5.set 2 (.slice oa out.length oc)
    simp only [St.tS,St.tC,St.tZ] at hf4
    have hF4:Frm (fun k=>k≠rb) B w (w5.setCell ⟨fb,2,none⟩ (.slice oa out.length oc)):=⟨(hF9.trans hF5).below.setCell (p:=⟨fb,2,none⟩) (show B≤fb by omega) _,fun k hk hW=>(Below.heap_setCell _ _ _ _ (show k≠fb by omega)).trans ((hF9.trans hF5).keep k hk hW)⟩
    have hfb4:=hf4.lt
    have hvr4:=N0 (hvr.mono fun k hl hk=>⟨hk,hF5.keep k (by omega) (show k≠rb by omega)⟩) (Nat.le_refl fb) 2 (.slice oa out.length oc)
    have hnr4:=N0 (hnr.mono fun k hl hk=>⟨hk,hF5.keep k (by omega) (show k≠rb by omega)⟩) (Nat.le_refl fb) 2 (.slice oa out.length oc)
    go_wp2
    (try refine ⟨by first|trivial|rfl,?_⟩)
    refine HR9.out _ _ ?_
    iterate 12 apply Exists.intro
    refine ⟨?_,⟨q4,bad4,a,b,out,no,oa,na,oc,nc,hr4,hres4,hf4,hF4,hfb4,ha,hb,ho4,hnr4,by omega,hqs4,fun _=>by omega⟩⟩
    simp only [C8,Act.put,St.tS,St.tC,St.tZ]
    rfl
 rintro a' w8 ⟨v27,v28,v29,v30,v31,v32,v33,v34,v35,v36,v37,v38,rfl,hb8⟩
 simp only [C8,Act.put,St.tS,St.tC,St.tZ]
 clear hr hres hf hF hfb ha hb hvr hnr hpq hqs hgo
 rename World=>wk
 have hL:=hb8
 clear hb8
 refine hK5 _ _ ?_
 refine wp_seq_k fun K7 hK7=>?_
 obtain ⟨q,bad,a,b,via,no,va,na,vc,nc,hr,hres,hf,hF,hfb,ha,hb,hvr,hnr,hpq,hqs,hgo⟩:=hL
 refine C2g (fun a0 a' w'=>∃ v39 v40 v41 v42 v43 v44 v45 v46 v47 v48 v49 v50,a'=C8 a0 [(39,v39),(40,v40),(41,v41),(42,v42),(43,v43),(44,v44),(45,v45),(46,v46),(47,v47),(48,v48),(49,v49),(50,v50)]∧C2j B rb w.heap.size fb s p w w') ?_ ?_
 ·intro R9 hR9
  have HR9:=Lib.hid hR9
  clear hR9
  obtain ⟨r1,r2⟩:=hr.cells
  have hrl2:=hr.lt
  cases bad with
  |true=>
   go_wp2
   (try refine ⟨by first|trivial|rfl,?_⟩)
   refine HR9.out _ _ ?_
   iterate 12 apply Exists.intro
   refine ⟨?_,⟨q,true,a,b,via,no,va,na,vc,nc,hr,hres,hf,hF,hfb,ha,hb,hvr,hnr,hpq,hqs,hgo⟩⟩
   simp only [C8,Act.put,St.tS,St.tC,St.tZ]
   rfl
  |false=>
   go_wp2_with fail
   refine (C2o s hs q hqs false rb B hB wk hr ⟨#[32,110,111,116,32]⟩ (by decide)).mono ?_
   rintro e w3 ⟨b9,q3,rfl,h3,hF3,hq3,hqs3,-⟩
   have hf3:=hF3.blk hf (.inl (show fb≠rb by omega))
   have hres3:=hF3.blk hres (.inl (show w.heap.size≠rb by omega))
   have hvr3:=hvr.mono (w':=w3) (ok':=fun k=>fb<k) fun k hl hk=>⟨hk,hF3.keep k (by omega) (show k≠rb by omega)⟩
   have hnr3:=hnr.mono (w':=w3) (ok':=fun k=>fb<k) fun k hl hk=>⟨hk,hF3.keep k (by omega) (show k≠rb by omega)⟩
   have hF9:=hF.trans hF3
   have hfb3:=hf3.lt
   have hgo3:=hgo (by first|rfl|trivial)
   clear r1 r2 hr hres hf hvr hnr hF hF3
   cases b9 with
   |false=>
    go_wp2
    (try refine ⟨by first|trivial|rfl,?_⟩)
    refine HR9.out _ _ ?_
    iterate 12 apply Exists.intro
    refine ⟨?_,⟨q3,false,a,b,via,no,va,na,vc,nc,h3,hres3,hf3,hF9,hfb3,ha,hb,hvr3,hnr3,by omega,hqs3,fun _=>by omega⟩⟩
    simp only [C8,Act.put,St.tS,St.tC,St.tZ]
    rfl
   |true=>
    go_wp2_with fail
    refine (C2y s hs q3 hqs3 rb B hB w3 h3).mono ?_
    rintro e w5 ⟨out,oa,oc,q4,bad4,rfl,h5,hF5,ho5,hq4,hqs4⟩
    have hf5:=hF5.blk hf3 (.inl (show fb≠rb by omega))
    have hres5:=hF5.blk hres3 (.inl (show w.heap.size≠rb by omega))
    have hvr:=hvr3
    have hnr:=hnr3
    have ho4:=N0 (ho5.anyOk (ok':=fun k=>fb<k) (fun k _ hk=>by omega)) (Nat.le_refl fb) 3 (.slice oa out.length oc)
    obtain ⟨f1,f2⟩:=hf5.cells
    have hfl:=hf5.lt
    have hr4:=h5.setOther (a:=⟨fb,3,none⟩) (show rb≠fb by omega) (.slice oa out.length oc)
    have hres4:=hres5.setOther (a:=⟨fb,3,none⟩) (show w.heap.size≠fb by omega) (.slice oa out.length oc)
    have hf4:=hf5.set 3 (.slice oa out.length oc)
    simp only [St.tS,St.tC,St.tZ] at hf4
    have hF4:Frm (fun k=>k≠rb) B w (w5.setCell ⟨fb,3,none⟩ (.slice oa out.length oc)):=⟨(hF9.trans hF5).below.setCell (p:=⟨fb,3,none⟩) (show B≤fb by omega) _,fun k hk hW=>(Below.heap_setCell _ _ _ _ (show k≠fb by omega)).trans ((hF9.trans hF5).keep k hk hW)⟩
    have hfb4:=hf4.lt
    have hvr4:=N0 (hvr.mono fun k hl hk=>⟨hk,hF5.keep k (by omega) (show k≠rb by omega)⟩) (Nat.le_refl fb) 3 (.slice oa out.length oc)
    have hnr4:=N0 (hnr.mono fun k hl hk=>⟨hk,hF5.keep k (by omega) (show k≠rb by omega)⟩) (Nat.le_refl fb) 3 (.slice oa out.length oc)
    go_wp2
    (try refine ⟨by first|trivial|rfl,?_⟩)
    refine HR9.out _ _ ?_
    iterate 12 apply Exists.intro
    refine ⟨?_,⟨q4,bad4,a,b,via,out,va,oa,vc,oc,hr4,hres4,hf4,hF4,hfb4,ha,hb,hvr4,ho4,by omega,hqs4,fun _=>by omega⟩⟩
    simp only [C8,Act.put,St.tS,St.tC,St.tZ]
    rfl
 rintro a' w8 ⟨v39,v40,v41,v42,v43,v44,v45,v46,v47,v48,v49,v50,rfl,hb8⟩
 simp only [C8,Act.put,St.tS,St.tC,St.tZ]
 clear hr hres hf hF hfb ha hb hvr hnr hpq hqs hgo
 rename World=>wk
 have hL:=hb8
 clear hb8
 refine hK7 _ _ ?_
 refine wp_seq_k fun K9 hK9=>?_
 obtain ⟨q,bad,a,b,via,no,va,na,vc,nc,hr,hres,hf,hF,hfb,ha,hb,hvr,hnr,hpq,hqs,hgo⟩:=hL
 refine C2g (fun a0 a' w'=>∃ v51 v52 v53 v54 v55 v56 v57 v58 v59 v60 v61 v62,a'=C8 a0 [(51,v51),(52,v52),(53,v53),(54,v54),(55,v55),(56,v56),(57,v57),(58,v58),(59,v59),(60,v60),(61,v61),(62,v62)]∧C2j B rb w.heap.size fb s p w w') ?_ ?_
 ·intro R9 hR9
  have HR9:=Lib.hid hR9
  clear hR9
  obtain ⟨r1,r2⟩:=hr.cells
  have hrl2:=hr.lt
  cases bad with
  |true=>
   have hr4:=hr.set 2 (.bool true)
   simp only [St.tS,St.tC,St.tZ] at hr4
   have hF4:=hF.trans (Frm.set (a:=⟨rb,2,none⟩) (fun h=>h rfl) hB (.bool true))
   have hf4:=hf.setOther (a:=⟨rb,2,none⟩) (show fb≠rb by omega) (.bool true)
   have hres4:=hres.setOther (a:=⟨rb,2,none⟩) (show w.heap.size≠rb by omega) (.bool true)
   go_wp2
   (try refine ⟨by first|trivial|rfl,?_⟩)
   refine HR9.out _ _ ?_
   iterate 12 apply Exists.intro
   refine ⟨?_,⟨q,true,a,b,via,no,va,na,vc,nc,hr4,hres4,hf4,hF4,hf4.lt,ha,hb,N0 hvr (by omega) _ _,N0 hnr (by omega) _ _,hpq,hqs,(fun e=>nomatch e)⟩⟩
   simp only [C8,Act.put,St.tS,St.tC,St.tZ]
   rfl
  |false=>
   go_wp2_with fail
   refine (C2o s hs q hqs false rb B hB wk hr ⟨#[10]⟩ (by decide)).mono ?_
   rintro e w3 ⟨b9,q3,rfl,h3,hF3,hq3,hqs3,-⟩
   obtain ⟨r3,r4⟩:=h3.cells
   have hrl3:=h3.lt
   have hr4:=h3.set 2 (.bool (!b9))
   simp only [St.tS,St.tC,St.tZ] at hr4
   have hF4:=(hF.trans hF3).trans (Frm.set (a:=⟨rb,2,none⟩) (fun h=>h rfl) hB (.bool (!b9)))
   have hf4:=(hF3.blk hf (.inl (show fb≠rb by omega))).setOther (a:=⟨rb,2,none⟩) (show fb≠rb by omega) (.bool (!b9))
   have hres4:=(hF3.blk hres (.inl (show w.heap.size≠rb by omega))).setOther (a:=⟨rb,2,none⟩) (show w.heap.size≠rb by omega) (.bool (!b9))
   have hvr4:=N0 (hvr.mono fun k hl hk=>⟨hk,hF3.keep k (by omega) (show k≠rb by omega)⟩) (show rb≤fb by omega) 2 (.bool (!b9))
   have hnr4:=N0 (hnr.mono fun k hl hk=>⟨hk,hF3.keep k (by omega) (show k≠rb by omega)⟩) (show rb≤fb by omega) 2 (.bool (!b9))
   go_wp2
   (try refine ⟨by first|trivial|rfl,?_⟩)
   refine HR9.out _ _ ?_
   iterate 12 apply Exists.intro
   refine ⟨?_,⟨q3,!b9,a,b,via,no,va,na,vc,nc,hr4,hres4,hf4,hF4,hf4.lt,ha,hb,hvr4,hnr4,by omega,hqs3,fun _=>by have:=hgo (by first|rfl|trivial);omega⟩⟩
   simp only [C8,Act.put,St.tS,St.tC,St.tZ]
   rfl
 rintro a' w8 ⟨v51,v52,v53,v54,v55,v56,v57,v58,v59,v60,v61,v62,rfl,hb8⟩
 simp only [C8,Act.put,St.tS,St.tC,St.tZ]
 clear hr hres hf hF hfb ha hb hvr hnr hpq hqs hgo
 rename World=>wk
 have hL:=hb8
 clear hb8
 refine hK9 _ _ ?_
 obtain ⟨q,bad,a,b,via,no,va,na,vc,nc,hr,hres,hf,hF,hfb,ha,hb,hvr,hnr,hpq,hqs,hgo⟩:=hL
 have hres9:=(((hres.set 0 (.int .i64 a)).set 1 (.int .i64 b)).set 2 (.slice va via.length vc)).set 3 (.slice na no.length nc)
 simp only [St.tS,St.tC,St.tZ] at hres9
 have hF9:Frm (fun k=>k≠rb) B w ((((wk.setCell ⟨w.heap.size,0,none⟩ (.int .i64 a)).setCell ⟨w.heap.size,1,none⟩ (.int .i64 b)).setCell ⟨w.heap.size,2,none⟩ (.slice va via.length vc)).setCell ⟨w.heap.size,3,none⟩ (.slice na no.length nc)):=⟨(((hF.below.setCell (p:=⟨w.heap.size,0,none⟩) (by show B≤w.heap.size;omega) _).setCell (p:=⟨w.heap.size,1,none⟩) (by show B≤w.heap.size;omega) _).setCell (p:=⟨w.heap.size,2,none⟩) (by show B≤w.heap.size;omega) _).setCell (p:=⟨w.heap.size,3,none⟩) (by show B≤w.heap.size;omega) _,fun k hk hW=>by
  rw [Below.heap_setCell _ _ _ _ (show k≠w.heap.size by omega),Below.heap_setCell _ _ _ _ (show k≠w.heap.size by omega),Below.heap_setCell _ _ _ _ (show k≠w.heap.size by omega),Below.heap_setCell _ _ _ _ (show k≠w.heap.size by omega)]
  exact hF.keep k hk hW⟩
 have hr9:=(((hr.setOther (a:=⟨w.heap.size,0,none⟩) (show rb≠w.heap.size by omega) (.int .i64 a)).setOther (a:=⟨w.heap.size,1,none⟩) (show rb≠w.heap.size by omega) (.int .i64 b)).setOther (a:=⟨w.heap.size,2,none⟩) (show rb≠w.heap.size by omega) (.slice va via.length vc)).setOther (a:=⟨w.heap.size,3,none⟩) (show rb≠w.heap.size by omega) (.slice na no.length nc)
 have hvw:=fun {xs:List Int} {ao:Option Addr} {c:Nat} (h:A8 C2 (fun k=>fb<k) wk ao c xs)=>(N0 (N0 (N0 (N0 h (show w.heap.size≤fb by omega) 0 (.int .i64 a)) (show w.heap.size≤fb by omega) 1 (.int .i64 b)) (show w.heap.size≤fb by omega) 2 (.slice va via.length vc)) (show w.heap.size≤fb by omega) 3 (.slice na no.length nc)).anyOk (ok':=fun b=>w.heap.size≤b) (fun k _ hk=>by omega)
 obtain ⟨f1,f2⟩:=hf.cells
 have hfl:=hf.lt
 obtain ⟨s1,s2⟩:=hres.cells
 have hsl:=hres.lt
 obtain ⟨x1,x2⟩:=hres9.cells
 go_wp2_with ((with_reducible refine bodyPost_ret (v:=.agg #[.int .i64 a,.int .i64 b,.slice va via.length vc,.slice na no.length nc]) ?ra1 ?rb1 ?rc1);go_must (case ra1=>simp [results,Tryz.results12,go_sem,x1]);go_must (case rb1=>rfl);go_must (case rc1=>exact ⟨⟨a,b,via,no⟩,[.int .i64 a,.int .i64 b,.slice va via.length vc,.slice na no.length nc],q,bad,rfl,⟨_,_,_,_,rfl,ha,hb,hvw hvr,hvw hnr⟩,hr9,hF9,hqs,hgo⟩))
theorem C0i:(Tryz.prog.info? 56).map (fun i=>(i.zero,i.size,i.bytes))=some (some (.agg #[.int .i64 0,.int .i64 0,.slice none 0 0,.slice none 0 0]),4,64):=by kernel_rfl
def C2r (w:World) (e:Ending) (w':World):Prop:=∃ (l:List E0) (oa:Option Addr) (oc:Nat) (x y:Int),e=.returned (.tuple #[.slice oa l.length oc,.agg #[.int .i64 x,.int .i64 y]])∧A8 H6 (fun b=>w.heap.size≤b) w' oa oc l∧Below w.heap.size w w'
theorem C2v {α:Type} {sh:D1 α} {e:TypeId} {ok:Nat→Prop} {base:Nat} {w:World} {ao:Option Addr} {n cap:Nat} {xs:List α} (h:C7 sh e ok base w ao n cap xs):(∀ k,Go.St.blk ao=some k→¬ok k)∧∀ b,ok b→b<w.heap.size:=by obtain ⟨_,_,_,_,h4,h5⟩:=h;exact ⟨h4,h5⟩
theorem C34 (s:ByteArray) (hs0:s.size≤140737488355328) (w:World):
  Calls Tryz.prog 5 #[.string s] w fun e w'=>C2r w e w':=by
 obtain ⟨i0,gi,gz0,gz1,gz2⟩:=info_parts C0i
 have hb0:=B8j w (.cells #[.int .i64 0,.int .i64 0] 29)
 have hG0:=I6 w 29 #[.int .i64 0,.int .i64 0]
 go_enter Tryz.func5,Tryz.ntmps5
 by_cases hlen:s.size≤2000
 case neg=>
  have c1:(2000:Int)<(s.size:Int):=by omega
  have hBz:=B8j w (.cells #[.int .i64 4,.int .i64 0] 29)
  have hGz:=I6 w 29 #[.int .i64 4,.int .i64 0]
  obtain ⟨f1,f2⟩:=hG0.cells
  obtain ⟨x1,x2⟩:=hGz.cells
  have hfl:=hG0.lt
  go_wp2_with fail
  with_reducible refine bodyPost_ret (v:=.tuple #[.slice none 0 0,.agg #[.int .i64 4,.int .i64 0]]) ?ra1 ?rb1 ?rc1
  case ra1=>simp [results,Tryz.results5,go_sem,x1]
  case rb1=>rfl
  case rc1=>unfold C2r;exact ⟨[],none,0,4,0,rfl,A8.nil _ _ _ _,hBz⟩
 have c1:¬(2000:Int)<(s.size:Int):=by omega
 have hW2:A6 (((w.alloc (.cells #[.int .i64 0,.int .i64 0] 29))).alloc (.cells #[.string s,.int .i64 0,.bool false] 68)) (w.heap.size+1) 68 #[.string s,.int .i64 ((0:Nat):Int),.bool false]:=A6.new (by simp)
 have hG2:=hG0.alloc (.cells #[.string s,.int .i64 0,.bool false] 68)
 have hb2:Below w.heap.size w (((w.alloc (.cells #[.int .i64 0,.int .i64 0] 29))).alloc (.cells #[.string s,.int .i64 0,.bool false] 68)):=A1t _ _ _
 have hsz2:(((w.alloc (.cells #[.int .i64 0,.int .i64 0] 29))).alloc (.cells #[.string s,.int .i64 0,.bool false] 68)).heap.size=w.heap.size+2:=by simp
 clear hb0 hG0
 go_wp2
 generalize ((w.alloc _).alloc _)=w2 at *
 generalize hfb:w.heap.size=fb at *
 have HFB:=Lib.hid hfb
 clear hfb
 go_loopw [5] (fun ov wr=>∃ (acc:List E0) (oa:Option Addr) (oc q:Nat) (ok:Nat→Prop),ov=.slice oa acc.length oc∧A6 wr (fb+1) 68 #[.string s,.int .i64 (q:Int),.bool false]∧A6 wr fb 29 #[.int .i64 0,.int .i64 0]∧Below fb w wr∧w2.heap.size≤wr.heap.size∧C7 H6 56 ok w2.heap.size wr oa acc.length oc acc∧(∀ b,ok b→w2.heap.size≤b)∧q≤s.size∧acc.length≤q) (fun ov _=>3000 - C2t ov)
 case atStart=>exact ⟨[],none,0,0,fun _=>False,rfl,hW2,hG2,hb2,Nat.le_refl _,C7.nil _ _ _ _ _ (fun _ h=>h.elim),fun _ h=>h.elim,Nat.zero_le _,Nat.le_refl _⟩
 case round=>
  clear hW2 hG2 hb2
  obtain ⟨acc,oa,oc,q,ok,rfl,hr,hG,hb,hsz,hO,hok,hq,haq⟩:=hrel
  rename World=>wo
  obtain ⟨r1,r2⟩:=hr.cells
  have hrl:=hr.lt
  by_cases hlt:q<s.size
  case neg=>
   have b1:¬(q:Int)<(s.size:Int):=by omega
   have hGz:=(hG.set 0 (.int .i64 0)).set 1 (.int .i64 0)
   simp only [St.tS,St.tC,St.tZ] at hGz
   have hBz:=(hb.setCell (p:=⟨fb,0,none⟩) (Nat.le_refl _) (.int .i64 0)).setCell (p:=⟨fb,1,none⟩) (Nat.le_refl _) (.int .i64 0)
   have hOz:=(hO.row (ok':=fun b=>fb<b) (fun b hk=>by have:=hok b hk;omega) (fun k hk=>by have:=(hO.lt k hk).1;omega)).mono (w':=(wo.setCell ⟨fb,0,none⟩ (.int .i64 0)).setCell ⟨fb,1,none⟩ (.int .i64 0)) (ok':=fun b=>fb≤b) (fun b _ hk=>⟨by omega,by rw [Below.heap_setCell _ _ _ _ (show b≠fb by omega),Below.heap_setCell _ _ _ _ (show b≠fb by omega)]⟩)
   obtain ⟨f1,f2⟩:=hG.cells
   obtain ⟨x1,x2⟩:=hGz.cells
   have hfl:=hG.lt
   go_wp2_with fail
   with_reducible refine bodyPost_ret (v:=.tuple #[.slice oa acc.length oc,.agg #[.int .i64 0,.int .i64 0]]) ?ra1 ?rb1 ?rc1
   case ra1=>simp [results,Tryz.results5,go_sem,x1]
   case rb1=>rfl
   case rc1=>unfold C2r;(try rw [HFB.out]);exact ⟨acc,oa,oc,0,0,rfl,hOz,hBz⟩
  have b1:(q:Int)<(s.size:Int):=by omega
  go_wp2_with fail
  refine (C3a s hlen q hq (fb+1) (fb+1) (Nat.le_refl _) wo hr).mono ?_
  rintro e w3 ⟨f,cs,q3,bad,rfl,hfr,hr3,hF3,hq3,hL⟩
  have hG3:=hF3.blk hG (.inr (by omega))
  have hb3:=hb.trans (hF3.below.mono (by omega))
  have hsz3:=hF3.size
  have hO3:=hO.frm hF3 (fun b hk e=>by have:=hok b hk;omega) (fun k hk e=>by have:=(hO.lt k hk).1;omega)
  clear r1 r2 hrl hr hG
  have hOL:=hO.lt
  have hON:=(C2v hO).1
  have hO4:C7 H6 56 (fun b=>ok b∨(wo.heap.size≤b∧b<w3.heap.size)) w2.heap.size w3 oa acc.length oc acc:=hO3.weaken (fun b h=>.inl h) (fun k hk h=>by
   rcases h with h|h
   ·exact hON k hk h
   ·have:=(hOL k hk).2;omega) (fun b h=>by
   rcases h with h|h
   ·have:=(C2v hO3).2 b h;exact this
   ·exact h.2)
  obtain ⟨va,vc,na,nc,rfl,hI1,hI2,hvia,hno⟩:=hfr
  clear hO hO3 hOL hON
  go_upto_region 8 with fail
  have hx:=B8j w3 (.cells #[.int .i64 f.src,.int .i64 f.dst,.slice va f.via.length vc,.slice na f.no.length nc] 56)
  have hf5:=I6 w3 56 #[.int .i64 f.src,.int .i64 f.dst,.slice va f.via.length vc,.slice na f.no.length nc]
  have hr5:=hr3.under hx
  have hG5:=hG3.under hx
  have hb5:=hb3.trans (hx.mono (by omega))
  have hz5:=hx.size
  have hO5:=hO4.below hx
  have hvia5:=(hvia.anyOk (ok':=fun b=>ok b∨(wo.heap.size≤b∧b<w3.heap.size)) (fun b hl hk=>.inr ⟨hk,hl⟩)).below hx
  have hno5:=(hno.anyOk (ok':=fun b=>ok b∨(wo.heap.size≤b∧b<w3.heap.size)) (fun b hl hk=>.inr ⟨hk,hl⟩)).below hx
  clear hr3 hG3 hb3 hx hO4 hvia hno
  generalize w3.alloc _=w5 at *
  generalize w3.heap.size=xb at *
  obtain ⟨r1,r2⟩:=hr5.cells
  have hrl:=hr5.lt
  cases bad with
  |true=>
   have hGz:=(hG5.set 0 (.int .i64 2)).set 1 (.int .i64 (q:Int))
   simp only [St.tS,St.tC,St.tZ] at hGz
   have hBz:=(hb5.setCell (p:=⟨fb,0,none⟩) (Nat.le_refl _) (.int .i64 2)).setCell (p:=⟨fb,1,none⟩) (Nat.le_refl _) (.int .i64 (q:Int))
   obtain ⟨f1,f2⟩:=hG5.cells
   obtain ⟨x1,x2⟩:=hGz.cells
   have hfl:=hG5.lt
   go_wp2_with fail
   with_reducible refine bodyPost_ret (v:=.tuple #[.slice none 0 0,.agg #[.int .i64 2,.int .i64 (q:Int)]]) ?ra1 ?rb1 ?rc1
   case ra1=>simp [results,Tryz.results5,go_sem,x1]
   case rb1=>rfl
   case rc1=>unfold C2r;(try rw [HFB.out]);exact ⟨[],none,0,2,q,rfl,A8.nil _ _ _ _,hBz⟩
  |false=>
   have hqq:q<q3:=hL rfl
   have hx:=B8j w5 (.cells #[.int .i64 f.src,.int .i64 f.dst,.slice va f.via.length vc,.slice na f.no.length nc] 56)
   have hE:=I6 w5 56 #[.int .i64 f.src,.int .i64 f.dst,.slice va f.via.length vc,.slice na f.no.length nc]
   have hr6:=hr5.under hx
   have hG6:=hG5.under hx
   have hb6:=hb5.trans (hx.mono (by omega))
   have hO6:=hO5.below hx
   have hz6:w2.heap.size≤(w5.alloc (.cells #[.int .i64 f.src,.int .i64 f.dst,.slice va f.via.length vc,.slice na f.no.length nc] 56)).heap.size:=by have:=hx.size;omega
   have hsrc:=C2w (sh:=H6) (ok:=fun b=>ok b∨(wo.heap.size≤b∧b<xb)) (x:=f) hE ⟨va,vc,na,nc,rfl,hI1,hI2,hvia5.below hx,hno5.below hx⟩
   obtain ⟨f1,f2⟩:=hf5.cells
   have hfl:=hf5.lt
   clear hL hE hx hr5 hG5 hb5 hO5
   go_wp2_with (at_builtin;go_must (refine H4 (sh:=H6) (n:=acc.length) (m:=1) rfl _ _ 26 rfl 56 i0 (.agg #[.int .i64 0,.int .i64 0,.slice none 0 0,.slice none 0 0]) 64 Tryz.underlying26 gi gz0 gz1 gz2 rfl (by decide) rfl hO6 rfl rfl hsrc (by simp only [maxLen];omega) (by omega) hz6 ?_);go_must (intro oa4 oc4 w8 hO8 hg8 hd8))
   case roundEnd=>
    have h8:=hr6.grown hg8 (fun e=>by have:=(hO6.lt _ e.symm).1;omega)
    have hG8:=hG6.grown hg8 (fun e=>by have:=(hO6.lt _ e.symm).1;omega)
    have hb8:=hb6.trans (D6 hg8 (fun k hk=>by have:=(hO6.lt k hk).1;omega) (by omega))
    have hz8:=(D6 hg8 (B:=0) (fun k hk=>Nat.zero_le _) (Nat.zero_le _)).size
    have hl8:(acc++[f]).length=acc.length+1:=by simp
    go_roundw
    case rel=>exact ⟨acc++[f],oa4,oc4,q3,fun b=>ok b∨(wo.heap.size≤b∧b<xb),by rw [hl8],h8,hG8,hb8,by omega,by rw [hl8];exact hO8,fun b hk=>by
     rcases hk with hk|hk
     ·exact hok b hk
     ·omega,hq3,by rw [hl8];omega⟩
    case measure=>simp [C2t]<;>omega
end Go.Proofs.YtampcbncgofkoaaGreatDoor
