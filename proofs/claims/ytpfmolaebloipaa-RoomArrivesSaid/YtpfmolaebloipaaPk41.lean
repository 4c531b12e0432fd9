/- Texts of this proof, one behind the other. -/
import Derived.Test.YtpfmolaebloipaaPk40
set_option linter.unusedSimpArgs false
set_option linter.unusedVariables false
set_option maxRecDepth 100000
set_option maxHeartbeats 16000000
namespace Go.Proofs.Ytpfmolaebloipaa
open Go.RowKit Go.St
theorem B4o (w:World) (l:List F5) (c0 c1 c2 c3 c4 c5 c6 c7 c8 c9 c10 c11 c12:Value) (pl:Option Addr) (lc:Nat) (ok:Nat→Prop) (h:A8 C3 ok w pl lc l) (v:Int) (j:Nat) (p:F5) (hj:l[j]? =some p) (hv:p.ver=v) (hup:∀ (i:Nat) (q:F5),l[i]? =some q→q.ver=i+1):
  Calls Try.prog 14 #[.agg #[c0,c1,c2,c3,c4,c5,c6,c7,c8,c9,c10,c11,c12,.slice pl l.length lc],.int .i64 v] w fun e w'=>∃ fa fc pa pc,e=.returned (.tuple #[.agg #[.int .i64 p.ver,.slice fa p.flows.length fc,.slice pa p.paths.length pc],.bool true])∧I64 p.ver∧A8 H6 (fun _=>True) w' fa fc p.flows∧A8 (F7 C2) (fun _=>True) w' pa pc p.paths∧Below w.heap.size w w':=by
 have hlx:=h.len_le
 have hB0:Below w.heap.size w ((w.alloc (.cells #[c0,c1,c2,c3,c4,c5,c6,c7,c8,c9,c10,c11,c12,.slice pl l.length lc] 40)).alloc (.cells #[.int .i64 0,.slice none 0 0,.slice none 0 0] 30)):=A1t _ _ _
 have hW0:A6 ((w.alloc (.cells #[c0,c1,c2,c3,c4,c5,c6,c7,c8,c9,c10,c11,c12,.slice pl l.length lc] 40)).alloc (.cells #[.int .i64 0,.slice none 0 0,.slice none 0 0] 30)) w.heap.size 40 #[c0,c1,c2,c3,c4,c5,c6,c7,c8,c9,c10,c11,c12,.slice pl l.length lc]:=(A6.new rfl).alloc _
 have hX0:A6 ((w.alloc (.cells #[c0,c1,c2,c3,c4,c5,c6,c7,c8,c9,c10,c11,c12,.slice pl l.length lc] 40)).alloc (.cells #[.int .i64 0,.slice none 0 0,.slice none 0 0] 30)) (w.heap.size+1) 30 #[.int .i64 0,.slice none 0 0,.slice none 0 0]:=A6.new (by simp)
 obtain ⟨x1,x2⟩:=hW0.cells
 have hjl:=(List.getElem?_eq_some_iff.1 hj).1
 have HJV:=Lib.hid (hup j p hj)
 have HV:=Lib.hid hv
 clear hv
 have HUP:=Lib.hid hup
 have h0:=h.anyOk (ok':=fun b=>b<w.heap.size) (fun b hb _=>hb)
 clear hup h
 go_enter Try.func14,Try.ntmps14
 go_upto_region 1 with fail
 generalize ((w.alloc (.cells #[c0,c1,c2,c3,c4,c5,c6,c7,c8,c9,c10,c11,c12,.slice pl l.length lc] 40)).alloc (.cells #[.int .i64 0,.slice none 0 0,.slice none 0 0] 30))=w0 at *
 have hwl:=hW0.lt
 go_wp2
 clear x1 x2
 go_loopw [11] (fun idx wr=>∃ i:Nat,idx=.int .i64 i∧i≤j∧A6 wr (w.heap.size+1) 30 #[.int .i64 0,.slice none 0 0,.slice none 0 0]∧Below w.heap.size w wr) (fun idx _=>l.length - (intOf idx).toNat)
 case atStart=>exact ⟨0,rfl,Nat.zero_le _,hX0,hB0⟩
 case round=>
  clear hW0 hX0 hB0
  obtain ⟨i,rfl,hi,hX,hB⟩:=hrel
  rename World=>wo
  have b1:(i:Int)<(l.length:Int):=by omega
  have b0:(0:Int)≤(i:Int):=by omega
  obtain ⟨q,hqi⟩:∃ q,l[i]? =some q:=⟨_,List.getElem?_eq_getElem (by omega)⟩
  have HQV:=Lib.hid (HUP.out i q hqi)
  obtain ⟨pg,po,rfl,_,hpg,cs,⟨ra,rc,qa,qc,rfl,hvI,hfl,hps⟩,hce⟩:=(h0.below hB).get hqi
  have e0:=hce 0 _ rfl
  have e1:=hce 1 _ rfl
  have e2:=hce 2 _ rfl
  rw [show C3.size=3 from rfl,Nat.add_zero] at e0
  rw [show C3.size=3 from rfl] at e1 e2
  have hY:=I6 wo 30 #[.int .i64 q.ver,.slice ra q.flows.length rc,.slice qa q.paths.length qc]
  have hbx:=G8 wo (.cells #[.int .i64 q.ver,.slice ra q.flows.length rc,.slice qa q.paths.length qc] 30)
  have hB9:=hB.trans (hbx.mono hB.size)
  have hX9:=hX.under hbx
  have hfl9:=hfl.below hbx
  have hps9:=hps.below hbx
  have hne:wo.heap.size≠w.heap.size+1:=by have:=hX.lt;omega
  clear hce hfl hps hX
  go_upto_region 4 with fail
  clear e0 e1 e2
  generalize wo.alloc _=w9 at *
  generalize wo.heap.size=xb at *
  obtain ⟨z1,z2⟩:=hY.cells
  have hyl:=hY.lt
  by_cases hij:i=j
  case neg=>
   have c1:(q.ver==v)=false:=by rw [beq_eq_false_iff_ne];have:=HQV.out;have:=HJV.out;have:=HV.out;omega
   clear hfl9 hps9 hqi hY
   go_wp2
   case roundEnd=>
    go_roundw
    case rel=>exact ⟨i+1,by go_num,by omega,hX9,hB9⟩
    case measure=>simp [intOf]<;>omega
  subst hij
  rw [hj] at hqi
  obtain rfl:p=q:=by simpa using hqi
  have c1:(p.ver==v)=true:=by rw [beq_iff_eq];exact HV.out
  obtain ⟨y1,y2⟩:=hX9.cells
  have hxl:=hX9.lt
  have hXz:=((hX9.set 0 (.int .i64 p.ver)).set 1 (.slice ra p.flows.length rc)).set 2 (.slice qa p.paths.length qc)
  simp only [St.tS,St.tC,St.tZ] at hXz
  have hFz:Frm (fun b=>b≠w.heap.size+1) w.heap.size w9 (((w9.setCell ⟨w.heap.size+1,0,none⟩ (.int .i64 p.ver)).setCell ⟨w.heap.size+1,1,none⟩ (.slice ra p.flows.length rc)).setCell ⟨w.heap.size+1,2,none⟩ (.slice qa p.paths.length qc)):=
   ((Frm.set (a:=⟨w.heap.size+1,0,none⟩) (fun h=>h rfl) (by show w.heap.size≤w.heap.size+1;omega) _).trans (Frm.set (a:=⟨w.heap.size+1,1,none⟩) (fun h=>h rfl) (by show w.heap.size≤w.heap.size+1;omega) _)).trans (Frm.set (a:=⟨w.heap.size+1,2,none⟩) (fun h=>h rfl) (by show w.heap.size≤w.heap.size+1;omega) _)
  obtain ⟨k1,k2⟩:=hXz.cells
  have hf1:=(hFz.row' hfl9 (fun b hb=>.inl (by omega))).anyOk (ok':=fun _=>True) (fun _ _ _=>trivial)
  have hf2:=(hFz.row' hps9 (fun b hb=>.inl (by omega))).anyOk (ok':=fun _=>True) (fun _ _ _=>trivial)
  have HF1:=Lib.hid hf1
  have HF2:=Lib.hid hf2
  have HB:=Lib.hid (hB9.trans hFz.below)
  clear hXz hFz hfl9 hps9 hX9 hB9 hf1 hf2 hY
  go_wp2_with ((with_reducible refine bodyPost_ret (v:=.tuple #[.agg #[.int .i64 p.ver,.slice ra p.flows.length rc,.slice qa p.paths.length qc],.bool true]) ?ra1 ?rb1 ?rc1);go_must (case ra1=>simp [results,Try.results14,go_sem,k1]);go_must (case rb1=>rfl);go_must (case rc1=>exact ⟨ra,rc,qa,qc,rfl,hvI,HF1.out,HF2.out,HB.out⟩))
end Go.Proofs.Ytpfmolaebloipaa
