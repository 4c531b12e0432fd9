/- Texts of this proof, one behind the other. -/
import Derived.Test.YtpfmolaebloipaaRows
import Derived.Test.YtpfmolaebloipaaPk11
set_option linter.unusedSimpArgs false
set_option linter.unusedVariables false
set_option maxRecDepth 100000
set_option maxHeartbeats 16000000
namespace Go.St
open Go.RowKit Go.Deep Go.ChangeShapes Go.WideShapes
theorem A98 {P:Program} {t i ls:TypeId} {f0 f1:Field} (ht:P.underlying t=some (.struct #[f0,f1])) (hc:P.cellsOf t=2) (hi:O2 P i C2) (hl:O2 P ls (F7 A0e))
  (t0:f0.type=i∧f0.offset=0) (t1:f1.type=ls∧f1.offset=1):O2 P t I5 where
 size:=by rw [hc];rfl
 pos:=by decide
 op h:=by
  obtain ⟨xs,n,_,rfl,hlen',hlen,hf⟩:=DataW.trod_struct ht h
  rename_i cs _
  rw [hc] at hlen'
  match cs,hlen',xs,hlen with
  |[v0,v1],_,[x0,x1],_=>
   have h0:=hf 0 f0 rfl
   have h1:=hf 1 f1 rfl
   rw [t0.1,t0.2,hi.size] at h0
   rw [t1.1,t1.2,hl.size] at h1
   obtain ⟨a,ha,ia⟩:=hi.op h0
   obtain ⟨rr,ra,rc,hr1,hr2⟩:=hl.row h1
   simp [C2,F7] at ha hr1
   subst ha;subst hr1
   exact ⟨⟨a,rr⟩,ra,rc,rfl,ia,hr2⟩
theorem A9j {P:Program} {t i fs:TypeId} {f0 f1 f2 f3:Field} (ht:P.underlying t=some (.struct #[f0,f1,f2,f3])) (hc:P.cellsOf t=4) (hi:O2 P i C2) (hl:O2 P fs (F7 C2))
  (t0:f0.type=i∧f0.offset=0) (t1:f1.type=i∧f1.offset=1) (t2:f2.type=fs∧f2.offset=2) (t3:f3.type=fs∧f3.offset=3):O2 P t H6 where
 size:=by rw [hc];rfl
 pos:=by decide
 op h:=by
  obtain ⟨xs,n,_,rfl,hlen',hlen,hf⟩:=DataW.trod_struct ht h
  rename_i cs _
  rw [hc] at hlen'
  match cs,hlen',xs,hlen with
  |[v0,v1,v2,v3],_,[x0,x1,x2,x3],_=>
   have h0:=hf 0 f0 rfl
   have h1:=hf 1 f1 rfl
   have h2:=hf 2 f2 rfl
   have h3:=hf 3 f3 rfl
   rw [t0.1,t0.2,hi.size] at h0
   rw [t1.1,t1.2,hi.size] at h1
   rw [t2.1,t2.2,hl.size] at h2
   rw [t3.1,t3.2,hl.size] at h3
   obtain ⟨a,ha,ia⟩:=hi.op h0
   obtain ⟨b,hb,ib⟩:=hi.op h1
   obtain ⟨rr,ra,rc,hr1,hr2⟩:=hl.row h2
   obtain ⟨ss,sa,sc,hs1,hs2⟩:=hl.row h3
   simp [C2,F7] at ha hb hr1 hs1
   subst ha;subst hb;subst hr1;subst hs1
   exact ⟨⟨a,b,rr,ss⟩,ra,rc,sa,sc,rfl,ia,ib,hr2,hs2⟩
end Go.St
namespace Go.Proofs.Ytpfmolaebloipaa
open Go.RowKit Go.St Go.ChangeShapes Go.WideShapes
theorem A86:O2 Try.prog 3 C2:=B0x Try.underlying3 (by kernel_rfl)
theorem B5a:O2 Try.prog 31 (F7 C2):=A86.slice Try.underlying31 (by kernel_rfl)
theorem B4z:O2 Try.prog 96 A0e:=A90 Try.underlying96 (by kernel_rfl) A86 ⟨rfl,rfl⟩ ⟨rfl,rfl⟩ ⟨rfl,rfl⟩ rfl (fun a b c w ia ib ic=>⟨⟨a,b,c⟩,rfl,ia,ib,ic⟩)
theorem B3r:O2 Try.prog 22 (F7 A0e):=B4z.slice Try.underlying22 (by kernel_rfl)
theorem A4j:O2 Try.prog 24 I5:=A98 Try.underlying24 (by kernel_rfl) A86 B3r ⟨rfl,rfl⟩ ⟨rfl,rfl⟩
theorem B4w:O2 Try.prog 55 H6:=A9j Try.underlying55 (by kernel_rfl) A86 B5a ⟨rfl,rfl⟩ ⟨rfl,rfl⟩ ⟨rfl,rfl⟩ ⟨rfl,rfl⟩
theorem B4l:O2 Try.prog 27 (F7 H6):=B4w.slice Try.underlying27 (by kernel_rfl)
theorem A24:ownKnob Try.prog.godebug=none:=by kernel_rfl
theorem A0w:laidOutB Try.prog=true:=by kernel_rfl
end Go.Proofs.Ytpfmolaebloipaa
namespace Go.St
open Go.RowKit Go.Deep Go.ChangeShapes Go.WideShapes
theorem B2p {P:Program} {t i fs:TypeId} {f0 f1 f2:Field} (ht:P.underlying t=some (.struct #[f0,f1,f2])) (hc:P.cellsOf t=3) (hi:O2 P i C2) (hl:O2 P fs (F7 H6))
  (t0:f0.type=i∧f0.offset=0) (t1:f1.type=i∧f1.offset=1) (t2:f2.type=fs∧f2.offset=2):O2 P t doS where
 size:=by rw [hc];rfl
 pos:=by decide
 op h:=by
  obtain ⟨xs,n,_,rfl,hlen',hlen,hf⟩:=DataW.trod_struct ht h
  rename_i cs _
  rw [hc] at hlen'
  match cs,hlen',xs,hlen with
  |[v0,v1,v2],_,[x0,x1,x2],_=>
   have h0:=hf 0 f0 rfl
   have h1:=hf 1 f1 rfl
   have h2:=hf 2 f2 rfl
   rw [t0.1,t0.2,hi.size] at h0
   rw [t1.1,t1.2,hi.size] at h1
   rw [t2.1,t2.2,hl.size] at h2
   obtain ⟨a,ha,ia⟩:=hi.op h0
   obtain ⟨b,hb,ib⟩:=hi.op h1
   obtain ⟨rr,ra,rc,hr1,hr2⟩:=hl.row h2
   simp [C2,F7] at ha hb hr1
   subst ha;subst hb;subst hr1
   exact ⟨⟨a,b,rr⟩,ra,rc,rfl,ia,ib,hr2⟩
end Go.St
namespace Go.Proofs.Ytpfmolaebloipaa
open Go.RowKit Go.St Go.ChangeShapes Go.WideShapes
theorem B5u:O2 Try.prog 66 doS:=B2p Try.underlying66 (by kernel_rfl) A86 B4l ⟨rfl,rfl⟩ ⟨rfl,rfl⟩ ⟨rfl,rfl⟩
theorem A8f:O2 Try.prog 25 (F7 doS):=B5u.slice Try.underlying25 (by kernel_rfl)
end Go.Proofs.Ytpfmolaebloipaa
