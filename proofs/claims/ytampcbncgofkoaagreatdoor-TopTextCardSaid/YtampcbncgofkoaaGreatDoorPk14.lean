/- Texts of this proof, one behind the other. -/
import Derived.Test.YtampcbncgofkoaaGreatDoorRows
import Derived.Test.YtampcbncgofkoaaGreatDoorPk13
set_option linter.unusedSimpArgs false
set_option linter.unusedVariables false
set_option maxRecDepth 100000
set_option maxHeartbeats 16000000
namespace Go.St
open Go.RowKit Go.Deep Go.ChangeShapes Go.WideShapes
theorem A98 {P:Program} {t i ls:TypeId} {f0 f1:Field} (ht:P.underlying t=some (.struct #[f0,f1])) (hc:P.cellsOf t=2) (hi:O2 P i C2) (hl:O2 P ls (F7 A0e))
  (t0:f0.type=i∧f0.offset=0) (t1:f1.type=ls∧f1.offset=1):O2 P t I5 where
 size:=by rw [hc];rfl
 pos:=by decide
 op h:=by
  obtain ⟨xs,n,_,rfl,hlen',hlen,hf⟩:=DataW.trod_struct ht h
  rename_i cs _
  rw [hc] at hlen'
  match cs,hlen',xs,hlen with
  |[v0,v1],_,[x0,x1],_=>
   have h0:=hf 0 f0 rfl
   have h1:=hf 1 f1 rfl
   rw [t0.1,t0.2,hi.size] at h0
   rw [t1.1,t1.2,hl.size] at h1
   obtain ⟨a,ha,ia⟩:=hi.op h0
   obtain ⟨rr,ra,rc,hr1,hr2⟩:=hl.row h1
   simp [C2,F7] at ha hr1
   subst ha;subst hr1
   exact ⟨⟨a,rr⟩,ra,rc,rfl,ia,hr2⟩
end Go.St
namespace Go.Proofs.YtampcbncgofkoaaGreatDoor
open Go.RowKit Go.St Go.ChangeShapes Go.WideShapes
theorem A86:O2 Tryz.prog 3 C2:=B0x Tryz.underlying3 (by kernel_rfl)
theorem B4z:O2 Tryz.prog 87 A0e:=A90 Tryz.underlying87 (by kernel_rfl) A86 ⟨rfl,rfl⟩ ⟨rfl,rfl⟩ ⟨rfl,rfl⟩ rfl (fun a b c w ia ib ic=>⟨⟨a,b,c⟩,rfl,ia,ib,ic⟩)
theorem B3r:O2 Tryz.prog 22 (F7 A0e):=B4z.slice Tryz.underlying22 (by kernel_rfl)
theorem A4j:O2 Tryz.prog 24 I5:=A98 Tryz.underlying24 (by kernel_rfl) A86 B3r ⟨rfl,rfl⟩ ⟨rfl,rfl⟩
end Go.Proofs.YtampcbncgofkoaaGreatDoor
